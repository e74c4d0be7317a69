/- Contracts and plain laws, a part of the proof; no condition of its own. -/
import Derived.Test.YtokjjhidigoodaaGreatS09c
set_option maxHeartbeats 32000000
open List renaming length_cons → yaz, length_nil → yba, take_of_length_le → ybc, drop_append → ybd, take_append → ybe, drop_eq_nil_of_le → ybf
open Go Go.AL Go.Proofs
namespace Go.AL
set_option linter.all false
set_option maxRecDepth 10000
theorem E9:ti Tryz.prog 212=some ⟨.struct [(0,9,false),(1,9,false),(2,48,false)],4,48,.agg [.str [],.str [],.int .u64 0,.int .u64 0]⟩:=by kernel_rfl
theorem DQ:ti Tryz.prog 109=some ⟨.slice 212,1,24,.slice .nil 1 []⟩:=by kernel_rfl
attribute [go_sem] E9 DQ
def z5:List AV→AHeap→(AV→Prop)→Prop
 |[x],_,K=>∃ n,(x=jD n∧1≤n.op∧n.op≤16)∧K (.bool (kp n.op))
 |_,_,_=>False
theorem D7:EntOk Tryz.prog 415 (Ent.pure z5):=by
 refine EntOk.pure fun args H K h=>?_
 unfold z5 at h
 split at h
 rotate_left
 ·exact h.elim
 obtain ⟨n,⟨rfl,h1,h2⟩,hK⟩:=h
 refine ⟨_,hK,?_⟩
 clear hK
 cases hn:kp n.op
 ·have hx:¬ (n.op=1∨n.op=3∨n.op=4∨n.op=6∨n.op=7):=fun h=>by rw [isNum_cases.2 h] at hn;cases hn
  have d1:((n.op:Int)==1)=false:=beq_eq_false_iff_ne.2 (by omega)
  have d3:((n.op:Int)==3)=false:=beq_eq_false_iff_ne.2 (by omega)
  have d4:((n.op:Int)==4)=false:=beq_eq_false_iff_ne.2 (by omega)
  have d6:((n.op:Int)==6)=false:=beq_eq_false_iff_ne.2 (by omega)
  have d7:((n.op:Int)==7)=false:=beq_eq_false_iff_ne.2 (by omega)
  refine ACalls.fW aB TblOk.nil Tryz.func415 [.tmp 2] (Nat.le_refl _) (T:=aA []) (h:=fun hcl hlt=>?_)
  clear hlt
  simp only [go_sem,jD,d1,d3,d4,d6,d7]
  exact Z0
 ·skip
  refine ACalls.fW aB TblOk.nil Tryz.func415 [.tmp 2] (Nat.le_refl _) (T:=aA []) (h:=fun hcl hlt=>?_)
  clear hlt
  have hx:=isNum_cases.1 hn
  rcases (by omega:(n.op:Int)=1∨(n.op:Int)=3∨(n.op:Int)=4∨(n.op:Int)=6∨(n.op:Int)=7) with h|h|h|h|h <;>
  ·simp only [go_sem,jD,h,Int.reduceBEq]
   exact Z0
theorem vT {a:Int} (h : -(2^128*120)≤a∧a≤2^128*120):ep a:=by
 unfold ep
 have:a.natAbs≤2^128*120:=by omega
 exact Nat.lt_of_le_of_lt this (by decide)
def t6 (_A:Prop) (d:Nat):List AV→AHeap→(AV→Prop)→Prop
 |[.slice _ 7 x,.int .i64 i,.slice _ 4 y],_,K=>∃ t e k,(x=nds t∧i=((k:Nat):Int)∧y=aN e∧k<d∧okW t∧vw t∧uQ e∧dH t k=true)∧K (zAV (val e t k).num)
 |_,_,_=>False
theorem Gi {t:List Nd} {k:Nat} (h:dH t k=true):k<t.length:=by
 unfold dH at h
 rcases Nat.lt_or_ge k t.length with h1|h1
 ·exact h1
 ·rw [List.getElem?_eq_none h1] at h;cases h
theorem BG {v:Nat} (h:v<340282366920938463463374607431768211456):kq ((v/2^64:Nat):Int) ((v % 2^64:Nat):Int):=by
 have:v % 2^64<18446744073709551616:=Nat.mod_lt _ (by decide)
 unfold kq;omega
theorem Fi {A:Prop} {d:Nat} (h_gInt:EntOk Tryz.prog 417 (Ent.pure (t6 A d))):EntOk Tryz.prog 417 (Ent.pure (t6 A (d+1))):=by
 refine EntOk.pure fun args H K h=>?_
 unfold t6 at h
 split at h
 rotate_left
 ·exact h.elim
 rename_i m x i m2 y
 obtain ⟨t,e,k,⟨rfl,rfl,rfl,hkd,hW,hT,hb,hN⟩,hK⟩:=h
 have hk:=Gi hN
 have hg:=hW.1
 obtain ⟨g1,g2,g3,g4⟩:=gQ hg hk
 have hve:∀ x∈e,x.2<2^128:=hb.2
 have hsm:∀ {j:Nat},j<t.length→ep (val e t j).num:=fun hj=>vT (xG hve hW hj)
 rw [gt hk] at hN
 have hf:=hT k hk
 have hop:=isNum_cases.1 hN
 have hV:val e t k=h9 e (e9 e t k) t[k]:=qt hk
 have hO:=fun h3 h4 h5=>@sR e t k hk h3 h4 h5
 refine ⟨_,hK,?_⟩
 clear hK
 generalize hR:zAV (val e t k).num=R
 have hgk:=cM hk
 have hz:((((t[k].v/2^64:Nat):Int)*2^64+((t[k].v % 2^64:Nat):Int):Int))=(t[k].v:Int):=by omega
 refine ACalls.fW aB (TblOk.cons Fj (TblOk.cons CB (TblOk.cons sD (TblOk.cons Ct (TblOk.cons A8 (TblOk.cons h_gInt TblOk.nil)))))) Tryz.func417 [.cell 6 454] (Nat.le_refl _) (T:=aA [(8,[[],[],[],[],[2],[],[],[],[],[2,4,7],[2,4,7,9],[2,4,7,9,10]]),(10,[[],[],[],[],[2],[],[],[],[],[2,4,7],[2,4,7,9],[2,4,7,9,10]])]) (h:=fun hcl hlt=>?_)
 have hm:∀ n',H.nx≤n'→AV.lt n' (.slice m 7 (nds t)):=fun n' hn=>AV.lt_mono hn _ (hlt (.slice m 7 (nds t)) (by simp))
 have hm2:∀ n',H.nx≤n'→AV.lt n' (.slice m2 4 (aN e)):=fun n' hn=>AV.lt_mono hn _ (hlt (.slice m2 4 (aN e)) (by simp))
 clear hlt
 rcases hop with c|c|c|c|c
 ·have d1:((t[k].op:Int)==1)=true:=by rw [c];rfl
  have hw:(val e t k).num=t[k].v:=by rw [hV];unfold h9;rw [if_pos c];rfl
  rw [hw] at hR
  subst hR
  simp only [go_sem,aF,hgk,d1,Int.toNat_natCast,su,hz,zAV]
  refine ⟨by omega,BG (by omega),?_⟩
  exact Z0
 ·have d1:((t[k].op:Int)==1)=false:=by rw [c];rfl
  have d4:((t[k].op:Int)==4)=false:=by rw [c];rfl
  have d6:((t[k].op:Int)==6)=false:=by rw [c];rfl
  have d7:((t[k].op:Int)==7)=false:=by rw [c];rfl
  have hw:(val e t k).num=jY e (t[k].name,t[k].attr):=by rw [hV];unfold h9;rw [if_neg (by omega),if_neg (by omega),if_pos c];rfl
  rw [hw] at hR
  obtain ⟨Q,hQ⟩:∃ Q,jY e (t[k].name,t[k].attr)=Q:=⟨_,rfl⟩
  rw [hQ] at hR
  subst hR
  simp only [go_sem,aF,hgk,d1,d4,d6,d7,Int.toNat_natCast,aC]
  refine ⟨by omega,?_⟩
  refine ay (A:=Nat) (fun j=>[(6,.ptr H.nx 0),(7,.ptr (H.nx+1) 0),(55,.slice m2 4 (aN e)),(56,.int .i64 (e.length:Int)),(57,.int .i64 (j:Int))])
   (fun _=>(H.push (.cells [.bool false,.slice .nil 1 []])).push (.cells [.int .i64 (t[k].op:Int),.int .i64 (t[k].a:Int),.int .i64 (t[k].b:Int),.str t[k].name,.str t[k].attr,.int .u64 ((t[k].v/2^64:Nat):Int),.int .u64 ((t[k].v % 2^64:Nat):Int)])) (fun j=>j≤e.length∧jY (e.drop j) (t[k].name,t[k].attr)=Q) (fun j=>e.length - j) 0 ⟨Nat.zero_le _,hQ⟩ ?_ fun j hj=>?_
  ·exact Z40
  obtain ⟨hj,hq⟩:=hj
  simp only [go_sem]
  refine aq (fun hc=>?_) (fun hc=>?_)
  ·have hj1:j<e.length:=by simp at hc;omega
   have e5:IntKind.i64.wrap ((j:Int)+1)=((j+1:Nat):Int):=by rw [wrap_i64]<;>(have:=hb.1;omega)
   have hne:(H.nx+1=H.nx+2)=False:=eq_false (by omega)
   have hv1:e[j].2<340282366920938463463374607431768211456:=hb.2 e[j] (List.getElem_mem hj1)
   have hz2:((((e[j].2/2^64:Nat):Int)*2^64+((e[j].2 % 2^64:Nat):Int):Int))=(e[j].2:Int):=by omega
   rw [List.drop_eq_getElem_cons hj1] at hq
   simp only [go_sem,aC,rH hj1,Int.toNat_natCast,hne,e5]
   refine ⟨by omega,fun h1=>?_,fun h1=>?_⟩
   ·cases h2:(e[j].1.2==t[k].attr)
    ·have hx:¬ (e[j].1=(t[k].name,t[k].attr)):=fun h=>by rw [h] at h2;simp at h2
     rw [show e[j]=(e[j].1,e[j].2) from rfl,iM,if_neg hx] at hq
     simp only [go_sem,h2]
     refine ⟨j+1,⟨by omega,hq⟩,by omega,?_⟩
     exact Z40
    ·have hx:e[j].1=(t[k].name,t[k].attr):=Prod.ext (eq_of_beq h1) (eq_of_beq h2)
     rw [show e[j]=(e[j].1,e[j].2) from rfl,iM,if_pos hx] at hq
     subst hq
     simp only [go_sem,h2,su,hz2,zAV]
     refine ⟨BG hv1,?_⟩
     exact Z0
   ·have hx:¬ (e[j].1=(t[k].name,t[k].attr)):=fun h=>by rw [h] at h1;simp at h1
    rw [show e[j]=(e[j].1,e[j].2) from rfl,iM,if_neg hx] at hq
    refine ⟨j+1,⟨by omega,hq⟩,by omega,?_⟩
    exact Z40
  ·have hj1:j=e.length:=by simp at hc;omega
   subst hj1
   rw [List.drop_length] at hq
   have hq':0=Q:=hq
   subst hq'
   simp only [go_sem,eX,zAV]
   refine ⟨by omega,?_⟩
   exact Z0
 ·have d1:((t[k].op:Int)==1)=false:=by rw [c];rfl
  have d4:((t[k].op:Int)==4)=true:=by rw [c];rfl
  obtain ⟨ga,gb⟩:=g4.resolve_left (by omega)
  have hfa:dH t t[k].a=true:=by simpa [iu,c] using hf
  have hw:(val e t k).num = -(val e t t[k].a).num:=by rw [hO (by omega) ga gb,c];rfl
  rw [hw] at hR
  subst hR
  simp only [go_sem,aF,hgk,d1,d4,Int.toNat_natCast]
  refine ⟨by omega,t,e,t[k].a,⟨rfl,rfl,rfl,by omega,hW,hT,hb,hfa⟩,?_⟩
  simp only [go_sem]
  refine ⟨(val e t t[k].a).num,⟨rfl,hsm (by omega)⟩,?_⟩
  simp only [go_sem,zAV]
  exact Z0
 ·have d1:((t[k].op:Int)==1)=false:=by rw [c];rfl
  have d4:((t[k].op:Int)==4)=false:=by rw [c];rfl
  have d6:((t[k].op:Int)==6)=true:=by rw [c];rfl
  obtain ⟨ga,gb⟩:=g4.resolve_left (by omega)
  obtain ⟨hfa,hfb⟩:dH t t[k].a=true∧dH t t[k].b=true:=by simpa [iu,c] using hf
  have hw:(val e t k).num=(val e t t[k].a).num+(val e t t[k].b).num:=by rw [hO (by omega) ga gb,c];rfl
  rw [hw] at hR
  subst hR
  simp only [go_sem,aF,hgk,d1,d4,d6,Int.toNat_natCast]
  refine ⟨by omega,t,e,t[k].a,⟨rfl,rfl,rfl,by omega,hW,hT,hb,hfa⟩,?_⟩
  simp only [go_sem]
  refine ⟨t,e,t[k].b,⟨rfl,rfl,rfl,by omega,hW,hT,hb,hfb⟩,?_⟩
  simp only [go_sem]
  refine ⟨(val e t t[k].a).num,(val e t t[k].b).num,⟨rfl,rfl,hsm (by omega),hsm (by omega)⟩,?_⟩
  simp only [go_sem,zAV]
  exact Z0
 ·have d1:((t[k].op:Int)==1)=false:=by rw [c];rfl
  have d4:((t[k].op:Int)==4)=false:=by rw [c];rfl
  have d6:((t[k].op:Int)==6)=false:=by rw [c];rfl
  have d7:((t[k].op:Int)==7)=true:=by rw [c];rfl
  obtain ⟨ga,gb⟩:=g4.resolve_left (by omega)
  obtain ⟨hfa,hfb⟩:dH t t[k].a=true∧dH t t[k].b=true:=by simpa [iu,c] using hf
  have hw:(val e t k).num=(val e t t[k].a).num - (val e t t[k].b).num:=by rw [hO (by omega) ga gb,c];rfl
  rw [hw] at hR
  subst hR
  simp only [go_sem,aF,hgk,d1,d4,d6,d7,Int.toNat_natCast]
  refine ⟨by omega,t,e,t[k].a,⟨rfl,rfl,rfl,by omega,hW,hT,hb,hfa⟩,?_⟩
  simp only [go_sem]
  refine ⟨t,e,t[k].b,⟨rfl,rfl,rfl,by omega,hW,hT,hb,hfb⟩,?_⟩
  simp only [go_sem]
  refine ⟨(val e t t[k].a).num,(val e t t[k].b).num,⟨rfl,rfl,hsm (by omega),hsm (by omega)⟩,?_⟩
  simp only [go_sem,zAV]
  exact Z0
theorem B3 (A:Prop):∀ d,EntOk Tryz.prog 417 (Ent.pure (t6 A d))
 |0=>by
  refine EntOk.pure fun args H K h=>?_
  unfold t6 at h
  split at h
  ·obtain ⟨t,e,k,⟨_,_,_,h0,_⟩,_⟩:=h;omega
  ·exact h.elim
 |d+1=>Fi (B3 A d)
end Go.AL
open Go Go.AL Go.Proofs
namespace Go.AL
set_option linter.all false
set_option maxRecDepth 10000
def vr (n:Nd):Prop:=n.op=2→n.v≤1
theorem cz {a b:Int}:(if a=b then (0:Int) else if a<b then -1 else 1)=jm a b:=rfl
theorem zw {a b:Int}:(jm a b==0)=decide (a=b):=by
 rw [Bool.eq_iff_iff,beq_iff_eq,decide_eq_true_eq];unfold jm;split<;>(try split)<;>simp<;>omega
theorem FA {a b:Int}:(jm a b != 0)=!decide (a=b):=by
 show (!(jm a b==0))=_
 rw [zw]
theorem Js {b:Bool}:(b != true)=!b:=by cases b<;>rfl
def tc (_A:Prop) (d:Nat):List AV→AHeap→(AV→Prop)→Prop
 |[.slice _ 7 x,.int .i64 i,.slice _ 4 y],_,K=>∃ t e k,(x=nds t∧i=((k:Nat):Int)∧y=aN e∧k<t.length∧k<d∧okW t∧vw t∧uQ e∧AllN vr t∧dH t k=false)∧K (.bool (val e t k).bo)
 |_,_,_=>False
theorem BQ {e:List (VN × Nat)} {t:List Nd} (hg:Good t) {j:Nat} (h:j<t.length) (hn:dH t j=true):val e t j=.i (val e t j).num:=by
 have:=Cq (e:=e) hg h
 rw [gt h] at hn
 rw [hn] at this
 cases hv:val e t j with
 |i z=>rfl
 |b x=>rw [hv] at this;cases this
theorem CD {e:List (VN × Nat)} {t:List Nd} (hg:Good t) {j:Nat} (h:j<t.length) (hn:dH t j=false):val e t j=.b (val e t j).bo:=by
 have:=Cq (e:=e) hg h
 rw [gt h] at hn
 rw [hn] at this
 cases hv:val e t j with
 |i z=>rw [hv] at this;cases this
 |b x=>rfl
theorem Gt {A:Prop} {d:Nat} (h_gTru:EntOk Tryz.prog 294 (Ent.pure (tc A d))):EntOk Tryz.prog 294 (Ent.pure (tc A (d+1))):=by
 refine EntOk.pure fun args H K h=>?_
 unfold tc at h
 split at h
 rotate_left
 ·exact h.elim
 rename_i m x i m2 y
 obtain ⟨t,e,k,⟨rfl,rfl,rfl,hk,hkd,hW,hT,hb,hB,hN⟩,hK⟩:=h
 have hg:=hW.1
 obtain ⟨g1,g2,g3,g4⟩:=gQ hg hk
 have hve:∀ x∈e,x.2<2^128:=hb.2
 have hsm:∀ {j:Nat},j<t.length→ep (val e t j).num:=fun hj=>vT (xG hve hW hj)
 have hf:=hT k hk
 have hV:val e t k=h9 e (e9 e t k) t[k]:=qt hk
 have hO:=fun h3 h4 h5=>@sR e t k hk h3 h4 h5
 have hnA:=gt hk
 rw [hN] at hnA
 have h_gInt:=B3 A d
 refine ⟨_,hK,?_⟩
 clear hK
 generalize hR:(val e t k).bo=R
 have hgk:=cM hk
 have hx:¬ (t[k].op=1∨t[k].op=3∨t[k].op=4∨t[k].op=6∨t[k].op=7):=fun h=>by rw [isNum_cases.2 h] at hnA;cases hnA
 refine ACalls.fW aB (TblOk.cons D7 (TblOk.cons Cb (TblOk.cons h_gInt (TblOk.cons h_gTru TblOk.nil)))) Tryz.func294 [.tmp 6] (Nat.le_refl _) (T:=aA [(14,[[],[],[],[],[2],[],[],[],[],[2,4,7]]),(15,[[],[],[],[],[2],[],[],[],[],[2,4,7],[2,4,7,9]])]) (h:=fun hcl hlt=>?_)
 have hm:∀ n',H.nx≤n'→AV.lt n' (.slice m 7 (nds t)):=fun n' hn=>AV.lt_mono hn _ (hlt (.slice m 7 (nds t)) (by simp))
 have hm2:∀ n',H.nx≤n'→AV.lt n' (.slice m2 4 (aN e)):=fun n' hn=>AV.lt_mono hn _ (hlt (.slice m2 4 (aN e)) (by simp))
 clear hlt
 have d2':t[k].op≠2→((t[k].op:Int)==2)=false:=fun h=>beq_eq_false_iff_ne.2 (by omega)
 have d5':t[k].op≠5→((t[k].op:Int)==5)=false:=fun h=>beq_eq_false_iff_ne.2 (by omega)
 have d14':t[k].op≠14→((t[k].op:Int)==14)=false:=fun h=>beq_eq_false_iff_ne.2 (by omega)
 have d15':t[k].op≠15→((t[k].op:Int)==15)=false:=fun h=>beq_eq_false_iff_ne.2 (by omega)
 have d16':t[k].op≠16→((t[k].op:Int)==16)=false:=fun h=>beq_eq_false_iff_ne.2 (by omega)
 by_cases c2:t[k].op=2
 ·have d2:((t[k].op:Int)==2)=true:=by rw [c2];rfl
  have hvq:(((t[k].v/2^64:Nat):Int)==0&&((t[k].v % 2^64:Nat):Int)==0)=decide (t[k].v=0):=by
   rw [Bool.eq_iff_iff];simp only [Bool.and_eq_true,beq_iff_eq,decide_eq_true_eq];omega
  have hv0:=hB t[k] (List.getElem_mem hk) c2
  have hv1:(!decide (t[k].v=0))=decide (t[k].v=1):=by
   rw [Bool.eq_iff_iff];simp;omega
  have hw:(val e t k).bo=decide (t[k].v=1):=by rw [hV];unfold h9;rw [if_neg (by omega),if_pos c2];rfl
  rw [hw] at hR
  subst hR
  simp only [go_sem,aF,hgk,d2,Int.toNat_natCast,yQ,yP,Bool.bne_false,Bool.and_true,hvq,Js,hv1]
  refine ⟨by omega,?_⟩
  exact Z0
 have d2:=d2' c2
 by_cases c5:t[k].op=5
 ·have d5:((t[k].op:Int)==5)=true:=by rw [c5];rfl
  obtain ⟨ga,gb⟩:=g4.resolve_left (by omega)
  have hfa:dH t t[k].a=false:=by simpa [iu,c5] using hf
  have hw:(val e t k).bo=!(val e t t[k].a).bo:=by rw [hO (by omega) ga gb,c5];rfl
  rw [hw] at hR
  subst hR
  simp only [go_sem,aF,hgk,d2,d5,Int.toNat_natCast]
  refine ⟨by omega,t,e,t[k].a,⟨rfl,rfl,rfl,by omega,by omega,hW,hT,hb,hB,hfa⟩,?_⟩
  simp only [go_sem]
  exact Z0
 have d5:=d5' c5
 by_cases c14:t[k].op=14
 ·have d14:((t[k].op:Int)==14)=true:=by rw [c14];rfl
  obtain ⟨ga,gb⟩:=g4.resolve_left (by omega)
  obtain ⟨hfa,hfb⟩:dH t t[k].a=false∧dH t t[k].b=false:=by simpa [iu,c14] using hf
  have hw:(val e t k).bo=((val e t t[k].a).bo&&(val e t t[k].b).bo):=by rw [hO (by omega) ga gb,c14];rfl
  rw [hw] at hR
  subst hR
  simp only [go_sem,aF,hgk,d2,d5,d14,Int.toNat_natCast]
  refine ⟨by omega,t,e,t[k].a,⟨rfl,rfl,rfl,by omega,by omega,hW,hT,hb,hB,hfa⟩,?_⟩
  simp only [go_sem]
  refine ⟨fun hx1=>⟨t,e,t[k].b,⟨rfl,rfl,rfl,by omega,by omega,hW,hT,hb,hB,hfb⟩,?_⟩,fun hx1=>?_⟩
  ·simp only [go_sem]
   exact Z52
  ·exact Z52
 have d14:=d14' c14
 by_cases c15:t[k].op=15
 ·have d15:((t[k].op:Int)==15)=true:=by rw [c15];rfl
  obtain ⟨ga,gb⟩:=g4.resolve_left (by omega)
  obtain ⟨hfa,hfb⟩:dH t t[k].a=false∧dH t t[k].b=false:=by simpa [iu,c15] using hf
  have hw:(val e t k).bo=((val e t t[k].a).bo||(val e t t[k].b).bo):=by rw [hO (by omega) ga gb,c15];rfl
  rw [hw] at hR
  subst hR
  simp only [go_sem,aF,hgk,d2,d5,d14,d15,Int.toNat_natCast]
  refine ⟨by omega,t,e,t[k].a,⟨rfl,rfl,rfl,by omega,by omega,hW,hT,hb,hB,hfa⟩,?_⟩
  simp only [go_sem]
  refine ⟨fun hx1=>?_,fun hx1=>⟨t,e,t[k].b,⟨rfl,rfl,rfl,by omega,by omega,hW,hT,hb,hB,hfb⟩,?_⟩⟩
  ·exact Z52
  ·simp only [go_sem]
   exact Z52
 have d15:=d15' c15
 by_cases c16:t[k].op=16
 ·have d16:((t[k].op:Int)==16)=true:=by rw [c16];rfl
  obtain ⟨ga,gb⟩:=g4.resolve_left (by omega)
  obtain ⟨hfa,hfb⟩:dH t t[k].a=false∧dH t t[k].b=false:=by simpa [iu,c16] using hf
  have hw:(val e t k).bo=(!(val e t t[k].a).bo||(val e t t[k].b).bo):=by rw [hO (by omega) ga gb,c16];rfl
  rw [hw] at hR
  subst hR
  simp only [go_sem,aF,hgk,d2,d5,d14,d15,d16,Int.toNat_natCast]
  refine ⟨by omega,t,e,t[k].a,⟨rfl,rfl,rfl,by omega,by omega,hW,hT,hb,hB,hfa⟩,?_⟩
  simp only [go_sem]
  refine ⟨fun hx1=>?_,fun hx1=>⟨t,e,t[k].b,⟨rfl,rfl,rfl,by omega,by omega,hW,hT,hb,hB,hfb⟩,?_⟩⟩
  ·exact Z52
  ·simp only [go_sem]
   exact Z52
 have d16:=d16' c16
 have h3:3<t[k].op:=by omega
 obtain ⟨ga,gb⟩:=g4.resolve_left (by omega)
 have hka:t[k].a<t.length:=by omega
 have hkb:t[k].b<t.length:=by omega
 obtain ⟨a1,a2,_⟩:=gQ hg hka
 have hga:=cM hka
 have hna:=gt hka
 have hz:(val e t k).bo=(opV t[k].op (val e t t[k].a) (val e t t[k].b)).bo:=by rw [hO h3 ga gb]
 rw [hz] at hR
 simp only [go_sem,aF,hgk,hga,d2,d5,d14,d15,d16,Int.toNat_natCast]
 refine ⟨by omega,by omega,t[t[k].a],⟨rfl,a1,a2⟩,?_⟩
 cases hAn:kp t[t[k].a].op
 ·rw [hAn] at hna
  have h89:t[k].op=8∨t[k].op=9:=by
   by_cases h:t[k].op=8∨t[k].op=9
   ·exact h
   ·exfalso
    unfold iu at hf
    rw [if_neg (by omega),if_neg (by omega),if_neg (by omega),if_neg h,if_neg (by omega),hna] at hf
    cases hf
  have hnb:dH t t[k].b=false:=by
   unfold iu at hf
   rw [if_neg (by omega),if_neg (by omega),if_neg (by omega),if_pos h89,hna] at hf
   simpa using hf
  have hva:=CD (e:=e) hg hka hna
  have hvb:=CD (e:=e) hg hkb hnb
  have hR2:R=(((val e t t[k].a).bo==(val e t t[k].b).bo)==decide (t[k].op=8)):=by
   rw [← hR,hva,hvb]
   generalize (val e t t[k].a).bo=X
   generalize (val e t t[k].b).bo=Y
   rcases h89 with h|h<;>rw [h]
   ·show (X==Y)=_
    cases X<;>cases Y<;>rfl
   ·show (!(X==Y))=_
    cases X<;>cases Y<;>rfl
  have d8:((t[k].op:Int)==8)=decide (t[k].op=8):=by
   rw [Bool.eq_iff_iff,beq_iff_eq,decide_eq_true_eq];omega
  simp only [go_sem]
  refine ⟨t,e,t[k].a,⟨rfl,rfl,rfl,by omega,by omega,hW,hT,hb,hB,hna⟩,?_⟩
  simp only [go_sem]
  refine ⟨t,e,t[k].b,⟨rfl,rfl,rfl,by omega,by omega,hW,hT,hb,hB,hnb⟩,?_⟩
  simp only [go_sem,d8,Bool.bne_false]
  rw [hR2]
  exact Z0
 ·rw [hAn] at hna
  have hnb:dH t t[k].b=true:=by
   unfold iu at hf
   rw [if_neg (by omega),if_neg (by omega),if_neg (by omega),hna] at hf
   by_cases h:t[k].op=8∨t[k].op=9
   ·rw [if_pos h] at hf;simpa using hf
   ·rw [if_neg h,if_neg (by omega)] at hf;simpa using hf
  have hva:=BQ (e:=e) hg hka hna
  have hvb:=BQ (e:=e) hg hkb hnb
  simp only [go_sem]
  refine ⟨t,e,t[k].a,⟨rfl,rfl,rfl,by omega,hW,hT,hb,hna⟩,?_⟩
  simp only [go_sem]
  refine ⟨t,e,t[k].b,⟨rfl,rfl,rfl,by omega,hW,hT,hb,hnb⟩,?_⟩
  simp only [go_sem]
  refine ⟨(val e t t[k].a).num,(val e t t[k].b).num,⟨rfl,rfl,hsm hka,hsm hkb⟩,?_⟩
  rw [hva,hvb] at hR
  generalize (val e t t[k].a).num=X at *
  generalize (val e t t[k].b).num=Y at *
  rcases (by omega:t[k].op=8∨t[k].op=9∨t[k].op=10∨t[k].op=11∨t[k].op=12∨t[k].op=13) with c|c|c|c|c|c
  ·have hi:(t[k].op:Int)=8:=by omega
   have hw:R=decide (X=Y):=by rw [← hR,c];rfl
   rw [hw]
   simp only [go_sem,hi,Int.reduceBEq,cz,zw,Bool.bne_false]
   exact Z0
  ·have hi:(t[k].op:Int)=9:=by omega
   have hw:R=!decide (X=Y):=by rw [← hR,c];rfl
   rw [hw]
   simp only [go_sem,hi,Int.reduceBEq,cz,FA,Bool.bne_false]
   exact Z0
  ·have hi:(t[k].op:Int)=10:=by omega
   have hw:R=decide (X<Y):=by rw [← hR,c];rfl
   rw [hw]
   simp only [go_sem,hi,Int.reduceBEq,cz,qn]
   exact Z0
  ·have hi:(t[k].op:Int)=11:=by omega
   have hw:R=decide (X≤Y):=by rw [← hR,c];rfl
   rw [hw]
   simp only [go_sem,hi,Int.reduceBEq,cz,pD]
   exact Z0
  ·have hi:(t[k].op:Int)=12:=by omega
   have hw:R=decide (Y<X):=by rw [← hR,c];rfl
   rw [hw]
   simp only [go_sem,hi,Int.reduceBEq,cz,p8]
   exact Z0
  ·have hi:(t[k].op:Int)=13:=by omega
   have hw:R=decide (Y≤X):=by rw [← hR,c];rfl
   rw [hw]
   simp only [go_sem,hi,Int.reduceBEq,cz,pW]
   exact Z0
theorem Ck (A:Prop):∀ d,EntOk Tryz.prog 294 (Ent.pure (tc A d))
 |0=>by
  refine EntOk.pure fun args H K h=>?_
  unfold tc at h
  split at h
  ·obtain ⟨t,e,k,⟨_,_,_,_,h0,_⟩,_⟩:=h;omega
  ·exact h.elim
 |d+1=>Gt (Ck A d)
/-- what compiling accepts -/
def okC (t:List Nd):Prop:=t≠[]∧okW t∧vw t∧AllN vr t∧dH t (t.length - 1)=false
def vA (e:List (VN × Nat)) (t:List Nd):Bool:=(val e t (t.length - 1)).bo
def tL:List AV→AHeap→(AV→Prop)→Prop
 |[.slice _ 7 x,.slice _ 4 y],_,K=>∃ t e,(x=nds t∧y=aN e∧okC t∧uQ e)∧K (.bool (vA e t))
 |_,_,_=>False
theorem Ei:EntOk Tryz.prog 135 (Ent.pure tL):=by
 refine EntOk.pure fun args H K h=>?_
 unfold tL at h
 split at h
 rotate_left
 ·exact h.elim
 rename_i m x m2 y
 obtain ⟨t,e,⟨rfl,rfl,⟨hne,hW,hT,hB,hN⟩,hb⟩,hK⟩:=h
 have h_gTru:=Ck True t.length
 have hl:0<t.length:=List.length_pos_iff.2 hne
 have hl2:=hW.2.2
 refine ⟨_,hK,?_⟩
 clear hK
 generalize hd:t.length=d at h_gTru
 refine ACalls.fW aB (TblOk.cons h_gTru TblOk.nil) Tryz.func135 [.tmp 4] (Nat.le_refl _) (T:=aA []) (h:=fun hcl hlt=>?_)
 clear hlt
 have e6:IntKind.i64.wrap ((t.length:Int) - 1)=((t.length - 1:Nat):Int):=by rw [wrap_i64]<;>omega
 simp only [go_sem,aF,e6]
 refine ⟨t,e,t.length - 1,⟨rfl,rfl,rfl,by omega,by omega,hW,hT,hb,hB,hN⟩,?_⟩
 simp only [go_sem]
 unfold vA
 exact Z0
/-- the program's walk of such a tree -/
theorem GY {t:List Nd} {e:List (VN × Nat)} (h:okC t) (he:uQ e):okH e t∧s7 e t=val e t (t.length - 1):=by
 obtain ⟨hne,hW,hT,hB,hN⟩:=h
 have hl:0<t.length:=List.length_pos_iff.2 hne
 have hl2:=hW.2.2
 have hve:∀ x∈e,x.2<2^128:=he.2
 refine ⟨⟨by omega,fun i hi=>?_⟩,?_⟩
 ·obtain ⟨g1,g2,g3,g4⟩:=gQ hW.1 hi
  refine ⟨g1,g2,by omega,fun h3=>?_⟩
  obtain ⟨ga,gb⟩:=g4.resolve_left (by omega)
  rw [sq ga (by omega),sq gb (by omega)]
  have b1:=xG hve hW (i:=t[i].a) (by omega)
  have b2:=xG hve hW (i:=t[i].b) (by omega)
  unfold isN
  omega
 ·unfold s7 qs
  rw [if_neg (by omega),show ((t.length:Int) - 1).toNat=t.length - 1 by omega]
  rfl
end Go.AL
