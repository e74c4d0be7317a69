/- Lemmas of the proof; no condition. -/
import Derived.Test.YtokjjhidigoodaaGreatS09c
set_option linter.all false
set_option maxRecDepth 10000
set_option maxHeartbeats 32000000
open List renaming length_cons → yaz, length_nil → yba, take_of_length_le → ybc, drop_append → ybd, take_append → ybe, drop_eq_nil_of_le → ybf
open Go Go.AL Go.Proofs
namespace Go.AL
theorem JZ:ti Tryz.prog 212=some ⟨.struct [(0,9,false),(1,9,false),(2,48,false)],4,48,.agg [.str [],.str [],.int .u64 0,.int .u64 0]⟩:=by kernel_rfl
theorem HM:ti Tryz.prog 109=some ⟨.slice 212,1,24,.slice .nil 1 []⟩:=by kernel_rfl
attribute [go_sem] JZ HM
def Be:List AV→AHeap→(AV→Prop)→Prop
 |[x],_,K=>∃ n,(x=kL n∧1≤n.op∧n.op≤16)∧K (.bool (lr n.op))
 |_,_,_=>False
theorem Hg:EntOk Tryz.prog 415 (Ent.pure Be):=by
 refine Ype fun _ H K h=>?_
 unfold Be at h
 split at h
 rotate_left
 ·exact h.elim
 obtain ⟨n,⟨rfl,h1,h2⟩,hK⟩:=h
 refine ⟨_,hK,?_⟩
 clear hK
 cases hn:lr n.op
 ·have hx:¬ (n.op=1∨n.op=3∨n.op=4∨n.op=6∨n.op=7):=fun h=>by rw [isNum_cases.2 h] at hn;cases hn
  have d1:((n.op:Int)==1)=false:=beq_eq_false_iff_ne.2 (by omega)
  have d3:((n.op:Int)==3)=false:=beq_eq_false_iff_ne.2 (by omega)
  have d4:((n.op:Int)==4)=false:=beq_eq_false_iff_ne.2 (by omega)
  have d6:((n.op:Int)==6)=false:=beq_eq_false_iff_ne.2 (by omega)
  have d7:((n.op:Int)==7)=false:=beq_eq_false_iff_ne.2 (by omega)
  refine Yfv ax tNq Tryz.func415 [.tmp 2] fun hcl hlt=>?_
  clear hlt
  simp only [go_sem,kL,d1,d3,d4,d6,d7]
  exact Z0
 ·skip
  refine Yfv ax tNq Tryz.func415 [.tmp 2] fun hcl hlt=>?_
  exact Y91
theorem yC {a:Int} (h : -(2^128*120)≤a∧a≤2^128*120):fe a:=by
 unfold fe
 have:a.natAbs≤2^128*120:=by omega
 exact Nat.lt_of_le_of_lt this (by decide)
def vu (_A:Prop) (d:Nat):List AV→AHeap→(AV→Prop)→Prop
 |[.slice _ 7 x,.int .i64 i,.slice _ 4 y],_,K=>∃ t e k,(x=nds t∧i=((k:Nat):Int)∧y=aU e∧k<d∧okW t∧xO t∧Ax e∧eA t k=true)∧K (zAV (val e t k).num)
 |_,_,_=>False
theorem Ix {t:List Nd} {k:Nat} (h:eA t k=true):k<t.length:=by
 unfold eA at h
 rcases Nat.lt_or_ge k t.length with h1|h1
 ·exact h1
 ·rw [gNq h1] at h;cases h
theorem EK {v:Nat} (h:v<340282366920938463463374607431768211456):lK ((v/2^64:Nat):Int) ((v % 2^64:Nat):Int):=by
 have:v % 2^64<18446744073709551616:=Nat.mod_lt _ (by decide)
 unfold lK;omega
theorem H9 {A:Prop} {d:Nat} (h_gInt:EntOk Tryz.prog 417 (Ent.pure (vu A d))):EntOk Tryz.prog 417 (Ent.pure (vu A (d+1))):=by
 refine Ype fun _ H K h=>?_
 unfold vu at h
 split at h
 rotate_left
 ·exact h.elim
 rename_i m x i m2 y
 obtain ⟨t,e,k,⟨rfl,rfl,rfl,hkd,hW,hT,hb,hN⟩,hK⟩:=h
 have hk:=Ix hN
 have hg:=hW.1
 obtain ⟨g1,g2,g3,g4⟩:=iL hg hk
 have hve:∀ x∈e,x.2<2^128:=hb.2
 have hsm:∀ {j:Nat},j<t.length→fe (val e t j).num:=fun hj=>yC (zk hve hW hj)
 rw [ik hk] at hN
 have hf:=hT k hk
 have hop:=isNum_cases.1 hN
 have hV:val e t k=jc e (fV e t k) t[k]:=rB hk
 have hO:=fun h3 h4 h5=>@wY e t k hk h3 h4 h5
 refine ⟨_,hK,?_⟩
 clear hK
 generalize hR:zAV (val e t k).num=R
 have hgk:=c7 hk
 have hz:((((t[k].v/2^64:Nat):Int)*2^64+((t[k].v % 2^64:Nat):Int):Int))=(t[k].v:Int):=by omega
 refine ACalls.fW ax (tCq Ks (tCq Et (tCq uX (tCq Fc (tCq Dk (tCq h_gInt tNq)))))) Tryz.func417 [.cell 6 454] (nrq _) (T:=av [(8,[[],[],[],[],[2],[],[],[],[],[2,4,7],[2,4,7,9],[2,4,7,9,10]]),(10,[[],[],[],[],[2],[],[],[],[],[2,4,7],[2,4,7,9],[2,4,7,9,10]])]) (h:=fun hcl hlt=>?_)
 have hm:∀ n',H.nx≤n'→AV.lt n' (.slice m 7 (nds t)):=fun n' hn=>AV.lt_mono hn _ (hlt (.slice m 7 (nds t)) (by simp))
 have hm2:∀ n',H.nx≤n'→AV.lt n' (.slice m2 4 (aU e)):=fun n' hn=>AV.lt_mono hn _ (hlt (.slice m2 4 (aU e)) (by simp))
 clear hlt
 rcases hop with c|c|c|c|c
 ·have d1:((t[k].op:Int)==1)=true:=by rw [c];rfl
  have hw:(val e t k).num=t[k].v:=by rw [hV];unfold jc;rw [if_pos c];rfl
  rw [hw] at hR
  subst hR
  simp only [go_sem,aJ,hgk,d1,iNq,u7,hz,zAV]
  refine ⟨by omega,EK (by omega),?_⟩
  exact Z0
 ·have d1:((t[k].op:Int)==1)=false:=by rw [c];rfl
  have d4:((t[k].op:Int)==4)=false:=by rw [c];rfl
  have d6:((t[k].op:Int)==6)=false:=by rw [c];rfl
  have d7:((t[k].op:Int)==7)=false:=by rw [c];rfl
  have hw:(val e t k).num=k8 e (t[k].name,t[k].attr):=by rw [hV];unfold jc;rw [if_neg (by omega),if_neg (by omega),if_pos c];rfl
  rw [hw] at hR
  obtain ⟨Q,hQ⟩:∃ Q,k8 e (t[k].name,t[k].attr)=Q:=⟨_,rfl⟩
  rw [hQ] at hR
  subst hR
  simp only [go_sem,aJ,hgk,d1,d4,d6,d7,iNq,aC]
  refine ⟨by omega,?_⟩
  refine az (A:=Nat) (fun j=>[(6,.ptr H.nx 0),(7,.ptr (H.nx+1) 0),(55,.slice m2 4 (aU e)),(56,.int .i64 (e.length:Int)),(57,.int .i64 (j:Int))])
   (fun _=>(H.push (.cells [.bool false,.slice .nil 1 []])).push (.cells [.int .i64 (t[k].op:Int),.int .i64 (t[k].a:Int),.int .i64 (t[k].b:Int),.str t[k].name,.str t[k].attr,.int .u64 ((t[k].v/2^64:Nat):Int),.int .u64 ((t[k].v % 2^64:Nat):Int)])) (fun j=>j≤e.length∧k8 (e.drop j) (t[k].name,t[k].attr)=Q) (fun j=>e.length - j) 0 ⟨Nat.zero_le _,hQ⟩ ?_ fun j hj=>?_
  ·exact Z42
  obtain ⟨hj,hq⟩:=hj
  simp only [go_sem]
  refine au (fun hc=>?_) (fun hc=>?_)
  ·have hj1:j<e.length:=by simp at hc;omega
   have e5:IntKind.i64.wrap ((j:Int)+1)=((j+1:Nat):Int):=by rw [wrap_i64]<;>(have:=hb.1;omega)
   have hne:(H.nx+1=H.nx+2)=False:=eq_false (by omega)
   have hv1:e[j].2<340282366920938463463374607431768211456:=hb.2 e[j] (gMq hj1)
   have hz2:((((e[j].2/2^64:Nat):Int)*2^64+((e[j].2 % 2^64:Nat):Int):Int))=(e[j].2:Int):=by omega
   rw [dcq hj1] at hq
   simp only [go_sem,aC,ur hj1,iNq,hne,e5]
   refine ⟨by omega,fun h1=>?_,fun h1=>?_⟩
   ·cases h2:(e[j].1.2==t[k].attr)
    ·have hx:¬ (e[j].1=(t[k].name,t[k].attr)):=fun h=>by rw [h] at h2;simp at h2
     rw [show e[j]=(e[j].1,e[j].2) from rfl,jX,if_neg hx] at hq
     simp only [go_sem,h2]
     exact Y140
    ·have hx:e[j].1=(t[k].name,t[k].attr):=Prod.ext (eq_of_beq h1) (eq_of_beq h2)
     rw [show e[j]=(e[j].1,e[j].2) from rfl,jX,if_pos hx] at hq
     subst hq
     simp only [go_sem,h2,u7,hz2,zAV]
     refine ⟨EK hv1,?_⟩
     exact Z0
   ·have hx:¬ (e[j].1=(t[k].name,t[k].attr)):=fun h=>by rw [h] at h1;simp at h1
    rw [show e[j]=(e[j].1,e[j].2) from rfl,jX,if_neg hx] at hq
    exact Y140
  ·have hj1:j=e.length:=by simp at hc;omega
   subst hj1
   rw [List.drop_length] at hq
   have hq':0=Q:=hq
   subst hq'
   simp only [go_sem,fX,zAV]
   exact Y34
 ·have d1:((t[k].op:Int)==1)=false:=by rw [c];rfl
  have d4:((t[k].op:Int)==4)=true:=by rw [c];rfl
  obtain ⟨ga,gb⟩:=g4.resolve_left (by omega)
  have hfa:eA t t[k].a=true:=by simpa [jv,c] using hf
  have hw:(val e t k).num = -(val e t t[k].a).num:=by rw [hO (by omega) ga gb,c];rfl
  rw [hw] at hR
  subst hR
  simp only [go_sem,aJ,hgk,d1,d4,iNq]
  refine ⟨by omega,t,e,t[k].a,⟨rfl,rfl,rfl,by omega,hW,hT,hb,hfa⟩,?_⟩
  simp only [go_sem]
  refine ⟨(val e t t[k].a).num,⟨rfl,hsm (by omega)⟩,?_⟩
  simp only [go_sem,zAV]
  exact Z0
 ·have d1:((t[k].op:Int)==1)=false:=by rw [c];rfl
  have d4:((t[k].op:Int)==4)=false:=by rw [c];rfl
  have d6:((t[k].op:Int)==6)=true:=by rw [c];rfl
  obtain ⟨ga,gb⟩:=g4.resolve_left (by omega)
  obtain ⟨hfa,hfb⟩:eA t t[k].a=true∧eA t t[k].b=true:=by simpa [jv,c] using hf
  have hw:(val e t k).num=(val e t t[k].a).num+(val e t t[k].b).num:=by rw [hO (by omega) ga gb,c];rfl
  rw [hw] at hR
  subst hR
  simp only [go_sem,aJ,hgk,d1,d4,d6,iNq]
  exact Y64
 ·have d1:((t[k].op:Int)==1)=false:=by rw [c];rfl
  have d4:((t[k].op:Int)==4)=false:=by rw [c];rfl
  have d6:((t[k].op:Int)==6)=false:=by rw [c];rfl
  have d7:((t[k].op:Int)==7)=true:=by rw [c];rfl
  obtain ⟨ga,gb⟩:=g4.resolve_left (by omega)
  obtain ⟨hfa,hfb⟩:eA t t[k].a=true∧eA t t[k].b=true:=by simpa [jv,c] using hf
  have hw:(val e t k).num=(val e t t[k].a).num - (val e t t[k].b).num:=by rw [hO (by omega) ga gb,c];rfl
  rw [hw] at hR
  subst hR
  simp only [go_sem,aJ,hgk,d1,d4,d6,d7,iNq]
  exact Y64
theorem Fi (A:Prop):∀ d,EntOk Tryz.prog 417 (Ent.pure (vu A d))
 |0=>by
  refine Ype fun _ H K h=>?_
  unfold vu at h
  split at h
  ·obtain ⟨t,e,k,⟨_,_,_,h0,_⟩,_⟩:=h;omega
  ·exact h.elim
 |d+1=>H9 (Fi A d)
def yt (n:Nd):Prop:=n.op=2→n.v≤1
theorem cz {a b:Int}:(if a=b then (0:Int) else if a<b then -1 else 1)=ki a b:=rfl
theorem BR {a b:Int}:(ki a b==0)=decide (a=b):=by
 rw [Bool.eq_iff_iff,beq_iff_eq,decide_eq_true_eq];unfold ki;split<;>(try split)<;>simp<;>omega
theorem I5 {a b:Int}:(ki a b != 0)=!decide (a=b):=by
 show (!(ki a b==0))=_
 rw [BR]
theorem Ml {b:Bool}:(b != true)=!b:=by cases b<;>rfl
def vW (_A:Prop) (d:Nat):List AV→AHeap→(AV→Prop)→Prop
 |[.slice _ 7 x,.int .i64 i,.slice _ 4 y],_,K=>∃ t e k,(x=nds t∧i=((k:Nat):Int)∧y=aU e∧k<t.length∧k<d∧okW t∧xO t∧Ax e∧AllN yt t∧eA t k=false)∧K (.bool (val e t k).bo)
 |_,_,_=>False
theorem Eo {e:List (VN × Nat)} {t:List Nd} (hg:Good t) {j:Nat} (h:j<t.length) (hn:eA t j=true):val e t j=.i (val e t j).num:=by
 have:=E0 (e:=e) hg h
 rw [ik h] at hn
 rw [hn] at this
 cases hv:val e t j with
 |i z=>rfl
 |b x=>rw [hv] at this;cases this
theorem EZ {e:List (VN × Nat)} {t:List Nd} (hg:Good t) {j:Nat} (h:j<t.length) (hn:eA t j=false):val e t j=.b (val e t j).bo:=by
 have:=E0 (e:=e) hg h
 rw [ik h] at hn
 rw [hn] at this
 cases hv:val e t j with
 |i z=>rw [hv] at this;cases this
 |b x=>rfl
theorem Ia {A:Prop} {d:Nat} (h_gTru:EntOk Tryz.prog 294 (Ent.pure (vW A d))):EntOk Tryz.prog 294 (Ent.pure (vW A (d+1))):=by
 refine Ype fun _ H K h=>?_
 unfold vW at h
 split at h
 rotate_left
 ·exact h.elim
 rename_i m x i m2 y
 obtain ⟨t,e,k,⟨rfl,rfl,rfl,hk,hkd,hW,hT,hb,hB,hN⟩,hK⟩:=h
 have hg:=hW.1
 obtain ⟨g1,g2,g3,g4⟩:=iL hg hk
 have hve:∀ x∈e,x.2<2^128:=hb.2
 have hsm:∀ {j:Nat},j<t.length→fe (val e t j).num:=fun hj=>yC (zk hve hW hj)
 have hf:=hT k hk
 have hV:val e t k=jc e (fV e t k) t[k]:=rB hk
 have hO:=fun h3 h4 h5=>@wY e t k hk h3 h4 h5
 have hnA:=ik hk
 rw [hN] at hnA
 have h_gInt:=Fi A d
 refine ⟨_,hK,?_⟩
 clear hK
 generalize hR:(val e t k).bo=R
 have hgk:=c7 hk
 have hx:¬ (t[k].op=1∨t[k].op=3∨t[k].op=4∨t[k].op=6∨t[k].op=7):=fun h=>by rw [isNum_cases.2 h] at hnA;cases hnA
 refine ACalls.fW ax (tCq Hg (tCq Eq (tCq h_gInt (tCq h_gTru tNq)))) Tryz.func294 [.tmp 6] (nrq _) (T:=av [(14,[[],[],[],[],[2],[],[],[],[],[2,4,7]]),(15,[[],[],[],[],[2],[],[],[],[],[2,4,7],[2,4,7,9]])]) (h:=fun hcl hlt=>?_)
 have hm:∀ n',H.nx≤n'→AV.lt n' (.slice m 7 (nds t)):=fun n' hn=>AV.lt_mono hn _ (hlt (.slice m 7 (nds t)) (by simp))
 have hm2:∀ n',H.nx≤n'→AV.lt n' (.slice m2 4 (aU e)):=fun n' hn=>AV.lt_mono hn _ (hlt (.slice m2 4 (aU e)) (by simp))
 clear hlt
 have d2':t[k].op≠2→((t[k].op:Int)==2)=false:=fun h=>beq_eq_false_iff_ne.2 (by omega)
 have d5':t[k].op≠5→((t[k].op:Int)==5)=false:=fun h=>beq_eq_false_iff_ne.2 (by omega)
 have d14':t[k].op≠14→((t[k].op:Int)==14)=false:=fun h=>beq_eq_false_iff_ne.2 (by omega)
 have d15':t[k].op≠15→((t[k].op:Int)==15)=false:=fun h=>beq_eq_false_iff_ne.2 (by omega)
 have d16':t[k].op≠16→((t[k].op:Int)==16)=false:=fun h=>beq_eq_false_iff_ne.2 (by omega)
 by_cases c2:t[k].op=2
 ·have d2:((t[k].op:Int)==2)=true:=by rw [c2];rfl
  have hvq:(((t[k].v/2^64:Nat):Int)==0&&((t[k].v % 2^64:Nat):Int)==0)=decide (t[k].v=0):=by
   exact Y159
  have hv0:=hB t[k] (gMq hk) c2
  have hv1:(!decide (t[k].v=0))=decide (t[k].v=1):=by
   rw [Bool.eq_iff_iff];simp;omega
  have hw:(val e t k).bo=decide (t[k].v=1):=by rw [hV];unfold jc;rw [if_neg (by omega),if_pos c2];rfl
  rw [hw] at hR
  subst hR
  simp only [go_sem,aJ,hgk,d2,iNq,A7,BB,Bool.bne_false,Bool.and_true,hvq,Ml,hv1]
  exact Y34
 have d2:=d2' c2
 by_cases c5:t[k].op=5
 ·have d5:((t[k].op:Int)==5)=true:=by rw [c5];rfl
  obtain ⟨ga,gb⟩:=g4.resolve_left (by omega)
  have hfa:eA t t[k].a=false:=by simpa [jv,c5] using hf
  have hw:(val e t k).bo=!(val e t t[k].a).bo:=by rw [hO (by omega) ga gb,c5];rfl
  rw [hw] at hR
  subst hR
  simp only [go_sem,aJ,hgk,d2,d5,iNq]
  refine ⟨by omega,t,e,t[k].a,⟨rfl,rfl,rfl,by omega,by omega,hW,hT,hb,hB,hfa⟩,?_⟩
  exact Y47
 have d5:=d5' c5
 by_cases c14:t[k].op=14
 ·have d14:((t[k].op:Int)==14)=true:=by rw [c14];rfl
  obtain ⟨ga,gb⟩:=g4.resolve_left (by omega)
  obtain ⟨hfa,hfb⟩:eA t t[k].a=false∧eA t t[k].b=false:=by simpa [jv,c14] using hf
  have hw:(val e t k).bo=((val e t t[k].a).bo&&(val e t t[k].b).bo):=by rw [hO (by omega) ga gb,c14];rfl
  rw [hw] at hR
  subst hR
  simp only [go_sem,aJ,hgk,d2,d5,d14,iNq]
  refine ⟨by omega,t,e,t[k].a,⟨rfl,rfl,rfl,by omega,by omega,hW,hT,hb,hB,hfa⟩,?_⟩
  simp only [go_sem]
  refine ⟨fun hx1=>⟨t,e,t[k].b,⟨rfl,rfl,rfl,by omega,by omega,hW,hT,hb,hB,hfb⟩,?_⟩,fun hx1=>?_⟩
  ·simp only [go_sem]
   exact Z54
  ·exact Z54
 have d14:=d14' c14
 by_cases c15:t[k].op=15
 ·have d15:((t[k].op:Int)==15)=true:=by rw [c15];rfl
  obtain ⟨ga,gb⟩:=g4.resolve_left (by omega)
  obtain ⟨hfa,hfb⟩:eA t t[k].a=false∧eA t t[k].b=false:=by simpa [jv,c15] using hf
  have hw:(val e t k).bo=((val e t t[k].a).bo||(val e t t[k].b).bo):=by rw [hO (by omega) ga gb,c15];rfl
  rw [hw] at hR
  subst hR
  simp only [go_sem,aJ,hgk,d2,d5,d14,d15,iNq]
  exact Y75
 have d15:=d15' c15
 by_cases c16:t[k].op=16
 ·have d16:((t[k].op:Int)==16)=true:=by rw [c16];rfl
  obtain ⟨ga,gb⟩:=g4.resolve_left (by omega)
  obtain ⟨hfa,hfb⟩:eA t t[k].a=false∧eA t t[k].b=false:=by simpa [jv,c16] using hf
  have hw:(val e t k).bo=(!(val e t t[k].a).bo||(val e t t[k].b).bo):=by rw [hO (by omega) ga gb,c16];rfl
  rw [hw] at hR
  subst hR
  simp only [go_sem,aJ,hgk,d2,d5,d14,d15,d16,iNq]
  exact Y75
 have d16:=d16' c16
 have h3:3<t[k].op:=by omega
 obtain ⟨ga,gb⟩:=g4.resolve_left (by omega)
 have hka:t[k].a<t.length:=by omega
 have hkb:t[k].b<t.length:=by omega
 obtain ⟨a1,a2,_⟩:=iL hg hka
 have hga:=c7 hka
 have hna:=ik hka
 have hz:(val e t k).bo=(opV t[k].op (val e t t[k].a) (val e t t[k].b)).bo:=by rw [hO h3 ga gb]
 rw [hz] at hR
 simp only [go_sem,aJ,hgk,hga,d2,d5,d14,d15,d16,iNq]
 refine ⟨by omega,by omega,t[t[k].a],⟨rfl,a1,a2⟩,?_⟩
 cases hAn:lr t[t[k].a].op
 ·rw [hAn] at hna
  have h89:t[k].op=8∨t[k].op=9:=by
   by_cases h:t[k].op=8∨t[k].op=9
   ·exact h
   ·exfalso
    unfold jv at hf
    rw [if_neg (by omega),if_neg (by omega),if_neg (by omega),if_neg h,if_neg (by omega),hna] at hf
    cases hf
  have hnb:eA t t[k].b=false:=by
   unfold jv at hf
   rw [if_neg (by omega),if_neg (by omega),if_neg (by omega),if_pos h89,hna] at hf
   simpa using hf
  have hva:=EZ (e:=e) hg hka hna
  have hvb:=EZ (e:=e) hg hkb hnb
  have hR2:R=(((val e t t[k].a).bo==(val e t t[k].b).bo)==decide (t[k].op=8)):=by
   rw [← hR,hva,hvb]
   generalize (val e t t[k].a).bo=X
   generalize (val e t t[k].b).bo=Y
   rcases h89 with h|h<;>rw [h]
   ·show (X==Y)=_
    cases X<;>cases Y<;>rfl
   ·show (!(X==Y))=_
    cases X<;>cases Y<;>rfl
  have d8:((t[k].op:Int)==8)=decide (t[k].op=8):=by
   rw [Bool.eq_iff_iff,beq_iff_eq,decide_eq_true_eq];omega
  simp only [go_sem]
  refine ⟨t,e,t[k].a,⟨rfl,rfl,rfl,by omega,by omega,hW,hT,hb,hB,hna⟩,?_⟩
  simp only [go_sem]
  refine ⟨t,e,t[k].b,⟨rfl,rfl,rfl,by omega,by omega,hW,hT,hb,hB,hnb⟩,?_⟩
  simp only [go_sem,d8,Bool.bne_false]
  rw [hR2]
  exact Z0
 ·rw [hAn] at hna
  have hnb:eA t t[k].b=true:=by
   unfold jv at hf
   rw [if_neg (by omega),if_neg (by omega),if_neg (by omega),hna] at hf
   by_cases h:t[k].op=8∨t[k].op=9
   ·rw [if_pos h] at hf;simpa using hf
   ·rw [if_neg h,if_neg (by omega)] at hf;simpa using hf
  have hva:=Eo (e:=e) hg hka hna
  have hvb:=Eo (e:=e) hg hkb hnb
  simp only [go_sem]
  refine ⟨t,e,t[k].a,⟨rfl,rfl,rfl,by omega,hW,hT,hb,hna⟩,?_⟩
  simp only [go_sem]
  refine ⟨t,e,t[k].b,⟨rfl,rfl,rfl,by omega,hW,hT,hb,hnb⟩,?_⟩
  simp only [go_sem]
  refine ⟨(val e t t[k].a).num,(val e t t[k].b).num,⟨rfl,rfl,hsm hka,hsm hkb⟩,?_⟩
  rw [hva,hvb] at hR
  generalize (val e t t[k].a).num=X at *
  generalize (val e t t[k].b).num=Y at *
  rcases (by omega:t[k].op=8∨t[k].op=9∨t[k].op=10∨t[k].op=11∨t[k].op=12∨t[k].op=13) with c|c|c|c|c|c
  ·have hi:(t[k].op:Int)=8:=by omega
   have hw:R=decide (X=Y):=by rw [← hR,c];rfl
   rw [hw]
   simp only [go_sem,hi,Int.reduceBEq,cz,BR,Bool.bne_false]
   exact Z0
  ·have hi:(t[k].op:Int)=9:=by omega
   have hw:R=!decide (X=Y):=by rw [← hR,c];rfl
   rw [hw]
   simp only [go_sem,hi,Int.reduceBEq,cz,I5,Bool.bne_false]
   exact Z0
  ·have hi:(t[k].op:Int)=10:=by omega
   have hw:R=decide (X<Y):=by rw [← hR,c];rfl
   rw [hw]
   simp only [go_sem,hi,Int.reduceBEq,cz,rz]
   exact Z0
  ·have hi:(t[k].op:Int)=11:=by omega
   have hw:R=decide (X≤Y):=by rw [← hR,c];rfl
   rw [hw]
   simp only [go_sem,hi,Int.reduceBEq,cz,se]
   exact Z0
  ·have hi:(t[k].op:Int)=12:=by omega
   have hw:R=decide (Y<X):=by rw [← hR,c];rfl
   rw [hw]
   simp only [go_sem,hi,Int.reduceBEq,cz,sq]
   exact Z0
  ·have hi:(t[k].op:Int)=13:=by omega
   have hw:R=decide (Y≤X):=by rw [← hR,c];rfl
   rw [hw]
   simp only [go_sem,hi,Int.reduceBEq,cz,sC]
   exact Z0
theorem EC (A:Prop):∀ d,EntOk Tryz.prog 294 (Ent.pure (vW A d))
 |0=>by
  refine Ype fun _ H K h=>?_
  unfold vW at h
  split at h
  ·obtain ⟨t,e,k,⟨_,_,_,_,h0,_⟩,_⟩:=h;omega
  ·exact h.elim
 |d+1=>Ia (EC A d)
def okC (t:List Nd):Prop:=t≠[]∧okW t∧xO t∧AllN yt t∧eA t (t.length - 1)=false
def yX (e:List (VN × Nat)) (t:List Nd):Bool:=(val e t (t.length - 1)).bo
def vP:List AV→AHeap→(AV→Prop)→Prop
 |[.slice _ 7 x,.slice _ 4 y],_,K=>∃ t e,(x=nds t∧y=aU e∧okC t∧Ax e)∧K (.bool (yX e t))
 |_,_,_=>False
theorem Hw:EntOk Tryz.prog 135 (Ent.pure vP):=by
 refine Ype fun _ H K h=>?_
 unfold vP at h
 split at h
 rotate_left
 ·exact h.elim
 rename_i m x m2 y
 obtain ⟨t,e,⟨rfl,rfl,⟨hne,hW,hT,hB,hN⟩,hb⟩,hK⟩:=h
 have h_gTru:=EC True t.length
 have hl:0<t.length:=List.length_pos_iff.2 hne
 have hl2:=hW.2.2
 refine ⟨_,hK,?_⟩
 clear hK
 generalize hd:t.length=d at h_gTru
 refine Yfv ax (tCq h_gTru tNq) Tryz.func135 [.tmp 4] fun hcl hlt=>?_
 clear hlt
 have e6:IntKind.i64.wrap ((t.length:Int) - 1)=((t.length - 1:Nat):Int):=by rw [wrap_i64]<;>omega
 simp only [go_sem,aJ,e6]
 refine ⟨t,e,t.length - 1,⟨rfl,rfl,rfl,by omega,by omega,hW,hT,hb,hB,hN⟩,?_⟩
 simp only [go_sem]
 unfold yX
 exact Z0
theorem MW {t:List Nd} {e:List (VN × Nat)} (h:okC t) (he:Ax e):okH e t∧yE e t=val e t (t.length - 1):=by
 obtain ⟨hne,hW,hT,hB,hN⟩:=h
 have hl:0<t.length:=List.length_pos_iff.2 hne
 have hl2:=hW.2.2
 have hve:∀ x∈e,x.2<2^128:=he.2
 refine ⟨⟨by omega,fun i hi=>?_⟩,?_⟩
 ·obtain ⟨g1,g2,g3,g4⟩:=iL hW.1 hi
  refine ⟨g1,g2,by omega,fun h3=>?_⟩
  obtain ⟨ga,gb⟩:=g4.resolve_left (by omega)
  rw [uV ga (by omega),uV gb (by omega)]
  have b1:=zk hve hW (i:=t[i].a) (by omega)
  have b2:=zk hve hW (i:=t[i].b) (by omega)
  unfold isN
  omega
 ·unfold yE sK
  rw [if_neg (by omega),show ((t.length:Int) - 1).toNat=t.length - 1 by omega]
  rfl
end Go.AL
