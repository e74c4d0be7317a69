/- Contracts and plain laws, a part of the proof; no condition of its own. -/
import Derived.Test.YtokjjhidigoodaaS07p
import Derived.Test.YtokjjhidigoodaaLTyp
import Derived.Test.YtokjjhidigoodaaAlMap
set_option maxHeartbeats 32000000
open List renaming length_cons → yaz, length_nil → yba, take_of_length_le → ybc, drop_append → ybd, take_append → ybe, drop_eq_nil_of_le → ybf
open Go Go.AL Go.Proofs
namespace Go.AL
set_option linter.all false
set_option maxRecDepth 10000
theorem xD:ti Try.prog 167=some ⟨.struct [(0,3,false),(1,3,false)],2,16,.agg [.int .i64 0,.int .i64 0]⟩:=by kernel_rfl
theorem vg:ti Try.prog 195=some ⟨.slice 167,1,24,.slice .nil 1 []⟩:=by kernel_rfl
theorem rK:ti Try.prog 102=some ⟨.struct [(0,9,false),(1,9,false)],2,32,.agg [.str [],.str []]⟩:=by kernel_rfl
theorem vS:ti Try.prog 69=some ⟨.slice 102,1,24,.slice .nil 1 []⟩:=by kernel_rfl
theorem uL:ti Try.prog 70=some ⟨.slice 110,1,24,.slice .nil 1 []⟩:=by kernel_rfl
theorem xY:ti Try.prog 110=some ⟨.struct [(0,9,false),(1,9,false)],2,32,.agg [.str [],.str []]⟩:=by kernel_rfl
attribute [go_sem] xD vg rK vS uL xY
def rulesL:List AV:=(List.range 16).map fun i=>.agg [.int .i64 (pZ (i+1):Int),.int .i64 (gC (i+1):Int)]
theorem tg:rulesL=[.agg [.int .i64 0,.int .i64 1],.agg [.int .i64 0,.int .i64 2],.agg [.int .i64 0,.int .i64 1],.agg [.int .i64 1,.int .i64 1],.agg [.int .i64 2,.int .i64 2],.agg [.int .i64 1,.int .i64 1],.agg [.int .i64 1,.int .i64 1],.agg [.int .i64 0,.int .i64 2],
 .agg [.int .i64 0,.int .i64 2],.agg [.int .i64 1,.int .i64 2],.agg [.int .i64 1,.int .i64 2],.agg [.int .i64 1,.int .i64 2],.agg [.int .i64 1,.int .i64 2],.agg [.int .i64 2,.int .i64 2],.agg [.int .i64 2,.int .i64 2],.agg [.int .i64 2,.int .i64 2]]:=by rfl
theorem qN {k:Nat} (h:k<16):rulesL.getD k .junk=.agg [.int .i64 (pZ (k+1):Int),.int .i64 (gC (k+1):Int)]:=by
 simp [rulesL,List.getD_eq_getElem?_getD,h]
theorem qQ:rulesL.length=16:=by simp [rulesL]
def lk:List AV→AHeap→(AV→Prop)→Prop
 |[],_,K=>K (.slice .any 2 rulesL)
 |_,_,_=>False
theorem sU:EntOk Try.prog 81 (Ent.pure lk):=by
 refine EntOk.pure fun args H K h=>?_
 unfold lk at h
 split at h
 rotate_left
 ·exact h.elim
 refine ⟨_,h,?_⟩
 clear h
 rw [tg]
 refine ACalls.fW ay TblOk.nil Try.func81 [.tmp 0] (Nat.le_refl _) (T:=al []) (h:=fun hcl hlt=>?_)
 clear hlt
 simp only [go_sem]
 simp (disch:=first|assumption|omega|(simp;done)|(simp;omega)|(simp only [bt,and_true];first|done|omega|(simp;done))) [↓zmk,beq,ybc,ybd,ybe,ae,wk,wk2,wk1,wkM,wkL,ah,ybf,hcl,bM,znn,znq,znr,znb]
def ex:List AV→AHeap→(AV→Prop)→Prop
 |[.int .i64 n],_,K=>∃ op:Nat,(n=(op:Int)∧1≤op∧op≤16)∧K (.agg [.int .i64 (pZ op:Int),.int .i64 (gC op:Int)])
 |_,_,_=>False
theorem lC:EntOk Try.prog 58 (Ent.pure ex):=by
 refine EntOk.pure fun args H K h=>?_
 unfold ex at h
 split at h
 rotate_left
 ·exact h.elim
 obtain ⟨op,⟨rfl,h1,h2⟩,hK⟩:=h
 refine ⟨_,hK,?_⟩
 clear hK
 refine ACalls.fW ay (TblOk.cons sU TblOk.nil) Try.func58 [.cell 2 167] (Nat.le_refl _) (T:=al []) (h:=fun hcl hlt=>?_)
 clear hlt
 have d1:decide ((op:Int)<1)=false:=by simp;omega
 have d2:decide ((op:Int) > 16)=false:=by simp;omega
 have e1:IntKind.i64.wrap ((op:Int) - 1)=((op - 1:Nat):Int):=by rw [wrap_i64]<;>omega
 have e2:rulesL.getD (op - 1) .junk=.agg [.int .i64 (pZ op:Int),.int .i64 (gC op:Int)]:=by rw [qN (by omega),show op - 1+1=op by omega]
 simp only [go_sem,d1,d2,e1,lk,qQ,Int.toNat_natCast,e2]
 refine ⟨by omega,?_⟩
 simp (disch:=first|assumption|omega|(simp;done)|(simp;omega)|(simp only [bt,and_true];first|done|omega|(simp;done))) [↓zmk,beq,ybc,ybd,ybe,ae,wk,wk2,wk1,wkM,wkL,ah,ybf,hcl,znn,znq,znr,znb]
def gJ:List AV→AHeap→(AV→Prop)→Prop
 |[x],_,K=>∃ n,(x=jr n∧1≤n.op∧n.op≤16)∧K (.slice .any 1 (its (ll n)))
 |_,_,_=>False
theorem nZ:EntOk Try.prog 80 (Ent.pure gJ):=by
 refine EntOk.pure fun args H K h=>?_
 unfold gJ at h
 split at h
 rotate_left
 ·exact h.elim
 obtain ⟨n,⟨rfl,h1,h2⟩,hK⟩:=h
 refine ⟨_,hK,?_⟩
 clear hK
 unfold ll
 by_cases h3:n.op≤3
 ·rw [if_pos h3]
  refine ACalls.fW ay TblOk.nil Try.func80 [.tmp 2] (Nat.le_refl _) (T:=al []) (h:=fun hcl hlt=>?_)
  clear hlt
  rcases (by omega:(n.op:Int)=1∨(n.op:Int)=2∨(n.op:Int)=3) with h|h|h <;>
  ·simp only [go_sem,jr,h,Int.reduceBEq]
   simp (disch:=first|assumption|omega|(simp;done)|(simp;omega)|(simp only [bt,and_true];first|done|omega|(simp;done))) [↓zmk,beq,ybc,ybd,ybe,ae,wk,wk2,wk1,wkM,wkL,ah,ybf,hcl,its,bM,znq,znr,znb]
 rw [if_neg h3]
 by_cases h4:n.op=4∨n.op=5
 ·rw [if_pos h4]
  refine ACalls.fW ay TblOk.nil Try.func80 [.tmp 2] (Nat.le_refl _) (T:=al []) (h:=fun hcl hlt=>?_)
  clear hlt
  rcases (by omega:(n.op:Int)=4∨(n.op:Int)=5) with h|h <;>
  ·simp only [go_sem,jr,h,Int.reduceBEq]
   simp (disch:=first|assumption|omega|(simp;done)|(simp;omega)|(simp only [bt,and_true];first|done|omega|(simp;done))) [↓zmk,beq,ybc,ybd,ybe,ae,wk,wk2,wk1,wkM,wkL,ah,ybf,hcl,its,bM,znq,znr,znb]
 ·rw [if_neg h4]
  have d1:((n.op:Int)==1)=false:=beq_eq_false_iff_ne.2 (by omega)
  have d2:((n.op:Int)==2)=false:=beq_eq_false_iff_ne.2 (by omega)
  have d3:((n.op:Int)==3)=false:=beq_eq_false_iff_ne.2 (by omega)
  have d4:((n.op:Int)==4)=false:=beq_eq_false_iff_ne.2 (by omega)
  have d5:((n.op:Int)==5)=false:=beq_eq_false_iff_ne.2 (by omega)
  refine ACalls.fW ay TblOk.nil Try.func80 [.tmp 2] (Nat.le_refl _) (T:=al []) (h:=fun hcl hlt=>?_)
  clear hlt
  simp only [go_sem,jr,d1,d2,d3,d4,d5]
  simp (disch:=first|assumption|omega|(simp;done)|(simp;omega)|(simp only [bt,and_true];first|done|omega|(simp;done))) [↓zmk,beq,ybc,ybd,ybe,ae,wk,wk2,wk1,wkM,wkL,ah,ybf,hcl,its,bM,znq,znr,znb]
end Go.AL
open Go Go.AL Go.Proofs
namespace Go.AL
set_option linter.all false
set_option maxRecDepth 10000
def lK (t:List Nd) (k:Nat):Bool:=match t[k]? with
 |some n=>tI t n
 |none=>true
theorem mU {t:List Nd} {k:Nat} (h:k<t.length):lK t k=tI t t[k]:=by
 unfold lK;rw [List.getElem?_eq_getElem h]
theorem iQ {t:List Nd} (hg:Good t) {k:Nat} (h:k<t.length):1≤t[k].op∧t[k].op≤16∧t[k].v<2^128∧(t[k].op≤3∨(t[k].a<k∧t[k].b<k)):=hg k t[k] (List.getElem?_eq_getElem h)
theorem xP {t:List Nd} (hg:Good t) {k:Nat} (h:k<t.length) {j:Nat} (hj:j<(ll t[k]).length):(ll t[k]).getD j 0<k:=by
 obtain ⟨h1,h2,h3,h4⟩:=iQ hg h
 generalize t[k]=n at *
 unfold ll at *
 by_cases h5:n.op≤3
 ·rw [if_pos h5] at hj;exact absurd hj (Nat.not_lt_zero _)
 ·have h4':n.a<k∧n.b<k:=by omega
  rw [if_neg h5] at hj ⊢
  split at hj
  ·rename_i h6
   rw [if_pos h6]
   have:j=0:=by simpa using hj
   subst this;exact h4'.1
  ·rename_i h6
   rw [if_neg h6]
   rcases (by simp at hj;omega:j=0∨j=1) with rfl|rfl
   ·exact h4'.1
   ·exact h4'.2
theorem wj {n:Nd}:(ll n).length≤2:=by
 unfold ll
 split
 ·exact Nat.zero_le _
 ·split<;>simp
def eo:List AV→AHeap→(AV→Prop)→Prop
 |[.slice _ 7 x,.int .i64 i],_,K=>∃ t k,(x=nds t∧i=((k:Nat):Int)∧k<t.length∧Good t∧t.length≤1000)∧K (.bool (lK t k))
 |_,_,_=>False
theorem vI:EntOk Try.prog 57 (Ent.pure eo):=by
 refine EntOk.pure fun args H K h=>?_
 unfold eo at h
 split at h
 rotate_left
 ·exact h.elim
 rename_i m x i
 obtain ⟨t,k,⟨rfl,rfl,hk,hg,hl⟩,hK⟩:=h
 refine ⟨_,hK,?_⟩
 clear hK
 obtain ⟨g1,g2,g3,g4⟩:=iQ hg hk
 have hQ:ow t (pZ t[k].op) (ll t[k])=lK t k:=by
  rw [mU hk]
  refine xI ⟨g1,g2⟩ ?_
  rcases g4 with h|h
  ·exact .inl h
  ·exact .inr (by omega)
 generalize lK t k=Q at *
 refine ACalls.fW ay (TblOk.cons lC (TblOk.cons nZ TblOk.nil)) Try.func57 [.tmp 4] (Nat.le_refl _) (T:=al []) (h:=fun hcl hlt=>?_)
 have hm:∀ n',H.nx≤n'→AV.lt n' (.slice m 7 (nds t)):=fun n' hn=>AV.lt_mono hn _ (hlt (.slice m 7 (nds t)) (by simp))
 clear hlt
 simp only [go_sem,az,cK hk,Int.toNat_natCast,ex,gJ]
 refine ⟨by omega,t[k].op,⟨rfl,g1,g2⟩,t[k],⟨rfl,g1,g2⟩,?_⟩
 simp only [go_sem,eG]
 have hol:=@wj t[k]
 have hon:=@xP t hg k hk
 generalize ll t[k]=d at *
 refine aF (A:=Nat × Nat) (fun a=>[(0,.slice m 7 (nds t)),(1,.int .i64 (k:Int)),(6,.int .i64 (a.2:Int)),(19,.slice .any 1 (its d)),(20,.int .i64 (d.length:Int)),(21,.int .i64 (a.1:Int))]) (fun a=>H)
  (fun a=>a.1≤d.length∧ow t a.2 (d.drop a.1)=Q) (fun a=>d.length - a.1) (0,pZ t[k].op) ⟨by omega,hQ⟩ ?_ fun a ha=>?_
 ·(simp only [bkq,enterW,bf,ltF,ne_eq,Nat.reduceEqDiff,reduceCtorEq,hm,bk];try simp (disch:=first|assumption|omega|(simp;done)|(simp;omega)|(simp only [bt,and_true];first|done|omega|(simp;done))) [↓zmk,beq,ybc,ybd,ybe,ae,wk,wk2,wk1,wkM,wkL,ah,ybf,byq,biq,aj,hcl,hm,bk];try (repeat' (first|assumption|omega|exact True.intro|refine And.intro ?_ ?_|refine af ?_|refine aa ?_|refine ac ?_ ?_|refine ag ?_ ?_|refine ai ?_|exact AHeap.Le.refl _|refine AHeap.Le.push ?_ _|refine AHeap.Le.del ?_ ?_|(simp only [bt,and_true,true_and,hm,bk];first|done|omega|(simp;done)))))
 obtain ⟨j,w⟩:=a
 obtain ⟨hj,hq⟩:=ha
 dsimp only at hj hq ⊢
 simp only [go_sem]
 refine ar (fun hc=>?_) (fun hc=>?_)
 ·have hj1:j<d.length:=by simp at hc;omega
  have e5:IntKind.i64.wrap ((j:Int)+1)=((j+1:Nat):Int):=by rw [wrap_i64]<;>omega
  have ha:=hon hj1
  have hdr:d.drop j=d.getD j 0::d.drop (j+1):=by rw [List.drop_eq_getElem_cons hj1];simp [List.getD_eq_getElem?_getD,hj1]
  rw [hdr] at hq
  simp only [ow] at hq
  have hget:=@nI d j hj1
  generalize d.getD j 0=b at *
  have hb:b<t.length:=by omega
  obtain ⟨q1,q2,q3,q4⟩:=iQ hg hb
  rw [ot hb] at hq
  have d1:decide ((b:Int)<0)=false:=by simp
  have d2:decide ((b:Int) ≥ (k:Int))=false:=by simp;omega
  simp only [go_sem,eG,Int.toNat_natCast,hget,d1,d2,az,cK hb,ex]
  refine ⟨by omega,by omega,t[b].op,⟨rfl,q1,q2⟩,?_⟩
  generalize gC t[b].op=r at *
  by_cases hw:w=0
  ·subst hw
   have c1:(((0:Nat):Int)==0)=true:=rfl
   rw [if_pos (by rw [if_pos rfl]),if_pos rfl] at hq
   simp only [go_sem,c1,bne_self_eq_false,e5]
   refine ⟨(j+1,r),⟨by dsimp only;omega,hq⟩,by dsimp only;omega,?_⟩
   (simp only [bkq,enterW,bf,ltF,ne_eq,Nat.reduceEqDiff,reduceCtorEq,hm,bk];try simp (disch:=first|assumption|omega|(simp;done)|(simp;omega)|(simp only [bt,and_true];first|done|omega|(simp;done))) [↓zmk,beq,ybc,ybd,ybe,ae,wk,wk2,wk1,wkM,wkL,ah,ybf,byq,biq,aj,hcl,hm,bk];try (repeat' (first|assumption|omega|exact True.intro|refine And.intro ?_ ?_|refine af ?_|refine aa ?_|refine ac ?_ ?_|refine ag ?_ ?_|refine ai ?_|exact AHeap.Le.refl _|refine AHeap.Le.push ?_ _|refine AHeap.Le.del ?_ ?_|(simp only [bt,and_true,true_and,hm,bk];first|done|omega|(simp;done)))))
  ·have c1:((w:Int)==0)=false:=by simp;omega
   rw [if_neg hw] at hq
   by_cases hr:r=w
   ·subst hr
    rw [if_pos rfl] at hq
    simp only [go_sem,c1,bne_self_eq_false,e5]
    refine ⟨(j+1,r),⟨by dsimp only;omega,hq⟩,by dsimp only;omega,?_⟩
    (simp only [bkq,enterW,bf,ltF,ne_eq,Nat.reduceEqDiff,reduceCtorEq,hm,bk];try simp (disch:=first|assumption|omega|(simp;done)|(simp;omega)|(simp only [bt,and_true];first|done|omega|(simp;done))) [↓zmk,beq,ybc,ybd,ybe,ae,wk,wk2,wk1,wkM,wkL,ah,ybf,byq,biq,aj,hcl,hm,bk];try (repeat' (first|assumption|omega|exact True.intro|refine And.intro ?_ ?_|refine af ?_|refine aa ?_|refine ac ?_ ?_|refine ag ?_ ?_|refine ai ?_|exact AHeap.Le.refl _|refine AHeap.Le.push ?_ _|refine AHeap.Le.del ?_ ?_|(simp only [bt,and_true,true_and,hm,bk];first|done|omega|(simp;done)))))
   ·have c2:((r:Int) != (w:Int))=true:=by simp;omega
    rw [if_neg hr] at hq
    subst hq
    simp only [go_sem,c1,c2]
    simp (disch:=first|assumption|omega|(simp;done)|(simp;omega)|(simp only [bt,and_true];first|done|omega|(simp;done))) [↓zmk,beq,ybc,ybd,ybe,ae,wk,wk2,wk1,wkM,wkL,ah,ybf,hcl]
 ·have hj1:j=d.length:=by simp at hc;omega
  subst hj1
  rw [List.drop_length] at hq
  subst hq
  simp only [go_sem,ow]
  simp (disch:=first|assumption|omega|(simp;done)|(simp;omega)|(simp only [bt,and_true];first|done|omega|(simp;done))) [↓zmk,beq,ybc,ybd,ybe,ae,wk,wk2,wk1,wkM,wkL,ah,ybf,hcl]
end Go.AL
open Go Go.AL Go.Proofs
namespace Go.AL
set_option linter.all false
set_option maxRecDepth 10000
theorem xX:ti Try.prog 164=some ⟨.map 102 4,1,8,.nilm⟩:=by kernel_rfl
attribute [go_sem] xX
def okT (t:List Nd):Prop:=Good t∧AllN lF t∧t.length≤1000
def wX (vs:List VN):Prop:=vs.length≤1000∧∀ v∈vs,v.1.length≤1000∧v.2.length≤1000
theorem gd:WideMaps.KeyLaw Try.prog 102:=deep_law (m:=3) (by decide) (by kernel_rfl) (by kernel_rfl) (by kernel_rfl)
theorem ej {v:VN} (h1:v.1.length≤1000) (h2:v.2.length≤1000):df Try.prog 102 (.agg [.str v.1,.str v.2]) :=
 sO (n:=Try.prog.types.size - 1) (by rw [rK];rfl) (by rw [lS];rfl) (by kernel_rfl) (by kernel_rfl) (by kernel_rfl) (by kernel_rfl) h1 h2
theorem mF {vs:List VN} (h:∀ v∈vs,v.1.length≤1000∧v.2.length≤1000) (k:Nat):∀ p∈iK (vs.take k),df Try.prog 102 p.1:=by
 intro p hp
 obtain ⟨v,hv,rfl⟩:=wr hp
 obtain ⟨h1,h2⟩:=h v (List.mem_of_mem_take hv)
 exact ej h1 h2
def kW:List AV→AHeap→(AV→Prop)→Prop
 |[.slice _ 7 x,.slice _ 2 y],_,K=>∃ t vs,(x=nds t∧y=aX vs∧okT t∧wX vs)∧K (.tup [.int .i64 ((chk (aU vs) t).1:Int),.int .i64 ((chk (aU vs) t).2:Int)])
 |_,_,_=>False
theorem st:EntOk Try.prog 39 (Ent.pure kW):=by
 refine EntOk.pure fun args H K h=>?_
 unfold kW at h
 split at h
 rotate_left
 ·exact h.elim
 rename_i m x m2 y
 obtain ⟨t,vs,⟨rfl,rfl,⟨hg,hsh,hl⟩,hvl,hvs⟩,hK⟩:=h
 refine ⟨_,hK,?_⟩
 clear hK
 refine ACalls.fW ay (TblOk.cons vI (TblOk.cons lC TblOk.nil)) Try.func39 [.tmp 4,.tmp 5] (Nat.le_refl _) (T:=al []) (h:=fun hcl hlt=>?_)
 have hm:∀ n',H.nx≤n'→AV.lt n' (.slice m 7 (nds t)):=fun n' hn=>AV.lt_mono hn _ (hlt (.slice m 7 (nds t)) (by simp))
 have hm2:∀ n',H.nx≤n'→AV.lt n' (.slice m2 2 (aX vs)):=fun n' hn=>AV.lt_mono hn _ (hlt (.slice m2 2 (aX vs)) (by simp))
 clear hlt
 simp only [go_sem,zis,au,az]
 refine aF (A:=Nat × AHeap) (fun a=>[(0,.slice m 7 (nds t)),(6,.mapv H.nx),(13,.slice m2 2 (aX vs)),(14,.int .i64 (vs.length:Int)),(15,.int .i64 (a.1:Int))]) (fun a=>a.2)
  (fun a=>a.1≤vs.length∧H.Le a.2∧a.2.Closed∧a.2.get H.nx=some (.mapo (iK (vs.take a.1)))) (fun a=>vs.length - a.1) (0,H.push (.mapo [])) ⟨Nat.zero_le _,(AHeap.Le.refl _).push _,kQ hcl,AHeap.get_push_new _ _⟩ ?_ fun a ha=>?_
 ·(simp only [bkq,enterW,bf,ltF,ne_eq,Nat.reduceEqDiff,reduceCtorEq,hm,hm2];try simp (disch:=first|assumption|omega|(simp;done)|(simp;omega)|(simp only [bt,and_true];first|done|omega|(simp;done))) [↓zmk,beq,ybc,ybd,ybe,ae,wk,wk2,wk1,wkM,wkL,ah,ybf,byq,biq,aj,hcl,hm,hm2];try (repeat' (first|assumption|omega|exact True.intro|refine And.intro ?_ ?_|refine af ?_|refine aa ?_|refine ac ?_ ?_|refine ag ?_ ?_|refine ai ?_|exact AHeap.Le.refl _|refine AHeap.Le.push ?_ _|refine AHeap.Le.del ?_ ?_|(simp only [bt,and_true,true_and,hm,hm2];first|done|omega|(simp;done)))))
  exact kQ hcl
 obtain ⟨k,Hc⟩:=a
 obtain ⟨hk,hle,hcc,hid⟩:=ha
 dsimp only at hk hle hcc hid ⊢
 have hnx:H.nx<Hc.nx:=AHeap.get_lt hid
 have hne:(H.nx=Hc.nx)=False:=eq_false (by omega)
 simp only [go_sem]
 refine ar (fun hc=>?_) (fun hc=>?_)
 ·have hk1:k<vs.length:=by simp at hc;omega
  have e5:IntKind.i64.wrap ((k:Int)+1)=((k+1:Nat):Int):=by rw [wrap_i64]<;>omega
  obtain ⟨v1,v2⟩:=hvs vs[k] (List.getElem_mem hk1)
  simp only [go_sem,au,fR hk1,Int.toNat_natCast,ziu,hne,hid,e5]
  refine ⟨by omega,⟨gd,mF hvs k,ej v1 v2,rfl,rfl⟩,(k+1,Hc.set H.nx (.mapo (iK (vs.take (k+1))))),⟨by dsimp only;omega,bS hle (Nat.le_refl _),gm hcc,?_⟩,by dsimp only;omega,?_⟩
  ·dsimp only
   rw [aL,if_pos rfl,if_pos hnx]
  ·rw [tn hk1]
   have hcs:=@gm Hc H.nx ((cQ vs[k],.bool true)::iK (vs.take k)) hcc
   simp only [cQ] at hcs ⊢
   (simp only [bkq,enterW,bf,ltF,ne_eq,Nat.reduceEqDiff,reduceCtorEq,hm,hm2,hcs];try simp (disch:=first|assumption|omega|(simp;done)|(simp;omega)|(simp only [bt,and_true];first|done|omega|(simp;done))) [↓zmk,beq,ybc,ybd,ybe,ae,wk,wk2,wk1,wkM,wkL,ah,ybf,byq,biq,aj,hcl,hm,hm2,hcs];try (repeat' (first|assumption|omega|exact True.intro|refine And.intro ?_ ?_|refine af ?_|refine aa ?_|refine ac ?_ ?_|refine ag ?_ ?_|refine ai ?_|exact AHeap.Le.refl _|refine AHeap.Le.push ?_ _|refine AHeap.Le.del ?_ ?_|(simp only [bt,and_true,true_and,hm,hm2,hcs];first|done|omega|(simp;done)))))
 ·have hk1:k=vs.length:=by simp at hc;omega
  subst hk1
  rw [List.take_length] at hid
  have hvg:∀ p∈iK vs,df Try.prog 102 p.1:=by
   have:=mF hvs vs.length
   rwa [List.take_length] at this
  have hle2:H.nx≤Hc.nx:=hle.nx
  simp only [go_sem,az]
  unfold chk
  obtain ⟨Q,hQ⟩:∃ Q,dJ (aU vs) t t.length 0=Q:=⟨_,rfl⟩
  rw [hQ]
  refine aF (A:=Nat) (fun k=>[(0,.slice m 7 (nds t)),(6,.mapv H.nx),(22,.slice m 7 (nds t)),(23,.int .i64 (t.length:Int)),(24,.int .i64 (k:Int))]) (fun _=>Hc)
   (fun k=>k≤t.length∧dJ (aU vs) t (t.length - k) k=Q) (fun k=>t.length - k) 0 ⟨Nat.zero_le _,hQ⟩ ?_ fun k ha=>?_
  ·(simp only [bkq,enterW,bf,ltF,ne_eq,Nat.reduceEqDiff,reduceCtorEq,hm,hcc,hnx];try simp (disch:=first|assumption|omega|(simp;done)|(simp;omega)|(simp only [bt,and_true];first|done|omega|(simp;done))) [↓zmk,beq,ybc,ybd,ybe,ae,wk,wk2,wk1,wkM,wkL,ah,ybf,byq,biq,aj,hcl,hm,hcc,hnx];try (repeat' (first|assumption|omega|exact True.intro|refine And.intro ?_ ?_|refine af ?_|refine aa ?_|refine ac ?_ ?_|refine ag ?_ ?_|refine ai ?_|exact AHeap.Le.refl _|refine AHeap.Le.push ?_ _|refine AHeap.Le.del ?_ ?_|(simp only [bt,and_true,true_and,hm,hcc,hnx];first|done|omega|(simp;done)))))
  obtain ⟨hk,hq⟩:=ha
  simp only [go_sem]
  refine ar (fun hc=>?_) (fun hc=>?_)
  ·have hk1:k<t.length:=by simp at hc;omega
   have e5:IntKind.i64.wrap ((k:Int)+1)=((k+1:Nat):Int):=by rw [wrap_i64]<;>omega
   rw [py hk1,nd hk1] at hq
   have hf:=mU hk1
   obtain ⟨s1,s2,s3⟩:=hsh t[k] (List.getElem_mem hk1)
   have hmg:fA (iK vs) (.agg [.str t[k].name,.str t[k].attr])=if aU vs (t[k].name,t[k].attr) then some (.bool true) else none:=tU (x:=(t[k].name,t[k].attr))
   by_cases h3:t[k].op=3
   ·have d3:((t[k].op:Int)==3)=true:=by simp [h3]
    cases hkn:aU vs (t[k].name,t[k].attr)
    ·rw [hkn,if_neg Bool.false_ne_true] at hmg
     have hz:eT (aU vs) t t[k]=6:=by unfold eT;rw [if_pos ⟨h3,hkn⟩]
     rw [hz,if_neg (by decide)] at hq
     subst hq
     simp only [go_sem,az,cK hk1,Int.toNat_natCast,zit,hid,hne,hmg,eo,e5,d3]
     refine ⟨by omega,⟨gd,hvg,ej (v:=(t[k].name,t[k].attr)) s1 s2,rfl⟩,?_⟩
     simp (disch:=first|assumption|omega|(simp;done)|(simp;omega)|(simp only [bt,and_true];first|done|omega|(simp;done))) [↓zmk,beq,ybc,ybd,ybe,ae,wk,wk2,wk1,wkM,wkL,ah,ybf,hcl,hle,hle.push _]
    ·rw [hkn,if_pos rfl] at hmg
     have hx:¬ (t[k].op=3∧aU vs (t[k].name,t[k].attr)=false):=fun h=>by rw [hkn] at h;cases h.2
     simp only [go_sem,az,cK hk1,Int.toNat_natCast,zit,hid,hne,hmg,eo,e5,d3]
     refine ⟨by omega,⟨gd,hvg,ej (v:=(t[k].name,t[k].attr)) s1 s2,rfl⟩,?_⟩
     cases hfb:lK t k
     ·have hz:eT (aU vs) t t[k]=12:=by unfold eT;rw [if_neg hx,← hf,hfb];rfl
      rw [hz,if_neg (by decide)] at hq
      subst hq
      refine ⟨t,k,⟨rfl,rfl,hk1,hg,hl⟩,?_⟩
      simp only [go_sem,az,cK hk1,Int.toNat_natCast,zit,hid,hne,hmg,eo,e5,d3,hfb]
      simp (disch:=first|assumption|omega|(simp;done)|(simp;omega)|(simp only [bt,and_true];first|done|omega|(simp;done))) [↓zmk,beq,ybc,ybd,ybe,ae,wk,wk2,wk1,wkM,wkL,ah,ybf,hcl,hle,hle.push _]
     ·have hz:eT (aU vs) t t[k]=0:=by unfold eT;rw [if_neg hx,← hf,hfb];rfl
      rw [hz,if_pos rfl] at hq
      refine ⟨t,k,⟨rfl,rfl,hk1,hg,hl⟩,?_⟩
      simp only [go_sem,az,cK hk1,Int.toNat_natCast,zit,hid,hne,hmg,eo,e5,d3,hfb]
      refine ⟨k+1,⟨by omega,hq⟩,by omega,?_⟩
      (simp only [bkq,enterW,bf,ltF,ne_eq,Nat.reduceEqDiff,reduceCtorEq,hm,hcc,hnx];try simp (disch:=first|assumption|omega|(simp;done)|(simp;omega)|(simp only [bt,and_true];first|done|omega|(simp;done))) [↓zmk,beq,ybc,ybd,ybe,ae,wk,wk2,wk1,wkM,wkL,ah,ybf,byq,biq,aj,hcl,hm,hcc,hnx];try (repeat' (first|assumption|omega|exact True.intro|refine And.intro ?_ ?_|refine af ?_|refine aa ?_|refine ac ?_ ?_|refine ag ?_ ?_|refine ai ?_|exact AHeap.Le.refl _|refine AHeap.Le.push ?_ _|refine AHeap.Le.del ?_ ?_|(simp only [bt,and_true,true_and,hm,hcc,hnx];first|done|omega|(simp;done)))))
   ·have d3:((t[k].op:Int)==3)=false:=beq_eq_false_iff_ne.2 (by omega)
    have hx:¬ (t[k].op=3∧aU vs (t[k].name,t[k].attr)=false):=fun h=>h3 h.1
    simp only [go_sem,az,cK hk1,Int.toNat_natCast,zit,hid,hne,hmg,eo,e5,d3]
    refine ⟨by omega,?_⟩
    cases hfb:lK t k
    ·have hz:eT (aU vs) t t[k]=12:=by unfold eT;rw [if_neg hx,← hf,hfb];rfl
     rw [hz,if_neg (by decide)] at hq
     subst hq
     refine ⟨t,k,⟨rfl,rfl,hk1,hg,hl⟩,?_⟩
     simp only [go_sem,az,cK hk1,Int.toNat_natCast,zit,hid,hne,hmg,eo,e5,d3,hfb]
     simp (disch:=first|assumption|omega|(simp;done)|(simp;omega)|(simp only [bt,and_true];first|done|omega|(simp;done))) [↓zmk,beq,ybc,ybd,ybe,ae,wk,wk2,wk1,wkM,wkL,ah,ybf,hcl,hle,hle.push _]
    ·have hz:eT (aU vs) t t[k]=0:=by unfold eT;rw [if_neg hx,← hf,hfb];rfl
     rw [hz,if_pos rfl] at hq
     refine ⟨t,k,⟨rfl,rfl,hk1,hg,hl⟩,?_⟩
     simp only [go_sem,az,cK hk1,Int.toNat_natCast,zit,hid,hne,hmg,eo,e5,d3,hfb]
     refine ⟨k+1,⟨by omega,hq⟩,by omega,?_⟩
     (simp only [bkq,enterW,bf,ltF,ne_eq,Nat.reduceEqDiff,reduceCtorEq,hm,hcc,hnx];try simp (disch:=first|assumption|omega|(simp;done)|(simp;omega)|(simp only [bt,and_true];first|done|omega|(simp;done))) [↓zmk,beq,ybc,ybd,ybe,ae,wk,wk2,wk1,wkM,wkL,ah,ybf,byq,biq,aj,hcl,hm,hcc,hnx];try (repeat' (first|assumption|omega|exact True.intro|refine And.intro ?_ ?_|refine af ?_|refine aa ?_|refine ac ?_ ?_|refine ag ?_ ?_|refine ai ?_|exact AHeap.Le.refl _|refine AHeap.Le.push ?_ _|refine AHeap.Le.del ?_ ?_|(simp only [bt,and_true,true_and,hm,hcc,hnx];first|done|omega|(simp;done)))))
  ·have hk1:k=t.length:=by simp at hc;omega
   subst hk1
   rw [Nat.sub_self] at hq
   have hq':none=Q:=hq
   subst hq'
   by_cases ht0:t.length=0
   ·have d1:decide (IntKind.i64.wrap ((t.length:Int) - 1)<0)=true:=by rw [ht0];rfl
    rw [if_pos ht0]
    simp only [go_sem,az,d1]
    simp (disch:=first|assumption|omega|(simp;done)|(simp;omega)|(simp only [bt,and_true];first|done|omega|(simp;done))) [↓zmk,beq,ybc,ybd,ybe,ae,wk,wk2,wk1,wkM,wkL,ah,ybf,hcl,hle,hle.push _]
   ·have e6:IntKind.i64.wrap ((t.length:Int) - 1)=((t.length - 1:Nat):Int):=by rw [wrap_i64]<;>omega
    have d1:decide (((t.length - 1:Nat):Int)<0)=false:=by simp
    have hk2:t.length - 1<t.length:=by omega
    obtain ⟨g1,g2,_⟩:=iQ hg hk2
    rw [if_neg ht0]
    have hna:=nu hk2
    rw [ot hk2] at hna
    rw [hna]
    rcases iB t[t.length - 1].op with hr|hr
    ·have d2:((gC t[t.length - 1].op:Int) != 2)=true:=by rw [hr];rfl
     rw [hr,if_pos (show ((1:Nat)==1)=true from rfl)]
     simp only [go_sem,az,cK hk2,Int.toNat_natCast,e6,d1,d2,ex]
     refine ⟨by omega,t[t.length - 1].op,⟨rfl,g1,g2⟩,?_⟩
     simp only [go_sem,d2]
     simp (disch:=first|assumption|omega|(simp;done)|(simp;omega)|(simp only [bt,and_true];first|done|omega|(simp;done))) [↓zmk,beq,ybc,ybd,ybe,ae,wk,wk2,wk1,wkM,wkL,ah,ybf,hcl,hle,hle.push _]
    ·have d2:((gC t[t.length - 1].op:Int) != 2)=false:=by rw [hr];rfl
     rw [hr,if_neg (show ¬ ((2:Nat)==1)=true by decide)]
     simp only [go_sem,az,cK hk2,Int.toNat_natCast,e6,d1,d2,ex]
     refine ⟨by omega,t[t.length - 1].op,⟨rfl,g1,g2⟩,?_⟩
     simp only [go_sem,d2]
     simp (disch:=first|assumption|omega|(simp;done)|(simp;omega)|(simp only [bt,and_true];first|done|omega|(simp;done))) [↓zmk,beq,ybc,ybd,ybe,ae,wk,wk2,wk1,wkM,wkL,ah,ybf,hcl,hle,hle.push _]
end Go.AL
open Go Go.AL Go.Proofs
namespace Go.AL
set_option linter.all false
set_option maxRecDepth 10000
end Go.AL
open Go Go.AL Go.Proofs
namespace Go.AL
set_option linter.all false
set_option maxRecDepth 10000
/-- what compiling gives, in memory -/
def fK (x:List Nd × Nat):AV:=.tup [.slice .any 7 (nds x.1),.int .i64 (x.2:Int)]
theorem wO (l:List Tok) (r:PR):∃ i:Int,fI l r=.tup [.slice .any 7 (nds (bG l r).1),.int .i64 i,.int .i64 ((bG l r).2:Int)]:=by
 cases r with
 |bad q=>exact ⟨(q:Int),rfl⟩
 |ok a p t =>
  by_cases hp:p<l.length
  ·exact ⟨(p:Int),by simp only [fI,bG];rw [if_pos hp,if_pos hp];rfl⟩
  ·by_cases hb:oL t=true
   ·exact ⟨0,by simp only [fI,bG];rw [if_neg hp,if_neg hp,if_pos hb,if_pos (show w5 t=true from hb)];rfl⟩
   ·exact ⟨0,by simp only [fI,bG];rw [if_neg hp,if_neg hp,if_neg hb,if_neg (show ¬ w5 t=true from hb)];rfl⟩
def fO:List AV→AHeap→(AV→Prop)→Prop
 |[.str s,.slice _ 2 y],_,K=>∃ vs,(y=aX vs∧wX vs∧s.length≤140737488355328)∧K (fK (ey (aU vs) s))
 |_,_,_=>False
theorem j0:EntOk Try.prog 20 (Ent.pure fO):=by
 refine EntOk.pure fun args H K h=>?_
 unfold fO at h
 split at h
 rotate_left
 ·exact h.elim
 rename_i s m2 y
 obtain ⟨vs,⟨rfl,hov,hsl⟩,hK⟩:=h
 refine ⟨_,hK,?_⟩
 clear hK
 refine ACalls.fW ay (TblOk.cons jG (TblOk.cons uB (TblOk.cons tm (TblOk.cons st TblOk.nil)))) Try.func20 [.tmp 4,.tmp 5] (Nat.le_refl _) (T:=al []) (h:=fun hcl hlt=>?_)
 have hm2:∀ n',H.nx≤n'→AV.lt n' (.slice m2 2 (aX vs)):=fun n' hn=>AV.lt_mono hn _ (hlt (.slice m2 2 (aX vs)) (by simp))
 clear hlt
 unfold ey
 by_cases hs:s=[]
 ·subst hs
  have d1:(([]:List UInt8)==[])=true:=rfl
  rw [if_pos rfl]
  simp only [go_sem,d1,jX]
  simp (disch:=first|assumption|omega|(simp;done)|(simp;omega)|(simp only [bt,and_true];first|done|omega|(simp;done))) [↓zmk,beq,ybc,ybd,ybe,ae,wk,wk2,wk1,wkM,wkL,ah,ybf,hcl,fK,oneT,nds,jr,zno,bM,znn,znb,znd,znq,znr]
 ·have d1:(s==[])=false:=by simp [hs]
  rw [if_neg hs]
  obtain ⟨hg1,hg2⟩:=nA s
  obtain ⟨f,hf⟩:=kG (a8 s).1
  generalize prs (a8 s).1=r at *
  obtain ⟨i,hpi⟩:=wO (a8 s).1 r
  obtain ⟨hpg,hpl,_⟩:=j8 hf
  have hps:=od hg2 hf
  generalize bG (a8 s).1 r=te at *
  obtain ⟨t,e⟩:=te
  dsimp only at hpi hpg hpl hps
  have hot:okT t:=⟨hpg,hps,by omega⟩
  obtain ⟨hc1,hc2⟩:=@ym (aU vs) t
  unfold m7
  by_cases he0:(a8 s).2.2=0
  ·have d2:((((a8 s).2.2:Nat):Int) != 0)=false:=by rw [he0];rfl
   rw [if_neg (fun h=>h he0)]
   simp only [go_sem,d1,kC,oa,hsl,d2,kU]
   refine ⟨(a8 s).1,f,r,⟨rfl,hf,by omega,hg2⟩,?_⟩
   simp only [go_sem,hpi]
   by_cases he:e=0
   ·subst he
    have d3:(((0:Nat):Int) != 0)=false:=rfl
    rw [if_neg (fun h=>h rfl)]
    simp only [go_sem,d3,kW]
    refine ⟨t,vs,⟨rfl,rfl,hot,hov⟩,?_⟩
    by_cases hch:(chk (aU vs) t).2=0
    ·have d4:((((chk (aU vs) t).2:Nat):Int) != 0)=false:=by rw [hch];rfl
     rw [if_neg (fun h=>h hch)]
     simp only [go_sem,d4]
     simp (disch:=first|assumption|omega|(simp;done)|(simp;omega)|(simp only [bt,and_true];first|done|omega|(simp;done))) [↓zmk,beq,ybc,ybd,ybe,ae,wk,wk2,wk1,wkM,wkL,ah,ybf,hcl,fK,zno,jK,znb,znq,znr]
    ·have d4:((((chk (aU vs) t).2:Nat):Int) != 0)=true:=bne_iff_ne.2 (by omega)
     rw [if_pos hch]
     simp only [go_sem,d4]
     simp (disch:=first|assumption|omega|(simp;done)|(simp;omega)|(simp only [bt,and_true];first|done|omega|(simp;done))) [↓zmk,beq,ybc,ybd,ybe,ae,wk,wk2,wk1,wkM,wkL,ah,ybf,hcl,fK,nds,zno,bM,znb,znq,znr]
   ·have d3:((e:Int) != 0)=true:=bne_iff_ne.2 (by omega)
    rw [if_pos he]
    simp only [go_sem,d3]
    simp (disch:=first|assumption|omega|(simp;done)|(simp;omega)|(simp only [bt,and_true];first|done|omega|(simp;done))) [↓zmk,beq,ybc,ybd,ybe,ae,wk,wk2,wk1,wkM,wkL,ah,ybf,hcl,fK,nds,zno,bM,znb,znq,znr]
  ·have d2:((((a8 s).2.2:Nat):Int) != 0)=true:=bne_iff_ne.2 (by omega)
   rw [if_pos he0]
   simp only [go_sem,d1,kC,oa,hsl,d2]
   simp (disch:=first|assumption|omega|(simp;done)|(simp;omega)|(simp only [bt,and_true];first|done|omega|(simp;done))) [↓zmk,beq,ybc,ybd,ybe,ae,wk,wk2,wk1,wkM,wkL,ah,ybf,hcl,fK,nds,zno,bM,znb,znq,znr]
end Go.AL
