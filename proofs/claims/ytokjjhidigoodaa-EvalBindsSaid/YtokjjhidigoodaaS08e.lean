/- Contracts and plain laws, a part of the proof; no condition of its own. -/
import Derived.Test.YtokjjhidigoodaaS07p
import Derived.Test.YtokjjhidigoodaaLTyp
import Derived.Test.YtokjjhidigoodaaAlMap
set_option maxHeartbeats 32000000
open List renaming length_cons → yaz, length_nil → yba, take_of_length_le → ybc, drop_append → ybd, take_append → ybe, drop_eq_nil_of_le → ybf
open Go Go.AL Go.Proofs
namespace Go.AL
set_option linter.all false
set_option maxRecDepth 10000
theorem CA:ti Try.prog 167=some ⟨.struct [(0,3,false),(1,3,false)],2,16,.agg [.int .i64 0,.int .i64 0]⟩:=by kernel_rfl
theorem yZ:ti Try.prog 195=some ⟨.slice 167,1,24,.slice .nil 1 []⟩:=by kernel_rfl
theorem vP:ti Try.prog 102=some ⟨.struct [(0,9,false),(1,9,false)],2,32,.agg [.str [],.str []]⟩:=by kernel_rfl
theorem zx:ti Try.prog 69=some ⟨.slice 102,1,24,.slice .nil 1 []⟩:=by kernel_rfl
theorem zy:ti Try.prog 70=some ⟨.slice 110,1,24,.slice .nil 1 []⟩:=by kernel_rfl
theorem Ce:ti Try.prog 110=some ⟨.struct [(0,9,false),(1,9,false)],2,32,.agg [.str [],.str []]⟩:=by kernel_rfl
attribute [go_sem] CA yZ vP zx zy Ce
def rulesL:List AV:=(List.range 16).map fun i=>.agg [.int .i64 (sT (i+1):Int),.int .i64 (jM (i+1):Int)]
theorem wU:rulesL=[.agg [.int .i64 0,.int .i64 1],.agg [.int .i64 0,.int .i64 2],.agg [.int .i64 0,.int .i64 1],.agg [.int .i64 1,.int .i64 1],.agg [.int .i64 2,.int .i64 2],.agg [.int .i64 1,.int .i64 1],.agg [.int .i64 1,.int .i64 1],.agg [.int .i64 0,.int .i64 2],
 .agg [.int .i64 0,.int .i64 2],.agg [.int .i64 1,.int .i64 2],.agg [.int .i64 1,.int .i64 2],.agg [.int .i64 1,.int .i64 2],.agg [.int .i64 1,.int .i64 2],.agg [.int .i64 2,.int .i64 2],.agg [.int .i64 2,.int .i64 2],.agg [.int .i64 2,.int .i64 2]]:=by rfl
theorem vp {k:Nat} (h:k<16):rulesL.getD k .junk=.agg [.int .i64 (sT (k+1):Int),.int .i64 (jM (k+1):Int)]:=by
 simp [rulesL,List.getD_eq_getElem?_getD,h]
theorem uu:rulesL.length=16:=by simp [rulesL]
def oG:List AV→AHeap→(AV→Prop)→Prop
 |[],_,K=>K (.slice .any 2 rulesL)
 |_,_,_=>False
theorem xU:EntOk Try.prog 81 (Ent.pure oG):=by
 refine EntOk.pure fun args H K h=>?_
 unfold oG at h
 split at h
 rotate_left
 ·exact h.elim
 refine ⟨_,h,?_⟩
 clear h
 rw [wU]
 refine ACalls.fW aD TblOk.nil Try.func81 [.tmp 0] (Nat.le_refl _) (T:=az []) (h:=fun hcl hlt=>?_)
 clear hlt
 simp only [go_sem]
 simp (disch:=first|assumption|omega|(simp;done)|(simp;omega)|(simp only [bt,and_true];first|done|omega|(simp;done))) [↓zmk,beq,ybc,ybd,ybe,ag,wk,wk2,wk1,wkM,wkL,am,ybf,hcl,aG,znn,znq,znr,znb]
def gE:List AV→AHeap→(AV→Prop)→Prop
 |[.int .i64 n],_,K=>∃ op:Nat,(n=(op:Int)∧1≤op∧op≤16)∧K (.agg [.int .i64 (sT op:Int),.int .i64 (jM op:Int)])
 |_,_,_=>False
theorem pq:EntOk Try.prog 58 (Ent.pure gE):=by
 refine EntOk.pure fun args H K h=>?_
 unfold gE at h
 split at h
 rotate_left
 ·exact h.elim
 obtain ⟨op,⟨rfl,h1,h2⟩,hK⟩:=h
 refine ⟨_,hK,?_⟩
 clear hK
 refine ACalls.fW aD (TblOk.cons xU TblOk.nil) Try.func58 [.cell 2 167] (Nat.le_refl _) (T:=az []) (h:=fun hcl hlt=>?_)
 clear hlt
 have d1:decide ((op:Int)<1)=false:=by simp;omega
 have d2:decide ((op:Int) > 16)=false:=by simp;omega
 have e1:IntKind.i64.wrap ((op:Int) - 1)=((op - 1:Nat):Int):=by rw [wrap_i64]<;>omega
 have e2:rulesL.getD (op - 1) .junk=.agg [.int .i64 (sT op:Int),.int .i64 (jM op:Int)]:=by rw [vp (by omega),show op - 1+1=op by omega]
 simp only [go_sem,d1,d2,e1,oG,uu,Int.toNat_natCast,e2]
 refine ⟨by omega,?_⟩
 simp (disch:=first|assumption|omega|(simp;done)|(simp;omega)|(simp only [bt,and_true];first|done|omega|(simp;done))) [↓zmk,beq,ybc,ybd,ybe,ag,wk,wk2,wk1,wkM,wkL,am,ybf,hcl,znn,znq,znr,znb]
def jA:List AV→AHeap→(AV→Prop)→Prop
 |[x],_,K=>∃ n,(x=mA n∧1≤n.op∧n.op≤16)∧K (.slice .any 1 (its (pe n)))
 |_,_,_=>False
theorem sw:EntOk Try.prog 80 (Ent.pure jA):=by
 refine EntOk.pure fun args H K h=>?_
 unfold jA at h
 split at h
 rotate_left
 ·exact h.elim
 obtain ⟨n,⟨rfl,h1,h2⟩,hK⟩:=h
 refine ⟨_,hK,?_⟩
 clear hK
 unfold pe
 by_cases h3:n.op≤3
 ·rw [if_pos h3]
  refine ACalls.fW aD TblOk.nil Try.func80 [.tmp 2] (Nat.le_refl _) (T:=az []) (h:=fun hcl hlt=>?_)
  clear hlt
  rcases (by omega:(n.op:Int)=1∨(n.op:Int)=2∨(n.op:Int)=3) with h|h|h <;>
  ·simp only [go_sem,mA,h,Int.reduceBEq]
   simp (disch:=first|assumption|omega|(simp;done)|(simp;omega)|(simp only [bt,and_true];first|done|omega|(simp;done))) [↓zmk,beq,ybc,ybd,ybe,ag,wk,wk2,wk1,wkM,wkL,am,ybf,hcl,its,aG,znq,znr,znb]
 rw [if_neg h3]
 by_cases h4:n.op=4∨n.op=5
 ·rw [if_pos h4]
  refine ACalls.fW aD TblOk.nil Try.func80 [.tmp 2] (Nat.le_refl _) (T:=az []) (h:=fun hcl hlt=>?_)
  clear hlt
  rcases (by omega:(n.op:Int)=4∨(n.op:Int)=5) with h|h <;>
  ·simp only [go_sem,mA,h,Int.reduceBEq]
   simp (disch:=first|assumption|omega|(simp;done)|(simp;omega)|(simp only [bt,and_true];first|done|omega|(simp;done))) [↓zmk,beq,ybc,ybd,ybe,ag,wk,wk2,wk1,wkM,wkL,am,ybf,hcl,its,aG,znq,znr,znb]
 ·rw [if_neg h4]
  have d1:((n.op:Int)==1)=false:=beq_eq_false_iff_ne.2 (by omega)
  have d2:((n.op:Int)==2)=false:=beq_eq_false_iff_ne.2 (by omega)
  have d3:((n.op:Int)==3)=false:=beq_eq_false_iff_ne.2 (by omega)
  have d4:((n.op:Int)==4)=false:=beq_eq_false_iff_ne.2 (by omega)
  have d5:((n.op:Int)==5)=false:=beq_eq_false_iff_ne.2 (by omega)
  refine ACalls.fW aD TblOk.nil Try.func80 [.tmp 2] (Nat.le_refl _) (T:=az []) (h:=fun hcl hlt=>?_)
  clear hlt
  simp only [go_sem,mA,d1,d2,d3,d4,d5]
  simp (disch:=first|assumption|omega|(simp;done)|(simp;omega)|(simp only [bt,and_true];first|done|omega|(simp;done))) [↓zmk,beq,ybc,ybd,ybe,ag,wk,wk2,wk1,wkM,wkL,am,ybf,hcl,its,aG,znq,znr,znb]
end Go.AL
open Go Go.AL Go.Proofs
namespace Go.AL
set_option linter.all false
set_option maxRecDepth 10000
def oz (t:List Nd) (k:Nat):Bool:=match t[k]? with
 |some n=>wM t n
 |none=>true
theorem qh {t:List Nd} {k:Nat} (h:k<t.length):oz t k=wM t t[k]:=by
 unfold oz;rw [List.getElem?_eq_getElem h]
theorem lP {t:List Nd} (hg:Good t) {k:Nat} (h:k<t.length):1≤t[k].op∧t[k].op≤16∧t[k].v<2^128∧(t[k].op≤3∨(t[k].a<k∧t[k].b<k)):=hg k t[k] (List.getElem?_eq_getElem h)
theorem Cs {t:List Nd} (hg:Good t) {k:Nat} (h:k<t.length) {j:Nat} (hj:j<(pe t[k]).length):(pe t[k]).getD j 0<k:=by
 obtain ⟨h1,h2,h3,h4⟩:=lP hg h
 generalize t[k]=n at *
 unfold pe at *
 by_cases h5:n.op≤3
 ·rw [if_pos h5] at hj;exact absurd hj (Nat.not_lt_zero _)
 ·have h4':n.a<k∧n.b<k:=by omega
  rw [if_neg h5] at hj ⊢
  split at hj
  ·rename_i h6
   rw [if_pos h6]
   have:j=0:=by simpa using hj
   subst this;exact h4'.1
  ·rename_i h6
   rw [if_neg h6]
   rcases (by simp at hj;omega:j=0∨j=1) with rfl|rfl
   ·exact h4'.1
   ·exact h4'.2
theorem Ae {n:Nd}:(pe n).length≤2:=by
 unfold pe
 split
 ·exact Nat.zero_le _
 ·split<;>simp
def gu:List AV→AHeap→(AV→Prop)→Prop
 |[.slice _ 7 x,.int .i64 i],_,K=>∃ t k,(x=nds t∧i=((k:Nat):Int)∧k<t.length∧Good t∧t.length≤1000)∧K (.bool (oz t k))
 |_,_,_=>False
theorem zU:EntOk Try.prog 57 (Ent.pure gu):=by
 refine EntOk.pure fun args H K h=>?_
 unfold gu at h
 split at h
 rotate_left
 ·exact h.elim
 rename_i m x i
 obtain ⟨t,k,⟨rfl,rfl,hk,hg,hl⟩,hK⟩:=h
 refine ⟨_,hK,?_⟩
 clear hK
 obtain ⟨g1,g2,g3,g4⟩:=lP hg hk
 have hQ:sg t (sT t[k].op) (pe t[k])=oz t k:=by
  rw [qh hk]
  refine BX ⟨g1,g2⟩ ?_
  rcases g4 with h|h
  ·exact .inl h
  ·exact .inr (by omega)
 generalize oz t k=Q at *
 refine ACalls.fW aD (TblOk.cons pq (TblOk.cons sw TblOk.nil)) Try.func57 [.tmp 4] (Nat.le_refl _) (T:=az []) (h:=fun hcl hlt=>?_)
 have hm:∀ n',H.nx≤n'→AV.lt n' (.slice m 7 (nds t)):=fun n' hn=>AV.lt_mono hn _ (hlt (.slice m 7 (nds t)) (by simp))
 clear hlt
 simp only [go_sem,aJ,ek hk,Int.toNat_natCast,gE,jA]
 refine ⟨by omega,t[k].op,⟨rfl,g1,g2⟩,t[k],⟨rfl,g1,g2⟩,?_⟩
 simp only [go_sem,gT]
 have hol:=@Ae t[k]
 have hon:=@Cs t hg k hk
 generalize pe t[k]=d at *
 refine aB (A:=Nat × Nat) (fun a=>[(0,.slice m 7 (nds t)),(1,.int .i64 (k:Int)),(6,.int .i64 (a.2:Int)),(19,.slice .any 1 (its d)),(20,.int .i64 (d.length:Int)),(21,.int .i64 (a.1:Int))]) (fun a=>H)
  (fun a=>a.1≤d.length∧sg t a.2 (d.drop a.1)=Q) (fun a=>d.length - a.1) (0,sT t[k].op) ⟨by omega,hQ⟩ ?_ fun a ha=>?_
 ·(simp only [bkq,enterW,aI,ltF,ne_eq,Nat.reduceEqDiff,reduceCtorEq,hm,cj];try simp (disch:=first|assumption|omega|(simp;done)|(simp;omega)|(simp only [bt,and_true];first|done|omega|(simp;done))) [↓zmk,beq,ybc,ybd,ybe,ag,wk,wk2,wk1,wkM,wkL,am,ybf,byq,biq,au,hcl,hm,cj];try (repeat' (first|assumption|omega|exact True.intro|refine And.intro ?_ ?_|refine af ?_|refine aa ?_|refine ae ?_ ?_|refine ah ?_ ?_|refine ak ?_|exact AHeap.Le.refl _|refine AHeap.Le.push ?_ _|refine AHeap.Le.del ?_ ?_|(simp only [bt,and_true,true_and,hm,cj];first|done|omega|(simp;done)))))
 obtain ⟨j,w⟩:=a
 obtain ⟨hj,hq⟩:=ha
 dsimp only at hj hq ⊢
 simp only [go_sem]
 refine ax (fun hc=>?_) (fun hc=>?_)
 ·have hj1:j<d.length:=by simp at hc;omega
  have e5:IntKind.i64.wrap ((j:Int)+1)=((j+1:Nat):Int):=by rw [wrap_i64]<;>omega
  have ha:=hon hj1
  have hdr:d.drop j=d.getD j 0::d.drop (j+1):=by rw [List.drop_eq_getElem_cons hj1];simp [List.getD_eq_getElem?_getD,hj1]
  rw [hdr] at hq
  simp only [sg] at hq
  have hget:=@rd d j hj1
  generalize d.getD j 0=b at *
  have hb:b<t.length:=by omega
  obtain ⟨q1,q2,q3,q4⟩:=lP hg hb
  rw [qZ hb] at hq
  have d1:decide ((b:Int)<0)=false:=by simp
  have d2:decide ((b:Int) ≥ (k:Int))=false:=by simp;omega
  simp only [go_sem,gT,Int.toNat_natCast,hget,d1,d2,aJ,ek hb,gE]
  refine ⟨by omega,by omega,t[b].op,⟨rfl,q1,q2⟩,?_⟩
  generalize jM t[b].op=r at *
  by_cases hw:w=0
  ·subst hw
   have c1:(((0:Nat):Int)==0)=true:=rfl
   rw [if_pos (by rw [if_pos rfl]),if_pos rfl] at hq
   simp only [go_sem,c1,bne_self_eq_false,e5]
   refine ⟨(j+1,r),⟨by dsimp only;omega,hq⟩,by dsimp only;omega,?_⟩
   (simp only [bkq,enterW,aI,ltF,ne_eq,Nat.reduceEqDiff,reduceCtorEq,hm,cj];try simp (disch:=first|assumption|omega|(simp;done)|(simp;omega)|(simp only [bt,and_true];first|done|omega|(simp;done))) [↓zmk,beq,ybc,ybd,ybe,ag,wk,wk2,wk1,wkM,wkL,am,ybf,byq,biq,au,hcl,hm,cj];try (repeat' (first|assumption|omega|exact True.intro|refine And.intro ?_ ?_|refine af ?_|refine aa ?_|refine ae ?_ ?_|refine ah ?_ ?_|refine ak ?_|exact AHeap.Le.refl _|refine AHeap.Le.push ?_ _|refine AHeap.Le.del ?_ ?_|(simp only [bt,and_true,true_and,hm,cj];first|done|omega|(simp;done)))))
  ·have c1:((w:Int)==0)=false:=by simp;omega
   rw [if_neg hw] at hq
   by_cases hr:r=w
   ·subst hr
    rw [if_pos rfl] at hq
    simp only [go_sem,c1,bne_self_eq_false,e5]
    refine ⟨(j+1,r),⟨by dsimp only;omega,hq⟩,by dsimp only;omega,?_⟩
    (simp only [bkq,enterW,aI,ltF,ne_eq,Nat.reduceEqDiff,reduceCtorEq,hm,cj];try simp (disch:=first|assumption|omega|(simp;done)|(simp;omega)|(simp only [bt,and_true];first|done|omega|(simp;done))) [↓zmk,beq,ybc,ybd,ybe,ag,wk,wk2,wk1,wkM,wkL,am,ybf,byq,biq,au,hcl,hm,cj];try (repeat' (first|assumption|omega|exact True.intro|refine And.intro ?_ ?_|refine af ?_|refine aa ?_|refine ae ?_ ?_|refine ah ?_ ?_|refine ak ?_|exact AHeap.Le.refl _|refine AHeap.Le.push ?_ _|refine AHeap.Le.del ?_ ?_|(simp only [bt,and_true,true_and,hm,cj];first|done|omega|(simp;done)))))
   ·have c2:((r:Int) != (w:Int))=true:=by simp;omega
    rw [if_neg hr] at hq
    subst hq
    simp only [go_sem,c1,c2]
    simp (disch:=first|assumption|omega|(simp;done)|(simp;omega)|(simp only [bt,and_true];first|done|omega|(simp;done))) [↓zmk,beq,ybc,ybd,ybe,ag,wk,wk2,wk1,wkM,wkL,am,ybf,hcl]
 ·have hj1:j=d.length:=by simp at hc;omega
  subst hj1
  rw [List.drop_length] at hq
  subst hq
  simp only [go_sem,sg]
  simp (disch:=first|assumption|omega|(simp;done)|(simp;omega)|(simp only [bt,and_true];first|done|omega|(simp;done))) [↓zmk,beq,ybc,ybd,ybe,ag,wk,wk2,wk1,wkM,wkL,am,ybf,hcl]
end Go.AL
open Go Go.AL Go.Proofs
namespace Go.AL
set_option linter.all false
set_option maxRecDepth 10000
theorem Bm:ti Try.prog 164=some ⟨.map 102 4,1,8,.nilm⟩:=by kernel_rfl
attribute [go_sem] Bm
def okT (t:List Nd):Prop:=Good t∧AllN oq t∧t.length≤1000
def CU (vs:List VN):Prop:=vs.length≤1000∧∀ v∈vs,v.1.length≤1000∧v.2.length≤1000
theorem jt:WideMaps.KeyLaw Try.prog 102:=deep_law (m:=3) (by decide) (by kernel_rfl) (by kernel_rfl) (by kernel_rfl)
theorem gA {v:VN} (h1:v.1.length≤1000) (h2:v.2.length≤1000):fp Try.prog 102 (.agg [.str v.1,.str v.2]) :=
 yf (n:=Try.prog.types.size - 1) (by rw [vP];rfl) (by rw [eP];rfl) (by kernel_rfl) (by kernel_rfl) (by kernel_rfl) (by kernel_rfl) h1 h2
theorem qt {vs:List VN} (h:∀ v∈vs,v.1.length≤1000∧v.2.length≤1000) (k:Nat):∀ p∈lh (vs.take k),fp Try.prog 102 p.1:=by
 intro p hp
 obtain ⟨v,hv,rfl⟩:=Ao hp
 obtain ⟨h1,h2⟩:=h v (List.mem_of_mem_take hv)
 exact gA h1 h2
def oV:List AV→AHeap→(AV→Prop)→Prop
 |[.slice _ 7 x,.slice _ 2 y],_,K=>∃ t vs,(x=nds t∧y=bJ vs∧okT t∧CU vs)∧K (.tup [.int .i64 ((chk (bP vs) t).1:Int),.int .i64 ((chk (bP vs) t).2:Int)])
 |_,_,_=>False
theorem xS:EntOk Try.prog 39 (Ent.pure oV):=by
 refine EntOk.pure fun args H K h=>?_
 unfold oV at h
 split at h
 rotate_left
 ·exact h.elim
 rename_i m x m2 y
 obtain ⟨t,vs,⟨rfl,rfl,⟨hg,hsh,hl⟩,hvl,hvs⟩,hK⟩:=h
 refine ⟨_,hK,?_⟩
 clear hK
 refine ACalls.fW aD (TblOk.cons zU (TblOk.cons pq TblOk.nil)) Try.func39 [.tmp 4,.tmp 5] (Nat.le_refl _) (T:=az []) (h:=fun hcl hlt=>?_)
 have hm:∀ n',H.nx≤n'→AV.lt n' (.slice m 7 (nds t)):=fun n' hn=>AV.lt_mono hn _ (hlt (.slice m 7 (nds t)) (by simp))
 have hm2:∀ n',H.nx≤n'→AV.lt n' (.slice m2 2 (bJ vs)):=fun n' hn=>AV.lt_mono hn _ (hlt (.slice m2 2 (bJ vs)) (by simp))
 clear hlt
 simp only [go_sem,zis,br,aJ]
 refine aB (A:=Nat × AHeap) (fun a=>[(0,.slice m 7 (nds t)),(6,.mapv H.nx),(13,.slice m2 2 (bJ vs)),(14,.int .i64 (vs.length:Int)),(15,.int .i64 (a.1:Int))]) (fun a=>a.2)
  (fun a=>a.1≤vs.length∧H.Le a.2∧a.2.Closed∧a.2.get H.nx=some (.mapo (lh (vs.take a.1)))) (fun a=>vs.length - a.1) (0,H.push (.mapo [])) ⟨Nat.zero_le _,(AHeap.Le.refl _).push _,od hcl,AHeap.get_push_new _ _⟩ ?_ fun a ha=>?_
 ·(simp only [bkq,enterW,aI,ltF,ne_eq,Nat.reduceEqDiff,reduceCtorEq,hm,hm2];try simp (disch:=first|assumption|omega|(simp;done)|(simp;omega)|(simp only [bt,and_true];first|done|omega|(simp;done))) [↓zmk,beq,ybc,ybd,ybe,ag,wk,wk2,wk1,wkM,wkL,am,ybf,byq,biq,au,hcl,hm,hm2];try (repeat' (first|assumption|omega|exact True.intro|refine And.intro ?_ ?_|refine af ?_|refine aa ?_|refine ae ?_ ?_|refine ah ?_ ?_|refine ak ?_|exact AHeap.Le.refl _|refine AHeap.Le.push ?_ _|refine AHeap.Le.del ?_ ?_|(simp only [bt,and_true,true_and,hm,hm2];first|done|omega|(simp;done)))))
  exact od hcl
 obtain ⟨k,Hc⟩:=a
 obtain ⟨hk,hle,hcc,hid⟩:=ha
 dsimp only at hk hle hcc hid ⊢
 have hnx:H.nx<Hc.nx:=AHeap.get_lt hid
 have hne:(H.nx=Hc.nx)=False:=eq_false (by omega)
 simp only [go_sem]
 refine ax (fun hc=>?_) (fun hc=>?_)
 ·have hk1:k<vs.length:=by simp at hc;omega
  have e5:IntKind.i64.wrap ((k:Int)+1)=((k+1:Nat):Int):=by rw [wrap_i64]<;>omega
  obtain ⟨v1,v2⟩:=hvs vs[k] (List.getElem_mem hk1)
  simp only [go_sem,br,gH hk1,Int.toNat_natCast,ziu,hne,hid,e5]
  refine ⟨by omega,⟨jt,qt hvs k,gA v1 v2,rfl,rfl⟩,(k+1,Hc.set H.nx (.mapo (lh (vs.take (k+1))))),⟨by dsimp only;omega,aX hle (Nat.le_refl _),jH hcc,?_⟩,by dsimp only;omega,?_⟩
  ·dsimp only
   rw [aq,if_pos rfl,if_pos hnx]
  ·rw [w4 hk1]
   have hcs:=@jH Hc H.nx ((eA vs[k],.bool true)::lh (vs.take k)) hcc
   simp only [eA] at hcs ⊢
   (simp only [bkq,enterW,aI,ltF,ne_eq,Nat.reduceEqDiff,reduceCtorEq,hm,hm2,hcs];try simp (disch:=first|assumption|omega|(simp;done)|(simp;omega)|(simp only [bt,and_true];first|done|omega|(simp;done))) [↓zmk,beq,ybc,ybd,ybe,ag,wk,wk2,wk1,wkM,wkL,am,ybf,byq,biq,au,hcl,hm,hm2,hcs];try (repeat' (first|assumption|omega|exact True.intro|refine And.intro ?_ ?_|refine af ?_|refine aa ?_|refine ae ?_ ?_|refine ah ?_ ?_|refine ak ?_|exact AHeap.Le.refl _|refine AHeap.Le.push ?_ _|refine AHeap.Le.del ?_ ?_|(simp only [bt,and_true,true_and,hm,hm2,hcs];first|done|omega|(simp;done)))))
 ·have hk1:k=vs.length:=by simp at hc;omega
  subst hk1
  rw [List.take_length] at hid
  have hvg:∀ p∈lh vs,fp Try.prog 102 p.1:=by
   have:=qt hvs vs.length
   rwa [List.take_length] at this
  have hle2:H.nx≤Hc.nx:=hle.nx
  simp only [go_sem,aJ]
  unfold chk
  obtain ⟨Q,hQ⟩:∃ Q,fH (bP vs) t t.length 0=Q:=⟨_,rfl⟩
  rw [hQ]
  refine aB (A:=Nat) (fun k=>[(0,.slice m 7 (nds t)),(6,.mapv H.nx),(22,.slice m 7 (nds t)),(23,.int .i64 (t.length:Int)),(24,.int .i64 (k:Int))]) (fun _=>Hc)
   (fun k=>k≤t.length∧fH (bP vs) t (t.length - k) k=Q) (fun k=>t.length - k) 0 ⟨Nat.zero_le _,hQ⟩ ?_ fun k ha=>?_
  ·(simp only [bkq,enterW,aI,ltF,ne_eq,Nat.reduceEqDiff,reduceCtorEq,hm,hcc,hnx];try simp (disch:=first|assumption|omega|(simp;done)|(simp;omega)|(simp only [bt,and_true];first|done|omega|(simp;done))) [↓zmk,beq,ybc,ybd,ybe,ag,wk,wk2,wk1,wkM,wkL,am,ybf,byq,biq,au,hcl,hm,hcc,hnx];try (repeat' (first|assumption|omega|exact True.intro|refine And.intro ?_ ?_|refine af ?_|refine aa ?_|refine ae ?_ ?_|refine ah ?_ ?_|refine ak ?_|exact AHeap.Le.refl _|refine AHeap.Le.push ?_ _|refine AHeap.Le.del ?_ ?_|(simp only [bt,and_true,true_and,hm,hcc,hnx];first|done|omega|(simp;done)))))
  obtain ⟨hk,hq⟩:=ha
  simp only [go_sem]
  refine ax (fun hc=>?_) (fun hc=>?_)
  ·have hk1:k<t.length:=by simp at hc;omega
   have e5:IntKind.i64.wrap ((k:Int)+1)=((k+1:Nat):Int):=by rw [wrap_i64]<;>omega
   rw [tr hk1,qq hk1] at hq
   have hf:=qh hk1
   obtain ⟨s1,s2,s3⟩:=hsh t[k] (List.getElem_mem hk1)
   have hmg:iT (lh vs) (.agg [.str t[k].name,.str t[k].attr])=if bP vs (t[k].name,t[k].attr) then some (.bool true) else none:=wJ (x:=(t[k].name,t[k].attr))
   by_cases h3:t[k].op=3
   ·have d3:((t[k].op:Int)==3)=true:=by simp [h3]
    cases hkn:bP vs (t[k].name,t[k].attr)
    ·rw [hkn,if_neg Bool.false_ne_true] at hmg
     have hz:hU (bP vs) t t[k]=6:=by unfold hU;rw [if_pos ⟨h3,hkn⟩]
     rw [hz,if_neg (by decide)] at hq
     subst hq
     simp only [go_sem,aJ,ek hk1,Int.toNat_natCast,zit,hid,hne,hmg,gu,e5,d3]
     refine ⟨by omega,⟨jt,hvg,gA (v:=(t[k].name,t[k].attr)) s1 s2,rfl⟩,?_⟩
     simp (disch:=first|assumption|omega|(simp;done)|(simp;omega)|(simp only [bt,and_true];first|done|omega|(simp;done))) [↓zmk,beq,ybc,ybd,ybe,ag,wk,wk2,wk1,wkM,wkL,am,ybf,hcl,hle,hle.push _]
    ·rw [hkn,if_pos rfl] at hmg
     have hx:¬ (t[k].op=3∧bP vs (t[k].name,t[k].attr)=false):=fun h=>by rw [hkn] at h;cases h.2
     simp only [go_sem,aJ,ek hk1,Int.toNat_natCast,zit,hid,hne,hmg,gu,e5,d3]
     refine ⟨by omega,⟨jt,hvg,gA (v:=(t[k].name,t[k].attr)) s1 s2,rfl⟩,?_⟩
     cases hfb:oz t k
     ·have hz:hU (bP vs) t t[k]=12:=by unfold hU;rw [if_neg hx,← hf,hfb];rfl
      rw [hz,if_neg (by decide)] at hq
      subst hq
      refine ⟨t,k,⟨rfl,rfl,hk1,hg,hl⟩,?_⟩
      simp only [go_sem,aJ,ek hk1,Int.toNat_natCast,zit,hid,hne,hmg,gu,e5,d3,hfb]
      simp (disch:=first|assumption|omega|(simp;done)|(simp;omega)|(simp only [bt,and_true];first|done|omega|(simp;done))) [↓zmk,beq,ybc,ybd,ybe,ag,wk,wk2,wk1,wkM,wkL,am,ybf,hcl,hle,hle.push _]
     ·have hz:hU (bP vs) t t[k]=0:=by unfold hU;rw [if_neg hx,← hf,hfb];rfl
      rw [hz,if_pos rfl] at hq
      refine ⟨t,k,⟨rfl,rfl,hk1,hg,hl⟩,?_⟩
      simp only [go_sem,aJ,ek hk1,Int.toNat_natCast,zit,hid,hne,hmg,gu,e5,d3,hfb]
      refine ⟨k+1,⟨by omega,hq⟩,by omega,?_⟩
      (simp only [bkq,enterW,aI,ltF,ne_eq,Nat.reduceEqDiff,reduceCtorEq,hm,hcc,hnx];try simp (disch:=first|assumption|omega|(simp;done)|(simp;omega)|(simp only [bt,and_true];first|done|omega|(simp;done))) [↓zmk,beq,ybc,ybd,ybe,ag,wk,wk2,wk1,wkM,wkL,am,ybf,byq,biq,au,hcl,hm,hcc,hnx];try (repeat' (first|assumption|omega|exact True.intro|refine And.intro ?_ ?_|refine af ?_|refine aa ?_|refine ae ?_ ?_|refine ah ?_ ?_|refine ak ?_|exact AHeap.Le.refl _|refine AHeap.Le.push ?_ _|refine AHeap.Le.del ?_ ?_|(simp only [bt,and_true,true_and,hm,hcc,hnx];first|done|omega|(simp;done)))))
   ·have d3:((t[k].op:Int)==3)=false:=beq_eq_false_iff_ne.2 (by omega)
    have hx:¬ (t[k].op=3∧bP vs (t[k].name,t[k].attr)=false):=fun h=>h3 h.1
    simp only [go_sem,aJ,ek hk1,Int.toNat_natCast,zit,hid,hne,hmg,gu,e5,d3]
    refine ⟨by omega,?_⟩
    cases hfb:oz t k
    ·have hz:hU (bP vs) t t[k]=12:=by unfold hU;rw [if_neg hx,← hf,hfb];rfl
     rw [hz,if_neg (by decide)] at hq
     subst hq
     refine ⟨t,k,⟨rfl,rfl,hk1,hg,hl⟩,?_⟩
     simp only [go_sem,aJ,ek hk1,Int.toNat_natCast,zit,hid,hne,hmg,gu,e5,d3,hfb]
     simp (disch:=first|assumption|omega|(simp;done)|(simp;omega)|(simp only [bt,and_true];first|done|omega|(simp;done))) [↓zmk,beq,ybc,ybd,ybe,ag,wk,wk2,wk1,wkM,wkL,am,ybf,hcl,hle,hle.push _]
    ·have hz:hU (bP vs) t t[k]=0:=by unfold hU;rw [if_neg hx,← hf,hfb];rfl
     rw [hz,if_pos rfl] at hq
     refine ⟨t,k,⟨rfl,rfl,hk1,hg,hl⟩,?_⟩
     simp only [go_sem,aJ,ek hk1,Int.toNat_natCast,zit,hid,hne,hmg,gu,e5,d3,hfb]
     refine ⟨k+1,⟨by omega,hq⟩,by omega,?_⟩
     (simp only [bkq,enterW,aI,ltF,ne_eq,Nat.reduceEqDiff,reduceCtorEq,hm,hcc,hnx];try simp (disch:=first|assumption|omega|(simp;done)|(simp;omega)|(simp only [bt,and_true];first|done|omega|(simp;done))) [↓zmk,beq,ybc,ybd,ybe,ag,wk,wk2,wk1,wkM,wkL,am,ybf,byq,biq,au,hcl,hm,hcc,hnx];try (repeat' (first|assumption|omega|exact True.intro|refine And.intro ?_ ?_|refine af ?_|refine aa ?_|refine ae ?_ ?_|refine ah ?_ ?_|refine ak ?_|exact AHeap.Le.refl _|refine AHeap.Le.push ?_ _|refine AHeap.Le.del ?_ ?_|(simp only [bt,and_true,true_and,hm,hcc,hnx];first|done|omega|(simp;done)))))
  ·have hk1:k=t.length:=by simp at hc;omega
   subst hk1
   rw [Nat.sub_self] at hq
   have hq':none=Q:=hq
   subst hq'
   by_cases ht0:t.length=0
   ·have d1:decide (IntKind.i64.wrap ((t.length:Int) - 1)<0)=true:=by rw [ht0];rfl
    rw [if_pos ht0]
    simp only [go_sem,aJ,d1]
    simp (disch:=first|assumption|omega|(simp;done)|(simp;omega)|(simp only [bt,and_true];first|done|omega|(simp;done))) [↓zmk,beq,ybc,ybd,ybe,ag,wk,wk2,wk1,wkM,wkL,am,ybf,hcl,hle,hle.push _]
   ·have e6:IntKind.i64.wrap ((t.length:Int) - 1)=((t.length - 1:Nat):Int):=by rw [wrap_i64]<;>omega
    have d1:decide (((t.length - 1:Nat):Int)<0)=false:=by simp
    have hk2:t.length - 1<t.length:=by omega
    obtain ⟨g1,g2,_⟩:=lP hg hk2
    rw [if_neg ht0]
    have hna:=sr hk2
    rw [qZ hk2] at hna
    rw [hna]
    rcases kX t[t.length - 1].op with hr|hr
    ·have d2:((jM t[t.length - 1].op:Int) != 2)=true:=by rw [hr];rfl
     rw [hr,if_pos (show ((1:Nat)==1)=true from rfl)]
     simp only [go_sem,aJ,ek hk2,Int.toNat_natCast,e6,d1,d2,gE]
     refine ⟨by omega,t[t.length - 1].op,⟨rfl,g1,g2⟩,?_⟩
     simp only [go_sem,d2]
     simp (disch:=first|assumption|omega|(simp;done)|(simp;omega)|(simp only [bt,and_true];first|done|omega|(simp;done))) [↓zmk,beq,ybc,ybd,ybe,ag,wk,wk2,wk1,wkM,wkL,am,ybf,hcl,hle,hle.push _]
    ·have d2:((jM t[t.length - 1].op:Int) != 2)=false:=by rw [hr];rfl
     rw [hr,if_neg (show ¬ ((2:Nat)==1)=true by decide)]
     simp only [go_sem,aJ,ek hk2,Int.toNat_natCast,e6,d1,d2,gE]
     refine ⟨by omega,t[t.length - 1].op,⟨rfl,g1,g2⟩,?_⟩
     simp only [go_sem,d2]
     simp (disch:=first|assumption|omega|(simp;done)|(simp;omega)|(simp only [bt,and_true];first|done|omega|(simp;done))) [↓zmk,beq,ybc,ybd,ybe,ag,wk,wk2,wk1,wkM,wkL,am,ybf,hcl,hle,hle.push _]
end Go.AL
open Go Go.AL Go.Proofs
namespace Go.AL
set_option linter.all false
set_option maxRecDepth 10000
end Go.AL
open Go Go.AL Go.Proofs
namespace Go.AL
set_option linter.all false
set_option maxRecDepth 10000
/-- what compiling gives, in memory -/
def kO (x:List Nd × Nat):AV:=.tup [.slice .any 7 (nds x.1),.int .i64 (x.2:Int)]
theorem BC (l:List Tok) (r:PR):∃ i:Int,i6 l r=.tup [.slice .any 7 (nds (cT l r).1),.int .i64 i,.int .i64 ((cT l r).2:Int)]:=by
 cases r with
 |bad q=>exact ⟨(q:Int),rfl⟩
 |ok a p t =>
  by_cases hp:p<l.length
  ·exact ⟨(p:Int),by simp only [i6,cT];rw [if_pos hp,if_pos hp];rfl⟩
  ·by_cases hb:sB t=true
   ·exact ⟨0,by simp only [i6,cT];rw [if_neg hp,if_neg hp,if_pos hb,if_pos (show Be t=true from hb)];rfl⟩
   ·exact ⟨0,by simp only [i6,cT];rw [if_neg hp,if_neg hp,if_neg hb,if_neg (show ¬ Be t=true from hb)];rfl⟩
def lm:List AV→AHeap→(AV→Prop)→Prop
 |[.str s,.slice _ 2 y],_,K=>∃ vs,(y=bJ vs∧CU vs∧s.length≤140737488355328)∧K (kO (comp (bP vs) s))
 |_,_,_=>False
theorem sP:EntOk Try.prog 20 (Ent.pure lm):=by
 refine EntOk.pure fun args H K h=>?_
 unfold lm at h
 split at h
 rotate_left
 ·exact h.elim
 rename_i s m2 y
 obtain ⟨vs,⟨rfl,hov,hsl⟩,hK⟩:=h
 refine ⟨_,hK,?_⟩
 clear hK
 refine ACalls.fW aD (TblOk.cons mN (TblOk.cons z5 (TblOk.cons wH (TblOk.cons xS TblOk.nil)))) Try.func20 [.tmp 4,.tmp 5] (Nat.le_refl _) (T:=az []) (h:=fun hcl hlt=>?_)
 have hm2:∀ n',H.nx≤n'→AV.lt n' (.slice m2 2 (bJ vs)):=fun n' hn=>AV.lt_mono hn _ (hlt (.slice m2 2 (bJ vs)) (by simp))
 clear hlt
 unfold comp
 by_cases hs:s=[]
 ·subst hs
  have d1:(([]:List UInt8)==[])=true:=rfl
  rw [if_pos rfl]
  simp only [go_sem,d1,m7]
  simp (disch:=first|assumption|omega|(simp;done)|(simp;omega)|(simp only [bt,and_true];first|done|omega|(simp;done))) [↓zmk,beq,ybc,ybd,ybe,ag,wk,wk2,wk1,wkM,wkL,am,ybf,hcl,kO,oneT,nds,mA,zno,aG,znn,znb,znd,znq,znr]
 ·have d1:(s==[])=false:=by simp [hs]
  rw [if_neg hs]
  obtain ⟨hg1,hg2⟩:=rf s
  obtain ⟨f,hf⟩:=nJ (bX s).1
  generalize prs (bX s).1=r at *
  obtain ⟨i,hpi⟩:=BC (bX s).1 r
  obtain ⟨hpg,hpl,_⟩:=ne hf
  have hps:=sc hg2 hf
  generalize cT (bX s).1 r=te at *
  obtain ⟨t,e⟩:=te
  dsimp only at hpi hpg hpl hps
  have hot:okT t:=⟨hpg,hps,by omega⟩
  obtain ⟨hc1,hc2⟩:=@DL (bP vs) t
  unfold tY
  by_cases he0:(bX s).2.2=0
  ·have d2:((((bX s).2.2:Nat):Int) != 0)=false:=by rw [he0];rfl
   rw [if_neg (fun h=>h he0)]
   simp only [go_sem,d1,nN,rh,hsl,d2,n9]
   refine ⟨(bX s).1,f,r,⟨rfl,hf,by omega,hg2⟩,?_⟩
   simp only [go_sem,hpi]
   by_cases he:e=0
   ·subst he
    have d3:(((0:Nat):Int) != 0)=false:=rfl
    rw [if_neg (fun h=>h rfl)]
    simp only [go_sem,d3,oV]
    refine ⟨t,vs,⟨rfl,rfl,hot,hov⟩,?_⟩
    by_cases hch:(chk (bP vs) t).2=0
    ·have d4:((((chk (bP vs) t).2:Nat):Int) != 0)=false:=by rw [hch];rfl
     rw [if_neg (fun h=>h hch)]
     simp only [go_sem,d4]
     simp (disch:=first|assumption|omega|(simp;done)|(simp;omega)|(simp only [bt,and_true];first|done|omega|(simp;done))) [↓zmk,beq,ybc,ybd,ybe,ag,wk,wk2,wk1,wkM,wkL,am,ybf,hcl,kO,zno,mq,znb,znq,znr]
    ·have d4:((((chk (bP vs) t).2:Nat):Int) != 0)=true:=bne_iff_ne.2 (by omega)
     rw [if_pos hch]
     simp only [go_sem,d4]
     simp (disch:=first|assumption|omega|(simp;done)|(simp;omega)|(simp only [bt,and_true];first|done|omega|(simp;done))) [↓zmk,beq,ybc,ybd,ybe,ag,wk,wk2,wk1,wkM,wkL,am,ybf,hcl,kO,nds,zno,aG,znb,znq,znr]
   ·have d3:((e:Int) != 0)=true:=bne_iff_ne.2 (by omega)
    rw [if_pos he]
    simp only [go_sem,d3]
    simp (disch:=first|assumption|omega|(simp;done)|(simp;omega)|(simp only [bt,and_true];first|done|omega|(simp;done))) [↓zmk,beq,ybc,ybd,ybe,ag,wk,wk2,wk1,wkM,wkL,am,ybf,hcl,kO,nds,zno,aG,znb,znq,znr]
  ·have d2:((((bX s).2.2:Nat):Int) != 0)=true:=bne_iff_ne.2 (by omega)
   rw [if_pos he0]
   simp only [go_sem,d1,nN,rh,hsl,d2]
   simp (disch:=first|assumption|omega|(simp;done)|(simp;omega)|(simp only [bt,and_true];first|done|omega|(simp;done))) [↓zmk,beq,ybc,ybd,ybe,ag,wk,wk2,wk1,wkM,wkL,am,ybf,hcl,kO,nds,zno,aG,znb,znq,znr]
end Go.AL
