/- Contracts and plain laws, a part of the proof; no condition of its own. -/
import Derived.Test.YtiiiljghmilepaaS07p
import Derived.Test.YtiiiljghmilepaaLTyp
import Derived.Test.YtiiiljghmilepaaAlMap
set_option maxHeartbeats 32000000
open List renaming length_cons → yaz, length_nil → yba, take_of_length_le → ybc, drop_append → ybd, take_append → ybe, drop_eq_nil_of_le → ybf
open Go Go.AL Go.Proofs
namespace Go.AL
set_option linter.all false
set_option maxRecDepth 10000
theorem wZ:ti Try.prog 124=some ⟨.struct [(0,3,false),(1,3,false)],2,16,.agg [.int .i64 0,.int .i64 0]⟩:=by kernel_rfl
theorem v7:ti Try.prog 164=some ⟨.slice 124,1,24,.slice .nil 1 []⟩:=by kernel_rfl
theorem rM:ti Try.prog 63=some ⟨.struct [(0,9,false),(1,9,false)],2,32,.agg [.str [],.str []]⟩:=by kernel_rfl
theorem vW:ti Try.prog 40=some ⟨.slice 63,1,24,.slice .nil 1 []⟩:=by kernel_rfl
theorem ua:ti Try.prog 45=some ⟨.slice 128,1,24,.slice .nil 1 []⟩:=by kernel_rfl
theorem ri:ti Try.prog 128=some ⟨.struct [(0,9,false),(1,9,false)],2,32,.agg [.str [],.str []]⟩:=by kernel_rfl
attribute [go_sem] wZ v7 rM vW ua ri
def rulesL:List AV:=(List.range 16).map fun i=>.agg [.int .i64 (pw (i+1):Int),.int .i64 (iA (i+1):Int)]
theorem sv:rulesL=[.agg [.int .i64 0,.int .i64 1],.agg [.int .i64 0,.int .i64 2],.agg [.int .i64 0,.int .i64 1],.agg [.int .i64 1,.int .i64 1],.agg [.int .i64 2,.int .i64 2],.agg [.int .i64 1,.int .i64 1],.agg [.int .i64 1,.int .i64 1],.agg [.int .i64 0,.int .i64 2],
 .agg [.int .i64 0,.int .i64 2],.agg [.int .i64 1,.int .i64 2],.agg [.int .i64 1,.int .i64 2],.agg [.int .i64 1,.int .i64 2],.agg [.int .i64 1,.int .i64 2],.agg [.int .i64 2,.int .i64 2],.agg [.int .i64 2,.int .i64 2],.agg [.int .i64 2,.int .i64 2]]:=by rfl
theorem ql {k:Nat} (h:k<16):rulesL.getD k .junk=.agg [.int .i64 (pw (k+1):Int),.int .i64 (iA (k+1):Int)]:=by
 simp [rulesL,List.getD_eq_getElem?_getD,h]
theorem qA:rulesL.length=16:=by simp [rulesL]
def ml:List AV→AHeap→(AV→Prop)→Prop
 |[],_,K=>K (.slice .any 2 rulesL)
 |_,_,_=>False
theorem sW:EntOk Try.prog 74 (Ent.pure ml):=by
 refine EntOk.pure fun args H K h=>?_
 unfold ml at h
 split at h
 rotate_left
 ·exact h.elim
 refine ⟨_,h,?_⟩
 clear h
 rw [sv]
 refine ACalls.fW aE TblOk.nil Try.func74 [.tmp 0] (Nat.le_refl _) (T:=ax []) (h:=fun hcl hlt=>?_)
 clear hlt
 simp only [go_sem]
 simp (disch:=first|assumption|omega|(simp;done)|(simp;omega)|(simp only [bt,and_true];first|done|omega|(simp;done))) [↓zmi,beq,ybc,ybd,ybe,ag,wk,wk2,wk1,wkM,wkL,ak,ybf,hcl,bm,znl,zno,znp,zmz]
def fe:List AV→AHeap→(AV→Prop)→Prop
 |[.int .i64 n],_,K=>∃ op:Nat,(n=(op:Int)∧1≤op∧op≤16)∧K (.agg [.int .i64 (pw op:Int),.int .i64 (iA op:Int)])
 |_,_,_=>False
theorem lG:EntOk Try.prog 43 (Ent.pure fe):=by
 refine EntOk.pure fun args H K h=>?_
 unfold fe at h
 split at h
 rotate_left
 ·exact h.elim
 obtain ⟨op,⟨rfl,h1,h2⟩,hK⟩:=h
 refine ⟨_,hK,?_⟩
 clear hK
 refine ACalls.fW aE (TblOk.cons sW TblOk.nil) Try.func43 [.cell 2 124] (Nat.le_refl _) (T:=ax []) (h:=fun hcl hlt=>?_)
 clear hlt
 have d1:decide ((op:Int)<1)=false:=by simp;omega
 have d2:decide ((op:Int) > 16)=false:=by simp;omega
 have e1:IntKind.i64.wrap ((op:Int) - 1)=((op - 1:Nat):Int):=by rw [wrap_i64]<;>omega
 have e2:rulesL.getD (op - 1) .junk=.agg [.int .i64 (pw op:Int),.int .i64 (iA op:Int)]:=by rw [ql (by omega),show op - 1+1=op by omega]
 simp only [go_sem,d1,d2,e1,ml,qA,Int.toNat_natCast,e2]
 refine ⟨by omega,?_⟩
 simp (disch:=first|assumption|omega|(simp;done)|(simp;omega)|(simp only [bt,and_true];first|done|omega|(simp;done))) [↓zmi,beq,ybc,ybd,ybe,ag,wk,wk2,wk1,wkM,wkL,ak,ybf,hcl,znl,zno,znp,zmz]
def ic:List AV→AHeap→(AV→Prop)→Prop
 |[x],_,K=>∃ n,(x=mm n∧1≤n.op∧n.op≤16)∧K (.slice .any 1 (its (lM n)))
 |_,_,_=>False
theorem og:EntOk Try.prog 73 (Ent.pure ic):=by
 refine EntOk.pure fun args H K h=>?_
 unfold ic at h
 split at h
 rotate_left
 ·exact h.elim
 obtain ⟨n,⟨rfl,h1,h2⟩,hK⟩:=h
 refine ⟨_,hK,?_⟩
 clear hK
 unfold lM
 by_cases h3:n.op≤3
 ·rw [if_pos h3]
  refine ACalls.fW aE TblOk.nil Try.func73 [.tmp 2] (Nat.le_refl _) (T:=ax []) (h:=fun hcl hlt=>?_)
  clear hlt
  rcases (by omega:(n.op:Int)=1∨(n.op:Int)=2∨(n.op:Int)=3) with h|h|h <;>
  ·simp only [go_sem,mm,h,Int.reduceBEq]
   simp (disch:=first|assumption|omega|(simp;done)|(simp;omega)|(simp only [bt,and_true];first|done|omega|(simp;done))) [↓zmi,beq,ybc,ybd,ybe,ag,wk,wk2,wk1,wkM,wkL,ak,ybf,hcl,its,bm,zno,znp,zmz]
 rw [if_neg h3]
 by_cases h4:n.op=4∨n.op=5
 ·rw [if_pos h4]
  refine ACalls.fW aE TblOk.nil Try.func73 [.tmp 2] (Nat.le_refl _) (T:=ax []) (h:=fun hcl hlt=>?_)
  clear hlt
  rcases (by omega:(n.op:Int)=4∨(n.op:Int)=5) with h|h <;>
  ·simp only [go_sem,mm,h,Int.reduceBEq]
   simp (disch:=first|assumption|omega|(simp;done)|(simp;omega)|(simp only [bt,and_true];first|done|omega|(simp;done))) [↓zmi,beq,ybc,ybd,ybe,ag,wk,wk2,wk1,wkM,wkL,ak,ybf,hcl,its,bm,zno,znp,zmz]
 ·rw [if_neg h4]
  have d1:((n.op:Int)==1)=false:=beq_eq_false_iff_ne.2 (by omega)
  have d2:((n.op:Int)==2)=false:=beq_eq_false_iff_ne.2 (by omega)
  have d3:((n.op:Int)==3)=false:=beq_eq_false_iff_ne.2 (by omega)
  have d4:((n.op:Int)==4)=false:=beq_eq_false_iff_ne.2 (by omega)
  have d5:((n.op:Int)==5)=false:=beq_eq_false_iff_ne.2 (by omega)
  refine ACalls.fW aE TblOk.nil Try.func73 [.tmp 2] (Nat.le_refl _) (T:=ax []) (h:=fun hcl hlt=>?_)
  clear hlt
  simp only [go_sem,mm,d1,d2,d3,d4,d5]
  simp (disch:=first|assumption|omega|(simp;done)|(simp;omega)|(simp only [bt,and_true];first|done|omega|(simp;done))) [↓zmi,beq,ybc,ybd,ybe,ag,wk,wk2,wk1,wkM,wkL,ak,ybf,hcl,its,bm,zno,znp,zmz]
end Go.AL
open Go Go.AL Go.Proofs
namespace Go.AL
set_option linter.all false
set_option maxRecDepth 10000
def lL (t:List Nd) (k:Nat):Bool:=match t[k]? with
 |some n=>uV t n
 |none=>true
theorem mZ {t:List Nd} {k:Nat} (h:k<t.length):lL t k=uV t t[k]:=by
 unfold lL;rw [List.getElem?_eq_getElem h]
theorem k8 {t:List Nd} (hg:Good t) {k:Nat} (h:k<t.length):1≤t[k].op∧t[k].op≤16∧t[k].v<2^128∧(t[k].op≤3∨(t[k].a<k∧t[k].b<k)):=hg k t[k] (List.getElem?_eq_getElem h)
theorem wj {t:List Nd} (hg:Good t) {k:Nat} (h:k<t.length) {j:Nat} (hj:j<(lM t[k]).length):(lM t[k]).getD j 0<k:=by
 obtain ⟨h1,h2,h3,h4⟩:=k8 hg h
 generalize t[k]=n at *
 unfold lM at *
 by_cases h5:n.op≤3
 ·rw [if_pos h5] at hj;exact absurd hj (Nat.not_lt_zero _)
 ·have h4':n.a<k∧n.b<k:=by omega
  rw [if_neg h5] at hj ⊢
  split at hj
  ·rename_i h6
   rw [if_pos h6]
   have:j=0:=by simpa using hj
   subst this;exact h4'.1
  ·rename_i h6
   rw [if_neg h6]
   rcases (by simp at hj;omega:j=0∨j=1) with rfl|rfl
   ·exact h4'.1
   ·exact h4'.2
theorem tZ {n:Nd}:(lM n).length≤2:=by
 unfold lM
 split
 ·exact Nat.zero_le _
 ·split<;>simp
def eZ:List AV→AHeap→(AV→Prop)→Prop
 |[.slice _ 7 x,.int .i64 i],_,K=>∃ t k,(x=nds t∧i=((k:Nat):Int)∧k<t.length∧Good t∧t.length≤1000)∧K (.bool (lL t k))
 |_,_,_=>False
theorem vu:EntOk Try.prog 42 (Ent.pure eZ):=by
 refine EntOk.pure fun args H K h=>?_
 unfold eZ at h
 split at h
 rotate_left
 ·exact h.elim
 rename_i m x i
 obtain ⟨t,k,⟨rfl,rfl,hk,hg,hl⟩,hK⟩:=h
 refine ⟨_,hK,?_⟩
 clear hK
 obtain ⟨g1,g2,g3,g4⟩:=k8 hg hk
 have hQ:nW t (pw t[k].op) (lM t[k])=lL t k:=by
  rw [mZ hk]
  refine wX ⟨g1,g2⟩ ?_
  rcases g4 with h|h
  ·exact .inl h
  ·exact .inr (by omega)
 generalize lL t k=Q at *
 refine ACalls.fW aE (TblOk.cons lG (TblOk.cons og TblOk.nil)) Try.func42 [.tmp 4] (Nat.le_refl _) (T:=ax []) (h:=fun hcl hlt=>?_)
 have hm:∀ n',H.nx≤n'→AV.lt n' (.slice m 7 (nds t)):=fun n' hn=>AV.lt_mono hn _ (hlt (.slice m 7 (nds t)) (by simp))
 clear hlt
 simp only [go_sem,aF,dx hk,Int.toNat_natCast,fe,ic]
 refine ⟨by omega,t[k].op,⟨rfl,g1,g2⟩,t[k],⟨rfl,g1,g2⟩,?_⟩
 simp only [go_sem,fh]
 have hol:=@tZ t[k]
 have hon:=@wj t hg k hk
 generalize lM t[k]=d at *
 refine az (A:=Nat × Nat) (fun a=>[(0,.slice m 7 (nds t)),(1,.int .i64 (k:Int)),(6,.int .i64 (a.2:Int)),(19,.slice .any 1 (its d)),(20,.int .i64 (d.length:Int)),(21,.int .i64 (a.1:Int))]) (fun a=>H)
  (fun a=>a.1≤d.length∧nW t a.2 (d.drop a.1)=Q) (fun a=>d.length - a.1) (0,pw t[k].op) ⟨by omega,hQ⟩ ?_ fun a ha=>?_
 ·(simp only [bkq,enterW,bd,ltF,ne_eq,Nat.reduceEqDiff,reduceCtorEq,hm,bD];try simp (disch:=first|assumption|omega|(simp;done)|(simp;omega)|(simp only [bt,and_true];first|done|omega|(simp;done))) [↓zmi,beq,ybc,ybd,ybe,ag,wk,wk2,wk1,wkM,wkL,ak,ybf,byq,biq,aj,hcl,hm,bD];try (repeat' (first|assumption|omega|exact True.intro|refine And.intro ?_ ?_|refine af ?_|refine aa ?_|refine ae ?_ ?_|refine ah ?_ ?_|refine ai ?_|exact AHeap.Le.refl _|refine AHeap.Le.push ?_ _|refine AHeap.Le.del ?_ ?_|(simp only [bt,and_true,true_and,hm,bD];first|done|omega|(simp;done)))))
 obtain ⟨j,w⟩:=a
 obtain ⟨hj,hq⟩:=ha
 dsimp only at hj hq ⊢
 simp only [go_sem]
 refine al (fun hc=>?_) (fun hc=>?_)
 ·have hj1:j<d.length:=by simp at hc;omega
  have e5:IntKind.i64.wrap ((j:Int)+1)=((j+1:Nat):Int):=by rw [wrap_i64]<;>omega
  have ha:=hon hj1
  have hdr:d.drop j=d.getD j 0::d.drop (j+1):=by rw [List.drop_eq_getElem_cons hj1];simp [List.getD_eq_getElem?_getD,hj1]
  rw [hdr] at hq
  simp only [nW] at hq
  have hget:=@oK d j hj1
  generalize d.getD j 0=b at *
  have hb:b<t.length:=by omega
  obtain ⟨q1,q2,q3,q4⟩:=k8 hg hb
  rw [oR hb] at hq
  have d1:decide ((b:Int)<0)=false:=by simp
  have d2:decide ((b:Int) ≥ (k:Int))=false:=by simp;omega
  simp only [go_sem,fh,Int.toNat_natCast,hget,d1,d2,aF,dx hb,fe]
  refine ⟨by omega,by omega,t[b].op,⟨rfl,q1,q2⟩,?_⟩
  generalize iA t[b].op=r at *
  by_cases hw:w=0
  ·subst hw
   have c1:(((0:Nat):Int)==0)=true:=rfl
   rw [if_pos (by rw [if_pos rfl]),if_pos rfl] at hq
   simp only [go_sem,c1,bne_self_eq_false,e5]
   refine ⟨(j+1,r),⟨by dsimp only;omega,hq⟩,by dsimp only;omega,?_⟩
   (simp only [bkq,enterW,bd,ltF,ne_eq,Nat.reduceEqDiff,reduceCtorEq,hm,bD];try simp (disch:=first|assumption|omega|(simp;done)|(simp;omega)|(simp only [bt,and_true];first|done|omega|(simp;done))) [↓zmi,beq,ybc,ybd,ybe,ag,wk,wk2,wk1,wkM,wkL,ak,ybf,byq,biq,aj,hcl,hm,bD];try (repeat' (first|assumption|omega|exact True.intro|refine And.intro ?_ ?_|refine af ?_|refine aa ?_|refine ae ?_ ?_|refine ah ?_ ?_|refine ai ?_|exact AHeap.Le.refl _|refine AHeap.Le.push ?_ _|refine AHeap.Le.del ?_ ?_|(simp only [bt,and_true,true_and,hm,bD];first|done|omega|(simp;done)))))
  ·have c1:((w:Int)==0)=false:=by simp;omega
   rw [if_neg hw] at hq
   by_cases hr:r=w
   ·subst hr
    rw [if_pos rfl] at hq
    simp only [go_sem,c1,bne_self_eq_false,e5]
    refine ⟨(j+1,r),⟨by dsimp only;omega,hq⟩,by dsimp only;omega,?_⟩
    (simp only [bkq,enterW,bd,ltF,ne_eq,Nat.reduceEqDiff,reduceCtorEq,hm,bD];try simp (disch:=first|assumption|omega|(simp;done)|(simp;omega)|(simp only [bt,and_true];first|done|omega|(simp;done))) [↓zmi,beq,ybc,ybd,ybe,ag,wk,wk2,wk1,wkM,wkL,ak,ybf,byq,biq,aj,hcl,hm,bD];try (repeat' (first|assumption|omega|exact True.intro|refine And.intro ?_ ?_|refine af ?_|refine aa ?_|refine ae ?_ ?_|refine ah ?_ ?_|refine ai ?_|exact AHeap.Le.refl _|refine AHeap.Le.push ?_ _|refine AHeap.Le.del ?_ ?_|(simp only [bt,and_true,true_and,hm,bD];first|done|omega|(simp;done)))))
   ·have c2:((r:Int) != (w:Int))=true:=by simp;omega
    rw [if_neg hr] at hq
    subst hq
    simp only [go_sem,c1,c2]
    simp (disch:=first|assumption|omega|(simp;done)|(simp;omega)|(simp only [bt,and_true];first|done|omega|(simp;done))) [↓zmi,beq,ybc,ybd,ybe,ag,wk,wk2,wk1,wkM,wkL,ak,ybf,hcl]
 ·have hj1:j=d.length:=by simp at hc;omega
  subst hj1
  rw [List.drop_length] at hq
  subst hq
  simp only [go_sem,nW]
  simp (disch:=first|assumption|omega|(simp;done)|(simp;omega)|(simp only [bt,and_true];first|done|omega|(simp;done))) [↓zmi,beq,ybc,ybd,ybe,ag,wk,wk2,wk1,wkM,wkL,ak,ybf,hcl]
end Go.AL
open Go Go.AL Go.Proofs
namespace Go.AL
set_option linter.all false
set_option maxRecDepth 10000
theorem wm:ti Try.prog 121=some ⟨.map 63 4,1,8,.nilm⟩:=by kernel_rfl
attribute [go_sem] wm
def okT (t:List Nd):Prop:=Good t∧AllN lq t∧t.length≤1000
def vt (vs:List VN):Prop:=vs.length≤1000∧∀ v∈vs,v.1.length≤1000∧v.2.length≤1000
theorem iq:WideMaps.KeyLaw Try.prog 63:=deep_law (m:=3) (by decide) (by kernel_rfl) (by kernel_rfl) (by kernel_rfl)
theorem e9 {v:VN} (h1:v.1.length≤1000) (h2:v.2.length≤1000):dU Try.prog 63 (.agg [.str v.1,.str v.2]) :=
 sm (n:=Try.prog.types.size - 1) (by rw [rM];rfl) (by rw [eC];rfl) (by kernel_rfl) (by kernel_rfl) (by kernel_rfl) (by kernel_rfl) h1 h2
theorem mS {vs:List VN} (h:∀ v∈vs,v.1.length≤1000∧v.2.length≤1000) (k:Nat):∀ p∈je (vs.take k),dU Try.prog 63 p.1:=by
 intro p hp
 obtain ⟨v,hv,rfl⟩:=tP hp
 obtain ⟨h1,h2⟩:=h v (List.mem_of_mem_take hv)
 exact e9 h1 h2
def lP:List AV→AHeap→(AV→Prop)→Prop
 |[.slice _ 7 x,.slice _ 2 y],_,K=>∃ t vs,(x=nds t∧y=av vs∧okT t∧vt vs)∧K (.tup [.int .i64 ((chk (bn vs) t).1:Int),.int .i64 ((chk (bn vs) t).2:Int)])
 |_,_,_=>False
theorem tL:EntOk Try.prog 15 (Ent.pure lP):=by
 refine EntOk.pure fun args H K h=>?_
 unfold lP at h
 split at h
 rotate_left
 ·exact h.elim
 rename_i m x m2 y
 obtain ⟨t,vs,⟨rfl,rfl,⟨hg,hsh,hl⟩,hvl,hvs⟩,hK⟩:=h
 refine ⟨_,hK,?_⟩
 clear hK
 refine ACalls.fW aE (TblOk.cons vu (TblOk.cons lG TblOk.nil)) Try.func15 [.tmp 4,.tmp 5] (Nat.le_refl _) (T:=ax []) (h:=fun hcl hlt=>?_)
 have hm:∀ n',H.nx≤n'→AV.lt n' (.slice m 7 (nds t)):=fun n' hn=>AV.lt_mono hn _ (hlt (.slice m 7 (nds t)) (by simp))
 have hm2:∀ n',H.nx≤n'→AV.lt n' (.slice m2 2 (av vs)):=fun n' hn=>AV.lt_mono hn _ (hlt (.slice m2 2 (av vs)) (by simp))
 clear hlt
 simp only [go_sem,ziq,aV,aF]
 refine az (A:=Nat × AHeap) (fun a=>[(0,.slice m 7 (nds t)),(6,.mapv H.nx),(13,.slice m2 2 (av vs)),(14,.int .i64 (vs.length:Int)),(15,.int .i64 (a.1:Int))]) (fun a=>a.2)
  (fun a=>a.1≤vs.length∧H.Le a.2∧a.2.Closed∧a.2.get H.nx=some (.mapo (je (vs.take a.1)))) (fun a=>vs.length - a.1) (0,H.push (.mapo [])) ⟨Nat.zero_le _,(AHeap.Le.refl _).push _,ma hcl,AHeap.get_push_new _ _⟩ ?_ fun a ha=>?_
 ·(simp only [bkq,enterW,bd,ltF,ne_eq,Nat.reduceEqDiff,reduceCtorEq,hm,hm2];try simp (disch:=first|assumption|omega|(simp;done)|(simp;omega)|(simp only [bt,and_true];first|done|omega|(simp;done))) [↓zmi,beq,ybc,ybd,ybe,ag,wk,wk2,wk1,wkM,wkL,ak,ybf,byq,biq,aj,hcl,hm,hm2];try (repeat' (first|assumption|omega|exact True.intro|refine And.intro ?_ ?_|refine af ?_|refine aa ?_|refine ae ?_ ?_|refine ah ?_ ?_|refine ai ?_|exact AHeap.Le.refl _|refine AHeap.Le.push ?_ _|refine AHeap.Le.del ?_ ?_|(simp only [bt,and_true,true_and,hm,hm2];first|done|omega|(simp;done)))))
  exact ma hcl
 obtain ⟨k,Hc⟩:=a
 obtain ⟨hk,hle,hcc,hid⟩:=ha
 dsimp only at hk hle hcc hid ⊢
 have hnx:H.nx<Hc.nx:=AHeap.get_lt hid
 have hne:(H.nx=Hc.nx)=False:=eq_false (by omega)
 simp only [go_sem]
 refine al (fun hc=>?_) (fun hc=>?_)
 ·have hk1:k<vs.length:=by simp at hc;omega
  have e5:IntKind.i64.wrap ((k:Int)+1)=((k+1:Nat):Int):=by rw [wrap_i64]<;>omega
  obtain ⟨v1,v2⟩:=hvs vs[k] (List.getElem_mem hk1)
  simp only [go_sem,aV,jg hk1,Int.toNat_natCast,zis,hne,hid,e5]
  refine ⟨by omega,⟨iq,mS hvs k,e9 v1 v2,rfl,rfl⟩,(k+1,Hc.set H.nx (.mapo (je (vs.take (k+1))))),⟨by dsimp only;omega,bB hle (Nat.le_refl _),hY hcc,?_⟩,by dsimp only;omega,?_⟩
  ·dsimp only
   rw [bb,if_pos rfl,if_pos hnx]
  ·rw [se hk1]
   have hcs:=@hY Hc H.nx ((cK vs[k],.bool true)::je (vs.take k)) hcc
   simp only [cK] at hcs ⊢
   (simp only [bkq,enterW,bd,ltF,ne_eq,Nat.reduceEqDiff,reduceCtorEq,hm,hm2,hcs];try simp (disch:=first|assumption|omega|(simp;done)|(simp;omega)|(simp only [bt,and_true];first|done|omega|(simp;done))) [↓zmi,beq,ybc,ybd,ybe,ag,wk,wk2,wk1,wkM,wkL,ak,ybf,byq,biq,aj,hcl,hm,hm2,hcs];try (repeat' (first|assumption|omega|exact True.intro|refine And.intro ?_ ?_|refine af ?_|refine aa ?_|refine ae ?_ ?_|refine ah ?_ ?_|refine ai ?_|exact AHeap.Le.refl _|refine AHeap.Le.push ?_ _|refine AHeap.Le.del ?_ ?_|(simp only [bt,and_true,true_and,hm,hm2,hcs];first|done|omega|(simp;done)))))
 ·have hk1:k=vs.length:=by simp at hc;omega
  subst hk1
  rw [List.take_length] at hid
  have hvg:∀ p∈je vs,dU Try.prog 63 p.1:=by
   have:=mS hvs vs.length
   rwa [List.take_length] at this
  have hle2:H.nx≤Hc.nx:=hle.nx
  simp only [go_sem,aF]
  unfold chk
  obtain ⟨Q,hQ⟩:∃ Q,hO (bn vs) t t.length 0=Q:=⟨_,rfl⟩
  rw [hQ]
  refine az (A:=Nat) (fun k=>[(0,.slice m 7 (nds t)),(6,.mapv H.nx),(22,.slice m 7 (nds t)),(23,.int .i64 (t.length:Int)),(24,.int .i64 (k:Int))]) (fun _=>Hc)
   (fun k=>k≤t.length∧hO (bn vs) t (t.length - k) k=Q) (fun k=>t.length - k) 0 ⟨Nat.zero_le _,hQ⟩ ?_ fun k ha=>?_
  ·(simp only [bkq,enterW,bd,ltF,ne_eq,Nat.reduceEqDiff,reduceCtorEq,hm,hcc,hnx];try simp (disch:=first|assumption|omega|(simp;done)|(simp;omega)|(simp only [bt,and_true];first|done|omega|(simp;done))) [↓zmi,beq,ybc,ybd,ybe,ag,wk,wk2,wk1,wkM,wkL,ak,ybf,byq,biq,aj,hcl,hm,hcc,hnx];try (repeat' (first|assumption|omega|exact True.intro|refine And.intro ?_ ?_|refine af ?_|refine aa ?_|refine ae ?_ ?_|refine ah ?_ ?_|refine ai ?_|exact AHeap.Le.refl _|refine AHeap.Le.push ?_ _|refine AHeap.Le.del ?_ ?_|(simp only [bt,and_true,true_and,hm,hcc,hnx];first|done|omega|(simp;done)))))
  obtain ⟨hk,hq⟩:=ha
  simp only [go_sem]
  refine al (fun hc=>?_) (fun hc=>?_)
  ·have hk1:k<t.length:=by simp at hc;omega
   have e5:IntKind.i64.wrap ((k:Int)+1)=((k+1:Nat):Int):=by rw [wrap_i64]<;>omega
   rw [pl hk1,tF hk1] at hq
   have hf:=mZ hk1
   obtain ⟨s1,s2,s3⟩:=hsh t[k] (List.getElem_mem hk1)
   have hmg:gA (je vs) (.agg [.str t[k].name,.str t[k].attr])=if bn vs (t[k].name,t[k].attr) then some (.bool true) else none:=sQ (x:=(t[k].name,t[k].attr))
   by_cases h3:t[k].op=3
   ·have d3:((t[k].op:Int)==3)=true:=by simp [h3]
    cases hkn:bn vs (t[k].name,t[k].attr)
    ·rw [hkn,if_neg Bool.false_ne_true] at hmg
     have hz:gp (bn vs) t t[k]=6:=by unfold gp;rw [if_pos ⟨h3,hkn⟩]
     rw [hz,if_neg (by decide)] at hq
     subst hq
     simp only [go_sem,aF,dx hk1,Int.toNat_natCast,zir,hid,hne,hmg,eZ,e5,d3]
     refine ⟨by omega,⟨iq,hvg,e9 (v:=(t[k].name,t[k].attr)) s1 s2,rfl⟩,?_⟩
     simp (disch:=first|assumption|omega|(simp;done)|(simp;omega)|(simp only [bt,and_true];first|done|omega|(simp;done))) [↓zmi,beq,ybc,ybd,ybe,ag,wk,wk2,wk1,wkM,wkL,ak,ybf,hcl,hle,hle.push _]
    ·rw [hkn,if_pos rfl] at hmg
     have hx:¬ (t[k].op=3∧bn vs (t[k].name,t[k].attr)=false):=fun h=>by rw [hkn] at h;cases h.2
     simp only [go_sem,aF,dx hk1,Int.toNat_natCast,zir,hid,hne,hmg,eZ,e5,d3]
     refine ⟨by omega,⟨iq,hvg,e9 (v:=(t[k].name,t[k].attr)) s1 s2,rfl⟩,?_⟩
     cases hfb:lL t k
     ·have hz:gp (bn vs) t t[k]=12:=by unfold gp;rw [if_neg hx,← hf,hfb];rfl
      rw [hz,if_neg (by decide)] at hq
      subst hq
      refine ⟨t,k,⟨rfl,rfl,hk1,hg,hl⟩,?_⟩
      simp only [go_sem,aF,dx hk1,Int.toNat_natCast,zir,hid,hne,hmg,eZ,e5,d3,hfb]
      simp (disch:=first|assumption|omega|(simp;done)|(simp;omega)|(simp only [bt,and_true];first|done|omega|(simp;done))) [↓zmi,beq,ybc,ybd,ybe,ag,wk,wk2,wk1,wkM,wkL,ak,ybf,hcl,hle,hle.push _]
     ·have hz:gp (bn vs) t t[k]=0:=by unfold gp;rw [if_neg hx,← hf,hfb];rfl
      rw [hz,if_pos rfl] at hq
      refine ⟨t,k,⟨rfl,rfl,hk1,hg,hl⟩,?_⟩
      simp only [go_sem,aF,dx hk1,Int.toNat_natCast,zir,hid,hne,hmg,eZ,e5,d3,hfb]
      refine ⟨k+1,⟨by omega,hq⟩,by omega,?_⟩
      (simp only [bkq,enterW,bd,ltF,ne_eq,Nat.reduceEqDiff,reduceCtorEq,hm,hcc,hnx];try simp (disch:=first|assumption|omega|(simp;done)|(simp;omega)|(simp only [bt,and_true];first|done|omega|(simp;done))) [↓zmi,beq,ybc,ybd,ybe,ag,wk,wk2,wk1,wkM,wkL,ak,ybf,byq,biq,aj,hcl,hm,hcc,hnx];try (repeat' (first|assumption|omega|exact True.intro|refine And.intro ?_ ?_|refine af ?_|refine aa ?_|refine ae ?_ ?_|refine ah ?_ ?_|refine ai ?_|exact AHeap.Le.refl _|refine AHeap.Le.push ?_ _|refine AHeap.Le.del ?_ ?_|(simp only [bt,and_true,true_and,hm,hcc,hnx];first|done|omega|(simp;done)))))
   ·have d3:((t[k].op:Int)==3)=false:=beq_eq_false_iff_ne.2 (by omega)
    have hx:¬ (t[k].op=3∧bn vs (t[k].name,t[k].attr)=false):=fun h=>h3 h.1
    simp only [go_sem,aF,dx hk1,Int.toNat_natCast,zir,hid,hne,hmg,eZ,e5,d3]
    refine ⟨by omega,?_⟩
    cases hfb:lL t k
    ·have hz:gp (bn vs) t t[k]=12:=by unfold gp;rw [if_neg hx,← hf,hfb];rfl
     rw [hz,if_neg (by decide)] at hq
     subst hq
     refine ⟨t,k,⟨rfl,rfl,hk1,hg,hl⟩,?_⟩
     simp only [go_sem,aF,dx hk1,Int.toNat_natCast,zir,hid,hne,hmg,eZ,e5,d3,hfb]
     simp (disch:=first|assumption|omega|(simp;done)|(simp;omega)|(simp only [bt,and_true];first|done|omega|(simp;done))) [↓zmi,beq,ybc,ybd,ybe,ag,wk,wk2,wk1,wkM,wkL,ak,ybf,hcl,hle,hle.push _]
    ·have hz:gp (bn vs) t t[k]=0:=by unfold gp;rw [if_neg hx,← hf,hfb];rfl
     rw [hz,if_pos rfl] at hq
     refine ⟨t,k,⟨rfl,rfl,hk1,hg,hl⟩,?_⟩
     simp only [go_sem,aF,dx hk1,Int.toNat_natCast,zir,hid,hne,hmg,eZ,e5,d3,hfb]
     refine ⟨k+1,⟨by omega,hq⟩,by omega,?_⟩
     (simp only [bkq,enterW,bd,ltF,ne_eq,Nat.reduceEqDiff,reduceCtorEq,hm,hcc,hnx];try simp (disch:=first|assumption|omega|(simp;done)|(simp;omega)|(simp only [bt,and_true];first|done|omega|(simp;done))) [↓zmi,beq,ybc,ybd,ybe,ag,wk,wk2,wk1,wkM,wkL,ak,ybf,byq,biq,aj,hcl,hm,hcc,hnx];try (repeat' (first|assumption|omega|exact True.intro|refine And.intro ?_ ?_|refine af ?_|refine aa ?_|refine ae ?_ ?_|refine ah ?_ ?_|refine ai ?_|exact AHeap.Le.refl _|refine AHeap.Le.push ?_ _|refine AHeap.Le.del ?_ ?_|(simp only [bt,and_true,true_and,hm,hcc,hnx];first|done|omega|(simp;done)))))
  ·have hk1:k=t.length:=by simp at hc;omega
   subst hk1
   rw [Nat.sub_self] at hq
   have hq':none=Q:=hq
   subst hq'
   by_cases ht0:t.length=0
   ·have d1:decide (IntKind.i64.wrap ((t.length:Int) - 1)<0)=true:=by rw [ht0];rfl
    rw [if_pos ht0]
    simp only [go_sem,aF,d1]
    simp (disch:=first|assumption|omega|(simp;done)|(simp;omega)|(simp only [bt,and_true];first|done|omega|(simp;done))) [↓zmi,beq,ybc,ybd,ybe,ag,wk,wk2,wk1,wkM,wkL,ak,ybf,hcl,hle,hle.push _]
   ·have e6:IntKind.i64.wrap ((t.length:Int) - 1)=((t.length - 1:Nat):Int):=by rw [wrap_i64]<;>omega
    have d1:decide (((t.length - 1:Nat):Int)<0)=false:=by simp
    have hk2:t.length - 1<t.length:=by omega
    obtain ⟨g1,g2,_⟩:=k8 hg hk2
    rw [if_neg ht0]
    have hna:=ou hk2
    rw [oR hk2] at hna
    rw [hna]
    rcases jv t[t.length - 1].op with hr|hr
    ·have d2:((iA t[t.length - 1].op:Int) != 2)=true:=by rw [hr];rfl
     rw [hr,if_pos (show ((1:Nat)==1)=true from rfl)]
     simp only [go_sem,aF,dx hk2,Int.toNat_natCast,e6,d1,d2,fe]
     refine ⟨by omega,t[t.length - 1].op,⟨rfl,g1,g2⟩,?_⟩
     simp only [go_sem,d2]
     simp (disch:=first|assumption|omega|(simp;done)|(simp;omega)|(simp only [bt,and_true];first|done|omega|(simp;done))) [↓zmi,beq,ybc,ybd,ybe,ag,wk,wk2,wk1,wkM,wkL,ak,ybf,hcl,hle,hle.push _]
    ·have d2:((iA t[t.length - 1].op:Int) != 2)=false:=by rw [hr];rfl
     rw [hr,if_neg (show ¬ ((2:Nat)==1)=true by decide)]
     simp only [go_sem,aF,dx hk2,Int.toNat_natCast,e6,d1,d2,fe]
     refine ⟨by omega,t[t.length - 1].op,⟨rfl,g1,g2⟩,?_⟩
     simp only [go_sem,d2]
     simp (disch:=first|assumption|omega|(simp;done)|(simp;omega)|(simp only [bt,and_true];first|done|omega|(simp;done))) [↓zmi,beq,ybc,ybd,ybe,ag,wk,wk2,wk1,wkM,wkL,ak,ybf,hcl,hle,hle.push _]
end Go.AL
open Go Go.AL Go.Proofs
namespace Go.AL
set_option linter.all false
set_option maxRecDepth 10000
theorem uD:Try.prog.eqGuardType Try.prog.depth 128=false:=by kernel_rfl
theorem uE {a b c d:List UInt8}:teq Try.prog 9 128 (.agg [.str a,.str b]) (.agg [.str c,.str d])=some (decide ((a,b)=((c,d):VN))):=by
 have g1:Try.prog.stoodInHeld 128=false:=by kernel_rfl
 simp [ri,teq,teq.go,teq.part,eC,ceq,g1,TD.agg]
 rw [Bool.eq_iff_iff];simp
end Go.AL
open Go Go.AL Go.Proofs
namespace Go.AL
set_option linter.all false
set_option maxRecDepth 10000
/-- what compiling gives, in memory -/
def gE (x:List Nd × Nat):AV:=.tup [.slice .any 7 (nds x.1),.int .i64 (x.2:Int)]
theorem wM (l:List Tok) (r:PR):∃ i:Int,gJ l r=.tup [.slice .any 7 (nds (da l r).1),.int .i64 i,.int .i64 ((da l r).2:Int)]:=by
 cases r with
 |bad q=>exact ⟨(q:Int),rfl⟩
 |ok a p t =>
  by_cases hp:p<l.length
  ·exact ⟨(p:Int),by simp only [gJ,da];rw [if_pos hp,if_pos hp];rfl⟩
  ·by_cases hb:pG t=true
   ·exact ⟨0,by simp only [gJ,da];rw [if_neg hp,if_neg hp,if_pos hb,if_pos (show wL t=true from hb)];rfl⟩
   ·exact ⟨0,by simp only [gJ,da];rw [if_neg hp,if_neg hp,if_neg hb,if_neg (show ¬ wL t=true from hb)];rfl⟩
def fp:List AV→AHeap→(AV→Prop)→Prop
 |[.str s,.slice _ 2 y],_,K=>∃ vs,(y=av vs∧vt vs∧s.length≤140737488355328)∧K (gE (comp (bn vs) s))
 |_,_,_=>False
theorem p5:EntOk Try.prog 19 (Ent.pure fp):=by
 refine EntOk.pure fun args H K h=>?_
 unfold fp at h
 split at h
 rotate_left
 ·exact h.elim
 rename_i s m2 y
 obtain ⟨vs,⟨rfl,hov,hsl⟩,hK⟩:=h
 refine ⟨_,hK,?_⟩
 clear hK
 refine ACalls.fW aE (TblOk.cons ox (TblOk.cons vU (TblOk.cons tH (TblOk.cons tL TblOk.nil)))) Try.func19 [.tmp 4,.tmp 5] (Nat.le_refl _) (T:=ax []) (h:=fun hcl hlt=>?_)
 have hm2:∀ n',H.nx≤n'→AV.lt n' (.slice m2 2 (av vs)):=fun n' hn=>AV.lt_mono hn _ (hlt (.slice m2 2 (av vs)) (by simp))
 clear hlt
 unfold comp
 by_cases hs:s=[]
 ·subst hs
  have d1:(([]:List UInt8)==[])=true:=rfl
  rw [if_pos rfl]
  simp only [go_sem,d1,mU]
  simp (disch:=first|assumption|omega|(simp;done)|(simp;omega)|(simp only [bt,and_true];first|done|omega|(simp;done))) [↓zmi,beq,ybc,ybd,ybe,ag,wk,wk2,wk1,wkM,wkL,ak,ybf,hcl,gE,wo,nds,mm,znm,bm,znl,zmz,znb,zno,znp]
 ·have d1:(s==[])=false:=by simp [hs]
  rw [if_neg hs]
  obtain ⟨hg1,hg2⟩:=oP s
  obtain ⟨f,hf⟩:=rP (bz s).1
  generalize prs (bz s).1=r at *
  obtain ⟨i,hpi⟩:=wM (bz s).1 r
  obtain ⟨hpg,hpl,_⟩:=p8 hf
  have hps:=oc hg2 hf
  generalize da (bz s).1 r=te at *
  obtain ⟨t,e⟩:=te
  dsimp only at hpi hpg hpl hps
  have hot:okT t:=⟨hpg,hps,by omega⟩
  obtain ⟨hc1,hc2⟩:=@xJ (bn vs) t
  unfold ur
  by_cases he0:(bz s).2.2=0
  ·have d2:((((bz s).2.2:Nat):Int) != 0)=false:=by rw [he0];rfl
   rw [if_neg (fun h=>h he0)]
   simp only [go_sem,d1,lk,nP,hsl,d2,l6]
   refine ⟨(bz s).1,f,r,⟨rfl,hf,by omega,hg2⟩,?_⟩
   simp only [go_sem,hpi]
   by_cases he:e=0
   ·subst he
    have d3:(((0:Nat):Int) != 0)=false:=rfl
    rw [if_neg (fun h=>h rfl)]
    simp only [go_sem,d3,lP]
    refine ⟨t,vs,⟨rfl,rfl,hot,hov⟩,?_⟩
    by_cases hch:(chk (bn vs) t).2=0
    ·have d4:((((chk (bn vs) t).2:Nat):Int) != 0)=false:=by rw [hch];rfl
     rw [if_neg (fun h=>h hch)]
     simp only [go_sem,d4]
     simp (disch:=first|assumption|omega|(simp;done)|(simp;omega)|(simp only [bt,and_true];first|done|omega|(simp;done))) [↓zmi,beq,ybc,ybd,ybe,ag,wk,wk2,wk1,wkM,wkL,ak,ybf,hcl,gE,znm,kv,zmz,zno,znp]
    ·have d4:((((chk (bn vs) t).2:Nat):Int) != 0)=true:=bne_iff_ne.2 (by omega)
     rw [if_pos hch]
     simp only [go_sem,d4]
     simp (disch:=first|assumption|omega|(simp;done)|(simp;omega)|(simp only [bt,and_true];first|done|omega|(simp;done))) [↓zmi,beq,ybc,ybd,ybe,ag,wk,wk2,wk1,wkM,wkL,ak,ybf,hcl,gE,nds,znm,bm,zmz,zno,znp]
   ·have d3:((e:Int) != 0)=true:=bne_iff_ne.2 (by omega)
    rw [if_pos he]
    simp only [go_sem,d3]
    simp (disch:=first|assumption|omega|(simp;done)|(simp;omega)|(simp only [bt,and_true];first|done|omega|(simp;done))) [↓zmi,beq,ybc,ybd,ybe,ag,wk,wk2,wk1,wkM,wkL,ak,ybf,hcl,gE,nds,znm,bm,zmz,zno,znp]
  ·have d2:((((bz s).2.2:Nat):Int) != 0)=true:=bne_iff_ne.2 (by omega)
   rw [if_pos he0]
   simp only [go_sem,d1,lk,nP,hsl,d2]
   simp (disch:=first|assumption|omega|(simp;done)|(simp;omega)|(simp only [bt,and_true];first|done|omega|(simp;done))) [↓zmi,beq,ybc,ybd,ybe,ag,wk,wk2,wk1,wkM,wkL,ak,ybf,hcl,gE,nds,znm,bm,zmz,zno,znp]
end Go.AL
