/- Contracts and plain laws, a part of the proof; no condition of its own. -/
import Derived.Test.YtokjjhidigoodaaS09t
import Derived.Test.YtokjjhidigoodaaS08k
import Derived.Test.YtokjjhidigoodaaS09i
open Go Go.AL Go.Proofs
namespace Go.AL
set_option linter.all false
set_option maxRecDepth 10000
theorem Ci:ti Try.prog 38=some ⟨.struct [(0,3,false),(1,9,false),(2,35,false),(3,36,false),(4,3,false),(5,23,false),(6,3,false),(7,9,false)],8,128,.agg [.int .i64 0,.str [],.slice .nil 1 [],.slice .nil 1 [],.int .i64 0,.slice .nil 1 [],.int .i64 0,.str []]⟩:=by kernel_rfl
theorem BH:ti Try.prog 45=some ⟨.struct [(0,3,false),(1,9,false),(2,42,false),(3,43,false),(4,9,false)],5,88,.agg [.int .i64 0,.str [],.slice .nil 1 [],.slice .nil 1 [],.str []]⟩:=by kernel_rfl
theorem CB:ti Try.prog 41=some ⟨.struct [(0,3,false),(1,39,false),(2,3,false),(3,3,false),(4,23,false)],5,72,.agg [.int .i64 0,.slice .nil 1 [],.int .i64 0,.int .i64 0,.slice .nil 1 []]⟩:=by kernel_rfl
theorem BL:ti Try.prog 55=some ⟨.struct [(0,46,false),(1,47,false),(2,48,false),(3,49,false),(4,50,false),(5,51,false),(6,52,false),(7,53,false),(8,3,false),(9,3,false)],10,208,.agg [.slice .nil 1 [],.slice .nil 1 [],.slice .nil 1 [],.slice .nil 1 [],.slice .nil 1 [],.slice .nil 1 [],.slice .nil 1 [],.slice .nil 1 [],.int .i64 0,.int .i64 0]⟩:=by kernel_rfl
attribute [go_sem] Ci BH CB BL
theorem xc:Try.prog.eqGuardType Try.prog.depth 98=false:=by kernel_rfl
theorem yh {a b:List UInt8} {hi lo:Int}:teq Try.prog 9 98 (.agg [.str a,.str b,.int .u64 hi,.int .u64 lo]) (.agg [.str a,.str b,.int .u64 hi,.int .u64 lo])=some true:=by
 have g1:Try.prog.stoodInHeld 98=false:=by kernel_rfl
 have g2:Try.prog.stoodInHeld 95=false:=by kernel_rfl
 simp [sO,rS,teq,teq.go,teq.part,lT,eP,ceq,g1,g2,TD.agg]
def j6:List AV→AHeap→(AV→Prop)→Prop
 |[.slice _ 4 x,.slice _ 4 y],_,K=>∃ t,(x=ay t∧y=ay t∧t.length≤100000)∧K (.bool true)
 |_,_,_=>False
set_option maxHeartbeats 4000000 in
theorem Ay:EntOk Try.prog 12 (Ent.pure j6):=by
 refine EntOk.pure fun args H K h=>?_
 unfold j6 at h
 split at h
 rotate_left
 ·exact h.elim
 rename_i m x m' y
 obtain ⟨t,⟨rfl,rfl,hl⟩,hK⟩:=h
 refine ⟨_,hK,?_⟩
 clear hK
 refine ACalls.fW aD TblOk.nil Try.func12 [.tmp 4] (Nat.le_refl _) (T:=az []) (h:=fun hcl hlt=>?_)
 have hm:∀ n',H.nx≤n'→AV.lt n' (.slice m 4 (ay t)):=fun n' hn=>AV.lt_mono hn _ (hlt (.slice m 4 (ay t)) (by simp))
 have hm':∀ n',H.nx≤n'→AV.lt n' (.slice m' 4 (ay t)):=fun n' hn=>AV.lt_mono hn _ (hlt (.slice m' 4 (ay t)) (by simp))
 clear hlt
 simp only [go_sem,av]
 refine ax (fun hc=>by simp at hc) (fun hc=>?_)
 simp only [go_sem,av]
 refine aB (A:=Nat) (fun k=>[(1,.slice m' 4 (ay t)),(12,.slice m 4 (ay t)),(13,.int .i64 (t.length:Int)),(14,.int .i64 (k:Int))]) (fun k=>H) (fun k=>k≤t.length) (fun k=>t.length - k) 0 (by omega) ?_ fun k hk=>?_
 ·(simp only [bkq,enterW,aI,ltF,ne_eq,Nat.reduceEqDiff,reduceCtorEq,hm,hm'];try simp (disch:=first|assumption|omega|(simp;done)|(simp;omega)|(simp only [bt,and_true];first|done|omega|(simp;done))) [↓zmk,beq,List.take_of_length_le,List.drop_append,List.take_append,ag,wk,wk2,wk1,wkM,wkL,am,List.drop_eq_nil_of_le,byq,biq,au,hcl,hm,hm'];try (repeat' (first|assumption|omega|exact True.intro|refine And.intro ?_ ?_|refine af ?_|refine aa ?_|refine ae ?_ ?_|refine ah ?_ ?_|refine ak ?_|exact AHeap.Le.refl _|refine AHeap.Le.push ?_ _|refine AHeap.Le.del ?_ ?_|(simp only [bt,and_true,true_and,hm,hm'];first|done|omega|(simp;done)))))
 simp only [go_sem]
 refine ax (fun hc=>?_) (fun hc=>?_)
 ·have hk1:k<t.length:=by simp at hc;omega
  have e5:IntKind.i64.wrap ((k:Int)+1)=((k+1:Nat):Int):=by rw [wrap_i64]<;>omega
  simp only [go_sem,av,np hk1,Int.toNat_natCast,e5,yh,xc,bne_self_eq_false]
  refine ⟨by omega,by omega,k+1,by omega,by omega,?_⟩
  (simp only [bkq,enterW,aI,ltF,ne_eq,Nat.reduceEqDiff,reduceCtorEq,hm,hm'];try simp (disch:=first|assumption|omega|(simp;done)|(simp;omega)|(simp only [bt,and_true];first|done|omega|(simp;done))) [↓zmk,beq,List.take_of_length_le,List.drop_append,List.take_append,ag,wk,wk2,wk1,wkM,wkL,am,List.drop_eq_nil_of_le,byq,biq,au,hcl,hm,hm'];try (repeat' (first|assumption|omega|exact True.intro|refine And.intro ?_ ?_|refine af ?_|refine aa ?_|refine ae ?_ ?_|refine ah ?_ ?_|refine ak ?_|exact AHeap.Le.refl _|refine AHeap.Le.push ?_ _|refine AHeap.Le.del ?_ ?_|(simp only [bt,and_true,true_and,hm,hm'];first|done|omega|(simp;done)))))
 ·simp only [go_sem]
  simp (disch:=first|assumption|omega|(simp;done)|(simp;omega)|(simp only [bt,and_true];first|done|omega|(simp;done))) [↓zmk,beq,List.take_of_length_le,List.drop_append,List.take_append,ag,wk,wk2,wk1,wkM,wkL,am,List.drop_eq_nil_of_le,hcl]
end Go.AL
