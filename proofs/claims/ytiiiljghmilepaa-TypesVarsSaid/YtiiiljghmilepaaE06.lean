/- Contracts and plain laws, a part of the proof; no condition of its own. -/
import Derived.Test.YtiiiljghmilepaaD06
open Go Go.AL Go.Proofs
namespace Go.AL
set_option linter.all false
set_option maxRecDepth 10000
theorem tO:ti Try.prog 92=some ⟨.struct [(0,22,false),(1,3,false)],2,32,.agg [.slice .nil 1 [],.int .i64 0]⟩:=by kernel_rfl
attribute [go_sem] tO
def cod (b:List UInt8) (a:Int):AObj:=.cells [.slice .any 1 (bys b),.int .i64 a]
def qp:List AV→AHeap→(AEnd→AHeap→Prop)→Prop
 |[.slice m 1 l,.int .i64 n],H,K=>∃ b,(l=bys b∧0≤n)∧K (.ret (.ptr H.nx 0)) (H.push (cod (b.take (min (b.length:Int) n).toNat) 0))
 |_,_,_=>False
theorem xl:EntOk Try.prog 7 (Ent.effect qp):=by
 refine EntOk.effect fun args H K h=>?_
 unfold qp at h
 split at h
 rotate_left
 ·exact h.elim
 rename_i m l n
 obtain ⟨b,⟨rfl,hn⟩,hK⟩:=h
 refine ⟨_,_,hK,?_⟩
 clear hK
 refine ACalls.fW aE TblOk.nil Try.func7 [.tmp 4] (Nat.le_succ _) (T:=ax []) (h:=fun hcl hlt=>?_)
 clear hlt
 simp only [go_sem,zle,List.drop_zero,zlg]
 refine ⟨by omega,?_⟩
 simp (disch:=first|assumption|omega|(simp;done)|(simp;omega)|(simp only [bt,and_true];first|done|omega|(simp;done))) [↓zmi,beq,List.take_of_length_le,List.drop_append,List.take_append,ag,wk,wk2,wk1,wkM,wkL,ak,List.drop_eq_nil_of_le,hcl,cod]
 (repeat' (first|assumption|omega|exact True.intro|refine And.intro ?_ ?_|refine af ?_|refine aa ?_|refine ae ?_ ?_|refine ah ?_ ?_|refine ai ?_|exact AHeap.Le.refl _|refine AHeap.Le.push ?_ _|refine AHeap.Le.del ?_ ?_|(simp only [bt,and_true,true_and,zmm];first|done|omega|(simp;done))))
theorem mod_lt {x n:Int} (hn:1≤n):0≤(x.tmod n+n).tmod n∧(x.tmod n+n).tmod n<n:=by
 have h1:=Int.lt_tmod_of_pos x (show 0<n by omega)
 rw [Int.tmod_eq_emod_of_nonneg (by omega)]
 exact ⟨Int.emod_nonneg _ (by omega),Int.emod_lt_of_pos _ (by omega)⟩
theorem tW {l:List Tok} {k:Nat} (h:k<l.length):(cj l).getD k .junk=oQ l[k]:=by simp [cj,List.getD_eq_getElem?_getD,h]
end Go.AL
