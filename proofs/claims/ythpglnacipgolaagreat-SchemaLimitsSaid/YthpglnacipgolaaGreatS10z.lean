/- Contracts and plain laws, a part of the proof; no condition of its own. -/
import Derived.Test.YthpglnacipgolaaGreatProg
import Derived.Test.YthpglnacipgolaaGreatAlBun
import Derived.Test.YthpglnacipgolaaGreatLGen
open Go Go.AL Go.Proofs
namespace Go.AL
set_option linter.all false
theorem mixed:Tryz.prog.follows .mixedOrders=true:=by kernel_rfl
end Go.AL


open Go Go.AL Go.Proofs
namespace Go.AL
set_option linter.all false
set_option maxRecDepth 10000
theorem ti_zcodes:ti Tryz.prog 111=some ⟨.struct [(0,32,false),(1,3,false)],2,32,.agg [.slice .nil 1 [],.int .i64 0]⟩:=by kernel_rfl
theorem ti_zpcodes:ti Tryz.prog 35=some ⟨.ptr 111,1,8,.nilp⟩:=by kernel_rfl
theorem ti_zbytes:ti Tryz.prog 32=some ⟨.slice 5,1,24,.slice .nil 1 []⟩:=by kernel_rfl
theorem ti_zu8:ti Tryz.prog 5=some ⟨.int .u8,1,1,.int .u8 0⟩:=by kernel_rfl
theorem ti_zu64:ti Tryz.prog 81=some ⟨.int .u64,1,8,.int .u64 0⟩:=by kernel_rfl
theorem ti_zuint:ti Tryz.prog 310=some ⟨.int .u64,1,8,.int .u64 0⟩:=by kernel_rfl
theorem ti_zint:ti Tryz.prog 3=some ⟨.int .i64,1,8,.int .i64 0⟩:=by kernel_rfl
theorem ti_zbool:ti Tryz.prog 4=some ⟨.bool,1,1,.bool false⟩:=by kernel_rfl
theorem ti_zstring:ti Tryz.prog 9=some ⟨.string,1,16,.str []⟩:=by kernel_rfl
theorem ti_zvalue:ti Tryz.prog 83=some ⟨.struct [(0,81,false),(1,81,false)],2,16,.agg [.int .u64 0,.int .u64 0]⟩:=by kernel_rfl
attribute [go_sem] ti_zcodes ti_zpcodes ti_zbytes ti_zu8 ti_zu64 ti_zuint ti_zint ti_zbool ti_zstring ti_zvalue
theorem le_updZ {H H1:AHeap} {i:Nat} {o:AObj} (h:∀ j x,j≠i→H.get j=some x→H1.get j=some x) (hg:H1.get i=some o) (hn:H.nx≤H1.nx):(H.set i o).Le H1:=⟨hn,fun j x hj=>by
  rcases AHeap.get_set_inv _ _ hj with ⟨rfl,rfl,_⟩ | ⟨h1,h2⟩
  · exact hg
  · exact h j x h1 h2⟩
theorem lt_sliceZ {n sz:Nat} {l:List AV} (h:∀ x∈l,AV.lt n x):AV.lt n (.slice .any sz l):=by
  rw [AV.lt]
  exact ⟨fun id e=>(by cases e),fun j hj=>h _ (List.getElem_mem hj)⟩
theorem mod_emod {x n:Int} (h:0<n):(x.tmod n+n).tmod n=x % n:=by
  have h1:=Int.lt_tmod_of_pos x h
  rw [Int.tmod_eq_emod_of_nonneg (by omega),Int.add_emod_right,Int.tmod_def,Int.sub_mul_emod_self_left]
def p_ZMod:List AV→AHeap→(AV→Prop)→Prop
  | [.int .i64 x,.int .i64 n],_,K=>(-9223372036854775808≤x∧x≤9223372036854775807∧1≤n∧n≤4000000000000000000)∧K (.int .i64 (x % n))
  | _,_,_=>False
theorem ok_ZMod:EntOk Tryz.prog 19 (Ent.pure p_ZMod):=by
  refine EntOk.pure fun args H K h=>?_
  unfold p_ZMod at h
  split at h
  rotate_left
  · exact h.elim
  rename_i x n
  obtain ⟨⟨hx1,hx2,hn1,hn2⟩,hK⟩:=h
  refine ⟨_,hK,?_⟩
  clear hK
  rw [← mod_emod (by omega)]
  refine ACalls.of_aw (Ω:=[]) (T:=assoc []) mixed TblOk.nil Tryz.func19 (by kernel_rfl) (by rfl) (rs:=[.tmp 4]) (by rfl) (by kernel_rfl) (by simp only [Tryz.ntmps19,List.length_cons,List.length_nil];decide) (Nat.le_refl _) fun hcl hlt=>?_
  change aw _ _ _ (KI Tryz.prog [] (aEnd Tryz.prog [.tmp 4] H.nx _ _) []) _ _
  clear hlt
  simp only [go_sem]
  refine cond_split (fun h=>by simp at h;omega) (fun _=>?_)
  have b1 : -n<x.tmod n∧x.tmod n<n:=by
    have h1:=Int.lt_tmod_of_pos x (show 0<n by omega)
    have h2:=Int.tmod_lt_of_pos x (show 0<n by omega)
    exact ⟨h1,h2⟩
  have e1:IntKind.i64.wrap (x.tmod n+n)=x.tmod n+n:=by rw [wrap_i64]<;>omega
  simp only [go_sem,e1]
  refine ⟨by omega,by omega,?_⟩
  simp (disch:=first | assumption | omega | (simp;done) | (simp;omega) | (simp only [bt,and_true];first | done | omega | (simp;done))) [↓zmi,beq,List.take_of_length_le,List.drop_append,List.take_append,endOk,wk,wk2,wk1,wkM,wkL,wkLL,List.drop_eq_nil_of_le,hcl]
end Go.AL

