/- Contracts and plain laws, a part of the proof; no condition of its own. -/
import Derived.Test.YtepgdamgklfnmaaGreatS10z
import Derived.Test.YtepgdamgklfnmaaGreatLGen
import Derived.Test.YtepgdamgklfnmaaGreatLSch2
open Go Go.AL Go.Proofs
namespace Go.AL
set_option linter.all false
set_option maxRecDepth 10000
theorem ti_tint : ti Tryz.prog 3 = some ⟨.int .i64, 1, 8, .int .i64 0⟩ := by kernel_rfl
theorem ti_sfield : ti Tryz.prog 87 = some ⟨.struct [(0, 3, false), (1, 9, false), (2, 3, false)], 3, 32, .agg [.int .i64 0, .str [], .int .i64 0]⟩ := by kernel_rfl
theorem ti_sheader : ti Tryz.prog 90 = some ⟨.struct [(0, 3, false), (1, 9, false), (2, 88, false)], 3, 48, .agg [.int .i64 0, .str [], .slice .nil 1 []]⟩ := by kernel_rfl
theorem ti_scase : ti Tryz.prog 156 = some ⟨.struct [(0, 24, false), (2, 24, false), (4, 3, false)], 5, 40, .agg [.int .u64 0, .int .u64 0, .int .u64 0, .int .u64 0, .int .i64 0]⟩ := by kernel_rfl
theorem ti_sstate : ti Tryz.prog 154 = some ⟨.struct [(0, 3, false), (1, 3, false), (2, 3, false), (3, 152, false), (4, 3, false)], 5, 56, .agg [.int .i64 0, .int .i64 0, .int .i64 0, .slice .nil 1 [], .int .i64 0]⟩ := by kernel_rfl
theorem ti_sprim : ti Tryz.prog 164 = some ⟨.struct [(0, 3, false), (1, 3, false), (2, 158, false)], 6, 48, .agg [.int .i64 0, .int .i64 0, .int .i64 0, .int .i64 0, .int .u64 0, .int .u64 0]⟩ := by kernel_rfl
theorem ti_soperand : ti Tryz.prog 158 = some ⟨.struct [(0, 3, false), (1, 3, false), (2, 24, false)], 4, 32, .agg [.int .i64 0, .int .i64 0, .int .u64 0, .int .u64 0]⟩ := by kernel_rfl
theorem ti_sparam : ti Tryz.prog 166 = some ⟨.struct [(0, 9, false), (1, 3, false)], 2, 24, .agg [.str [], .int .i64 0]⟩ := by kernel_rfl
theorem ti_saction : ti Tryz.prog 162 = some ⟨.struct [(0, 3, false), (1, 9, false), (2, 159, false), (3, 160, false), (4, 9, false)], 5, 88, .agg [.int .i64 0, .str [], .slice .nil 1 [], .slice .nil 1 [], .str []]⟩ := by kernel_rfl
theorem ti_skey : ti Tryz.prog 168 = some ⟨.struct [(0, 9, false), (1, 3, false), (2, 3, false)], 3, 32, .agg [.str [], .int .i64 0, .int .i64 0]⟩ := by kernel_rfl
theorem ti_stable : ti Tryz.prog 101 = some ⟨.struct [(0, 3, false), (1, 9, false), (2, 99, false), (3, 88, false), (4, 3, false), (5, 69, false), (6, 3, false), (7, 9, false)], 8, 128, .agg [.int .i64 0, .str [], .slice .nil 1 [], .slice .nil 1 [], .int .i64 0, .slice .nil 1 [], .int .i64 0, .str []]⟩ := by kernel_rfl
theorem ti_sstage : ti Tryz.prog 96 = some ⟨.struct [(0, 3, false), (1, 3, false)], 2, 16, .agg [.int .i64 0, .int .i64 0]⟩ := by kernel_rfl
theorem ti_sgrant : ti Tryz.prog 176 = some ⟨.struct [(0, 3, false), (1, 4, false), (2, 4, false), (3, 174, false)], 4, 40, .agg [.int .i64 0, .bool false, .bool false, .slice .nil 1 []]⟩ := by kernel_rfl
theorem ti_srole : ti Tryz.prog 173 = some ⟨.struct [(0, 3, false), (1, 9, false), (2, 171, false), (3, 88, false), (4, 3, false), (5, 4, false)], 6, 88, .agg [.int .i64 0, .str [], .slice .nil 1 [], .slice .nil 1 [], .int .i64 0, .bool false]⟩ := by kernel_rfl
theorem ti_sref : ti Tryz.prog 98 = some ⟨.struct [(0, 3, false), (1, 3, false), (2, 3, false), (3, 3, false), (4, 3, false), (5, 3, false)], 6, 48, .agg [.int .i64 0, .int .i64 0, .int .i64 0, .int .i64 0, .int .i64 0, .int .i64 0]⟩ := by kernel_rfl
theorem ti_sschema : ti Tryz.prog 40 = some ⟨.struct [(0, 31, false), (1, 32, false), (2, 33, false), (3, 34, false), (4, 35, false), (5, 36, false), (6, 37, false), (7, 38, false), (8, 3, false), (9, 3, false)], 10, 208, .agg [.slice .nil 1 [], .slice .nil 1 [], .slice .nil 1 [], .slice .nil 1 [], .slice .nil 1 [], .slice .nil 1 [], .slice .nil 1 [], .slice .nil 1 [], .int .i64 0, .int .i64 0]⟩ := by kernel_rfl
theorem ti_smatch : ti Tryz.prog 67 = some ⟨.struct [(0, 4, false), (1, 24, false), (3, 24, false), (5, 3, false), (6, 24, false)], 8, 64, .agg [.bool false, .int .u64 0, .int .u64 0, .int .u64 0, .int .u64 0, .int .i64 0, .int .u64 0, .int .u64 0]⟩ := by kernel_rfl
theorem ti_sentry : ti Tryz.prog 71 = some ⟨.struct [(0, 3, false), (1, 68, false), (2, 3, false), (3, 3, false), (4, 69, false)], 5, 72, .agg [.int .i64 0, .slice .nil 1 [], .int .i64 0, .int .i64 0, .slice .nil 1 []]⟩ := by kernel_rfl
theorem ti_lfield : ti Tryz.prog 31 = some ⟨.slice 87, 1, 24, .slice .nil 1 []⟩ := by kernel_rfl
theorem ti_lheader : ti Tryz.prog 32 = some ⟨.slice 90, 1, 24, .slice .nil 1 []⟩ := by kernel_rfl
theorem ti_lcase : ti Tryz.prog 152 = some ⟨.slice 156, 1, 24, .slice .nil 1 []⟩ := by kernel_rfl
theorem ti_lstate : ti Tryz.prog 33 = some ⟨.slice 154, 1, 24, .slice .nil 1 []⟩ := by kernel_rfl
theorem ti_lprim : ti Tryz.prog 160 = some ⟨.slice 164, 1, 24, .slice .nil 1 []⟩ := by kernel_rfl
theorem ti_lparam : ti Tryz.prog 159 = some ⟨.slice 166, 1, 24, .slice .nil 1 []⟩ := by kernel_rfl
theorem ti_laction : ti Tryz.prog 34 = some ⟨.slice 162, 1, 24, .slice .nil 1 []⟩ := by kernel_rfl
theorem ti_lkey : ti Tryz.prog 99 = some ⟨.slice 168, 1, 24, .slice .nil 1 []⟩ := by kernel_rfl
theorem ti_ltable : ti Tryz.prog 35 = some ⟨.slice 101, 1, 24, .slice .nil 1 []⟩ := by kernel_rfl
theorem ti_lstage : ti Tryz.prog 36 = some ⟨.slice 96, 1, 24, .slice .nil 1 []⟩ := by kernel_rfl
theorem ti_lgrant : ti Tryz.prog 171 = some ⟨.slice 176, 1, 24, .slice .nil 1 []⟩ := by kernel_rfl
theorem ti_lrole : ti Tryz.prog 37 = some ⟨.slice 173, 1, 24, .slice .nil 1 []⟩ := by kernel_rfl
theorem ti_lref : ti Tryz.prog 38 = some ⟨.slice 98, 1, 24, .slice .nil 1 []⟩ := by kernel_rfl
theorem ti_lmatch : ti Tryz.prog 68 = some ⟨.slice 67, 1, 24, .slice .nil 1 []⟩ := by kernel_rfl
theorem ti_lentry : ti Tryz.prog 51 = some ⟨.slice 71, 1, 24, .slice .nil 1 []⟩ := by kernel_rfl
theorem ti_lval : ti Tryz.prog 69 = some ⟨.slice 24, 1, 24, .slice .nil 1 []⟩ := by kernel_rfl
theorem ti_lint : ti Tryz.prog 88 = some ⟨.slice 3, 1, 24, .slice .nil 1 []⟩ := by kernel_rfl
theorem ti_lbool : ti Tryz.prog 174 = some ⟨.slice 4, 1, 24, .slice .nil 1 []⟩ := by kernel_rfl
attribute [go_sem] ti_tint ti_sfield ti_sheader ti_scase ti_sstate ti_sprim ti_soperand ti_sparam ti_saction ti_skey ti_stable ti_sstage ti_sgrant ti_srole ti_sref ti_sschema ti_smatch ti_sentry ti_lfield ti_lheader ti_lcase ti_lstate ti_lprim ti_lparam ti_laction ti_lkey ti_ltable ti_lstage ti_lgrant ti_lrole ti_lref ti_lmatch ti_lentry ti_lval ti_lint ti_lbool
theorem ne_nx {id n : Nat} (h : id < n) : ((id = n) = False) ∧ ((id = n + 1) = False) ∧ ((id = n + 1 + 1) = False) ∧ ((id = n + 1 + 1 + 1) = False) ∧ ((id = n + 1 + 1 + 1 + 1) = False) ∧ ((id = n + 1 + 1 + 1 + 1 + 1) = False) ∧ ((id = n + 1 + 1 + 1 + 1 + 1 + 1) = False) ∧ ((id = n + 1 + 1 + 1 + 1 + 1 + 1 + 1) = False) ∧ ((id = n + 1 + 1 + 1 + 1 + 1 + 1 + 1 + 1) = False) ∧ ((id = n + 1 + 1 + 1 + 1 + 1 + 1 + 1 + 1 + 1) = False) ∧ ((id = n + 1 + 1 + 1 + 1 + 1 + 1 + 1 + 1 + 1 + 1) = False) ∧ ((id = n + 1 + 1 + 1 + 1 + 1 + 1 + 1 + 1 + 1 + 1 + 1) = False) ∧ ((id = n + 1 + 1 + 1 + 1 + 1 + 1 + 1 + 1 + 1 + 1 + 1 + 1) = False) ∧ ((id = n + 1 + 1 + 1 + 1 + 1 + 1 + 1 + 1 + 1 + 1 + 1 + 1 + 1) = False) ∧ ((id = n + 1 + 1 + 1 + 1 + 1 + 1 + 1 + 1 + 1 + 1 + 1 + 1 + 1 + 1) = False) ∧ ((id = n + 1 + 1 + 1 + 1 + 1 + 1 + 1 + 1 + 1 + 1 + 1 + 1 + 1 + 1 + 1) = False) :=
  ⟨eq_false (by omega), eq_false (by omega), eq_false (by omega), eq_false (by omega), eq_false (by omega), eq_false (by omega), eq_false (by omega), eq_false (by omega), eq_false (by omega), eq_false (by omega), eq_false (by omega), eq_false (by omega), eq_false (by omega), eq_false (by omega), eq_false (by omega), eq_false (by omega)⟩
theorem lt_map {α : Type} {n sz : Nat} {f : α → AV} {l : List α} (h : ∀ x, AV.lt n (f x)) : AV.lt n (.slice .any sz (l.map f)) := lt_sliceZ fun x hx => by
  obtain ⟨y, _, rfl⟩ := List.mem_map.1 hx
  exact h y
theorem lt_inL {n : Nat} {l : List Int} : AV.lt n (.slice .any 1 (inL l)) := lt_map fun x => by simp only [zmn]
theorem lt_vvL {n : Nat} {l : List Nat} : AV.lt n (.slice .any 2 (l.map vv)) := lt_map fun x => by simp only [vv, zmz, znc, znd, zmn, and_true]
end Go.AL


open Go Go.AL Go.Proofs
namespace Go.AL
set_option linter.all false
set_option maxRecDepth 10000
theorem ti_lstring : ti Tryz.prog 169 = some ⟨.slice 9, 1, 24, .slice .nil 1 []⟩ := by kernel_rfl
theorem ti_llstring : ti Tryz.prog 170 = some ⟨.slice 169, 1, 24, .slice .nil 1 []⟩ := by kernel_rfl
attribute [go_sem] ti_lstring ti_llstring
/-- nothing but one object was changed -/
structure But (id : Nat) (H Hc : AHeap) : Prop where
  nx : H.nx ≤ Hc.nx
  get : ∀ j x, j ≠ id → H.get j = some x → Hc.get j = some x
theorem But.push {id : Nat} {H Hc : AHeap} (h : But id H Hc) (o : AObj) : But id H (Hc.push o) := ⟨by rw [zkm]; exact Nat.le_succ_of_le h.nx, fun j x hj hx => by
  have := h.get j x hj hx
  rw [AHeap.get_push_lt _ _ (AHeap.get_lt this)]; exact this⟩
theorem But.set {id i : Nat} {H Hc : AHeap} (h : But id H Hc) (o : AObj) (hi : i = id ∨ H.nx ≤ i) : But id H (Hc.set i o) := ⟨by rw [zkn]; exact h.nx, fun j x hj hx => by
  have hlt := AHeap.get_lt hx
  rw [AHeap.get_set_ne _ _ (by rcases hi with rfl | hi <;> omega)]
  exact h.get j x hj hx⟩
theorem But.del {id i : Nat} {H Hc : AHeap} (h : But id H Hc) (hi : H.nx ≤ i) : But id H (Hc.del i) := ⟨by rw [heap_nx_del]; exact h.nx, fun j x hj hx => by
  have hlt := AHeap.get_lt hx
  rw [heap_get_del, if_neg (by omega)]
  exact h.get j x hj hx⟩
theorem But.le {id : Nat} {H Hc : AHeap} {o : AObj} (h : But id H Hc) (hg : Hc.get id = some o) : (H.set id o).Le Hc := le_updZ h.get hg h.nx
end Go.AL


open Go Go.AL Go.Proofs
namespace Go.AL
set_option linter.all false
set_option maxRecDepth 10000

end Go.AL

