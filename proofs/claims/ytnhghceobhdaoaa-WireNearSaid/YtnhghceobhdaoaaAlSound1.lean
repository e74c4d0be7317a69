/- The abstract layer: the rules are sound, 1: types, constants, reckonings. -/
import Derived.Test.YtnhghceobhdaoaaAlCode
namespace Go.AL
set_option linter.all false
set_option linter.unusedSectionVars false

theorem ti_spec {P : Program} {t : TypeId} {i : TI} (h : ti P t = some i) :
    ∃ d inf z, P.underlying t = some d ∧ P.info? t = some inf ∧ inf.zero = some z ∧ i = ⟨tdOf d, inf.size, inf.bytes, ofValue z⟩ := by
  unfold ti at h
  split at h
  · rename_i d inf hd hi
    split at h
    · rename_i z hz
      cases h
      exact ⟨d, inf, z, hd, hi, hz, rfl⟩
    · cases h
  · cases h

section
variable {P : Program} {w : World} {t : TypeId}
theorem run_und {d : TypeDesc} (h : P.underlying t = some d) : (underlying t).run P w = .ok d w := by
  simp [underlying, h]
theorem run_info {i : TypeInfo} (h : P.info? t = some i) : (typeInfo t).run P w = .ok i w := by
  simp [typeInfo, h]
theorem run_size {i : TypeInfo} (h : P.info? t = some i) : (sizeOf t).run P w = .ok i.size w := by
  simp [sizeOf, run_info h]
theorem run_zero {i : TypeInfo} {z : Value} (h : P.info? t = some i) (hz : i.zero = some z) : (zeroValue t).run P w = .ok z w := by
  simp [zeroValue, run_info h, hz]
theorem run_agg {d : TypeDesc} (h : P.underlying t = some d) : (isAgg t).run P w = .ok (tdOf d).agg w := by
  cases d <;> simp [isAgg, run_und h, tdOf, TD.agg]
end

section
variable {w : World} {γ : Conc} {H : AHeap}

theorem rel_scalarOf (v : Value) : Rel w γ H (scalarOf v) v := by
  cases v with
  | string s => simp [scalarOf, Rel]
  | pointer a => cases a <;> simp [scalarOf, Rel]
  | slice a n c =>
    unfold scalarOf
    split <;> first
      | (rename_i h; cases h; done)
      | (rename_i h; cases h; rw [Rel]; exact .inl ⟨⟨_, rfl⟩, rfl, trivial⟩)
      | simp [Rel]
  | map r => cases r <;> simp [scalarOf, Rel]
  | _ => simp [scalarOf, Rel]

theorem rel_ofValue (v : Value) : Rel w γ H (ofValue v) v := by
  cases v with
  | agg cs =>
    simp only [ofValue]; rw [Rel]
    refine ⟨cs, rfl, by simp, fun j hj => ?_⟩
    simp only [List.length_map, Array.length_toList] at hj
    exact ⟨cs[j], by simp [hj], by simpa using rel_scalarOf _⟩
  | _ => simp only [ofValue]; exact rel_scalarOf _

theorem Rel.cells {x : AV} {v : Value} (h : Rel w γ H x v) (hj : x ≠ .junk) (ht : ∀ vs, x ≠ .tup vs) :
    v.cells.size = x.cells.length ∧ AtR (Rel w γ H) x.cells v.cells 0 := by
  cases x with
  | junk => exact absurd rfl hj
  | tup vs => exact absurd rfl (ht vs)
  | agg cs =>
    rw [Rel] at h
    obtain ⟨C, rfl, hs, hc⟩ := h
    exact ⟨hs, fun j hj => by rw [Nat.zero_add]; exact hc j hj⟩
  | _ =>
    have hv : v.cells = #[v] := by
      cases v <;> first | rfl | skip
      all_goals (rw [Rel] at h; simp at h; done)
    refine ⟨by rw [hv]; rfl, fun j hj => ?_⟩
    simp only [AV.cells, List.length_singleton] at hj
    obtain rfl : j = 0 := by omega
    exact ⟨v, by simp [hv], h⟩

end
end Go.AL
