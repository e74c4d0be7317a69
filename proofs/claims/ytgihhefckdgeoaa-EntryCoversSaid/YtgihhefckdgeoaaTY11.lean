/- Contracts and plain laws, a part of the proof; no condition of its own. -/
import Derived.Test.YtgihhefckdgeoaaS10y
import Derived.Test.YtgihhefckdgeoaaTY10
open Go Go.AL Go.Proofs
namespace Go.AL
set_option linter.all false
set_option maxRecDepth 10000
theorem ti_match : ti Try.prog 55 = some ⟨.struct [(0, 4, false), (1, 25, false), (3, 25, false), (5, 3, false), (6, 25, false)], 8, 64, .agg [.bool false, .int .u64 0, .int .u64 0, .int .u64 0, .int .u64 0, .int .i64 0, .int .u64 0, .int .u64 0]⟩ := by kernel_rfl
theorem ti_matches : ti Try.prog 39 = some ⟨.slice 55, 1, 24, .slice .nil 1 []⟩ := by kernel_rfl
theorem ti_values : ti Try.prog 40 = some ⟨.slice 25, 1, 24, .slice .nil 1 []⟩ := by kernel_rfl
theorem ti_entry : ti Try.prog 42 = some ⟨.struct [(0, 3, false), (1, 39, false), (2, 3, false), (3, 3, false), (4, 40, false)], 5, 72, .agg [.int .i64 0, .slice .nil 1 [], .int .i64 0, .int .i64 0, .slice .nil 1 []]⟩ := by kernel_rfl
theorem ti_inst : ti Try.prog 67 = some ⟨.struct [(0, 42, false), (5, 3, false), (6, 3, false)], 7, 88, .agg [.int .i64 0, .slice .nil 1 [], .int .i64 0, .int .i64 0, .slice .nil 1 [], .int .i64 0, .int .i64 0]⟩ := by kernel_rfl
theorem ti_point : ti Try.prog 45 = some ⟨.array 4 25, 8, 64, .agg [.int .u64 0, .int .u64 0, .int .u64 0, .int .u64 0, .int .u64 0, .int .u64 0, .int .u64 0, .int .u64 0]⟩ := by kernel_rfl
attribute [go_sem] ti_match ti_matches ti_values ti_entry ti_inst ti_point
theorem tyV_val {d : Nat} {cs : List AV} (h : tyC Try.prog (d + 2) 25 cs) : ∃ x : Nat, x < 2 ^ 128 ∧ cs = vc x := by
  have h' : tyV Try.prog (d + 2) 25 (.agg cs) := by rw [ty_agg ti_zvalue rfl]; exact ⟨cs, rfl, h⟩
  obtain ⟨hi, lo, e, hv⟩ := tyVal h'
  cases e
  obtain ⟨x, hx, rfl, rfl, _⟩ := isV_out hv
  exact ⟨x, hx, rfl⟩
theorem tyMatchC {d : Nat} {cs : List AV} (h : tyC Try.prog (d + 3) 55 cs) : ∃ m : SMatch, cs = matchC m ∧ MOk m ∧ -9223372036854775808 ≤ m.pfx ∧ m.pfx ≤ 9223372036854775807 := by
  rw [ty_struct ti_match] at h
  obtain ⟨a1, r1, rfl, _, h1, a2, r2, rfl, _, h2, a3, r3, rfl, _, h3, a4, r4, rfl, _, h4, a5, r5, rfl, _, h5, rfl⟩ := h
  rw [ty_bool ti_zbool] at h1
  rw [ty_int ti_zint] at h4
  obtain ⟨b, rfl⟩ := h1
  obtain ⟨v, hv, rfl⟩ := tyV_val h2
  obtain ⟨k, hk, rfl⟩ := tyV_val h3
  obtain ⟨p, rfl, p1, p2⟩ := h4
  obtain ⟨g, hg, rfl⟩ := tyV_val h5
  refine ⟨⟨b, v, k, p, g⟩, rfl, ⟨hv, hk, hg⟩, ?_, ?_⟩
  · simpa [IntKind.min, IntKind.signed, IntKind.bits] using p1
  · simpa [IntKind.max, IntKind.signed, IntKind.bits] using p2
theorem tyMatch {d : Nat} {x : AV} (h : tyV Try.prog (d + 3) 55 x) : ∃ m : SMatch, x = .agg (matchC m) ∧ MOk m ∧ -9223372036854775808 ≤ m.pfx ∧ m.pfx ≤ 9223372036854775807 := by
  rw [ty_agg ti_match rfl] at h
  obtain ⟨cs, rfl, h⟩ := h
  obtain ⟨m, rfl, hm⟩ := tyMatchC h
  exact ⟨m, rfl, hm⟩
theorem tyPoint {d : Nat} {x : AV} (h : tyV Try.prog (d + 3) 45 x) : ∃ p : List Nat, x = .agg (pointC p) ∧ POk p := by
  rw [ty_agg ti_point rfl] at h
  obtain ⟨cs, rfl, h⟩ := h
  rw [ty_array ti_point] at h
  obtain ⟨a1, r1, rfl, _, h1, a2, r2, rfl, _, h2, a3, r3, rfl, _, h3, a4, r4, rfl, _, h4, rfl⟩ := h
  obtain ⟨w, hw, rfl⟩ := tyV_val h1
  obtain ⟨x, hx, rfl⟩ := tyV_val h2
  obtain ⟨y, hy, rfl⟩ := tyV_val h3
  obtain ⟨z, hz, rfl⟩ := tyV_val h4
  refine ⟨[w, x, y, z], rfl, rfl, fun a ha => ?_⟩
  simp only [List.mem_cons, List.not_mem_nil, or_false] at ha
  rcases ha with rfl | rfl | rfl | rfl <;> assumption
end Go.AL

