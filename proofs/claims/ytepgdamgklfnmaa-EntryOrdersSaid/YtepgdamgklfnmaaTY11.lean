/- Contracts and plain laws, a part of the proof; no condition of its own. -/
import Derived.Test.YtepgdamgklfnmaaS10w
import Derived.Test.YtepgdamgklfnmaaTY10
open Go Go.AL Go.Proofs
namespace Go.AL
set_option linter.all false
set_option maxRecDepth 10000
theorem ti_match : ti Try.prog 88 = some ⟨.struct [(0, 4, false), (1, 29, false), (3, 29, false), (5, 3, false), (6, 29, false)], 8, 64, .agg [.bool false, .int .u64 0, .int .u64 0, .int .u64 0, .int .u64 0, .int .i64 0, .int .u64 0, .int .u64 0]⟩ := by kernel_rfl
theorem ti_matches : ti Try.prog 23 = some ⟨.slice 88, 1, 24, .slice .nil 1 []⟩ := by kernel_rfl
theorem ti_values : ti Try.prog 24 = some ⟨.slice 29, 1, 24, .slice .nil 1 []⟩ := by kernel_rfl
theorem ti_entry : ti Try.prog 26 = some ⟨.struct [(0, 3, false), (1, 23, false), (2, 3, false), (3, 3, false), (4, 24, false)], 5, 72, .agg [.int .i64 0, .slice .nil 1 [], .int .i64 0, .int .i64 0, .slice .nil 1 []]⟩ := by kernel_rfl
attribute [go_sem] ti_match ti_matches ti_values ti_entry
theorem tyV_val {d : Nat} {cs : List AV} (h : tyC Try.prog (d + 2) 29 cs) : ∃ x : Nat, x < 2 ^ 128 ∧ cs = vc x := by
  have h' : tyV Try.prog (d + 2) 29 (.agg cs) := by rw [ty_agg ti_zvalue rfl]; exact ⟨cs, rfl, h⟩
  obtain ⟨hi, lo, e, hv⟩ := tyVal h'
  cases e
  obtain ⟨x, hx, rfl, rfl, _⟩ := isV_out hv
  exact ⟨x, hx, rfl⟩
theorem tyMatchC {d : Nat} {cs : List AV} (h : tyC Try.prog (d + 3) 88 cs) : ∃ m : SMatch, cs = matchC m ∧ MOk m ∧ -9223372036854775808 ≤ m.pfx ∧ m.pfx ≤ 9223372036854775807 := by
  rw [ty_struct ti_match] at h
  obtain ⟨a1, r1, rfl, _, h1, a2, r2, rfl, _, h2, a3, r3, rfl, _, h3, a4, r4, rfl, _, h4, a5, r5, rfl, _, h5, rfl⟩ := h
  rw [ty_bool ti_zbool] at h1
  rw [ty_int ti_zint] at h4
  obtain ⟨b, rfl⟩ := h1
  obtain ⟨v, hv, rfl⟩ := tyV_val h2
  obtain ⟨k, hk, rfl⟩ := tyV_val h3
  obtain ⟨p, rfl, p1, p2⟩ := h4
  obtain ⟨g, hg, rfl⟩ := tyV_val h5
  refine ⟨⟨b, v, k, p, g⟩, rfl, ⟨hv, hk, hg⟩, ?_, ?_⟩
  · simpa [IntKind.min, IntKind.signed, IntKind.bits] using p1
  · simpa [IntKind.max, IntKind.signed, IntKind.bits] using p2
theorem list_lift {α : Type} {f : α → AV} {q : α → Prop} : ∀ (l : List AV), (∀ x ∈ l, ∃ a, x = f a ∧ q a) → ∃ l' : List α, l = l'.map f ∧ ∀ a ∈ l', q a
  | [], _ => ⟨[], rfl, by simp⟩
  | x :: l, h => by
    obtain ⟨a, ha, qa⟩ := h x List.mem_cons_self
    obtain ⟨l', hl, ql⟩ := list_lift l fun y hy => h y (List.mem_cons_of_mem _ hy)
    exact ⟨a :: l', by rw [ha, hl]; rfl, fun b hb => (List.mem_cons.1 hb).elim (fun e => e ▸ qa) (ql b)⟩
/-- what is so of an entry that a caller gives -/
structure EAny (e : SEntry) : Prop where
  ok : EOk e
  pf : ∀ m ∈ e.ms, -9223372036854775808 ≤ m.pfx ∧ m.pfx ≤ 9223372036854775807
  tb : -9223372036854775808 ≤ e.table ∧ e.table ≤ 9223372036854775807
  pr : -9223372036854775808 ≤ e.prio ∧ e.prio ≤ 9223372036854775807
  ac : -9223372036854775808 ≤ e.act ∧ e.act ≤ 9223372036854775807
  ar : ∀ x ∈ e.args, x < 2 ^ 128
  bm : e.ms.length * 64 ≤ 140737488351232
  ba : e.args.length * 16 ≤ 140737488351232
theorem tyEntryC {d : Nat} {cs : List AV} (h : tyC Try.prog (d + 5) 26 cs) : ∃ e : SEntry, cs = entryC e ∧ EAny e := by
  rw [ty_struct ti_entry] at h
  obtain ⟨a1, r1, rfl, _, h1, a2, r2, rfl, _, h2, a3, r3, rfl, _, h3, a4, r4, rfl, _, h4, a5, r5, rfl, _, h5, rfl⟩ := h
  rw [ty_int ti_zint] at h1 h3 h4
  rw [ty_slice ti_matches] at h2
  rw [ty_slice ti_values] at h5
  obtain ⟨t, rfl, t1, t2⟩ := h1
  obtain ⟨p, rfl, p1, p2⟩ := h3
  obtain ⟨a, rfl, q1, q2⟩ := h4
  obtain ⟨ms, rfl, hml, hms⟩ := h2
  obtain ⟨ar, rfl, hal, har⟩ := h5
  obtain ⟨ms', rfl, hmo⟩ := list_lift (f := matchAV) (q := fun m => MOk m ∧ -9223372036854775808 ≤ m.pfx ∧ m.pfx ≤ 9223372036854775807) ms fun x hx => by
    have := hms x hx
    have h' : tyV Try.prog (d + 3) 88 x := this
    rw [ty_agg ti_match rfl] at h'
    obtain ⟨cs, rfl, h'⟩ := h'
    obtain ⟨m, rfl, hm⟩ := tyMatchC h'
    exact ⟨m, rfl, hm⟩
  obtain ⟨ar', rfl, hao⟩ := list_lift (f := vv) (q := fun x => x < 2 ^ 128) ar fun x hx => by
    have := har x hx
    have h' : tyV Try.prog (d + 1 + 2) 29 x := this
    rw [ty_agg ti_zvalue rfl] at h'
    obtain ⟨cs, rfl, h'⟩ := h'
    obtain ⟨y, hy, rfl⟩ := tyV_val h'
    exact ⟨y, rfl, hy⟩
  refine ⟨⟨t, ms', p, a, ar'⟩, ?_, ?_⟩
  · rw [sizeT_of ti_match, sizeT_of ti_zvalue]; rfl
  have b1 : 1 ≤ Try.prog.bytesOf 88 := by decide +kernel
  have b2 : 1 ≤ Try.prog.bytesOf 29 := by decide +kernel
  have c1 : Try.prog.bytesOf 88 = 64 := by decide +kernel
  have c2 : Try.prog.bytesOf 29 = 16 := by decide +kernel
  have m1 := Nat.mul_le_mul_left (ms'.map matchAV).length b1
  have m2 := Nat.mul_le_mul_left (ar'.map vv).length b2
  rw [List.length_map] at m1 m2 hml hal
  simp [IntKind.min, IntKind.max, IntKind.signed, IntKind.bits] at t1 t2 p1 p2 q1 q2
  exact ⟨⟨by dsimp only; omega, by dsimp only; omega, fun m hm => (hmo m hm).1⟩, fun m hm => (hmo m hm).2, ⟨by dsimp only; omega, by dsimp only; omega⟩, ⟨by dsimp only; omega, by dsimp only; omega⟩, ⟨by dsimp only; omega, by dsimp only; omega⟩, hao, by dsimp only; rw [c1] at hml; omega, by dsimp only; rw [c2] at hal; omega⟩
theorem tyEntry {d : Nat} {x : AV} (h : tyV Try.prog (d + 5) 26 x) : ∃ e : SEntry, x = .agg (entryC e) ∧ EAny e := by
  rw [ty_agg ti_entry rfl] at h
  obtain ⟨cs, rfl, h⟩ := h
  obtain ⟨e, rfl, he⟩ := tyEntryC h
  exact ⟨e, rfl, he⟩
end Go.AL

