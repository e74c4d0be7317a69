/- Contracts and plain laws, a part of the proof; no condition of its own. -/
import Derived.Shelf.Strings.OnBuilder
import Derived.Test.YtknhoembfohbiaaC06
import Derived.Test.YtknhoembfohbiaaLJoin
set_option linter.all false
set_option maxRecDepth 10000
namespace Go.Proofs
open Go.Shelf Go.RowKit
def Try.lays156_ren : Go.Shelf.Ren := ⟨fun | 156 => 72 | 165 => 142 | 166 => 143 | 169 => 144 | 240 => 190 | 241 => 191 | 276 => 218 | 277 => 219 | n => n, fun | 31 => 37 | 9 => 9 | 3 => 3 | 4 => 4 | 0 => 0 | 20 => 20 | 72 => 227 | 76 => 231 | 70 => 225 | 37 => 22 | 75 => 230 | 127 => 284 | 164 => 301 | 5 => 5 | 80 => 25 | n => n, fun | n => n⟩
theorem Try.lays156 : Go.Proofs.Lays.n156 Try.prog Try.lays156_ren := {
  mixed := by kernel_rfl
  f156 := Try.func72.trans (congrArg some (by kernel_rfl))
  f165 := Try.func142.trans (congrArg some (by kernel_rfl))
  f166 := Try.func143.trans (congrArg some (by kernel_rfl))
  f169 := Try.func144.trans (congrArg some (by kernel_rfl))
  f240 := Try.func190.trans (congrArg some (by kernel_rfl))
  f241 := Try.func191.trans (congrArg some (by kernel_rfl))
  f276 := Try.func218.trans (congrArg some (by kernel_rfl))
  f277 := Try.func219.trans (congrArg some (by kernel_rfl))
  t0 := Try.underlying0
  a0 := Try.isAgg0
  z0 := Try.sizeOf0
  v0 := Try.zeroValue0
  t3 := Try.underlying3
  a3 := Try.isAgg3
  z3 := Try.sizeOf3
  v3 := Try.zeroValue3
  t4 := Try.underlying4
  a4 := Try.isAgg4
  z4 := Try.sizeOf4
  v4 := Try.zeroValue4
  t9 := Try.underlying9
  a9 := Try.isAgg9
  z9 := Try.sizeOf9
  v9 := Try.zeroValue9
  t20 := Try.underlying20
  a20 := Try.isAgg20
  z20 := Try.sizeOf20
  v20 := Try.zeroValue20
  t31 := Try.underlying37
  a31 := Try.isAgg37
  z31 := Try.sizeOf37
  v31 := Try.zeroValue37
  t37 := Try.underlying22
  a37 := Try.isAgg22
  z37 := Try.sizeOf22
  v37 := Try.zeroValue22
  t70 := Try.underlying225
  a70 := Try.isAgg225
  z70 := Try.sizeOf225
  v70 := Try.zeroValue225
  t72 := Try.underlying227
  a72 := Try.isAgg227
  z72 := Try.sizeOf227
  v72 := Try.zeroValue227
  t75 := Try.underlying230
  a75 := Try.isAgg230
  z75 := Try.sizeOf230
  v75 := Try.zeroValue230
  t76 := Try.underlying231
  a76 := Try.isAgg231
  z76 := Try.sizeOf231
  v76 := Try.zeroValue231
  t127 := Try.underlying284
  a127 := Try.isAgg284
  z127 := Try.sizeOf284
  v127 := Try.zeroValue284
  t164 := Try.underlying301
  a164 := Try.isAgg301
  z164 := Try.sizeOf301
  v164 := Try.zeroValue301 }
theorem Try.Builder_Extra_156 : Builder.Extra Try.prog Try.lays156_ren := {
  sizeBuilder := by kernel_rfl
  liesBuilder := by kernel_rfl
  t5 := Try.underlying5
  a5 := Try.isAgg5
  z5 := Try.sizeOf5
  v5 := Try.zeroValue5
  infoByte := by kernel_rfl
  cellsByte := by kernel_rfl
  sizeByte := by kernel_rfl
  neB5 := by decide }
theorem Try.strings_Join_none (a : Option Addr) (c : Nat) (sep : ByteArray) (w : World) :
    Calls Try.prog 72 #[.slice a 0 c, .string sep] w fun e w' => e = .returned (.string ⟨#[]⟩) ∧ w' = w := Any.strings_Join_none Try.lays156 Try.Builder_Extra_156 a c sep w
theorem Try.strings_Join (bk o c : Nat) (xs : List ByteArray) (sep : ByteArray) (w : World) (hcells : ∀ (j : Nat) x, xs[j]? = some x → w.cell? ⟨bk, o + j, none⟩ = some (.string x)) (hbk : bk < w.heap.size) (hN : xs.length ≤ 140737488355328) (hcap : xs.length ≤ c) (hlen : (Lib.join (xs.map (·.data.toList)) sep.data.toList).length ≤ 140737488355328) :
    Calls Try.prog 72 #[.slice (some ⟨bk, o, none⟩) xs.length c, .string sep] w fun e w' => e = .returned (.string ⟨(Lib.join (xs.map (·.data.toList)) sep.data.toList).toArray⟩) ∧ Below w.heap.size w w' := Any.strings_Join Try.lays156 Try.Builder_Extra_156 bk o c xs sep w hcells hbk hN hcap hlen
end Go.Proofs
open Go Go.AL Go.Proofs Go.RowKit
namespace Go.AL
set_option linter.all false
set_option maxRecDepth 10000
theorem ext_below {w w' : World} {γ : Conc} {H : AHeap} (h : Below w.heap.size w w') : Ext w γ H w' γ H where
  os := h.os
  tape := h.tape
  output := h.output
  size := h.size
  nx := Nat.le_refl _
  block := fun b C ty fr hb => ⟨C, by rw [h.block b (lt_of_block hb)]; exact hb, rfl, fun _ _ _ _ => rfl⟩
  imm := fun _ _ _ h => h
  un := fun b hb _ => h.block b hb
  none := fun id _ hn => ⟨hn, rfl⟩
  keep := (Ext.refl w γ H).keep
  bufs := (Ext.refl w γ H).bufs
  bufk := (Ext.refl w γ H).bufk
theorem state_below {w w' : World} {γ : Conc} {H : AHeap} (hs : State w γ H) (h : Below w.heap.size w w') : State w' γ H where
  inj := hs.inj
  obj := fun id o ho => (hs.obj id o ho).mono (ext_below h) rfl fun blk C ty fr _ hb => by rw [h.block blk (lt_of_block hb)]; exact hb
theorem spaced_join : ∀ xs : List (List UInt8), Lib.join xs [32] = spaced xs
  | [] => rfl
  | [x] => by simp [Lib.join, spaced, List.intercalate, List.intersperse]
  | x :: y :: r => by
    have := spaced_join (y :: r)
    simp [Lib.join, spaced, List.intercalate, List.intersperse] at this ⊢
    exact this
def p_SJoin : List AV → AHeap → (AV → Prop) → Prop
  | [.slice _ 1 x, .str sep], _, K => ∃ xs, (x = sAV xs ∧ xs.length ≤ 140737488355328 ∧ (Lib.join xs sep).length ≤ 140737488355328) ∧ K (.str (Lib.join xs sep))
  | _, _, _ => False
set_option maxHeartbeats 4000000 in
theorem ok_SJoin : EntOk Try.prog 72 (Ent.pure p_SJoin) := by
  refine EntOk.pure fun args H K h => ?_
  unfold p_SJoin at h
  split at h
  rotate_left
  · exact h.elim
  rename_i m x sep
  obtain ⟨xs, ⟨rfl, hl, hj⟩, hK⟩ := h
  refine ⟨_, hK, ?_⟩
  clear hK
  intro w γ vs hs hA
  obtain ⟨hsz, hA⟩ := hA
  obtain ⟨v1, h1, r1⟩ := hA 0 (by simp)
  obtain ⟨v2, h2, r2⟩ := hA 1 (by simp)
  have hv : vs = #[v1, v2] := by
    apply Array.ext
    · simpa using hsz
    · intro i hi1 hi2
      have : i = 0 ∨ i = 1 := by simp at hi2; omega
      rcases this with rfl | rfl
      · rw [Array.getElem?_eq_getElem hi1] at h1; exact Option.some.inj h1
      · rw [Array.getElem?_eq_getElem hi1] at h2; exact Option.some.inj h2
  subst hv
  replace r1 : Rel w γ H (.slice m 1 (sAV xs)) v1 := r1
  replace r2 : Rel w γ H (.str sep) v2 := r2
  rw [Rel] at r2
  rw [Rel] at r1
  subst r2
  rw [run_enter Try.func72 (by rfl) (by rfl)]
  unfold UponCall
  rcases r1 with ⟨⟨a, rfl⟩, hx, _⟩ | ⟨blk, off, cap, C, ty, fr, rfl, hle, hb, hC, hi, hm, hc⟩
  · have : xs = [] := List.map_eq_nil_iff.1 hx
    subst this
    refine (Try.strings_Join_none a 0 ⟨sep.toArray⟩ w).mono ?_
    intro e w' he
    obtain ⟨he, hw⟩ := he
    subst he
    subst hw
    refine ⟨γ, hs, Ext.refl _ _ _, ?_⟩
    show Rel _ _ _ (.str (Lib.join [] sep)) _
    rw [Rel]
    rfl
  · have e2 : (xs.map fun y => (⟨y.toArray⟩ : ByteArray)).map (·.data.toList) = xs := by simp [List.map_map, Function.comp_def]
    have key : ∀ (j : Nat) (x : ByteArray), (xs.map fun y => (⟨y.toArray⟩ : ByteArray))[j]? = some x → w.cell? ⟨blk, off + j, none⟩ = some (.string x) := by
      intro j x hx
      rw [List.getElem?_map] at hx
      obtain ⟨y, hy, rfl⟩ := Option.map_eq_some_iff.1 hx
      obtain ⟨hj, hy⟩ := List.getElem?_eq_some_iff.1 hy
      obtain ⟨g1, g2⟩ := hc j (by rw [sAV_length]; exact hj)
      obtain ⟨u, hu, hr⟩ := g2 0 (by rw [g1]; omega)
      have e : (sAV xs)[j]'(by rw [sAV_length]; exact hj) = .str y := by simp [sAV, hy]
      simp only [e] at hr
      replace hr : Rel w γ H (.str y) u := hr
      rw [Rel] at hr
      subst hr
      rw [cell_row hb]
      simpa using hu
    have hl2 : (xs.map fun y => (⟨y.toArray⟩ : ByteArray)).length ≤ 140737488355328 := by rw [List.length_map]; exact hl
    have hle2 : (xs.map fun y => (⟨y.toArray⟩ : ByteArray)).length ≤ cap := by rw [List.length_map]; rw [sAV_length] at hle; exact hle
    have hj2 : (Lib.join ((xs.map fun y => (⟨y.toArray⟩ : ByteArray)).map (·.data.toList)) (⟨sep.toArray⟩ : ByteArray).data.toList).length ≤ 140737488355328 := by rw [e2]; exact hj
    have h := Try.strings_Join blk off cap (xs.map fun y => (⟨y.toArray⟩ : ByteArray)) ⟨sep.toArray⟩ w key (lt_of_block hb) hl2 hle2 hj2
    have hxl : (sAV xs).length = (xs.map fun y => (⟨y.toArray⟩ : ByteArray)).length := by rw [List.length_map, sAV_length]
    rw [← hxl, e2] at h
    refine h.mono ?_
    intro e w' he
    obtain ⟨he, hw⟩ := he
    subst he
    refine ⟨γ, state_below hs hw, ext_below hw, ?_⟩
    show Rel _ _ _ (.str (Lib.join xs sep)) _
    rw [Rel]
end Go.AL

