/- Contracts and plain laws, a part of the proof; no condition of its own. -/
import Derived.Test.YtknhoembfohbiaaAlByte
import Derived.Laws.Externs
/- The abstract layer: rows of small numbers. -/
namespace Go.AL
set_option linter.all false

/-- a row of numbers -/
def ints (l : List Nat) : List AV := l.map fun (d : Nat) => .int .i64 (d : Int)
def natOf (x : AV) : Nat := match x with | .int _ n => n.toNat | _ => 0
def uni (l : List AV) : List Nat := l.map natOf
def isI (l : List AV) : Prop := l = ints (uni l)
theorem ints_length {l : List Nat} : (ints l).length = l.length := by simp [ints]
theorem ints_nil : ints [] = [] := rfl
theorem ints_take {l : List Nat} {n : Nat} : (ints l).take n = ints (l.take n) := by simp [ints]
theorem ints_drop {l : List Nat} {n : Nat} : (ints l).drop n = ints (l.drop n) := by simp [ints]
theorem ints_append {l m : List Nat} : ints l ++ ints m = ints (l ++ m) := by simp [ints]
theorem ints_snoc {l : List Nat} {n : Nat} : ints l ++ [AV.int .i64 (n : Int)] = ints (l ++ [n]) := by simp [ints]
theorem ones_int {k : IntKind} {n : Int} : (∀ z ∈ [AV.int k n], allOne z.cells = true) = True := eq_true fun z hz => by
  simp at hz; subst hz; rfl
theorem uni_ints {l : List Nat} : uni (ints l) = l := by
  unfold uni ints
  rw [List.map_map]
  have : (natOf ∘ fun d => AV.int .i64 ((d : Nat) : Int)) = id := funext fun d => by simp [natOf]
  rw [this, List.map_id]
theorem uni_nil : uni [] = [] := rfl
theorem isI_ints {l : List Nat} : isI (ints l) = True := eq_true (by show ints l = ints (uni (ints l)); rw [uni_ints])
theorem isI_nil : isI [] = True := eq_true rfl
theorem isI_out {l : List AV} (h : isI l) : ∃ xs, l = ints xs := ⟨_, h⟩
theorem ints_inj {l m : List Nat} : (ints l = ints m) = (l = m) := propext ⟨fun h => by have := congrArg uni h; rwa [uni_ints, uni_ints] at this, fun h => by rw [h]⟩
theorem ints_get {l : List Nat} {i : Nat} (h : i < l.length) : (ints l).getD i .junk = .int .i64 (l.getD i 0 : Nat) := by
  simp [ints, List.getD_eq_getElem?_getD, h]
theorem ints_ones {l : List Nat} : (∀ z ∈ ints l, allOne z.cells = true) = True := eq_true fun z hz => by
  obtain ⟨b, _, rfl⟩ := List.mem_map.1 hz
  rfl
theorem zld {n : Nat} {m : Mark} {l : List Nat} : (AV.slice m 1 (ints l)).lt n = ∀ id, m = .own id → id < n := by
  rw [AV.lt]
  refine propext ⟨fun h => h.1, fun h => ⟨h, fun j hj => ?_⟩⟩
  simp only [ints, List.getElem_map]
  rw [AV.lt] <;> simp
theorem ints_eq_nil {l : List Nat} : (ints l = []) = (l = []) := by cases l <;> simp [ints]
/-- what is read of a row of numbers -/
theorem ints_cells {l : List Nat} {i : Nat} (h : i < l.length) : ((ints l).getD i .junk).cells = [.int .i64 (l.getD i 0 : Nat)] := by rw [ints_get h]; rfl
end Go.AL


/- The abstract layer: calls of functions for which the model stands in. -/
namespace Go.AL
set_option linter.all false
set_option linter.unusedSectionVars false

theorem relA_ints {w : World} {γ : Conc} {H : AHeap} {k : IntKind} {x y z : Int} {vs : Array Value} (h : RelA w γ H [.int k x, .int k y, .int k z] vs) : vs = #[.int k x, .int k y, .int k z] := by
  obtain ⟨h1, h2⟩ := h
  have h1' : vs.size = 3 := h1
  obtain ⟨u0, e0, r0⟩ := h2 0 (by simp)
  obtain ⟨u1, e1, r1⟩ := h2 1 (by simp)
  obtain ⟨u2, e2, r2⟩ := h2 2 (by simp)
  simp only [List.getElem_cons_zero, List.getElem_cons_succ] at r0 r1 r2
  rw [Rel] at r0 r1 r2
  subst r0 r1 r2
  obtain ⟨l⟩ := vs
  match l, h1' with
  | [a, b, c], _ => simp at e0 e1 e2; simp [e0, e1, e2]

theorem acalls_add64 {P : Program} {f : FuncId} {fn : Func} (hf : P.funcs[f]? = some fn) (hname : (fn.name == "runtime.NumGoroutine") = false) (hb : fn.body.isNone = true) (hn : Extern.findNext fn = none)
    (he : Extern.find fn = some add64Entry) {x y c : Int} (hx : 0 ≤ x) (hy : 0 ≤ y) (hc0 : 0 ≤ c) (hc : c ≤ 1) {H : AHeap} :
    ACalls P f [.int .u64 x, .int .u64 y, .int .u64 c] H (.ret (.tup [.int .u64 ((x + y + c) % 18446744073709551616), .int .u64 ((x + y + c) / 18446744073709551616)])) H := by
  intro w γ vs hs hr
  rw [relA_ints hr, run_callFunc_extern hf hname hb hn he, run_add64 x y c hx hy hc0 hc]
  refine ⟨γ, hs, Ext.refl _ _ _, ?_⟩
  show Rel w γ H _ _
  rw [Rel]
  refine ⟨_, rfl, rfl, fun j hj => ?_⟩
  match j, hj with
  | 0, _ => exact ⟨_, rfl, by simp only [List.getElem_cons_zero]; rw [Rel]; rfl⟩
  | 1, _ => exact ⟨_, rfl, by simp only [List.getElem_cons_zero, List.getElem_cons_succ]; rw [Rel]; rfl⟩
end Go.AL

