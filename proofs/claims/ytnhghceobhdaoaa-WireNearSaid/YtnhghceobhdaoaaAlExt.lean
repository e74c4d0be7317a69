/- The abstract layer: calls of functions for which the model stands in. -/
import Derived.Test.YtnhghceobhdaoaaAlInts
import Derived.Laws.Externs
namespace Go.AL
set_option linter.all false
set_option linter.unusedSectionVars false

theorem relA_ints {w : World} {γ : Conc} {H : AHeap} {k : IntKind} {x y z : Int} {vs : Array Value} (h : RelA w γ H [.int k x, .int k y, .int k z] vs) : vs = #[.int k x, .int k y, .int k z] := by
  obtain ⟨h1, h2⟩ := h
  have h1' : vs.size = 3 := h1
  obtain ⟨u0, e0, r0⟩ := h2 0 (by simp)
  obtain ⟨u1, e1, r1⟩ := h2 1 (by simp)
  obtain ⟨u2, e2, r2⟩ := h2 2 (by simp)
  simp only [List.getElem_cons_zero, List.getElem_cons_succ] at r0 r1 r2
  rw [Rel] at r0 r1 r2
  subst r0 r1 r2
  obtain ⟨l⟩ := vs
  match l, h1' with
  | [a, b, c], _ => simp at e0 e1 e2; simp [e0, e1, e2]

theorem acalls_add64 {P : Program} {f : FuncId} {fn : Func} (hf : P.funcs[f]? = some fn) (hname : (fn.name == "runtime.NumGoroutine") = false) (hb : fn.body.isNone = true) (hn : Extern.findNext fn = none)
    (he : Extern.find fn = some add64Entry) {x y c : Int} (hx : 0 ≤ x) (hy : 0 ≤ y) (hc0 : 0 ≤ c) (hc : c ≤ 1) {H : AHeap} :
    ACalls P f [.int .u64 x, .int .u64 y, .int .u64 c] H (.ret (.tup [.int .u64 ((x + y + c) % 18446744073709551616), .int .u64 ((x + y + c) / 18446744073709551616)])) H := by
  intro w γ vs hs hr
  rw [relA_ints hr, run_callFunc_extern hf hname hb hn he, run_add64 x y c hx hy hc0 hc]
  refine ⟨γ, hs, Ext.refl _ _ _, ?_⟩
  show Rel w γ H _ _
  rw [Rel]
  refine ⟨_, rfl, rfl, fun j hj => ?_⟩
  match j, hj with
  | 0, _ => exact ⟨_, rfl, by simp only [List.getElem_cons_zero]; rw [Rel]; rfl⟩
  | 1, _ => exact ⟨_, rfl, by simp only [List.getElem_cons_zero, List.getElem_cons_succ]; rw [Rel]; rfl⟩
end Go.AL
