/- Contracts and plain laws, a part of the proof; no condition of its own. -/
import Derived.Test.YtnhghceobhdaoaaAlSound8
import Derived.Test.YtnhghceobhdaoaaAlCode
import Derived.Deep.LoopGhost
import Derived.Orders
import Derived.Still
/- The abstract layer: the rules are sound, 9: operations in their frame, calls. -/
namespace Go.AL
set_option linter.all false
set_option linter.unusedSectionVars false

/-- the frame -/
def Sim (w : World) (γ : Conc) (H : AHeap) (fr : Fr) (a : Act) : Prop := ∀ t, Rel w γ H (Fr.get fr t) (a.tmps.getD t undef)

theorem Sim.ext {w w' : World} {γ γ' : Conc} {H H' : AHeap} {fr : Fr} {a : Act} (h : Sim w γ H fr a) (he : Ext w γ H w' γ' H') : Sim w' γ' H' fr a := fun t => (h t).ext he

theorem Sim.eval {w : World} {γ : Conc} {H : AHeap} {fr : Fr} {a : Act} (h : Sim w γ H fr a) (x : Operand) : Rel w γ H (ev fr x) (a.eval x) := by
  cases x with
  | tmp t => exact h t
  | const v => exact rel_ofValue v
  | global g => simp only [ev]; rw [Rel]; trivial
  | func f =>
    simp only [ev, Act.eval]
    rw [Rel]
    exact ⟨#[], #[], rfl, rfl, rfl, fun j hj => absurd hj (by simp), fun j hj => absurd hj (by simp)⟩

theorem Sim.put {w : World} {γ : Conc} {H : AHeap} {fr : Fr} {a : Act} (h : Sim w γ H fr a) {x : AV} {v : Value} (hx : Rel w γ H x v) (d : Option Tmp) (hd : ∀ i, d = some i → i < a.tmps.size) :
    Sim w γ H (fr.put d x) (a.put d v) := by
  cases d with
  | none => exact h
  | some i =>
    intro t
    have hi := hd i rfl
    simp only [Fr.put, Fr.get, Act.put]
    by_cases he : i = t
    · subst he
      rw [if_pos rfl]
      simp [Array.getD, hi, hx]
    · rw [if_neg he]
      have := h t
      simp only [Array.getD_eq_getD_getElem?] at this ⊢
      rw [Array.getElem?_setIfInBounds_ne he]; exact this

/-- a slot may be known better -/
theorem Sim.same {w : World} {γ : Conc} {H : AHeap} {fr : Fr} {a : Act} (h : Sim w γ H fr a) {x : AV} (d : Option Tmp) (hx : ∀ i, d = some i → Rel w γ H x (a.tmps.getD i undef)) : Sim w γ H (fr.put d x) a := by
  cases d with
  | none => exact h
  | some i =>
    intro t
    simp only [Fr.put, Fr.get]
    by_cases he : i = t
    · subst he; rw [if_pos rfl]; exact hx i rfl
    · rw [if_neg he]; exact h t

/-- an operation that is no call: what its run comes to -/
def OutN (P : Program) (w : World) (γ : Conc) (H : AHeap) (x : AV) (H' : AHeap) (run : Result Next) : Prop :=
  ∃ v w' γ', (run = .ok (.value v) w' ∨ (run = .ok .skip w' ∧ v = undef)) ∧ State w' γ' H' ∧ Ext w γ H w' γ' H' ∧ Rel w' γ' H' x v

section
variable {P : Program} {w : World} {γ : Conc} {H : AHeap}

theorem Out.next {x : AV} {H' : AHeap} {s : Sem Value} (h : Out P w γ H x H' (s.run P w)) : OutN P w γ H x H' ((do pure (Next.value (← s)) : Sem Next).run P w) := by
  obtain ⟨v, w', γ', h1, h2, h3, h4⟩ := h
  exact ⟨v, w', γ', .inl (by simp [h1]), h2, h3, h4⟩

theorem RelO.map {e : Operand → AV} {a : Act} (hf : ∀ x, Rel w γ H (e x) (a.eval x)) (x : Option Operand) : RelO w γ H (x.map e) (x.map a.eval) := by
  cases x with
  | none => trivial
  | some x => exact hf x

theorem RelP.map {e : Operand → AV} {a : Act} (hf : ∀ x, Rel w γ H (e x) (a.eval x)) (ps : Array (Nat × Operand)) :
    RelP w γ H (ps.toList.map fun p => (p.1, e p.2)) ((ps.map fun (i, x) => (i, a.eval x)).toList) := by
  refine ⟨by simp, fun j p q hp hq => ?_⟩
  simp only [Array.toList_map, List.getElem?_map] at hp hq
  cases hj : ps.toList[j]? with
  | none => rw [hj] at hp; cases hp
  | some y =>
    rw [hj] at hp hq
    simp only [Option.map_some, Option.some.injEq] at hp hq
    subst hp; subst hq
    exact ⟨rfl, hf _⟩

theorem rStore_junk {t : TypeId} {x y : AV} {r : R} (h : zhp P t x y H = some r) : r.v = .junk := by
  unfold zhp at h
  split at h
  · split at h
    · split at h <;> cases h; rfl
    · cases h
  · cases h

theorem sound_aresE (hs : State w γ H) {e : Operand → AV} {a : Act} (hf : ∀ x, Rel w γ H (e x) (a.eval x)) {o : Oper} {r : R} (h : aresE P o e H = some r) (hc : r.c) :
    OutN P w γ H r.v r.H ((execOp a.eval o).run P w) := by
  obtain ⟨dst, op, ty, pos, after, guard⟩ := o
  unfold aresE at h
  dsimp only at h
  cases op <;> first | (cases h; done) | skip
  case move x => cases h; exact ⟨a.eval x, w, γ, .inl (by simp [execOp]), hs, Ext.refl _ _ _, hf x⟩
  case assign x =>
    obtain ⟨v, w', γ', h1, h2, h3, h4⟩ := sound_rAssign (P := P) hs (hf x) h
    cases h1
    exact ⟨a.eval x, w, γ', .inl (by simp [execOp]), h2, h3, h4⟩
  case pick c x y =>
    obtain ⟨v, h1, h2, h3⟩ := sound_rPick (P := P) hs (hf c) (hf x) (hf y) h
    refine ⟨v, w, γ, .inl ?_, h2 ▸ hs, h2 ▸ Ext.refl _ _ _, h2 ▸ h3⟩
    simp only [execOp, Sem.run_bind] at h1 ⊢
    revert h1
    generalize (asBool (a.eval c)).run P w = rr
    cases rr <;> simp [Result.andThen]
  case alloc t => exact (sound_rAlloc hs h).next
  case box t x => exact (sound_rBox hs (hf x) h).next
  case build t ps => exact (sound_rBuild hs (RelP.map hf ps) h).next
  case buildSlice t n ps => exact (sound_rBuildSlice hs (RelP.map hf ps) h).next
  case load t x => exact (sound_rLoad hs (hf x) h hc).next
  case store t x y =>
    obtain ⟨w', h1, h2, h3⟩ := sound_rStore hs (hf x) (hf y) h hc
    have hj : r.v = .junk := rStore_junk h
    refine ⟨undef, w', γ, .inr ⟨by simp [execOp, h1], rfl⟩, h2, h3, ?_⟩
    rw [hj, Rel]; trivial
  case nilCheck x =>
    obtain ⟨h1, h2, h3⟩ := sound_rNilCheck hs (hf x) h ⟨dst, .nilCheck x, ty, pos, after, guard⟩ a x rfl rfl
    exact ⟨_, w, γ, .inl h1, h2 ▸ hs, h2 ▸ Ext.refl _ _ _, by rw [h2, h3]; exact hf x⟩
  case binOp op t x y u => exact (sound_rBin hs x y h hc (hf x) (hf y)).next
  case unOp op t x => exact (sound_rUn hs (hf x) h).next
  case convert s d x => exact (sound_rConvert hs (hf x) h hc).next
  case makeInterface t x => exact (sound_rIface hs (hf x) h).next
  case makeFunc f as bs =>
    cases h
    refine ⟨.func f (as.map a.eval) (bs.map a.eval), w, γ, .inl (by simp [execOp, Instr.makeFunc]), hs, Ext.refl _ _ _, ?_⟩
    rw [Rel]
    refine ⟨_, _, rfl, by simp, by simp, fun j hj => ?_, fun j hj => ?_⟩
    · simp at hj; exact ⟨a.eval as[j], by simp [hj], by simpa using hf _⟩
    · simp at hj; exact ⟨a.eval bs[j], by simp [hj], by simpa using hf _⟩
  case makeSlice t l c => exact (sound_rMake hs (hf l) (hf c) h hc).next
  case slice t x lo hi mx => exact (sound_rSlice hs (hf x) (RelO.map hf lo) (RelO.map hf hi) (RelO.map hf mx) h hc).next
  case fieldAddr t x n => exact (sound_rFieldAddr hs (hf x) h hc).next
  case field t x n => exact (sound_rField hs (hf x) h hc).next
  case indexAddr t x i => exact (sound_rIndexAddr hs (hf x) (hf i) h hc).next
  case index t x i => exact (sound_rIndex hs (hf x) (hf i) h hc).next
  case typeAssert x t u ok => exact (sound_rAssert hs (hf x) h).next
  case extract x n => exact (sound_rExtract hs (hf x) h hc).next
  case call c =>
    obtain ⟨callee, args, argTypes⟩ := c
    cases callee <;> first | (cases h; done) | skip
    rename_i b
    replace h : zhe P b argTypes.toList (args.toList.map e) H = some r := h
    unfold zhe at h
    split at h
    · rename_i t ts x hts hargs
      have e1 : argTypes[0]? = some t := by rw [← Array.getElem?_toList, hts]; rfl
      obtain ⟨x0, e2⟩ : ∃ x0, args = #[x0] := by
        have : args.toList.length = 1 := by have := congrArg List.length hargs; simpa using this
        match args, this with
        | ⟨[x0]⟩, _ => exact ⟨x0, rfl⟩
      subst e2
      simp only [List.map_cons, List.map_nil, List.cons.injEq, and_true] at hargs
      subst hargs
      have := (sound_rLen hs (hf x0) h argTypes e1 ty).next
      simpa [execOp, resolve, invoke, builtin] using this
    · rename_i t t2 ts s x hts hargs
      have e1 : argTypes[0]? = some t := by rw [← Array.getElem?_toList, hts]; rfl
      have e1' : argTypes[1]? = some t2 := by rw [← Array.getElem?_toList, hts]; rfl
      obtain ⟨x0, x1, e2⟩ : ∃ x0 x1, args = #[x0, x1] := by
        have : args.toList.length = 2 := by have := congrArg List.length hargs; simpa using this
        match args, this with
        | ⟨[x0, x1]⟩, _ => exact ⟨x0, x1, rfl⟩
      subst e2
      simp only [List.map_cons, List.map_nil, List.cons.injEq, and_true] at hargs
      obtain ⟨rfl, rfl⟩ := hargs
      have := (sound_rAppend hs (hf x0) (hf x1) h hc argTypes e1 e1' ty).next
      simpa [execOp, resolve, invoke, builtin] using this
    · rename_i t t2 ts s x hts hargs
      have e1 : argTypes[0]? = some t := by rw [← Array.getElem?_toList, hts]; rfl
      obtain ⟨x0, x1, e2⟩ : ∃ x0 x1, args = #[x0, x1] := by
        have : args.toList.length = 2 := by have := congrArg List.length hargs; simpa using this
        match args, this with
        | ⟨[x0, x1]⟩, _ => exact ⟨x0, x1, rfl⟩
      subst e2
      simp only [List.map_cons, List.map_nil, List.cons.injEq, and_true] at hargs
      obtain ⟨rfl, rfl⟩ := hargs
      have := (sound_rCopy hs (hf x0) (hf x1) h hc argTypes e1 ty).next
      simpa [execOp, resolve, invoke, builtin] using this
    · rename_i l
      have := (sound_rMinMax (P := P) hs (vs := args.toList.map a.eval) (by simp) (fun j x v hx hv => by
        simp only [List.getElem?_map] at hx hv
        cases hj : args.toList[j]? with
        | none => rw [hj] at hx; cases hx
        | some y => rw [hj] at hx hv; cases hx; cases hv; exact hf y) h argTypes ty).next
      have ee : (args.toList.map a.eval).toArray = args.map a.eval := by apply Array.ext'; rw [Array.toList_map]
      rw [ee] at this
      simpa [execOp, resolve, invoke, builtin] using this
    · rename_i l
      have := (sound_rMinMax (P := P) hs (vs := args.toList.map a.eval) (by simp) (fun j x v hx hv => by
        simp only [List.getElem?_map] at hx hv
        cases hj : args.toList[j]? with
        | none => rw [hj] at hx; cases hx
        | some y => rw [hj] at hx hv; cases hx; cases hv; exact hf y) h argTypes ty).next
      have ee : (args.toList.map a.eval).toArray = args.map a.eval := by apply Array.ext'; rw [Array.toList_map]
      rw [ee] at this
      simpa [execOp, resolve, invoke, builtin] using this
    · cases h

end
end Go.AL

