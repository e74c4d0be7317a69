/- The abstract layer: the rules are sound, 13: a region that draws its order: what its run in the order of the text gives. -/
import Derived.Test.YtnhghceobhdaoaaAlSound12
namespace Go.AL
set_option linter.all false
set_option linter.unusedSectionVars false

/-- the slots when the operations of S are done -/
def FS (ops : Array Oper) (f0 : Nat → AV) (xs : Nat → AV) (S : Nat → Bool) (t : Nat) : AV :=
  match (List.range ops.size).find? (fun j => S j && decide (ydst ops j = some t)) with
  | some j => xs j
  | none => f0 t

theorem find_congr {p q : Nat → Bool} : ∀ {l : List Nat}, (∀ j ∈ l, p j = q j) → l.find? p = l.find? q
  | [], _ => rfl
  | a :: l, h => by
    rw [List.find?_cons, List.find?_cons, h a List.mem_cons_self, find_congr fun j hj => h j (List.mem_cons_of_mem _ hj)]

theorem FS_congr {ops : Array Oper} {f0 xs xs' : Nat → AV} {S S' : Nat → Bool} {t : Nat} (h : ∀ j, j < ops.size → ydst ops j = some t → S j = S' j) (hx : ∀ j, S j = true → xs j = xs' j) :
    FS ops f0 xs S t = FS ops f0 xs' S' t := by
  unfold FS
  rw [find_congr (q := fun j => S' j && decide (ydst ops j = some t)) fun j hj => by
    by_cases hd : ydst ops j = some t
    · rw [h j (List.mem_range.1 hj) hd]
    · simp [hd]]
  split
  · rename_i j hj
    have := List.find?_some hj
    simp only [Bool.and_eq_true, decide_eq_true_eq] at this
    have hm := List.mem_of_find?_eq_some hj
    exact hx j (by rw [h j (List.mem_range.1 hm) this.2]; exact this.1)
  · rfl

section
variable {P : Program} {Ω : Tbl} {n : Nat} {ops : Array Oper}

theorem ydst_of {i : Nat} {o : Oper} (h : ops[i]? = some o) : ydst ops i = o.dst := by simp [ydst, h]

theorem RegOk.dist (hr : RegOk P Ω n ops) {i j d : Nat} (hi : ydst ops i = some d) (hj : ydst ops j = some d) : j = i := by
  unfold ydst at hi hj
  cases h1 : ops[i]? with
  | none => rw [h1] at hi; cases hi
  | some o =>
    cases h2 : ops[j]? with
    | none => rw [h2] at hj; cases hj
    | some oj => rw [h1] at hi; rw [h2] at hj; exact hr.distinct i j o oj d h1 h2 hi hj

theorem FS_put (hr : RegOk P Ω n ops) {i : Nat} {o : Oper} (hi : ops[i]? = some o) {f0 xs : Nat → AV} {S S' : Nat → Bool} (h1 : S' i = true) (h2 : ∀ j, j ≠ i → S' j = S j) :
    FS ops f0 xs S' = putF (FS ops f0 xs S) o.dst (xs i) := by
  have hlt : i < ops.size := (Array.getElem?_eq_some_iff.1 hi).1
  funext t
  cases hd : o.dst with
  | none =>
    exact FS_congr (fun j _ hj => h2 j (fun e => by subst e; rw [ydst_of hi, hd] at hj; cases hj)) fun _ _ => rfl
  | some d =>
    simp only [putF]
    by_cases ht : t = d
    · subst ht
      rw [if_pos rfl]
      unfold FS
      have hdi : ydst ops i = some t := by rw [ydst_of hi, hd]
      cases hf : (List.range ops.size).find? (fun j => S' j && decide (ydst ops j = some t)) with
      | none =>
        have := List.find?_eq_none.1 hf i (List.mem_range.2 hlt)
        simp [h1, hdi] at this
      | some j =>
        have := List.find?_some hf
        simp only [Bool.and_eq_true, decide_eq_true_eq] at this
        rw [hr.dist hdi this.2]
    · rw [if_neg ht]
      exact FS_congr (fun j _ hj => h2 j (fun e => by subst e; rw [ydst_of hi, hd] at hj; cases hj; exact ht rfl)) fun _ _ => rfl

/-! ### What one step says -/
theorem allH_mem {hs : HS} {c : AHeap → Prop} (hc : allH hs c) : ∀ g ∈ hs.hs, skip (hs.ms.headD []) g.1 (c g.2) := by
  unfold allH at hc
  intro g hg
  generalize hs.ms.headD [] = m at *
  generalize hs.hs = l at *
  induction l with
  | nil => cases hg
  | cons a l ih =>
    rcases List.mem_cons.1 hg with rfl | hg
    · exact hc.1
    · exact ih hg hc.2
theorem allP_mem {hs : HS} {H : AHeap} {cs : List (Nat × (AHeap → Prop))} (hc : allP hs H cs) : ∀ c ∈ cs, skip (hs.ms.headD []) c.1 (c.2 H) := by
  unfold allP at hc
  intro c hm
  generalize hs.ms.headD [] = m at *
  induction cs with
  | nil => cases hm
  | cons a l ih =>
    rcases List.mem_cons.1 hm with rfl | hm
    · exact hc.1
    · exact ih hm hc.2

/-- an operation that does not write leaves the heap; one that does not even read gives the same anywhere -/
theorem kind_ne_eff {o : Oper} {e : Operand → AV} {H : AHeap} {r : R} (hk : kind P o.op ≠ .eff) (h : aresE P o e H = some r) : r.H = H := by
  obtain ⟨dst, op, ty, pos, after, guard⟩ := o
  unfold aresE at h
  dsimp only at h hk
  cases op <;> (try dsimp only at h) <;> first | (cases h; done) | skip
  case move x => cases h; rfl
  case assign x => cases x <;> first | exact absurd rfl hk | (simp only [zhd] at h; cases h; rfl)
  case pick c x y => unfold zhi at h; split at h <;> cases h; rfl
  case alloc t => exact absurd rfl hk
  case box t x => exact absurd rfl hk
  case build t ps =>
    unfold zhk at h
    split at h
    · split at h
      · split at h
        · simp only [Option.map_eq_some_iff] at h; obtain ⟨_, _, rfl⟩ := h; rfl
        · cases h
      · split at h
        · simp only [Option.map_eq_some_iff] at h; obtain ⟨_, _, rfl⟩ := h; rfl
        · cases h
      · cases h
    · cases h
  case buildSlice t n ps => exact absurd rfl hk
  case load t x =>
    unfold zhn zho at h
    repeat' split at h
    all_goals first | (cases h; done) | (cases h; rfl)
  case store t x y => exact absurd rfl hk
  case nilCheck x => unfold zhq at h; split at h <;> cases h <;> rfl
  case binOp op t x y u =>
    unfold rBin at h
    split at h
    · split at h
      · cases h; rfl
      · cases h; rfl
      · split at h
        · unfold rInt at h; split at h <;> cases h <;> rfl
        · cases h
    · unfold rStr at h; split at h <;> cases h <;> rfl
    · have hq : ∀ b t x y, rEq P b t x y H = some r → r.H = H := by
        intro b t x y h
        unfold rEq at h
        repeat' split at h
        all_goals first | (cases h; done) | (cases h; rfl)
      split at h
      · exact hq _ _ _ _ h
      · exact hq _ _ _ _ h
      · cases h
  case unOp op t x => unfold rUn at h; split at h <;> cases h <;> rfl
  case convert s d x =>
    unfold zhv at h
    split at h
    · cases h; rfl
    · cases h; rfl
    · rename_i hd _
      simp only [kind, hd] at hk
      exact absurd rfl hk
    · split at h <;> cases h; rfl
    · cases h
  case makeInterface t x => unfold zhw at h; split at h <;> cases h; rfl
  case makeFunc f as bs => cases h; rfl
  case makeSlice t l c => exact absurd rfl hk
  case slice t x lo hi mx =>
    unfold zhh at h
    repeat' split at h
    all_goals first | (cases h; done) | (cases h; rfl)
  case fieldAddr t x n =>
    unfold zhr at h
    repeat' split at h
    all_goals first | (cases h; done) | (cases h; rfl)
  case field t x n =>
    unfold zhs zho at h
    repeat' split at h
    all_goals first | (cases h; done) | (cases h; rfl)
  case indexAddr t x i =>
    unfold zht at h
    repeat' split at h
    all_goals first | (cases h; done) | (cases h; rfl)
  case index t x i =>
    unfold zhu at h
    repeat' split at h
    all_goals first | (cases h; done) | (cases h; rfl)
  case typeAssert x t u ok =>
    unfold rAssert at h
    repeat' split at h
    all_goals first | (cases h; done) | (cases h; rfl)
  case extract x n => unfold zhx at h; split at h <;> cases h; rfl
  case call c =>
    obtain ⟨callee, args, argTypes⟩ := c
    cases callee <;> first | (cases h; done) | skip
    rename_i b
    replace h : zhe P b argTypes.toList (args.toList.map e) H = some r := h
    unfold zhe at h
    split at h
    · unfold rLen at h; split at h <;> cases h <;> rfl
    · exact absurd rfl hk
    · exact absurd rfl hk
    · unfold zib at h
      split at h
      · split at h <;> cases h; rfl
      · cases h
    · unfold zib at h
      split at h
      · split at h <;> cases h; rfl
      · cases h
    · cases h


def R.same (r : R) : Prop × AV := (r.c, r.v)

theorem kind_inert {o : Oper} {e : Operand → AV} (hk : kind P o.op = .inert) (H h : AHeap) : (aresE P o e H).map R.same = (aresE P o e h).map R.same := by
  obtain ⟨dst, op, ty, pos, after, guard⟩ := o
  unfold aresE
  dsimp only at hk ⊢
  cases op <;> (try dsimp only) <;> first | rfl | skip
  case assign x => cases x <;> first | (cases hk; done) | rfl
  case pick c x y => unfold zhi; split <;> rfl
  case alloc t => cases hk
  case box t x => cases hk
  case build t ps =>
    unfold zhk
    split
    · split
      · split
        · simp only [Option.map_map]; congr 1
        · rfl
      · split
        · simp only [Option.map_map]; congr 1
        · rfl
      · rfl
    · rfl
  case buildSlice t n ps => cases hk
  case load t x => cases hk
  case store t x y => cases hk
  case nilCheck x => unfold zhq; split <;> rfl
  case binOp op t x y u =>
    have hq : ∀ b t x y, (rEq P b t x y H).map R.same = (rEq P b t x y h).map R.same := by
      intro b t x y
      unfold rEq
      repeat' split
      all_goals rfl
    unfold rBin
    split
    · split
      · rfl
      · rfl
      · split
        · unfold rInt; split <;> rfl
        · rfl
    · unfold rStr; split <;> rfl
    · split
      · exact hq _ _ _ _
      · exact hq _ _ _ _
      · rfl
  case unOp op t x => unfold rUn; split <;> rfl
  case convert s d x =>
    unfold zhv
    split
    · rfl
    · rfl
    · rename_i hd _
      simp only [kind, hd] at hk
      cases hk
    · split <;> rfl
    · rfl
  case makeInterface t x => unfold zhw; split <;> rfl
  case makeSlice t l c => cases hk
  case slice t x lo hi mx =>
    have hna : ∀ n e, (ti P t).map TI.desc ≠ some (.array n e) := fun n e hd => by simp only [kind, hd] at hk; cases hk
    unfold zhh
    split
    · repeat' split
      all_goals rfl
    · repeat' split
      all_goals rfl
    · repeat' split
      all_goals rfl
    · rename_i hd _
      exact absurd hd (hna _ _)
    · rfl
  case fieldAddr t x n =>
    unfold zhr
    repeat' split
    all_goals rfl
  case field t x n =>
    unfold zhs zho
    repeat' split
    all_goals rfl
  case indexAddr t x i =>
    unfold zht
    repeat' split
    all_goals rfl
  case index t x i =>
    unfold zhu
    repeat' split
    all_goals rfl
  case typeAssert x t u ok =>
    unfold rAssert
    repeat' split
    all_goals rfl
  case extract x n => unfold zhx; split <;> rfl
  case call c =>
    obtain ⟨callee, args, argTypes⟩ := c
    cases callee <;> first | rfl | skip
    rename_i b
    show (zhe P b argTypes.toList (args.toList.map e) H).map R.same = (zhe P b argTypes.toList (args.toList.map e) h).map R.same
    unfold zhe
    split
    · unfold rLen; split <;> rfl
    · cases hk
    · cases hk
    · unfold zib
      repeat' split
      all_goals rfl
    · unfold zib
      repeat' split
      all_goals rfl
    · rfl

end
end Go.AL
