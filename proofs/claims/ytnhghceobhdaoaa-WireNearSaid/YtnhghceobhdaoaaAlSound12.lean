/- The abstract layer: the rules are sound, 12: what an operation looks at; the order that edges bind. -/
import Derived.Test.YtnhghceobhdaoaaAlSound11
namespace Go.AL
set_option linter.all false
set_option linter.unusedSectionVars false

theorem aresE_congr {P : Program} {o : Oper} {e e' : Operand → AV} {H : AHeap} (h : ∀ x ∈ o.op.operands, e x = e' x) : aresE P o e H = aresE P o e' H := by
  obtain ⟨dst, op, type, pos, after, guard⟩ := o
  have pairs : ∀ ps : Array (Nat × Operand), (∀ x ∈ (ps.toList.map (·.2)).toArray, e x = e' x) → (ps.toList.map fun p => (p.1, e p.2)) = (ps.toList.map fun p => (p.1, e' p.2)) := fun ps hp =>
    List.map_congr_left fun p hm => by
      rw [hp p.2 (by simp only [List.mem_toArray, List.mem_map]; exact ⟨p, hm, rfl⟩)]
  have lists : ∀ l : Array Operand, (∀ x ∈ l, e x = e' x) → l.toList.map e = l.toList.map e' := fun l hl =>
    List.map_congr_left fun x hx => hl x (by simpa using hx)
  cases op <;> simp only [Op.operands] at h <;> simp only [aresE]
  case build t ps => rw [pairs ps h]
  case buildSlice t n ps => rw [pairs ps h]
  case makeFunc fn first captured => rw [lists first fun x hx => h x (by simp [hx]), lists captured fun x hx => h x (by simp [hx])]
  case call c =>
    obtain ⟨callee, args, argTypes⟩ := c
    cases callee <;> simp only
    rw [lists args fun x hx => h x (by simp [Call.operands, hx])]
  case slice t x lo hi mx => cases lo <;> cases hi <;> cases mx <;> simp_all
  all_goals (first | rfl | (simp_all; done))

theorem evF_congr {f f' : Nat → AV} {x : Operand} (h : ∀ t, x = .tmp t → f t = f' t) : evF f x = evF f' x := by
  cases x with
  | tmp t => exact h t rfl
  | _ => rfl

theorem ST_congr {P : Program} {o : Oper} {f f' : Nat → AV} {H H' : AHeap} {e : AEnd} (hx : ∀ x ∈ o.op.operands, evF f x = evF f' x) (h : ST P o f H e H') : ST P o f' H e H' := by
  cases h with
  | res r h hc => exact .res r (by rw [← aresE_congr hx]; exact h) hc
  | call c g k first cap e H' h1 h2 h3 h =>
    have hg : evF f g = evF f' g := hx g (by rw [h1]; simp [Op.operands, Call.operands, h2])
    have ha : c.args.toList.map (evF f) = c.args.toList.map (evF f') := List.map_congr_left fun x hm => hx x (by rw [h1]; simp only [Op.operands, Call.operands]; simp at hm; simp [hm])
    exact .call c g k first cap e H' h1 h2 (by rw [← hg]; exact h3) (by rw [← ha]; exact h)
  | panic x t v h1 h2 => exact .panic x t v h1 (by rw [← hx x (by rw [h1]; simp [Op.operands])]; exact h2)

/-- an operation's run in a region, its guard asked -/
def AY (P : Program) (ops : Array Oper) (o : Oper) (f : Nat → AV) (H : AHeap) (x : AV) (H' : AHeap) : Prop :=
  match o.guard with
  | none => ST P o f H (.ret x) H'
  | some (j, want) => ∃ t, ydst ops j = some t ∧ ((∃ b, f t = .bool b ∧ (b = want → ST P o f H (.ret x) H') ∧ (b ≠ want → x = .tup [] ∧ H' = H)) ∨ (f t = .tup [] ∧ x = .tup [] ∧ H' = H))

theorem AY_congr {P : Program} {ops : Array Oper} {o : Oper} {f f' : Nat → AV} {H H' : AHeap} {x : AV} (hx : ∀ t ∈ o.looksAt ops, f t = f' t) (h : AY P ops o f H x H') : AY P ops o f' H x H' := by
  have hops : ∀ y ∈ o.op.operands, evF f y = evF f' y := fun y hy => evF_congr fun t ht => hx t (by
    subst ht
    exact List.mem_append_left _ (List.mem_filterMap.2 ⟨.tmp t, by simpa using hy, rfl⟩))
  unfold AY at *
  split at h
  · exact ST_congr hops h
  · rename_i j want hg
    obtain ⟨t, h1, h⟩ := h
    have hft : f t = f' t := by
      refine hx t ?_
      refine List.mem_append_right _ ?_
      rw [hg]
      simp only
      have h1' : (ops[j]?).bind (·.dst) = some t := h1
      rw [h1']; simp
    rcases h with ⟨b, h2, h3, h4⟩ | ⟨h2, h3⟩
    · exact ⟨t, h1, .inl ⟨b, by rw [← hft]; exact h2, fun hb => ST_congr hops (h3 hb), h4⟩⟩
    · exact ⟨t, h1, .inr ⟨by rw [← hft]; exact h2, h3⟩⟩

/-! ### The order that edges bind -/
def ancs (tbl : List Nat) : List Edge → Nat
  | [] => 0
  | e :: es => if Region.binds .any e then (tbl.getD e.on 0 ||| (1 <<< e.on)) ||| ancs tbl es else ancs tbl es
def anctbl : List Oper → List Nat → List Nat
  | [], tbl => tbl
  | o :: os, tbl => anctbl os (tbl ++ [ancs tbl o.after.toList])

theorem ancs_spec {tbl : List Nat} {j : Nat} : ∀ {es : List Edge}, (ancs tbl es).testBit j = true → ∃ e ∈ es, Region.binds .any e = true ∧ (j = e.on ∨ (tbl.getD e.on 0).testBit j = true)
  | [], h => by simp [ancs] at h
  | e :: es, h => by
    unfold ancs at h
    split at h
    · rename_i hb
      rw [Nat.testBit_or, Nat.testBit_or] at h
      simp only [Bool.or_eq_true] at h
      rcases h with (h | h) | h
      · exact ⟨e, List.mem_cons_self, hb, .inr h⟩
      · refine ⟨e, List.mem_cons_self, hb, .inl ?_⟩
        rw [Nat.one_shiftLeft, Nat.testBit_two_pow] at h
        exact (by simpa using h : e.on = j).symm
      · obtain ⟨e', h1, h2⟩ := ancs_spec h; exact ⟨e', List.mem_cons_of_mem _ h1, h2⟩
    · obtain ⟨e', h1, h2⟩ := ancs_spec h; exact ⟨e', List.mem_cons_of_mem _ h1, h2⟩

/-- what a table of ancestors says -/
def AncP (ops : Array Oper) (tbl : List Nat) : Prop :=
  ∀ i, i < tbl.length → ∀ j, (tbl.getD i 0).testBit j = true → ∀ S : Nat → Prop,
    (∀ k o e, ops[k]? = some o → S k → e ∈ o.after → Region.binds .any e = true → S e.on) →
    (∀ o e, ops[i]? = some o → e ∈ o.after → Region.binds .any e = true → S e.on) → S j

theorem anctbl_spec {ops : Array Oper} : ∀ (l : List Oper) (tbl : List Nat), (∀ j, l[j]? = ops[tbl.length + j]?) → AncP ops tbl → AncP ops (anctbl l tbl) ∧ (anctbl l tbl).length = tbl.length + l.length
  | [], tbl, _, h => ⟨h, by simp [anctbl]⟩
  | o :: l, tbl, hl, h => by
    have ho : ops[tbl.length]? = some o := by have := hl 0; simpa using this.symm
    have key : AncP ops (tbl ++ [ancs tbl o.after.toList]) := by
      intro i hi j hj S hS hSi
      by_cases hlt : i < tbl.length
      · refine h i hlt j ?_ S hS hSi
        simpa [List.getD_eq_getElem?_getD, List.getElem?_append_left hlt] using hj
      · have hie : i = tbl.length := by simp at hi; omega
        subst hie
        have hj' : (ancs tbl o.after.toList).testBit j = true := by simpa [List.getD_eq_getElem?_getD] using hj
        obtain ⟨e, he, hb, hor⟩ := ancs_spec hj'
        have hSe := hSi o e ho (by simpa using he) hb
        rcases hor with rfl | hor
        · exact hSe
        · by_cases hlt2 : e.on < tbl.length
          · exact h e.on hlt2 j hor S hS fun o' e' ho' he' hb' => hS e.on o' e' ho' hSe he' hb'
          · rw [List.getD_eq_getElem?_getD, List.getElem?_eq_none (by omega)] at hor
            simp at hor
    obtain ⟨h1, h2⟩ := anctbl_spec l (tbl ++ [ancs tbl o.after.toList]) (fun j => by
      have := hl (j + 1)
      simp only [List.getElem?_cons_succ] at this
      rw [this]; congr 1; simp; omega) key
    exact ⟨h1, by rw [show anctbl (o :: l) tbl = anctbl l (tbl ++ [ancs tbl o.after.toList]) from rfl, h2]; simp; omega⟩

def Kd.isEff : Kd → Bool | .eff => true | _ => false

def regionOk (P : Program) (Ω : Tbl) (n : Nat) (ops : Array Oper) : Bool :=
  go (anctbl ops.toList [])
where
  go (tbl : List Nat) : Bool :=
    (List.range ops.size).all fun i => match ops[i]? with
      | none => true
      | some o => dstIn n o && o.after.toList.all (fun e => !Region.binds .any e || decide (e.on < i)) &&
        (List.range ops.size).all fun j => match ops[j]? with
          | none => true
          | some oj => (j == i || (match o.dst with | none => true | some d => oj.dst != some d)) &&
            ((o.looksAt ops).all fun t => oj.dst != some t || j == i || (decide (j < i) && (tbl.getD i 0).testBit j) || (decide (i < j) && (tbl.getD j 0).testBit i)) &&
            (!(kindS P Ω o.op).isEff || !(kindS P Ω oj.op).isEff || !decide (j < i) || (tbl.getD i 0).testBit j)

structure RegOk (P : Program) (Ω : Tbl) (n : Nat) (ops : Array Oper) : Prop where
  dst : ∀ (i : Nat) (o : Oper), ops[i]? = some o → dstIn n o = true
  edge : ∀ (i : Nat) (o : Oper) (e : Edge), ops[i]? = some o → e ∈ o.after → Region.binds .any e = true → e.on < i
  distinct : ∀ (i j : Nat) (o oj : Oper) (d : Nat), ops[i]? = some o → ops[j]? = some oj → o.dst = some d → oj.dst = some d → j = i
  looks : ∀ (i j : Nat) (o oj : Oper) (t : Nat), ops[i]? = some o → ops[j]? = some oj → t ∈ o.looksAt ops → oj.dst = some t →
    j = i ∨ (j < i ∧ ((anctbl ops.toList []).getD i 0).testBit j = true) ∨ (i < j ∧ ((anctbl ops.toList []).getD j 0).testBit i = true)
  effs : ∀ (i j : Nat) (o oj : Oper), ops[i]? = some o → ops[j]? = some oj → kindS P Ω o.op = .eff → kindS P Ω oj.op = .eff → j < i → ((anctbl ops.toList []).getD i 0).testBit j = true

theorem regionOk_spec {P : Program} {Ω : Tbl} {n : Nat} {ops : Array Oper} (h : regionOk P Ω n ops = true) : RegOk P Ω n ops := by
  unfold regionOk regionOk.go at h
  have h0 : ∀ (i : Nat) (o : Oper), ops[i]? = some o → _ := fun i o hi => List.all_eq_true.1 h i (List.mem_range.2 (Array.getElem?_eq_some_iff.1 hi).1)
  have h1 : ∀ (i : Nat) (o : Oper), ops[i]? = some o → dstIn n o = true ∧ (∀ e ∈ o.after, Region.binds .any e = true → e.on < i) ∧
      ∀ (j : Nat) (oj : Oper), ops[j]? = some oj → (j = i ∨ ∀ d, o.dst = some d → oj.dst ≠ some d) ∧
        (∀ t ∈ o.looksAt ops, oj.dst = some t → j = i ∨ (j < i ∧ ((anctbl ops.toList []).getD i 0).testBit j = true) ∨ (i < j ∧ ((anctbl ops.toList []).getD j 0).testBit i = true)) ∧
        (kindS P Ω o.op = .eff → kindS P Ω oj.op = .eff → j < i → ((anctbl ops.toList []).getD i 0).testBit j = true) := by
    intro i o hi
    have := h0 i o hi
    simp only [hi, Bool.and_eq_true] at this
    obtain ⟨⟨g1, g2⟩, g3⟩ := this
    refine ⟨g1, fun e he hb => ?_, fun j oj hj => ?_⟩
    · have := List.all_eq_true.1 g2 e (by simpa using he)
      simpa [hb] using this
    · have := List.all_eq_true.1 g3 j (List.mem_range.2 (Array.getElem?_eq_some_iff.1 hj).1)
      simp only [hj, Bool.and_eq_true] at this
      obtain ⟨⟨k1, k2⟩, k3⟩ := this
      refine ⟨?_, fun t ht hd => ?_, fun e1 e2 hlt => ?_⟩
      · rcases ((Bool.or_eq_true _ _).mp k1 : _ ∨ _) with k1 | k1
        · exact .inl (by simpa using k1)
        · exact .inr fun d hd => by rw [hd] at k1; simpa using k1
      · have := List.all_eq_true.1 k2 t ht
        simp only [Bool.or_eq_true, Bool.and_eq_true, decide_eq_true_eq, beq_iff_eq, bne_iff_ne, ne_eq] at this
        rcases this with ((this | this) | this) | this
        · exact absurd hd this
        · exact .inl this
        · exact .inr (.inl this)
        · exact .inr (.inr this)
      · rw [e1, e2] at k3
        simpa [Kd.isEff, hlt] using k3
  exact ⟨fun i o hi => (h1 i o hi).1, fun i o e hi => (h1 i o hi).2.1 e, fun i j o oj d hi hj hd hd' => (((h1 i o hi).2.2 j oj hj).1).resolve_right fun k => k d hd hd',
    fun i j o oj t hi hj => ((h1 i o hi).2.2 j oj hj).2.1 t, fun i j o oj hi hj => ((h1 i o hi).2.2 j oj hj).2.2⟩

end Go.AL
