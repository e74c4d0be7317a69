/- The abstract layer: the rules are sound, 2: operations that only reckon. -/
import Derived.Test.YtnhghceobhdaoaaAlSound1
namespace Go.AL
set_option linter.all false
set_option linter.unusedSectionVars false

/-- what a run must come to -/
def Out (P : Program) (w : World) (γ : Conc) (H : AHeap) (x : AV) (H' : AHeap) (run : Result Value) : Prop :=
  ∃ v w' γ', run = .ok v w' ∧ State w' γ' H' ∧ Ext w γ H w' γ' H' ∧ Rel w' γ' H' x v

section
variable {P : Program} {w : World} {γ : Conc} {H : AHeap}

theorem Out.same (hs : State w γ H) {x : AV} {v : Value} {run : Result Value} (h : run = .ok v w) (hr : Rel w γ H x v) : Out P w γ H x H run :=
  ⟨v, w, γ, h, hs, Ext.refl _ _ _, hr⟩

theorem rel_int {k : IntKind} {n : Int} {v : Value} (h : Rel w γ H (.int k n) v) : v = .int k n := by rw [Rel] at h; exact h
theorem rel_bool {b : Bool} {v : Value} (h : Rel w γ H (.bool b) v) : v = .bool b := by rw [Rel] at h; exact h
theorem rel_str {s : List UInt8} {v : Value} (h : Rel w γ H (.str s) v) : v = .string ⟨s.toArray⟩ := by rw [Rel] at h; exact h
theorem mk_int (k : IntKind) (n : Int) : Rel w γ H (.int k n) (.int k n) := by rw [Rel]
theorem mk_bool (b : Bool) : Rel w γ H (.bool b) (.bool b) := by rw [Rel]
theorem mk_str (s : List UInt8) : Rel w γ H (.str s) (.string ⟨s.toArray⟩) := by rw [Rel]

theorem toList_mk (s : List UInt8) : (ByteArray.mk s.toArray).toList = s := by
  simp

theorem sound_rInt (hs : State w γ H) {op : BinOp} {k : IntKind} {a b : Int} {r : R} (t : TypeId) (h : rInt op k a b H = some r) (hc : r.c) :
    Out P w γ H r.v r.H ((binOp op t (.int k a) (.int k b)).run P w) := by
  cases op <;> simp only [rInt, Option.some.injEq, reduceCtorEq] at h <;> subst h
  case quo => exact Out.same hs (by simp [binOp, Op.intDiv, show b ≠ 0 from hc]) (mk_int _ _)
  case rem => exact Out.same hs (by simp [binOp, Op.intDiv, show b ≠ 0 from hc]) (mk_int _ _)
  all_goals
    refine Out.same hs (v := _) ?_ (by first | exact mk_int _ _ | exact mk_bool _)
    simp [binOp, Op.intArith, Op.intBits, Op.intCmp, iand, ior, ixor, iandnot]

theorem sound_rStr (hs : State w γ H) {op : BinOp} {a b : List UInt8} {r : R} (t : TypeId) (h : rStr op a b H = some r) (hc : r.c) :
    Out P w γ H r.v r.H ((binOp op t (.string ⟨a.toArray⟩) (.string ⟨b.toArray⟩)).run P w) := by
  cases op <;> simp only [rStr, Option.some.injEq, reduceCtorEq] at h <;> subst h
  case add =>
    refine Out.same hs (v := .string ⟨(a ++ b).toArray⟩) ?_ (mk_str _)
    have hl : ¬ ((9223372036854775807 : Int) < (a.length : Int) + b.length) := by
      have h1 : a.length + b.length ≤ maxStr := hc
      unfold maxStr at h1
      omega
    simp only [binOp, Op.stringOp]
    have e1 : (ByteArray.mk a.toArray).size = a.length := by simp [ByteArray.size]
    have e2 : (ByteArray.mk b.toArray).size = b.length := by simp [ByteArray.size]
    have h2 : IntKind.i64.max = 9223372036854775807 := by decide
    have e3 : ByteArray.mk a.toArray ++ ByteArray.mk b.toArray = ByteArray.mk (a ++ b).toArray := by
      apply ByteArray.ext; simp
    rw [e1, e2, h2, e3, if_neg (by omega)]
    rfl
  all_goals
    refine Out.same hs (v := _) ?_ (mk_bool _)
    simp [binOp, Op.stringOp]

theorem sound_rUn (hs : State w γ H) {op : UnOp} {x : AV} {v : Value} {r : R} (hx : Rel w γ H x v) (h : rUn op x H = some r) :
    Out P w γ H r.v r.H ((Op.unary op v).run P w) := by
  unfold rUn at h
  split at h <;> cases h
  · rw [rel_int hx]; exact Out.same hs (by simp [Op.unary, Op.intArith]) (mk_int _ _)
  · rw [rel_int hx]; exact Out.same hs (by simp [Op.unary, Op.intBits, ixor]) (mk_int _ _)
  · rw [rel_bool hx]; exact Out.same hs (by simp [Op.unary]) (mk_bool _)

/-! ### Equality by cells -/
theorem beq_bytes (a b : List UInt8) : (ByteArray.mk a.toArray == ByteArray.mk b.toArray) = (a == b) := by
  rw [beq_toListBytes]; simp

theorem sound_ceq {x y : AV} {v u : Value} {b : Bool} {t : TypeId} {d : TypeDesc} (hx : Rel w γ H x v) (hy : Rel w γ H y u) (h : ceq (tdOf d) x y = some b)
    (hd : P.underlying t = some d) (m : Nat) : (Op.equalIn (m + 1) t v u).run P w = .ok b w := by
  unfold ceq at h
  split at h
  · rename_i k a k' a' hk
    rw [rel_int hx, rel_int hy]
    split at h <;> cases h
    rename_i hkk; subst hkk
    cases d <;> simp [tdOf] at hk
    simp [Op.equalIn, run_und hd]
  · rename_i a a' hk
    rw [rel_bool hx, rel_bool hy]
    cases h
    cases d <;> simp [tdOf] at hk
    simp [Op.equalIn, run_und hd]
  · rename_i a a' hk
    rw [rel_str hx, rel_str hy]
    cases h
    cases d <;> simp [tdOf] at hk
    simp [Op.equalIn, run_und hd, beq_bytes]
  · cases h

theorem rel_agg {cs : List AV} {v : Value} (h : Rel w γ H (.agg cs) v) : ∃ C : Array Value, v = .agg C ∧ C.size = cs.length ∧ AtR (Rel w γ H) cs C 0 := by
  rw [Rel] at h
  obtain ⟨C, hv, hs, hc⟩ := h
  exact ⟨C, hv, hs, fun j hj => by rw [Nat.zero_add]; exact hc j hj⟩
theorem mk_agg {cs : List AV} {C : Array Value} (hs : C.size = cs.length) (h : AtR (Rel w γ H) cs C 0) : Rel w γ H (.agg cs) (.agg C) := by
  rw [Rel]
  exact ⟨C, rfl, hs, fun j hj => by have := h j hj; rwa [Nat.zero_add] at this⟩

theorem AtR.sub {R : AV → Value → Prop} {cs : List AV} {C : Array Value} (h : AtR R cs C 0) (off n : Nat) (hl : off + n ≤ cs.length) (hs : C.size = cs.length) :
    AtR R ((cs.drop off).take n) (C.extract off (off + n)) 0 ∧ (C.extract off (off + n)).size = ((cs.drop off).take n).length := by
  refine ⟨fun j hj => ?_, by simp [hs]; omega⟩
  simp only [List.length_take, List.length_drop] at hj
  obtain ⟨u, hu, hr⟩ := h (off + j) (by omega)
  refine ⟨u, ?_, by simpa using hr⟩
  rw [Nat.zero_add] at hu ⊢
  rw [Array.getElem?_extract, if_pos (by omega)]
  exact hu

/-- a part of a struct or array value -/
theorem run_part {t : TypeId} {i : TI} (hi : ti P t = some i) {cs : List AV} {C : Array Value} (h : AtR (Rel w γ H) cs C 0) (hs : C.size = cs.length) {off : Nat} {x : AV}
    (hx : teq.part P t cs off = some x) : ∃ v, (part t C off).run P w = .ok v w ∧ Rel w γ H x v := by
  obtain ⟨d, inf, z, hd, hinf, hz, rfl⟩ := ti_spec hi
  unfold teq.part at hx
  simp only [hi] at hx
  by_cases ha : (tdOf d).agg = true
  · rw [if_pos ha] at hx
    split at hx <;> cases hx
    rename_i hle
    obtain ⟨h1, h2⟩ := h.sub off inf.size hle hs
    exact ⟨.agg (C.extract off (off + inf.size)), by simp [Go.part, run_agg hd, ha, run_size hinf], mk_agg h2 h1⟩
  · rw [if_neg ha] at hx
    split at hx <;> cases hx
    rename_i hlt
    obtain ⟨u, hu, hr⟩ := h off hlt
    rw [Nat.zero_add] at hu
    exact ⟨u, by simp [Go.part, run_agg hd, ha, hu], by simpa [List.getD, hlt] using hr⟩

theorem run_go {d : Nat} (q : TypeId → AV → AV → Option Bool)
    (hq : ∀ t x y b v u, q t x y = some b → Rel w γ H x v → Rel w γ H y u → (Op.equalIn d t v u).run P w = .ok b w)
    {xs ys : List AV} {C D : Array Value} (hx : AtR (Rel w γ H) xs C 0) (hxs : C.size = xs.length) (hy : AtR (Rel w γ H) ys D 0) (hys : D.size = ys.length) :
    ∀ (fs : List Field) (b : Bool), teq.go q (teq.part P) (fs.map fun f => (f.offset, f.type, f.name == "_")) xs ys = some b → (Op.eqFields d C D fs).run P w = .ok b w
  | [], b, h => by simp only [List.map_nil, teq.go, Option.some.injEq] at h; subst h; simp [Op.eqFields]
  | f :: fs, b, h => by
    simp only [List.map_cons, teq.go] at h
    have ih := run_go q hq hx hxs hy hys fs
    by_cases hn : f.name = "_"
    · rw [if_pos (by simp [hn])] at h
      simp only [Op.eqFields, hn]
      simpa using ih b h
    · rw [if_neg (by simp [hn])] at h
      cases h1 : teq.part P f.type xs f.offset with
      | none => simp [h1] at h
      | some a =>
        cases h2 : teq.part P f.type ys f.offset with
        | none => simp [h1, h2] at h
        | some c =>
          cases h3 : q f.type a c with
          | none => simp [h1, h2, h3] at h
          | some p =>
            cases h4 : teq.go q (teq.part P) (fs.map fun f => (f.offset, f.type, f.name == "_")) xs ys with
            | none => simp [h1, h2, h3, h4] at h
            | some p' =>
              simp only [h1, h2, h3, h4, Option.some.injEq] at h
              subst h
              have h1' := h1
              have h2' := h2
              unfold teq.part at h1' h2'
              cases hi : ti P f.type with
              | none => simp [hi] at h1'
              | some i =>
                obtain ⟨v, hv, rv⟩ := run_part hi hx hxs h1
                obtain ⟨u, hu, ru⟩ := run_part hi hy hys h2
                have h5 := hq _ _ _ _ _ _ h3 rv ru
                have h6 := ih _ h4
                simp only [Op.eqFields, hn, ne_eq, not_false_eq_true, if_true, Sem.run_bind, hv, Result.andThen_ok, hu, h5]
                cases p <;> simp [h6]

theorem run_arr {d : Nat} {e : TypeId} {i : TI} (hi : ti P e = some i) (q : AV → AV → Option Bool)
    (hq : ∀ x y b v u, q x y = some b → Rel w γ H x v → Rel w γ H y u → (Op.equalIn d e v u).run P w = .ok b w)
    {xs ys : List AV} {C D : Array Value} (hx : AtR (Rel w γ H) xs C 0) (hxs : C.size = xs.length) (hy : AtR (Rel w γ H) ys D 0) (hys : D.size = ys.length) :
    ∀ (n k : Nat) (b : Bool), teq.arr q (teq.part P e) i.size n k xs ys = some b →
      ((forIn (List.range' k n) ((none, ()) : Option Bool × Unit) fun j _ => do
        if !(← Op.equalIn d e (← part e C (j * i.size)) (← part e D (j * i.size))) then pure (ForInStep.done (some false, ())) else pure (ForInStep.yield (none, ()))) : Sem _).run P w
        = .ok (if b then (none, ()) else (some false, ())) w
  | 0, k, b, h => by simp only [teq.arr, Option.some.injEq] at h; subst h; simp
  | n + 1, k, b, h => by
    simp only [teq.arr] at h
    have ih := run_arr hi q hq hx hxs hy hys n (k + 1)
    cases h1 : teq.part P e xs (k * i.size) with
    | none => simp [h1] at h
    | some a =>
      cases h2 : teq.part P e ys (k * i.size) with
      | none => simp [h1, h2] at h
      | some c =>
        cases h3 : q a c with
        | none => simp [h1, h2, h3] at h
        | some p =>
          cases h4 : teq.arr q (teq.part P e) i.size n (k + 1) xs ys with
          | none => simp [h1, h2, h3, h4] at h
          | some p' =>
            simp only [h1, h2, h3, h4, Option.some.injEq] at h
            subst h
            obtain ⟨v, hv, rv⟩ := run_part hi hx hxs h1
            obtain ⟨u, hu, ru⟩ := run_part hi hy hys h2
            have h5 := hq _ _ _ _ _ h3 rv ru
            have h6 := ih _ h4
            rw [List.range'_succ, List.forIn_cons]
            simp only [Sem.run_bind, hv, Result.andThen_ok, hu, h5]
            cases p
            · simp
            · simpa using h6

theorem teq_sound : ∀ (d : Nat) (t : TypeId) (x y : AV) (b : Bool) (v u : Value) (m : Nat), teq P d t x y = some b → Rel w γ H x v → Rel w γ H y u →
    (Op.equalIn (d + m) t v u).run P w = .ok b w
  | 0, t, x, y, b, v, u, m, h, hx, hy => by simp [teq] at h
  | d + 1, t, x, y, b, v, u, m, h, hx, hy => by
    rw [show d + 1 + m = (d + m) + 1 by omega]
    have ih := teq_sound d
    unfold teq at h
    split at h
    · cases h
    · rename_i i hi
      obtain ⟨de, inf, z, hd, hinf, hz, rfl⟩ := ti_spec hi
      dsimp only at h
      split at h
      · rename_i k hk; exact sound_ceq hx hy h hd _
      · rename_i hk; exact sound_ceq hx hy h hd _
      · rename_i hk; exact sound_ceq hx hy h hd _
      · rename_i fs hk
        split at h
        · rename_i xs ys
          split at h
          · cases h
          · rename_i hst
            obtain ⟨C, rfl, hC, hCr⟩ := rel_agg hx
            obtain ⟨D, rfl, hD, hDr⟩ := rel_agg hy
            cases de <;> simp only [tdOf, reduceCtorEq, TD.struct.injEq] at hk
            rename_i fields
            subst hk
            have hf : P.fieldsOf t = fields := by simp [Program.fieldsOf, hd]
            rw [run_equalIn_struct w _ t C D (by rw [hf]; exact hd) (by simpa using hst), hf]
            exact run_go _ (fun t x y b v u hq rx ry => ih t x y b v u m hq rx ry) hCr hC hDr hD _ _ h
        · cases h
      · rename_i n e hk
        split at h
        · rename_i xs ys
          obtain ⟨C, rfl, hC, hCr⟩ := rel_agg hx
          obtain ⟨D, rfl, hD, hDr⟩ := rel_agg hy
          cases de <;> simp only [tdOf, reduceCtorEq, TD.array.injEq] at hk
          obtain ⟨rfl, rfl⟩ := hk
          rename_i n e
          split at h
          · rename_i ie hie
            obtain ⟨de, infe, ze, hde, hinfe, hze, rfl⟩ := ti_spec hie
            have := run_arr hie _ (fun x y b v u hq rx ry => ih e x y b v u m hq rx ry) hCr hC hDr hD n 0 b h
            simp only [Op.equalIn, Sem.run_bind, run_und hd, Result.andThen_ok, run_size hinfe, Std.Legacy.Range.forIn_eq_forIn_range']
            simp only [Std.Legacy.Range.size, Nat.sub_zero, Nat.div_one, Nat.succ_sub_succ]
            erw [this]
            cases b <;> simp
          · cases h
        · cases h
      · cases h

theorem bin_eq {neg : Bool} {t : TypeId} {v u : Value} {b : Bool} (hb : binOp (if neg then .neq else .eql) t v u = (do pure (.bool ((← Op.equal t v u) != neg)) : Sem Value))
    (h : ∀ m, (Op.equalIn (m + 1) t v u).run P w = .ok b w) : (binOp (if neg then .neq else .eql) t v u).run P w = .ok (.bool (b != neg)) w := by
  rw [hb]
  have := h 9999
  simp only [Sem.run_bind, Op.equal, Op.maxDepth]
  rw [this]; rfl

theorem sound_rEq (hs : State w γ H) {neg : Bool} {t : TypeId} {x y : AV} {v u : Value} {r : R} (xo yo : Operand) (h : rEq P neg t x y H = some r) (hc : r.c)
    (hx : Rel w γ H x v) (hy : Rel w γ H y u) :
    Out P w γ H r.v r.H ((do eqGuard (if neg then .neq else .eql) t xo yo v u; binOp (if neg then .neq else .eql) t v u : Sem Value).run P w) := by
  unfold rEq at h
  have hti : ∀ {a : TD}, (ti P t).map TI.desc = some a → ∃ d, P.underlying t = some d ∧ tdOf d = a := fun {a} ha => by
    cases hi : ti P t with
    | none => rw [hi] at ha; cases ha
    | some i =>
      obtain ⟨d, inf, z, hd, _, _, rfl⟩ := ti_spec hi
      rw [hi] at ha; cases ha
      exact ⟨d, hd, rfl⟩
  split at h
  · rename_i hd; obtain ⟨d, hu, hd⟩ := hti hd
    cases h; rw [rel_bool hx, rel_bool hy]
    cases d <;> simp [tdOf] at hd
    refine Out.same hs ?_ (mk_bool _)
    simp only [eqGuard_at_bool, Sem.run_bind, Sem.run_pure, Result.andThen_ok]
    exact bin_eq (by cases neg <;> simp [binOp]) (fun m => by simp [Op.equalIn, run_und hu])
  · rename_i hd; obtain ⟨d, hu, hd⟩ := hti hd
    cases h; simp only [Rel] at hx hy; subst hx; subst hy
    cases d <;> simp [tdOf] at hd
    refine Out.same hs ?_ (mk_bool _)
    simp only [eqGuard_at_pointer, Sem.run_bind, Sem.run_pure, Result.andThen_ok]
    have := bin_eq (P := P) (w := w) (neg := neg) (t := t) (v := .pointer none) (u := .pointer none) (b := true) (by cases neg <;> simp [binOp]) (fun m => by simp [Op.equalIn, run_und hu])
    rw [this]; simp
  · rename_i e id off hd; obtain ⟨d, hu, hd⟩ := hti hd
    cases h; simp only [Rel] at hx hy; subst hy
    obtain ⟨_, _, blk, _, rfl⟩ := hx
    cases d <;> simp [tdOf] at hd
    refine Out.same hs ?_ (mk_bool _)
    simp only [eqGuard_at_pointer, Sem.run_bind, Sem.run_pure, Result.andThen_ok]
    have := bin_eq (P := P) (w := w) (neg := neg) (t := t) (v := .pointer (some ⟨blk, off, none⟩)) (u := .pointer none) (b := false) (by cases neg <;> simp [binOp]) (fun m => by simp [Op.equalIn, run_und hu])
    rw [this]; simp
  · rename_i hd; obtain ⟨d, hu, hd⟩ := hti hd
    cases h; simp only [Rel] at hx hy; subst hy
    obtain ⟨blk, off, _, _, _, rfl, _⟩ := hx
    cases d <;> simp [tdOf] at hd
    refine Out.same hs ?_ (mk_bool _)
    simp only [eqGuard_at_pointer, Sem.run_bind, Sem.run_pure, Result.andThen_ok]
    have := bin_eq (P := P) (w := w) (neg := neg) (t := t) (v := .pointer (some ⟨blk, off, none⟩)) (u := .pointer none) (b := false) (by cases neg <;> simp [binOp]) (fun m => by simp [Op.equalIn, run_und hu])
    rw [this]; simp
  · rename_i n0 t0 v0 hd; obtain ⟨d, hu, hd⟩ := hti hd
    cases h; simp only [Rel] at hx hy; subst hy
    obtain ⟨z, rfl, _⟩ := hx
    cases d <;> simp [tdOf] at hd
    refine Out.same hs ?_ (mk_bool _)
    simp only [eqGuard_at_iface, Sem.run_bind, Sem.run_pure, Result.andThen_ok]
    have := bin_eq (P := P) (w := w) (neg := neg) (t := t) (v := .iface t0 z) (u := .nilIface) (b := false) (by cases neg <;> simp [binOp]) (fun m => by simp [Op.equalIn, run_und hu])
    rw [this]; simp
  · rename_i xs ys hd
    split at h
    · rename_i b hb
      split at h <;> cases h
      rename_i hg
      have hg : P.eqGuardType P.depth t = false := by simpa using hg
      obtain ⟨C, rfl, hC, hCr⟩ := rel_agg hx
      obtain ⟨D, rfl, hD, hDr⟩ := rel_agg hy
      have h1 := teq_sound 9 t _ _ b _ _ 9991 hb hx hy
      refine Out.same hs ?_ (mk_bool _)
      cases neg
      · simp only [Sem.run_bind, run_eqGuard_agg w _ t xo yo C D hg, Result.andThen_ok, Bool.false_eq_true, if_false, run_eql_struct]
        rw [h1]; simp
      · simp only [Sem.run_bind, run_eqGuard_agg w _ t xo yo C D hg, Result.andThen_ok, if_true, run_neq_struct]
        rw [h1]; simp
    · cases h
  · cases h

theorem sound_rBin (hs : State w γ H) {op : BinOp} {t : TypeId} {x y : AV} {v u : Value} {r : R} (xo yo : Operand) (h : rBin P op t x y H = some r) (hc : r.c)
    (hx : Rel w γ H x v) (hy : Rel w γ H y u) :
    Out P w γ H r.v r.H ((do eqGuard op t xo yo v u; binOp op t v u : Sem Value).run P w) := by
  unfold rBin at h
  split at h
  · rename_i k a k' b
    rw [rel_int hx, rel_int hy]
    have hg : eqGuard op t xo yo (.int k a) (.int k' b) = pure () := eqGuard_at_int ..
    simp only [hg, Sem.run_bind, Sem.run_pure, Result.andThen_ok]
    split at h
    · cases h
      refine Out.same hs (v := .int k (ishl k a b)) ?_ (mk_int _ _)
      have hb : ¬ b < 0 := Int.not_lt.2 hc
      simp [binOp, Op.shift, hb, ishl]
    · cases h
      refine Out.same hs (v := .int k (ishr k a b)) ?_ (mk_int _ _)
      have hb : ¬ b < 0 := Int.not_lt.2 hc
      simp [binOp, Op.shift, hb, ishr]
    · split at h
      · rename_i hk; subst hk; exact sound_rInt hs t h hc
      · cases h
  · rename_i a b
    rw [rel_str hx, rel_str hy]
    have hg : eqGuard op t xo yo (.string ⟨a.toArray⟩) (.string ⟨b.toArray⟩) = pure () := eqGuard_at_string ..
    simp only [hg, Sem.run_bind, Sem.run_pure, Result.andThen_ok]
    exact sound_rStr hs t h hc
  · split at h
    · simpa using sound_rEq hs xo yo h hc hx hy
    · simpa using sound_rEq hs xo yo h hc hx hy
    · cases h
end
end Go.AL
