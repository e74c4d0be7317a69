/- The abstract layer: the rules are sound, 15: a region that draws its order, in every order. -/
import Derived.Test.YtnhghceobhdaoaaAlSound14
namespace Go.AL
set_option linter.all false
set_option linter.unusedSectionVars false

theorem filter_lt {p q : Nat → Bool} : ∀ {l : List Nat}, (∀ x ∈ l, q x = true → p x = true) → (∃ x ∈ l, p x = true ∧ q x = false) → (l.filter q).length < (l.filter p).length
  | [], _, ⟨x, hx, _⟩ => by cases hx
  | a :: l, h, ⟨x, hx, hp, hq⟩ => by
    have le : (l.filter q).length ≤ (l.filter p).length := by
      clear hp hq hx x
      have h' : ∀ x ∈ l, q x = true → p x = true := fun x hx => h x (List.mem_cons_of_mem _ hx)
      clear h
      induction l with
      | nil => simp
      | cons b l ih =>
        have ih := ih fun x hx => h' x (List.mem_cons_of_mem _ hx)
        have hb := h' b List.mem_cons_self
        simp only [List.filter_cons]
        cases hqb : q b <;> cases hpb : p b <;> simp_all <;> omega
    simp only [List.filter_cons]
    rcases List.mem_cons.1 hx with rfl | hx
    · rw [hp, hq]; simp; omega
    · have ih := filter_lt (fun x hx => h x (List.mem_cons_of_mem _ hx)) ⟨x, hx, hp, hq⟩
      have ha := h a List.mem_cons_self
      cases hqb : q a <;> cases hpb : p a <;> simp_all <;> omega

section
variable {P : Program} {Ω : Tbl} {n : Nat} {ops : Array Oper} {w0 : World} {γ0 : Conc} {H0 : AHeap} {ds : List Deferred} {Q : Exit → Act → World → Prop}

theorem AY.sound {o : Oper} {i : Nat} {f : Nat → AV} {H H' : AHeap} {x : AV} (h : AY P ops o f H x H') (ho : ops[i]? = some o) (hd : dstIn n o = true) {w : World} {γ : Conc} {a : Act} (hi : Inv w0 γ0 H0 ds n w γ H f a)
    {K : Act → World → Prop} (hK : ∀ w' γ' a', Inv w0 γ0 H0 ds n w' γ' H' (putF f o.dst x) a' → K a' w') : wpOp P ops Q i K a w := by
  have run : ST P o f H (.ret x) H' → o.wp P a w K Q := fun hst => hst.sound hi.state hi.sim (fun y v w' γ' he h1 h2 h3 => by
    cases he; exact hK w' γ' _ (hi.put hd h1 h2 h3)) (fun y v w' γ' he => by cases he)
  unfold wpOp
  simp only [ho]
  unfold AY at h
  cases hg : o.guard with
  | none =>
    rw [hg] at h
    rw [if_pos (by simp [Region.wanted, hg])]
    exact .inl (run h)
  | some gw =>
    obtain ⟨j, want⟩ := gw
    rw [hg] at h
    obtain ⟨t, ht, ⟨b, hft, h1, h2⟩ | ⟨hft, rfl, rfl⟩⟩ := h
    rotate_left
    · have hy := yielded_undef hi.sim ht hft
      rw [if_neg (by simp [Region.wanted, hg, hy])]
      exact hK w γ _ (hi.put hd hi.state (Ext.refl _ _ _) rel_undef)
    have hy := yielded_of hi.sim ht hft
    by_cases hb : b = want
    · rw [if_pos (by simp [Region.wanted, hg, hy, hb])]
      exact .inl (run (h1 hb))
    · rw [if_neg (by simp [Region.wanted, hg, hy, hb])]
      obtain ⟨rfl, rfl⟩ := h2 hb
      exact hK w γ _ (hi.put hd hi.state (Ext.refl _ _ _) rel_undef)

variable {f0 xs : Nat → AV} {hp : Nat → AHeap}

/-- what the run in the order of the text gives -/
def LexOk (P : Program) (Ω : Tbl) (ops : Array Oper) (f0 xs : Nat → AV) (hp : Nat → AHeap) : Prop :=
  ∀ k o, ops[k]? = some o → AY P ops o (FS ops f0 xs (below k)) (hp k) (xs k) (hp (k + 1)) ∧
    (kindS P Ω o.op ≠ .eff → hp (k + 1) = hp k ∧ ∀ j, j ≤ ops.size → adm P Ω ops k j → AY P ops o (FS ops f0 xs (below k)) (hp j) (xs k) (hp j))

theorem hp_eq (hl : LexOk P Ω ops f0 xs hp) : ∀ (d k : Nat), k + d ≤ ops.size → (∀ e o, ops[e]? = some o → kindS P Ω o.op = .eff → k ≤ e → k + d ≤ e) → hp k = hp (k + d)
  | 0, k, _, _ => rfl
  | d + 1, k, h, he => by
    have hlt : k < ops.size := by omega
    have ho : ops[k]? = some ops[k] := by simp [hlt]
    have hne : kindS P Ω ops[k].op ≠ .eff := fun hk => by have := he k _ ho hk (Nat.le_refl _); omega
    rw [show k + (d + 1) = (k + 1) + d by omega, ← hp_eq hl d (k + 1) (by omega) fun e o heo hk hle => by have := he e o heo hk (by omega); omega]
    exact ((hl k _ ho).2 hne).1.symm

theorem hp_eq' (hl : LexOk P Ω ops f0 xs hp) {k i : Nat} (hk : k ≤ ops.size) (hi : i ≤ ops.size) (h1 : ∀ e o, ops[e]? = some o → kindS P Ω o.op = .eff → (e < k ↔ e < i)) : hp k = hp i := by
  rcases Nat.le_total k i with h | h
  · have := hp_eq hl (i - k) k (by omega) fun e o he hke hle => by have := h1 e o he hke; omega
    rw [this]; congr 1; omega
  · have := hp_eq hl (k - i) i (by omega) fun e o he hke hle => by have := h1 e o he hke; omega
    rw [this]; congr 1; omega

theorem any_sound (hr : RegOk P Ω n ops) (hl : LexOk P Ω ops f0 xs hp)
    (hQ : ∀ w γ a, Inv w0 γ0 H0 ds n w γ (hp ops.size) (FS ops f0 xs (below ops.size)) a → Q .normal a w) :
    ∀ (fuel : Nat) (listed : Array Bool) (k : Nat) (a : Act) (w : World) (γ : Conc), listed.size = ops.size → k ≤ ops.size →
      (∀ i o e, ops[i]? = some o → listed.getD i false = true → e ∈ o.after → Region.binds .any e = true → listed.getD e.on false = true) →
      (∀ e o, ops[e]? = some o → kindS P Ω o.op = .eff → (listed.getD e false = true ↔ e < k)) →
      Inv w0 γ0 H0 ds n w γ (hp k) (FS ops f0 xs (fun j => listed.getD j false)) a →
      ((List.range ops.size).filter (fun j => !listed.getD j false)).length ≤ fuel → wpAny P .any ops Q fuel listed a w := by
  obtain ⟨hanc, hlen⟩ := anctbl_spec (ops := ops) ops.toList [] (fun j => by simp) (fun i hi => absurd hi (by simp))
  have hgd : ∀ (listed : Array Bool) j, listed.size = ops.size → j < ops.size → listed.getD j true = listed.getD j false := fun listed j h1 h2 => by simp [h1, h2]
  have finish : ∀ (listed : Array Bool) (k : Nat) (a : Act) (w : World) (γ : Conc), k ≤ ops.size → (∀ j, j < ops.size → listed.getD j false = true) →
      (∀ e o, ops[e]? = some o → kindS P Ω o.op = .eff → (listed.getD e false = true ↔ e < k)) →
      Inv w0 γ0 H0 ds n w γ (hp k) (FS ops f0 xs (fun j => listed.getD j false)) a → Q .normal a w := by
    intro listed k a w γ hk hall h2 hi
    refine hQ w γ a ?_
    have e1 : FS ops f0 xs (fun j => listed.getD j false) = FS ops f0 xs (below ops.size) := funext fun t => FS_congr (fun j hj _ => by
      rw [hall j hj]; simp [below, hj]) fun _ _ => rfl
    have e2 : hp k = hp ops.size := hp_eq' hl hk (Nat.le_refl _) fun e o he hke => by
      have := (h2 e o he hke).1 (hall e (Array.getElem?_eq_some_iff.1 he).1)
      exact ⟨fun _ => (Array.getElem?_eq_some_iff.1 he).1, fun _ => this⟩
    rw [← e1, ← e2]; exact hi
  intro fuel
  induction fuel with
  | zero =>
    intro listed k a w γ hsz hk h1 h2 hi hc
    have hall : ∀ j, j < ops.size → listed.getD j false = true := fun j hj => by
      have := List.filter_eq_nil_iff.1 (List.length_eq_zero_iff.1 (Nat.le_zero.1 hc)) j (List.mem_range.2 hj)
      simpa using this
    refine ⟨?_, finish listed k a w γ hk hall h2 hi⟩
    rw [List.eq_nil_iff_forall_not_mem]
    intro j hj
    obtain ⟨h0, o, ho, _⟩ := mem_ready.1 hj
    have hlt := (Array.getElem?_eq_some_iff.1 ho).1
    rw [hgd listed j hsz hlt, hall j hlt] at h0
    cases h0
  | succ fuel ih =>
    intro listed k a w γ hsz hk h1 h2 hi hc
    refine ⟨fun hnil => ?_, fun i hir => ?_⟩
    · refine finish listed k a w γ hk (fun j => ?_) h2 hi
      induction j using Nat.strongRecOn with
      | _ j ihj =>
        intro hj
        cases hlj : listed.getD j false with
        | true => rfl
        | false =>
          exfalso
          have : j ∈ Region.ready .any ops listed := mem_ready.2 ⟨by rw [hgd listed j hsz hj]; exact hlj, ops[j], by simp [hj], fun e he hb => by
            have hlt := hr.edge j ops[j] e (by simp [hj]) he hb
            exact ihj e.on hlt (by omega)⟩
          rw [hnil] at this; cases this
    · obtain ⟨h0, o, ho, hall⟩ := mem_ready.1 hir
      have hlt : i < ops.size := (Array.getElem?_eq_some_iff.1 ho).1
      have hun : listed.getD i false = false := by rw [← hgd listed i hsz hlt]; exact h0
      have hA : ∀ j, ((anctbl ops.toList []).getD i 0).testBit j = true → listed.getD j false = true := fun j hj =>
        hanc i (by rw [hlen]; simpa using hlt) j hj (fun j => listed.getD j false = true) (fun k o e h3 h4 => h1 k o e h3 h4) fun o' e ho' he hb => by
          rw [ho] at ho'; cases ho'; exact hall e he hb
      have hB : ∀ j, j < ops.size → ((anctbl ops.toList []).getD j 0).testBit i = true → listed.getD j false = false := fun j hj hb => by
        cases hlj : listed.getD j false with
        | false => rfl
        | true =>
          have := hanc j (by rw [hlen]; simpa using hj) i hb (fun j => listed.getD j false = true) (fun k o e h3 h4 => h1 k o e h3 h4) fun o' e ho' he hb => h1 j o' e ho' hlj he hb
          rw [hun] at this; cases this
      have hset : ∀ j, j ≠ i → (listed.setIfInBounds i true).getD j false = listed.getD j false := fun j hj => getD_set_ne false (Ne.symm hj)
      have hseti : (listed.setIfInBounds i true).getD i false = true := by simp [hsz, hlt]
      have hfr : ∀ t ∈ o.looksAt ops, FS ops f0 xs (below i) t = FS ops f0 xs (fun j => listed.getD j false) t := fun t ht => FS_congr (fun j hj hd => by
        have hoj : ops[j]? = some ops[j] := by simp [hj]
        rcases hr.looks i j o ops[j] t ho hoj ht (by rw [ydst_of hoj] at hd; exact hd) with rfl | ⟨h3, h4⟩ | ⟨h3, h4⟩
        · rw [hun]; simp [below]
        · rw [hA j h4]; simp [below, h3]
        · rw [hB j hj h4]; simp only [below, decide_eq_false_iff_not]; omega) fun _ _ => rfl
      have hcl : ∀ i' o' e, ops[i']? = some o' → (listed.setIfInBounds i true).getD i' false = true → e ∈ o'.after → Region.binds .any e = true → (listed.setIfInBounds i true).getD e.on false = true := by
        intro i' o' e ho' hl' he hb
        by_cases hii : i' = i
        · subst hii; rw [ho] at ho'; cases ho'; exact getD_set_true (hall e he hb)
        · rw [hset i' hii] at hl'; exact getD_set_true (h1 i' o' e ho' hl' he hb)
      have hcount : ((List.range ops.size).filter (fun j => !(listed.setIfInBounds i true).getD j false)).length ≤ fuel := by
        have := filter_lt (p := fun j => !listed.getD j false) (q := fun j => !(listed.setIfInBounds i true).getD j false) (l := List.range ops.size) (fun x hx hq => by
          by_cases hxi : x = i
          · subst hxi; rw [hun]; rfl
          · rw [hset x hxi] at hq; exact hq) ⟨i, List.mem_range.2 hlt, by rw [hun]; rfl, by rw [hseti]; rfl⟩
        omega
      have hput := FS_put (f0 := f0) (xs := xs) (S := fun j => listed.getD j false) (S' := fun j => (listed.setIfInBounds i true).getD j false) hr ho hseti hset
      have hdo := hr.dst i o ho
      obtain ⟨k1, k2⟩ := hl i o ho
      by_cases hke : kindS P Ω o.op = .eff
      · have hki : hp k = hp i := hp_eq' hl hk (by omega) fun e oe he hee => by
          rcases Nat.lt_trichotomy e i with h3 | h3 | h3
          · have := (h2 e oe he hee).1 (hA e (hr.effs i e o oe ho he hke hee h3))
            exact ⟨fun _ => h3, fun _ => this⟩
          · subst h3
            exact ⟨fun h => (by have := (h2 e oe he hee).2 h; rw [hun] at this; cases this), fun h => (by omega)⟩
          · have hnl := hB e (Array.getElem?_eq_some_iff.1 he).1 (hr.effs e i oe o he ho hee hke h3)
            exact ⟨fun h => (by have := (h2 e oe he hee).2 h; rw [hnl] at this; cases this), fun h => (by omega)⟩
        rw [← hki] at k1
        refine (AY_congr hfr k1).sound ho hdo hi fun w' γ' a' hi' => ?_
        rw [← hput] at hi'
        refine ih _ (i + 1) a' w' γ' (by simp [hsz]) (by omega) hcl (fun e oe he hee => ?_) hi' hcount
        rcases Nat.lt_trichotomy e i with h3 | h3 | h3
        · rw [hset e (by omega), hA e (hr.effs i e o oe ho he hke hee h3)]
          exact ⟨fun _ => (by omega), fun _ => rfl⟩
        · subst h3; rw [hseti]; exact ⟨fun _ => (by omega), fun _ => rfl⟩
        · rw [hset e (by omega), hB e (Array.getElem?_eq_some_iff.1 he).1 (hr.effs e i oe o he ho hee hke h3)]
          exact ⟨fun h => (Bool.false_ne_true h).elim, fun h => by omega⟩
      · have k3 := (k2 hke).2 k hk ⟨fun e oe he hee ha => (h2 e oe he hee).1 (hA e ha), fun e oe he hee ha => by
          have hnl := hB e (Array.getElem?_eq_some_iff.1 he).1 ha
          refine Nat.le_of_not_lt fun hlt => ?_
          have := (h2 e oe he hee).2 hlt
          rw [hnl] at this; cases this⟩
        refine (AY_congr hfr k3).sound ho hdo hi fun w' γ' a' hi' => ?_
        rw [← hput] at hi'
        refine ih _ k a' w' γ' (by simp [hsz]) hk hcl (fun e oe he hee => ?_) hi' hcount
        have hne : e ≠ i := fun h => by subst h; rw [ho] at he; cases he; exact hke hee
        rw [hset e hne]; exact h2 e oe he hee

/-- a region that draws its order -/
theorem awD_sound (hm : P.follows .mixedOrders = true) (hΩ : TblOk P Ω) (hok : regionOk P Ω n ops = true) {K : Fr → AHeap → Prop} {id : Nat} {fr : Fr} {H : AHeap} {w : World} {γ : Conc} {a : Act}
    (hK : ∀ fr H w γ a, Inv w0 γ0 H0 ds n w γ H (Fr.get fr) a → K fr H → Q .normal a w)
    (hi : Inv w0 γ0 H0 ds n { w with drawn := w.drawn + 1 } γ H (Fr.get fr) a) {ms : List (List Nat)} (hmk : MaskOk ops 0 ms) (h : awD P Ω ops ops.toList ⟨ms, 0, []⟩ [] K fr H) : (Code.region id ops true).wp P Q a w := by
  have hr := regionOk_spec hok
  obtain ⟨xs, hp, frn, h1, h2, h3, h4, h5, h6⟩ := lexD hΩ hr (Fr.get fr) ops.toList 0 (by simp) (fun j => by simp) ⟨ms, 0, []⟩ [] fr H (fun _ => .junk) rfl hmk h (by
    funext t; unfold FS
    rw [List.find?_eq_none.2 (fun j _ => by simp [below])])
  refine wp_region_any hm (any_sound (w0 := w0) (γ0 := γ0) (H0 := H0) (ds := ds) hr (xs := xs) (hp := hp) (f0 := Fr.get fr) (fun k o ho => ?_) (fun w' γ' a' hi' => ?_) ops.size _ 0 a _ γ (by simp) (by omega) ?_ ?_ ?_ ?_)
  · obtain ⟨g1, g2⟩ := h6 k o (Nat.zero_le _) ho
    exact ⟨g1, fun hk => ⟨(g2 hk).1, fun j hj ha => (g2 hk).2.2 j (Nat.zero_le _) hj ha⟩⟩
  · rw [← h3] at hi'; exact hK _ _ _ _ _ hi' h4
  · intro i o e ho hli; exfalso
    have hlt := (Array.getElem?_eq_some_iff.1 ho).1
    simp [hlt] at hli
  · intro e o he hee
    have hlt := (Array.getElem?_eq_some_iff.1 he).1
    simp [hlt]
  · rw [h2]
    have : FS ops (Fr.get fr) xs (fun j => (Array.replicate ops.size false).getD j false) = Fr.get fr := by
      funext t; unfold FS
      rw [List.find?_eq_none.2 (fun j hj => by have := List.mem_range.1 hj; simp [this])]
    rw [this]; exact hi
  · refine Nat.le_trans (List.length_filter_le _ _) (by simp)

end
end Go.AL
