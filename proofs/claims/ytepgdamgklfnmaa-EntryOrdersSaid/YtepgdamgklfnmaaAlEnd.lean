/- Contracts and plain laws, a part of the proof; no condition of its own. -/
import Derived.Test.YtepgdamgklfnmaaAlSimp
import Derived.Test.YtepgdamgklfnmaaAlSound17
/- The abstract layer: simp's rules for heaps and for the end of a function. -/
namespace Go.AL
set_option linter.all false
theorem zac {P : Program} {Ω : Tbl} {K : Conts} {fr : Fr} {H : AHeap} {c : Code} : aw P Ω (.scope c) K fr H = aw P Ω c K fr H := (rfl)

@[congr] theorem aw_congr {P : Program} {Ω : Tbl} {c : Code} {K : Conts} {fr : Fr} {H : AHeap} : aw P Ω c K fr H = aw P Ω c K fr H := (rfl)
@[congr] theorem awOps_congr {P : Program} {Ω : Tbl} {ops : Array Oper} {rest : List Oper} {K : Fr → AHeap → Prop} {Kp : Fr → AV → AHeap → Prop} {fr : Fr} {H : AHeap} : awOps P Ω ops rest K Kp fr H = awOps P Ω ops rest K Kp fr H := (rfl)
@[congr] theorem awD_congr {P : Program} {Ω : Tbl} {ops : Array Oper} {rest : List Oper} {hs : HS} {ps : List (Nat × (AHeap → Prop))} {K : Fr → AHeap → Prop} {fr : Fr} {H : AHeap} : awD P Ω ops rest hs ps K fr H = awD P Ω ops rest hs ps K fr H := (rfl)
@[congr] theorem both_congr {t : Bool} {A B A' B' : Prop} {t' : Bool} (h : t = t') (h1 : A = A') (h2 : B = B') : both t A B = both t' A' B' := by rw [h, h1, h2]

theorem zkk {H : AHeap} {o : AObj} : (H.push o).nx = H.nx + 1 := (rfl)
theorem zkl {H : AHeap} {i : Nat} {o : AObj} : (H.set i o).nx = H.nx := (rfl)
theorem zkn {H : AHeap} {o : AObj} {i : Nat} : (H.push o).get i = if i = H.nx then some o else H.get i := by
  unfold AHeap.get AHeap.push
  by_cases h : i = H.nx
  · subst h; simp
  · by_cases h2 : i < H.nx
    · simp [h, h2, Nat.lt_succ_of_lt h2]
    · simp only [h, if_false, h2]; split <;> first | omega | rfl
theorem zko {H : AHeap} {o o' : AObj} {i : Nat} : (H.push o).set i o' = if i = H.nx then H.push o' else (H.set i o').push o := by
  split
  · rename_i h; subst h
    unfold AHeap.set AHeap.push; congr 1; funext j; by_cases hj : j = H.nx <;> simp [hj]
  · rename_i h
    unfold AHeap.set AHeap.push; congr 1; funext j
    simp only
    by_cases h1 : j = i
    · subst h1; simp [h]
    · simp [h1]
theorem zkp {H : AHeap} {i : Nat} {o o' : AObj} : (H.set i o).set i o' = H.set i o' := by
  unfold AHeap.set; congr 1; funext j; simp only; split <;> rfl
theorem heap_get_set {H : AHeap} {i j : Nat} {o : AObj} : (H.set i o).get j = if j = i then (if i < H.nx then some o else none) else H.get j := by
  unfold AHeap.get AHeap.set
  by_cases h : j = i
  · subst h; simp
  · simp [h]
theorem cells_some {H : AHeap} {id : Nat} {cs : List AV} (h : H.get id = some (.cells cs)) : cellsOf? H id = some cs := by simp [cellsOf?, h]
theorem zkm {H : AHeap} {o : AObj} {i : Nat} : cellsOf? (H.push o) i = if i = H.nx then (match o with | .cells cs => some cs | _ => none) else cellsOf? H i := by
  unfold cellsOf?
  rw [zkn]
  by_cases h : i = H.nx
  · simp only [h, if_true]; cases o <;> rfl
  · simp only [h, if_false]
theorem cells_set {H : AHeap} {i j : Nat} {cs : List AV} (hi : i < H.nx) : cellsOf? (H.set i (.cells cs)) j = if j = i then some cs else cellsOf? H j := by
  unfold cellsOf?
  rw [heap_get_set]
  by_cases h : j = i
  · simp only [h, if_true, hi]
  · simp only [h, if_false]

theorem zmc {H : AHeap} : H.Le H = True := eq_true (AHeap.Le.refl H)

theorem zmd {H : AHeap} {o1 : AObj} : H.Le (H.push o1) = True := eq_true ((AHeap.Le.refl H).push _)
theorem zme {H : AHeap} {o1 o2 : AObj} : H.Le ((H.push o1).push o2) = True := eq_true (((AHeap.Le.refl H).push _).push _)
theorem zmf {H : AHeap} {o1 o2 o3 : AObj} : H.Le (((H.push o1).push o2).push o3) = True := eq_true ((((AHeap.Le.refl H).push _).push _).push _)
theorem zmg {H : AHeap} {o1 o2 o3 o4 : AObj} : H.Le ((((H.push o1).push o2).push o3).push o4) = True := eq_true (((((AHeap.Le.refl H).push _).push _).push _).push _)
theorem zmh {H : AHeap} {o1 o2 o3 o4 o5 : AObj} : H.Le (((((H.push o1).push o2).push o3).push o4).push o5) = True := eq_true ((((((AHeap.Le.refl H).push _).push _).push _).push _).push _)
theorem zmi {H : AHeap} {o1 o2 o3 o4 o5 o6 : AObj} : H.Le ((((((H.push o1).push o2).push o3).push o4).push o5).push o6) = True := eq_true (((((((AHeap.Le.refl H).push _).push _).push _).push _).push _).push _)
theorem zmj {H : AHeap} {o1 o2 o3 o4 o5 o6 o7 : AObj} : H.Le (((((((H.push o1).push o2).push o3).push o4).push o5).push o6).push o7) = True := eq_true ((((((((AHeap.Le.refl H).push _).push _).push _).push _).push _).push _).push _)
theorem zmk {H : AHeap} {o1 o2 o3 o4 o5 o6 o7 o8 : AObj} : H.Le ((((((((H.push o1).push o2).push o3).push o4).push o5).push o6).push o7).push o8) = True := eq_true (((((((((AHeap.Le.refl H).push _).push _).push _).push _).push _).push _).push _).push _)
theorem zng {H : AHeap} {q1 o1 : AObj} : (H.push q1).Le ((H.push q1).push o1) = True := eq_true ((AHeap.Le.refl (H.push q1)).push _)
theorem znh {H : AHeap} {q1 q2 o1 : AObj} : ((H.push q1).push q2).Le (((H.push q1).push q2).push o1) = True := eq_true ((AHeap.Le.refl ((H.push q1).push q2)).push _)
theorem zni {H : AHeap} {q1 o1 o2 : AObj} : (H.push q1).Le (((H.push q1).push o1).push o2) = True := eq_true (((AHeap.Le.refl (H.push q1)).push _).push _)
theorem znj {H : AHeap} {q1 q2 o1 o2 : AObj} : ((H.push q1).push q2).Le ((((H.push q1).push q2).push o1).push o2) = True := eq_true (((AHeap.Le.refl ((H.push q1).push q2)).push _).push _)
theorem znk {H : AHeap} {q1 o1 o2 o3 : AObj} : (H.push q1).Le ((((H.push q1).push o1).push o2).push o3) = True := eq_true ((((AHeap.Le.refl (H.push q1)).push _).push _).push _)
theorem znl {H : AHeap} {q1 q2 o1 o2 o3 : AObj} : ((H.push q1).push q2).Le (((((H.push q1).push q2).push o1).push o2).push o3) = True := eq_true ((((AHeap.Le.refl ((H.push q1).push q2)).push _).push _).push _)
theorem znm {H : AHeap} {q1 o1 o2 o3 o4 : AObj} : (H.push q1).Le (((((H.push q1).push o1).push o2).push o3).push o4) = True := eq_true (((((AHeap.Le.refl (H.push q1)).push _).push _).push _).push _)
theorem znn {H : AHeap} {q1 q2 o1 o2 o3 o4 : AObj} : ((H.push q1).push q2).Le ((((((H.push q1).push q2).push o1).push o2).push o3).push o4) = True := eq_true (((((AHeap.Le.refl ((H.push q1).push q2)).push _).push _).push _).push _)
theorem zno {H : AHeap} {q1 o1 o2 o3 o4 o5 : AObj} : (H.push q1).Le ((((((H.push q1).push o1).push o2).push o3).push o4).push o5) = True := eq_true ((((((AHeap.Le.refl (H.push q1)).push _).push _).push _).push _).push _)
theorem znp {H : AHeap} {q1 q2 o1 o2 o3 o4 o5 : AObj} : ((H.push q1).push q2).Le (((((((H.push q1).push q2).push o1).push o2).push o3).push o4).push o5) = True := eq_true ((((((AHeap.Le.refl ((H.push q1).push q2)).push _).push _).push _).push _).push _)
theorem zmb {H : AHeap} {i : Nat} (h : H.nx ≤ i) : H.get i = none := by
  unfold AHeap.get; rw [if_neg (by omega)]
section
variable {P : Program} {rs : List ResultVar} {n0 : Nat} {e : AEnd} {H1 H : AHeap} {fr : Fr} {x : AV} {s t u : Nat}
theorem zju {Q : AV → AHeap → Prop} {T : Nat → List (List Nat)} : (aEndP P rs n0 Q T).r fr H = finishP P rs n0 Q fr H := (rfl)
theorem zjv {Q : AV → AHeap → Prop} {T : Nat → List (List Nat)} : (aEndP P rs n0 Q T).n fr H = finishP P rs n0 Q fr H := (rfl)
theorem zjw {Q : AV → AHeap → Prop} {T : Nat → List (List Nat)} : (aEndP P rs n0 Q T).n0 = n0 := (rfl)
theorem zdw {Q : AV → AHeap → Prop} {T : Nat → List (List Nat)} : (aEndP P rs n0 Q T).T = T := (rfl)
def endP (n0 : Nat) (Q : AV → AHeap → Prop) (v : AV) (H : AHeap) : Prop := ∃ x H1, Q x H1 ∧ n0 ≤ H1.nx ∧ endOk H v H1 x
theorem zjx {Q : AV → AHeap → Prop} : finishP P [] n0 Q fr H = endP n0 Q (.tup []) H := by simp [finishP, resL, one, endP]
theorem zjy {Q : AV → AHeap → Prop} : finishP P [.tmp t] n0 Q fr H = endP n0 Q (Fr.get fr t) H := by simp [finishP, resL, resA, one, endP]
theorem zjz {Q : AV → AHeap → Prop} : finishP P [.tmp t, .tmp s] n0 Q fr H = endP n0 Q (.tup [Fr.get fr t, Fr.get fr s]) H := by simp [finishP, resL, resA, one, endP]
theorem zka {Q : AV → AHeap → Prop} {ty : TypeId} : finishP P [.cell t ty] n0 Q fr H = match zio P ty (Fr.get fr t) H with | some r => r.c ∧ endP n0 Q r.v H | none => False := by
  simp only [finishP, resL, resA]
  cases zio P ty (Fr.get fr t) H with
  | none => rfl
  | some r => simp [one, endP]
theorem zdv {T : Nat → List (List Nat)} : (aEnd P rs n0 e H1 T).T = T := (rfl)
theorem zjs {T : Nat → List (List Nat)} : (aEnd P rs n0 e H1 T).r fr H = finish P rs e H1 fr H := (rfl)
theorem zkb {T : Nat → List (List Nat)} : (aEnd P rs n0 e H1 T).n0 = n0 := (rfl)
theorem zjt {T : Nat → List (List Nat)} : (aEnd P rs n0 e H1 T).n fr H = finish P rs e H1 fr H := (rfl)
theorem zkc {T : Nat → List (List Nat)} {y : AV} {fr : Fr} : (aEnd P rs n0 (.panic x) H1 T).p fr y H = endOk H y H1 x := (rfl)
theorem zkd {T : Nat → List (List Nat)} {y : AV} {fr : Fr} : (aEnd P rs n0 (.ret x) H1 T).p fr y H = False := (rfl)
theorem zke : finish P [] (.ret x) H1 fr H = endOk H (.tup []) H1 x := by simp [finish, resL, one]
theorem zkf : finish P [.tmp t] (.ret x) H1 fr H = endOk H (Fr.get fr t) H1 x := by simp [finish, resL, resA, one]
theorem zkg : finish P [.tmp t, .tmp s] (.ret x) H1 fr H = endOk H (.tup [Fr.get fr t, Fr.get fr s]) H1 x := by simp [finish, resL, resA, one]
theorem zkh : finish P [.tmp t, .tmp s, .tmp u] (.ret x) H1 fr H = endOk H (.tup [Fr.get fr t, Fr.get fr s, Fr.get fr u]) H1 x := by simp [finish, resL, resA, one]
theorem zki {ty : TypeId} : finish P [.cell t ty] (.ret x) H1 fr H = match zio P ty (Fr.get fr t) H with | some r => r.c ∧ endOk H r.v H1 x | none => False := by
  simp only [finish, resL, resA]
  cases zio P ty (Fr.get fr t) H with
  | none => rfl
  | some r => simp [one]
end
section
variable {k : IntKind} {n : Int} {b : Bool} {s : List UInt8} {i j l : Nat} {cs : List AV} {m : Mark} {t : TypeId} {v : AV} {f : Fn}
theorem zgf : allOne [] = true := (rfl)
theorem zge : allOne (v :: cs) = (v.one && allOne cs) := (rfl)
theorem zgg : (AV.int k n).one = true := (rfl)
theorem zgh : (AV.bool b).one = true := (rfl)
theorem zgi : (AV.str s).one = true := (rfl)
theorem zgj : (AV.ptr i j).one = true := (rfl)
theorem zgk : (AV.cptr cs).one = true := (rfl)
theorem zgl : AV.nilp.one = true := (rfl)
theorem zgm : (AV.slice m i cs).one = true := (rfl)
theorem zgn : (AV.ms i j l t).one = true := (rfl)
theorem zgo : (AV.mapv i).one = true := (rfl)
theorem zgp : AV.nilm.one = true := (rfl)
theorem zgq {as bs : List AV} : (AV.func f as bs).one = true := (rfl)
theorem zgr : AV.nilf.one = true := (rfl)
theorem zgs : (AV.iface t v).one = true := (rfl)
theorem zgt : AV.nili.one = true := (rfl)
theorem zje : (AV.int k n).cells = [.int k n] := (rfl)
theorem zjf : (AV.bool b).cells = [.bool b] := (rfl)
theorem zjg : (AV.str s).cells = [.str s] := (rfl)
theorem zjh : (AV.ptr i j).cells = [.ptr i j] := (rfl)
theorem zji : (AV.cptr cs).cells = [.cptr cs] := (rfl)
theorem zjj : AV.nilp.cells = [.nilp] := (rfl)
theorem zjk : (AV.slice m i cs).cells = [.slice m i cs] := (rfl)
theorem zjl : (AV.ms i j l t).cells = [.ms i j l t] := (rfl)
theorem zjm : (AV.mapv i).cells = [.mapv i] := (rfl)
theorem zjn : AV.nilm.cells = [.nilm] := (rfl)
theorem zjo {as bs : List AV} : (AV.func f as bs).cells = [.func f as bs] := (rfl)
theorem zjp : AV.nilf.cells = [.nilf] := (rfl)
theorem zjq : (AV.iface t v).cells = [.iface t v] := (rfl)
theorem zjr : AV.nili.cells = [.nili] := (rfl)
theorem zib : (AV.agg cs).cells = cs := (rfl)
end
theorem KI_n0 {P : Program} {Ω : Tbl} {B : Conts} : ∀ {k : List KItem}, (KI P Ω B k).n0 = B.n0
  | [] => rfl
  | .code c :: k => KI_n0 (k := k)
  | .blk id :: k => KI_n0 (k := k)
  | .back R :: k => KI_n0 (k := k)
/-- a loop: ghosts, their frames and heaps, an invariant, a measure -/
theorem loop_intro {P : Program} {Ω : Tbl} {B : Conts} {k : List KItem} {c : Code} {fr : Fr} {H : AHeap} {A : Type} (F : A → Fr) (G : A → AHeap) (I : A → Prop) (μ : A → Nat) (x0 : A) (h0 : I x0)
    (he : enter B.n0 fr H (F x0) (G x0))
    (hb : ∀ a, I a → aw P Ω c (KI P Ω B (.back (fun fr' H' => ∃ a', I a' ∧ μ a' < μ a ∧ enter B.n0 fr' H' (F a') (G a')) :: k)) (F a) (G a)) :
    aw P Ω (.loop c) (KI P Ω B k) fr H := by
  refine ⟨some false, A, F, G, I, μ, ⟨x0, h0, by rw [KI_n0]; exact he⟩, fun a ha => ?_⟩
  have := hb a ha
  rw [← KI_n0 (P := P) (Ω := Ω) (k := k)] at this
  exact this

/-- a loop whose body is left in its first round -/
theorem loop_skip {P : Program} {Ω : Tbl} {B : Conts} {k : List KItem} {c : Code} {fr : Fr} {H : AHeap} (h : aw P Ω c (KI P Ω B (.back (fun _ _ => False) :: k)) fr H) : aw P Ω (.loop c) (KI P Ω B k) fr H := by
  refine ⟨none, Unit, fun _ => fr, fun _ => H, fun _ => True, fun _ => 0, ⟨(), trivial, rfl, rfl⟩, fun _ _ => ?_⟩
  have e : (fun (fr' : Fr) (H' : AHeap) => ∃ a' : Unit, True ∧ (0 : Nat) < 0 ∧ enterB none (KI P Ω B k).n0 fr' H' fr H) = fun _ _ => False := by
    funext fr' H'
    exact eq_false fun ⟨_, _, h, _⟩ => absurd h (by decide)
  show aw P Ω c { KI P Ω B k with n := _ } fr H
  rw [e]
  exact h
/-- the same, values may be taken for weaker ones -/
theorem loop_introW {P : Program} {Ω : Tbl} {B : Conts} {k : List KItem} {c : Code} {fr : Fr} {H : AHeap} {A : Type} (F : A → Fr) (G : A → AHeap) (I : A → Prop) (μ : A → Nat) (x0 : A) (h0 : I x0)
    (he : enterW B.n0 fr H (F x0) (G x0))
    (hb : ∀ a, I a → aw P Ω c (KI P Ω B (.back (fun fr' H' => ∃ a', I a' ∧ μ a' < μ a ∧ enterW B.n0 fr' H' (F a') (G a')) :: k)) (F a) (G a)) :
    aw P Ω (.loop c) (KI P Ω B k) fr H := by
  refine ⟨some true, A, F, G, I, μ, ⟨x0, h0, by rw [KI_n0]; exact he⟩, fun a ha => ?_⟩
  have := hb a ha
  rw [← KI_n0 (P := P) (Ω := Ω) (k := k)] at this
  exact this

section
variable {k : IntKind} {n m i j l : Nat} {z : Int} {b : Bool} {s : List UInt8} {v : AV} {t : TypeId} {vs : List AV}
theorem zml : (AV.int k z).lt m = True := eq_true (by rw [AV.lt] <;> simp)
theorem zmm : (AV.bool b).lt m = True := eq_true (by rw [AV.lt] <;> simp)
theorem zmn : (AV.str s).lt m = True := eq_true (by rw [AV.lt] <;> simp)
theorem zmo : AV.nilp.lt m = True := eq_true (by rw [AV.lt] <;> simp)
theorem zmp : AV.nilm.lt m = True := eq_true (by rw [AV.lt] <;> simp)
theorem zmq : AV.nilf.lt m = True := eq_true (by rw [AV.lt] <;> simp)
theorem zmr : AV.nili.lt m = True := eq_true (by rw [AV.lt] <;> simp)
theorem zms : AV.junk.lt m = True := eq_true (by rw [AV.lt] <;> simp)
theorem zmt : (AV.ptr i j).lt m = (i < m) := by rw [AV.lt]
theorem zmu : (AV.mapv i).lt m = (i < m) := by rw [AV.lt]
theorem zmv : (AV.ms i j l n).lt m = (i < m) := by rw [AV.lt]
theorem zmw : (AV.iface t v).lt m = v.lt m := by rw [AV.lt]
def ltL (m : Nat) : List AV → Prop
  | [] => True
  | v :: vs => v.lt m ∧ ltL m vs
theorem ltL_iff {m : Nat} : ∀ {vs : List AV}, ltL m vs ↔ ∀ (j : Nat) (hj : j < vs.length), (vs[j]).lt m
  | [] => ⟨fun _ j hj => absurd hj (by simp), fun _ => trivial⟩
  | v :: vs => ⟨fun h j hj => by
      cases j with
      | zero => exact h.1
      | succ j => exact ltL_iff.1 h.2 j (by simpa using hj), fun h => ⟨h 0 (by simp), ltL_iff.2 fun j hj => h (j + 1) (by simpa using hj)⟩⟩
theorem zmx : (AV.agg vs).lt m = ltL m vs := by rw [AV.lt]; exact propext ltL_iff.symm
theorem zmy : (AV.tup vs).lt m = ltL m vs := by rw [AV.lt]; exact propext ltL_iff.symm
theorem zmz : (AV.cptr vs).lt m = ltL m vs := by rw [AV.lt]; exact propext ltL_iff.symm
theorem zna : ltL m (v :: vs) = (v.lt m ∧ ltL m vs) := (rfl)
theorem znb : ltL m [] = True := (rfl)
end
theorem lt_sliceL {n sz : Nat} {m : Mark} {xs : List AV} : (AV.slice m sz xs).lt n = ((∀ id, m = .own id → id < n) ∧ ltL n xs) := by
  rw [AV.lt]; exact propext ⟨fun h => ⟨h.1, ltL_iff.2 h.2⟩, fun h => ⟨h.1, ltL_iff.1 h.2⟩⟩
theorem closed_buf {H : AHeap} {a b : Nat} (h : H.Closed) : (H.push (.buf a b)).Closed := by
  intro i cs hi j hj
  rw [zkn] at hi
  split at hi
  · cases hi
  · exact AV.lt_mono (by rw [zkk]; omega) _ (h i cs hi j hj)
theorem closed_cells {H : AHeap} {cs : List AV} (h : H.Closed) (hc : ltL (H.nx + 1) cs) : (H.push (.cells cs)).Closed := by
  intro i cs' hi j hj
  rw [zkn] at hi
  split at hi
  · cases hi; exact ltL_iff.1 hc j hj
  · exact AV.lt_mono (by rw [zkk]; omega) _ (h i cs' hi j hj)
theorem closed_set_buf {H : AHeap} {i a b : Nat} (h : H.Closed) : (H.set i (.buf a b)).Closed := by
  intro k cs hi j hj
  rw [heap_get_set] at hi
  split at hi
  · split at hi <;> cases hi
  · exact h k cs hi j hj
theorem closed_set {H : AHeap} {i : Nat} {cs : List AV} (h : H.Closed) (hc : ltL H.nx cs) : (H.set i (.cells cs)).Closed := by
  intro k cs' hi j hj
  rw [heap_get_set] at hi
  split at hi
  · split at hi
    · cases hi; exact ltL_iff.1 hc j hj
    · cases hi
  · exact h k cs' hi j hj
theorem znc {H : AHeap} {a b : Nat} (h : H.Closed) : (H.push (.buf a b)).Closed = True := eq_true (closed_buf h)
theorem znd {H : AHeap} {a b c d : Nat} (h : H.Closed) : ((H.push (.buf a b)).push (.buf c d)).Closed = True := eq_true (closed_buf (closed_buf h))
theorem zne {H : AHeap} {a b c d e f : Nat} (h : H.Closed) : (((H.push (.buf a b)).push (.buf c d)).push (.buf e f)).Closed = True := eq_true (closed_buf (closed_buf (closed_buf h)))
theorem cl_s {H : AHeap} {i a b : Nat} (h : H.Closed) : (H.set i (.buf a b)).Closed = True := eq_true (closed_set_buf h)
theorem znf {H : AHeap} {i : Nat} {cs : List AV} (h : H.Closed) (hc : ltL H.nx cs) : (H.set i (.cells cs)).Closed = True := eq_true (closed_set h hc)

theorem zll {H : AHeap} {cs : List AV} (h : H.Closed) (hc : ltL (H.nx + 1) cs) : (H.push (.cells cs)).Closed = True := eq_true (closed_cells h hc)
theorem zlm {H : AHeap} {cs ds : List AV} (h : H.Closed) (hc : ltL (H.nx + 1) cs) (hd : ltL (H.nx + 1 + 1) ds) : ((H.push (.cells cs)).push (.cells ds)).Closed = True := eq_true (closed_cells (closed_cells h hc) hd)
theorem zln {H : AHeap} {cs ds es : List AV} (h : H.Closed) (hc : ltL (H.nx + 1) cs) (hd : ltL (H.nx + 1 + 1) ds) (he : ltL (H.nx + 1 + 1 + 1) es) : (((H.push (.cells cs)).push (.cells ds)).push (.cells es)).Closed = True := eq_true (closed_cells (closed_cells (closed_cells h hc) hd) he)
theorem zlo {H : AHeap} {cs : List AV} {a b : Nat} (h : H.Closed) (hc : ltL (H.nx + 1) cs) : ((H.push (.cells cs)).push (.buf a b)).Closed = True := eq_true (closed_buf (closed_cells h hc))
theorem zlp {H : AHeap} {q1 q2 q3 o1 : AObj} : (((H.push q1).push q2).push q3).Le ((((H.push q1).push q2).push q3).push o1) = True := eq_true ((AHeap.Le.refl (((H.push q1).push q2).push q3)).push _)
theorem zlq {H : AHeap} {q1 q2 q3 o1 o2 : AObj} : (((H.push q1).push q2).push q3).Le (((((H.push q1).push q2).push q3).push o1).push o2) = True := eq_true (((AHeap.Le.refl (((H.push q1).push q2).push q3)).push _).push _)
theorem zlr {H : AHeap} {q1 q2 q3 o1 o2 o3 : AObj} : (((H.push q1).push q2).push q3).Le ((((((H.push q1).push q2).push q3).push o1).push o2).push o3) = True := eq_true ((((AHeap.Le.refl (((H.push q1).push q2).push q3)).push _).push _).push _)

theorem AHeap.Le.del {H H' : AHeap} (h : H.Le H') {i : Nat} (hi : H.nx ≤ i) : H.Le (H'.del i) := ⟨h.nx, fun j x hj => by
  have hlt := AHeap.get_lt hj
  rw [del_get, if_neg (by omega)]; exact h.get j x hj⟩
theorem heap_nx_del {H : AHeap} {i : Nat} : (H.del i).nx = H.nx := (rfl)
theorem heap_get_del {H : AHeap} {i j : Nat} : (H.del i).get j = if j = i then none else H.get j := del_get H i j
theorem cells_del {H : AHeap} {i j : Nat} : cellsOf? (H.del i) j = if j = i then none else cellsOf? H j := by
  unfold cellsOf?
  rw [heap_get_del]
  by_cases h : j = i
  · simp [h]
  · simp [h]
theorem closed_del {H : AHeap} {i : Nat} (h : H.Closed) : (H.del i).Closed := by
  intro k cs hk j hj
  rw [heap_get_del] at hk
  split at hk
  · cases hk
  · exact h k cs hk j hj

end Go.AL

