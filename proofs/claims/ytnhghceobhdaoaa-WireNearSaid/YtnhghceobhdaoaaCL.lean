/- Contracts and plain laws, a part of the proof; no condition of its own. -/
import Derived.Test.YtnhghceobhdaoaaCJ
open Go Go.AL Go.Proofs
namespace Go.AL
set_option linter.all false
set_option maxRecDepth 10000

theorem EntOk.eff {P : Program} {f : FuncId} {p : List AV → AHeap → (AV → Prop) → Prop} (h : EntOk P f (Ent.pure p)) : EntOk P f (Ent.effect fun args H K => p args H fun v => K (.ret v) H) :=
  EntOk.effect fun args H K hh => by
    obtain ⟨x, hx, hc⟩ := h.1 rfl args H (fun v => K (.ret v) H) hh
    exact ⟨_, _, hx, hc⟩
def e_RLeftE (args : List AV) (H : AHeap) (K : AEnd → AHeap → Prop) : Prop := p_RLeft args H fun v => K (.ret v) H
def e_RErrE (args : List AV) (H : AHeap) (K : AEnd → AHeap → Prop) : Prop := p_RErr args H fun v => K (.ret v) H
def e_RFinishE (args : List AV) (H : AHeap) (K : AEnd → AHeap → Prop) : Prop := p_RFinish args H fun v => K (.ret v) H
theorem ok_RLeftE : EntOk Try.prog 33 (Ent.effect e_RLeftE) := ok_RLeft.eff
theorem ok_RErrE : EntOk Try.prog 32 (Ent.effect e_RErrE) := ok_RErr.eff
theorem ok_RFinishE : EntOk Try.prog 34 (Ent.effect e_RFinishE) := ok_RFinish.eff

def e_UintZ : List AV → AHeap → (AEnd → AHeap → Prop) → Prop
  | [.nilp, .int .i64 w], H, K => K (.ret (.int .i64 0)) H
  | [.ptr id 0, .int .i64 w], H, K => e_Uint [.ptr id 0, .int .i64 w] H K
  | _, _, _ => False
theorem ok_UintZ : EntOk Try.prog 22 (Ent.effect e_UintZ) := by
  refine EntOk.effect fun args H K h => ?_
  unfold e_UintZ at h
  split at h
  · rename_i w
    refine ⟨_, _, h, ?_⟩
    refine ACalls.of_aw (Ω := [(63, Ent.pure p_done)]) (T := assoc []) mixed (TblOk.cons ok_done TblOk.nil) Try.func22 (by kernel_rfl) (by rfl) (rs := [.tmp 4]) (by rfl) (by kernel_rfl) (by simp only [Try.ntmps22, List.length_cons, List.length_nil]; decide) (Nat.le_refl _) fun hcl hlt => ?_
    change aw _ _ _ (KI Try.prog [(63, Ent.pure p_done)] (aEnd Try.prog [.tmp 4] H.nx _ _) []) _ _
    clear h hlt
    simp only [↓bwp, bwq, zav, List.tail_nil, List.tail_cons, List.headD_nil, List.headD_cons, ne_eq, reduceCtorEq, Nat.reduceEqDiff, Nat.reduceAdd, Nat.reduceMul, Nat.reduceSub, Nat.reduceLeDiff, Nat.reduceLT, Int.reduceMul, Int.reduceAdd, Int.reduceSub, List.map_cons, List.map_nil, Option.map_some, Option.map_none, Option.elim_some, if_true, if_false, List.append_nil, List.nil_append, bvq, rEq, List.cons_append, Int.reduceToNat, List.getElem?_cons_zero, List.getElem?_cons_succ, TD.agg, List.drop_succ_cons, List.drop_zero, List.take_succ_cons, List.take_zero, List.take_nil, List.drop_nil, List.getD_cons_zero, List.getD_cons_succ, splice, zhb, zhc, Option.isSome_some, Option.isSome_none, List.getElem?_nil, zhd, zhe, rLen, rBin, rInt, rStr, rUn, zhf, zhg, zhh, zhi, zhj, rBox, zhk, zhl, zhm, zhn, zho, zhp, zhq, zhr, zhs, zht, zhu, zhv, zhw, zhx, zhy, zhz, zia, zib, zic, bound, addL, addT, grow, room, List.length_cons, List.length_nil, List.length_map, frOf, byq, ti_bytes, ti_int, ti_uint, ti_u8, ti_bool, ti_string, ti_u64, ti_val, ti_a16, ti_bits, ti_op, ti_ops, ti_reader, ti_errno, ti_preader, ti_rreader, ti_prreader, ↓blp, blq, p_done]
    simp (disch := first | assumption | omega | (simp; done) | (simp; omega) | (simp only [bt, and_true]; first | done | omega | (simp; done))) [↓zkt, beq, List.take_of_length_le, List.drop_append, List.take_append, endOk, wk, wk2, wk1, wkM, wkL, wkLL, List.drop_eq_nil_of_le, hcl]
  · exact ok_Uint.2.1 rfl _ _ _ h
  · exact h.elim

theorem uintR_done (m : Mark) (l : List UInt8) (w : Int) : uintR (m, l, 1) w = (0, m, l, 1) := by simp [uintR]
theorem boolR_done (m : Mark) (l : List UInt8) : boolR (m, l, 1) = (false, m, l, 1) := by simp [boolR]
theorem valueR_done (m : Mark) (l : List UInt8) : valueR (m, l, 1) = (0, m, l, 1) := by simp [valueR]
theorem bytesR_done (m : Mark) (l : List UInt8) (w : Int) : bytesR (m, l, 1) w = ([], m, l, 1) := by simp [bytesR]
theorem textR_done (m : Mark) (l : List UInt8) (w : Int) : textR (m, l, 1) w = ([], m, l, 1) := by simp [textR, bytesR, plainB]
theorem countR_done (m : Mark) (l : List UInt8) (w : Int) : countR (m, l, 1) w = (0, m, l, 1) := by simp [countR]

end Go.AL
