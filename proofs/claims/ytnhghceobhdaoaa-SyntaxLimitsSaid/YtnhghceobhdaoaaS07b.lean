/- Contracts and plain laws, a part of the proof; no condition of its own. -/
import Derived.Test.YtnhghceobhdaoaaS07a
open List renaming length_cons → yaz, length_nil → yba, tail_nil → yaa, tail_cons → yab, headD_nil → yac, headD_cons → yad, map_cons → yae, map_nil → yaf, append_nil → yaj, nil_append → yak, cons_append → yal, getElem?_cons_zero → yam, getElem?_cons_succ → yan, drop_succ_cons → yao, drop_zero → yap, take_succ_cons → yaq, take_zero → yar, take_nil → yas, drop_nil → yat, getD_cons_zero → yau, getD_cons_succ → yav, getElem?_nil → yay, length_map → ybb, take_of_length_le → ybc, drop_append → ybd, take_append → ybe, drop_eq_nil_of_le → ybf
open Option renaming map_some → yag, map_none → yah, elim_some → yai, isSome_some → yaw, isSome_none → yax
open Go Go.AL Go.Proofs
namespace Go.AL
set_option linter.all false
set_option maxRecDepth 10000
def truthN (op v : Int) : AV := .agg [.int .i64 op, .int .i64 0, .int .i64 0, .str [], .str [], .int .u64 0, .int .u64 v]
def truthAV (s : List UInt8) : AV := if s = sTrue then .tup [truthN 2 1, .bool true] else if s = sFalse then .tup [truthN 2 0, .bool true] else .tup [truthN 0 0, .bool false]
def p_yOf : List AV → AHeap → (AV → Prop) → Prop
  | [.int .u64 n], _, K => K (.agg [.int .u64 0, .int .u64 n])
  | _, _, _ => False
theorem ok_yOf : EntOk Try.prog 101 (Ent.pure p_yOf) := by
  refine EntOk.pure fun args H K h => ?_
  unfold p_yOf at h
  split at h
  rotate_left
  · exact h.elim
  rename_i n
  refine ⟨_, h, ?_⟩
  clear h
  refine ACalls.of_aw (Ω := []) (T := assoc []) mixed TblOk.nil Try.func101 (by kernel_rfl) (by rfl) (rs := [.cell 2 46]) (by rfl) (by kernel_rfl) (by simp only [Try.ntmps101, yaz, yba]; decide) (Nat.le_refl _) fun hcl hlt => ?_
  change aw _ _ _ (KI Try.prog [] (aEnd Try.prog [.cell 2 46] H.nx _ _) []) _ _
  clear hlt
  simp only [↓bwp, bwq, yaa, yab, yac, yad, ne_eq, reduceCtorEq, Nat.reduceEqDiff, Nat.reduceAdd, Nat.reduceMul, Nat.reduceSub, Nat.reduceLeDiff, Nat.reduceLT, Int.reduceMul, Int.reduceAdd, Int.reduceSub, yae, yaf, yag, yah, yai, if_true, if_false, yaj, yak, bvq, rEq, yal, Int.reduceToNat, yam, yan, TD.agg, yao, yap, yaq, yar, yas, yat, yau, yav, splice, zhb, zhc, yaw, yax, yay, zhd, zhe, rLen, rBin, rInt, rStr, rUn, zhf, zhg, zhh, zhi, zhj, rBox, zhk, zhl, zhm, zhn, zho, zhp, zhq, zhr, zhs, zht, zhu, zhv, zhw, zhx, zhy, zhz, zia, zib, zic, bound, addL, addT, grow, room, yaz, yba, ybb, frOf, ytb6, ↓blp, blq]
  simp (disch := first | assumption | omega | (simp; done) | (simp; omega) | (simp only [bt, and_true]; first | done | omega | (simp; done))) [↓zkt, beq, ybc, ybd, ybe, endOk, wk, wk2, wk1, wkM, wkL, wkLL, ybf, hcl]
def p_yTruth : List AV → AHeap → (AV → Prop) → Prop
  | [.str s], _, K => K (truthAV s)
  | _, _, _ => False
theorem ok_yTruth : EntOk Try.prog 160 (Ent.pure p_yTruth) := by
  refine EntOk.pure fun args H K h => ?_
  unfold p_yTruth at h
  split at h
  rotate_left
  · exact h.elim
  rename_i s
  refine ⟨_, h, ?_⟩
  clear h
  unfold truthAV
  by_cases h1 : s = sTrue
  · rw [if_pos h1]
    subst h1
    refine ACalls.of_aw (Ω := [(101, Ent.pure p_yOf)]) (T := assoc []) mixed (TblOk.cons ok_yOf TblOk.nil) Try.func160 (by kernel_rfl) (by rfl) (rs := [.cell 2 73,.tmp 3]) (by rfl) (by kernel_rfl) (by simp only [Try.ntmps160, yaz, yba]; decide) (Nat.le_refl _) fun hcl hlt => ?_
    change aw _ _ _ (KI Try.prog [(101, Ent.pure p_yOf)] (aEnd Try.prog [.cell 2 73,.tmp 3] H.nx _ _) []) _ _
    clear hlt
    have d1 : (sTrue == [116, 114, 117, 101]) = true := by decide
    simp only [↓bwp, bwq, yaa, yab, yac, yad, ne_eq, reduceCtorEq, Nat.reduceEqDiff, Nat.reduceAdd, Nat.reduceMul, Nat.reduceSub, Nat.reduceLeDiff, Nat.reduceLT, Int.reduceMul, Int.reduceAdd, Int.reduceSub, yae, yaf, yag, yah, yai, if_true, if_false, yaj, yak, bvq, rEq, yal, Int.reduceToNat, yam, yan, TD.agg, yao, yap, yaq, yar, yas, yat, yau, yav, splice, zhb, zhc, yaw, yax, yay, zhd, zhe, rLen, rBin, rInt, rStr, rUn, zhf, zhg, zhh, zhi, zhj, rBox, zhk, zhl, zhm, zhn, zho, zhp, zhq, zhr, zhs, zht, zhu, zhv, zhw, zhx, zhy, zhz, zia, zib, zic, bound, addL, addT, grow, room, yaz, yba, ybb, frOf, ytb6, ↓blp, blq, p_yOf, d1, zji]
    simp (disch := first | assumption | omega | (simp; done) | (simp; omega) | (simp only [bt, and_true]; first | done | omega | (simp; done))) [↓zkt, beq, ybc, ybd, ybe, endOk, wk, wk2, wk1, wkM, wkL, wkLL, ybf, hcl, truthN]
  · rw [if_neg h1]
    have d1 : (s == [116, 114, 117, 101]) = false := by simpa [sTrue] using h1
    by_cases h2 : s = sFalse
    · rw [if_pos h2]
      subst h2
      refine ACalls.of_aw (Ω := [(101, Ent.pure p_yOf)]) (T := assoc []) mixed (TblOk.cons ok_yOf TblOk.nil) Try.func160 (by kernel_rfl) (by rfl) (rs := [.cell 2 73,.tmp 3]) (by rfl) (by kernel_rfl) (by simp only [Try.ntmps160, yaz, yba]; decide) (Nat.le_refl _) fun hcl hlt => ?_
      change aw _ _ _ (KI Try.prog [(101, Ent.pure p_yOf)] (aEnd Try.prog [.cell 2 73,.tmp 3] H.nx _ _) []) _ _
      clear hlt
      have d2 : (sFalse == [102, 97, 108, 115, 101]) = true := by decide
      simp only [↓bwp, bwq, yaa, yab, yac, yad, ne_eq, reduceCtorEq, Nat.reduceEqDiff, Nat.reduceAdd, Nat.reduceMul, Nat.reduceSub, Nat.reduceLeDiff, Nat.reduceLT, Int.reduceMul, Int.reduceAdd, Int.reduceSub, yae, yaf, yag, yah, yai, if_true, if_false, yaj, yak, bvq, rEq, yal, Int.reduceToNat, yam, yan, TD.agg, yao, yap, yaq, yar, yas, yat, yau, yav, splice, zhb, zhc, yaw, yax, yay, zhd, zhe, rLen, rBin, rInt, rStr, rUn, zhf, zhg, zhh, zhi, zhj, rBox, zhk, zhl, zhm, zhn, zho, zhp, zhq, zhr, zhs, zht, zhu, zhv, zhw, zhx, zhy, zhz, zia, zib, zic, bound, addL, addT, grow, room, yaz, yba, ybb, frOf, ytb6, ↓blp, blq, p_yOf, d1, d2, zji]
      simp (disch := first | assumption | omega | (simp; done) | (simp; omega) | (simp only [bt, and_true]; first | done | omega | (simp; done))) [↓zkt, beq, ybc, ybd, ybe, endOk, wk, wk2, wk1, wkM, wkL, wkLL, ybf, hcl, truthN]
    · rw [if_neg h2]
      have d2 : (s == [102, 97, 108, 115, 101]) = false := by simpa [sFalse] using h2
      refine ACalls.of_aw (Ω := [(101, Ent.pure p_yOf)]) (T := assoc []) mixed (TblOk.cons ok_yOf TblOk.nil) Try.func160 (by kernel_rfl) (by rfl) (rs := [.cell 2 73,.tmp 3]) (by rfl) (by kernel_rfl) (by simp only [Try.ntmps160, yaz, yba]; decide) (Nat.le_refl _) fun hcl hlt => ?_
      change aw _ _ _ (KI Try.prog [(101, Ent.pure p_yOf)] (aEnd Try.prog [.cell 2 73,.tmp 3] H.nx _ _) []) _ _
      clear hlt
      simp only [↓bwp, bwq, yaa, yab, yac, yad, ne_eq, reduceCtorEq, Nat.reduceEqDiff, Nat.reduceAdd, Nat.reduceMul, Nat.reduceSub, Nat.reduceLeDiff, Nat.reduceLT, Int.reduceMul, Int.reduceAdd, Int.reduceSub, yae, yaf, yag, yah, yai, if_true, if_false, yaj, yak, bvq, rEq, yal, Int.reduceToNat, yam, yan, TD.agg, yao, yap, yaq, yar, yas, yat, yau, yav, splice, zhb, zhc, yaw, yax, yay, zhd, zhe, rLen, rBin, rInt, rStr, rUn, zhf, zhg, zhh, zhi, zhj, rBox, zhk, zhl, zhm, zhn, zho, zhp, zhq, zhr, zhs, zht, zhu, zhv, zhw, zhx, zhy, zhz, zia, zib, zic, bound, addL, addT, grow, room, yaz, yba, ybb, frOf, ytb6, ↓blp, blq, p_yOf, d1, d2, zji]
      simp (disch := first | assumption | omega | (simp; done) | (simp; omega) | (simp only [bt, and_true]; first | done | omega | (simp; done))) [↓zkt, beq, ybc, ybd, ybe, endOk, wk, wk2, wk1, wkM, wkL, wkLL, ybf, hcl, truthN]
def goodL (l : List Tok) : Prop := ∀ x ∈ l, x.2.1.length ≤ 1000 ∧ (x.1 = 1 → (lit x.2.1).isSome = true)
def preP (H : AHeap) (id tb : Nat) (l : List Tok) (p : Nat) (t : List Nd) : Prop := id ≠ tb ∧ H.get tb = some (.buf 7 t.length) ∧ t.length ≤ p ∧ p ≤ l.length ∧ l.length ≤ 1000 ∧ goodL l ∧ Good t
theorem preP_set {H : AHeap} {id tb p p' : Nat} {m : Mark} {l : List Tok} {t t' : List Nd} (h : preP H id tb l p t) (hp : p' ≤ l.length) (ht : t'.length ≤ p') (hg : Good t') : preP ((H.set id (pst m l p' tb t')).set tb (.buf 7 t'.length)) id tb l p' t' := by
  obtain ⟨h1, h2, h3, h4, h5, h6, h7⟩ := h
  have htb := AHeap.get_lt h2
  refine ⟨h1, ?_, ht, hp, h5, h6, hg⟩
  rw [heap_get_set, if_pos rfl, if_pos (by simpa [zjk] using htb)]
theorem preP_set1 {H : AHeap} {id tb p p' : Nat} {o : AObj} {l : List Tok} {t : List Nd} (h : preP H id tb l p t) (hp : p' ≤ l.length) (ht : t.length ≤ p') : preP (H.set id o) id tb l p' t := by
  obtain ⟨h1, h2, h3, h4, h5, h6, h7⟩ := h
  refine ⟨h1, ?_, ht, hp, h5, h6, h7⟩
  rw [AHeap.get_set_ne _ _ (fun e => h1 e.symm)]; exact h2
def kindAt (l : List Tok) (p : Nat) : Nat := match l[p]? with
  | none => 0
  | some (k, _, _) => k
def litAt (l : List Tok) (p : Nat) : Nat := match l[p]? with
  | none => 0
  | some (_, x, _) => (lit x).getD 0
def e_yLiteral : List AV → AHeap → (AEnd → AHeap → Prop) → Prop
  | [.ptr id 0], H, K => onP (H.get id) fun m l p tb t => (preP H id tb l p t ∧ kindAt l p = 1) ∧
      K (.ret (.int .i64 (t.length : Int))) ((H.set id (pst m l (p + 1) tb (t ++ [⟨1, 0, 0, [], [], litAt l p⟩]))).set tb (.buf 7 (t.length + 1)))
  | _, _, _ => False
theorem ok_yLiteral : EntOk Try.prog 158 (Ent.effect e_yLiteral) := by
  refine EntOk.effect fun args H K h => ?_
  unfold e_yLiteral at h
  split at h
  rotate_left
  · exact h.elim
  rename_i id
  obtain ⟨m, l, p, tb, t, hg, ⟨⟨hne, htb, ht, hp, hl, hgl, hgt⟩, hk⟩, hK⟩ := h
  have hid := AHeap.get_lt hg
  have htbl := AHeap.get_lt htb
  have hcs := cells_some (cs := [.slice m 3 (toks l), .int .i64 (p : Int), .slice (.own tb) 7 (nds t)]) hg
  have f1 := far_of hid
  have f2 := far_of htbl
  have g1 : (id = tb) = False := eq_false hne
  have g2 : (tb = id) = False := eq_false fun e => hne e.symm
  have e1 : IntKind.i64.wrap ((p : Int) + 1) = ((p + 1 : Nat) : Int) := by rw [wrap_i64] <;> omega
  have hlt0 : p < l.length := by
    rcases Nat.lt_or_ge p l.length with h1 | h1
    · exact h1
    · unfold kindAt at hk; rw [List.getElem?_eq_none h1] at hk; cases hk
  rcases htk : l[p] with ⟨k, x, z⟩
  have hgd := tok_get hlt0 htk
  have hk1 : k = 1 := by unfold kindAt at hk; rw [List.getElem?_eq_getElem hlt0, htk] at hk; exact hk
  subst hk1
  have hla : litAt l p = (lit x).getD 0 := by unfold litAt; rw [List.getElem?_eq_getElem hlt0, htk]
  rw [hla] at hK
  obtain ⟨hxl, hxs⟩ := hgl l[p] (List.getElem_mem hlt0)
  rw [htk] at hxl hxs
  dsimp only at hxl hxs
  obtain ⟨n, hn⟩ := Option.isSome_iff_exists.1 (hxs rfl)
  have hn128 := lit_lt hn
  rw [hn] at hK
  dsimp only [Option.getD_some] at hK
  refine ⟨_, _, hK, ?_⟩
  clear hK
  refine ACalls.of_aw (Ω := [(47, Ent.pure p_NLiteral), (125, Ent.effect e_yFail), (84, Ent.pure p_NValue), (138, Ent.effect e_yAdd)]) (T := assoc [(1, [[], [], [], [], [], [], [], [], [], [], [], [3, 7, 10], [], [], [], [], [3, 7, 10, 11]])]) mixed (TblOk.cons ok_NLiteral (TblOk.cons ok_yFail (TblOk.cons ok_NValue (TblOk.cons ok_yAdd TblOk.nil)))) Try.func158 (by kernel_rfl) (by rfl) (rs := [.tmp 2]) (by rfl) (by kernel_rfl) (by simp only [Try.ntmps158, yaz, yba]; decide) (Nat.le_refl _) fun hcl hlt => ?_
  change aw _ _ _ (KI Try.prog [(47, Ent.pure p_NLiteral), (125, Ent.effect e_yFail), (84, Ent.pure p_NValue), (138, Ent.effect e_yAdd)] (aEnd Try.prog [.tmp 2] H.nx _ _ (assoc [(1, [[], [], [], [], [], [], [], [], [], [], [], [3, 7, 10], [], [], [], [], [3, 7, 10, 11]])])) []) _ _
  clear hlt
  have hxl' : x.length ≤ 140737488355328 := by omega
  have hv : valAV (n : Int) = .tup [.agg [.int .u64 ((n / 2 ^ 64 : Nat) : Int), .int .u64 ((n % 2 ^ 64 : Nat) : Int)], .bool true] := by
    unfold valAV
    rw [if_pos ⟨Int.natCast_nonneg n, Int.lt_of_lt_of_le (Int.ofNat_lt.2 hn128) (by decide)⟩]
    rfl
  have hn1 : isN (n : Int) := ⟨Int.le_trans (by decide) (Int.natCast_nonneg n), Int.lt_of_lt_of_le (Int.ofNat_lt.2 hn128) (by decide)⟩
  have hvo : vOf (n / 2 ^ 64) (n % 2 ^ 64) = n := vOf_back n
  have hlo : n / 2 ^ 64 < 18446744073709551616 := by omega
  have hlo2 : n % 2 ^ 64 < 18446744073709551616 := by omega
  have hx1 : (id = H.nx) = False := eq_false (by omega)
  have s1 := set_comm' (H := H) hne
  simp only [↓bwp, bwq, yaa, yab, yac, yad, ne_eq, reduceCtorEq, Nat.reduceEqDiff, Nat.reduceAdd, Nat.reduceMul, Nat.reduceSub, Nat.reduceLeDiff, Nat.reduceLT, Int.reduceMul, Int.reduceAdd, Int.reduceSub, yae, yaf, yag, yah, yai, if_true, if_false, yaj, yak, bvq, rEq, yal, Int.reduceToNat, yam, yan, TD.agg, yao, yap, yaq, yar, yas, yat, yau, yav, splice, zhb, zhc, yaw, yax, yay, zhd, zhe, rLen, rBin, rInt, rStr, rUn, zhf, zhg, zhh, zhi, zhj, rBox, zhk, zhl, zhm, zhn, zho, zhp, zhq, zhr, zhs, zht, zhu, zhv, zhw, zhx, zhy, zhz, zia, zib, zic, bound, addL, addT, grow, room, yaz, yba, ybb, frOf, ytb6, ↓blp, blq, hcs, toks_length, hgd, Int.toNat_natCast, e1, p_NLiteral, hxl', nLit, hn, hx1, nAV]
  simp only [p_NValue]
  refine ⟨by omega, n, ⟨rfl, hn1⟩, ?_⟩
  rw [hv]
  have hn0 : (0 ≤ n / 2 ^ 64) := Nat.zero_le _
  generalize hw0 : w0 (n : Int) = y0
  generalize hw1 : w1 (n : Int) = y1
  generalize hw2 : w2 (n : Int) = y2
  have hgi : ∀ o, (H.set id o).get id = some o := fun o => AHeap.get_set_same _ _ hid
  have hgt : ∀ o, (H.set id o).get tb = some (.buf 7 t.length) := fun o => by rw [AHeap.get_set_ne _ _ (fun e => hne e.symm)]; exact htb
  have hcl1 := pst_closed hg hcl (p + 1) (t ++ [⟨1, 0, 0, [], [], n⟩])
  have hcl2 : ((H.set id (pst m l (p + 1) tb (t ++ [⟨1, 0, 0, [], [], n⟩]))).set tb (.buf 7 (t.length + 1))).Closed := closed_set_buf hcl1
  simp only [blkP, ↓bwp, bwq, yaa, yab, yac, yad, ne_eq, reduceCtorEq, Nat.reduceEqDiff, Nat.reduceAdd, Nat.reduceMul, Nat.reduceSub, Nat.reduceLeDiff, Nat.reduceLT, Int.reduceMul, Int.reduceAdd, Int.reduceSub, yae, yaf, yag, yah, yai, if_true, if_false, yaj, yak, bvq, rEq, yal, Int.reduceToNat, yam, yan, TD.agg, yao, yap, yaq, yar, yas, yat, yau, yav, splice, zhb, zhc, yaw, yax, yay, zhd, zhe, rLen, rBin, rInt, rStr, rUn, zhf, zhg, zhh, zhi, zhj, rBox, zhk, zhl, zhm, zhn, zho, zhp, zhq, zhr, zhs, zht, zhu, zhv, zhw, zhx, zhy, zhz, zia, zib, zic, bound, addL, addT, grow, room, yaz, yba, ybb, frOf, ytb6, ↓blp, blq, hcs, Int.toNat_natCast, e1, hx1, f1, f2, g1, g2, cells_set hid, e_yAdd, hgi, hgt, onP_some', hvo]
  refine ⟨⟨by decide, by decide, by decide, ⟨by omega, by omega, by omega, by omega⟩, by omega⟩, ?_⟩
  simp (disch := first | assumption | omega | (simp; done) | (simp; omega) | (simp only [bt, and_true]; first | done | omega | (simp; done))) [↓zkt, beq, ybc, ybd, ybe, endOk, wk, wk2, wk1, wkM, wkL, wkLL, ybf, hcl2]
/-! ### The rules -/
def endR (m : Mark) (l : List Tok) (tb id : Nat) (H : AHeap) (K : AEnd → AHeap → Prop) (o : Option PR) : Prop := match o with
  | none => False
  | some (.ok a p t) => K (.ret (.int .i64 (a : Int))) ((H.set id (pst m l p tb t)).set tb (.buf 7 t.length))
  | some (.bad p) => K (.panic (.iface 166 (.int .i64 (p : Int)))) ((H.del id).del tb)
@[congr] theorem endR_congr {m : Mark} {l : List Tok} {tb id : Nat} {H : AHeap} {K : AEnd → AHeap → Prop} {o o' : Option PR} (h : o = o') : endR m l tb id H K o = endR m l tb id H K o' := by rw [h]
theorem endR_ok {m : Mark} {l : List Tok} {tb id a p : Nat} {t : List Nd} {H : AHeap} {K : AEnd → AHeap → Prop} : endR m l tb id H K (some (.ok a p t)) = K (.ret (.int .i64 (a : Int))) ((H.set id (pst m l p tb t)).set tb (.buf 7 t.length)) := rfl
theorem endR_bad {m : Mark} {l : List Tok} {tb id p : Nat} {H : AHeap} {K : AEnd → AHeap → Prop} : endR m l tb id H K (some (.bad p)) = K (.panic (.iface 166 (.int .i64 (p : Int)))) ((H.del id).del tb) := rfl
def e_rule (rl : Rl) (f : Nat) : List AV → AHeap → (AEnd → AHeap → Prop) → Prop
  | [.ptr id 0], H, K => onP (H.get id) fun m l p tb t => preP H id tb l p t ∧ endR m l tb id H K (run l f rl p t)
  | _, _, _ => False
theorem dd_set {H : AHeap} {i j : Nat} {x y : AObj} : (((H.set i x).set j y).del i).del j = (H.del i).del j := by
  simp only [AHeap.set, AHeap.del]
  congr 1
  funext k
  by_cases h1 : k = j
  · simp [h1]
  · by_cases h2 : k = i
    · simp [h1, h2]
    · simp [h1, h2]
theorem dd_set1 {H : AHeap} {i j : Nat} {x : AObj} : ((H.set i x).del i).del j = (H.del i).del j := by
  simp only [AHeap.set, AHeap.del]
  congr 1
  funext k
  by_cases h1 : k = j
  · simp [h1]
  · by_cases h2 : k = i
    · simp [h1, h2]
    · simp [h1, h2]
theorem dd_le {H : AHeap} {i j : Nat} : ((H.del i).del j).Le H := ⟨Nat.le_refl _, fun k x hk => by
  rw [del_get] at hk
  split at hk
  · cases hk
  · rw [del_get] at hk
    split at hk
    · cases hk
    · exact hk⟩
theorem dd_le2 {H : AHeap} {i j : Nat} {x y : AObj} : ((H.del i).del j).Le ((H.set i x).set j y) := by
  have := dd_le (H := (H.set i x).set j y) (i := i) (j := j)
  rwa [dd_set] at this
theorem dd_le1 {H : AHeap} {i j : Nat} {x : AObj} : ((H.del i).del j).Le (H.set i x) := by
  have := dd_le (H := H.set i x) (i := i) (j := j)
  rwa [dd_set1] at this
theorem dd_cl {H : AHeap} {i j : Nat} (h : H.Closed) : ((H.del i).del j).Closed := closed_del (closed_del h)
theorem pre_facts {H : AHeap} {id tb p : Nat} {m : Mark} {l : List Tok} {t : List Nd} (hg : H.get id = some (pst m l p tb t)) (h : preP H id tb l p t) (hcl : H.Closed) :
    (∀ X Y, ((H.set id X).set tb Y).get id = some X) ∧ (∀ X Y, ((H.set id X).set tb Y).get tb = some Y) ∧ (∀ X Y Z, ((H.set id X).set tb Y).set id Z = (H.set id Z).set tb Y) ∧
      (∀ p' t', ((H.set id (pst m l p' tb t')).set tb (.buf 7 t'.length)).Closed) ∧ (∀ X Y Z, ((H.set id X).set tb Y).set tb Z = (H.set id X).set tb Z) := by
  obtain ⟨h1, h2, h3, h4, h5, h6, h7⟩ := h
  have hid := AHeap.get_lt hg
  have htb := AHeap.get_lt h2
  refine ⟨fun X Y => ?_, fun X Y => ?_, fun X Y Z => ?_, fun p' t' => closed_set_buf (pst_closed hg hcl p' t'), fun X Y Z => ?_⟩
  · rw [AHeap.get_set_ne _ _ h1]; exact AHeap.get_set_same _ _ hid
  · exact AHeap.get_set_same _ _ (by simpa [zjk] using htb)
  · rw [set_comm' h1]; congr 1; simp only [AHeap.set]; congr 1; funext k; by_cases hk : k = id <;> simp [hk]
  · simp only [AHeap.set]; congr 1; funext k; by_cases hk : k = tb <;> simp [hk]
end Go.AL

