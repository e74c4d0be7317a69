/- Contracts and plain laws, a part of the proof; no condition of its own. -/
import Derived.Test.YtknhoembfohbiaaLLex
import Derived.Test.YtknhoembfohbiaaR05d
open List renaming length_cons → yaz, length_nil → yba, take_of_length_le → ybc, drop_append → ybd, take_append → ybe, drop_eq_nil_of_le → ybf, append_nil → yaj
open Go Go.AL Go.Proofs
namespace Go.AL
set_option linter.all false
set_option maxRecDepth 10000
theorem ti_xTok : ti Try.prog 33 = some ⟨.struct [(0, 3, false), (1, 9, false), (2, 3, false)], 3, 32, .agg [.int .i64 0, .str [], .int .i64 0]⟩ := by kernel_rfl
theorem ti_fTok : ti Try.prog 143 = some ⟨.struct [(0, 3, false), (1, 9, false), (2, 3, false)], 3, 32, .agg [.int .i64 0, .str [], .int .i64 0]⟩ := by kernel_rfl
theorem ti_xToks : ti Try.prog 26 = some ⟨.slice 33, 1, 24, .slice .nil 1 []⟩ := by kernel_rfl
theorem ti_fToks : ti Try.prog 43 = some ⟨.slice 143, 1, 24, .slice .nil 1 []⟩ := by kernel_rfl
theorem ti_errno : ti Try.prog 27 = some ⟨.int .i64, 1, 8, .int .i64 0⟩ := by kernel_rfl
attribute [go_sem] ti_xTok ti_fTok ti_xToks ti_fToks ti_errno
theorem both_tt {t : Bool} {A B : Prop} (e : t = true) (h : A) : both t A B := both_split (fun _ => h) (fun h => by simp [e] at h)
theorem both_ff {t : Bool} {A B : Prop} (e : t = false) (h : B) : both t A B := both_split (fun h => by simp [e] at h) (fun _ => h)
theorem cond_ff {P : Program} {Ω : Tbl} {K : Conts} {t : Bool} {a b : Code} {fr : Fr} {H : AHeap} (e : t = false) (h : aw P Ω b K fr H) : condK P Ω (.bool t) a b K fr H := cond_split (fun h => by simp [e] at h) (fun _ => h)
/-- a row of texts -/
def sAV (l : List (List UInt8)) : List AV := l.map .str
theorem sAV_length {l : List (List UInt8)} : (sAV l).length = l.length := by simp [sAV]
theorem sAV_get {l : List (List UInt8)} {i : Nat} (h : i < l.length) : (sAV l).getD i .junk = .str (l.getD i []) := by simp [sAV, List.getD_eq_getElem?_getD, h]
theorem lt_slice {n sz : Nat} {l : List AV} (h : ∀ x ∈ l, AV.lt n x) : AV.lt n (.slice .any sz l) := by
  rw [AV.lt]
  exact ⟨fun id e => (by cases e), fun j hj => h _ (List.getElem_mem hj)⟩
theorem sAV_lt {n : Nat} {l : List (List UInt8)} : AV.lt n (.slice .any 1 (sAV l)) := lt_slice fun x hx => by
  obtain ⟨s, _, rfl⟩ := List.mem_map.1 hx
  simp only [zly]
theorem symsAV : [AV.str [38, 38], .str [124, 124], .str [45, 62], .str [61, 61], .str [33, 61], .str [60, 61], .str [62, 61], .str [58, 58], .str [40], .str [41], .str [33], .str [60], .str [62], .str [43], .str [45]] = sAV syms := rfl
theorem syms_len : syms.length = 15 := rfl
/-- tokens in memory -/
def tkAV (t : Tok) : AV := .agg [.int .i64 (t.1 : Int), .str t.2.1, .int .i64 (t.2.2 : Int)]
def toks (l : List Tok) : List AV := l.map tkAV
theorem toks_length {l : List Tok} : (toks l).length = l.length := by simp [toks]
theorem toks_1 {l : List Tok} {x : List UInt8} {k : Nat} : toks l ++ [.agg [.int .i64 1, .str x, .int .i64 (k : Int)]] = toks (l ++ [(1, x, k)]) := by simp [toks, tkAV]
theorem toks_2 {l : List Tok} {x : List UInt8} {k : Nat} : toks l ++ [.agg [.int .i64 2, .str x, .int .i64 (k : Int)]] = toks (l ++ [(2, x, k)]) := by simp [toks, tkAV]
theorem toks_3 {l : List Tok} {x : List UInt8} {k : Nat} : toks l ++ [.agg [.int .i64 3, .str x, .int .i64 (k : Int)]] = toks (l ++ [(3, x, k)]) := by simp [toks, tkAV]
theorem one_tk {k1 k2 : IntKind} {a c : Int} {b : List UInt8} : (∀ z, z ∈ [AV.agg [.int k1 a, .str b, .int k2 c]] → allOne z.cells = true) = True := eq_true fun z hz => by
  rw [List.mem_singleton.1 hz]
  simp [zhm, zge, zgf, zgg, zgi]
theorem le_set_ge {H Hc : AHeap} {i : Nat} {o : AObj} (h : H.Le Hc) (hi : H.nx ≤ i) : H.Le (Hc.set i o) := ⟨h.nx, fun j x hj => by
  have := AHeap.get_lt hj
  rw [AHeap.get_set_ne _ _ (by omega)]
  exact h.get j x hj⟩
theorem toks_nil : toks [] = [] := rfl
theorem toks_lt {n : Nat} {l : List Tok} : AV.lt n (.slice .any 3 (toks l)) := lt_slice fun x hx => by
  obtain ⟨s, _, rfl⟩ := List.mem_map.1 hx
  simp only [tkAV, zmi, zml, zmm, zlw, zly, and_true]
theorem ltL_toks {n : Nat} {l : List Tok} : ltL n (toks l) := ltL_iff.2 fun j hj => by
  simp only [toks, List.getElem_map, tkAV, zmi, zml, zmm, zlw, zly, and_true]
theorem toks_lt_own {n id : Nat} {l : List Tok} (h : id < n) : AV.lt n (.slice (.own id) 3 (toks l)) := by
  rw [lt_sliceL]
  exact ⟨fun i e => by cases e; exact h, ltL_toks⟩
def scanAV (s : List UInt8) : AV := .tup [.slice .any 3 (toks (scanned s).1), .int .i64 ((scanned s).2.1 : Int), .int .i64 ((scanned s).2.2 : Int)]

def p_HasPrefix : List AV → AHeap → (AV → Prop) → Prop
  | [.str s, .str p], _, K => K (.bool (hasP s p))
  | _, _, _ => False
theorem ok_HasPrefix : EntOk Try.prog 67 (Ent.pure p_HasPrefix) := by
  refine EntOk.pure fun args H K h => ?_
  unfold p_HasPrefix at h
  split at h
  rotate_left
  · exact h.elim
  rename_i s p
  refine ⟨_, h, ?_⟩
  clear h
  refine ACalls.of_aw (Ω := [(135, Ent.pure p_HasPrefixL)]) (T := assoc []) mixed (TblOk.cons ok_HasPrefixL TblOk.nil) Try.func67 (by kernel_rfl) (by rfl) (rs := [.tmp 4]) (by rfl) (by kernel_rfl) (by simp only [Try.ntmps67, yaz, yba]; decide) (Nat.le_refl _) fun hcl hlt => ?_
  change aw _ _ _ (KI Try.prog [(135, Ent.pure p_HasPrefixL)] (aEnd Try.prog [.tmp 4] H.nx _ _) []) _ _
  clear hlt
  simp only [go_sem, reduceCtorEq, Nat.reduceEqDiff, Nat.reduceAdd, Nat.reduceMul, Nat.reduceSub, Nat.reduceLeDiff, Nat.reduceLT, Int.reduceMul, Int.reduceAdd, Int.reduceSub, Int.reduceToNat, p_HasPrefixL]
  simp (disch := first | assumption | omega | (simp; done) | (simp; omega) | (simp only [bt, and_true]; first | done | omega | (simp; done))) [↓zlf, beq, ybc, ybd, ybe, endOk, wk, wk2, wk1, wkM, wkL, wkLL, ybf, hcl]
def p_xSymbols : List AV → AHeap → (AV → Prop) → Prop
  | [], _, K => K (.slice .any 1 (sAV syms))
  | _, _, _ => False
theorem ok_xSymbols : EntOk Try.prog 136 (Ent.pure p_xSymbols) := by
  refine EntOk.pure fun args H K h => ?_
  unfold p_xSymbols at h
  split at h
  rotate_left
  · exact h.elim
  refine ⟨_, h, ?_⟩
  clear h
  refine ACalls.of_aw (Ω := []) (T := assoc []) mixed TblOk.nil Try.func136 (by kernel_rfl) (by rfl) (rs := [.tmp 0]) (by rfl) (by kernel_rfl) (by simp only [Try.ntmps136, yaz, yba]; decide) (Nat.le_refl _) fun hcl hlt => ?_
  change aw _ _ _ (KI Try.prog [] (aEnd Try.prog [.tmp 0] H.nx _ _) []) _ _
  clear hlt
  simp only [go_sem, reduceCtorEq, Nat.reduceEqDiff, Nat.reduceAdd, Nat.reduceMul, Nat.reduceSub, Nat.reduceLeDiff, Nat.reduceLT, Int.reduceMul, Int.reduceAdd, Int.reduceSub, Int.reduceToNat, symsAV]
  simp (disch := first | assumption | omega | (simp; done) | (simp; omega) | (simp only [bt, and_true]; first | done | omega | (simp; done))) [↓zlf, beq, ybc, ybd, ybe, endOk, wk, wk2, wk1, wkM, wkL, wkLL, ybf, hcl, sAV_lt]
theorem symL_cons {x : List UInt8} {l : List (List UInt8)} {s : List UInt8} : symL (x :: l) s = if hasP s x then x else symL l s := by rw [symL]
def p_xSymbol : List AV → AHeap → (AV → Prop) → Prop
  | [.str s], _, K => K (.str (symOf s))
  | _, _, _ => False
theorem ok_xSymbol : EntOk Try.prog 68 (Ent.pure p_xSymbol) := by
  refine EntOk.pure fun args H K h => ?_
  unfold p_xSymbol at h
  split at h
  rotate_left
  · exact h.elim
  rename_i s
  refine ⟨_, h, ?_⟩
  clear h
  refine ACalls.of_aw (Ω := [(136, Ent.pure p_xSymbols), (67, Ent.pure p_HasPrefix)]) (T := assoc []) mixed (TblOk.cons ok_xSymbols (TblOk.cons ok_HasPrefix TblOk.nil)) Try.func68 (by kernel_rfl) (by rfl) (rs := [.tmp 2]) (by rfl) (by kernel_rfl) (by simp only [Try.ntmps68, yaz, yba]; decide) (Nat.le_refl _) fun hcl hlt => ?_
  change aw _ _ _ (KI Try.prog [(136, Ent.pure p_xSymbols), (67, Ent.pure p_HasPrefix)] (aEnd Try.prog [.tmp 2] H.nx _ _) []) _ _
  clear hlt
  simp only [go_sem, reduceCtorEq, Nat.reduceEqDiff, Nat.reduceAdd, Nat.reduceMul, Nat.reduceSub, Nat.reduceLeDiff, Nat.reduceLT, Int.reduceMul, Int.reduceAdd, Int.reduceSub, Int.reduceToNat, p_xSymbols, sAV_length]
  refine loop_introW (A := Nat) (fun k => [(0, .str s), (5, .slice .any 1 (sAV syms)), (6, .int .i64 15), (7, .int .i64 (k : Int))]) (fun k => H) (fun k => k ≤ 15 ∧ symOf s = symL (syms.drop k) s) (fun k => 15 - k) 0 ⟨by omega, rfl⟩ ?_ fun k hk => ?_
  · (simp only [bkq, enterW, subW, ltF, ne_eq, Nat.reduceEqDiff, reduceCtorEq, sAV_lt, syms_len]; try simp (disch := first | assumption | omega | (simp; done) | (simp; omega) | (simp only [bt, and_true]; first | done | omega | (simp; done))) [↓zlf, beq, ybc, ybd, ybe, endOk, wk, wk2, wk1, wkM, wkL, wkLL, ybf, byq, biq, isDs_ints, hcl, sAV_lt, syms_len]; try (repeat' (first | assumption | omega | exact True.intro | refine And.intro ?_ ?_ | refine closed_buf ?_ | refine closed_set_buf ?_ | refine closed_cells ?_ ?_ | refine closed_set ?_ ?_ | refine closed_del ?_ | exact AHeap.Le.refl _ | refine AHeap.Le.push ?_ _ | refine AHeap.Le.del ?_ ?_ | (simp only [bt, and_true, true_and, sAV_lt, syms_len]; first | done | omega | (simp; done)))))
  obtain ⟨hk, hs⟩ := hk
  simp only [go_sem, reduceCtorEq, Nat.reduceEqDiff, Nat.reduceAdd, Nat.reduceMul, Nat.reduceSub, Nat.reduceLeDiff, Nat.reduceLT, Int.reduceMul, Int.reduceAdd, Int.reduceSub, Int.reduceToNat]
  refine cond_split (fun h1 => ?_) (fun h1 => ?_)
  · have hk2 : k < 15 := by simp at h1; omega
    have hk1 : k < syms.length := by rw [syms_len]; exact hk2
    have hg : (sAV syms).getD k .junk = .str (syms.getD k []) := sAV_get hk1
    have e5 : IntKind.i64.wrap ((k : Int) + 1) = ((k + 1 : Nat) : Int) := by rw [wrap_i64] <;> omega
    have hgk : syms.getD k [] = syms[k] := by simp [List.getD_eq_getElem?_getD, hk1]
    rw [List.drop_eq_getElem_cons hk1, symL_cons] at hs
    rw [hgk] at hg
    generalize syms[k] = x at *
    simp only [go_sem, reduceCtorEq, Nat.reduceEqDiff, Nat.reduceAdd, Nat.reduceMul, Nat.reduceSub, Nat.reduceLeDiff, Nat.reduceLT, Int.reduceMul, Int.reduceAdd, Int.reduceSub, Int.reduceToNat, Int.toNat_natCast, sAV_length, syms_len, hg, p_HasPrefix, e5]
    refine ⟨by omega, cond_split (fun h2 => ?_) (fun h2 => ?_)⟩
    · rw [if_pos h2] at hs
      simp only [go_sem, reduceCtorEq, Nat.reduceEqDiff, Nat.reduceAdd, Nat.reduceMul, Nat.reduceSub, Nat.reduceLeDiff, Nat.reduceLT, Int.reduceMul, Int.reduceAdd, Int.reduceSub, Int.reduceToNat, hs]
      simp (disch := first | assumption | omega | (simp; done) | (simp; omega) | (simp only [bt, and_true]; first | done | omega | (simp; done))) [↓zlf, beq, ybc, ybd, ybe, endOk, wk, wk2, wk1, wkM, wkL, wkLL, ybf, hcl]
    · rw [if_neg (by simp [h2])] at hs
      simp only [go_sem, reduceCtorEq, Nat.reduceEqDiff, Nat.reduceAdd, Nat.reduceMul, Nat.reduceSub, Nat.reduceLeDiff, Nat.reduceLT, Int.reduceMul, Int.reduceAdd, Int.reduceSub, Int.reduceToNat, e5]
      refine ⟨k + 1, ⟨by omega, hs⟩, by omega, ?_⟩
      (simp only [bkq, enterW, subW, ltF, ne_eq, Nat.reduceEqDiff, reduceCtorEq, sAV_lt]; try simp (disch := first | assumption | omega | (simp; done) | (simp; omega) | (simp only [bt, and_true]; first | done | omega | (simp; done))) [↓zlf, beq, ybc, ybd, ybe, endOk, wk, wk2, wk1, wkM, wkL, wkLL, ybf, byq, biq, isDs_ints, hcl, sAV_lt]; try (repeat' (first | assumption | omega | exact True.intro | refine And.intro ?_ ?_ | refine closed_buf ?_ | refine closed_set_buf ?_ | refine closed_cells ?_ ?_ | refine closed_set ?_ ?_ | refine closed_del ?_ | exact AHeap.Le.refl _ | refine AHeap.Le.push ?_ _ | refine AHeap.Le.del ?_ ?_ | (simp only [bt, and_true, true_and, sAV_lt]; first | done | omega | (simp; done)))))
  · have hk1 : k = 15 := by simp at h1; omega
    subst hk1
    have h0 : symOf s = [] := by rw [hs]; rfl
    simp only [go_sem, reduceCtorEq, Nat.reduceEqDiff, Nat.reduceAdd, Nat.reduceMul, Nat.reduceSub, Nat.reduceLeDiff, Nat.reduceLT, Int.reduceMul, Int.reduceAdd, Int.reduceSub, Int.reduceToNat, h0]
    simp (disch := first | assumption | omega | (simp; done) | (simp; omega) | (simp only [bt, and_true]; first | done | omega | (simp; done))) [↓zlf, beq, ybc, ybd, ybe, endOk, wk, wk2, wk1, wkM, wkL, wkLL, ybf, hcl]
def p_xLetter : List AV → AHeap → (AV → Prop) → Prop
  | [x], _, K => ∃ c, x = ofByte c ∧ K (.bool (isLetter c))
  | _, _, _ => False
theorem ok_xLetter : EntOk Try.prog 70 (Ent.pure p_xLetter) := by
  refine EntOk.pure fun args H K h => ?_
  unfold p_xLetter at h
  split at h
  rotate_left
  · exact h.elim
  obtain ⟨c, rfl, hK⟩ := h
  refine ⟨_, hK, ?_⟩
  clear hK
  refine ACalls.of_aw (Ω := []) (T := assoc []) mixed TblOk.nil Try.func70 (by kernel_rfl) (by rfl) (rs := [.tmp 2]) (by rfl) (by kernel_rfl) (by simp only [Try.ntmps70, yaz, yba]; decide) (Nat.le_refl _) fun hcl hlt => ?_
  change aw _ _ _ (KI Try.prog [] (aEnd Try.prog [.tmp 2] H.nx _ _) []) _ _
  clear hlt
  simp only [go_sem, reduceCtorEq, Nat.reduceEqDiff, Nat.reduceAdd, Nat.reduceMul, Nat.reduceSub, Nat.reduceLeDiff, Nat.reduceLT, Int.reduceMul, Int.reduceAdd, Int.reduceSub, Int.reduceToNat, ofByte]
  refine both_split (fun h1 => ?_) (fun h1 => ?_)
  · have e : isLetter c = decide ((c.toNat : Int) ≤ 122) := by unfold isLetter; rw [Bool.eq_iff_iff]; simp at h1 ⊢; omega
    simp only [go_sem, reduceCtorEq, Nat.reduceEqDiff, Nat.reduceAdd, Nat.reduceMul, Nat.reduceSub, Nat.reduceLeDiff, Nat.reduceLT, Int.reduceMul, Int.reduceAdd, Int.reduceSub, Int.reduceToNat, e]
    simp (disch := first | assumption | omega | (simp; done) | (simp; omega) | (simp only [bt, and_true]; first | done | omega | (simp; done))) [↓zlf, beq, ybc, ybd, ybe, endOk, wk, wk2, wk1, wkM, wkL, wkLL, ybf, hcl]
  · have e : isLetter c = false := by unfold isLetter; rw [Bool.eq_iff_iff]; simp at h1 ⊢; omega
    simp only [go_sem, reduceCtorEq, Nat.reduceEqDiff, Nat.reduceAdd, Nat.reduceMul, Nat.reduceSub, Nat.reduceLeDiff, Nat.reduceLT, Int.reduceMul, Int.reduceAdd, Int.reduceSub, Int.reduceToNat, e]
    simp (disch := first | assumption | omega | (simp; done) | (simp; omega) | (simp only [bt, and_true]; first | done | omega | (simp; done))) [↓zlf, beq, ybc, ybd, ybe, endOk, wk, wk2, wk1, wkM, wkL, wkLL, ybf, hcl]
def p_xPart : List AV → AHeap → (AV → Prop) → Prop
  | [x], _, K => ∃ c, x = ofByte c ∧ K (.bool (isPart c))
  | _, _, _ => False
theorem ok_xPart : EntOk Try.prog 137 (Ent.pure p_xPart) := by
  refine EntOk.pure fun args H K h => ?_
  unfold p_xPart at h
  split at h
  rotate_left
  · exact h.elim
  obtain ⟨c, rfl, hK⟩ := h
  refine ⟨_, hK, ?_⟩
  clear hK
  refine ACalls.of_aw (Ω := [(70, Ent.pure p_xLetter)]) (T := assoc []) mixed (TblOk.cons ok_xLetter TblOk.nil) Try.func137 (by kernel_rfl) (by rfl) (rs := [.tmp 2]) (by rfl) (by kernel_rfl) (by simp only [Try.ntmps137, yaz, yba]; decide) (Nat.le_refl _) fun hcl hlt => ?_
  change aw _ _ _ (KI Try.prog [(70, Ent.pure p_xLetter)] (aEnd Try.prog [.tmp 2] H.nx _ _) []) _ _
  clear hlt
  simp only [go_sem, reduceCtorEq, Nat.reduceEqDiff, Nat.reduceAdd, Nat.reduceMul, Nat.reduceSub, Nat.reduceLeDiff, Nat.reduceLT, Int.reduceMul, Int.reduceAdd, Int.reduceSub, Int.reduceToNat, p_xLetter]
  refine ⟨c, rfl, ?_⟩
  simp only [go_sem, reduceCtorEq, Nat.reduceEqDiff, Nat.reduceAdd, Nat.reduceMul, Nat.reduceSub, Nat.reduceLeDiff, Nat.reduceLT, Int.reduceMul, Int.reduceAdd, Int.reduceSub, Int.reduceToNat, ofByte]
  have e95 : (((c.toNat : Nat) : Int) == 95) = (c == 95) := by rw [Bool.eq_iff_iff]; simp [← UInt8.toNat_inj]; omega
  rw [e95]
  refine both_split (fun h1 => ?_) (fun h1 => ?_)
  · have e : isPart c = true := by unfold isPart; rw [h1]; rfl
    simp only [go_sem, reduceCtorEq, Nat.reduceEqDiff, Nat.reduceAdd, Nat.reduceMul, Nat.reduceSub, Nat.reduceLeDiff, Nat.reduceLT, Int.reduceMul, Int.reduceAdd, Int.reduceSub, Int.reduceToNat, e]
    simp (disch := first | assumption | omega | (simp; done) | (simp; omega) | (simp only [bt, and_true]; first | done | omega | (simp; done))) [↓zlf, beq, ybc, ybd, ybe, endOk, wk, wk2, wk1, wkM, wkL, wkLL, ybf, hcl]
  · refine both_split (fun h2 => ?_) (fun h2 => ?_)
    · have h2' : 48 ≤ c.toNat := by simp at h2; omega
      refine both_split (fun h3 => ?_) (fun h3 => ?_)
      · have h3' : c.toNat ≤ 57 := by simp at h3; omega
        have e : isPart c = true := by unfold isPart; rw [decide_eq_true h2', decide_eq_true h3']; simp
        simp only [go_sem, reduceCtorEq, Nat.reduceEqDiff, Nat.reduceAdd, Nat.reduceMul, Nat.reduceSub, Nat.reduceLeDiff, Nat.reduceLT, Int.reduceMul, Int.reduceAdd, Int.reduceSub, Int.reduceToNat, e]
        simp (disch := first | assumption | omega | (simp; done) | (simp; omega) | (simp only [bt, and_true]; first | done | omega | (simp; done))) [↓zlf, beq, ybc, ybd, ybe, endOk, wk, wk2, wk1, wkM, wkL, wkLL, ybf, hcl]
      · have h3' : ¬ c.toNat ≤ 57 := by simp at h3; omega
        have e : isPart c = (c == 95) := by unfold isPart; rw [decide_eq_false h3', h1]; simp
        simp only [go_sem, reduceCtorEq, Nat.reduceEqDiff, Nat.reduceAdd, Nat.reduceMul, Nat.reduceSub, Nat.reduceLeDiff, Nat.reduceLT, Int.reduceMul, Int.reduceAdd, Int.reduceSub, Int.reduceToNat, e]
        simp (disch := first | assumption | omega | (simp; done) | (simp; omega) | (simp only [bt, and_true]; first | done | omega | (simp; done))) [↓zlf, beq, ybc, ybd, ybe, endOk, wk, wk2, wk1, wkM, wkL, wkLL, ybf, hcl]
    · have h2' : ¬ 48 ≤ c.toNat := by simp at h2; omega
      have e : isPart c = (c == 95) := by unfold isPart; rw [decide_eq_false h2', h1]; simp
      simp only [go_sem, reduceCtorEq, Nat.reduceEqDiff, Nat.reduceAdd, Nat.reduceMul, Nat.reduceSub, Nat.reduceLeDiff, Nat.reduceLT, Int.reduceMul, Int.reduceAdd, Int.reduceSub, Int.reduceToNat, e]
      simp (disch := first | assumption | omega | (simp; done) | (simp; omega) | (simp only [bt, and_true]; first | done | omega | (simp; done))) [↓zlf, beq, ybc, ybd, ybe, endOk, wk, wk2, wk1, wkM, wkL, wkLL, ybf, hcl]
theorem wordOf_step {s : List UInt8} {k : Nat} (h : k < s.length) : wordOf (s.drop k) = if isPart (s.getD k 0) then s.getD k 0 :: wordOf (s.drop (k + 1)) else [] := by
  have e : s.getD k 0 = s[k] := by simp [List.getD_eq_getElem?_getD, h]
  rw [e, List.drop_eq_getElem_cons h]
  unfold wordOf
  by_cases hp : isPart s[k] = true
  · rw [if_pos hp, List.takeWhile_cons_of_pos hp]
  · rw [if_neg hp, List.takeWhile_cons_of_neg hp]
theorem wordOf_go {s : List UInt8} {k : Nat} (h : k < s.length) (hp : isPart (s.getD k 0) = true) (hw : wordOf s = s.take k ++ wordOf (s.drop k)) : wordOf s = s.take (k + 1) ++ wordOf (s.drop (k + 1)) := by
  have e : s.getD k 0 = s[k] := by simp [List.getD_eq_getElem?_getD, h]
  rw [wordOf_step h, if_pos hp, e] at hw
  rw [hw, List.take_succ_eq_append_getElem h, List.append_assoc]; rfl
theorem wordOf_stop {s : List UInt8} {k : Nat} (h : k < s.length) (hp : isPart (s.getD k 0) = false) (hw : wordOf s = s.take k ++ wordOf (s.drop k)) : wordOf s = s.take k := by
  rw [wordOf_step h, if_neg (by rw [hp]; decide), yaj] at hw
  exact hw
theorem wordOf_end {s : List UInt8} {k : Nat} (h : ¬ k < s.length) (hw : wordOf s = s.take k ++ wordOf (s.drop k)) : wordOf s = s.take k := by
  rw [ybf (by omega)] at hw
  simpa [wordOf] using hw
def p_xWord : List AV → AHeap → (AV → Prop) → Prop
  | [.str s], _, K => s.length ≤ 140737488355328 ∧ K (.str (wordOf s))
  | _, _, _ => False
theorem ok_xWord : EntOk Try.prog 69 (Ent.pure p_xWord) := by
  refine EntOk.pure fun args H K h => ?_
  unfold p_xWord at h
  split at h
  rotate_left
  · exact h.elim
  rename_i s
  obtain ⟨hsl, hK⟩ := h
  refine ⟨_, hK, ?_⟩
  clear hK
  refine ACalls.of_aw (Ω := [(137, Ent.pure p_xPart)]) (T := assoc []) mixed (TblOk.cons ok_xPart TblOk.nil) Try.func69 (by kernel_rfl) (by rfl) (rs := [.tmp 2]) (by rfl) (by kernel_rfl) (by simp only [Try.ntmps69, yaz, yba]; decide) (Nat.le_refl _) fun hcl hlt => ?_
  change aw _ _ _ (KI Try.prog [(137, Ent.pure p_xPart)] (aEnd Try.prog [.tmp 2] H.nx _ _) []) _ _
  clear hlt
  simp only [go_sem, reduceCtorEq, Nat.reduceEqDiff, Nat.reduceAdd, Nat.reduceMul, Nat.reduceSub, Nat.reduceLeDiff, Nat.reduceLT, Int.reduceMul, Int.reduceAdd, Int.reduceSub, Int.reduceToNat]
  refine loop_introW (A := Nat) (fun k => [(0, .str s), (3, .int .i64 (k : Int))]) (fun k => H) (fun k => k ≤ s.length ∧ wordOf s = s.take k ++ wordOf (s.drop k)) (fun k => s.length - k) 0 ⟨by omega, by simp⟩ ?_ fun k hk => ?_
  · (simp only [bkq, enterW, subW, ltF, ne_eq, Nat.reduceEqDiff, reduceCtorEq]; try simp (disch := first | assumption | omega | (simp; done) | (simp; omega) | (simp only [bt, and_true]; first | done | omega | (simp; done))) [↓zlf, beq, ybc, ybd, ybe, endOk, wk, wk2, wk1, wkM, wkL, wkLL, ybf, byq, biq, isDs_ints, hcl]; try (repeat' (first | assumption | omega | exact True.intro | refine And.intro ?_ ?_ | refine closed_buf ?_ | refine closed_set_buf ?_ | refine closed_cells ?_ ?_ | refine closed_set ?_ ?_ | refine closed_del ?_ | exact AHeap.Le.refl _ | refine AHeap.Le.push ?_ _ | refine AHeap.Le.del ?_ ?_ | (simp only [bt, and_true, true_and]; first | done | omega | (simp; done)))))
  obtain ⟨hk, hs⟩ := hk
  simp only [go_sem, reduceCtorEq, Nat.reduceEqDiff, Nat.reduceAdd, Nat.reduceMul, Nat.reduceSub, Nat.reduceLeDiff, Nat.reduceLT, Int.reduceMul, Int.reduceAdd, Int.reduceSub, Int.reduceToNat]
  refine both_split (fun h1 => ?_) (fun h1 => ?_)
  · have hk1 : k < s.length := by simp at h1; omega
    have e5 : IntKind.i64.wrap ((k : Int) + 1) = ((k + 1 : Nat) : Int) := by rw [wrap_i64] <;> omega
    simp only [go_sem, reduceCtorEq, Nat.reduceEqDiff, Nat.reduceAdd, Nat.reduceMul, Nat.reduceSub, Nat.reduceLeDiff, Nat.reduceLT, Int.reduceMul, Int.reduceAdd, Int.reduceSub, Int.reduceToNat, p_xPart, Int.toNat_natCast]
    refine ⟨by omega, s.getD k 0, rfl, ?_⟩
    refine cond_split (fun h2 => ?_) (fun h2 => ?_)
    · simp only [go_sem, reduceCtorEq, Nat.reduceEqDiff, Nat.reduceAdd, Nat.reduceMul, Nat.reduceSub, Nat.reduceLeDiff, Nat.reduceLT, Int.reduceMul, Int.reduceAdd, Int.reduceSub, Int.reduceToNat, e5]
      refine ⟨k + 1, ⟨by omega, wordOf_go hk1 h2 hs⟩, by omega, ?_⟩
      (simp only [bkq, enterW, subW, ltF, ne_eq, Nat.reduceEqDiff, reduceCtorEq]; try simp (disch := first | assumption | omega | (simp; done) | (simp; omega) | (simp only [bt, and_true]; first | done | omega | (simp; done))) [↓zlf, beq, ybc, ybd, ybe, endOk, wk, wk2, wk1, wkM, wkL, wkLL, ybf, byq, biq, isDs_ints, hcl]; try (repeat' (first | assumption | omega | exact True.intro | refine And.intro ?_ ?_ | refine closed_buf ?_ | refine closed_set_buf ?_ | refine closed_cells ?_ ?_ | refine closed_set ?_ ?_ | refine closed_del ?_ | exact AHeap.Le.refl _ | refine AHeap.Le.push ?_ _ | refine AHeap.Le.del ?_ ?_ | (simp only [bt, and_true, true_and]; first | done | omega | (simp; done)))))
    · have hw := wordOf_stop hk1 h2 hs
      simp only [go_sem, reduceCtorEq, Nat.reduceEqDiff, Nat.reduceAdd, Nat.reduceMul, Nat.reduceSub, Nat.reduceLeDiff, Nat.reduceLT, Int.reduceMul, Int.reduceAdd, Int.reduceSub, Int.reduceToNat, Int.toNat_natCast, hw]
      refine ⟨by omega, ?_⟩
      simp (disch := first | assumption | omega | (simp; done) | (simp; omega) | (simp only [bt, and_true]; first | done | omega | (simp; done))) [↓zlf, beq, ybc, ybd, ybe, endOk, wk, wk2, wk1, wkM, wkL, wkLL, ybf, hcl]
  · have hk1 : ¬ k < s.length := by simp at h1; omega
    have hw := wordOf_end hk1 hs
    try simp only [go_sem, reduceCtorEq, Nat.reduceEqDiff, Nat.reduceAdd, Nat.reduceMul, Nat.reduceSub, Nat.reduceLeDiff, Nat.reduceLT, Int.reduceMul, Int.reduceAdd, Int.reduceSub, Int.reduceToNat, Int.toNat_natCast, hw, zau]
    refine ⟨by omega, ?_⟩
    simp (disch := first | assumption | omega | (simp; done) | (simp; omega) | (simp only [bt, and_true]; first | done | omega | (simp; done))) [↓zlf, beq, ybc, ybd, ybe, endOk, wk, wk2, wk1, wkM, wkL, wkLL, ybf, hcl]
def p_xScan : List AV → AHeap → (AV → Prop) → Prop
  | [.str s], _, K => s.length ≤ 140737488355328 ∧ K (scanAV s)
  | _, _, _ => False
theorem rest_le {s : List UInt8} {k : Nat} {x : List UInt8} {kd : Nat} (h : k < s.length) (h3 : tok1 (s.drop k) = some (kd, x)) : x ≠ [] ∧ k + x.length ≤ s.length := by
  obtain ⟨g1, g2, _⟩ := tok1_text h3
  rw [List.length_drop] at g2
  exact ⟨g1, by omega⟩
theorem scan_none {s : List UInt8} {l : List Tok} (h : ¬ 400 < s.length) (e : rest s 0 = (l, none)) : scanned s = (l, 0, 0) := by unfold scanned; rw [if_neg h, e]
theorem scan_some {s : List UInt8} {l : List Tok} {k : Nat} (h : ¬ 400 < s.length) (e : rest s 0 = (l, some k)) : scanned s = ([], k, 10) := by unfold scanned; rw [if_neg h, e]
theorem tok1_none {s : List UInt8} (h : wordOf s = []) (h2 : symOf s = []) : tok1 s = none := by unfold tok1; rw [h, h2]
theorem tok1_sym {s y : List UInt8} (h : wordOf s = []) (h2 : symOf s = y) (hy : y ≠ []) : tok1 s = some (3, y) := by
  unfold tok1; rw [h, h2]; cases y with
  | nil => exact absurd rfl hy
  | cons a b => rfl
theorem tok1_let {s w : List UInt8} {c : UInt8} (h : wordOf s = c :: w) (h2 : isLetter c = true) : tok1 s = some (2, c :: w) := by unfold tok1; rw [h]; dsimp only; rw [if_pos h2]
theorem tok1_num {s w : List UInt8} {c : UInt8} {n : Nat} (h : wordOf s = c :: w) (h2 : isLetter c = false) (h3 : lit (c :: w) = some n) : tok1 s = some (1, c :: w) := by
  unfold tok1; rw [h]; dsimp only; rw [if_neg (by rw [h2]; decide), h3]; rfl
theorem tok1_bad {s w : List UInt8} {c : UInt8} (h : wordOf s = c :: w) (h2 : isLetter c = false) (h3 : lit (c :: w) = none) : tok1 s = none := by
  unfold tok1; rw [h]; dsimp only; rw [if_neg (by rw [h2]; decide), h3]; rfl
theorem fin_tok {s : List UInt8} {pre : List Tok} {k kd id : Nat} {x : List UInt8} {H Hd : AHeap} {fr : Fr} (hk : k < s.length) (hc : s[k] ≠ 32) (ht : tok1 (s.drop k) = some (kd, x)) (hpl : pre.length ≤ k)
    (hr : rest s 0 = (pre ++ (rest s k).1, (rest s k).2)) (hle : H.Le Hd) (hcd : Hd.Closed) (hid : H.nx ≤ id) (hg : Hd.get id = some (.buf 3 (pre.length + 1)))
    (f0 : Fr.get fr 0 = .str s) (f5 : Fr.get fr 5 = .slice (.own id) 3 (toks (pre ++ [(kd, x, k)]))) (f6 : Fr.get fr 6 = .int .i64 ((k + x.length : Nat) : Int)) :
    ∃ a' : Nat × List Tok × Nat × AHeap, ((a'.1 ≤ s.length ∧ a'.2.1.length ≤ a'.1 ∧ rest s 0 = (a'.2.1 ++ (rest s a'.1).1, (rest s a'.1).2)) ∧ H.Le a'.2.2.2 ∧ a'.2.2.2.Closed ∧ H.nx ≤ a'.2.2.1 ∧ a'.2.2.2.get a'.2.2.1 = some (.buf 3 a'.2.1.length)) ∧
      s.length - a'.1 < s.length - k ∧ enterW H.nx fr Hd [(0, .str s), (5, .slice (.own a'.2.2.1) 3 (toks a'.2.1)), (6, .int .i64 (a'.1 : Int))] a'.2.2.2 := by
  obtain ⟨hy1, hy2⟩ := rest_le hk ht
  have hyl : 0 < x.length := List.length_pos_iff.2 hy1
  have hid2 : id < Hd.nx := AHeap.get_lt hg
  refine ⟨(k + x.length, pre ++ [(kd, x, k)], id, Hd), ⟨⟨hy2, ?_, ?_⟩, hle, hcd, hid, ?_⟩, ?_, hle.nx, AHeap.Le.refl _, hcd, ?_, ?_⟩
  · simp; omega
  · rw [hr, rest_tok hk hc ht, List.append_assoc]; rfl
  · rw [hg]; simp
  · dsimp only; omega
  · simp only [ltF, zly, zlw, true_and, and_true]
    exact toks_lt_own hid2
  · simp [subW, wk2, wk1, wkM, f0, f5, f6]
theorem has_space {s : List UInt8} {k : Nat} (h : k < s.length) : hasP (s.drop k) [32] = (s[k] == 32) := by
  unfold hasP
  rw [List.drop_eq_getElem_cons h]
  generalize s.drop (k + 1) = r
  rw [Bool.eq_iff_iff, beq_iff_eq, beq_iff_eq]
  show [s[k]] = [32] ↔ _
  simp
set_option maxHeartbeats 2000000 in
theorem ok_xScan : EntOk Try.prog 15 (Ent.pure p_xScan) := by
  refine EntOk.pure fun args H K h => ?_
  unfold p_xScan at h
  split at h
  rotate_left
  · exact h.elim
  rename_i s
  obtain ⟨hsl, hK⟩ := h
  refine ⟨_, hK, ?_⟩
  clear hK
  refine ACalls.of_aw (Ω := [(67, Ent.pure p_HasPrefix), (68, Ent.pure p_xSymbol), (69, Ent.pure p_xWord), (70, Ent.pure p_xLetter), (71, Ent.pure p_NLiteral)]) (T := assoc []) mixed (TblOk.cons ok_HasPrefix (TblOk.cons ok_xSymbol (TblOk.cons ok_xWord (TblOk.cons ok_xLetter (TblOk.cons ok_NLiteral TblOk.nil))))) Try.func15 (by kernel_rfl) (by rfl) (rs := [.tmp 2,.tmp 3,.tmp 4]) (by rfl) (by kernel_rfl) (by simp only [Try.ntmps15, yaz, yba]; decide) (Nat.le_refl _) fun hcl hlt => ?_
  change aw _ _ _ (KI Try.prog [(67, Ent.pure p_HasPrefix), (68, Ent.pure p_xSymbol), (69, Ent.pure p_xWord), (70, Ent.pure p_xLetter), (71, Ent.pure p_NLiteral)] (aEnd Try.prog [.tmp 2,.tmp 3,.tmp 4] H.nx _ _) []) _ _
  clear hlt
  simp only [go_sem, reduceCtorEq, Nat.reduceEqDiff, Nat.reduceAdd, Nat.reduceMul, Nat.reduceSub, Nat.reduceLeDiff, Nat.reduceLT, Int.reduceMul, Int.reduceAdd, Int.reduceSub, Int.reduceToNat, scanAV]
  refine cond_split (fun h1 => ?_) (fun h1 => ?_)
  · have h1' : 400 < s.length := by simp at h1; omega
    have e : scanned s = ([], 0, 3) := by unfold scanned; rw [if_pos h1']
    simp only [go_sem, reduceCtorEq, Nat.reduceEqDiff, Nat.reduceAdd, Nat.reduceMul, Nat.reduceSub, Nat.reduceLeDiff, Nat.reduceLT, Int.reduceMul, Int.reduceAdd, Int.reduceSub, Int.reduceToNat, e, toks_nil]
    simp (disch := first | assumption | omega | (simp; done) | (simp; omega) | (simp only [bt, and_true]; first | done | omega | (simp; done))) [↓zlf, beq, ybc, ybd, ybe, endOk, wk, wk2, wk1, wkM, wkL, wkLL, ybf, hcl, lt_slice]
  have h1' : ¬ 400 < s.length := by simp at h1; omega
  simp only [go_sem, reduceCtorEq, Nat.reduceEqDiff, Nat.reduceAdd, Nat.reduceMul, Nat.reduceSub, Nat.reduceLeDiff, Nat.reduceLT, Int.reduceMul, Int.reduceAdd, Int.reduceSub, Int.reduceToNat]
  refine loop_introW (A := Nat × List Tok × Nat × AHeap) (fun a => [(0, .str s), (5, .slice (.own a.2.2.1) 3 (toks a.2.1)), (6, .int .i64 (a.1 : Int))]) (fun a => a.2.2.2)
    (fun a => (a.1 ≤ s.length ∧ a.2.1.length ≤ a.1 ∧ rest s 0 = (a.2.1 ++ (rest s a.1).1, (rest s a.1).2)) ∧ H.Le a.2.2.2 ∧ a.2.2.2.Closed ∧ H.nx ≤ a.2.2.1 ∧ a.2.2.2.get a.2.2.1 = some (.buf 3 a.2.1.length))
    (fun a => s.length - a.1) (0, [], H.nx + 1, (H.push (.buf 3 0)).push (.buf 3 0)) ⟨⟨by omega, by simp, by simp⟩, ?_, ?_, by simp, ?_⟩ ?_ fun a ha => ?_
  · simp (disch := first | assumption | omega | (simp; done) | (simp; omega) | (simp only [bt, and_true]; first | done | omega | (simp; done))) [↓zlf, beq, ybc, ybd, ybe, endOk, wk, wk2, wk1, wkM, wkL, wkLL, ybf, hcl]
  · (repeat' (first | assumption | omega | exact True.intro | refine And.intro ?_ ?_ | refine closed_buf ?_ | refine closed_set_buf ?_ | refine closed_cells ?_ ?_ | refine closed_set ?_ ?_ | refine closed_del ?_ | exact AHeap.Le.refl _ | refine AHeap.Le.push ?_ _ | refine AHeap.Le.del ?_ ?_ | (simp only [bt, and_true, true_and]; first | done | omega | (simp; done))))
  · exact AHeap.get_push_new _ _
  · (simp only [bkq, enterW, subW, ltF, ne_eq, Nat.reduceEqDiff, reduceCtorEq, toks_nil]; try simp (disch := first | assumption | omega | (simp; done) | (simp; omega) | (simp only [bt, and_true]; first | done | omega | (simp; done))) [↓zlf, beq, ybc, ybd, ybe, endOk, wk, wk2, wk1, wkM, wkL, wkLL, ybf, byq, biq, isDs_ints, hcl, toks_nil]; try (repeat' (first | assumption | omega | exact True.intro | refine And.intro ?_ ?_ | refine closed_buf ?_ | refine closed_set_buf ?_ | refine closed_cells ?_ ?_ | refine closed_set ?_ ?_ | refine closed_del ?_ | exact AHeap.Le.refl _ | refine AHeap.Le.push ?_ _ | refine AHeap.Le.del ?_ ?_ | (simp only [bt, and_true, true_and, toks_nil]; first | done | omega | (simp; done)))))
  obtain ⟨k, pre, id, Hc⟩ := a
  obtain ⟨⟨hk, hpl, hr⟩, hle, hcc, hid, hst⟩ := ha
  dsimp only at hk hpl hr hle hcc hid hst ⊢
  have hnx : H.nx ≤ Hc.nx := hle.nx
  have hid2 : id < Hc.nx := AHeap.get_lt hst
  simp only [go_sem, reduceCtorEq, Nat.reduceEqDiff, Nat.reduceAdd, Nat.reduceMul, Nat.reduceSub, Nat.reduceLeDiff, Nat.reduceLT, Int.reduceMul, Int.reduceAdd, Int.reduceSub, Int.reduceToNat]
  refine cond_split (fun h2 => ?_) (fun h2 => ?_)
  · have hk1 : k < s.length := by simp at h2; omega
    have e5 : IntKind.i64.wrap ((k : Int) + 1) = ((k + 1 : Nat) : Int) := by rw [wrap_i64] <;> omega
    simp only [go_sem, reduceCtorEq, Nat.reduceEqDiff, Nat.reduceAdd, Nat.reduceMul, Nat.reduceSub, Nat.reduceLeDiff, Nat.reduceLT, Int.reduceMul, Int.reduceAdd, Int.reduceSub, Int.reduceToNat, p_HasPrefix, Int.toNat_natCast, List.take_length]
    refine ⟨by omega, cond_split (fun h3 => ?_) (fun h3 => ?_)⟩
    · have hc : s[k] = 32 := by rw [has_space hk1] at h3; simpa using h3
      rw [rest_space hk1 hc] at hr
      simp only [go_sem, reduceCtorEq, Nat.reduceEqDiff, Nat.reduceAdd, Nat.reduceMul, Nat.reduceSub, Nat.reduceLeDiff, Nat.reduceLT, Int.reduceMul, Int.reduceAdd, Int.reduceSub, Int.reduceToNat, e5]
      refine ⟨(k + 1, pre, id, Hc), ⟨⟨by dsimp only; omega, by dsimp only; omega, hr⟩, hle, hcc, hid, hst⟩, by dsimp only; omega, ?_⟩
      (simp only [bkq, enterW, subW, ltF, ne_eq, Nat.reduceEqDiff, reduceCtorEq, hcc, hnx, hid2]; try simp (disch := first | assumption | omega | (simp; done) | (simp; omega) | (simp only [bt, and_true]; first | done | omega | (simp; done))) [↓zlf, beq, ybc, ybd, ybe, endOk, wk, wk2, wk1, wkM, wkL, wkLL, ybf, byq, biq, isDs_ints, hcl, hcc, hnx, hid2]; try (repeat' (first | assumption | omega | exact True.intro | refine And.intro ?_ ?_ | refine closed_buf ?_ | refine closed_set_buf ?_ | refine closed_cells ?_ ?_ | refine closed_set ?_ ?_ | refine closed_del ?_ | exact AHeap.Le.refl _ | refine AHeap.Le.push ?_ _ | refine AHeap.Le.del ?_ ?_ | (simp only [bt, and_true, true_and, hcc, hnx, hid2]; first | done | omega | (simp; done)))))
      exact toks_lt_own hid2
    have n1 : (id = Hc.nx) = False := eq_false (by omega)
    have n2 : (id = Hc.nx + 1) = False := eq_false (by omega)
    have n3 : (id = Hc.nx + 1 + 1) = False := eq_false (by omega)
    have hc : s[k] ≠ 32 := by rw [has_space hk1] at h3; simpa using h3
    have hsd : (s.drop k).length ≤ 400 := by rw [List.length_drop]; omega
    simp only [go_sem, reduceCtorEq, Nat.reduceEqDiff, Nat.reduceAdd, Nat.reduceMul, Nat.reduceSub, Nat.reduceLeDiff, Nat.reduceLT, Int.reduceMul, Int.reduceAdd, Int.reduceSub, Int.reduceToNat, p_xSymbol, p_xWord]
    refine ⟨by omega, ?_⟩
    cases hw : wordOf (s.drop k) with
    | nil =>
      have en : (([] : List UInt8) != []) = false := rfl
      rcases Classical.em (symOf (s.drop k) = []) with hy | hy
      · have htk := tok1_none hw hy
        rw [rest_bad hk1 hc htk, yaj] at hr
        have hsc := scan_some h1' hr
        have eb : (([] : List UInt8) == []) = true := rfl
        simp only [go_sem, reduceCtorEq, Nat.reduceEqDiff, Nat.reduceAdd, Nat.reduceMul, Nat.reduceSub, Nat.reduceLeDiff, Nat.reduceLT, Int.reduceMul, Int.reduceAdd, Int.reduceSub, Int.reduceToNat, hsc, hy, en, eb, zau, zat, toks_nil]
        simp (disch := first | assumption | omega | (simp; done) | (simp; omega) | (simp only [bt, and_true]; first | done | omega | (simp; done))) [↓zlf, beq, ybc, ybd, ybe, endOk, wk, wk2, wk1, wkM, wkL, wkLL, ybf, hcc, hle, hcl]
        exact (hle.push _).push _
      · have htk := tok1_sym hw rfl hy
        have eb : (symOf (s.drop k) == []) = false := by simpa using hy
        have eb0 : (([] : List UInt8) == []) = true := rfl
        obtain ⟨hy1, hy2⟩ := rest_le hk1 htk
        generalize symOf (s.drop k) = y at *
        have e6 : IntKind.i64.wrap ((k : Int) + (y.length : Int)) = ((k + y.length : Nat) : Int) := by rw [wrap_i64] <;> omega
        simp only [go_sem, reduceCtorEq, Nat.reduceEqDiff, Nat.reduceAdd, Nat.reduceMul, Nat.reduceSub, Nat.reduceLeDiff, Nat.reduceLT, Int.reduceMul, Int.reduceAdd, Int.reduceSub, Int.reduceToNat, en, eb, eb0, zau, zat, n1, n2, hst, toks_length, toks_3, e6, one_tk]
        refine ⟨by omega, fin_tok hk1 hc htk hpl hr (((le_set_ge hle hid).push _).push _) ?_ hid ?_ rfl rfl rfl⟩
        · exact closed_buf (closed_cells (closed_set_buf hcc) (by simp [zml, zmm, zlw, zly]))
        · rw [AHeap.get_push_lt _ _ (by simp [AHeap.push, AHeap.set]; omega), AHeap.get_push_lt _ _ (by simp [AHeap.set]; omega), AHeap.get_set_same _ _ hid2]
    | cons c w =>
      have en : ((c :: w) != []) = true := rfl
      have eb : ((c :: w) == []) = false := rfl
      simp only [go_sem, reduceCtorEq, Nat.reduceEqDiff, Nat.reduceAdd, Nat.reduceMul, Nat.reduceSub, Nat.reduceLeDiff, Nat.reduceLT, Int.reduceMul, Int.reduceAdd, Int.reduceSub, Int.reduceToNat, en, eb, zat, p_xLetter]
      refine ⟨by omega, c, rfl, ?_⟩
      cases hlc : isLetter c with
      | true =>
        have htk := tok1_let hw hlc
        obtain ⟨_, hy2⟩ := rest_le hk1 htk
        have e6 : IntKind.i64.wrap ((k : Int) + ((w.length + 1 : Nat) : Int)) = ((k + (c :: w).length : Nat) : Int) := by
          rw [yaz] at hy2 ⊢
          rw [wrap_i64] <;> omega
        simp only [go_sem, reduceCtorEq, Nat.reduceEqDiff, Nat.reduceAdd, Nat.reduceMul, Nat.reduceSub, Nat.reduceLeDiff, Nat.reduceLT, Int.reduceMul, Int.reduceAdd, Int.reduceSub, Int.reduceToNat, en, eb, zau, zat, n1, n2, hst, toks_length, toks_2, e6, one_tk]
        refine ⟨by omega, fin_tok hk1 hc htk hpl hr (((le_set_ge hle hid).push _).push _) ?_ hid ?_ rfl rfl rfl⟩
        · exact closed_buf (closed_cells (closed_set_buf hcc) (by simp [zml, zmm, zlw, zly]))
        · rw [AHeap.get_push_lt _ _ (by simp [AHeap.push, AHeap.set]; omega), AHeap.get_push_lt _ _ (by simp [AHeap.set]; omega), AHeap.get_set_same _ _ hid2]
      | false =>
        have hcw : (c :: w).length ≤ 400 := by rw [← hw]; exact Nat.le_trans (List.takeWhile_sublist _).length_le hsd
        simp only [go_sem, reduceCtorEq, Nat.reduceEqDiff, Nat.reduceAdd, Nat.reduceMul, Nat.reduceSub, Nat.reduceLeDiff, Nat.reduceLT, Int.reduceMul, Int.reduceAdd, Int.reduceSub, Int.reduceToNat, en, eb, zau, zat, p_NLiteral]
        cases hli : lit (c :: w) with
        | none =>
          have htk := tok1_bad hw hlc hli
          rw [rest_bad hk1 hc htk, yaj] at hr
          have hsc := scan_some h1' hr
          simp only [go_sem, reduceCtorEq, Nat.reduceEqDiff, Nat.reduceAdd, Nat.reduceMul, Nat.reduceSub, Nat.reduceLeDiff, Nat.reduceLT, Int.reduceMul, Int.reduceAdd, Int.reduceSub, Int.reduceToNat, hsc, nLit, nAV, zau, zat, toks_nil]
          refine ⟨by simp only [yaz] at hcw; omega, ?_⟩
          simp (disch := first | assumption | omega | (simp; done) | (simp; omega) | (simp only [bt, and_true]; first | done | omega | (simp; done))) [↓zlf, beq, ybc, ybd, ybe, endOk, wk, wk2, wk1, wkM, wkL, wkLL, ybf, hcc, hle, hcl]
          exact ((hle.push _).push _).push _
        | some n =>
          have htk := tok1_num hw hlc hli
          obtain ⟨_, hy2⟩ := rest_le hk1 htk
          have e6 : IntKind.i64.wrap ((k : Int) + ((w.length + 1 : Nat) : Int)) = ((k + (c :: w).length : Nat) : Int) := by
            rw [yaz] at hy2 ⊢
            rw [wrap_i64] <;> omega
          simp only [go_sem, reduceCtorEq, Nat.reduceEqDiff, Nat.reduceAdd, Nat.reduceMul, Nat.reduceSub, Nat.reduceLeDiff, Nat.reduceLT, Int.reduceMul, Int.reduceAdd, Int.reduceSub, Int.reduceToNat, nLit, nAV, zau, zat, n1, n2, n3, eb, hst, toks_length, toks_1, e6, one_tk]
          refine ⟨by simp only [yaz] at hcw; omega, by omega, fin_tok hk1 hc htk hpl hr ((((le_set_ge hle hid).push _).push _).push _) ?_ hid ?_ rfl rfl rfl⟩
          · exact closed_buf (closed_cells (closed_cells (closed_set_buf hcc) (by simp [zml, zmm, zlw, zly])) (by simp [zml, zmm, zlw, zly]))
          · rw [AHeap.get_push_lt _ _ (by simp [AHeap.push, AHeap.set]; omega), AHeap.get_push_lt _ _ (by simp [AHeap.push, AHeap.set]; omega), AHeap.get_push_lt _ _ (by simp [AHeap.set]; omega), AHeap.get_set_same _ _ hid2]
  · have hk1 : s.length ≤ k := by simp at h2; omega
    rw [rest_end hk1, yaj] at hr
    have hsc := scan_none h1' hr
    simp only [go_sem, reduceCtorEq, Nat.reduceEqDiff, Nat.reduceAdd, Nat.reduceMul, Nat.reduceSub, Nat.reduceLeDiff, Nat.reduceLT, Int.reduceMul, Int.reduceAdd, Int.reduceSub, Int.reduceToNat, hsc]
    simp (disch := first | assumption | omega | (simp; done) | (simp; omega) | (simp only [bt, and_true]; first | done | omega | (simp; done))) [↓zlf, beq, ybc, ybd, ybe, endOk, wk, wk2, wk1, wkM, wkL, wkLL, ybf, hcc, hle, toks_lt, hcl]
end Go.AL

