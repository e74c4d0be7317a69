/- Contracts and plain laws, a part of the proof; no condition of its own. -/
import Derived.Test.YthpglnacipgolaaGreatW03l
open List renaming length_cons → yaz, length_nil → yba, take_succ_cons → yaq, take_zero → yar, drop_succ_cons → yao, drop_zero → yap
open Go Go.AL Go.Proofs
namespace Go.AL
set_option linter.all false
set_option maxRecDepth 10000
theorem ti_u8s : ti Tryz.prog 32 = some ⟨.slice 5, 1, 24, .slice .nil 1 []⟩ := by kernel_rfl
attribute [go_sem] ti_u8s
def begS : Sch := ⟨[], [], [], [], [], [], [], [], 1, 2⟩
theorem begS_enc : encO begS = ([0, 1, 0, 2, 0, 0, 0, 0, 0, 0, 0, 0, 0, 0, 0, 0, 0, 0, 0, 0], 0) := by decide +kernel
theorem begS_len : (eSch begS).b.length ≤ encMax := by decide +kernel
theorem begS_ok : OkSch begS := ⟨by simp [begS], by simp [begS], by simp [begS], by simp [begS], by simp [begS], by simp [begS]⟩
def p_begun03 : List AV → AHeap → (AV → Prop) → Prop
  | [], _, K => K (.bool true)
  | _, _, _ => False
set_option maxHeartbeats 2000000 in
theorem ok_begun03 : EntOk Tryz.prog 13 (Ent.pure p_begun03) := by
  refine EntOk.pure fun args H K h => ?_
  unfold p_begun03 at h
  split at h
  rotate_left
  · exact h.elim
  refine ⟨_, h, ?_⟩
  clear h
  refine ACalls.of_aw (Ω := [(17, Ent.pure p_zEnc)]) (T := assoc [(802, [[100005]]), (1, [[4]])]) mixed (TblOk.cons ok_zEnc TblOk.nil) Tryz.func13 (by kernel_rfl) (by rfl) (rs := [.tmp 0]) (by rfl) (by kernel_rfl) (by simp only [Tryz.ntmps13, yaz, yba]; decide) (Nat.le_refl _) fun hcl hlt => ?_
  change aw _ _ _ (KI Tryz.prog [(17, Ent.pure p_zEnc)] (aEnd Tryz.prog [.tmp 0] H.nx _ _ (assoc [(802, [[100005]]), (1, [[4]])])) []) _ _
  clear hlt
  simp only [bhq, Nat.reduceMod, Nat.reduceDiv, stepH, stepM, toMs1, toMs, toMs0, strK, pubK, pubF, pubV, yaq, yar, yao, yap, go_sem, reduceCtorEq, Nat.reduceEqDiff, Nat.reduceAdd, Nat.reduceMul, Nat.reduceSub, Nat.reduceLeDiff, Nat.reduceLT, Int.reduceMul, Int.reduceAdd, Int.reduceSub, Int.reduceToNat, byq]
  refine weak_slot 4 (.agg (schC begS)) ?_ ?_
  · simp [Fr.get, schC, begS, wkD_agg, wkD_slice, wkDL_cons, wkDL_nil, wkDR_cons, wkDR_nil, wkD_int, wkM]
  simp only [bhq, Nat.reduceMod, Nat.reduceDiv, stepH, stepM, toMs1, toMs, toMs0, strK, pubK, pubF, pubV, yaq, yar, yao, yap, go_sem, reduceCtorEq, Nat.reduceEqDiff, Nat.reduceAdd, Nat.reduceMul, Nat.reduceSub, Nat.reduceLeDiff, Nat.reduceLT, Int.reduceMul, Int.reduceAdd, Int.reduceSub, Int.reduceToNat, byq, p_zEnc, pEnc]
  refine ⟨begS, ⟨rfl, begS_ok, begS_len⟩, ?_⟩
  rw [begS_enc]
  simp only [go_sem, reduceCtorEq, Nat.reduceEqDiff, Nat.reduceAdd, Nat.reduceMul, Nat.reduceSub, Nat.reduceLeDiff, Nat.reduceLT, Int.reduceMul, Int.reduceAdd, Int.reduceSub, Int.reduceToNat, byq, Int.reduceBEq]
  rw [show rowsOf 1 16 (bys (List.replicate 16 0)) = bys (List.replicate 16 0) from rfl]
  refine ⟨by decide, fun y hy => ?_, by decide, ?_⟩
  · obtain ⟨c, _, rfl⟩ := List.mem_map.1 (show y ∈ (List.replicate 16 (0 : UInt8)).map ofByte from hy)
    exact ⟨_, rfl⟩
  · refine ⟨?_, by repeat (first | exact AHeap.Le.refl _ | refine AHeap.Le.push ?_ _), hcl, ?_⟩
    · simp only [wk, wk2, wk1]; rfl
    · simp [zna]
end Go.AL


open Go Go.AL Go.Proofs
namespace Go.AL
set_option linter.all false
set_option maxRecDepth 10000
theorem ti_fsAct : ti Tryz.prog 25 = some ⟨.slice 53, 1, 24, .slice .nil 1 []⟩ := by kernel_rfl
theorem ti_fsTab : ti Tryz.prog 26 = some ⟨.slice 49, 1, 24, .slice .nil 1 []⟩ := by kernel_rfl
theorem ti_fsRol : ti Tryz.prog 28 = some ⟨.slice 125, 1, 24, .slice .nil 1 []⟩ := by kernel_rfl
theorem ti_fsFld : ti Tryz.prog 22 = some ⟨.slice 76, 1, 24, .slice .nil 1 []⟩ := by kernel_rfl
theorem ti_fsPar : ti Tryz.prog 50 = some ⟨.slice 122, 1, 24, .slice .nil 1 []⟩ := by kernel_rfl
theorem ti_fsRef : ti Tryz.prog 29 = some ⟨.slice 120, 1, 24, .slice .nil 1 []⟩ := by kernel_rfl
theorem ti_fsPrm : ti Tryz.prog 51 = some ⟨.slice 129, 1, 24, .slice .nil 1 []⟩ := by kernel_rfl
theorem ti_fsStg : ti Tryz.prog 27 = some ⟨.slice 78, 1, 24, .slice .nil 1 []⟩ := by kernel_rfl
theorem ti_fsInt : ti Tryz.prog 46 = some ⟨.slice 3, 1, 24, .slice .nil 1 []⟩ := by kernel_rfl
theorem ti_xact : ti Tryz.prog 53 = some ⟨.struct [(0, 3, false), (1, 9, false), (2, 50, false), (3, 51, false), (4, 9, false)], 5, 88, .agg [.int .i64 0, .str [], .slice .nil 1 [], .slice .nil 1 [], .str []]⟩ := by kernel_rfl
theorem ti_xtab : ti Tryz.prog 49 = some ⟨.struct [(0, 3, false), (1, 9, false), (2, 45, false), (3, 46, false), (4, 3, false), (5, 47, false), (6, 3, false), (7, 9, false)], 8, 128, .agg [.int .i64 0, .str [], .slice .nil 1 [], .slice .nil 1 [], .int .i64 0, .slice .nil 1 [], .int .i64 0, .str []]⟩ := by kernel_rfl
theorem ti_xrol : ti Tryz.prog 125 = some ⟨.struct [(0, 3, false), (1, 9, false), (2, 123, false), (3, 46, false), (4, 3, false), (5, 4, false)], 6, 88, .agg [.int .i64 0, .str [], .slice .nil 1 [], .slice .nil 1 [], .int .i64 0, .bool false]⟩ := by kernel_rfl
theorem ti_xfld : ti Tryz.prog 76 = some ⟨.struct [(0, 3, false), (1, 9, false), (2, 3, false)], 3, 32, .agg [.int .i64 0, .str [], .int .i64 0]⟩ := by kernel_rfl
theorem ti_xpar : ti Tryz.prog 122 = some ⟨.struct [(0, 9, false), (1, 3, false)], 2, 24, .agg [.str [], .int .i64 0]⟩ := by kernel_rfl
theorem ti_xprm : ti Tryz.prog 129 = some ⟨.struct [(0, 3, false), (1, 3, false), (2, 127, false)], 6, 48, .agg [.int .i64 0, .int .i64 0, .int .i64 0, .int .i64 0, .int .u64 0, .int .u64 0]⟩ := by kernel_rfl
theorem ti_xopd : ti Tryz.prog 127 = some ⟨.struct [(0, 3, false), (1, 3, false), (2, 83, false)], 4, 32, .agg [.int .i64 0, .int .i64 0, .int .u64 0, .int .u64 0]⟩ := by kernel_rfl
theorem ti_xref : ti Tryz.prog 120 = some ⟨.struct [(0, 3, false), (1, 3, false), (2, 3, false), (3, 3, false), (4, 3, false), (5, 3, false)], 6, 48, .agg [.int .i64 0, .int .i64 0, .int .i64 0, .int .i64 0, .int .i64 0, .int .i64 0]⟩ := by kernel_rfl
theorem ti_xstg : ti Tryz.prog 78 = some ⟨.struct [(0, 3, false), (1, 3, false)], 2, 16, .agg [.int .i64 0, .int .i64 0]⟩ := by kernel_rfl
attribute [go_sem] ti_fsAct ti_fsTab ti_fsRol ti_fsFld ti_fsPar ti_fsRef ti_fsPrm ti_fsStg ti_fsInt ti_xact ti_xtab ti_xrol ti_xfld ti_xpar ti_xprm ti_xopd ti_xref ti_xstg
end Go.AL


open Go Go.AL Go.Proofs
namespace Go.AL
set_option linter.all false
set_option maxRecDepth 10000

/-! ### How long an encoding can be -/
theorem wValue_len3 {v : Nat} (h : v < 2 ^ 128) : (wValue v).length ≤ 17 := by
  unfold wValue
  rw [yaz, vBytes_len]
  have := vLen_le h
  omega
theorem lenNum (n w : Int) : (eNum n w).b.length ≤ 4 := wUint_len n w
theorem lenTxt (s : List UInt8) (m : Int) : (eTxt s m).b.length ≤ 65537 := wBytes_len s
theorem lenVal {v : Nat} (h : okVal v) : (eVal v).b.length ≤ 17 := wValue_len3 h
theorem lenTru (x : Bool) : (eTru x).b.length ≤ 1 := by simp [eTru]
theorem lenAll {α : Type} {g : α → Enc} {B : Nat} : ∀ {l : List α}, (∀ a ∈ l, (g a).b.length ≤ B) → (eAll g l).b.length ≤ l.length * B
  | [], _ => Nat.zero_le _
  | x :: l, h => by
    rw [eAll, enc_len, yaz, Nat.succ_mul]
    have := h x List.mem_cons_self
    have := lenAll (l := l) fun a ha => h a (List.mem_cons_of_mem _ ha)
    omega
theorem lenList {α : Type} {g : α → Enc} {m : Int} {n B : Nat} {l : List α} (hl : l.length ≤ n) (h : ∀ a ∈ l, (g a).b.length ≤ B) : (eList g m l).b.length ≤ 4 + n * B := by
  unfold eList eCnt
  rw [enc_len]
  have h1 := lenAll h
  have h2 := wUint_len (l.length : Int) 2
  have h3 : l.length * B ≤ n * B := Nat.mul_le_mul_right _ hl
  dsimp only
  omega
/-- a schema whose lists are not too long -/
structure SmP (N R : Nat) (x : Sch) : Prop where
  f : x.fields.length ≤ N ∧ ∀ a ∈ x.fields, okTx a.name
  h : x.headers.length ≤ N ∧ ∀ a ∈ x.headers, okTx a.name ∧ a.fields.length ≤ R
  s : x.states.length ≤ N ∧ ∀ a ∈ x.states, a.cases.length ≤ R ∧ ∀ c ∈ a.cases, okCase c
  a : x.actions.length ≤ N ∧ ∀ a ∈ x.actions, okAction a ∧ a.params.length ≤ R ∧ a.body.length ≤ R
  t : x.tables.length ≤ N ∧ ∀ a ∈ x.tables, okTable a ∧ a.keys.length ≤ R ∧ a.actions.length ≤ R ∧ a.dargs.length ≤ R
  g : x.stages.length ≤ R
  r : x.roles.length ≤ N ∧ ∀ a ∈ x.roles, okTx a.name ∧ a.grants.length ≤ R ∧ a.actions.length ≤ R ∧ ∀ q ∈ a.grants, q.keys.length ≤ R
  x : x.refs.length ≤ R
theorem SmP.ok {N R : Nat} {x : Sch} (h : SmP N R x) : OkSch x :=
  ⟨h.f.2, fun a ha => (h.h.2 a ha).1, fun a ha => (h.s.2 a ha).2, fun a ha => (h.a.2 a ha).1, fun a ha => (h.t.2 a ha).1, fun a ha => (h.r.2 a ha).1⟩
theorem SmP.mono {N R N' R' : Nat} {x : Sch} (h : SmP N R x) (hN : N ≤ N') (hR : R ≤ R') : SmP N' R' x where
  f := ⟨Nat.le_trans h.f.1 hN, h.f.2⟩
  h := ⟨Nat.le_trans h.h.1 hN, fun a ha => ⟨(h.h.2 a ha).1, Nat.le_trans (h.h.2 a ha).2 hR⟩⟩
  s := ⟨Nat.le_trans h.s.1 hN, fun a ha => ⟨Nat.le_trans (h.s.2 a ha).1 hR, (h.s.2 a ha).2⟩⟩
  a := ⟨Nat.le_trans h.a.1 hN, fun a ha => ⟨(h.a.2 a ha).1, Nat.le_trans (h.a.2 a ha).2.1 hR, Nat.le_trans (h.a.2 a ha).2.2 hR⟩⟩
  t := ⟨Nat.le_trans h.t.1 hN, fun a ha => ⟨(h.t.2 a ha).1, Nat.le_trans (h.t.2 a ha).2.1 hR, Nat.le_trans (h.t.2 a ha).2.2.1 hR, Nat.le_trans (h.t.2 a ha).2.2.2 hR⟩⟩
  g := Nat.le_trans h.g hR
  r := ⟨Nat.le_trans h.r.1 hN, fun a ha => ⟨(h.r.2 a ha).1, Nat.le_trans (h.r.2 a ha).2.1 hR, Nat.le_trans (h.r.2 a ha).2.2.1 hR, fun q hq => Nat.le_trans ((h.r.2 a ha).2.2.2 q hq) hR⟩⟩
  x := Nat.le_trans h.x hR
theorem SmP.len {x : Sch} (h : SmP 50 1100000 x) : (eSch x).b.length ≤ encMax := by
  have e1 : (eList eField 32 x.fields).b.length ≤ 4 + 50 * 65545 := lenList h.f.1 fun a _ => by
    unfold eField; rw [enc_len, enc_len]
    have := lenNum a.id 2; have := lenTxt a.name 24; have := lenNum a.bits 1; omega
  have e2 : (eList eHeader 8 x.headers).b.length ≤ 4 + 50 * (65545 + 1100000 * 4) := lenList h.h.1 fun a ha => by
    unfold eHeader; rw [enc_len, enc_len]
    have := lenNum a.id 2; have := lenTxt a.name 24
    have := lenList (g := eInt) (m := 32) (h.h.2 a ha).2 (B := 4) fun n _ => lenNum n 2
    omega
  have e3 : (eList eState 12 x.states).b.length ≤ 4 + 50 * (20 + 1100000 * 38) := lenList h.s.1 fun a ha => by
    unfold eState; rw [enc_len, enc_len, enc_len, enc_len]
    have := lenNum a.id 2; have := lenNum a.header 2; have := lenNum a.select 2; have := lenNum a.dflt 2
    have := lenList (g := eCase) (m := 6) (h.s.2 a ha).1 (B := 38) fun c hc => by
      unfold eCase; rw [enc_len, enc_len]
      have := lenVal ((h.s.2 a ha).2 c hc).1; have := lenVal ((h.s.2 a ha).2 c hc).2; have := lenNum c.next 2; omega
    omega
  have e4 : (eList eAction 12 x.actions).b.length ≤ 4 + 50 * (131086 + 1100000 * 65541 + 1100000 * 33) := lenList h.a.1 fun a ha => by
    unfold eAction; rw [enc_len, enc_len, enc_len, enc_len]
    obtain ⟨h1, h2, h3⟩ := h.a.2 a ha
    have := lenNum a.id 2; have := lenTxt a.name 24; have := lenTxt a.restr 400
    have := lenList (g := eParam) (m := 4) h2 (B := 65541) fun c hc => by
      unfold eParam; rw [enc_len]
      have := lenTxt c.name 24; have := lenNum c.bits 1; omega
    have := lenList (g := ePrim) (m := 12) h3 (B := 33) fun c hc => by
      unfold ePrim; rw [enc_len, enc_len, enc_len, enc_len]
      have := lenNum c.op 1; have := lenNum c.dst 2; have := lenNum c.kind 1; have := lenNum c.n 2; have := lenVal (h1.2.2.1 c hc); omega
    omega
  have e5 : (eList eTable 8 x.tables).b.length ≤ 4 + 50 * (131098 + 1100000 * 65545 + 1100000 * 4 + 1100000 * 17) := lenList h.t.1 fun a ha => by
    unfold eTable; simp only [enc_len]
    obtain ⟨h1, h2, h3, h4⟩ := h.t.2 a ha
    have := lenNum a.id 2; have := lenTxt a.name 24; have := lenTxt a.restr 400; have := lenNum a.dflt 2; have := lenNum a.size 2
    have := lenList (g := eKey) (m := 4) h2 (B := 65545) fun c hc => by
      unfold eKey; rw [enc_len, enc_len]
      have := lenTxt c.name 24; have := lenNum c.field 2; have := lenNum c.kind 1; omega
    have := lenList (g := eInt) (m := 12) h3 (B := 4) fun n _ => lenNum n 2
    have := lenList (g := eVal) (m := 4) h4 (B := 17) fun v hv => lenVal (h1.2.2.1 v hv)
    omega
  have e6 : (eList eStage 12 x.stages).b.length ≤ 4 + 1100000 * 8 := lenList h.g fun a _ => by
    unfold eStage; rw [enc_len]
    have := lenNum a.table 2; have := lenNum a.header 2; omega
  have e7 : (eList eRole 6 x.roles).b.length ≤ 4 + 50 * (65560 + 1100000 * (10 + 1100000 * 1) + 1100000 * 4) := lenList h.r.1 fun a ha => by
    unfold eRole; simp only [enc_len]
    obtain ⟨h1, h2, h3, h4⟩ := h.r.2 a ha
    have := lenNum a.id 2; have := lenTxt a.name 24; have := lenNum a.quota 2; have := lenTru a.audit
    have := lenList (g := eGrant) (m := 8) h2 (B := 10 + 1100000 * 1) fun c hc => by
      unfold eGrant; simp only [enc_len]
      have := lenNum c.table 2; have := lenTru c.read; have := lenTru c.write
      have := lenList (g := eTru) (m := 4) (h4 c hc) (B := 1) fun y _ => lenTru y
      omega
    have := lenList (g := eInt) (m := 12) h3 (B := 4) fun n _ => lenNum n 2
    omega
  have e8 : (eList eRef 8 x.refs).b.length ≤ 4 + 1100000 * 24 := lenList h.x fun a _ => by
    unfold eRef; simp only [enc_len]
    have := lenNum a.table 2; have := lenNum a.key 1; have := lenNum a.action 2; have := lenNum a.param 1; have := lenNum a.toTable 2; have := lenNum a.toKey 1; omega
  unfold eSch ePacket
  simp only [enc_len]
  rw [encMax_eq]
  have := lenNum x.maxBatch 2; have := lenNum x.budget 2
  omega
/-! ### What is generated, and what is bent -/
end Go.AL


open Go Go.AL Go.Proofs
namespace Go.AL
set_option linter.all false
set_option maxRecDepth 10000
theorem ti_schemas : ti Tryz.prog 39 = some ⟨.slice 31, 1, 24, .slice .nil 1 []⟩ := by kernel_rfl
attribute [go_sem] ti_schemas
theorem okTx_of {s : List UInt8} (h : s.length ≤ 1000) : okTx s := by unfold okTx; rw [encMax_eq]; omega
def GrOk (n : Nat) (l : List SGrant) : Prop := l.length ≤ n ∧ ∀ q ∈ l, q.keys.length ≤ 1000
theorem GrOk.nil {n : Nat} : GrOk n [] := ⟨Nat.zero_le _, fun q hq => by cases hq⟩
theorem GrOk.cons {n : Nat} {l : List SGrant} {q : SGrant} (h : GrOk n l) (hq : q.keys.length ≤ 1000) : GrOk (n + 1) (q :: l) :=
  ⟨Nat.succ_le_succ h.1, fun x hx => (List.mem_cons.1 hx).elim (fun e => e ▸ hq) (h.2 x)⟩
theorem GrOk.up {n : Nat} {l : List SGrant} (h : GrOk n l) : GrOk (n + 1) l := ⟨Nat.le_succ_of_le h.1, h.2⟩
end Go.AL


open Go Go.AL Go.Proofs
namespace Go.AL
set_option linter.all false
set_option maxRecDepth 10000

def longT (s : List UInt8) (i : Nat) : STable := ⟨i, [], [], [], 0, [], 0, s⟩
def longA (s : List UInt8) (i : Nat) : SAction := ⟨i, [], [], [], s⟩
def longS (s : List UInt8) : Sch := ⟨[], [], [], (List.range 12).map (longA s), (List.range 8).map (longT s), [], [], [], 0, 0⟩
theorem allF {α : Type} {g : α → Enc} : ∀ {l : List α}, (∀ a ∈ l, (g a).f = false) → (eAll g l).f = false
  | [], _ => rfl
  | x :: l, h => by
    show ((g x).f || (eAll g l).f) = false
    rw [h x List.mem_cons_self, allF fun a ha => h a (List.mem_cons_of_mem _ ha)]; rfl
theorem allA {α : Type} {g : α → Enc} : ∀ {l : List α}, (∀ a ∈ l, (g a).a = false) → (eAll g l).a = false
  | [], _ => rfl
  | x :: l, h => by
    show ((g x).a || (eAll g l).a) = false
    rw [h x List.mem_cons_self, allA fun a ha => h a (List.mem_cons_of_mem _ ha)]; rfl
theorem add_f {x y : Enc} : (x.add y).f = (x.f || y.f) := rfl
theorem add_a {x y : Enc} : (x.add y).a = (x.a || y.a) := rfl
theorem list_f {α : Type} {g : α → Enc} {m : Int} {l : List α} (h : ∀ a ∈ l, (g a).f = false) : (eList g m l).f = false := by
  show (false || (eAll g l).f) = false
  rw [allF h]; rfl
theorem list_a {α : Type} {g : α → Enc} {m : Int} {l : List α} (h : ∀ a ∈ l, (g a).a = false) : (eList g m l).a = false := by
  show (false || (eAll g l).a) = false
  rw [allA h]; rfl
theorem rg_ok {n w : Int} (h1 : 0 ≤ n) (h2 : n ≤ 200) (hw : w = 1 ∨ w = 2) : (eNum n w).a = false := by
  rcases hw with rfl | rfl <;> simp [eNum, rg] <;> omega
theorem badX : badC 120 = false := by decide
theorem longS_f (k : Nat) : (eSch (longS (List.replicate k 120))).f = false := by
  unfold eSch ePacket
  simp only [add_f]
  rw [list_f (g := eAction) (l := (longS (List.replicate k 120)).actions) fun a ha => by
      obtain ⟨i, _, rfl⟩ := List.mem_map.1 ha
      simp [eAction, add_f, eNum, eTxt, eList, eCnt, eAll, enc0, longA, badX],
    list_f (g := eTable) (l := (longS (List.replicate k 120)).tables) fun a ha => by
      obtain ⟨i, _, rfl⟩ := List.mem_map.1 ha
      simp [eTable, add_f, eNum, eTxt, eList, eCnt, eAll, enc0, longT, badX]]
  simp [longS, eNum, eList, eCnt, eAll, enc0, add_f]
theorem longS_a (k : Nat) : (eSch (longS (List.replicate k 120))).a = false := by
  unfold eSch ePacket
  simp only [add_a]
  rw [list_a (g := eAction) (l := (longS (List.replicate k 120)).actions) fun a ha => by
      obtain ⟨i, hi, rfl⟩ := List.mem_map.1 ha
      rw [List.mem_range] at hi
      have h1 := rg_ok (n := (i : Int)) (w := 2) (by omega) (by omega) (.inr rfl)
      simp only [eAction, longA, add_a, h1]
      simp [eTxt, eList, eCnt, eAll, enc0, add_a],
    list_a (g := eTable) (l := (longS (List.replicate k 120)).tables) fun a ha => by
      obtain ⟨i, hi, rfl⟩ := List.mem_map.1 ha
      rw [List.mem_range] at hi
      have h1 := rg_ok (n := (i : Int)) (w := 2) (by omega) (by omega) (.inr rfl)
      have h2 := rg_ok (n := 0) (w := 2) (by omega) (by omega) (.inr rfl)
      simp only [eTable, longT, add_a, h1, h2]
      simp [eTxt, eList, eCnt, eAll, enc0, add_a]]
  have h2 := rg_ok (n := 0) (w := 2) (by omega) (by omega) (.inr rfl)
  simp [longS, eList, eCnt, eAll, enc0, add_a, h2]
theorem longS_sm {s : List UInt8} (hs : s.length ≤ 1000) : SmP 50 1100000 (longS s) := by
  have h0 : okTx [] := okTx_of (by simp)
  refine ⟨⟨by simp [longS], fun a ha => by simp [longS] at ha⟩, ⟨by simp [longS], fun a ha => by simp [longS] at ha⟩, ⟨by simp [longS], fun a ha => by simp [longS] at ha⟩, ⟨by simp [longS], fun a ha => ?_⟩, ⟨by simp [longS], fun a ha => ?_⟩, by simp [longS], ⟨by simp [longS], fun a ha => by simp [longS] at ha⟩, by simp [longS]⟩
  · obtain ⟨i, _, rfl⟩ := List.mem_map.1 ha
    exact ⟨⟨h0, by simp [longA], by simp [longA], okTx_of hs⟩, by simp [longA], by simp [longA]⟩
  · obtain ⟨i, _, rfl⟩ := List.mem_map.1 ha
    exact ⟨⟨h0, by simp [longT], by simp [longT], okTx_of hs⟩, by simp [longT], by simp [longT], by simp [longT]⟩
theorem longS_end (k : Nat) : (encO (longS (List.replicate k 120))).2 = 0 ∨ (encO (longS (List.replicate k 120))).2 = 3 := by
  have h1 := longS_f k
  have h2 := longS_a k
  generalize longS (List.replicate k 120) = S at *
  unfold encO
  rw [h1, h2]
  simp only [Bool.false_eq_true, if_false]
  split
  · exact .inr rfl
  · split
    · exact .inr rfl
    · exact .inl rfl
theorem range_succ_map {α : Type} {f : Nat → α} {k : Nat} : (List.range (k + 1)).map f = (List.range k).map f ++ [f k] := by
  rw [List.range_succ, List.map_append]; rfl
theorem rep_succ {k : Nat} : List.replicate k (120 : UInt8) ++ [120] = List.replicate (k + 1) 120 := by
  rw [← List.replicate_succ']
def p_SchemaLong : List AV → AHeap → (AV → Prop) → Prop
  | [.int .i64 n], _, K => (-9223372036854775808 ≤ n ∧ n ≤ 9223372036854775807) ∧ K (.bool true)
  | _, _, _ => False
def tabL (s : List UInt8) (k : Nat) : List AV := (List.range k).map fun i => tableAV (longT s i)
def actL (s : List UInt8) (k : Nat) : List AV := (List.range k).map fun i => actionAV (longA s i)
theorem lt_nilS0 {n : Nat} : (AV.slice .nil 1 []).lt n = True := eq_true (by rw [lt_sliceL]; exact ⟨fun id e => (by cases e), trivial⟩)
theorem lt_own {n i sz : Nat} {l : List AV} (h : ltL n l) : (AV.slice (.own i) sz l).lt n = (i < n) := by
  rw [lt_sliceL]
  exact propext ⟨fun k => k.1 i rfl, fun k => ⟨fun id e => (by cases e; exact k), h⟩⟩
set_option maxHeartbeats 8000000 in
theorem ok_SchemaLong : EntOk Tryz.prog 4 (Ent.pure p_SchemaLong) := by
  refine EntOk.pure fun args H K h => ?_
  unfold p_SchemaLong at h
  split at h
  rotate_left
  · exact h.elim
  rename_i n
  obtain ⟨⟨hn1, hn2⟩, hK⟩ := h
  refine ⟨_, hK, ?_⟩
  clear hK
  obtain ⟨j, hj⟩ : ∃ j : Nat, n % 20 = (j : Int) := ⟨(n % 20).toNat, by have := Int.emod_nonneg n (show (20 : Int) ≠ 0 by decide); omega⟩
  have hj2 : j < 20 := by omega
  have hw : IntKind.i64.wrap (375 + (j : Int)) = ((375 + j : Nat) : Int) := by rw [wrap_i64] <;> omega
  refine ACalls.of_aw (Ω := [(19, Ent.pure p_ZMod), (17, Ent.pure p_zEnc), (18, Ent.pure p_yEnc), (13, Ent.pure p_begun03)]) (T := assoc [(7, [[1]]), (10, [[16]]), (11, [[1]]), (14, [[16]]), (15, [[4]]), (16, [[4]])]) mixed (TblOk.cons ok_ZMod (TblOk.cons ok_zEnc (TblOk.cons ok_yEnc (TblOk.cons ok_begun03 TblOk.nil)))) Tryz.func4 (by kernel_rfl) (by rfl) (rs := [.tmp 2]) (by rfl) (by kernel_rfl) (by simp only [Tryz.ntmps4, yaz, yba]; decide) (Nat.le_refl _) fun hcl hlt => ?_
  change aw _ _ _ (KI Tryz.prog [(19, Ent.pure p_ZMod), (17, Ent.pure p_zEnc), (18, Ent.pure p_yEnc), (13, Ent.pure p_begun03)] (aEnd Tryz.prog [.tmp 2] H.nx _ _ (assoc [(7, [[1]]), (10, [[16]]), (11, [[1]]), (14, [[16]]), (15, [[4]]), (16, [[4]])])) []) _ _
  clear hlt
  simp only [go_sem, reduceCtorEq, Nat.reduceEqDiff, Nat.reduceAdd, Nat.reduceMul, Nat.reduceSub, Nat.reduceLeDiff, Nat.reduceLT, Int.reduceMul, Int.reduceAdd, Int.reduceSub, Int.reduceToNat]
  refine loop_introW (A := Nat) (fun k => [(0, .int .i64 n), (3, .str (List.replicate k 120)), (4, .int .i64 (k : Int))]) (fun _ => H) (fun k => k ≤ 375 + j) (fun k => 375 + j - k) 0 (by omega) ?_ fun k hk => ?_
  · refine ⟨by simp only [zkk, zkp]; exact Nat.le_refl _, AHeap.Le.refl _, hcl, ?_, ?_⟩
    · simp [ltF, zmz, znb]
    · simp [subW, wk2, wk1, wkM, Fr.get]
  simp only [go_sem, reduceCtorEq, Nat.reduceEqDiff, Nat.reduceAdd, Nat.reduceMul, Nat.reduceSub, Nat.reduceLeDiff, Nat.reduceLT, Int.reduceMul, Int.reduceAdd, Int.reduceSub, Int.reduceToNat, p_ZMod, hj, hw]
  refine ⟨⟨by omega, by omega, by decide, by decide⟩, ?_⟩
  refine cond_split (fun hc => ?_) (fun hc => ?_)
  · have hk' : k < 375 + j := by simp at hc; omega
    have e5 : IntKind.i64.wrap ((k : Int) + 1) = ((k + 1 : Nat) : Int) := by rw [wrap_i64] <;> omega
    simp only [go_sem, reduceCtorEq, Nat.reduceEqDiff, Nat.reduceAdd, Nat.reduceMul, Nat.reduceSub, Nat.reduceLeDiff, Nat.reduceLT, Int.reduceMul, Int.reduceAdd, Int.reduceSub, Int.reduceToNat, e5, rep_succ, List.length_replicate]
    (repeat with_reducible refine And.intro (by first | decide | omega | (simp only [maxStr]; omega)) ?_)
    refine ⟨k + 1, by omega, by omega, Nat.le_refl _, AHeap.Le.refl _, hcl, ?_, ?_⟩
    · simp [ltF, zmz, znb]
    · simp [subW, wk2, wk1, wkM, Fr.get]
  have hk' : k = 375 + j := by simp at hc; omega
  have hsl : (List.replicate k (120 : UInt8)).length ≤ 400 := by rw [List.length_replicate]; omega
  have hend := longS_end k
  clear hc
  generalize List.replicate k (120 : UInt8) = s at *
  simp only [bhq, Nat.reduceMod, Nat.reduceDiv, stepH, stepM, toMs1, toMs, toMs0, strK, pubK, pubF, pubV, yaq, yar, yao, yap, go_sem, reduceCtorEq, Nat.reduceEqDiff, Nat.reduceAdd, Nat.reduceMul, Nat.reduceSub, Nat.reduceLeDiff, Nat.reduceLT, Int.reduceMul, Int.reduceAdd, Int.reduceSub, Int.reduceToNat]
  have hts : ∀ k : Nat, tabL s k ++ [.agg [.int .i64 (k : Int), .str [], .slice .any 3 [], .slice .any 1 [], .int .i64 0, .slice .any 2 [], .int .i64 0, .str s]] = tabL s (k + 1) := fun k => by unfold tabL; rw [range_succ_map]; rfl
  have has : ∀ k : Nat, actL s k ++ [.agg [.int .i64 (k : Int), .str [], .slice .any 2 [], .slice .any 6 [], .str s]] = actL s (k + 1) := fun k => by unfold actL; rw [range_succ_map]; rfl
  have htl : ∀ k, (tabL s k).length = k := fun k => by simp [tabL]
  have hal : ∀ k, (actL s k).length = k := fun k => by simp [actL]
  have hlT : ∀ k m, ltL m (tabL s k) := fun k m => by unfold tabL; exact ltL_iff.2 fun j hj => by rw [List.getElem_map]; exact lt_tableAV _
  have hlA : ∀ k m, ltL m (actL s k) := fun k m => by unfold actL; exact ltL_iff.2 fun j hj => by rw [List.getElem_map]; exact lt_actionAV _
  refine weak_cell 5 4 8 (cs := [.slice .nil 1 [], .slice .nil 1 [], .slice .nil 1 [], .slice .nil 1 [], .slice .nil 1 [], .slice .nil 1 [], .slice .nil 1 [], .slice .nil 1 [], .int .i64 0, .int .i64 0]) rfl (by simp only [go_sem]) rfl ?_
  simp only [blkE, blkP, bhq, Nat.reduceMod, Nat.reduceDiv, stepH, stepM, toMs1, toMs, toMs0, strK, pubK, pubF, pubV, yaq, yar, yao, yap, go_sem, reduceCtorEq, Nat.reduceEqDiff, Nat.reduceAdd, Nat.reduceMul, Nat.reduceSub, Nat.reduceLeDiff, Nat.reduceLT, Int.reduceMul, Int.reduceAdd, Int.reduceSub, Int.reduceToNat, List.set_cons_succ, List.set_cons_zero]
  have hclT : ∀ k, ((H.push (.cells [.slice .nil 1 [], .slice .nil 1 [], .slice .nil 1 [], .slice .nil 1 [], (.slice (.own (H.nx + 1)) 8 (tabL s k)), .slice .nil 1 [], .slice .nil 1 [], .slice .nil 1 [], .int .i64 0, .int .i64 0])).push (.buf 8 k)).Closed := fun k => by
    have h0 := closed_buf (a := 8) (b := k) (closed_cells (cs := []) hcl trivial)
    have h1 := closed_set (i := H.nx) (cs := [.slice .nil 1 [], .slice .nil 1 [], .slice .nil 1 [], .slice .nil 1 [], (.slice (.own (H.nx + 1)) 8 (tabL s k)), .slice .nil 1 [], .slice .nil 1 [], .slice .nil 1 [], .int .i64 0, .int .i64 0]) h0 (by
      simp only [zno, znp, zmz, zky, and_true, true_and, lt_nilS0, lt_own (hlT k _)]
      omega)
    simp only [go_sem] at h1
    exact h1
  refine loop_introW (A := Nat) (fun k => [(3, .str s), (5, .ptr H.nx 0), (6, .int .i64 (k : Int))]) (fun k => (H.push (.cells [.slice .nil 1 [], .slice .nil 1 [], .slice .nil 1 [], .slice .nil 1 [], (.slice (.own (H.nx + 1)) 8 (tabL s k)), .slice .nil 1 [], .slice .nil 1 [], .slice .nil 1 [], .int .i64 0, .int .i64 0])).push (.buf 8 k)) (fun k => k ≤ 8) (fun k => 8 - k) 0 (by omega) ?_ fun k hk => ?_
  · refine ⟨by simp only [zkk, zkp, zky]; omega, by repeat (first | exact AHeap.Le.refl _ | refine AHeap.Le.push ?_ _), hclT _, ?_, ?_⟩
    · simp [ltF, zmz, znb, znh, zky]; omega
    · simp [subW, wk2, wk1, wkM, Fr.get]
  simp only [go_sem, reduceCtorEq, Nat.reduceEqDiff, Nat.reduceAdd, Nat.reduceMul, Nat.reduceSub, Nat.reduceLeDiff, Nat.reduceLT, Int.reduceMul, Int.reduceAdd, Int.reduceSub, Int.reduceToNat]
  refine cond_split (fun hc => ?_) (fun hc => ?_)
  · have hk' : k < 8 := by simp at hc; omega
    have e5 : IntKind.i64.wrap ((k : Int) + 1) = ((k + 1 : Nat) : Int) := by rw [wrap_i64] <;> omega
    simp only [blkE, blkP, bhq, Nat.reduceMod, Nat.reduceDiv, stepH, stepM, toMs1, toMs, toMs0, strK, pubK, pubF, pubV, yaq, yar, yao, yap, go_sem, reduceCtorEq, Nat.reduceEqDiff, Nat.reduceAdd, Nat.reduceMul, Nat.reduceSub, Nat.reduceLeDiff, Nat.reduceLT, Int.reduceMul, Int.reduceAdd, Int.reduceSub, Int.reduceToNat]
    refine weak_slot 29 (.agg [.int .i64 (k : Int), .str [], .slice .any 3 [], .slice .any 1 [], .int .i64 0, .slice .any 2 [], .int .i64 0, .str s]) ?_ ?_
    · simp [Fr.get, wkD_agg, wkD_slice, wkDL_cons, wkDL_nil, wkD_int, wkD_str, wkM]
    simp only [blkE, blkP, bhq, Nat.reduceMod, Nat.reduceDiv, stepH, stepM, toMs1, toMs, toMs0, strK, pubK, pubF, pubV, yaq, yar, yao, yap, go_sem, reduceCtorEq, Nat.reduceEqDiff, Nat.reduceAdd, Nat.reduceMul, Nat.reduceSub, Nat.reduceLeDiff, Nat.reduceLT, Int.reduceMul, Int.reduceAdd, Int.reduceSub, Int.reduceToNat, e5, hts, htl]
    refine ⟨by simp [zik, zgl, zgm, zgn, zgp, zgt]; omega, k + 1, by omega, by omega, by simp only [zkk, zkp, zky]; omega, by repeat (first | exact AHeap.Le.refl _ | refine AHeap.Le.push ?_ _), hclT _, ?_, ?_⟩
    · simp [ltF, zmz, znb, znh, zky]; omega
    · simp [subW, wk2, wk1, wkM, Fr.get]
  have hk8 : k = 8 := by simp at hc; omega
  subst hk8
  simp only [blkE, blkP, bhq, Nat.reduceMod, Nat.reduceDiv, stepH, stepM, toMs1, toMs, toMs0, strK, pubK, pubF, pubV, yaq, yar, yao, yap, go_sem, reduceCtorEq, Nat.reduceEqDiff, Nat.reduceAdd, Nat.reduceMul, Nat.reduceSub, Nat.reduceLeDiff, Nat.reduceLT, Int.reduceMul, Int.reduceAdd, Int.reduceSub, Int.reduceToNat]
  refine weak_cell 5 3 5 (cs := [.slice .nil 1 [], .slice .nil 1 [], .slice .nil 1 [], .slice .nil 1 [], (.slice (.own (H.nx + 1)) 8 (tabL s 8)), .slice .nil 1 [], .slice .nil 1 [], .slice .nil 1 [], .int .i64 0, .int .i64 0]) rfl (by simp only [go_sem]) rfl ?_
  simp only [blkE, blkP, bhq, Nat.reduceMod, Nat.reduceDiv, stepH, stepM, toMs1, toMs, toMs0, strK, pubK, pubF, pubV, yaq, yar, yao, yap, go_sem, reduceCtorEq, Nat.reduceEqDiff, Nat.reduceAdd, Nat.reduceMul, Nat.reduceSub, Nat.reduceLeDiff, Nat.reduceLT, Int.reduceMul, Int.reduceAdd, Int.reduceSub, Int.reduceToNat, List.set_cons_succ, List.set_cons_zero]
  have hclA : ∀ k, (((H.push (.cells [.slice .nil 1 [], .slice .nil 1 [], .slice .nil 1 [], (.slice (.own (H.nx + 1 + 1)) 5 (actL s k)), (.slice (.own (H.nx + 1)) 8 (tabL s 8)), .slice .nil 1 [], .slice .nil 1 [], .slice .nil 1 [], .int .i64 0, .int .i64 0])).push (.buf 8 8)).push (.buf 5 k)).Closed := fun k => by
    have h0 := closed_buf (a := 5) (b := k) (closed_buf (a := 8) (b := 8) (closed_cells (cs := []) hcl trivial))
    have h1 := closed_set (i := H.nx) (cs := [.slice .nil 1 [], .slice .nil 1 [], .slice .nil 1 [], (.slice (.own (H.nx + 1 + 1)) 5 (actL s k)), (.slice (.own (H.nx + 1)) 8 (tabL s 8)), .slice .nil 1 [], .slice .nil 1 [], .slice .nil 1 [], .int .i64 0, .int .i64 0]) h0 (by
      simp only [zno, znp, zmz, zky, and_true, true_and, lt_nilS0, lt_own (hlT 8 _), lt_own (hlA k _)]
      omega)
    simp only [go_sem] at h1
    exact h1
  refine loop_introW (A := Nat) (fun k => [(3, .str s), (5, .ptr H.nx 0), (7, .int .i64 (k : Int))]) (fun k => ((H.push (.cells [.slice .nil 1 [], .slice .nil 1 [], .slice .nil 1 [], (.slice (.own (H.nx + 1 + 1)) 5 (actL s k)), (.slice (.own (H.nx + 1)) 8 (tabL s 8)), .slice .nil 1 [], .slice .nil 1 [], .slice .nil 1 [], .int .i64 0, .int .i64 0])).push (.buf 8 8)).push (.buf 5 k)) (fun k => k ≤ 12) (fun k => 12 - k) 0 (by omega) ?_ fun k hk => ?_
  · refine ⟨by simp only [zkk, zkp, zky]; omega, by repeat (first | exact AHeap.Le.refl _ | refine AHeap.Le.push ?_ _), hclA _, ?_, ?_⟩
    · simp [ltF, zmz, znb, znh, zky]; omega
    · simp [subW, wk2, wk1, wkM, Fr.get]
  simp only [go_sem, reduceCtorEq, Nat.reduceEqDiff, Nat.reduceAdd, Nat.reduceMul, Nat.reduceSub, Nat.reduceLeDiff, Nat.reduceLT, Int.reduceMul, Int.reduceAdd, Int.reduceSub, Int.reduceToNat]
  refine cond_split (fun hc => ?_) (fun hc => ?_)
  · have hk' : k < 12 := by simp at hc; omega
    have e5 : IntKind.i64.wrap ((k : Int) + 1) = ((k + 1 : Nat) : Int) := by rw [wrap_i64] <;> omega
    simp only [blkE, blkP, bhq, Nat.reduceMod, Nat.reduceDiv, stepH, stepM, toMs1, toMs, toMs0, strK, pubK, pubF, pubV, yaq, yar, yao, yap, go_sem, reduceCtorEq, Nat.reduceEqDiff, Nat.reduceAdd, Nat.reduceMul, Nat.reduceSub, Nat.reduceLeDiff, Nat.reduceLT, Int.reduceMul, Int.reduceAdd, Int.reduceSub, Int.reduceToNat]
    refine weak_slot 41 (.agg [.int .i64 (k : Int), .str [], .slice .any 2 [], .slice .any 6 [], .str s]) ?_ ?_
    · simp [Fr.get, wkD_agg, wkD_slice, wkDL_cons, wkDL_nil, wkD_int, wkD_str, wkM]
    simp only [blkE, blkP, bhq, Nat.reduceMod, Nat.reduceDiv, stepH, stepM, toMs1, toMs, toMs0, strK, pubK, pubF, pubV, yaq, yar, yao, yap, go_sem, reduceCtorEq, Nat.reduceEqDiff, Nat.reduceAdd, Nat.reduceMul, Nat.reduceSub, Nat.reduceLeDiff, Nat.reduceLT, Int.reduceMul, Int.reduceAdd, Int.reduceSub, Int.reduceToNat, e5, has, hal]
    refine ⟨by simp [zik, zgl, zgm, zgn, zgp, zgt]; omega, k + 1, by omega, by omega, by simp only [zkk, zkp, zky]; omega, by repeat (first | exact AHeap.Le.refl _ | refine AHeap.Le.push ?_ _), hclA _, ?_, ?_⟩
    · simp [ltF, zmz, znb, znh, zky]; omega
    · simp [subW, wk2, wk1, wkM, Fr.get]
  have hk12 : k = 12 := by simp at hc; omega
  subst hk12
  have hsm := longS_sm (s := s) (by omega)
  have hwk : ∀ a b, wkD (.agg [.slice .nil 1 [], .slice .nil 1 [], .slice .nil 1 [], (.slice (.own b) 5 (actL s 12)), (.slice (.own (a)) 8 (tabL s 8)), .slice .nil 1 [], .slice .nil 1 [], .slice .nil 1 [], .int .i64 0, .int .i64 0]) (schAV (longS s)) := fun a b => by
    simp [schAV, schC, longS, wkD_agg, wkD_slice, wkDL_cons, wkDL_nil, wkD_int, wkM, actL, tabL, wkDR_same, Function.comp_def]
  have hsc : schAV (longS s) = .agg (schC (longS s)) := rfl
  generalize longS s = S at *
  try simp only [blkE, blkP, bhq, Nat.reduceMod, Nat.reduceDiv, stepH, stepM, toMs1, toMs, toMs0, strK, pubK, pubF, pubV, yaq, yar, yao, yap, go_sem, reduceCtorEq, Nat.reduceEqDiff, Nat.reduceAdd, Nat.reduceMul, Nat.reduceSub, Nat.reduceLeDiff, Nat.reduceLT, Int.reduceMul, Int.reduceAdd, Int.reduceSub, Int.reduceToNat]
  refine weak_slot 46 (schAV S) (hwk _ _) ?_
  simp only [blkE, blkP, bhq, Nat.reduceMod, Nat.reduceDiv, stepH, stepM, toMs1, toMs, toMs0, strK, pubK, pubF, pubV, yaq, yar, yao, yap, go_sem, reduceCtorEq, Nat.reduceEqDiff, Nat.reduceAdd, Nat.reduceMul, Nat.reduceSub, Nat.reduceLeDiff, Nat.reduceLT, Int.reduceMul, Int.reduceAdd, Int.reduceSub, Int.reduceToNat, hsc, p_zEnc, pEnc]
  refine ⟨S, ⟨rfl, hsm.ok, hsm.len⟩, ?_⟩
  try simp only [blkE, blkP, bhq, Nat.reduceMod, Nat.reduceDiv, stepH, stepM, toMs1, toMs, toMs0, strK, pubK, pubF, pubV, yaq, yar, yao, yap, go_sem, reduceCtorEq, Nat.reduceEqDiff, Nat.reduceAdd, Nat.reduceMul, Nat.reduceSub, Nat.reduceLeDiff, Nat.reduceLT, Int.reduceMul, Int.reduceAdd, Int.reduceSub, Int.reduceToNat, hsc, p_zEnc, pEnc]
  refine weak_slot 51 (schAV S) (hwk _ _) ?_
  simp only [blkE, blkP, bhq, Nat.reduceMod, Nat.reduceDiv, stepH, stepM, toMs1, toMs, toMs0, strK, pubK, pubF, pubV, yaq, yar, yao, yap, go_sem, reduceCtorEq, Nat.reduceEqDiff, Nat.reduceAdd, Nat.reduceMul, Nat.reduceSub, Nat.reduceLeDiff, Nat.reduceLT, Int.reduceMul, Int.reduceAdd, Int.reduceSub, Int.reduceToNat, hsc, p_yEnc, pEnc]
  refine ⟨S, ⟨rfl, hsm.ok, hsm.len⟩, ?_⟩
  obtain ⟨⟨eb, ee⟩, hE⟩ : ∃ E, encO S = E := ⟨_, rfl⟩
  rw [hE] at hend ⊢
  dsimp only at hend
  rcases hend with rfl | rfl
  all_goals
    simp only [blkE, blkP, bhq, Nat.reduceMod, Nat.reduceDiv, stepH, stepM, toMs1, toMs, toMs0, strK, pubK, pubF, pubV, yaq, yar, yao, yap, go_sem, reduceCtorEq, Nat.reduceEqDiff, Nat.reduceAdd, Nat.reduceMul, Nat.reduceSub, Nat.reduceLeDiff, Nat.reduceLT, Int.reduceMul, Int.reduceAdd, Int.reduceSub, Int.reduceToNat, byq, p_begun03, beq_self_eq_true, Int.reduceBEq]
    try simp only [blkE, blkP, bhq, Nat.reduceMod, Nat.reduceDiv, stepH, stepM, toMs1, toMs, toMs0, strK, pubK, pubF, pubV, yaq, yar, yao, yap, go_sem, reduceCtorEq, Nat.reduceEqDiff, Nat.reduceAdd, Nat.reduceMul, Nat.reduceSub, Nat.reduceLeDiff, Nat.reduceLT, Int.reduceMul, Int.reduceAdd, Int.reduceSub, Int.reduceToNat, byq, p_begun03, beq_self_eq_true, Int.reduceBEq]
    refine ⟨?_, by repeat (first | exact AHeap.Le.refl _ | refine AHeap.Le.push ?_ _), hcl, ?_⟩
    · simp [wk, wk2, wk1]
    · simp [zna]
end Go.AL

