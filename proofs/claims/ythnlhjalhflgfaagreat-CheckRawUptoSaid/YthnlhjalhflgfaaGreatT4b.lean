/- Contracts and plain laws, a part of the proof; no condition of its own. -/
import Derived.Test.YthnlhjalhflgfaaGreatRows
import Derived.Test.YthnlhjalhflgfaaGreatE06b
import Derived.Test.YthnlhjalhflgfaaGreatTY4u
import Derived.JoinedCond
/- Whatever the schema, of bulk at most 1048576: Check returns the documented error: CheckRaw returns true. The lP is the statement's own. -/
open Go Go.AL Go.Proofs
namespace Go.AL
set_option linter.all false
set_option maxRecDepth 10000
theorem checkRaw_calls (avs:List AV) (h:tyA Tryz.prog 9 [34] avs) (hc:∀ (j:Nat) (hj:j<avs.length),(avs[j]).cnt 1048576):ACalls Tryz.prog 4 avs H0 (.ret (.bool true)) H0:=by
  match avs,h with
  | [x0],h =>
    obtain ⟨h0,_⟩:=h
    have hc0:=hc 0 (by simp)
    obtain ⟨raw,rfl,hv⟩:=Sb (d:=1) h0
    obtain ⟨v,hv,hcc⟩:=ok_CheckRaw.1 rfl [.agg (aS raw)] H0 (fun v=>v=.bool true) ⟨raw,⟨rfl,fun hl=>⟨(Dm hv hc0 hl).ok,(Dm hv hc0 hl).len⟩⟩,rfl⟩
    subst hv
    exact hcc
  | [],h=>exact h.elim
  | _::_::_,h=>exact h.2.elim
end Go.AL
namespace Go.Proofs.YthnlhjalhflgfaaGreat
open Go.AL
theorem Tryz.own:ownKnob Tryz.prog.godebug=none:=by kernel_rfl
theorem Tryz.laidOut:laidOutB Tryz.prog=true:=by kernel_rfl
theorem bulk_one {H:Type} (d:DataW H):1≤Rows.uptoBulk d:=by
  cases d with
  | lit l=>cases l<;>simp [Rows.uptoBulk]
  | nil=>simp [Rows.uptoBulk]
  | ptr d=>simp [Rows.uptoBulk]
  | slice elems spare=>simp [Rows.uptoBulk]
  | agg parts=>simp [Rows.uptoBulk]
  | iface t d=>simp [Rows.uptoBulk]
  | map entries=>simp [Rows.uptoBulk]
  | held h=>simp [Rows.uptoBulk]
theorem bulk_part {H:Type} {d:DataW H} {l:List (DataW H)} (h:d∈l):Rows.uptoBulk d≤Rows.uptoBulkAll l:=by
  induction l with
  | nil=>cases h
  | cons x r ih =>
    simp only [Rows.uptoBulkAll]
    cases List.mem_cons.1 h with
    | inl e=>subst e;omega
    | inr e=>have:=ih e;omega
theorem bulk_len {H:Type} (l:List (DataW H)):l.length≤Rows.uptoBulkAll l:=by
  induction l with
  | nil=>simp [Rows.uptoBulkAll]
  | cons x r ih=>have:=bulk_one x;simp only [Rows.uptoBulkAll,List.length_cons];omega
theorem bulkOk {H:Type}:BulkOk (H:=H) Rows.uptoBulk where
  str:=fun s=>by simp [Rows.uptoBulk]
  len:=fun es sp=>by have:=bulk_len es;simp only [Rows.uptoBulk];omega
  elem:=fun es sp x hx=>by have:=bulk_part hx;simp only [Rows.uptoBulk];omega
  agg:=fun es x hx=>by have:=bulk_part hx;simp only [Rows.uptoBulk];omega
theorem small_le {H:Type} (ds:List (DataW H)) (h:Rows.uptoSmall H ds=true):∀ x∈ds,Rows.uptoBulk x≤1048576:=fun x hx=>by
  have h1:Rows.uptoBulkAll ds≤1048576:=of_decide_eq_true h
  exact Nat.le_trans (bulk_part hx) h1
set_option maxRecDepth 100000 in
theorem checkRaw_lifted (os:Os) (started:os.Started) (H:Type) (enc:TypeId × Value→H) (F:Stop.Interp) :
    ReturnsInHanded {} Tryz.checked os 4 .any ((Rows.OpenSpec.upto Rows.checkRawSpec).pre6 enc Tryz.prog Tryz.f4 Rows.checkRawUptoRow.domain false) (((Rows.OpenSpec.upto Rows.checkRawSpec).at F).post enc Tryz.prog Tryz.f4 false true false false) :=
  vX (C:=Tryz.checked) (d:=9) (s:=Rows.OpenSpec.upto Rows.checkRawSpec) (k:=Rows.uptoSmall) rfl Rows.uptoBulk bulkOk 1048576 small_le Tryz.own started (by kernel_rfl) Tryz.func4 (by rfl) (by rfl) Tryz.laidOut (by kernel_rfl) (by kernel_rfl) rfl (by kernel_rfl) rfl rfl
    (fun ds h=>match ds,h with | [_],_=>⟨rfl,rfl,rfl⟩)
    (OpenSpec.witness (enc:=enc) (C:=Tryz.checked) (s:=Rows.OpenSpec.upto Rows.checkRawSpec) (k:=Rows.uptoSmall) rfl false ⟨#[],#[.agg #[.slice none 0 0,.slice none 0 0,.slice none 0 0,.slice none 0 0,.slice none 0 0,.slice none 0 0,.slice none 0 0,.slice none 0 0,.int .i64 0,.int .i64 0]],[]⟩ 8 (by kernel_rfl) (by kernel_rfl) (by kernel_rfl)
      (x:=([.agg [.nil,.nil,.nil,.nil,.nil,.nil,.nil,.nil,.lit (.int .i64 0),.lit (.int .i64 0)]],[],[])) (by kernel_rfl) rfl (by kernel_rfl))
    (fun avs h hc=>checkRaw_calls avs h hc)
theorem and_t {a b:Bool} (h:a=true) (k:b=true):(a&&b)=true:=by rw [h,k];rfl
set_option maxHeartbeats 8000000 in
set_option maxRecDepth 100000 in
theorem checkRaw_closed:joinedFacts Tryz.pinned.checked.prog 4 Tryz.f4 (Rows.OpenSpec.upto Rows.checkRawSpec).bare Rows.checkRawUptoRow=true:=by
  unfold joinedFacts
  iterate 31 refine and_t ?_ ?_
  all_goals as_aux_lemma=>kernel_rfl
theorem checkRaw_over:Rows.checkRawUptoRow.holds Tryz.pinned (Rows.OpenSpec.upto Rows.checkRawSpec) :=
  OpenClaim.holds_of_cond 4 Tryz.f4 rfl rfl rfl rfl rfl rfl rfl ⟨rfl,rfl,rfl,rfl,rfl⟩ rfl rfl rfl rfl rfl (by kernel_rfl) Tryz.func4 checkRaw_closed
    (of_decide_eq_true (by kernel_rfl)) (by unfold Func.isWrapper;first | (rw [if_pos (by decide +kernel)];kernel_rfl) | (rw [if_neg (by decide +kernel)];exact ⟨rfl,rfl⟩))
    (fun os started H enc _ F=>checkRaw_lifted os started H enc F)
theorem checkRaw_holds:Rows.CheckRawUptoSaid:=checkRaw_over
#print axioms checkRaw_holds
end Go.Proofs.YthnlhjalhflgfaaGreat

