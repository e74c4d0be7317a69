/- Contracts and plain laws, a part of the proof; no condition of its own. -/
import Derived.Test.YthpglnacipgolaaGreatRows
import Derived.Test.YthpglnacipgolaaGreatW04m
import Derived.Test.YthpglnacipgolaaGreatTY3
/- Whatever the two numbers: the limits of lists, texts and encodings are the documented ones: SchemaLimits returns true. No condition. -/
open Go Go.AL Go.Proofs
namespace Go.AL
set_option linter.all false
set_option maxRecDepth 10000
theorem schemaLimits_calls (avs:List AV) (h:tyA Tryz.prog 6 [3,3] avs):ACalls Tryz.prog 7 avs H0 (.ret (.bool true)) H0:=by
  match avs,h with
  | [x0,x1],h =>
    obtain ⟨h0,h1,_⟩:=h
    obtain ⟨n,rfl,hn0,hn1⟩:=tyInt (d:=5) h0
    obtain ⟨e,rfl,he0,he1⟩:=tyInt (d:=5) h1
    obtain ⟨v,hv,hc⟩:=ok_SchemaLimits.1 rfl [.int .i64 n,.int .i64 e] H0 (fun v=>v=.bool true) ⟨⟨hn0,by omega,he0,by omega⟩,rfl⟩
    subst hv
    exact hc
  | [],h=>exact h.elim
  | [_],h=>exact h.2.elim
  | _::_::_::_,h=>exact h.2.2.elim
end Go.AL
namespace Go.Proofs.YthpglnacipgolaaGreat
open Go.AL
theorem Tryz.own:ownKnob Tryz.prog.godebug=none:=by kernel_rfl
theorem Tryz.laidOut:laidOutB Tryz.prog=true:=by kernel_rfl
set_option maxRecDepth 100000 in
theorem schemaLimits_lifted (os:Os) (started:os.Started) (H:Type) (enc:TypeId × Value→H) :
    ReturnsInHanded {} Tryz.checked os 7 .any (Rows.schemaLimitsSpec.pre6 enc Tryz.prog Tryz.f7 Rows.schemaLimitsRow.domain false) (Rows.schemaLimitsSpec.post enc Tryz.prog Tryz.f7 false true false false) :=
  law_of_acalls (C:=Tryz.checked) (d:=6) Tryz.own started (by kernel_rfl) Tryz.func7 (by rfl) (by rfl) Tryz.laidOut (by kernel_rfl) (by kernel_rfl) rfl (by kernel_rfl) rfl
    (fun ds h=>match ds,h with | [_,_],_=>⟨rfl,rfl,rfl⟩)
    (ChangeSpec.witness6 (enc:=enc) (C:=Tryz.checked) false ⟨#[],#[.int .i64 0,.int .i64 0],[]⟩ 8 (by kernel_rfl) (by kernel_rfl) (by kernel_rfl) (by kernel_rfl))
    (fun avs h=>schemaLimits_calls avs h)
theorem and_t {a b:Bool} (h:a=true) (k:b=true):(a&&b)=true:=by rw [h,k];rfl
set_option maxHeartbeats 8000000 in
set_option maxRecDepth 100000 in
theorem schemaLimits_closed:joinedFacts Tryz.pinned.checked.prog 7 Tryz.f7 Rows.schemaLimitsSpec Rows.schemaLimitsRow=true:=by
  unfold joinedFacts
  iterate 31 refine and_t ?_ ?_
  all_goals as_aux_lemma=>kernel_rfl
theorem schemaLimits_holds:Rows.SchemaLimitsSaid :=
  OpenClaim.holds_of_wide 7 Tryz.f7 rfl rfl rfl rfl rfl rfl rfl ⟨rfl,rfl,rfl,rfl,rfl⟩ rfl rfl rfl rfl rfl (by kernel_rfl) Tryz.func7 schemaLimits_closed
    (of_decide_eq_true (by kernel_rfl)) (by unfold Func.isWrapper;first | (rw [if_pos (by decide +kernel)];kernel_rfl) | (rw [if_neg (by decide +kernel)];exact ⟨rfl,rfl⟩))
    (fun os started H enc _=>schemaLimits_lifted os started H enc)
#print axioms schemaLimits_holds
end Go.Proofs.YthpglnacipgolaaGreat

