/- Contracts and plain laws, a part of the proof; no condition of its own. -/
import Derived.Test.YtokjjhidigoodaaGreatRows
import Derived.Test.YtokjjhidigoodaaGreatS12g
import Derived.Test.YtokjjhidigoodaaGreatTY12
/- Whatever the codes and the entry: Admits reports exactly whether the restrictions of table and action hold: EvalAdmits returns true. No condition. -/
open Go Go.AL Go.Proofs
namespace Go.AL
set_option linter.all false
set_option maxRecDepth 10000
theorem evalAdmits_calls (avs:List AV) (h:tyA Tryz.prog 6 [22,22,26] avs):ACalls Tryz.prog 3 avs H0 (.ret (.bool true)) H0:=by
  match avs,h with
  | [x0,x1,x2],h =>
    obtain ⟨h0,h1,h2,_⟩:=h
    obtain ⟨l1,rfl,hl1⟩:=Cx (d:=3) h0
    obtain ⟨l2,rfl,hl2⟩:=Cx (d:=3) h1
    obtain ⟨e0,rfl,he0⟩:=GD (d:=1) h2
    obtain ⟨v,hv,hc⟩:=ok_EvalAdmits.1 rfl [.slice .any 1 l1,.slice .any 1 l2,.agg (eA e0)] H0 (fun v=>v=.bool true) ⟨e0,⟨hl1,hl2,rfl,⟨by have:=he0.ok.ml;omega,fun m hm=>by have:=(he0.pf m hm).2;omega,by have:=he0.pr.2;omega,he0.ok.mo,he0.ar⟩,he0.tb.1,he0.tb.2,he0.ac.1,he0.ac.2⟩,rfl⟩
    subst hv
    exact hc
  | [],h=>exact h.elim
  | [_],h=>exact h.2.elim
  | [_,_],h=>exact h.2.2.elim
  | _::_::_::_::_,h=>exact h.2.2.2.elim
end Go.AL
namespace Go.Proofs.YtokjjhidigoodaaGreat
open Go.AL
theorem Tryz.own:ownKnob Tryz.prog.godebug=none:=by kernel_rfl
theorem Tryz.laidOut:laidOutB Tryz.prog=true:=by kernel_rfl
set_option maxRecDepth 100000 in
theorem evalAdmits_lifted (os:Os) (started:os.Started) (H:Type) (enc:TypeId × Value→H) :
    ReturnsInHanded {} Tryz.checked os 3 .any (Rows.evalAdmitsSpec.pre6 enc Tryz.prog Tryz.f3 Rows.evalAdmitsRow.domain false) (Rows.evalAdmitsSpec.post enc Tryz.prog Tryz.f3 false true false false) :=
  uR (C:=Tryz.checked) (d:=6) Tryz.own started (by kernel_rfl) Tryz.func3 (by rfl) (by rfl) Tryz.laidOut (by kernel_rfl) (by kernel_rfl) rfl (by kernel_rfl) rfl
    (fun ds h=>match ds,h with | [_,_,_],_=>⟨rfl,rfl,rfl⟩)
    (ChangeSpec.witness6 (enc:=enc) (C:=Tryz.checked) false ⟨#[],#[.slice none 0 0,.slice none 0 0,.agg #[.int .i64 0,.slice none 0 0,.int .i64 0,.int .i64 0,.slice none 0 0]],[]⟩ 8 (by kernel_rfl) (by kernel_rfl) (by kernel_rfl) (by kernel_rfl))
    (fun avs h=>evalAdmits_calls avs h)
theorem and_t {a b:Bool} (h:a=true) (k:b=true):(a&&b)=true:=by rw [h,k];rfl
set_option maxHeartbeats 8000000 in
set_option maxRecDepth 100000 in
theorem evalAdmits_closed:joinedFacts Tryz.pinned.checked.prog 3 Tryz.f3 Rows.evalAdmitsSpec Rows.evalAdmitsRow=true:=by
  unfold joinedFacts
  iterate 31 refine and_t ?_ ?_
  all_goals as_aux_lemma=>kernel_rfl
theorem evalAdmits_holds:Rows.EvalAdmitsSaid :=
  OpenClaim.holds_of_wide 3 Tryz.f3 rfl rfl rfl rfl rfl rfl rfl ⟨rfl,rfl,rfl,rfl,rfl⟩ rfl rfl rfl rfl rfl (by kernel_rfl) Tryz.func3 evalAdmits_closed
    (of_decide_eq_true (by kernel_rfl)) (by unfold Func.isWrapper;first | (rw [if_pos (by decide +kernel)];kernel_rfl) | (rw [if_neg (by decide +kernel)];exact ⟨rfl,rfl⟩))
    (fun os started H enc _=>evalAdmits_lifted os started H enc)
#print axioms evalAdmits_holds
end Go.Proofs.YtokjjhidigoodaaGreat

