/- Contracts and plain laws, a part of the proof; no condition of its own. -/
import Derived.Test.YtjnhidpnfdbmaaaGreatRows
import Derived.Test.YtjnhidpnfdbmaaaGreatR21j
import Derived.Test.YtjnhidpnfdbmaaaGreatTY12
/- Whatever the codes: what a role sees of an entry does not depend on what it may not see: RolesBlind returns true. No condition. -/
open Go Go.AL Go.Proofs
namespace Go.AL
set_option linter.all false
set_option maxRecDepth 10000
theorem rolesBlind_calls (avs:List AV) (h:tyA Tryz.prog 6 [22,22] avs):ACalls Tryz.prog 5 avs H0 (.ret (.bool true)) H0:=by
  match avs,h with
  | [x0,x1],h =>
    obtain ⟨h0,h1,_⟩:=h
    obtain ⟨l1,rfl,hl1⟩:=Cs (d:=3) h0
    obtain ⟨l2,rfl,hl2⟩:=Cs (d:=3) h1
    obtain ⟨v,hv,hc⟩:=ok_RolesBlind.1 rfl [.slice .any 1 l1,.slice .any 1 l2] H0 (fun v=>v=.bool true) ⟨⟨hl1,hl2⟩,rfl⟩
    subst hv
    exact hc
  | [],h=>exact h.elim
  | [_],h=>exact h.2.elim
  | _::_::_::_,h=>exact h.2.2.elim
end Go.AL
namespace Go.Proofs.YtjnhidpnfdbmaaaGreat
open Go.AL
theorem Tryz.own:ownKnob Tryz.prog.godebug=none:=by kernel_rfl
theorem Tryz.laidOut:laidOutB Tryz.prog=true:=by kernel_rfl
set_option maxRecDepth 100000 in
theorem rolesBlind_lifted (os:Os) (started:os.Started) (H:Type) (enc:TypeId × Value→H) :
    ReturnsInHanded {} Tryz.checked os 5 .any (Rows.rolesBlindSpec.pre6 enc Tryz.prog Tryz.f5 Rows.rolesBlindRow.domain false) (Rows.rolesBlindSpec.post enc Tryz.prog Tryz.f5 false true false false) :=
  u4 (C:=Tryz.checked) (d:=6) Tryz.own started (by kernel_rfl) Tryz.func5 (by rfl) (by rfl) Tryz.laidOut (by kernel_rfl) (by kernel_rfl) rfl (by kernel_rfl) rfl
    (fun ds h=>match ds,h with | [_,_],_=>⟨rfl,rfl,rfl⟩)
    (ChangeSpec.witness6 (enc:=enc) (C:=Tryz.checked) false ⟨#[],#[.slice none 0 0,.slice none 0 0],[]⟩ 8 (by kernel_rfl) (by kernel_rfl) (by kernel_rfl) (by kernel_rfl))
    (fun avs h=>rolesBlind_calls avs h)
theorem and_t {a b:Bool} (h:a=true) (k:b=true):(a&&b)=true:=by rw [h,k];rfl
set_option maxHeartbeats 8000000 in
set_option maxRecDepth 100000 in
theorem rolesBlind_closed:joinedFacts Tryz.pinned.checked.prog 5 Tryz.f5 Rows.rolesBlindSpec Rows.rolesBlindRow=true:=by
  unfold joinedFacts
  iterate 31 refine and_t ?_ ?_
  all_goals as_aux_lemma=>kernel_rfl
theorem rolesBlind_holds:Rows.RolesBlindSaid :=
  OpenClaim.holds_of_wide 5 Tryz.f5 rfl rfl rfl rfl rfl rfl rfl ⟨rfl,rfl,rfl,rfl,rfl⟩ rfl rfl rfl rfl rfl (by kernel_rfl) Tryz.func5 rolesBlind_closed
    (of_decide_eq_true (by kernel_rfl)) (by unfold Func.isWrapper;first | (rw [if_pos (by decide +kernel)];kernel_rfl) | (rw [if_neg (by decide +kernel)];exact ⟨rfl,rfl⟩))
    (fun os started H enc _=>rolesBlind_lifted os started H enc)
#print axioms rolesBlind_holds
end Go.Proofs.YtjnhidpnfdbmaaaGreat

