/- Contracts and plain laws, a part of the proof; no condition of its own. -/
import Derived.Test.YtjnhidpnfdbmaaaGreatRows
import Derived.Test.YtjnhidpnfdbmaaaGreatR21k
import Derived.Test.YtjnhidpnfdbmaaaGreatTY12
/- Whatever the codes, the entry and the numbers: a role without a grant may not write, and a role that does not exist may do nothing: RolesNone returns true. No condition. -/
open Go Go.AL Go.Proofs
namespace Go.AL
set_option linter.all false
set_option maxRecDepth 10000
theorem rolesNone_calls (avs:List AV) (h:tyA Tryz.prog 6 [22,22,26,3,3] avs):ACalls Tryz.prog 6 avs H0 (.ret (.bool true)) H0:=by
  match avs,h with
  | [x0,x1,x2,x3,x4],h =>
    obtain ⟨h0,h1,h2,h3,h4,_⟩:=h
    obtain ⟨l1,rfl,hl1⟩:=B6 (d:=3) h0
    obtain ⟨l2,rfl,hl2⟩:=B6 (d:=3) h1
    obtain ⟨e0,rfl,he0⟩:=Hq (d:=1) h2
    obtain ⟨n,rfl,hn0,hn1⟩:=JP (d:=5) h3
    obtain ⟨c,rfl,hc0,hc1⟩:=JP (d:=5) h4
    obtain ⟨v,hv,hc⟩:=ok_RolesNone.1 rfl [.slice .any 1 l1,.slice .any 1 l2,.agg (aJ e0),.int .i64 n,.int .i64 c] H0 (fun v=>v=.bool true) ⟨e0,⟨hl1,hl2,rfl,⟨he0.ok,⟨he0.ar,he0.ok.al⟩,⟨by have:=he0.ok.ml;omega,fun m hm=>by have:=(he0.pf m hm).2;omega,by have:=he0.pr.2;omega,he0.ok.mo,he0.ar⟩⟩,hn0,by omega,hc0,by omega⟩,rfl⟩
    subst hv
    exact hc
  | [],h=>exact h.elim
  | [_],h=>exact h.2.elim
  | [_,_],h=>exact h.2.2.elim
  | [_,_,_],h=>exact h.2.2.2.elim
  | [_,_,_,_],h=>exact h.2.2.2.2.elim
  | _::_::_::_::_::_::_,h=>exact h.2.2.2.2.2.elim
end Go.AL
namespace Go.Proofs.YtjnhidpnfdbmaaaGreat
open Go.AL
theorem Tryz.own:ownKnob Tryz.prog.godebug=none:=by kernel_rfl
theorem Tryz.laidOut:laidOutB Tryz.prog=true:=by kernel_rfl
set_option maxRecDepth 100000 in
theorem rolesNone_lifted (os:Os) (started:os.Started) (H:Type) (enc:TypeId × Value→H) :
    ReturnsInHanded {} Tryz.checked os 6 .any (Rows.rolesNoneSpec.pre6 enc Tryz.prog Tryz.f6 Rows.rolesNoneRow.domain false) (Rows.rolesNoneSpec.post enc Tryz.prog Tryz.f6 false true false false) :=
  uz (C:=Tryz.checked) (d:=6) Tryz.own started (by kernel_rfl) Tryz.func6 (by rfl) (by rfl) Tryz.laidOut (by kernel_rfl) (by kernel_rfl) rfl (by kernel_rfl) rfl
    (fun ds h=>match ds,h with | [_,_,_,_,_],_=>⟨rfl,rfl,rfl⟩)
    (ChangeSpec.witness6 (enc:=enc) (C:=Tryz.checked) false ⟨#[],#[.slice none 0 0,.slice none 0 0,.agg #[.int .i64 0,.slice none 0 0,.int .i64 0,.int .i64 0,.slice none 0 0],.int .i64 0,.int .i64 0],[]⟩ 8 (by kernel_rfl) (by kernel_rfl) (by kernel_rfl) (by kernel_rfl))
    (fun avs h=>rolesNone_calls avs h)
theorem and_t {a b:Bool} (h:a=true) (k:b=true):(a&&b)=true:=by rw [h,k];rfl
set_option maxHeartbeats 8000000 in
set_option maxRecDepth 100000 in
theorem rolesNone_closed:joinedFacts Tryz.pinned.checked.prog 6 Tryz.f6 Rows.rolesNoneSpec Rows.rolesNoneRow=true:=by
  unfold joinedFacts
  iterate 31 refine and_t ?_ ?_
  all_goals as_aux_lemma=>kernel_rfl
theorem rolesNone_holds:Rows.RolesNoneSaid :=
  OpenClaim.holds_of_wide 6 Tryz.f6 rfl rfl rfl rfl rfl rfl rfl ⟨rfl,rfl,rfl,rfl,rfl⟩ rfl rfl rfl rfl rfl (by kernel_rfl) Tryz.func6 rolesNone_closed
    (of_decide_eq_true (by kernel_rfl)) (by unfold Func.isWrapper;first | (rw [if_pos (by decide +kernel)];kernel_rfl) | (rw [if_neg (by decide +kernel)];exact ⟨rfl,rfl⟩))
    (fun os started H enc _=>rolesNone_lifted os started H enc)
#print axioms rolesNone_holds
end Go.Proofs.YtjnhidpnfdbmaaaGreat

