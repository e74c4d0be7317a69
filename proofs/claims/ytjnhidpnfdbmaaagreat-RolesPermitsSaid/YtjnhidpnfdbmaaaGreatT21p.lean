/- Contracts and plain laws, a part of the proof; no condition of its own. -/
import Derived.Test.YtjnhidpnfdbmaaaGreatRows
import Derived.Test.YtjnhidpnfdbmaaaGreatR21l
import Derived.Test.YtjnhidpnfdbmaaaGreatTY12
/- Whatever the codes, the entry, the numbers and the value: Permit returns the documented error for any update under any role: RolesPermits returns true. No condition. -/
open Go Go.AL Go.Proofs
namespace Go.AL
set_option linter.all false
set_option maxRecDepth 10000
theorem rolesPermits_calls(avs:List AV)(h:tyA Tryz.prog 6 [22,22,26,3,3,3,29] avs):ACalls Tryz.prog 3 avs H0 (.ret (.bool true)) H0:=by
  match avs,h with
  | [x0,x1,x2,x3,x4,x5,x6],h =>
    obtain⟨h0,h1,h2,h3,h4,h5,h6,_⟩:=h
    obtain⟨l1,rfl,hl1⟩:=Ga (d:=3) h0
    obtain⟨l2,rfl,hl2⟩:=Ga (d:=3) h1
    obtain⟨e0,rfl,he0⟩:=Nk (d:=1) h2
    obtain⟨r,rfl,hr0,hr1⟩:=Kv (d:=5) h3
    obtain⟨c,rfl,hc0,hc1⟩:=Kv (d:=5) h4
    obtain⟨n,rfl,hn0,hn1⟩:=Kv (d:=5) h5
    obtain⟨hi,lo,rfl,hv⟩:=Kh (d:=4) h6
    obtain⟨v,hv,hc⟩:=ok_RolesPermits.1 rfl [.slice .any 1 l1,.slice .any 1 l2,.agg (a9 e0),.int .i64 r,.int .i64 c,.int .i64 n,.agg [.int .u64 hi,.int .u64 lo]] H0 (fun v=>v=.bool true) ⟨e0,⟨hl1,hl2,rfl,⟨he0.ok,⟨he0.ar,he0.ok.al⟩,⟨by have:=he0.ok.ml;omega,fun m hm=>by have:=(he0.pf m hm).2;omega,by have:=he0.pr.2;omega,he0.ok.mo,he0.ar⟩⟩,hr0,Xa,hc0,Xa,hn0,Xa,hv⟩,rfl⟩
    subst hv
    exact hc
  | [],h=>exact h.elim
  | [_],h=>exact h.2.elim
  | [_,_],h=>exact h.2.2.elim
  | [_,_,_],h=>exact h.2.2.2.elim
  | [_,_,_,_],h=>exact h.2.2.2.2.elim
  | [_,_,_,_,_],h=>exact h.2.2.2.2.2.elim
  | [_,_,_,_,_,_],h=>exact h.2.2.2.2.2.2.elim
  | _::_::_::_::_::_::_::_::_,h=>exact h.2.2.2.2.2.2.2.elim
end Go.AL
namespace Go.Proofs.YtjnhidpnfdbmaaaGreat
open Go.AL
theorem Tryz.own:ownKnob Tryz.prog.godebug=none:=Xh
theorem Tryz.laidOut:laidOutB Tryz.prog=true:=Xh
set_option maxRecDepth 100000 in
theorem rolesPermits_lifted(os:Os)(started:os.Started)(H:Type)(enc:TypeId × Value→H) :
    ReturnsInHanded {} Tryz.checked os 3 .any (Rows.rolesPermitsSpec.pre6 enc Tryz.prog Tryz.f3 Rows.rolesPermitsRow.domain false) (Rows.rolesPermitsSpec.post enc Tryz.prog Tryz.f3 false true false false) :=
  zj (C:=Tryz.checked) (d:=6) Tryz.own started Xh Tryz.func3 (by rfl) (by rfl) Tryz.laidOut Xh Xh rfl Xh rfl
    (fun ds h=>match ds,h with | [_,_,_,_,_,_,_],_=>⟨rfl,rfl,rfl⟩)
    (ChangeSpec.witness6 (enc:=enc) (C:=Tryz.checked) false ⟨#[],#[.slice none 0 0,.slice none 0 0,.agg #[.int .i64 0,.slice none 0 0,.int .i64 0,.int .i64 0,.slice none 0 0],.int .i64 0,.int .i64 0,.int .i64 0,.agg #[.int .u64 0,.int .u64 0]],[]⟩ 8 Xh Xh Xh Xh)
    (fun avs h=>rolesPermits_calls avs h)
theorem and_t{a b:Bool}(h:a=true)(k:b=true):(a&&b)=true:=by rw[h,k];rfl
set_option maxHeartbeats 8000000 in
set_option maxRecDepth 100000 in
theorem rolesPermits_closed:joinedFacts Tryz.pinned.checked.prog 3 Tryz.f3 Rows.rolesPermitsSpec Rows.rolesPermitsRow=true:=by
  unfold joinedFacts
  iterate 31 refine and_t ?_ ?_
  all_goals as_aux_lemma=>kernel_rfl
theorem rolesPermits_holds:Rows.RolesPermitsSaid :=
  OpenClaim.holds_of_wide 3 Tryz.f3 rfl rfl rfl rfl rfl rfl rfl ⟨rfl,rfl,rfl,rfl,rfl⟩ rfl rfl rfl rfl rfl Xh Tryz.func3 rolesPermits_closed
    (of_decide_eq_true Xh) (by unfold Func.isWrapper;first | (rw[if_pos (by decide +kernel)];kernel_rfl) | (rw[if_neg (by decide +kernel)];exact⟨rfl,rfl⟩))
    (fun os started H enc _=>rolesPermits_lifted os started H enc)
#print axioms rolesPermits_holds
end Go.Proofs.YtjnhidpnfdbmaaaGreat

