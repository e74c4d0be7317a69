/- Contracts and plain laws, a part of the proof; no condition of its own. -/
import Derived.Test.YthhmookokgiemaaGreatRows
import Derived.Test.YthhmookokgiemaaGreatE06a
import Derived.Test.YthhmookokgiemaaGreatTY4
/- Whatever the schema, the codes and the number: the functions that find elements return the index of the first one with an ID: CheckFinds returns true. No condition. -/
open Go Go.AL Go.Proofs
namespace Go.AL
set_option linter.all false
set_option maxRecDepth 10000
theorem checkFinds_calls (avs:List AV) (h:tyA Tryz.prog 9 [34,22,3] avs):ACalls Tryz.prog 7 avs H0 (.ret (.bool true)) H0:=by
  match avs,h with
  | [x0,x1,x2],h =>
    obtain ⟨h0,h1,h2,_⟩:=h
    obtain ⟨s0,rfl,hs0⟩:=Kz (d:=1) h0
    obtain ⟨l,rfl,hl⟩:=Ic (d:=6) h1
    obtain ⟨n,rfl,hn0,hn1⟩:=JN (d:=8) h2
    obtain ⟨v,hv,hc⟩:=ok_CheckFinds.1 rfl [.agg (aG s0),.slice .any 1 l,.int .i64 n] H0 (fun v=>v=.bool true) ⟨s0,⟨rfl,hs0,hl,⟨hn0,by omega⟩⟩,rfl⟩
    subst hv
    exact hc
  | [],h=>exact h.elim
  | [_],h=>exact h.2.elim
  | [_,_],h=>exact h.2.2.elim
  | _::_::_::_::_,h=>exact h.2.2.2.elim
end Go.AL
namespace Go.Proofs.YthhmookokgiemaaGreat
open Go.AL
theorem Tryz.own:ownKnob Tryz.prog.godebug=none:=by kernel_rfl
theorem Tryz.laidOut:laidOutB Tryz.prog=true:=by kernel_rfl
set_option maxRecDepth 100000 in
theorem checkFinds_lifted (os:Os) (started:os.Started) (H:Type) (enc:TypeId × Value→H) :
    ReturnsInHanded {} Tryz.checked os 7 .any (Rows.checkFindsSpec.pre6 enc Tryz.prog Tryz.f7 Rows.checkFindsRow.domain false) (Rows.checkFindsSpec.post enc Tryz.prog Tryz.f7 false true false false) :=
  rX (C:=Tryz.checked) (d:=9) Tryz.own started (by kernel_rfl) Tryz.func7 (by rfl) (by rfl) Tryz.laidOut (by kernel_rfl) (by kernel_rfl) rfl (by kernel_rfl) rfl
    (fun ds h=>match ds,h with | [_,_,_],_=>⟨rfl,rfl,rfl⟩)
    (ChangeSpec.witness6 (enc:=enc) (C:=Tryz.checked) false ⟨#[],#[.agg #[.slice none 0 0,.slice none 0 0,.slice none 0 0,.slice none 0 0,.slice none 0 0,.slice none 0 0,.slice none 0 0,.slice none 0 0,.int .i64 0,.int .i64 0],.slice none 0 0,.int .i64 0],[]⟩ 8 (by kernel_rfl) (by kernel_rfl) (by kernel_rfl) (by kernel_rfl))
    (fun avs h=>checkFinds_calls avs h)
theorem and_t {a b:Bool} (h:a=true) (k:b=true):(a&&b)=true:=by rw [h,k];rfl
set_option maxHeartbeats 8000000 in
set_option maxRecDepth 100000 in
theorem checkFinds_closed:joinedFacts Tryz.pinned.checked.prog 7 Tryz.f7 Rows.checkFindsSpec Rows.checkFindsRow=true:=by
  unfold joinedFacts
  iterate 31 refine and_t ?_ ?_
  all_goals as_aux_lemma=>kernel_rfl
theorem checkFinds_holds:Rows.CheckFindsSaid :=
  OpenClaim.holds_of_wide 7 Tryz.f7 rfl rfl rfl rfl rfl rfl rfl ⟨rfl,rfl,rfl,rfl,rfl⟩ rfl rfl rfl rfl rfl (by kernel_rfl) Tryz.func7 checkFinds_closed
    (of_decide_eq_true (by kernel_rfl)) (by unfold Func.isWrapper;first | (rw [if_pos (by decide +kernel)];kernel_rfl) | (rw [if_neg (by decide +kernel)];exact ⟨rfl,rfl⟩))
    (fun os started H enc _=>checkFinds_lifted os started H enc)
#print axioms checkFinds_holds
end Go.Proofs.YthhmookokgiemaaGreat

