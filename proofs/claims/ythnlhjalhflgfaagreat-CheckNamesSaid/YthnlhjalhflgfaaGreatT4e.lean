/- Contracts and plain laws, a part of the proof; no condition of its own. -/
import Derived.Test.YthnlhjalhflgfaaGreatRows
import Derived.Test.YthnlhjalhflgfaaGreatE06d
import Derived.Test.YthnlhjalhflgfaaGreatTY3
/- Whatever the codes and the numbers: other names of the fields, and other orders of roles and references, make no difference for Check: CheckNames returns true. No condition. -/
open Go Go.AL Go.Proofs
namespace Go.AL
set_option linter.all false
set_option maxRecDepth 10000
theorem checkNames_calls (avs:List AV) (h:tyA Tryz.prog 6 [22,3,3,3] avs):ACalls Tryz.prog 5 avs H0 (.ret (.bool true)) H0:=by
  match avs,h with
  | [x0,x1,x2,x3],h =>
    obtain ⟨h0,h1,h2,h3,_⟩:=h
    obtain ⟨l,rfl,hl⟩:=JH (d:=3) h0
    obtain ⟨q,rfl,hq0,hq1⟩:=Gj (d:=5) h1
    obtain ⟨a,rfl,ha0,ha1⟩:=Gj (d:=5) h2
    obtain ⟨n,rfl,hn0,hn1⟩:=Gj (d:=5) h3
    obtain ⟨v,hv,hc⟩:=ok_CheckNames.1 rfl [.slice .any 1 l,.int .i64 q,.int .i64 a,.int .i64 n] H0 (fun v=>v=.bool true) ⟨⟨hl,⟨hq0,by omega⟩,⟨ha0,by omega⟩⟩,rfl⟩
    subst hv
    exact hc
  | [],h=>exact h.elim
  | [_],h=>exact h.2.elim
  | [_,_],h=>exact h.2.2.elim
  | [_,_,_],h=>exact h.2.2.2.elim
  | _::_::_::_::_::_,h=>exact h.2.2.2.2.elim
end Go.AL
namespace Go.Proofs.YthnlhjalhflgfaaGreat
open Go.AL
theorem Tryz.own:ownKnob Tryz.prog.godebug=none:=by kernel_rfl
theorem Tryz.laidOut:laidOutB Tryz.prog=true:=by kernel_rfl
set_option maxRecDepth 100000 in
theorem checkNames_lifted (os:Os) (started:os.Started) (H:Type) (enc:TypeId × Value→H) :
    ReturnsInHanded {} Tryz.checked os 5 .any (Rows.checkNamesSpec.pre6 enc Tryz.prog Tryz.f5 Rows.checkNamesRow.domain false) (Rows.checkNamesSpec.post enc Tryz.prog Tryz.f5 false true false false) :=
  sX (C:=Tryz.checked) (d:=6) Tryz.own started (by kernel_rfl) Tryz.func5 (by rfl) (by rfl) Tryz.laidOut (by kernel_rfl) (by kernel_rfl) rfl (by kernel_rfl) rfl
    (fun ds h=>match ds,h with | [_,_,_,_],_=>⟨rfl,rfl,rfl⟩)
    (ChangeSpec.witness6 (enc:=enc) (C:=Tryz.checked) false ⟨#[],#[.slice none 0 0,.int .i64 0,.int .i64 0,.int .i64 0],[]⟩ 8 (by kernel_rfl) (by kernel_rfl) (by kernel_rfl) (by kernel_rfl))
    (fun avs h=>checkNames_calls avs h)
theorem and_t {a b:Bool} (h:a=true) (k:b=true):(a&&b)=true:=by rw [h,k];rfl
set_option maxHeartbeats 8000000 in
set_option maxRecDepth 100000 in
theorem checkNames_closed:joinedFacts Tryz.pinned.checked.prog 5 Tryz.f5 Rows.checkNamesSpec Rows.checkNamesRow=true:=by
  unfold joinedFacts
  iterate 31 refine and_t ?_ ?_
  all_goals as_aux_lemma=>kernel_rfl
theorem checkNames_holds:Rows.CheckNamesSaid :=
  OpenClaim.holds_of_wide 5 Tryz.f5 rfl rfl rfl rfl rfl rfl rfl ⟨rfl,rfl,rfl,rfl,rfl⟩ rfl rfl rfl rfl rfl (by kernel_rfl) Tryz.func5 checkNames_closed
    (of_decide_eq_true (by kernel_rfl)) (by unfold Func.isWrapper;first | (rw [if_pos (by decide +kernel)];kernel_rfl) | (rw [if_neg (by decide +kernel)];exact ⟨rfl,rfl⟩))
    (fun os started H enc _=>checkNames_lifted os started H enc)
#print axioms checkNames_holds
end Go.Proofs.YthnlhjalhflgfaaGreat

