/- Contracts and plain laws, a part of the proof; no condition of its own. -/
import Derived.Test.YtiiiljghmilepaaRows
import Derived.Test.YtiiiljghmilepaaS08p
import Derived.Test.YtiiiljghmilepaaTY8
/- Whatever the codes and the number: Check returns the documented index and error for all trees of sentences: TypesChecks returns true. No condition. -/
open Go Go.AL Go.Proofs
namespace Go.AL
set_option linter.all false
set_option maxRecDepth 10000
theorem typesChecks_calls (avs:List AV) (h:tyA Try.prog 6 [22,3,4] avs):ACalls Try.prog 3 avs H0 (.ret (.bool true)) H0:=by
  match avs,h with
  | [x0,x1,x2],h =>
    obtain ⟨h0,h1,h2,_⟩:=h
    obtain ⟨l,rfl,hl⟩:=yk (d:=3) h0
    obtain ⟨n,rfl,hn0,hn1⟩:=Al (d:=5) h1
    obtain ⟨g,rfl⟩:=zY (d:=5) h2
    obtain ⟨v,hv,hc⟩:=ok_TypesChecks.1 rfl [.slice .any 1 l,.int .i64 n,.bool g] H0 (fun v=>v=.bool true) ⟨⟨hl,hn0,hn1⟩,rfl⟩
    subst hv
    exact hc
  | [],h=>exact h.elim
  | [_],h=>exact h.2.elim
  | [_,_],h=>exact h.2.2.elim
  | _::_::_::_::_,h=>exact h.2.2.2.elim
end Go.AL
namespace Go.Proofs.Ytiiiljghmilepaa
open Go.AL
theorem Try.own:ownKnob Try.prog.godebug=none:=by kernel_rfl
theorem Try.laidOut:laidOutB Try.prog=true:=by kernel_rfl
set_option maxRecDepth 100000 in
theorem typesChecks_lifted (os:Os) (started:os.Started) (H:Type) (enc:TypeId × Value→H) :
    ReturnsInHanded {} Try.checked os 3 .any (Rows.typesChecksSpec.pre6 enc Try.prog Try.f3 Rows.typesChecksRow.domain false) (Rows.typesChecksSpec.post enc Try.prog Try.f3 false true false false) :=
  nK (C:=Try.checked) (d:=6) Try.own started (by kernel_rfl) Try.func3 (by rfl) (by rfl) Try.laidOut (by kernel_rfl) (by kernel_rfl) rfl (by kernel_rfl) rfl
    (fun ds h=>match ds,h with | [_,_,_],_=>⟨rfl,rfl,rfl⟩)
    (ChangeSpec.witness6 (enc:=enc) (C:=Try.checked) false ⟨#[],#[.slice none 0 0,.int .i64 0,.bool false],[]⟩ 8 (by kernel_rfl) (by kernel_rfl) (by kernel_rfl) (by kernel_rfl))
    (fun avs h=>typesChecks_calls avs h)
theorem and_t {a b:Bool} (h:a=true) (k:b=true):(a&&b)=true:=by rw [h,k];rfl
set_option maxHeartbeats 8000000 in
set_option maxRecDepth 100000 in
theorem typesChecks_closed:joinedFacts Try.pinned.checked.prog 3 Try.f3 Rows.typesChecksSpec Rows.typesChecksRow=true:=by
  unfold joinedFacts
  iterate 31 refine and_t ?_ ?_
  all_goals as_aux_lemma=>kernel_rfl
theorem typesChecks_holds:Rows.TypesChecksSaid :=
  OpenClaim.holds_of_wide 3 Try.f3 rfl rfl rfl rfl rfl rfl rfl ⟨rfl,rfl,rfl,rfl,rfl⟩ rfl rfl rfl rfl rfl (by kernel_rfl) Try.func3 typesChecks_closed
    (of_decide_eq_true (by kernel_rfl)) (by unfold Func.isWrapper;first | (rw [if_pos (by decide +kernel)];kernel_rfl) | (rw [if_neg (by decide +kernel)];exact ⟨rfl,rfl⟩))
    (fun os started H enc _=>typesChecks_lifted os started H enc)
#print axioms typesChecks_holds
end Go.Proofs.Ytiiiljghmilepaa

