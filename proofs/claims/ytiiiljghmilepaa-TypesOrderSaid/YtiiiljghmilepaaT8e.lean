/- Contracts and plain laws, a part of the proof; no condition of its own. -/
import Derived.Test.YtiiiljghmilepaaRows
import Derived.Test.YtiiiljghmilepaaS08r
import Derived.Test.YtiiiljghmilepaaTY8
/- Whatever the codes and the numbers: the order of the variables makes no difference, and more variables accept at least as much: TypesOrder returns true. No condition. -/
open Go Go.AL Go.Proofs
namespace Go.AL
set_option linter.all false
set_option maxRecDepth 10000
theorem typesOrder_calls (avs:List AV) (h:tyA Try.prog 6 [22,3,3] avs):ACalls Try.prog 5 avs H0 (.ret (.bool true)) H0:=by
  match avs,h with
  | [x0,x1,x2],h =>
    obtain ⟨h0,h1,h2,_⟩:=h
    obtain ⟨l,rfl,hl⟩:=uw (d:=3) h0
    obtain ⟨n,rfl,hn0,hn1⟩:=uO (d:=5) h1
    obtain ⟨k,rfl,hk0,hk1⟩:=uO (d:=5) h2
    obtain ⟨v,hv,hc⟩:=ok_TypesOrder.1 rfl [.slice .any 1 l,.int .i64 n,.int .i64 k] H0 (fun v=>v=.bool true) ⟨⟨hl,hn0,hn1,hk0,hk1⟩,rfl⟩
    subst hv
    exact hc
  | [],h=>exact h.elim
  | [_],h=>exact h.2.elim
  | [_,_],h=>exact h.2.2.elim
  | _::_::_::_::_,h=>exact h.2.2.2.elim
end Go.AL
namespace Go.Proofs.Ytiiiljghmilepaa
open Go.AL
theorem Try.own:ownKnob Try.prog.godebug=none:=by kernel_rfl
theorem Try.laidOut:laidOutB Try.prog=true:=by kernel_rfl
set_option maxRecDepth 100000 in
theorem typesOrder_lifted (os:Os) (started:os.Started) (H:Type) (enc:TypeId × Value→H) :
    ReturnsInHanded {} Try.checked os 5 .any (Rows.typesOrderSpec.pre6 enc Try.prog Try.f5 Rows.typesOrderRow.domain false) (Rows.typesOrderSpec.post enc Try.prog Try.f5 false true false false) :=
  kT (C:=Try.checked) (d:=6) Try.own started (by kernel_rfl) Try.func5 (by rfl) (by rfl) Try.laidOut (by kernel_rfl) (by kernel_rfl) rfl (by kernel_rfl) rfl
    (fun ds h=>match ds,h with | [_,_,_],_=>⟨rfl,rfl,rfl⟩)
    (ChangeSpec.witness6 (enc:=enc) (C:=Try.checked) false ⟨#[],#[.slice none 0 0,.int .i64 0,.int .i64 0],[]⟩ 8 (by kernel_rfl) (by kernel_rfl) (by kernel_rfl) (by kernel_rfl))
    (fun avs h=>typesOrder_calls avs h)
theorem and_t {a b:Bool} (h:a=true) (k:b=true):(a&&b)=true:=by rw [h,k];rfl
set_option maxHeartbeats 8000000 in
set_option maxRecDepth 100000 in
theorem typesOrder_closed:joinedFacts Try.pinned.checked.prog 5 Try.f5 Rows.typesOrderSpec Rows.typesOrderRow=true:=by
  unfold joinedFacts
  iterate 31 refine and_t ?_ ?_
  all_goals as_aux_lemma=>kernel_rfl
theorem typesOrder_holds:Rows.TypesOrderSaid :=
  OpenClaim.holds_of_wide 5 Try.f5 rfl rfl rfl rfl rfl rfl rfl ⟨rfl,rfl,rfl,rfl,rfl⟩ rfl rfl rfl rfl rfl (by kernel_rfl) Try.func5 typesOrder_closed
    (of_decide_eq_true (by kernel_rfl)) (by unfold Func.isWrapper;first | (rw [if_pos (by decide +kernel)];kernel_rfl) | (rw [if_neg (by decide +kernel)];exact ⟨rfl,rfl⟩))
    (fun os started H enc _=>typesOrder_lifted os started H enc)
#print axioms typesOrder_holds
end Go.Proofs.Ytiiiljghmilepaa

