/- Contracts and plain laws, a part of the proof; no condition of its own. -/
import Derived.Test.YthnlhjalhflgfaaGreatRows
import Derived.Test.YthnlhjalhflgfaaGreatE07b
import Derived.Test.YthnlhjalhflgfaaGreatTY3
/- Whatever the codes and the numbers: oA orders of the tables are the same, hold every table once, and put every table behind those it refers to: CheckOrders returns true. No condition. -/
open Go Go.AL Go.Proofs
namespace Go.AL
set_option linter.all false
set_option maxRecDepth 10000
theorem checkOrders_calls (avs:List AV) (h:tyA Tryz.prog 6 [22,3,3] avs):ACalls Tryz.prog 7 avs H0 (.ret (.bool true)) H0:=by
  match avs,h with
  | [x0,x1,x2],h =>
    obtain ⟨h0,h1,h2,_⟩:=h
    obtain ⟨l,rfl,hl⟩:=MS (d:=3) h0
    obtain ⟨a,rfl,ha0,ha1⟩:=PL (d:=5) h1
    obtain ⟨b,rfl,hb0,hb1⟩:=PL (d:=5) h2
    obtain ⟨v,hv,hc⟩:=ok_CheckOrders.1 rfl [.slice .any 1 l,.int .i64 a,.int .i64 b] H0 (fun v=>v=.bool true) ⟨⟨hl,⟨ha0,by omega⟩,⟨hb0,by omega⟩⟩,rfl⟩
    subst hv
    exact hc
  | [],h=>exact h.elim
  | [_],h=>exact h.2.elim
  | [_,_],h=>exact h.2.2.elim
  | _::_::_::_::_,h=>exact h.2.2.2.elim
end Go.AL
namespace Go.Proofs.YthnlhjalhflgfaaGreat
open Go.AL
theorem Tryz.own:ownKnob Tryz.prog.godebug=none:=by kernel_rfl
theorem Tryz.laidOut:laidOutB Tryz.prog=true:=by kernel_rfl
set_option maxRecDepth 100000 in
theorem checkOrders_lifted (os:Os) (started:os.Started) (H:Type) (enc:TypeId × Value→H) :
    ReturnsInHanded {} Tryz.checked os 7 .any (Rows.checkOrdersSpec.pre6 enc Tryz.prog Tryz.f7 Rows.checkOrdersRow.domain false) (Rows.checkOrdersSpec.post enc Tryz.prog Tryz.f7 false true false false) :=
  v8 (C:=Tryz.checked) (d:=6) Tryz.own started (by kernel_rfl) Tryz.func7 (by rfl) (by rfl) Tryz.laidOut (by kernel_rfl) (by kernel_rfl) rfl (by kernel_rfl) rfl
    (fun ds h=>match ds,h with | [_,_,_],_=>⟨rfl,rfl,rfl⟩)
    (ChangeSpec.witness6 (enc:=enc) (C:=Tryz.checked) false ⟨#[],#[.slice none 0 0,.int .i64 0,.int .i64 0],[]⟩ 8 (by kernel_rfl) (by kernel_rfl) (by kernel_rfl) (by kernel_rfl))
    (fun avs h=>checkOrders_calls avs h)
theorem and_t {a b:Bool} (h:a=true) (k:b=true):(a&&b)=true:=by rw [h,k];rfl
set_option maxHeartbeats 8000000 in
set_option maxRecDepth 100000 in
theorem checkOrders_closed:joinedFacts Tryz.pinned.checked.prog 7 Tryz.f7 Rows.checkOrdersSpec Rows.checkOrdersRow=true:=by
  unfold joinedFacts
  iterate 31 refine and_t ?_ ?_
  all_goals as_aux_lemma=>kernel_rfl
theorem checkOrders_holds:Rows.CheckOrdersSaid :=
  OpenClaim.holds_of_wide 7 Tryz.f7 rfl rfl rfl rfl rfl rfl rfl ⟨rfl,rfl,rfl,rfl,rfl⟩ rfl rfl rfl rfl rfl (by kernel_rfl) Tryz.func7 checkOrders_closed
    (of_decide_eq_true (by kernel_rfl)) (by unfold Func.isWrapper;first | (rw [if_pos (by decide +kernel)];kernel_rfl) | (rw [if_neg (by decide +kernel)];exact ⟨rfl,rfl⟩))
    (fun os started H enc _=>checkOrders_lifted os started H enc)
#print axioms checkOrders_holds
end Go.Proofs.YthnlhjalhflgfaaGreat

