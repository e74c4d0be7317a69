/- Contracts and plain laws, a part of the proof; no condition of its own. -/
import Derived.Test.YtpbnggedofiinaaGreatRows
import Derived.Test.YtpbnggedofiinaaGreatM22c
import Derived.Test.YtpbnggedofiinaaGreatTY10
/- Whatever the codes, the place and the change: requests and responses are recovered from their encodings, and every byte string that is accepted is the encoding of the result: MessageBack returns true. No condition. -/
open Go Go.AL Go.Proofs
namespace Go.AL
set_option linter.all false
set_option maxRecDepth 10000
theorem messageBack_calls (avs:List AV) (h:tyA Tryz.prog 6 [22,22,3,5] avs):ACalls Tryz.prog 3 avs H0 (.ret (.bool true)) H0:=by
  match avs,h with
  | [x0,x1,x2,x3],h =>
    obtain ⟨h0,h1,h2,h3,_⟩:=h
    obtain ⟨l1,rfl,hl1⟩:=Bx (d:=3) h0
    obtain ⟨l2,rfl,hl2⟩:=Bx (d:=3) h1
    obtain ⟨n,rfl,hn0,hn1⟩:=HA (d:=5) h2
    obtain ⟨b,rfl,hb0,hb1⟩:=Ie (d:=5) h3
    obtain ⟨v,hv,hc⟩:=ok_MessageBack.1 rfl [.slice .any 1 l1,.slice .any 1 l2,.int .i64 n,.int .u8 b] H0 (fun v=>v=.bool true) ⟨⟨hl1,hl2,hn0,by omega,hb0,by omega,rfl⟩,rfl⟩
    subst hv
    exact hc
  | [],h=>exact h.elim
  | [_],h=>exact h.2.elim
  | [_,_],h=>exact h.2.2.elim
  | [_,_,_],h=>exact h.2.2.2.elim
  | _::_::_::_::_::_,h=>exact h.2.2.2.2.elim
end Go.AL
namespace Go.Proofs.YtpbnggedofiinaaGreat
open Go.AL
theorem Tryz.own:ownKnob Tryz.prog.godebug=none:=by kernel_rfl
theorem Tryz.laidOut:laidOutB Tryz.prog=true:=by kernel_rfl
set_option maxRecDepth 100000 in
theorem messageBack_lifted (os:Os) (started:os.Started) (H:Type) (enc:TypeId × Value→H) :
    ReturnsInHanded {} Tryz.checked os 3 .any (Rows.messageBackSpec.pre6 enc Tryz.prog Tryz.f3 Rows.messageBackRow.domain false) (Rows.messageBackSpec.post enc Tryz.prog Tryz.f3 false true false false) :=
  uE (C:=Tryz.checked) (d:=6) Tryz.own started (by kernel_rfl) Tryz.func3 (by rfl) (by rfl) Tryz.laidOut (by kernel_rfl) (by kernel_rfl) rfl (by kernel_rfl) rfl
    (fun ds h=>match ds,h with | [_,_,_,_],_=>⟨rfl,rfl,rfl⟩)
    (ChangeSpec.witness6 (enc:=enc) (C:=Tryz.checked) false ⟨#[],#[.slice none 0 0,.slice none 0 0,.int .i64 0,.int .u8 0],[]⟩ 8 (by kernel_rfl) (by kernel_rfl) (by kernel_rfl) (by kernel_rfl))
    (fun avs h=>messageBack_calls avs h)
theorem and_t {a b:Bool} (h:a=true) (k:b=true):(a&&b)=true:=by rw [h,k];rfl
set_option maxHeartbeats 8000000 in
set_option maxRecDepth 100000 in
theorem messageBack_closed:joinedFacts Tryz.pinned.checked.prog 3 Tryz.f3 Rows.messageBackSpec Rows.messageBackRow=true:=by
  unfold joinedFacts
  iterate 31 refine and_t ?_ ?_
  all_goals as_aux_lemma=>kernel_rfl
theorem messageBack_holds:Rows.MessageBackSaid :=
  OpenClaim.holds_of_wide 3 Tryz.f3 rfl rfl rfl rfl rfl rfl rfl ⟨rfl,rfl,rfl,rfl,rfl⟩ rfl rfl rfl rfl rfl (by kernel_rfl) Tryz.func3 messageBack_closed
    (of_decide_eq_true (by kernel_rfl)) (by unfold Func.isWrapper;first | (rw [if_pos (by decide +kernel)];kernel_rfl) | (rw [if_neg (by decide +kernel)];exact ⟨rfl,rfl⟩))
    (fun os started H enc _=>messageBack_lifted os started H enc)
#print axioms messageBack_holds
end Go.Proofs.YtpbnggedofiinaaGreat

