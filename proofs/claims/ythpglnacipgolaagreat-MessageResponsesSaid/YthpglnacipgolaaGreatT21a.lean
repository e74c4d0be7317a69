/- Contracts and plain laws, a part of the proof; no condition of its own. -/
import Derived.Test.YthpglnacipgolaaGreatRows
import Derived.Test.YthpglnacipgolaaGreatM21h
import Derived.Test.YthpglnacipgolaaGreatTY20
/- Whatever the response, the codes, the numbers and the byte: EncodeResponse and DecodeResponse return the documented results, or the documented errors: MessageResponses returns true. No condition. -/
open Go Go.AL Go.Proofs
namespace Go.AL
set_option linter.all false
set_option maxRecDepth 10000
theorem messageResponses_calls (avs:List AV) (h:tyA Tryz.prog 7 [60,32,32,3,3,5] avs):ACalls Tryz.prog 5 avs H0 (.ret (.bool true)) H0:=by
  match avs,h with
  | [x0,x1,x2,x3,x4,x5],h =>
    obtain ⟨h0,h1,h2,h3,h4,h5,_⟩:=h
    obtain ⟨A,rfl,hA⟩:=tyResp (d:=0) h0
    obtain ⟨l1,rfl,hl1⟩:=tyBytes (d:=4) h1
    obtain ⟨l2,rfl,hl2⟩:=tyBytes (d:=4) h2
    obtain ⟨a,rfl,ha0,ha1⟩:=tyInt (d:=6) h3
    obtain ⟨n,rfl,hn0,hn1⟩:=tyInt (d:=6) h4
    obtain ⟨b,rfl,hb0,hb1⟩:=tyU8 (d:=6) h5
    obtain ⟨v,hv,hc⟩:=ok_MessageResponses.1 rfl [.agg (respC A),.slice .any 1 l1,.slice .any 1 l2,.int .i64 a,.int .i64 n,.int .u8 b] H0 (fun v=>v=.bool true) ⟨A,⟨rfl,hA,hl1,hl2,ha0,by omega,hb0,by omega⟩,rfl⟩
    subst hv
    exact hc
  | [],h=>exact h.elim
  | [_],h=>exact h.2.elim
  | [_,_],h=>exact h.2.2.elim
  | [_,_,_],h=>exact h.2.2.2.elim
  | [_,_,_,_],h=>exact h.2.2.2.2.elim
  | [_,_,_,_,_],h=>exact h.2.2.2.2.2.elim
  | _::_::_::_::_::_::_::_,h=>exact h.2.2.2.2.2.2.elim
end Go.AL
namespace Go.Proofs.YthpglnacipgolaaGreat
open Go.AL
theorem Tryz.own:ownKnob Tryz.prog.godebug=none:=by kernel_rfl
theorem Tryz.laidOut:laidOutB Tryz.prog=true:=by kernel_rfl
set_option maxRecDepth 100000 in
theorem messageResponses_lifted (os:Os) (started:os.Started) (H:Type) (enc:TypeId × Value→H) :
    ReturnsInHanded {} Tryz.checked os 5 .any (Rows.messageResponsesSpec.pre6 enc Tryz.prog Tryz.f5 Rows.messageResponsesRow.domain false) (Rows.messageResponsesSpec.post enc Tryz.prog Tryz.f5 false true false false) :=
  law_of_acalls (C:=Tryz.checked) (d:=7) Tryz.own started (by kernel_rfl) Tryz.func5 (by rfl) (by rfl) Tryz.laidOut (by kernel_rfl) (by kernel_rfl) rfl (by kernel_rfl) rfl
    (fun ds h=>match ds,h with | [_,_,_,_,_,_],_=>⟨rfl,rfl,rfl⟩)
    (ChangeSpec.witness6 (enc:=enc) (C:=Tryz.checked) false ⟨#[],#[.agg #[.int .i64 0,.int .i64 0,.bool false,.slice none 0 0,.slice none 0 0,.bool false,.int .i64 0,.int .i64 0,.slice none 0 0],.slice none 0 0,.slice none 0 0,.int .i64 0,.int .i64 0,.int .u8 0],[]⟩ 8 (by kernel_rfl) (by kernel_rfl) (by kernel_rfl) (by kernel_rfl))
    (fun avs h=>messageResponses_calls avs h)
theorem and_t {a b:Bool} (h:a=true) (k:b=true):(a&&b)=true:=by rw [h,k];rfl
set_option maxHeartbeats 8000000 in
set_option maxRecDepth 100000 in
theorem messageResponses_closed:joinedFacts Tryz.pinned.checked.prog 5 Tryz.f5 Rows.messageResponsesSpec Rows.messageResponsesRow=true:=by
  unfold joinedFacts
  iterate 31 refine and_t ?_ ?_
  all_goals as_aux_lemma=>kernel_rfl
theorem messageResponses_holds:Rows.MessageResponsesSaid :=
  OpenClaim.holds_of_wide 5 Tryz.f5 rfl rfl rfl rfl rfl rfl rfl ⟨rfl,rfl,rfl,rfl,rfl⟩ rfl rfl rfl rfl rfl (by kernel_rfl) Tryz.func5 messageResponses_closed
    (of_decide_eq_true (by kernel_rfl)) (by unfold Func.isWrapper;first | (rw [if_pos (by decide +kernel)];kernel_rfl) | (rw [if_neg (by decide +kernel)];exact ⟨rfl,rfl⟩))
    (fun os started H enc _=>messageResponses_lifted os started H enc)
#print axioms messageResponses_holds
end Go.Proofs.YthpglnacipgolaaGreat

