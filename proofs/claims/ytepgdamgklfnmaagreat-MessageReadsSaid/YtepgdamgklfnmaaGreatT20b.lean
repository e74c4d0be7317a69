/- Contracts and plain laws, a part of the proof; no condition of its own. -/
import Derived.Test.YtepgdamgklfnmaaGreatRows
import Derived.Test.YtepgdamgklfnmaaGreatM20k
import Derived.Test.YtepgdamgklfnmaaGreatTY10
/- Whatever the bytes, the codes, the number and the byte: DecodeRequest returns the documented request, or the documented error: MessageReads returns true. No condition. -/
open Go Go.AL Go.Proofs
namespace Go.AL
set_option linter.all false
set_option maxRecDepth 10000
theorem messageReads_calls (avs:List AV) (h:tyA Tryz.prog 6 [26,26,26,3,5] avs):ACalls Tryz.prog 5 avs H0 (.ret (.bool true)) H0:=by
  match avs,h with
  | [x0,x1,x2,x3,x4],h =>
    obtain ⟨h0,h1,h2,h3,h4,_⟩:=h
    obtain ⟨l0,rfl,hl0⟩:=tyBytes (d:=3) h0
    obtain ⟨l1,rfl,hl1⟩:=tyBytes (d:=3) h1
    obtain ⟨l2,rfl,hl2⟩:=tyBytes (d:=3) h2
    obtain ⟨a,rfl,ha0,ha1⟩:=tyInt (d:=5) h3
    obtain ⟨b,rfl,hb0,hb1⟩:=tyU8 (d:=5) h4
    obtain ⟨v,hv,hc⟩:=ok_MessageReads.1 rfl [.slice .any 1 l0,.slice .any 1 l1,.slice .any 1 l2,.int .i64 a,.int .u8 b] H0 (fun v=>v=.bool true) ⟨⟨hl0,hl1,hl2,ha0,by omega,hb0,by omega⟩,rfl⟩
    subst hv
    exact hc
  | [],h=>exact h.elim
  | [_],h=>exact h.2.elim
  | [_,_],h=>exact h.2.2.elim
  | [_,_,_],h=>exact h.2.2.2.elim
  | [_,_,_,_],h=>exact h.2.2.2.2.elim
  | _::_::_::_::_::_::_,h=>exact h.2.2.2.2.2.elim
end Go.AL
namespace Go.Proofs.YtepgdamgklfnmaaGreat
open Go.AL
theorem Tryz.own:ownKnob Tryz.prog.godebug=none:=by kernel_rfl
theorem Tryz.laidOut:laidOutB Tryz.prog=true:=by kernel_rfl
set_option maxRecDepth 100000 in
theorem messageReads_lifted (os:Os) (started:os.Started) (H:Type) (enc:TypeId × Value→H) :
    ReturnsInHanded {} Tryz.checked os 5 .any (Rows.messageReadsSpec.pre6 enc Tryz.prog Tryz.f5 Rows.messageReadsRow.domain false) (Rows.messageReadsSpec.post enc Tryz.prog Tryz.f5 false true false false) :=
  law_of_acalls (C:=Tryz.checked) (d:=6) Tryz.own started (by kernel_rfl) Tryz.func5 (by rfl) (by rfl) Tryz.laidOut (by kernel_rfl) (by kernel_rfl) rfl (by kernel_rfl) rfl
    (fun ds h=>match ds,h with | [_,_,_,_,_],_=>⟨rfl,rfl,rfl⟩)
    (ChangeSpec.witness6 (enc:=enc) (C:=Tryz.checked) false ⟨#[],#[.slice none 0 0,.slice none 0 0,.slice none 0 0,.int .i64 0,.int .u8 0],[]⟩ 8 (by kernel_rfl) (by kernel_rfl) (by kernel_rfl) (by kernel_rfl))
    (fun avs h=>messageReads_calls avs h)
theorem messageReads_holds:Rows.MessageReadsSaid :=
  OpenClaim.holds_of_wide 5 Tryz.f5 rfl rfl rfl rfl rfl rfl rfl ⟨rfl,rfl,rfl,rfl,rfl⟩ rfl rfl rfl rfl rfl (by kernel_rfl) Tryz.func5 (by kernel_rfl)
    (of_decide_eq_true (by kernel_rfl)) (by unfold Func.isWrapper;first | (rw [if_pos (by decide +kernel)];kernel_rfl) | (rw [if_neg (by decide +kernel)];exact ⟨rfl,rfl⟩))
    (fun os started H enc _=>messageReads_lifted os started H enc)
#print axioms messageReads_holds
end Go.Proofs.YtepgdamgklfnmaaGreat

