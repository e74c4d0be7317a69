/- Contracts and plain laws, a part of the proof; no condition of its own. -/
import Derived.Test.YtpbnggedofiinaaGreatRows
import Derived.Test.YtpbnggedofiinaaGreatW05c
import Derived.Test.YtpbnggedofiinaaGreatTY3
/- Whatever the codes, the place and the change: a schema is recovered from its encoding, and every byte string that is accepted is the encoding of the result: SchemaBack returns true. No condition. -/
open Go Go.AL Go.Proofs
namespace Go.AL
set_option linter.all false
set_option maxRecDepth 10000
theorem schemaBack_calls (avs:List AV) (h:tyA Tryz.prog 6 [22,3,5] avs):ACalls Tryz.prog 4 avs H0 (.ret (.bool true)) H0:=by
  match avs,h with
  | [x0,x1,x2],h =>
    obtain ⟨h0,h1,h2,_⟩:=h
    obtain ⟨p,rfl,hp⟩:=F3 (d:=3) h0
    obtain ⟨n,rfl,hn0,hn1⟩:=Id (d:=5) h1
    obtain ⟨z,rfl,hz0,hz1⟩:=Ix (d:=5) h2
    obtain ⟨v,hv,hc⟩:=ok_SchemaBack.1 rfl [.slice .any 1 p,.int .i64 n,.int .u8 z] H0 (fun v=>v=.bool true) ⟨⟨hp,hn0,by omega,hz0,by omega,rfl⟩,rfl⟩
    subst hv
    exact hc
  | [],h=>exact h.elim
  | [_],h=>exact h.2.elim
  | [_,_],h=>exact h.2.2.elim
  | _::_::_::_::_,h=>exact h.2.2.2.elim
end Go.AL
namespace Go.Proofs.YtpbnggedofiinaaGreat
open Go.AL
theorem Tryz.own:ownKnob Tryz.prog.godebug=none:=by kernel_rfl
theorem Tryz.laidOut:laidOutB Tryz.prog=true:=by kernel_rfl
set_option maxRecDepth 100000 in
theorem schemaBack_lifted (os:Os) (started:os.Started) (H:Type) (enc:TypeId × Value→H) :
    ReturnsInHanded {} Tryz.checked os 4 .any (Rows.schemaBackSpec.pre6 enc Tryz.prog Tryz.f4 Rows.schemaBackRow.domain false) (Rows.schemaBackSpec.post enc Tryz.prog Tryz.f4 false true false false) :=
  sw (C:=Tryz.checked) (d:=6) Tryz.own started (by kernel_rfl) Tryz.func4 (by rfl) (by rfl) Tryz.laidOut (by kernel_rfl) (by kernel_rfl) rfl (by kernel_rfl) rfl
    (fun ds h=>match ds,h with | [_,_,_],_=>⟨rfl,rfl,rfl⟩)
    (ChangeSpec.witness6 (enc:=enc) (C:=Tryz.checked) false ⟨#[],#[.slice none 0 0,.int .i64 0,.int .u8 0],[]⟩ 8 (by kernel_rfl) (by kernel_rfl) (by kernel_rfl) (by kernel_rfl))
    (fun avs h=>schemaBack_calls avs h)
theorem and_t {a b:Bool} (h:a=true) (k:b=true):(a&&b)=true:=by rw [h,k];rfl
set_option maxHeartbeats 8000000 in
set_option maxRecDepth 100000 in
theorem schemaBack_closed:joinedFacts Tryz.pinned.checked.prog 4 Tryz.f4 Rows.schemaBackSpec Rows.schemaBackRow=true:=by
  unfold joinedFacts
  iterate 31 refine and_t ?_ ?_
  all_goals as_aux_lemma=>kernel_rfl
theorem schemaBack_holds:Rows.SchemaBackSaid :=
  OpenClaim.holds_of_wide 4 Tryz.f4 rfl rfl rfl rfl rfl rfl rfl ⟨rfl,rfl,rfl,rfl,rfl⟩ rfl rfl rfl rfl rfl (by kernel_rfl) Tryz.func4 schemaBack_closed
    (of_decide_eq_true (by kernel_rfl)) (by unfold Func.isWrapper;first | (rw [if_pos (by decide +kernel)];kernel_rfl) | (rw [if_neg (by decide +kernel)];exact ⟨rfl,rfl⟩))
    (fun os started H enc _=>schemaBack_lifted os started H enc)
#print axioms schemaBack_holds
end Go.Proofs.YtpbnggedofiinaaGreat

