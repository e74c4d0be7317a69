/- Contracts and plain laws, a part of the proof; no condition of its own. -/
import Derived.Test.YtiiiljghmilepaaGreatRows
import Derived.Test.YtiiiljghmilepaaGreatW04l
import Derived.Test.YtiiiljghmilepaaGreatTY3
/- Whatever the bytes, the codes, the place and the change: Decode returns the documented schema or the documented error: SchemaDecodes returns true. No condition. -/
open Go Go.AL Go.Proofs
namespace Go.AL
set_option linter.all false
set_option maxRecDepth 10000
theorem schemaDecodes_calls (avs:List AV) (h:tyA Tryz.prog 6 [22,22,3,5] avs):ACalls Tryz.prog 3 avs H0 (.ret (.bool true)) H0:=by
  match avs,h with
  | [x0,x1,x2,x3],h =>
    obtain ⟨h0,h1,h2,h3,_⟩:=h
    obtain ⟨p,rfl,hp⟩:=yQ (d:=3) h0
    obtain ⟨q,rfl,hq⟩:=yQ (d:=3) h1
    obtain ⟨n,rfl,hn0,hn1⟩:=HF (d:=5) h2
    obtain ⟨z,rfl,hz0,hz1⟩:=Il (d:=5) h3
    obtain ⟨v,hv,hc⟩:=ok_SchemaDecodes.1 rfl [.slice .any 1 p,.slice .any 1 q,.int .i64 n,.int .u8 z] H0 (fun v=>v=.bool true) ⟨⟨hp,hq,hn0,by omega,hz0,by omega⟩,rfl⟩
    subst hv
    exact hc
  | [],h=>exact h.elim
  | [_],h=>exact h.2.elim
  | [_,_],h=>exact h.2.2.elim
  | [_,_,_],h=>exact h.2.2.2.elim
  | _::_::_::_::_::_,h=>exact h.2.2.2.2.elim
end Go.AL
namespace Go.Proofs.YtiiiljghmilepaaGreat
open Go.AL
theorem Tryz.own:ownKnob Tryz.prog.godebug=none:=by kernel_rfl
theorem Tryz.laidOut:laidOutB Tryz.prog=true:=by kernel_rfl
set_option maxRecDepth 100000 in
theorem schemaDecodes_lifted (os:Os) (started:os.Started) (H:Type) (enc:TypeId × Value→H) :
    ReturnsInHanded {} Tryz.checked os 3 .any (Rows.schemaDecodesSpec.pre6 enc Tryz.prog Tryz.f3 Rows.schemaDecodesRow.domain false) (Rows.schemaDecodesSpec.post enc Tryz.prog Tryz.f3 false true false false) :=
  sV (C:=Tryz.checked) (d:=6) Tryz.own started (by kernel_rfl) Tryz.func3 (by rfl) (by rfl) Tryz.laidOut (by kernel_rfl) (by kernel_rfl) rfl (by kernel_rfl) rfl
    (fun ds h=>match ds,h with | [_,_,_,_],_=>⟨rfl,rfl,rfl⟩)
    (ChangeSpec.witness6 (enc:=enc) (C:=Tryz.checked) false ⟨#[],#[.slice none 0 0,.slice none 0 0,.int .i64 0,.int .u8 0],[]⟩ 8 (by kernel_rfl) (by kernel_rfl) (by kernel_rfl) (by kernel_rfl))
    (fun avs h=>schemaDecodes_calls avs h)
theorem and_t {a b:Bool} (h:a=true) (k:b=true):(a&&b)=true:=by rw [h,k];rfl
set_option maxHeartbeats 8000000 in
set_option maxRecDepth 100000 in
theorem schemaDecodes_closed:joinedFacts Tryz.pinned.checked.prog 3 Tryz.f3 Rows.schemaDecodesSpec Rows.schemaDecodesRow=true:=by
  unfold joinedFacts
  iterate 31 refine and_t ?_ ?_
  all_goals as_aux_lemma=>kernel_rfl
theorem schemaDecodes_holds:Rows.SchemaDecodesSaid :=
  OpenClaim.holds_of_wide 3 Tryz.f3 rfl rfl rfl rfl rfl rfl rfl ⟨rfl,rfl,rfl,rfl,rfl⟩ rfl rfl rfl rfl rfl (by kernel_rfl) Tryz.func3 schemaDecodes_closed
    (of_decide_eq_true (by kernel_rfl)) (by unfold Func.isWrapper;first | (rw [if_pos (by decide +kernel)];kernel_rfl) | (rw [if_neg (by decide +kernel)];exact ⟨rfl,rfl⟩))
    (fun os started H enc _=>schemaDecodes_lifted os started H enc)
#print axioms schemaDecodes_holds
end Go.Proofs.YtiiiljghmilepaaGreat

