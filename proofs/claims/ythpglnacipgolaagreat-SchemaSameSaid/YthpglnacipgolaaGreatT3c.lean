/- Contracts and plain laws, a part of the proof; no condition of its own. -/
import Derived.Test.YthpglnacipgolaaGreatRows
import Derived.Test.YthpglnacipgolaaGreatTY3s
/- Whatever the schemas, the codes, the numbers and the text: Same compares as the documented comparison does, and every schema is the same as itself: SchemaSame returns true. No condition. -/
open Go Go.AL Go.Proofs
namespace Go.AL
set_option linter.all false
set_option maxRecDepth 10000
theorem schemaSame_calls (avs:List AV) (h:tyA Tryz.prog 9 [31,31,32,3,3,9] avs):ACalls Tryz.prog 8 avs H0 (.ret (.bool true)) H0:=by
  match avs,h with
  | [x0,x1,x2,x3,x4,x5],h =>
    obtain ⟨h0,h1,h2,h3,h4,h5,_⟩:=h
    obtain ⟨a,rfl,ha⟩:=tySchC (d:=1) h0
    obtain ⟨b,rfl,hb⟩:=tySchC (d:=1) h1
    obtain ⟨l,rfl,hl⟩:=tyBytes (d:=6) h2
    obtain ⟨w,rfl,hw0,hw1⟩:=tyInt (d:=8) h3
    obtain ⟨n,rfl,hn0,hn1⟩:=tyInt (d:=8) h4
    obtain ⟨t,rfl,ht⟩:=tyStr (d:=8) h5
    obtain ⟨v,hv,hc⟩:=ok_SchemaSame.1 rfl [.agg (schC a),.agg (schC b),.slice .any 1 l,.int .i64 w,.int .i64 n,.str t] H0 (fun v=>v=.bool true) ⟨a,b,⟨rfl,rfl,ha,hb,hl,hw0,by omega⟩,rfl⟩
    subst hv
    exact hc
  | [],h=>exact h.elim
  | [_],h=>exact h.2.elim
  | [_,_],h=>exact h.2.2.elim
  | [_,_,_],h=>exact h.2.2.2.elim
  | [_,_,_,_],h=>exact h.2.2.2.2.elim
  | [_,_,_,_,_],h=>exact h.2.2.2.2.2.elim
  | _::_::_::_::_::_::_::_,h=>exact h.2.2.2.2.2.2.elim
end Go.AL
namespace Go.Proofs.YthpglnacipgolaaGreat
open Go.AL
theorem Tryz.own:ownKnob Tryz.prog.godebug=none:=by kernel_rfl
theorem Tryz.laidOut:laidOutB Tryz.prog=true:=by kernel_rfl
set_option maxRecDepth 100000 in
theorem schemaSame_lifted (os:Os) (started:os.Started) (H:Type) (enc:TypeId × Value→H) :
    ReturnsInHanded {} Tryz.checked os 8 .any (Rows.schemaSameSpec.pre6 enc Tryz.prog Tryz.f8 Rows.schemaSameRow.domain false) (Rows.schemaSameSpec.post enc Tryz.prog Tryz.f8 false true false false) :=
  law_of_acalls (C:=Tryz.checked) (d:=9) Tryz.own started (by kernel_rfl) Tryz.func8 (by rfl) (by rfl) Tryz.laidOut (by kernel_rfl) (by kernel_rfl) rfl (by kernel_rfl) rfl
    (fun ds h=>match ds,h with | [_,_,_,_,_,_],_=>⟨rfl,rfl,rfl⟩)
    (ChangeSpec.witness6 (enc:=enc) (C:=Tryz.checked) false ⟨#[],#[.agg #[.slice none 0 0,.slice none 0 0,.slice none 0 0,.slice none 0 0,.slice none 0 0,.slice none 0 0,.slice none 0 0,.slice none 0 0,.int .i64 0,.int .i64 0],.agg #[.slice none 0 0,.slice none 0 0,.slice none 0 0,.slice none 0 0,.slice none 0 0,.slice none 0 0,.slice none 0 0,.slice none 0 0,.int .i64 0,.int .i64 0],.slice none 0 0,.int .i64 0,.int .i64 0,.string ⟨#[]⟩],[]⟩ 8 (by kernel_rfl) (by kernel_rfl) (by kernel_rfl) (by kernel_rfl))
    (fun avs h=>schemaSame_calls avs h)
theorem and_t {a b:Bool} (h:a=true) (k:b=true):(a&&b)=true:=by rw [h,k];rfl
set_option maxHeartbeats 8000000 in
set_option maxRecDepth 100000 in
theorem schemaSame_closed:joinedFacts Tryz.pinned.checked.prog 8 Tryz.f8 Rows.schemaSameSpec Rows.schemaSameRow=true:=by
  unfold joinedFacts
  iterate 31 refine and_t ?_ ?_
  all_goals as_aux_lemma=>kernel_rfl
theorem schemaSame_holds:Rows.SchemaSameSaid :=
  OpenClaim.holds_of_wide 8 Tryz.f8 rfl rfl rfl rfl rfl rfl rfl ⟨rfl,rfl,rfl,rfl,rfl⟩ rfl rfl rfl rfl rfl (by kernel_rfl) Tryz.func8 schemaSame_closed
    (of_decide_eq_true (by kernel_rfl)) (by unfold Func.isWrapper;first | (rw [if_pos (by decide +kernel)];kernel_rfl) | (rw [if_neg (by decide +kernel)];exact ⟨rfl,rfl⟩))
    (fun os started H enc _=>schemaSame_lifted os started H enc)
#print axioms schemaSame_holds
end Go.Proofs.YthpglnacipgolaaGreat

