/- Contracts and plain laws, a part of the proof; no condition of its own. -/
import Derived.Test.YtiiiljghmilepaaRows
import Derived.Test.YtiiiljghmilepaaS08o
import Derived.Test.YtiiiljghmilepaaTY8v
/- Whatever the table, the action and the codes: TableVars and ActionVars return the documented variables: TypesVars returns true. No condition. -/
open Go Go.AL Go.Proofs
namespace Go.AL
set_option linter.all false
set_option maxRecDepth 10000
theorem typesVars_calls (avs:List AV) (h:tyA Try.prog 6 [69,73,22] avs):ACalls Try.prog 6 avs H0 (.ret (.bool true)) H0:=by
  match avs,h with
  | [x0,x1,x2],h =>
    obtain ⟨h0,h1,h2,_⟩:=h
    obtain ⟨t1,t2,tk,t3,t4,t5,t6,t7,rfl,htk⟩:=y4 (d:=2) h0
    obtain ⟨a1,a2,ap,a3,a4,rfl,hap⟩:=yQ (d:=2) h1
    obtain ⟨l,rfl,hl⟩:=wI (d:=3) h2
    obtain ⟨v,hv,hc⟩:=ok_TypesVars.1 rfl [.agg [t1,t2,.slice .any 3 tk,t3,t4,t5,t6,t7],.agg [a1,a2,.slice .any 2 ap,a3,a4],.slice .any 1 l] H0 (fun v=>v=.bool true) ⟨⟨htk,hap,hl⟩,rfl⟩
    subst hv
    exact hc
  | [],h=>exact h.elim
  | [_],h=>exact h.2.elim
  | [_,_],h=>exact h.2.2.elim
  | _::_::_::_::_,h=>exact h.2.2.2.elim
end Go.AL
namespace Go.Proofs.Ytiiiljghmilepaa
open Go.AL
theorem Try.own:ownKnob Try.prog.godebug=none:=by kernel_rfl
theorem Try.laidOut:laidOutB Try.prog=true:=by kernel_rfl
set_option maxRecDepth 100000 in
theorem typesVars_lifted (os:Os) (started:os.Started) (H:Type) (enc:TypeId × Value→H) :
    ReturnsInHanded {} Try.checked os 6 .any (Rows.typesVarsSpec.pre6 enc Try.prog Try.f6 Rows.typesVarsRow.domain false) (Rows.typesVarsSpec.post enc Try.prog Try.f6 false true false false) :=
  mD (C:=Try.checked) (d:=6) Try.own started (by kernel_rfl) Try.func6 (by rfl) (by rfl) Try.laidOut (by kernel_rfl) (by kernel_rfl) rfl (by kernel_rfl) rfl
    (fun ds h=>match ds,h with | [_,_,_],_=>⟨rfl,rfl,rfl⟩)
    (ChangeSpec.witness6 (enc:=enc) (C:=Try.checked) false ⟨#[],#[.agg #[.int .i64 0,.string ⟨#[]⟩,.slice none 0 0,.slice none 0 0,.int .i64 0,.slice none 0 0,.int .i64 0,.string ⟨#[]⟩],.agg #[.int .i64 0,.string ⟨#[]⟩,.slice none 0 0,.slice none 0 0,.string ⟨#[]⟩],.slice none 0 0],[]⟩ 8 (by kernel_rfl) (by kernel_rfl) (by kernel_rfl) (by kernel_rfl))
    (fun avs h=>typesVars_calls avs h)
theorem and_t {a b:Bool} (h:a=true) (k:b=true):(a&&b)=true:=by rw [h,k];rfl
set_option maxHeartbeats 8000000 in
set_option maxRecDepth 100000 in
theorem typesVars_closed:joinedFacts Try.pinned.checked.prog 6 Try.f6 Rows.typesVarsSpec Rows.typesVarsRow=true:=by
  unfold joinedFacts
  iterate 31 refine and_t ?_ ?_
  all_goals as_aux_lemma=>kernel_rfl
theorem typesVars_holds:Rows.TypesVarsSaid :=
  OpenClaim.holds_of_wide 6 Try.f6 rfl rfl rfl rfl rfl rfl rfl ⟨rfl,rfl,rfl,rfl,rfl⟩ rfl rfl rfl rfl rfl (by kernel_rfl) Try.func6 typesVars_closed
    (of_decide_eq_true (by kernel_rfl)) (by unfold Func.isWrapper;first | (rw [if_pos (by decide +kernel)];kernel_rfl) | (rw [if_neg (by decide +kernel)];exact ⟨rfl,rfl⟩))
    (fun os started H enc _=>typesVars_lifted os started H enc)
#print axioms typesVars_holds
end Go.Proofs.Ytiiiljghmilepaa

