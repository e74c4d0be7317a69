/- Contracts and plain laws, a part of the proof; no condition of its own. -/
import Derived.Test.YtokjjhidigoodaaRows
import Derived.Test.YtokjjhidigoodaaS09v
import Derived.Test.YtokjjhidigoodaaTY12
/- Whatever the table, the entry, the action, the codes and the number: Bind and BindArgs return the documented bindings: EvalBinds returns true. No condition. -/
open Go Go.AL Go.Proofs
namespace Go.AL
set_option linter.all false
set_option maxRecDepth 10000
theorem evalBinds_calls (avs:List AV) (h:tyA Try.prog 6 [38,41,45,22,3] avs):ACalls Try.prog 5 avs H0 (.ret (.bool true)) H0:=by
  match avs,h with
  | [x0,x1,x2,x3,x4],h =>
    obtain ⟨h0,h1,h2,h3,h4,_⟩:=h
    obtain ⟨t1,t2,tk,t3,t4,t5,t6,t7,rfl,htk⟩:=Em (d:=2) h0
    obtain ⟨e0,rfl,he0⟩:=A1 (d:=1) h1
    obtain ⟨a1,a2,ap,a3,a4,rfl,hap⟩:=D5 (d:=2) h2
    obtain ⟨l1,rfl,hl1⟩:=BE (d:=3) h3
    obtain ⟨n,rfl,hn0,hn1⟩:=Ew (d:=5) h4
    obtain ⟨v,hv,hc⟩:=ok_EvalBinds.1 rfl [.agg [t1,t2,.slice .any 3 tk,t3,t4,t5,t6,t7],.agg (gJ e0),.agg [a1,a2,.slice .any 2 ap,a3,a4],.slice .any 1 l1,.int .i64 n] H0 (fun v=>v=.bool true) ⟨⟨htk,⟨e0,rfl,⟨by have:=he0.ok.ml;omega,fun m hm=>by have:=(he0.pf m hm).2;omega,by have:=he0.pr.2;omega⟩⟩,hap,hl1,hn0,by omega⟩,rfl⟩
    subst hv
    exact hc
  | [],h=>exact h.elim
  | [_],h=>exact h.2.elim
  | [_,_],h=>exact h.2.2.elim
  | [_,_,_],h=>exact h.2.2.2.elim
  | [_,_,_,_],h=>exact h.2.2.2.2.elim
  | _::_::_::_::_::_::_,h=>exact h.2.2.2.2.2.elim
end Go.AL
namespace Go.Proofs.Ytokjjhidigoodaa
open Go.AL
theorem Try.own:ownKnob Try.prog.godebug=none:=by kernel_rfl
theorem Try.laidOut:laidOutB Try.prog=true:=by kernel_rfl
set_option maxRecDepth 100000 in
theorem evalBinds_lifted (os:Os) (started:os.Started) (H:Type) (enc:TypeId × Value→H) :
    ReturnsInHanded {} Try.checked os 5 .any (Rows.evalBindsSpec.pre6 enc Try.prog Try.f5 Rows.evalBindsRow.domain false) (Rows.evalBindsSpec.post enc Try.prog Try.f5 false true false false) :=
  pQ (C:=Try.checked) (d:=6) Try.own started (by kernel_rfl) Try.func5 (by rfl) (by rfl) Try.laidOut (by kernel_rfl) (by kernel_rfl) rfl (by kernel_rfl) rfl
    (fun ds h=>match ds,h with | [_,_,_,_,_],_=>⟨rfl,rfl,rfl⟩)
    (ChangeSpec.witness6 (enc:=enc) (C:=Try.checked) false ⟨#[],#[.agg #[.int .i64 0,.string ⟨#[]⟩,.slice none 0 0,.slice none 0 0,.int .i64 0,.slice none 0 0,.int .i64 0,.string ⟨#[]⟩],.agg #[.int .i64 0,.slice none 0 0,.int .i64 0,.int .i64 0,.slice none 0 0],.agg #[.int .i64 0,.string ⟨#[]⟩,.slice none 0 0,.slice none 0 0,.string ⟨#[]⟩],.slice none 0 0,.int .i64 0],[]⟩ 8 (by kernel_rfl) (by kernel_rfl) (by kernel_rfl) (by kernel_rfl))
    (fun avs h=>evalBinds_calls avs h)
theorem and_t {a b:Bool} (h:a=true) (k:b=true):(a&&b)=true:=by rw [h,k];rfl
set_option maxHeartbeats 8000000 in
set_option maxRecDepth 100000 in
theorem evalBinds_closed:joinedFacts Try.pinned.checked.prog 5 Try.f5 Rows.evalBindsSpec Rows.evalBindsRow=true:=by
  unfold joinedFacts
  iterate 31 refine and_t ?_ ?_
  all_goals as_aux_lemma=>kernel_rfl
theorem evalBinds_holds:Rows.EvalBindsSaid :=
  OpenClaim.holds_of_wide 5 Try.f5 rfl rfl rfl rfl rfl rfl rfl ⟨rfl,rfl,rfl,rfl,rfl⟩ rfl rfl rfl rfl rfl (by kernel_rfl) Try.func5 evalBinds_closed
    (of_decide_eq_true (by kernel_rfl)) (by unfold Func.isWrapper;first | (rw [if_pos (by decide +kernel)];kernel_rfl) | (rw [if_neg (by decide +kernel)];exact ⟨rfl,rfl⟩))
    (fun os started H enc _=>evalBinds_lifted os started H enc)
#print axioms evalBinds_holds
end Go.Proofs.Ytokjjhidigoodaa

