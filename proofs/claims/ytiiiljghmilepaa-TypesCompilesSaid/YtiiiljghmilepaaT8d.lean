/- Contracts and plain laws, a part of the proof; no condition of its own. -/
import Derived.Test.YtiiiljghmilepaaRows
import Derived.Test.YtiiiljghmilepaaS08q
import Derived.Test.YtiiiljghmilepaaTY8
/- Whatever the text, the codes and the number: Compile returns the documented tree, or the documented error: TypesCompiles returns true. No condition. -/
open Go Go.AL Go.Proofs
namespace Go.AL
set_option linter.all false
set_option maxRecDepth 10000
theorem typesCompiles_calls (avs:List AV) (h:tyA Try.prog 6 [9,22,3,4] avs):ACalls Try.prog 4 avs H0 (.ret (.bool true)) H0:=by
  match avs,h with
  | [x0,x1,x2,x3],h =>
    obtain ⟨h0,h1,h2,h3,_⟩:=h
    obtain ⟨s,rfl,hs⟩:=Ay (d:=5) h0
    obtain ⟨l,rfl,hl⟩:=yC (d:=3) h1
    obtain ⟨n,rfl,hn0,hn1⟩:=AP (d:=5) h2
    obtain ⟨g,rfl⟩:=Ag (d:=5) h3
    obtain ⟨v,hv,hc⟩:=ok_TypesCompiles.1 rfl [.str s,.slice .any 1 l,.int .i64 n,.bool g] H0 (fun v=>v=.bool true) ⟨⟨hs,hl,hn0,hn1⟩,rfl⟩
    subst hv
    exact hc
  | [],h=>exact h.elim
  | [_],h=>exact h.2.elim
  | [_,_],h=>exact h.2.2.elim
  | [_,_,_],h=>exact h.2.2.2.elim
  | _::_::_::_::_::_,h=>exact h.2.2.2.2.elim
end Go.AL
namespace Go.Proofs.Ytiiiljghmilepaa
open Go.AL
theorem Try.own:ownKnob Try.prog.godebug=none:=by kernel_rfl
theorem Try.laidOut:laidOutB Try.prog=true:=by kernel_rfl
set_option maxRecDepth 100000 in
theorem typesCompiles_lifted (os:Os) (started:os.Started) (H:Type) (enc:TypeId × Value→H) :
    ReturnsInHanded {} Try.checked os 4 .any (Rows.typesCompilesSpec.pre6 enc Try.prog Try.f4 Rows.typesCompilesRow.domain false) (Rows.typesCompilesSpec.post enc Try.prog Try.f4 false true false false) :=
  nW (C:=Try.checked) (d:=6) Try.own started (by kernel_rfl) Try.func4 (by rfl) (by rfl) Try.laidOut (by kernel_rfl) (by kernel_rfl) rfl (by kernel_rfl) rfl
    (fun ds h=>match ds,h with | [_,_,_,_],_=>⟨rfl,rfl,rfl⟩)
    (ChangeSpec.witness6 (enc:=enc) (C:=Try.checked) false ⟨#[],#[.string ⟨#[]⟩,.slice none 0 0,.int .i64 0,.bool false],[]⟩ 8 (by kernel_rfl) (by kernel_rfl) (by kernel_rfl) (by kernel_rfl))
    (fun avs h=>typesCompiles_calls avs h)
theorem and_t {a b:Bool} (h:a=true) (k:b=true):(a&&b)=true:=by rw [h,k];rfl
set_option maxHeartbeats 8000000 in
set_option maxRecDepth 100000 in
theorem typesCompiles_closed:joinedFacts Try.pinned.checked.prog 4 Try.f4 Rows.typesCompilesSpec Rows.typesCompilesRow=true:=by
  unfold joinedFacts
  iterate 31 refine and_t ?_ ?_
  all_goals as_aux_lemma=>kernel_rfl
theorem typesCompiles_holds:Rows.TypesCompilesSaid :=
  OpenClaim.holds_of_wide 4 Try.f4 rfl rfl rfl rfl rfl rfl rfl ⟨rfl,rfl,rfl,rfl,rfl⟩ rfl rfl rfl rfl rfl (by kernel_rfl) Try.func4 typesCompiles_closed
    (of_decide_eq_true (by kernel_rfl)) (by unfold Func.isWrapper;first | (rw [if_pos (by decide +kernel)];kernel_rfl) | (rw [if_neg (by decide +kernel)];exact ⟨rfl,rfl⟩))
    (fun os started H enc _=>typesCompiles_lifted os started H enc)
#print axioms typesCompiles_holds
end Go.Proofs.Ytiiiljghmilepaa

