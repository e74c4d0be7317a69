/- Contracts and plain laws, a part of the proof; no condition of its own. -/
import Derived.Test.YtiiiljghmilepaaGreatRows
import Derived.Test.YtiiiljghmilepaaGreatS08l
import Derived.Test.YtiiiljghmilepaaGreatTY8
/- Whatever the codes, the number and the text: All returns the documented error for well-formed schemas in which a restriction is replaced by any text: TypesAll returns true. No condition. -/
open Go Go.AL Go.Proofs
namespace Go.AL
set_option linter.all false
set_option maxRecDepth 10000
theorem typesAll_calls (avs:List AV) (h:tyA Tryz.prog 6 [22,22,3,9,4] avs):ACalls Tryz.prog 5 avs H0 (.ret (.bool true)) H0:=by
  match avs,h with
  | [x0,x1,x2,x3,x4],h =>
    obtain ⟨h0,h1,h2,h3,h4,_⟩:=h
    obtain ⟨l1,rfl,hl1⟩:=wH (d:=3) h0
    obtain ⟨l2,rfl,hl2⟩:=wH (d:=3) h1
    obtain ⟨n,rfl,hn0,hn1⟩:=Ej (d:=5) h2
    obtain ⟨s,rfl,hs⟩:=Eb (d:=5) h3
    obtain ⟨g,rfl⟩:=Dz (d:=5) h4
    obtain ⟨v,hv,hc⟩:=ok_TypesAll.1 rfl [.slice .any 1 l1,.slice .any 1 l2,.int .i64 n,.str s,.bool g] H0 (fun v=>v=.bool true) ⟨⟨hs,hl1,hl2,hn0,hn1⟩,rfl⟩
    subst hv
    exact hc
  | [],h=>exact h.elim
  | [_],h=>exact h.2.elim
  | [_,_],h=>exact h.2.2.elim
  | [_,_,_],h=>exact h.2.2.2.elim
  | [_,_,_,_],h=>exact h.2.2.2.2.elim
  | _::_::_::_::_::_::_,h=>exact h.2.2.2.2.2.elim
end Go.AL
namespace Go.Proofs.YtiiiljghmilepaaGreat
open Go.AL
theorem Tryz.own:ownKnob Tryz.prog.godebug=none:=by kernel_rfl
theorem Tryz.laidOut:laidOutB Tryz.prog=true:=by kernel_rfl
set_option maxRecDepth 100000 in
theorem typesAll_lifted (os:Os) (started:os.Started) (H:Type) (enc:TypeId × Value→H) :
    ReturnsInHanded {} Tryz.checked os 5 .any (Rows.typesAllSpec.pre6 enc Tryz.prog Tryz.f5 Rows.typesAllRow.domain false) (Rows.typesAllSpec.post enc Tryz.prog Tryz.f5 false true false false) :=
  qx (C:=Tryz.checked) (d:=6) Tryz.own started (by kernel_rfl) Tryz.func5 (by rfl) (by rfl) Tryz.laidOut (by kernel_rfl) (by kernel_rfl) rfl (by kernel_rfl) rfl
    (fun ds h=>match ds,h with | [_,_,_,_,_],_=>⟨rfl,rfl,rfl⟩)
    (ChangeSpec.witness6 (enc:=enc) (C:=Tryz.checked) false ⟨#[],#[.slice none 0 0,.slice none 0 0,.int .i64 0,.string ⟨#[]⟩,.bool false],[]⟩ 8 (by kernel_rfl) (by kernel_rfl) (by kernel_rfl) (by kernel_rfl))
    (fun avs h=>typesAll_calls avs h)
theorem and_t {a b:Bool} (h:a=true) (k:b=true):(a&&b)=true:=by rw [h,k];rfl
set_option maxHeartbeats 8000000 in
set_option maxRecDepth 100000 in
theorem typesAll_closed:joinedFacts Tryz.pinned.checked.prog 5 Tryz.f5 Rows.typesAllSpec Rows.typesAllRow=true:=by
  unfold joinedFacts
  iterate 31 refine and_t ?_ ?_
  all_goals as_aux_lemma=>kernel_rfl
theorem typesAll_holds:Rows.TypesAllSaid :=
  OpenClaim.holds_of_wide 5 Tryz.f5 rfl rfl rfl rfl rfl rfl rfl ⟨rfl,rfl,rfl,rfl,rfl⟩ rfl rfl rfl rfl rfl (by kernel_rfl) Tryz.func5 typesAll_closed
    (of_decide_eq_true (by kernel_rfl)) (by unfold Func.isWrapper;first | (rw [if_pos (by decide +kernel)];kernel_rfl) | (rw [if_neg (by decide +kernel)];exact ⟨rfl,rfl⟩))
    (fun os started H enc _=>typesAll_lifted os started H enc)
#print axioms typesAll_holds
end Go.Proofs.YtiiiljghmilepaaGreat

