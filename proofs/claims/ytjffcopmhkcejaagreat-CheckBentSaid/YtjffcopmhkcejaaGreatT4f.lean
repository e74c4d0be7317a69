/- Contracts and plain laws, a part of the proof; no condition of its own. -/
import Derived.Test.YtjffcopmhkcejaaGreatRows
import Derived.Test.YtjffcopmhkcejaaGreatE06e
import Derived.Test.YtjffcopmhkcejaaGreatTY3i
/- Whatever the codes, the numbers, the text and the other numbers: pV Checks return the same error for a drawn schema, and for schemas in which one element, or two, are changed; and OK for the drawn one: CheckBent returns true. No condition. -/
open Go Go.AL Go.Proofs
namespace Go.AL
set_option linter.all false
set_option maxRecDepth 10000
theorem checkBent_calls(avs:Wz)(h:tyA Tryz.prog 6 [22,3,3,3,9,23] avs):ACalls Tryz.prog 3 avs H0 (.ret (.bool true)) H0:=by
  match avs,h with
  | [x0,x1,x2,x3,x4,x5],h =>
    obtain⟨h0,h1,h2,h3,h4,h5,_⟩:=h
    obtain⟨l,rfl,hl⟩:=Qs (d:=3) h0
    obtain⟨q,rfl,hq0,hq1⟩:=DJ (d:=5) h1
    obtain⟨a,rfl,ha0,ha1⟩:=DJ (d:=5) h2
    obtain⟨n,rfl,hn0,hn1⟩:=DJ (d:=5) h3
    obtain⟨t,rfl,ht⟩:=T0 (d:=5) h4
    obtain⟨M,rfl,hM⟩:=Oq (d:=3) h5
    obtain⟨v,hv,hc⟩:=ok_CheckBent.1 rfl [.slice .any 1 l,.int .i64 q,.int .i64 a,.int .i64 n,.str t,.slice .any 1 (inL M)] H0 (fun v=>v=.bool true) ⟨⟨hl,⟨hq0,Xa⟩,⟨ha0,Xa⟩,M,rfl,fun x hx=>⟨(hM x hx).1,by have:=(hM x hx).2;omega⟩⟩,rfl⟩
    subst hv
    exact hc
  | [],h=>exact h.elim
  | [_],h=>exact h.2.elim
  | [_,_],h=>exact h.2.2.elim
  | [_,_,_],h=>exact h.2.2.2.elim
  | [_,_,_,_],h=>exact h.2.2.2.2.elim
  | [_,_,_,_,_],h=>exact h.2.2.2.2.2.elim
  | _::_::_::_::_::_::_::_,h=>exact h.2.2.2.2.2.2.elim
end Go.AL
namespace Go.Proofs.YtjffcopmhkcejaaGreat
open Go.AL
theorem Tryz.own:ownKnob Tryz.prog.godebug=none:=Xj
theorem Tryz.laidOut:laidOutB Tryz.prog=true:=Xj
set_option maxRecDepth 100000 in
theorem checkBent_lifted(os:Os)(started:os.Started)(H:Type)(enc:TypeId × Value→H) :
    ReturnsInHanded {} Tryz.checked os 3 .any (Rows.checkBentSpec.pre6 enc Tryz.prog Tryz.f3 Rows.checkBentRow.domain false) (Rows.checkBentSpec.post enc Tryz.prog Tryz.f3 false true false false) :=
  xf (C:=Tryz.checked) (d:=6) Tryz.own started Xj Tryz.func3 (by rfl) (by rfl) Tryz.laidOut Xj Xj rfl Xj rfl
    (fun ds h=>match ds,h with | [_,_,_,_,_,_],_=>⟨rfl,rfl,rfl⟩)
    (ChangeSpec.witness6 (enc:=enc) (C:=Tryz.checked) false ⟨#[],#[.slice none 0 0,.int .i64 0,.int .i64 0,.int .i64 0,.string ⟨#[]⟩,.slice none 0 0],[]⟩ 8 Xj Xj Xj Xj)
    (fun avs h=>checkBent_calls avs h)
theorem and_t{a b:Bool}(h:a=true)(k:b=true):(a&&b)=true:=by rw[h,k];rfl
set_option maxHeartbeats 8000000 in
set_option maxRecDepth 100000 in
theorem checkBent_closed:joinedFacts Tryz.pinned.checked.prog 3 Tryz.f3 Rows.checkBentSpec Rows.checkBentRow=true:=by
  unfold joinedFacts
  iterate 31 refine and_t ?_ ?_
  all_goals as_aux_lemma=>kernel_rfl
theorem checkBent_holds:Rows.CheckBentSaid :=
  OpenClaim.holds_of_wide 3 Tryz.f3 rfl rfl rfl rfl rfl rfl rfl ⟨rfl,rfl,rfl,rfl,rfl⟩ rfl rfl rfl rfl rfl Xj Tryz.func3 checkBent_closed
    (of_decide_eq_true Xj) (by unfold Func.isWrapper;first | (rw[if_pos (by decide +kernel)];kernel_rfl) | (rw[if_neg (by decide +kernel)];exact⟨rfl,rfl⟩))
    (fun os started H enc _=>checkBent_lifted os started H enc)
#print axioms checkBent_holds
end Go.Proofs.YtjffcopmhkcejaaGreat

