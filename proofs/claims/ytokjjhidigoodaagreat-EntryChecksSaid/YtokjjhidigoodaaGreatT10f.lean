/- Contracts and plain laws, a part of the proof; no condition of its own. -/
import Derived.Test.YtokjjhidigoodaaGreatRows
import Derived.Test.YtokjjhidigoodaaGreatS12l
import Derived.Test.YtokjjhidigoodaaGreatTY12
/- Whatever the codes, the entry, the numbers and the value: CheckKey, CheckAction and Check return the documented error for any entry: EntryChecks returns true. No condition. -/
open Go Go.AL Go.Proofs
namespace Go.AL
set_option linter.all false
set_option maxRecDepth 10000
theorem entryChecks_calls (avs:List AV) (h:tyA Tryz.prog 6 [22,22,26,3,3,48,3] avs):ACalls Tryz.prog 4 avs H0 (.ret (.bool true)) H0:=by
  match avs,h with
  | [x0,x1,x2,x3,x4,x5,x6],h =>
    obtain ⟨h0,h1,h2,h3,h4,h5,h6,_⟩:=h
    obtain ⟨l1,rfl,hl1⟩:=EP (d:=3) h0
    obtain ⟨l2,rfl,hl2⟩:=EP (d:=3) h1
    obtain ⟨e0,rfl,he0⟩:=H6 (d:=1) h2
    obtain ⟨n,rfl,hn0,hn1⟩:=Jd (d:=5) h3
    obtain ⟨c,rfl,hc0,hc1⟩:=Jd (d:=5) h4
    obtain ⟨hi,lo,rfl,hv⟩:=Jf (d:=4) h5
    obtain ⟨g,rfl,hg0,hg1⟩:=Jd (d:=5) h6
    obtain ⟨v,hv,hc⟩:=ok_EntryChecks.1 rfl [.slice .any 1 l1,.slice .any 1 l2,.agg (bG e0),.int .i64 n,.int .i64 c,.agg [.int .u64 hi,.int .u64 lo],.int .i64 g] H0 (fun v=>v=.bool true) ⟨e0,⟨hl1,hl2,rfl,⟨he0.ok,⟨he0.ar,he0.ok.al⟩,⟨by have:=he0.ok.ml;omega,fun m hm=>by have:=(he0.pf m hm).2;omega,by have:=he0.pr.2;omega,he0.ok.mo,he0.ar⟩⟩,hn0,by omega,hc0,by omega,hv,hg0,by omega⟩,rfl⟩
    subst hv
    exact hc
  | [],h=>exact h.elim
  | [_],h=>exact h.2.elim
  | [_,_],h=>exact h.2.2.elim
  | [_,_,_],h=>exact h.2.2.2.elim
  | [_,_,_,_],h=>exact h.2.2.2.2.elim
  | [_,_,_,_,_],h=>exact h.2.2.2.2.2.elim
  | [_,_,_,_,_,_],h=>exact h.2.2.2.2.2.2.elim
  | _::_::_::_::_::_::_::_::_,h=>exact h.2.2.2.2.2.2.2.elim
end Go.AL
namespace Go.Proofs.YtokjjhidigoodaaGreat
open Go.AL
theorem Tryz.own:ownKnob Tryz.prog.godebug=none:=by kernel_rfl
theorem Tryz.laidOut:laidOutB Tryz.prog=true:=by kernel_rfl
set_option maxRecDepth 100000 in
theorem entryChecks_lifted (os:Os) (started:os.Started) (H:Type) (enc:TypeId × Value→H) :
    ReturnsInHanded {} Tryz.checked os 4 .any (Rows.entryChecksSpec.pre6 enc Tryz.prog Tryz.f4 Rows.entryChecksRow.domain false) (Rows.entryChecksSpec.post enc Tryz.prog Tryz.f4 false true false false) :=
  xE (C:=Tryz.checked) (d:=6) Tryz.own started (by kernel_rfl) Tryz.func4 (by rfl) (by rfl) Tryz.laidOut (by kernel_rfl) (by kernel_rfl) rfl (by kernel_rfl) rfl
    (fun ds h=>match ds,h with | [_,_,_,_,_,_,_],_=>⟨rfl,rfl,rfl⟩)
    (ChangeSpec.witness6 (enc:=enc) (C:=Tryz.checked) false ⟨#[],#[.slice none 0 0,.slice none 0 0,.agg #[.int .i64 0,.slice none 0 0,.int .i64 0,.int .i64 0,.slice none 0 0],.int .i64 0,.int .i64 0,.agg #[.int .u64 0,.int .u64 0],.int .i64 0],[]⟩ 8 (by kernel_rfl) (by kernel_rfl) (by kernel_rfl) (by kernel_rfl))
    (fun avs h=>entryChecks_calls avs h)
theorem and_t {a b:Bool} (h:a=true) (k:b=true):(a&&b)=true:=by rw [h,k];rfl
set_option maxHeartbeats 8000000 in
set_option maxRecDepth 100000 in
theorem entryChecks_closed:joinedFacts Tryz.pinned.checked.prog 4 Tryz.f4 Rows.entryChecksSpec Rows.entryChecksRow=true:=by
  unfold joinedFacts
  iterate 31 refine and_t ?_ ?_
  all_goals as_aux_lemma=>kernel_rfl
theorem entryChecks_holds:Rows.EntryChecksSaid :=
  OpenClaim.holds_of_wide 4 Tryz.f4 rfl rfl rfl rfl rfl rfl rfl ⟨rfl,rfl,rfl,rfl,rfl⟩ rfl rfl rfl rfl rfl (by kernel_rfl) Tryz.func4 entryChecks_closed
    (of_decide_eq_true (by kernel_rfl)) (by unfold Func.isWrapper;first | (rw [if_pos (by decide +kernel)];kernel_rfl) | (rw [if_neg (by decide +kernel)];exact ⟨rfl,rfl⟩))
    (fun os started H enc _=>entryChecks_lifted os started H enc)
#print axioms entryChecks_holds
end Go.Proofs.YtokjjhidigoodaaGreat

