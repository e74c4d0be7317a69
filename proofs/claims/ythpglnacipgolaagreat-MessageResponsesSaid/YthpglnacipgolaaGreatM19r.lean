/- Contracts and plain laws, a part of the proof; no condition of its own. -/
import Derived.Test.YthpglnacipgolaaGreatM19m
open Go Go.AL Go.Proofs
namespace Go.AL
set_option linter.all false
set_option maxRecDepth 10000

end Go.AL


open Go Go.AL Go.Proofs
namespace Go.AL
set_option linter.all false
set_option maxRecDepth 10000

end Go.AL


open Go Go.AL Go.Proofs
namespace Go.AL
set_option linter.all false
set_option maxRecDepth 10000

def p_begun19:List AV→AHeap→(AV→Prop)→Prop
  | [],_,K=>K (.bool true)
  | _,_,_=>False
theorem ok_begun19:EntOk Tryz.prog 20 (Ent.pure p_begun19):=by
  refine EntOk.pure fun args H K h=>?_
  unfold p_begun19 at h
  split at h
  rotate_left
  · exact h.elim
  refine ⟨_,h,?_⟩
  clear h
  refine ACalls.of_aw (Ω:=[(32,Ent.pure p_mEncR)]) (T:=assoc [(1,[[4]])]) mixed (TblOk.cons ok_mEncR TblOk.nil) Tryz.func20 (by kernel_rfl) (by rfl) (rs:=[.tmp 0]) (by rfl) (by kernel_rfl) (by simp only [Tryz.ntmps20,List.length_cons,List.length_nil];decide) (Nat.le_refl _) fun hcl hlt=>?_
  change aw _ _ _ (KI Tryz.prog [(32,Ent.pure p_mEncR)] (aEnd Tryz.prog [.tmp 0] H.nx _ _ (assoc [(1,[[4]])])) []) _ _
  clear hlt
  simp only [blkE,blkP,bhq,Nat.reduceMod,Nat.reduceDiv,stepH,stepM,toMs1,toMs,toMs0,strK,pubK,pubF,pubV,List.take_succ_cons,List.take_zero,List.drop_succ_cons,List.drop_zero,go_sem,byq,p_mEncR]
  refine weak_slot 4 (reqAV ⟨2,0,0,[],0,0,0,0,[]⟩) ?_ ?_
  · simp [Fr.get,reqAV,reqC,wkD_agg,wkD_slice,wkDL_cons,wkDL_nil,wkDR_cons,wkDR_nil,wkD_int,wkM,wkDR_same,zkt]
  simp only [blkE,blkP,bhq,Nat.reduceMod,Nat.reduceDiv,stepH,stepM,toMs1,toMs,toMs0,strK,pubK,pubF,pubV,List.take_succ_cons,List.take_zero,List.drop_succ_cons,List.drop_zero,go_sem,byq,p_mEncR,reqAV]
  refine ⟨⟨2,0,0,[],0,0,0,0,[]⟩,⟨rfl,⟨Nat.two_pow_pos 128,Nat.zero_le _,Nat.zero_le _,fun u hu=>by cases hu⟩⟩,?_⟩
  have he:encR ⟨2,0,0,[],0,0,0,0,[]⟩=([2],0):=by decide
  rw [he]
  simp (disch:=first | assumption | omega | (simp;done) | (simp;omega) | (simp only [bt,and_true];first | done | omega | (simp;done))) [↓zlw,beq,List.take_of_length_le,List.drop_append,List.take_append,endOk,wk,wk2,wk1,wkM,wkL,wkLL,List.drop_eq_nil_of_le,hcl]
  exact both_split (fun _=>trivial) (fun h=>by cases h)
end Go.AL


open Go Go.AL Go.Proofs
namespace Go.AL
set_option linter.all false
set_option maxRecDepth 10000

end Go.AL


open Go Go.AL Go.Proofs
namespace Go.AL
set_option linter.all false
set_option maxRecDepth 10000

end Go.AL

