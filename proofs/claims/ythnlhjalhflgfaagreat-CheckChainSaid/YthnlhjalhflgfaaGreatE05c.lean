/- Lemmas of the proof; no condition. -/
import Derived.Test.YthnlhjalhflgfaaGreatE05q
import Derived.Test.YthnlhjalhflgfaaGreatE05b
import Derived.Test.YthnlhjalhflgfaaGreatW03p
set_option linter.all false
set_option maxRecDepth 10000
open Go Go.AL Go.Proofs
namespace Go.AL
attribute [go_sem] aJ ag bhq aC aB aD aT aE aS aP aQ aR List.take_succ_cons List.take_zero List.drop_succ_cons List.drop_zero iNq List.length_map
attribute [go_sem_proc] Nat.reduceMod Nat.reduceDiv
def Eh:SRef:=⟨1,0,4,0,1,0⟩
def sb04:Sch:={ (fk [] 0).1 with refs:=[Eh] }
theorem JH:wc sb04=8:=by decide +kernel
theorem Lu:ixP (fun t:STable=>t.id==4) sb04.tables 0=3:=by decide +kernel
theorem Gx:ixP (fun t:STable=>t.id==9) sb04.tables 0 = -1:=by decide +kernel
theorem sm_b04:SmP 40 1000 sb04:=by
 have h:=ln [] 0
 exact ⟨h.f,h.h,h.s,h.a,h.t,h.g,h.r,by simp [sb04]⟩
def lu:List AV→AHeap→(AV→Prop)→Prop
 |[],_,K=>K (.bool true)
 |_,_,_=>False
set_option maxHeartbeats 2000000 in
theorem vS:EntOk Tryz.prog 8 (Ent.pure lu):=by
 refine Ype fun _ H K h=>?_
 unfold lu at h
 split at h
 rotate_left
 ·exact h.elim
 refine ⟨_,h,?_⟩
 clear h
 have h1:=JH
 have h2:=Lu
 have h3:=Gx
 have h4:=sm_b04.ok
 have h5:=(sm_b04.mono (N':=50) (R':=1100000) (by decide) (by decide)).len
 have h6:sb04.tables.length≤1000000:=by have:=sm_b04.t.1;omega
 obtain ⟨S,hS⟩:∃ S,(fk [] 0).1=S:=⟨_,rfl⟩
 have hsb:sb04={ S with refs:=[Eh] }:=by rw [← hS];rfl
 have hsC:aO sb04=[.slice .any 3 (S.fields.map aV),.slice .any 3 (S.headers.map aH),.slice .any 5 (S.states.map aL),.slice .any 5 (S.actions.map ax),.slice .any 8 (S.tables.map az),.slice .any 2 (S.stages.map cu),.slice .any 6 (S.roles.map br),.slice .any 6 [bZ Eh],.int .i64 S.maxBatch,.int .i64 S.budget]:=by rw [hsb];rfl
 clear hsb
 generalize sb04=S2 at *
 refine ACalls.fW ak (tCq xq (tCq qn (tCq xp (tCq eS tNq)))) Tryz.func8 [.tmp 0] (nrq _) (T:=aj [(2,[[3]]),(3,[[1]])]) (h:=fun hcl hlt=>?_)
 clear hlt
 have hze:zod ([]:List UInt8) 0=cK [] (cp 0 0):=nL
 have hS':mI (fk [] 0).1=.agg (aO S):=by rw [hS];rfl
 simp only [go_sem,nw]
 refine ⟨[],⟨rfl,by omega⟩,?_⟩
 simp only [go_sem,nw,lz,eG,List.take_nil,hze,bE (b:=[]) (by decide),List.length_nil,Nat.min_zero,hS',aO]
 refine m0 (H.nx+1) (cs:=[.slice .any 3 (S.fields.map aV),.slice .any 3 (S.headers.map aH),.slice .any 5 (S.states.map aL),.slice .any 5 (S.actions.map ax),.slice .any 8 (S.tables.map az),.slice .any 2 (S.stages.map cu),.slice .any 6 (S.roles.map br),.slice .full 6 [.agg [.int .i64 1,.int .i64 0,.int .i64 4,.int .i64 0,.int .i64 1,.int .i64 0]],.int .i64 S.maxBatch,.int .i64 S.budget]) [.slice .any 3 (S.fields.map aV),.slice .any 3 (S.headers.map aH),.slice .any 5 (S.states.map aL),.slice .any 5 (S.actions.map ax),.slice .any 8 (S.tables.map az),.slice .any 2 (S.stages.map cu),.slice .any 6 (S.roles.map br),.slice .any 6 [bZ Eh],.int .i64 S.maxBatch,.int .i64 S.budget] (by simp only [go_sem]) ?_ ?_
 ·simp only [dX,eK,i6,true_and,and_true]
  rw [dY]
  exact .inl ⟨by simp [wkM],rfl,by simp [Eh,bZ,eJ,fm,wkDL_same]⟩
 have d1:((8:Int)==8)=true:=rfl
 have d2:((3:Int)==3)=true:=rfl
 have d3:((-1:Int) == -1)=true:=rfl
 simp only [go_sem,iB]
 refine ⟨S2,⟨hsC.symm,h4,h5⟩,?_⟩
 rw [h1]
 simp only [go_sem,d1,cz]
 refine ⟨S2,⟨hsC.symm,h6⟩,?_⟩
 rw [h2]
 simp only [go_sem,d2,cz]
 refine ⟨S2,⟨hsC.symm,h6⟩,?_⟩
 rw [h3]
 simp only [go_sem,d3]
 simp (disch:=first|exact Zd|omega) [↓zmo,beq,List.take_of_length_le,List.drop_append,List.take_append,aa,wk,wk2,wk1,wkM,wkL,af,List.drop_eq_nil_of_le,hcl]
 first|done|repeat first|exact .refl _|refine .push ?_ _
end Go.AL
