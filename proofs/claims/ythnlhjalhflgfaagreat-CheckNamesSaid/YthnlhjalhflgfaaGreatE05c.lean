/- Lemmas of the proof; no condition. -/
import Derived.Test.YthnlhjalhflgfaaGreatE05b
import Derived.Test.YthnlhjalhflgfaaGreatW03p
set_option linter.all false
set_option maxRecDepth 10000
open Go Go.AL Go.Proofs
namespace Go.AL
def onF {α:Type} [BEq α]:List α→List α→Bool
 |_,[]=>true
 |p,x::l=>!p.contains x&&onF (p++[x]) l
theorem evL {α:Type} {k:List UInt8} {f:α→List UInt8} {g:α→Bool}:∀ {l:List α} {s:List VN} {p:List (List UInt8)},(∀ n,(k,n)∈s↔n∈p) →
 (evS (fun t s=>((adS k (f t) s).1&&g t,(adS k (f t) s).2)) l s).1=(onF p (l.map f)&&l.all g) ∧
 ((evS (fun t s=>((adS k (f t) s).1&&g t,(adS k (f t) s).2)) l s).1=true→∀ k' n,k'≠k→((k',n)∈(evS (fun t s=>((adS k (f t) s).1&&g t,(adS k (f t) s).2)) l s).2↔(k',n)∈s))
 |[],s,p,h=>⟨rfl,fun _ _ _ _=>Iff.rfl⟩
 |x::l,s,p,h=>by
  unfold evS
  dsimp only
  rw [List.map_cons,onF,List.all_cons]
  have h0:s.contains (k,f x)=p.contains (f x):=by rw [Bool.eq_iff_iff];simp [h (f x)]
  unfold adS
  rw [h0]
  cases hp:p.contains (f x) with
  |true =>
   simp only [if_true,Bool.false_and,Bool.false_eq_true,if_false,Bool.not_true]
   exact ⟨trivial,fun h=>by cases h⟩
  |false =>
   simp only [Bool.false_eq_true,if_false,Bool.true_and,Bool.not_false]
   cases hg:g x with
   |false =>
    simp only [Bool.false_eq_true,if_false,Bool.false_and,Bool.and_false]
    exact ⟨trivial,fun h=>by cases h⟩
   |true =>
    simp only [if_true,Bool.true_and]
    have ih:=evL (k:=k) (f:=f) (g:=g) (l:=l) (s:=(k,f x)::s) (p:=p++[f x]) (fun n=>by
     rw [List.mem_cons,List.mem_append,List.mem_singleton,← h n,Prod.mk.injEq]
     constructor
     ·rintro (⟨_,h⟩|h)
      ·exact .inr h
      ·exact .inl h
     ·rintro (h|h)
      ·exact .inr h
      ·exact .inl ⟨rfl,h⟩)
    unfold adS at ih
    refine ⟨ih.1,fun ht k' n hk=>?_⟩
    rw [ih.2 ht k' n hk,List.mem_cons,Prod.mk.injEq]
    exact ⟨fun h=>h.resolve_left fun e=>hk e.1,.inr⟩
theorem Mo {α:Type} {k:List UInt8} {f:α→List UInt8} {l:List α} {s:List VN} (h:∀ n,(k,n) ∉ s) :
 (evS (fun t=>adS k (f t)) l s).1=onF [] (l.map f)∧((evS (fun t=>adS k (f t)) l s).1=true→∀ k' n,k'≠k→((k',n)∈(evS (fun t=>adS k (f t)) l s).2↔(k',n)∈s)):=by
 have h1:=evL (k:=k) (f:=f) (g:=fun _=>true) (l:=l) (s:=s) (p:=[]) (fun n=>by simp [h n])
 have e:(fun t=>adS k (f t))=(fun (t:α) (s:List VN)=>((adS k (f t) s).1&&(fun _=>true) t,(adS k (f t) s).2)):=by
  funext t s
  simp
 rw [← e] at h1
 refine ⟨?_,h1.2⟩
 rw [h1.1]
 have:l.all (fun _=>true)=true:=by simp
 rw [this,Bool.and_true]
theorem Ml {S:Sch}:snB S=(onF [] (S.fields.map (·.name))&&(onF [] (S.headers.map (·.name))&&((onF [] (S.actions.map (·.name))&&S.actions.all fun t=>dsF [] (t.params.map (·.name)))&&((onF [] (S.tables.map (·.name))&&S.tables.all fun t=>dsF [] (t.keys.map (·.name)))&&onF [] (S.roles.map (·.name)))))):=by
 unfold snB
 dsimp only
 obtain ⟨a1,a2⟩:=Mo (k:=kFld) (f:=fun t:SField=>t.name) (l:=S.fields) (s:=[]) (fun n=>by simp)
 generalize ha:evS (fun (t:SField)=>adS kFld t.name) S.fields []=a at *
 cases a1':a.1 with
 |false=>rw [← a1,a1',Bool.false_and,Bool.false_and]
 |true =>
  have a3:=a2 a1'
  rw [← a1,a1',Bool.true_and,Bool.true_and]
  obtain ⟨b1,b2⟩:=Mo (k:=kHdr) (f:=fun t:SHeader=>t.name) (l:=S.headers) (s:=a.2) (fun n=>by rw [a3 kHdr n (by decide)];simp)
  generalize hb:evS (fun (t:SHeader)=>adS kHdr t.name) S.headers a.2=b at *
  cases b1':b.1 with
  |false=>rw [← b1,b1',Bool.false_and,Bool.false_and]
  |true =>
   have b3:=b2 b1'
   rw [← b1,b1',Bool.true_and,Bool.true_and]
   obtain ⟨c1,c2⟩:=evL (k:=kAct) (f:=fun t:SAction=>t.name) (g:=fun t=>dsF [] (t.params.map (·.name))) (l:=S.actions) (s:=b.2) (p:=[]) (fun n=>by rw [b3 kAct n (by decide),a3 kAct n (by decide)];simp)
   have ec:(fun (t:SAction) (s:List VN)=>((adS kAct t.name s).1&&dsF [] (t.params.map (·.name)),(adS kAct t.name s).2))=adA:=rfl
   rw [ec] at c1 c2
   generalize hc:evS adA S.actions b.2=c at *
   cases c1':c.1 with
   |false=>rw [← c1,c1',Bool.false_and,Bool.false_and]
   |true =>
    have c3:=c2 c1'
    rw [← c1,c1',Bool.true_and,Bool.true_and]
    obtain ⟨d1,d2⟩:=evL (k:=kTab) (f:=fun t:STable=>t.name) (g:=fun t=>dsF [] (t.keys.map (·.name))) (l:=S.tables) (s:=c.2) (p:=[]) (fun n=>by rw [c3 kTab n (by decide),b3 kTab n (by decide),a3 kTab n (by decide)];simp)
    have ed:(fun (t:STable) (s:List VN)=>((adS kTab t.name s).1&&dsF [] (t.keys.map (·.name)),(adS kTab t.name s).2))=adT:=rfl
    rw [ed] at d1 d2
    generalize hd:evS adT S.tables c.2=d at *
    cases d1':d.1 with
    |false=>rw [← d1,d1',Bool.false_and,Bool.false_and]
    |true =>
     have d3:=d2 d1'
     rw [← d1,d1',Bool.true_and,Bool.true_and]
     exact (Mo (k:=kRol) (f:=fun t:SRole=>t.name) (l:=S.roles) (s:=d.2) (fun n=>by rw [d3 kRol n (by decide),c3 kRol n (by decide),b3 kRol n (by decide),a3 kRol n (by decide)];simp)).1
attribute [go_sem] aE ah bhq au aq ay aN ax aM aJ aK aL List.take_succ_cons List.take_zero List.drop_succ_cons List.drop_zero iNq List.length_map
attribute [go_sem_proc] Nat.reduceMod Nat.reduceDiv
def HJ:SRef:=⟨1,0,4,0,1,0⟩
def sb04:Sch:={ (fU [] 0).1 with refs:=[HJ] }
theorem Kg:pC sb04=8:=by decide +kernel
theorem M4:ixP (fun t:STable=>t.id==4) sb04.tables 0=3:=by decide +kernel
theorem KR:ixP (fun t:STable=>t.id==9) sb04.tables 0 = -1:=by decide +kernel
theorem sm_b04:SmP 40 1000 sb04:=by
 have h:=vJ [] 0
 exact ⟨h.f,h.h,h.s,h.a,h.t,h.g,h.r,by simp [sb04]⟩
def iW:List AV→AHeap→(AV→Prop)→Prop
 |[],_,K=>K (.bool true)
 |_,_,_=>False
set_option maxHeartbeats 2000000 in
theorem xY:EntOk Tryz.prog 8 (Ent.pure iW):=by
 refine Ype fun _ H K h=>?_
 unfold iW at h
 split at h
 rotate_left
 ·exact h.elim
 refine ⟨_,h,?_⟩
 clear h
 have h1:=Kg
 have h2:=M4
 have h3:=KR
 have h4:=sm_b04.ok
 have h5:=(sm_b04.mono (N':=50) (R':=1100000) (by decide) (by decide)).len
 have h6:sb04.tables.length≤1000000:=by have:=sm_b04.t.1;omega
 obtain ⟨S,hS⟩:∃ S,(fU [] 0).1=S:=⟨_,rfl⟩
 have hsb:sb04={ S with refs:=[HJ] }:=by rw [← hS];rfl
 have hsC:aS sb04=[.slice .any 3 (S.fields.map aX),.slice .any 3 (S.headers.map aH),.slice .any 5 (S.states.map aO),.slice .any 5 (S.actions.map aA),.slice .any 8 (S.tables.map aC),.slice .any 2 (S.stages.map bx),.slice .any 6 (S.roles.map bc),.slice .any 6 [bU HJ],.int .i64 S.maxBatch,.int .i64 S.budget]:=by rw [hsb];rfl
 clear hsb
 generalize sb04=S2 at *
 refine ACalls.fW ap (tCq Am (tCq rH (tCq zz (tCq fK tNq)))) Tryz.func8 [.tmp 0] (nrq _) (T:=aj [(2,[[3]]),(3,[[1]])]) (h:=fun hcl hlt=>?_)
 clear hlt
 have hze:zod ([]:List UInt8) 0=ex [] (cp 0 0):=tW
 have hS':gu (fU [] 0).1=.agg (aS S):=by rw [hS];rfl
 simp only [go_sem,r6]
 refine ⟨[],⟨rfl,by omega⟩,?_⟩
 simp only [go_sem,r6,mU,eG,List.take_nil,hze,bW (b:=[]) (by decide),List.length_nil,Nat.min_zero,hS',aS]
 refine gM (H.nx+1) (cs:=[.slice .any 3 (S.fields.map aX),.slice .any 3 (S.headers.map aH),.slice .any 5 (S.states.map aO),.slice .any 5 (S.actions.map aA),.slice .any 8 (S.tables.map aC),.slice .any 2 (S.stages.map bx),.slice .any 6 (S.roles.map bc),.slice .full 6 [.agg [.int .i64 1,.int .i64 0,.int .i64 4,.int .i64 0,.int .i64 1,.int .i64 0]],.int .i64 S.maxBatch,.int .i64 S.budget]) [.slice .any 3 (S.fields.map aX),.slice .any 3 (S.headers.map aH),.slice .any 5 (S.states.map aO),.slice .any 5 (S.actions.map aA),.slice .any 8 (S.tables.map aC),.slice .any 2 (S.stages.map bx),.slice .any 6 (S.roles.map bc),.slice .any 6 [bU HJ],.int .i64 S.maxBatch,.int .i64 S.budget] (by simp only [go_sem]) ?_ ?_
 ·simp only [dc,dK,fY,true_and,and_true]
  rw [dd]
  exact .inl ⟨by simp [wkM],rfl,by simp [HJ,bU,gh,gN,wkDL_same]⟩
 have d1:((8:Int)==8)=true:=rfl
 have d2:((3:Int)==3)=true:=rfl
 have d3:((-1:Int) == -1)=true:=rfl
 simp only [go_sem,rd]
 refine ⟨S2,⟨hsC.symm,h4,h5⟩,?_⟩
 rw [h1]
 simp only [go_sem,d1,da]
 refine ⟨S2,⟨hsC.symm,h6⟩,?_⟩
 rw [h2]
 simp only [go_sem,d2,da]
 refine ⟨S2,⟨hsC.symm,h6⟩,?_⟩
 rw [h3]
 simp only [go_sem,d3]
 simp (disch:=first|exact Zd|omega) [↓zmo,beq,List.take_of_length_le,List.drop_append,List.take_append,aa,wk,wk2,wk1,wkM,wkL,ae,List.drop_eq_nil_of_le,hcl]
 first|done|repeat first|exact .refl _|refine .push ?_ _
end Go.AL
