/- Lemmas of the proof; no condition. -/
import Derived.Test.YthnlhjalhflgfaaGreatS12a
import Derived.Test.YthnlhjalhflgfaaGreatS10t
set_option linter.all false
set_option maxRecDepth 10000
open Go Go.AL Go.Proofs
namespace Go.AL
def qI:List AV→AHeap→(AV→Prop)→Prop
 |[.slice _ 1 l,.int .i64 n],_,K=>∃ xs:List Int,(l=inL xs∧xs.length≤1000000)∧K (.int .i64 (ixP (fun x=>x==n) xs 0))
 |_,_,_=>False
theorem zV:EntOk Tryz.prog 187 (Ent.pure qI):=by
 refine Ype fun _ H K h=>?_
 unfold qI at h
 split at h
 rotate_left
 ·exact h.elim
 rename_i m l n
 obtain ⟨xs,⟨rfl,hl⟩,hK⟩:=h
 refine ⟨_,hK,?_⟩
 clear hK
 generalize hR:ixP (fun x:Int=>x==n) xs 0=R
 refine ACalls.fW ak tNq Tryz.func187 [.tmp 4] (nrq _) (T:=aj []) (h:=fun hcl hlt=>?_)
 have hm:AV.lt H.nx (.slice m 1 (inL xs)):=hlt _ (by simp)
 clear hlt
 simp only [go_sem,G2]
 refine ay (A:=Nat) (fun k=>[(0,.slice m 1 (inL xs)),(1,.int .i64 n),(7,.int .i64 (xs.length:Int)),(8,.int .i64 (k:Int))]) (fun _=>H) (fun k=>k≤xs.length∧ixP (fun x:Int=>x==n) (xs.drop k) k=R) (fun k=>xs.length - k) 0 ⟨by omega,hR⟩ ?_ fun k hk=>?_
 ·refine ⟨nrq _,lRq _,hcl,?_,?_⟩
  ·simp [ltF,znf,hm]
  ·simp [ba,wk2,wk1,wkM,Fr.get]
 clear hR
 obtain ⟨hk,hR⟩:=hk
 simp only [go_sem]
 refine ah (fun hc=>?_) (fun hc=>?_)
 ·have hk':k<xs.length:=by simp at hc;omega
  obtain ⟨x,hx⟩:∃ x,x=xs[k]:=⟨_,rfl⟩
  have hd:xs.drop k=x::xs.drop (k+1):=by rw [hx];exact dcq hk'
  have hg:=aW (f:=AV.int .i64) (l:=xs) (k:=k) (x:=x) (by rw [gQq hk',hx])
  have e5:=Yk5 k
  rw [hd] at hR
  unfold ixP at hR
  simp only [go_sem,iNq,inL,hg,List.length_map]
  (repeat with_reducible refine Yq ?_)
  rw [show (n==x)=(x==n) from BEq.comm]
  refine ah (fun hq=>?_) (fun hq=>?_)
  ·rw [if_pos hq] at hR
   subst hR
   simp only [go_sem]
   exact Z2
  ·rw [if_neg (by rw [hq];decide)] at hR
   simp only [go_sem,e5]
   unfold inL at hm
   refine ⟨k+1,⟨by omega,hR⟩,by omega,nrq _,lRq _,hcl,?_,?_⟩
   ·simp [ltF,znf,hm]
   ·simp [ba,wk2,wk1,wkM,Fr.get]
 ·have hk':k=xs.length:=by simp at hc;omega
  subst hk'
  rw [List.drop_length] at hR
  unfold ixP at hR
  subst hR
  simp only [go_sem]
  exact Z2
def eA:List AV→AHeap→(AV→Prop)→Prop
 |[.slice _ 1 l,.int .i64 n],_,K=>∃ xs:List Int,(l=inL xs∧xs.length≤1000000)∧K (.bool (xs.contains n))
 |_,_,_=>False
theorem Hi {xs:List Int} {n:Int}:decide (ixP (fun x=>x==n) xs 0 ≥ 0)=xs.contains n:=by
 have key:∀ (xs:List Int) (k:Nat),decide (0≤ixP (fun x=>x==n) xs k)=xs.contains n:=by
  intro xs
  induction xs with
  |nil=>intro k;rfl
  |cons x xs ih =>
   intro k
   unfold ixP
   rw [List.contains_cons]
   by_cases h:x=n
   ·subst h;simp
   ·rw [if_neg (by simp [h]),ih]
    have:(n==x)=false:=beq_eq_false_iff_ne.2 (Ne.symm h)
    rw [this,Bool.false_or]
 exact key xs 0
theorem ni:EntOk Tryz.prog 51 (Ent.pure eA):=by
 refine Ype fun _ H K h=>?_
 unfold eA at h
 split at h
 rotate_left
 ·exact h.elim
 rename_i m l n
 obtain ⟨xs,⟨rfl,hl⟩,hK⟩:=h
 refine ⟨_,hK,?_⟩
 clear hK
 generalize hR:xs.contains n=R
 rw [← Hi] at hR
 refine ACalls.fW ak (tCq zV tNq) Tryz.func51 [.tmp 4] (nrq _) (T:=aj []) (h:=fun hcl hlt=>?_)
 clear hlt
 simp only [go_sem,qI]
 refine ⟨xs,⟨rfl,hl⟩,?_⟩
 have hR':decide (0≤ixP (fun x=>x==n) xs 0)=R:=hR
 simp only [ag,go_sem,hR']
 exact Z2
theorem w6 {n:Nat} (S:Sch):ltL n [.slice .any 3 (S.fields.map aV),.slice .any 3 (S.headers.map aH),.slice .any 5 (S.states.map aL),.slice .any 5 (S.actions.map ax),.slice .any 8 (S.tables.map az),.slice .any 2 (S.stages.map cu),.slice .any 6 (S.roles.map br),.slice .any 6 (S.refs.map bZ),.int .i64 S.maxBatch,.int .i64 S.budget]:=by
 have:=@vO n S
 unfold mI aO at this
 rwa [znr] at this
def Fe:List SParam→List Nat→Bool
 |p::ps,v::vs=>decide (((bl v:Nat):Int)≤p.bits)&&Fe ps vs
 |_,_=>true
def Gp (ps:List SParam) (vs:List Nat):Bool:=decide (vs.length=ps.length)&&Fe ps vs
end Go.AL
