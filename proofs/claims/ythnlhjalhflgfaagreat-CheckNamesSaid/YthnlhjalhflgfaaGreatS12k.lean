/- Lemmas of the proof; no condition. -/
import Derived.Test.YthnlhjalhflgfaaGreatS12a
import Derived.Test.YthnlhjalhflgfaaGreatS10t
set_option linter.all false
set_option maxRecDepth 10000
open Go Go.AL Go.Proofs
namespace Go.AL
def rC:List AV→AHeap→(AV→Prop)→Prop
 |[.slice _ 1 l,.int .i64 n],_,K=>∃ xs:List Int,(l=inL xs∧xs.length≤1000000)∧K (.int .i64 (ixP (fun x=>x==n) xs 0))
 |_,_,_=>False
theorem Cc:EntOk Tryz.prog 187 (Ent.pure rC):=by
 refine Ype fun _ H K h=>?_
 unfold rC at h
 split at h
 rotate_left
 ·exact h.elim
 rename_i m l n
 obtain ⟨xs,⟨rfl,hl⟩,hK⟩:=h
 refine ⟨_,hK,?_⟩
 clear hK
 generalize hR:ixP (fun x:Int=>x==n) xs 0=R
 refine ACalls.fW ap tNq Tryz.func187 [.tmp 4] (nrq _) (T:=aj []) (h:=fun hcl hlt=>?_)
 have hm:AV.lt H.nx (.slice m 1 (inL xs)):=hlt _ (by simp)
 clear hlt
 simp only [go_sem,J9]
 refine aD (A:=Nat) (fun k=>[(0,.slice m 1 (inL xs)),(1,.int .i64 n),(7,.int .i64 (xs.length:Int)),(8,.int .i64 (k:Int))]) (fun _=>H) (fun k=>k≤xs.length∧ixP (fun x:Int=>x==n) (xs.drop k) k=R) (fun k=>xs.length - k) 0 ⟨by omega,hR⟩ ?_ fun k hk=>?_
 ·refine ⟨nrq _,lRq _,hcl,?_,?_⟩
  ·simp [ltF,znf,hm]
  ·simp [bk,wk2,wk1,wkM,Fr.get]
 clear hR
 obtain ⟨hk,hR⟩:=hk
 simp only [go_sem]
 refine ak (fun hc=>?_) (fun hc=>?_)
 ·have hk':k<xs.length:=by simp at hc;omega
  obtain ⟨x,hx⟩:∃ x,x=xs[k]:=⟨_,rfl⟩
  have hd:xs.drop k=x::xs.drop (k+1):=by rw [hx];exact dcq hk'
  have hg:=a0 (f:=AV.int .i64) (l:=xs) (k:=k) (x:=x) (by rw [gQq hk',hx])
  have e5:=Yk5 k
  rw [hd] at hR
  unfold ixP at hR
  simp only [go_sem,iNq,inL,hg,List.length_map]
  (repeat with_reducible refine Yq ?_)
  rw [show (n==x)=(x==n) from BEq.comm]
  refine ak (fun hq=>?_) (fun hq=>?_)
  ·rw [if_pos hq] at hR
   subst hR
   simp only [go_sem]
   exact Z2
  ·rw [if_neg (by rw [hq];decide)] at hR
   simp only [go_sem,e5]
   unfold inL at hm
   refine ⟨k+1,⟨by omega,hR⟩,by omega,nrq _,lRq _,hcl,?_,?_⟩
   ·simp [ltF,znf,hm]
   ·simp [bk,wk2,wk1,wkM,Fr.get]
 ·have hk':k=xs.length:=by simp at hc;omega
  subst hk'
  rw [List.drop_length] at hR
  unfold ixP at hR
  subst hR
  simp only [go_sem]
  exact Z2
def fk:List AV→AHeap→(AV→Prop)→Prop
 |[.slice _ 1 l,.int .i64 n],_,K=>∃ xs:List Int,(l=inL xs∧xs.length≤1000000)∧K (.bool (xs.contains n))
 |_,_,_=>False
theorem KL {xs:List Int} {n:Int}:decide (ixP (fun x=>x==n) xs 0 ≥ 0)=xs.contains n:=by
 have key:∀ (xs:List Int) (k:Nat),decide (0≤ixP (fun x=>x==n) xs k)=xs.contains n:=by
  intro xs
  induction xs with
  |nil=>intro k;rfl
  |cons x xs ih =>
   intro k
   unfold ixP
   rw [List.contains_cons]
   by_cases h:x=n
   ·subst h;simp
   ·rw [if_neg (by simp [h]),ih]
    have:(n==x)=false:=beq_eq_false_iff_ne.2 (Ne.symm h)
    rw [this,Bool.false_or]
 exact key xs 0
theorem oY:EntOk Tryz.prog 51 (Ent.pure fk):=by
 refine Ype fun _ H K h=>?_
 unfold fk at h
 split at h
 rotate_left
 ·exact h.elim
 rename_i m l n
 obtain ⟨xs,⟨rfl,hl⟩,hK⟩:=h
 refine ⟨_,hK,?_⟩
 clear hK
 generalize hR:xs.contains n=R
 rw [← KL] at hR
 refine ACalls.fW ap (tCq Cc tNq) Tryz.func51 [.tmp 4] (nrq _) (T:=aj []) (h:=fun hcl hlt=>?_)
 clear hlt
 simp only [go_sem,rC]
 refine ⟨xs,⟨rfl,hl⟩,?_⟩
 have hR':decide (0≤ixP (fun x=>x==n) xs 0)=R:=hR
 simp only [ah,go_sem,hR']
 exact Z2
theorem uH {n:Nat} (S:Sch):ltL n [.slice .any 3 (S.fields.map aX),.slice .any 3 (S.headers.map aH),.slice .any 5 (S.states.map aO),.slice .any 5 (S.actions.map aA),.slice .any 8 (S.tables.map aC),.slice .any 2 (S.stages.map bx),.slice .any 6 (S.roles.map bc),.slice .any 6 (S.refs.map bU),.int .i64 S.maxBatch,.int .i64 S.budget]:=by
 have:=@hY n S
 unfold gu aS at this
 rwa [znr] at this
def EI:List SParam→List Nat→Bool
 |p::ps,v::vs=>decide (((bl v:Nat):Int)≤p.bits)&&EI ps vs
 |_,_=>true
def Ju (ps:List SParam) (vs:List Nat):Bool:=decide (vs.length=ps.length)&&EI ps vs
end Go.AL
