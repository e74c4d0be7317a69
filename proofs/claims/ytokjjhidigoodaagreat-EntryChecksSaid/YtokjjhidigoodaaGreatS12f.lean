/- Lemmas of the proof; no condition. -/
import Derived.Test.YtokjjhidigoodaaGreatS12b
set_option linter.all false
set_option maxRecDepth 10000
set_option maxHeartbeats 32000000
open Go Go.AL Go.Proofs
namespace Go.AL
def uO:List AV→AHeap→(AV→Prop)→Prop
 |[.str s,.slice _ 2 y,.slice _ 4 z],_,K=>∃ vs b,(y=bz vs∧Cx vs∧s.length≤140737488355328∧z=aU b∧Ax b)∧K (.bool (oz vs s b))
 |_,_,_=>False
theorem IL:EntOk Tryz.prog 59 (Ent.pure uO):=by
 refine Ype fun _ H K h=>?_
 unfold uO at h
 split at h
 rotate_left
 ·exact h.elim
 rename_i s m y m2 z
 obtain ⟨vs,b,⟨rfl,hv,hs,rfl,hb⟩,hK⟩:=h
 refine ⟨_,hK,?_⟩
 clear hK
 generalize hR:oz vs s b=R
 refine Yfv ax (tCq Cn (tCq Hw tNq)) Tryz.func59 [.tmp 6] fun hcl hlt=>?_
 clear hlt
 simp only [go_sem,qC]
 refine ⟨vs,⟨rfl,hv,hs⟩,?_⟩
 have hC:=@vQ (bV vs) s
 unfold oz at hR
 obtain ⟨⟨t,er⟩,hq⟩:∃ q,comp (bV vs) s=q:=⟨_,rfl⟩
 rw [hq] at hC hR ⊢
 dsimp only at hR
 by_cases h0:er=0
 ·subst h0
  rw [if_pos rfl] at hR
  have d0:(((0:Nat):Int)==0)=true:=rfl
  simp only [aM,go_sem,gJ,d0,vP]
  refine ⟨t,b,⟨rfl,rfl,hC rfl,hb⟩,?_⟩
  rw [hR]
  try simp only [aM,go_sem]
  exact Z24
 ·rw [if_neg h0] at hR
  subst hR
  have d0:((er:Int)==0)=false:=by simp [h0]
  simp only [aM,go_sem,gJ,d0]
  exact Z24
def Dm:List AV→AHeap→(AV→Prop)→Prop
 |[.agg l,.agg le],_,K=>∃ S e,(l=bv S∧le=bG e∧SAdm S∧EAdm e)∧K (.bool (zB S e))
 |_,_,_=>False
theorem L5:EntOk Tryz.prog 15 (Ent.pure Dm):=by
 refine Ype fun _ H K h=>?_
 unfold Dm at h
 split at h
 rotate_left
 ·exact h.elim
 rename_i l le
 obtain ⟨S,e,⟨rfl,rfl,hS,he⟩,hK⟩:=h
 refine ⟨_,hK,?_⟩
 clear hK
 generalize hR:zB S e=R
 unfold zB tC at hR
 refine ACalls.fW ax (tCq oI (tCq xn (tCq Iu (tCq IL (tCq ss (tCq xh (tCq Gj tNq))))))) Tryz.func15 [.tmp 4] (nrq _) (T:=av [(2,[[],[],[],[],[],[],[],[],[],[],[],[],[],[],[10,13],[],[],[],[],[],[],[],[10,13,14,15,17,20,21],[4,8,10,13,14,15,17,20,21,22]]),(7,[[],[],[],[],[],[],[],[],[],[],[],[],[],[],[10,13],[],[],[],[],[],[],[],[10,13,14,16,19,21],[4,8,10,13,14,16,19,21,22]])]) (h:=fun hcl hlt=>?_)
 clear hlt
 simp only [go_sem,bv,bG,lE]
 refine ⟨S,⟨rfl,hS.sl⟩,?_⟩
 rcases sc (q:=fun t:STable=>t.id==e.table) (l:=S.tables) with ⟨b1,b2⟩|⟨i,t,b1,hil,b3,b2,_⟩
 ·rw [b2] at hR
  dsimp only at hR
  subst hR
  rw [b1]
  have d:decide ((-1:Int)<0)=true:=rfl
  simp only [aM,go_sem,d]
  exact Z24
 rw [b2] at hR
 dsimp only at hR
 rw [b1]
 have d:decide ((i:Int)<0)=false:=by simp
 have hg':=bC (f:=aV) (l:=S.tables) (k:=i) (x:=t) b3
 have hot:=hS.tk t (List.mem_of_getElem? b3)
 have hk1:t.keys.length≤1000:=by have:=hot.1;omega
 have hbs:=x8 (fs:=S.fields) (keys:=t.keys) he hk1
 have dn1:(!true)=false:=rfl
 have dn2:(!false)=true:=rfl
 simp only [aM,go_sem,d,iNq,hg',aV,List.length_map,nH]
 refine ⟨by omega,by omega,t.keys,⟨rfl,hk1⟩,?_⟩
 simp only [aM,go_sem,d,iNq,hg',aV,List.length_map,z7]
 refine ⟨by omega,S,t.keys,e.ms,⟨rfl,hS.sl,rfl,hk1,.inl ⟨_,rfl⟩,he.ml,he.pf,he.pr⟩,?_⟩
 simp only [aM,go_sem,uO]
 refine ⟨_,_,⟨rfl,AX hot,xW hot,rfl,hbs⟩,?_⟩
 cases hmv:oz (mK t.keys) t.restr (nQ S.fields t.keys e.ms e.prio) with
 |false =>
  rw [hmv,Bool.false_and] at hR
  subst hR
  simp only [aM,go_sem,dn1,dn2]
  exact Z24
 |true =>
 rw [hmv,Bool.true_and] at hR
 unfold Nv N4 at hR
 by_cases ha:e.act=0
 ·rw [if_pos ha] at hR
  subst hR
  have da:(e.act==0)=true:=by rw [ha];rfl
  simp only [aM,go_sem,dn1,dn2,da]
  exact Z24
 rw [if_neg ha] at hR
 have da:(e.act==0)=false:=by simp [ha]
 simp only [aM,go_sem,dn1,dn2,da,lV]
 refine ⟨S,⟨rfl,hS.sl⟩,?_⟩
 rcases sc (q:=fun a:SAction=>a.id==e.act) (l:=S.actions) with ⟨q1,q2⟩|⟨j,a,q1,hjl,q3,q2,_⟩
 ·rw [q2] at hR
  dsimp only at hR
  subst hR
  rw [q1]
  have d:decide ((-1:Int) ≥ 0)=false:=rfl
  simp only [aM,go_sem,d]
  exact Z24
 rw [q2] at hR
 dsimp only at hR
 rw [q1]
 have dj:decide ((j:Int) ≥ 0)=true:=by simp
 have hga:=bC (f:=a8) (l:=S.actions) (k:=j) (x:=a) q3
 have hoa:=hS.ak a (List.mem_of_getElem? q3)
 have hp1:a.params.length≤1000:=by have:=hoa.1;omega
 have hbs2:=yK (ps:=a.params) he hp1
 simp only [aM,go_sem,dj,iNq,hga,a8,List.length_map,mD]
 refine ⟨by omega,by omega,a.params,⟨rfl,hp1⟩,?_⟩
 simp only [aM,go_sem,dj,iNq,hga,a8,List.length_map,wu]
 refine ⟨by omega,a.params,e.args,⟨rfl,hp1,.inl ⟨_,rfl⟩⟩,?_⟩
 try simp only [aM,go_sem,uO]
 refine ⟨_,_,⟨rfl,B3 hoa,hoa.2.2,rfl,hbs2⟩,?_⟩
 rw [hR]
 try simp only [aM,go_sem]
 exact Z24
end Go.AL
