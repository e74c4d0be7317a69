/- Lemmas of the proof; no condition. -/
import Derived.Test.YtjnhidpnfdbmaaaGreatS12b
import Derived.Test.YtjnhidpnfdbmaaaGreatS11g
import Derived.Test.YtjnhidpnfdbmaaaGreatS09i
set_option linter.all false
set_option maxRecDepth 10000
set_option maxHeartbeats 32000000
open Go Go.AL Go.Proofs
namespace Go.AL
def wN:PCt
 |[.str s,.slice _ 2 y,.slice _ 4 z],_,K=>∃ vs b,(y=bC vs∧DF vs∧s.length≤140737488355328∧z=aS b∧B0 b)∧K (.bool (qk vs s b))
 |_,_,_=>False
theorem L6:EPp 90 wN:=by
 refine Ype fun _ H K h=>?_
 unfold wN at h
 split at h<;>try exact h.elim
 rename_i s m y m2 z
 obtain⟨vs,b,⟨rfl,hv,hs,rfl,hb⟩,hK⟩:=h
 refine⟨_,hK,?_⟩
 clear hK
 generalize hR:qk vs s b=R
 refine Yfu az (tCq De (tCq It tNq)) Tryz.func90 [.tmp 6] fun hcl=>?_
 simp only[go_sem,sy]
 refine⟨vs,⟨rfl,hv,hs⟩,?_⟩
 have hC:=@xg (bX vs) s
 unfold qk at hR
 obtain⟨⟨t,er⟩,hq⟩:∃ q,comp (bX vs) s=q:=⟨_,rfl⟩
 rw[hq]at hC hR ⊢
 dsimp only at hR
 by_cases h0:er=0
 ·subst h0
  rw[if_pos rfl]at hR
  have d0:(((0:Nat):Int)==0)=true:=rfl
  simp only[aF,go_sem,il,d0,yW]
  refine⟨t,b,⟨rfl,rfl,hC rfl,hb⟩,?_⟩
  rw[hR]
  refine T28 ?_
  exact Z24
 ·rw[if_neg h0]at hR
  subst hR
  have d0:((er:Int)==0)=false:=by simp[h0]
  simp only[aF,go_sem,il,d0]
  exact Z24
def Ej:PCt
 |[.agg l,.agg le],_,K=>∃ S e,(l=bb S∧le=a9 e∧SAdm S∧EAdm e)∧K (.bool (wm S e))
 |_,_,_=>False
theorem OT:EPp 55 Ej:=by
 refine Ype fun _ H K h=>?_
 unfold Ej at h
 split at h<;>try exact h.elim
 rename_i l le
 obtain⟨S,e,⟨rfl,rfl,hS,he⟩,hK⟩:=h
 refine⟨_,hK,?_⟩
 clear hK
 generalize hR:wm S e=R
 unfold wm iW at hR
 refine Yfw az (tCq mJ (tCq zb (tCq Mm (tCq L6 (tCq tg (tCq yV (tCq I0 tNq))))))) Tryz.func55 [.tmp 4] (nrq _) (T:=ay [(2,[[],[],[],[],[],[],[],[],[],[],[],[],[],[],[10,13],[],[],[],[],[],[],[],[10,13,14,15,17,20,21],[4,8,10,13,14,15,17,20,21,22]]),(7,[[],[],[],[],[],[],[],[],[],[],[],[],[],[],[10,13],[],[],[],[],[],[],[],[10,13,14,16,19,21],[4,8,10,13,14,16,19,21,22]])]) (h:=fun hcl=>?_)
 simp only[go_sem,bb,a9,kF]
 refine⟨S,⟨rfl,hS.sl⟩,?_⟩
 rcases fQ (q:=fun t:STable=>t.id==e.table) (l:=S.tables)with⟨b1,b2⟩|⟨i,t,b1,hil,b3,b2,_⟩
 ·rw[b2]at hR
  dsimp only at hR
  subst hR
  rw[b1]
  have d:decide ((-1:Int)<0)=true:=rfl
  simp only[aF,go_sem,d]
  exact Z24
 rw[b2]at hR
 dsimp only at hR
 rw[b1]
 have d:decide ((i:Int)<0)=false:=Xb
 have hg':=bf (f:=bc) (l:=S.tables) (k:=i) (x:=t) b3
 have hot:=hS.tk t (List.mem_of_getElem? b3)
 have hk1:t.keys.length≤1000:=by have:=hot.1;omega
 have hbs:=AK (fs:=S.fields) (keys:=t.keys) he hk1
 have dn1:(!true)=false:=rfl
 have dn2:(!false)=true:=rfl
 simp only[aF,go_sem,d,iNq,hg',bc,List.length_map,oN]
 refine⟨Xa,Xa,t.keys,⟨rfl,hk1⟩,?_⟩
 simp only[aF,go_sem,d,iNq,hg',bc,List.length_map,B4]
 refine⟨Xa,S,t.keys,e.ms,⟨rfl,hS.sl,rfl,hk1,.inl ⟨_,rfl⟩,he.ml,he.pf,he.pr⟩,?_⟩
 simp only[aF,go_sem,wN]
 refine⟨_,_,⟨rfl,Dk hot,zZ hot,rfl,hbs⟩,?_⟩
 cases hmv:qk (nM t.keys) t.restr (pk S.fields t.keys e.ms e.prio)with
 |false=>
  rw[hmv,Bool.false_and]at hR
  subst hR
  simp only[aF,go_sem,dn1,dn2]
  exact Z24
 |true=>
 rw[hmv,Bool.true_and]at hR
 unfold Qu QE at hR
 by_cases ha:e.act=0
 ·rw[if_pos ha]at hR
  subst hR
  have da:(e.act==0)=true:=by rw[ha];rfl
  simp only[aF,go_sem,dn1,dn2,da]
  exact Z24
 rw[if_neg ha]at hR
 have da:(e.act==0)=false:=by simp[ha]
 simp only[aF,go_sem,dn1,dn2,da,mF]
 refine⟨S,⟨rfl,hS.sl⟩,?_⟩
 rcases fQ (q:=fun a:SAction=>a.id==e.act) (l:=S.actions)with⟨q1,q2⟩|⟨j,a,q1,hjl,q3,q2,_⟩
 ·rw[q2]at hR
  dsimp only at hR
  subst hR
  rw[q1]
  have d:decide ((-1:Int) ≥ 0)=false:=rfl
  simp only[aF,go_sem,d]
  exact Z24
 rw[q2]at hR
 dsimp only at hR
 rw[q1]
 have dj:decide ((j:Int) ≥ 0)=true:=Xb
 have hga:=bf (f:=bu) (l:=S.actions) (k:=j) (x:=a) q3
 have hoa:=hS.ak a (List.mem_of_getElem? q3)
 have hp1:a.params.length≤1000:=by have:=hoa.1;omega
 have hbs2:=zO (ps:=a.params) he hp1
 simp only[aF,go_sem,dj,iNq,hga,bu,List.length_map,nj]
 refine⟨Xa,Xa,a.params,⟨rfl,hp1⟩,?_⟩
 simp only[aF,go_sem,dj,iNq,hga,bu,List.length_map,xh]
 refine⟨Xa,a.params,e.args,⟨rfl,hp1,.inl ⟨_,rfl⟩⟩,?_⟩
 try simp only[aF,go_sem,wN]
 refine⟨_,_,⟨rfl,D2 hoa,hoa.2.2,rfl,hbs2⟩,?_⟩
 rw[hR]
 refine T28 ?_
 exact Z24
theorem Ip{b:List UInt8}:SLen (bY b 0).1:=⟨by simp only[bY];decide,by simp only[bY];decide,by
 show(bM b (cp 0 2)).1.length≤1000000
 unfold bM
 split<;>split<;>simp,by
 simp only[bY,di];simp,by
 simp only[bY,cm];simp,by
 simp only[bY,gQ];simp⟩
theorem M7{b:List UInt8}:SAdm (bY b 0).1:=⟨Ip,IC b (cp (bM b (cp 0 2)).2 4),HQ b (bM b (cp 0 2)).2⟩
theorem Pv{S:Sch}(hG:GenS S){m:Int}{e:SEntry}(h:GE S (fH S m) e):EAdm e:=by
 have hkl:=hG.kl _ (ln (S:=S) (n:=m) hG.t1)
 have ho:=h.ok hkl hG.pl
 have hml:=h.ml
 refine⟨Xa,fun x hx=>?_,by have:=h.p1;omega,ho.mo,fun x hx=>Nat.lt_of_lt_of_le (h.ao x hx) Xc⟩
 have:=(h.mo x hx).p1
 omega
end Go.AL
