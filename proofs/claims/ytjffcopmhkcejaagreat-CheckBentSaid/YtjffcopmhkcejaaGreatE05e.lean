/- Lemmas of the proof; no condition. -/
import Derived.Test.YtjffcopmhkcejaaGreatE05b
import Derived.Test.YtjffcopmhkcejaaGreatW03p
set_option linter.all false
set_option maxRecDepth 10000
set_option maxHeartbeats 32000000
open Go Go.AL Go.Proofs
namespace Go.AL
theorem lm{α:Type}{p q:α→Bool}:∀{l:List α},(l.all fun t=>p t&&q t)=(l.all p&&l.all q)
 |[]=>rfl
 |x::l=>by
  rw[List.all_cons,List.all_cons,List.all_cons,lm]
  cases p x<;>cases q x<;>cases l.all p<;>rfl
def onF{α:Type}[BEq α]:List α→List α→Bool
 |_,[]=>true
 |p,x::l=>!p.contains x&&onF (p++[x]) l
theorem Mk{α:Type}[BEq α][LawfulBEq α]:∀{l s p:List α},(∀ x,x∈s↔x∈p)→dsF s l=onF p l
 |[],s,p,h=>rfl
 |x::l,s,p,h=>by
  unfold dsF onF
  have h1:s.contains x=p.contains x:=by rw[Bool.eq_iff_iff];simp[h x]
  rw[h1,Mk (l:=l) (s:=x::s) (p:=p++[x]) (fun y=>by simp[h y,or_comm])]
def Eo{α:Type}[BEq α][LawfulBEq α]{l:List α}:dsF [] l=onF [] l:=Mk fun x=>Iff.rfl
theorem evL{α:Type}{k:By}{f:α→By}{g:α→Bool}:∀{l:List α}{s:List VN} {p:List (By)},(∀ n,(k,n)∈s↔n∈p) →
 (evS (fun t s=>((adS k (f t) s).1&&g t,(adS k (f t) s).2)) l s).1=(onF p (l.map f)&&l.all g) ∧
 ((evS (fun t s=>((adS k (f t) s).1&&g t,(adS k (f t) s).2)) l s).1=true→∀ k' n,k'≠k→((k',n)∈(evS (fun t s=>((adS k (f t) s).1&&g t,(adS k (f t) s).2)) l s).2↔(k',n)∈s))
 |[],s,p,h=>⟨rfl,fun _ _ _ _=>Iff.rfl⟩
 |x::l,s,p,h=>by
  unfold evS
  dsimp only
  rw[List.map_cons,onF,List.all_cons]
  have h0:s.contains (k,f x)=p.contains (f x):=by rw[Bool.eq_iff_iff];simp[h (f x)]
  unfold adS
  rw[h0]
  cases hp:p.contains (f x)with
  |true=>
   simp only[if_true,Bool.false_and,Bool.false_eq_true,if_false,Bool.not_true]
   exact⟨trivial,fun h=>by cases h⟩
  |_=>
   simp only[Bool.false_eq_true,if_false,Bool.true_and,Bool.not_false]
   cases hg:g x with
   |false=>
    simp only[Bool.false_eq_true,if_false,Bool.false_and,Bool.and_false]
    exact⟨trivial,fun h=>by cases h⟩
   |true=>
    simp only[if_true,Bool.true_and]
    have ih:=evL (k:=k) (f:=f) (g:=g) (l:=l) (s:=(k,f x)::s) (p:=p++[f x]) (fun n=>by
     rw[List.mem_cons,List.mem_append,List.mem_singleton,← h n,Prod.mk.injEq]
     constructor
     ·rintro(⟨_,h⟩|h)
      ·exact .inr h
      ·exact .inl h
     ·rintro(h|h)
      ·exact .inr h
      ·exact .inl ⟨rfl,h⟩)
    unfold adS at ih
    refine⟨ih.1,fun ht k' n hk=>?_⟩
    rw[ih.2 ht k' n hk,List.mem_cons,Prod.mk.injEq]
    exact⟨fun h=>h.resolve_left fun e=>hk e.1,.inr⟩
def SX{α:Type}{k:By}{f:α→By}{l:List α}{s:List VN}(h:∀ n,(k,n) ∉ s) :
 (evS (fun t=>adS k (f t)) l s).1=onF [] (l.map f)∧((evS (fun t=>adS k (f t)) l s).1=true→∀ k' n,k'≠k→((k',n)∈(evS (fun t=>adS k (f t)) l s).2↔(k',n)∈s)):=by
 have h1:=evL (k:=k) (f:=f) (g:=fun _=>true) (l:=l) (s:=s) (p:=[]) (fun n=>by simp[h n])
 have e:(fun t=>adS k (f t))=(fun(t:α)(s:List VN)=>((adS k (f t) s).1&&(fun _=>true) t,(adS k (f t) s).2)):=by
  funext t s
  simp
 rw[← e]at h1
 refine⟨?_,h1.2⟩
 rw[h1.1]
 have:l.all (fun _=>true)=true:=Xc
 rw[this,Bool.and_true]
def Hu{S:Sch}:snB S=(onF [] (S.fields.map (·.name))&&(onF [] (S.headers.map (·.name))&&((onF [] (S.actions.map (·.name))&&S.actions.all fun t=>dsF [] (t.params.map (·.name)))&&((onF [] (S.tables.map (·.name))&&S.tables.all fun t=>dsF [] (t.keys.map (·.name)))&&onF [] (S.roles.map (·.name)))))):=by
 unfold snB
 dsimp only
 obtain⟨a1,a2⟩:=SX (k:=kFld) (f:=fun t:SField=>t.name) (l:=S.fields) (s:=[]) (fun n=>Xc)
 generalize ha:evS (fun(t:SField)=>adS kFld t.name) S.fields []=a at *
 cases a1':a.1 with
 |false=>rw[← a1,a1',Bool.false_and,Bool.false_and]
 |true=>
  have a3:=a2 a1'
  rw[← a1,a1',Bool.true_and,Bool.true_and]
  obtain⟨b1,b2⟩:=SX (k:=kHdr) (f:=fun t:SHeader=>t.name) (l:=S.headers) (s:=a.2) (fun n=>by rw[a3 kHdr n (by decide)];simp)
  generalize hb:evS (fun(t:SHeader)=>adS kHdr t.name) S.headers a.2=b at *
  cases b1':b.1 with
  |false=>rw[← b1,b1',Bool.false_and,Bool.false_and]
  |true=>
   have b3:=b2 b1'
   rw[← b1,b1',Bool.true_and,Bool.true_and]
   obtain⟨c1,c2⟩:=evL (k:=kAct) (f:=fun t:SAction=>t.name) (g:=fun t=>dsF [] (t.params.map (·.name))) (l:=S.actions) (s:=b.2) (p:=[]) (fun n=>by rw[b3 kAct n (by decide),a3 kAct n (by decide)];simp)
   have ec:(fun(t:SAction)(s:List VN)=>((adS kAct t.name s).1&&dsF [] (t.params.map (·.name)),(adS kAct t.name s).2))=adA:=rfl
   rw[ec]at c1 c2
   generalize hc:evS adA S.actions b.2=c at *
   cases c1':c.1 with
   |false=>rw[← c1,c1',Bool.false_and,Bool.false_and]
   |true=>
    have c3:=c2 c1'
    rw[← c1,c1',Bool.true_and,Bool.true_and]
    obtain⟨d1,d2⟩:=evL (k:=kTab) (f:=fun t:STable=>t.name) (g:=fun t=>dsF [] (t.keys.map (·.name))) (l:=S.tables) (s:=c.2) (p:=[]) (fun n=>by rw[c3 kTab n (by decide),b3 kTab n (by decide),a3 kTab n (by decide)];simp)
    have ed:(fun(t:STable)(s:List VN)=>((adS kTab t.name s).1&&dsF [] (t.keys.map (·.name)),(adS kTab t.name s).2))=adT:=rfl
    rw[ed]at d1 d2
    generalize hd:evS adT S.tables c.2=d at *
    cases d1':d.1 with
    |false=>rw[← d1,d1',Bool.false_and,Bool.false_and]
    |true=>
     have d3:=d2 d1'
     rw[← d1,d1',Bool.true_and,Bool.true_and]
     exact(SX (k:=kRol) (f:=fun t:SRole=>t.name) (l:=S.roles) (s:=d.2) (fun n=>by rw[d3 kRol n (by decide),c3 kRol n (by decide),b3 kRol n (by decide),a3 kRol n (by decide)];simp)).1
def rU(S:Sch):List (List Int):=[S.fields.map (·.id),S.headers.map (·.id),S.states.map (·.id),S.actions.map (·.id),S.tables.map (·.id),S.roles.map (·.id)]
def Gz(S:Sch):Bool:=wB S.maxBatch 1 32&&(wB S.budget 1 200&&(((rU S).all fun l=>l.all fun n=>wB n 1 65534)&&((S.fields.all fun f=>wB f.bits 1 128)&&((S.headers.all fun h=>decide (0<h.fields.length))&&((S.actions.all fun a=>a.params.all fun p=>wB p.bits 1 128)&&((S.tables.all fun t=>wB t.size 1 64&&decide (0<t.keys.length))&&S.roles.all fun r=>decide (r.quota≤512)))))))
def P6{S:Sch}:Gz S=tt S:=by
 unfold Gz tt rU
 have e1:S.fields.all nm1=((S.fields.all fun t=>wB t.id 1 65534)&&S.fields.all fun t=>wB t.bits 1 128):=lm
 have e2:S.headers.all nm2=((S.headers.all fun t=>wB t.id 1 65534)&&S.headers.all fun t=>decide (0<t.fields.length)):=lm
 have e4:S.actions.all nm4=((S.actions.all fun t=>wB t.id 1 65534)&&S.actions.all fun t=>t.params.all fun p=>wB p.bits 1 128):=lm
 have e5:S.tables.all nm5=((S.tables.all fun t=>wB t.id 1 65534)&&S.tables.all fun t=>wB t.size 1 64&&decide (0<t.keys.length)):=lm
 have e6:S.roles.all nm6=((S.roles.all fun t=>wB t.id 1 65534)&&S.roles.all fun t=>decide (t.quota≤512)):=lm
 rw[e1,e2,e4,e5,e6]
 simp only[List.all_cons,List.all_nil,Bool.and_true,List.all_map,Function.comp_def]
 ac_rfl
def GU(S:Sch):Bool:=((rU S).all fun l=>onF [] l)&&((S.actions.all fun t=>onF [] (t.params.map (·.name)))&&((S.tables.all fun t=>onF [] (t.keys.map (·.name))&&onF [] t.actions)&&((S.roles.all fun t=>onF [] (t.grants.map (·.table))&&onF [] t.actions) &&
 (onF [] (S.fields.map (·.name))&&(onF [] (S.headers.map (·.name))&&(onF [] (S.actions.map (·.name))&&(onF [] (S.tables.map (·.name))&&(onF [] (S.roles.map (·.name))&&onF [] (S.headers.flatMap (·.fields))))))))))
def NO{S:Sch}:GU S=oL S:=by
 unfold GU oL rU
 rw[Hu]
 have e1:S.roles.all rlB=((S.roles.all fun t=>dsF [] (t.actions.map fun n=>n))&&S.roles.all fun t=>dsF [] (t.grants.map (·.table))):=lm
 rw[e1]
 simp only[Eo,List.map_id',lm,List.all_cons,List.all_nil,Bool.and_true]
 ac_rfl
theorem kL{α:Type}{p q:α→Bool}:∀{l:List α},(∀ x∈l,p x=q x)→l.all p=l.all q
 |[],_=>rfl
 |x::l,h=>by
  rw[List.all_cons,List.all_cons,h x List.mem_cons_self,kL fun y hy=>h y (List.mem_cons_of_mem x hy)]
def wG(p:SPrim):Bool:=if p.op==4||(p.op==5||p.op==6)then p.kind==0&&(p.n==0&&decide (p.value=0))else if p.kind==1 then p.n==0 else(p.kind==2||p.kind==3)&&decide (p.value=0)
def kpB(p:SPrim):Bool:=wB p.op 1 7&&(wG p&&(p.dst==0||(p.op !=6&&p.op !=7)))
def krB(r:SRef):Bool:=(r.action==0&&r.param==0)||(r.action !=0&&r.key==0)
def GF(S:Sch):Bool:=(S.actions.all fun a=>a.body.all kpB)&&((S.tables.all fun t=>ftB t.keys 0)&&(S.states.all fsB&&S.refs.all krB))
def R7(p:SPrim):kpB p=fpB p:=by
 unfold kpB fpB
 cases hw:wB p.op 1 7 with
 |false=>rfl
 |true=>
  unfold wB at hw
  simp only[Bool.and_eq_true,decide_eq_true_eq]at hw
  have h7:p.op=1∨p.op=2∨p.op=3∨p.op=4∨p.op=5∨p.op=6∨p.op=7:=Xa
  unfold wG lH
  have hd:(p.dst !=0)=!(p.dst==0):=rfl
  rw[hd]
  rcases h7 with h|h|h|h|h|h|h<;>rw[h]<;>cases p.dst==0<;>cases p.kind==0<;>cases p.kind==1<;>cases p.kind==2<;>cases p.kind==3<;>cases p.n==0<;>cases decide (p.value=0)<;>rfl
def Sg(r:SRef):krB r=frB r:=by
 unfold krB frB
 have hd:(r.action !=0)=!(r.action==0):=rfl
 rw[hd]
 cases r.action==0<;>simp
def O0{S:Sch}:GF S=mK S:=by
 unfold GF mK
 rw[kL (p:=fun a:SAction=>a.body.all kpB) (q:=fun a=>a.body.all fpB) fun a _=>kL fun p _=>R7 p,kL (p:=krB) (q:=frB) fun r _=>Sg r]
def rpB(S:Sch)(np:Nat)(p:SPrim):Bool:=(if p.op==1||(p.op==2||p.op==3)then bp S p.dst else if p.op==4||p.op==5 then fu S p.dst else true)&&((p.kind !=2||bp S p.n)&&(p.kind !=3||decide (p.n<(np:Int))))
def Sm{S:Sch}{np:Nat}{p:SPrim}(h:fpB p=true):rpB S np p=oP S np p:=by
 unfold rpB oP
 have h45:(p.op==1||(p.op==2||p.op==3))=false→(p.op==4||p.op==5)=true→p.kind=0:=fun h1 h2=>by
  unfold fpB at h
  have ho:lH p.op=false:=by
   simp only[Bool.or_eq_true,beq_iff_eq]at h2
   rcases h2 with h2|h2<;>rw[h2]<;>rfl
  rw[ho]at h
  simp only[Bool.and_eq_true,beq_iff_eq,Bool.false_eq_true,if_false]at h
  exact h.2.2.1
 cases c1:(p.op==1||(p.op==2||p.op==3))with
 |true=>
  rw[if_pos rfl,if_pos rfl]
  by_cases k2:p.kind=2
  ·rw[k2];cases bp S p.dst<;>cases bp S p.n<;>rfl
  ·by_cases k3:p.kind=3
   ·rw[k3];cases bp S p.dst<;>cases decide (p.n<(np:Int))<;>rfl
   ·have e2:(p.kind==2)=false:=by simpa using k2
    have e3:(p.kind==3)=false:=by simpa using k3
    have n2:(p.kind !=2)=true:=by simpa using k2
    have n3:(p.kind !=3)=true:=by simpa using k3
    rw[e2,e3,n2,n3];cases bp S p.dst<;>rfl
 |_=>
  rw[if_neg Bool.false_ne_true,if_neg Bool.false_ne_true]
  cases c2:(p.op==4||p.op==5)with
  |true=>
   rw[if_pos rfl,if_pos rfl,h45 c1 c2];cases fu S p.dst<;>rfl
  |_=>
   rw[if_neg Bool.false_ne_true,if_neg Bool.false_ne_true,Bool.true_and]
   by_cases k2:p.kind=2
   ·rw[k2];cases bp S p.n<;>rfl
   ·by_cases k3:p.kind=3
    ·rw[k3];cases decide (p.n<(np:Int))<;>rfl
    ·have e2:(p.kind==2)=false:=by simpa using k2
     have e3:(p.kind==3)=false:=by simpa using k3
     have n2:(p.kind !=2)=true:=by simpa using k2
     have n3:(p.kind !=3)=true:=by simpa using k3
     rw[e2,e3,n2,n3];rfl
def kwB(S:Sch):Bool:=bp S 1&&(bp S 2&&(S.headers.all (rR S)&&(S.states.all (pR S)&&S.actions.all fun a=>a.body.all fun p=>rpB S a.params.length p)))
def grB(S:Sch):Bool:=S.tables.all (nd S)&&(S.stages.all (th S)&&(S.roles.all (t9 S)&&S.refs.all (nD S)))
def CK{S:Sch}(h:mK S=true):∀ a∈S.actions,∀ p∈a.body,fpB p=true:=by
 unfold mK at h
 simp only[Bool.and_eq_true]at h
 exact fun a ha p hp=>List.all_eq_true.1 (List.all_eq_true.1 h.1 a ha) p hp
def DV{S:Sch}(h:mK S=true):(kwB S&&grB S)=kg S:=by
 have hf:=CK h
 unfold kwB grB kg
 rw[kL (p:=fun a:SAction=>a.body.all fun p=>rpB S a.params.length p) (q:=wr S) fun a ha=>kL fun p hp=>Sm (hf a ha p hp)]
 ac_rfl
def hwB(S:Sch)(t:SHeader):Bool:=(t.fields.all fun f=>f !=1&&f !=2)&&(decide (smB S t.fields 0%8=0)&&decide (smB S t.fields 0≤512))
theorem Dp{n:Int}:∀{l:List Int},(l.all fun f=>f !=n)=!l.contains n
 |[]=>rfl
 |x::l=>by
  rw[List.all_cons,List.contains_cons,Dp,Bool.not_or]
  have:(x !=n)=!(n==x):=by
   by_cases h:x=n
   ·subst h;simp
   ·have h2:¬ n=x:=fun e=>h e.symm
    have e1:(x==n)=false:=by simpa using h
    have e2:(n==x)=false:=by simpa using h2
    rw[bne,e1,e2]
  rw[this]
def Sc{S:Sch}{t:SHeader}:hwB S t=rz S t:=by
 unfold hwB rz
 rw[lm,Dp,Dp]
 ac_rfl
def pkB(S:Sch):Bool:=(btF S 1==16)&&((btF S 2==16)&&(S.headers.all (hwB S)&&(S.states.all fun t=>t.cases.all fun p=>mV S t.select p)))
def atB(S:Sch):Bool:=S.actions.all fun t=>t.body.all fun p=>mI S t p
def tbB(S:Sch):Bool:=S.tables.all (tmF S)&&((S.roles.all fun t=>t.grants.all fun g=>gkB S g)&&S.refs.all (mJ S))
def QY{S:Sch}:(pkB S&&(atB S&&tbB S))=sy S:=by
 unfold pkB atB tbB sy
 rw[kL (p:=hwB S) (q:=rz S) fun t _=>Sc]
 ac_rfl
def ixT(S:Sch)(n:Int):Nat:=(ixP (fun t:STable=>t.id==n) S.tables 0).toNat
def Bh(S:Sch):List Nat:=rS (uf (mA S.refs) (iA S) (ixT S)) S.tables.length S.tables.length []
theorem xU{α:Type}[BEq α][LawfulBEq α]:∀{l p:List α},onF p l=true→l.Nodup∧∀ x∈l,x ∉ p
 |[],p,_=>⟨List.nodup_nil,fun x h=>by cases h⟩
 |x::l,p,h=>by
  unfold onF at h
  rw[Bool.and_eq_true]at h
  obtain⟨h1,h2⟩:=h
  obtain⟨h3,h4⟩:=xU h2
  have hx:x ∉ p:=by simpa using h1
  refine⟨List.nodup_cons.2 ⟨fun hl=>h4 x hl Xc,h3⟩,fun y hy=>?_⟩
  rcases List.mem_cons.1 hy with rfl|hy
  ·exact hx
  ·exact fun hp=>h4 y hy (List.mem_append_left _ hp)
theorem D4{n:Int}:∀{l:List STable}{k:Nat}{i:Nat}(h:i<l.length),(l.map (·.id)).Nodup→l[i].id=n→ixP (fun t:STable=>t.id==n) l k=((k+i:Nat):Int)
 |[],k,i,h,_,_=>by simp at h
 |x::l,k,0,h,hn,he=>by
  have he':x.id=n:=he
  unfold ixP
  rw[if_pos (by simp[he'])]
  rfl
 |x::l,k,i+1,h,hn,he=>by
  rw[List.map_cons,List.nodup_cons]at hn
  have he':l[i]'(by simpa using h)=l[i]'(by simpa using h):=rfl
  have hm:n∈l.map (·.id):=List.mem_map.2 ⟨l[i]'(by simpa using h),gMq _,he⟩
  have hx:¬ x.id=n:=fun e=>hn.1 (e▸hm)
  unfold ixP
  rw[if_neg (by simp[hx]),D4 (k:=k+1) (i:=i) (by simpa using h) hn.2 he]
  congr 1;omega
def QQ{S:Sch}(h:(iA S).Nodup):Ix (iA S) (ixT S):=by
 have hl:(iA S).length=S.tables.length:=List.length_map _
 have key:∀ i (hi:i<S.tables.length),ixT S (S.tables[i].id)=i:=fun i hi=>by
  unfold ixT
  rw[D4 (n:=S.tables[i].id) hi h rfl]
  simp
 have hg:∀ i (hi:i<S.tables.length),(iA S).getD i 0=S.tables[i].id:=fun i hi=>by
  unfold iA
  rw[gEq,List.getElem?_map,gQq hi];rfl
 refine⟨fun i hi=>?_,fun x hx=>?_⟩
 ·rw[hl]at hi
  rw[hg i hi,key i hi]
 ·obtain⟨t,ht,rfl⟩:=List.mem_map.1 hx
  obtain⟨i,hi,rfl⟩:=List.getElem_of_mem ht
  rw[key i hi,hg i hi,hl]
  exact⟨hi,rfl⟩
def Pq{S:Sch}(hr:uE S)(hn:(iA S).Nodup):decide ((Bh S).length<S.tables.length)=!rD S:=by
 have hl:(iA S).length=S.tables.length:=List.length_map _
 have hx:=QQ hn
 have hp:∀ r∈mA S.refs,r.1∈iA S∧r.2∈iA S:=fun r h=>by
  unfold mA at h
  obtain⟨x,hx,rfl⟩:=List.mem_map.1 h
  exact hr x hx
 have hle:(Bh S).length≤S.tables.length:=by
  have:=EM (q:=uf (mA S.refs) (iA S) (ixT S)) (n:=S.tables.length) S.tables.length (o:=[])
  simpa[Bh]using this
 cases hb:rD S with
 |true=>
  unfold rD at hb
  split at hb
  ·rename_i D hD
   have:=xn hx (fun r h=>(hp r h).2) hD
   rw[hl]at this
   rw[show(Bh S).length=S.tables.length from this]
   simp
  ·cases hb
 |_=>
  have:¬ (Bh S).length=S.tables.length:=fun he=>by
   have he':(rS (uf (mA S.refs) (iA S) (ixT S)) (iA S).length (iA S).length []).length=(iA S).length:=by rw[hl];exact he
   obtain⟨D,hD⟩:=xy hx hp he' (f:=S.tables.length+1) Xa
   unfold rD at hb
   rw[hD]at hb
   cases hb
  simp;omega
attribute [go_sem] aX aA bhq aN aO List.take_succ_cons List.take_zero List.drop_succ_cons List.drop_zero iNq List.length_map
attribute [go_sem_proc] Nat.reduceMod Nat.reduceDiv
abbrev Di(x:SField):Wz:=[.int .i64 x.id,.str x.name,.int .i64 x.bits]
abbrev nT(x:SHeader):Wz:=[.int .i64 x.id,.str x.name,.slice .any 1 (inL x.fields)]
def ye{H:AHeap}(h:H.Closed)(x:SHeader):(H.push (.cells (nT x))).Closed:=ah h (by have:=fK (n:=H.nx+1) x;simp only[az,znp]at this;exact this)
abbrev rM(x:SState):Wz:=[.int .i64 x.id,.int .i64 x.header,.int .i64 x.select,.slice .any 5 (x.cases.map ba),.int .i64 x.dflt]
def Au{H:AHeap}(h:H.Closed)(x:SState):(H.push (.cells (rM x))).Closed:=ah h (by have:=eL (n:=H.nx+1) x;simp only[aE,znp]at this;exact this)
abbrev Q3(x:SCase):Wz:=[.int .u64 ((x.value/2^64:Nat):Int),.int .u64 ((x.value%2^64:Nat):Int),.int .u64 ((x.mask/2^64:Nat):Int),.int .u64 ((x.mask%2^64:Nat):Int),.int .i64 x.next]
abbrev Ao(x:SPrim):Wz:=[.int .i64 x.op,.int .i64 x.dst,.int .i64 x.kind,.int .i64 x.n,.int .u64 ((x.value/2^64:Nat):Int),.int .u64 ((x.value%2^64:Nat):Int)]
def Pt{H:AHeap}(h:H.Closed)(x:SPrim):(H.push (.cells (Ao x))).Closed:=ah h (by have:=iH (n:=H.nx+1) x;simp only[aU,znp]at this;exact this)
abbrev Cz(x:SParam):Wz:=[.str x.name,.int .i64 x.bits]
abbrev iV(x:SAction):Wz:=[.int .i64 x.id,.str x.name,.slice .any 2 (x.params.map aL),.slice .any 6 (x.body.map aU),.str x.restr]
def oW{H:AHeap}(h:H.Closed)(x:SAction):(H.push (.cells (iV x))).Closed:=ah h (by have:=fo (n:=H.nx+1) x;simp only[ap,znp]at this;exact this)
abbrev KX(x:SKey):Wz:=[.str x.name,.int .i64 x.field,.int .i64 x.kind]
abbrev iO(x:STable):Wz:=[.int .i64 x.id,.str x.name,.slice .any 3 (x.keys.map aZ),.slice .any 1 (inL x.actions),.int .i64 x.dflt,.slice .any 2 (x.dargs.map vv),.int .i64 x.size,.str x.restr]
def sG{H:AHeap}(h:H.Closed)(x:STable):(H.push (.cells (iO x))).Closed:=ah h (by have:=cZ (n:=H.nx+1) x;simp only[au,znp]at this;exact this)
abbrev MN(x:SStage):Wz:=[.int .i64 x.table,.int .i64 x.header]
abbrev y6(x:SGrant):Wz:=[.int .i64 x.table,.bool x.read,.bool x.write,.slice .any 1 (boL x.keys)]
abbrev nL(x:SRole):Wz:=[.int .i64 x.id,.str x.name,.slice .any 4 (x.grants.map aK),.slice .any 1 (inL x.actions),.int .i64 x.quota,.bool x.audit]
def yS{H:AHeap}(h:H.Closed)(x:SRole):(H.push (.cells (nL x))).Closed:=ah h (by have:=gO (n:=H.nx+1) x;simp only[aP,znp]at this;exact this)
abbrev Gg(x:SRef):Wz:=[.int .i64 x.table,.int .i64 x.key,.int .i64 x.action,.int .i64 x.param,.int .i64 x.toTable,.int .i64 x.toKey]
abbrev fJ(H:AHeap)(S:Sch):AHeap:=H.push (.cells [.slice .any 3 (S.fields.map aJ),.slice .any 3 (S.headers.map az),.slice .any 5 (S.states.map aE),.slice .any 5 (S.actions.map ap),.slice .any 8 (S.tables.map au),.slice .any 2 (S.stages.map aQ),.slice .any 6 (S.roles.map aP),.slice .any 6 (S.refs.map bc),.int .i64 S.maxBatch,.int .i64 S.budget])
def me{H:AHeap}{S:Sch}(h:H.Closed):(fJ H S).Closed:=ah h (tZ S)
def lM{n:Nat}{l:List Int}:AV.lt n (.slice .any 1 (l.map (AV.int .i64))):=gS
def ltZ:(∀(n sz:Nat)(l:List SField),AV.lt n (.slice .any sz (l.map aJ)))∧(∀(n sz:Nat)(l:List SHeader),AV.lt n (.slice .any sz (l.map az)))∧(∀(n sz:Nat)(l:List SState),AV.lt n (.slice .any sz (l.map aE)))∧(∀(n sz:Nat)(l:List SCase),AV.lt n (.slice .any sz (l.map ba)))∧(∀(n sz:Nat)(l:List SPrim),AV.lt n (.slice .any sz (l.map aU)))∧(∀(n sz:Nat)(l:List SParam),AV.lt n (.slice .any sz (l.map aL)))∧(∀(n sz:Nat)(l:List SAction),AV.lt n (.slice .any sz (l.map ap)))∧(∀(n sz:Nat)(l:List SKey),AV.lt n (.slice .any sz (l.map aZ)))∧(∀(n sz:Nat)(l:List STable),AV.lt n (.slice .any sz (l.map au)))∧(∀(n sz:Nat)(l:List SStage),AV.lt n (.slice .any sz (l.map aQ)))∧(∀(n sz:Nat)(l:List SGrant),AV.lt n (.slice .any sz (l.map aK)))∧(∀(n sz:Nat)(l:List SRole),AV.lt n (.slice .any sz (l.map aP)))∧(∀(n sz:Nat)(l:List SRef),AV.lt n (.slice .any sz (l.map bc)))∧(∀(n:Nat)(l:List Int),AV.lt n (.slice .any 1 (l.map (AV.int .i64))))∧(∀(n:Nat)(l:List Int),AV.lt n (.slice .any 1 (inL l))):=⟨fun _ _ _=>aa gL,fun _ _ _=>aa fK,fun _ _ _=>aa eL,fun _ _ _=>aa gh,fun _ _ _=>aa iH,fun _ _ _=>aa fX,fun _ _ _=>aa fo,fun _ _ _=>aa jI,fun _ _ _=>aa cZ,fun _ _ _=>aa ir,fun _ _ _=>aa gf,fun _ _ _=>aa gO,fun _ _ _=>aa km,fun _ _=>lM,fun _ _=>gS⟩
def aq{p q:Prop}(k:q)(h:p:=by first|exact True.intro|decide|omega|(simp[ziq,zgq,zgr,zgs,zgu,zgt,zgy];first|done|omega)):p∧q:=⟨h,k⟩
def om5{p:Prop}(h:p:=by dsimp only;omega):p:=h
def en5{n0:Nat}{fr:Fr}{H:AHeap}{fr':Fr}{H':AHeap}(c:H'.Closed)(a:n0≤H'.nx:=by(try simp only[zko,zkt,jK,zlc,zld]);omega)(b:H'.Le H:=by repeat first|exact .refl _|refine .push ?_ _)(d:ltF H'.nx fr':=by(simp[ltF,zlc,zld,znl,znd,zne,ltZ];try omega))(e:bg H H' fr' fr:=by simp[bg,wk2,wk1,wkM,Fr.get,gr]):enterW n0 fr H fr' H':=⟨a,b,c,d,e⟩
def af{b E A X R:Bool}(h:(b&&((E&&A)&&X))=R):(b&&(E&&(A&&X)))=R:=by rw[← Bool.and_assoc E];exact h
def ae{b E X R:Bool}(h:(b&&(E&&X))=R):(b&&(E&&X))=R:=h
def lf(v:Bool){E X R:Bool}(h:(true&&(E&&X))=R)(e:E=v):(v&&X)=R:=by rw[← h,e];rfl
def lff{E X R:Bool}(h:(false&&(E&&X))=R):(false&&X)=R:=by rw[← h];rfl
def csL{P:Program}{Ω:Tbl}{K:Conts}{a b:Code}{fr:Fr}{H:AHeap}{k n:Nat}(hk:k≤n)(h1:k<n→aw P Ω a K fr H)(h2:k=n→aw P Ω b K fr H):rF P Ω (.bool (decide ((k:Int)<(n:Int)))) a b K fr H :=
 ax (fun h=>h1 (by simp at h;omega)) (fun h=>h2 (by simp at h;omega))
def hdL{α:Type}(f:α→AV)(c:α→Wz){l:List α}{k:Nat}{F:α→Bool}{b X R:Bool}(h:k<l.length)(hR:(b&&((l.drop k).all F&&X))=R)(hc:∀ x,f x=.agg (c x):=by intro x;rfl):∃ x,x∈l∧(l.map f).getD k .junk=.agg (c x)∧(b&&((F x&&(l.drop (k+1)).all F)&&X))=R :=
 ⟨l[k],gMq h,by rw[← hc];exact a9 (gQq h),by rw[dcq h,List.all_cons]at hR;exact hR⟩
def hdI{l:List Int}{k:Nat}{F:Int→Bool}{b X R:Bool}(h:k<l.length)(hR:(b&&((l.drop k).all F&&X))=R):∃ x,x∈l∧(l.map (AV.int .i64)).getD k .junk=.int .i64 x∧(b&&((F x&&(l.drop (k+1)).all F)&&X))=R :=
 ⟨l[k],gMq h,a9 (gQq h),by rw[dcq h,List.all_cons]at hR;exact hR⟩
def hdF{α:Type}(f:α→AV)(c:α→Wz){l:List α}{k:Nat}(h:k<l.length)(hc:∀ x,f x=.agg (c x):=by intro x;rfl):∃ x,x∈l∧(l.map f).getD k .junk=.agg (c x) :=
 ⟨l[k],gMq h,by rw[← hc];exact a9 (gQq h)⟩
def hdG{l:List Int}{k:Nat}(h:k<l.length):∃ x,x∈l∧(l.map (AV.int .i64)).getD k .junk=.int .i64 x :=
 ⟨l[k],gMq h,a9 (gQq h)⟩
def ndL{α:Type}{l:List α}{k:Nat}{F:α→Bool}{b X R:Bool}(h:k=l.length)(hR:(b&&((l.drop k).all F&&X))=R):(b&&X)=R:=by
 subst h;rw[List.drop_length,List.all_nil,Bool.true_and]at hR;exact hR
theorem ek5(k:Nat)(h:k+1<9223372036854775808:=by omega):IntKind.i64.wrap ((k:Int)+1)=((k+1:Nat):Int):=Xe
def lpB{P:Program}{Ω:Tbl}{B:Conts}{k:List KItem}{c:Code}{fr:Fr}{H:AHeap}{α:Type}(l:List α)(F:α→Bool)(g:Nat→Bool→Fr)(G:AHeap){b X R:Bool}(hR:(b&&(l.all F&&X))=R)(he:enterW B.n0 fr H (g 0 b) G)
 (hb:∀ i o,i≤l.length→(o&&((l.drop i).all F&&X))=R→aw P Ω c (KI P Ω B (.back (fun fr' H'=>∃ a:Nat × Bool,(a.1≤l.length∧(a.2&&((l.drop a.1).all F&&X))=R)∧l.length-a.1<l.length-i∧enterW B.n0 fr' H' (g a.1 a.2) G)::k)) (g i o) G) :
 aw P Ω (.loop c) (KI P Ω B k) fr H :=
 aG (A:=Nat × Bool) (fun a=>g a.1 a.2) (fun _=>G) (fun a=>a.1≤l.length∧(a.2&&((l.drop a.1).all F&&X))=R) (fun a=>l.length-a.1) (0,b) ⟨Nat.zero_le _,hR⟩ he fun a h=>hb a.1 a.2 h.1 h.2
def lpF{P:Program}{Ω:Tbl}{B:Conts}{k:List KItem}{c:Code}{fr:Fr}{H:AHeap}(n:Nat)(g:Nat→Fr)(G:AHeap)(he:enterW B.n0 fr H (g 0) G)
 (hb:∀ i,i≤n→aw P Ω c (KI P Ω B (.back (fun fr' H'=>∃ a:Nat,a≤n∧n-a<n-i∧enterW B.n0 fr' H' (g a) G)::k)) (g i) G) :
 aw P Ω (.loop c) (KI P Ω B k) fr H :=
 aG (A:=Nat) g (fun _=>G) (fun a=>a≤n) (fun a=>n-a) 0 (Nat.zero_le _) he hb
def eC:PCt
 |[.agg l],_,K=>∃ S:Sch,(l=aR S∧SB S)∧K (.bool (nc S))
 |_,_,_=>False
def FG:EPp 33 eC:=by
 refine Ype fun _ H K h=>?_
 unfold eC at h
 split at h<;>try exact h.elim
 rename_i l
 obtain⟨S,⟨rfl,hS⟩,hK⟩:=h
 refine⟨_,hK,?_⟩
 clear hK
 obtain⟨E,hE⟩:∃ E:Bool,E=true:=⟨true,rfl⟩
 generalize hR:nc S=R
 unfold nc at hR
 have sl:=hS.sl
 replace hR:(true&&((S.fields.all fun t=>df t.name)&&((S.headers.all fun t=>df t.name)&&((S.actions.all tr)&&((S.tables.all rV)&&((S.roles.all fun t=>df t.name)&&E))))))=R:=by rw[← hR,hE];simp only[Bool.true_and,Bool.and_true]
 refine Yfu aD (tCq yH (tCq MA tNq)) Tryz.func33 [.tmp 2] fun hcl=>?_
 have hcH:=me (S:=S) hcl
 simp only[go_sem,aR,jQ,mf]
 refine lpB S.fields (fun t=>df t.name) (fun k bk=>[(3,.bool bk),(1,.ptr H.nx 0),(19,.slice .any 3 (S.fields.map aJ)),(20,.int .i64 (S.fields.length:Int)),(21,.int .i64 (k:Int))]) (fJ H S) hR (en5 hcH) ?_
 clear hR
 intro k bk hk hR
 have hbk:=sl.fl
 refine Tq20 ?_
 refine csL hk (fun hk'=>?_) fun hk'=>?_
 ·skip
  obtain⟨x,hmk,hgk,hR⟩:=hdL aJ Di hk' hR
  have ek:=ek5 k
  cases bk with
  |false=>
   exact Y67
  |true=>
   simp only[go_sem,hgk,ek,jQ,mf]
   refine Tq0 ?_
   refine⟨hS.fn x hmk,?_⟩
   exact Y75
 ·skip
  replace hR:=ndL hk' hR
  subst hk'
  refine Tq32 ?_
  refine lpB S.headers (fun t=>df t.name) (fun k bk=>[(3,.bool bk),(1,.ptr H.nx 0),(33,.slice .any 3 (S.headers.map az)),(34,.int .i64 (S.headers.length:Int)),(35,.int .i64 (k:Int))]) (fJ H S) hR (en5 hcH) ?_
  clear hR
  intro k bk hk hR
  have hbk:=sl.hl
  refine Tq20 ?_
  refine csL hk (fun hk'=>?_) fun hk'=>?_
  ·skip
   obtain⟨x,hmk,hgk,hR⟩:=hdL az nT hk' hR
   have ek:=ek5 k
   cases bk with
   |false=>
    exact Y67
   |true=>
    simp only[go_sem,hgk,ek,jQ,mf]
    refine Tq0 ?_
    refine⟨(hS.hn x hmk).1,?_⟩
    exact Y75
  ·skip
   replace hR:=ndL hk' hR
   subst hk'
   refine Tq32 ?_
   refine lpB S.actions tr (fun k bk=>[(3,.bool bk),(1,.ptr H.nx 0),(47,.slice .any 5 (S.actions.map ap)),(48,.int .i64 (S.actions.length:Int)),(49,.int .i64 (k:Int))]) (fJ H S) hR (en5 hcH) ?_
   clear hR
   intro k bk hk hR
   have hbk:=sl.al
   refine Tq20 ?_
   refine csL hk (fun hk'=>?_) fun hk'=>?_
   ·skip
    obtain⟨x,hmk,hgk,hR⟩:=hdL ap iV hk' hR
    have ek:=ek5 k
    have hcI:=oW hcH x
    have hR2:(bk&&(df x.name&&(x.params.all (fun p=>jh p.name)&&((S.actions.drop (k+1)).all tr&&((S.tables.all rV)&&((S.roles.all fun t=>df t.name)&&E))))))=R:=by
     rw[← hR];show _=(bk&&((tr x&&_)&&_));unfold tr;rw[Bool.and_assoc,Bool.and_assoc]
    replace hR:=hR2
    clear hR2
    cases bk
    case' false=>simp only[go_sem,hgk,ek];try(repeat with_reducible refine aq ?_)
    case' false=>replace hR:(false&&(x.params.all (fun p=>jh p.name)&&((S.actions.drop (k+1)).all tr&&((S.tables.all rV)&&((S.roles.all fun t=>df t.name)&&E)))))=R:=by rw[Bool.false_and]at hR ⊢;exact hR
    case' true=>simp only[go_sem,hgk,ek,jQ,mf];try(repeat with_reducible refine aq ?_)
    case' true=>refine⟨(hS.an x hmk).1,?_⟩
    case' true=>try simp only[go_sem,ek]
    case' true=>rw[Bool.true_and]at hR
    case' true=>generalize df x.name=bq at hR ⊢
    all_goals
     refine lpB x.params (fun p=>jh p.name) (fun j bj=>[(3,.bool bj),(1,.ptr H.nx 0),(47,.slice .any 5 (S.actions.map ap)),(48,.int .i64 (S.actions.length:Int)),(49,.int .i64 (k:Int)),(60,.slice .any 2 (x.params.map aL)),(61,.int .i64 (x.params.length:Int)),(62,.int .i64 (j:Int))]) ((fJ H S).push (.cells (iV x))) hR (en5 hcI) ?_
     clear hR
     intro j bj hj hR
     have hbj:=(hS.an x hmk).2.1
     refine Tq20 ?_
     refine csL hj (fun hj'=>?_) fun hj'=>?_
     ·skip
      obtain⟨y,hmj,hgj,hR⟩:=hdL aL Cz hj' hR
      have ej:=ek5 j
      cases bj with
      |false=>
       exact Y100
      |true=>
       simp only[go_sem,hgj,ej,jQ,mf]
       refine Tq0 ?_
       refine⟨(hS.an x hmk).2.2.2 y hmj,?_⟩
       exact Y130
     ·exact Y34
   ·skip
    replace hR:=ndL hk' hR
    subst hk'
    refine Tq32 ?_
    refine lpB S.tables rV (fun k bk=>[(3,.bool bk),(1,.ptr H.nx 0),(75,.slice .any 8 (S.tables.map au)),(76,.int .i64 (S.tables.length:Int)),(77,.int .i64 (k:Int))]) (fJ H S) hR (en5 hcH) ?_
    clear hR
    intro k bk hk hR
    have hbk:=sl.tl
    refine Tq20 ?_
    refine csL hk (fun hk'=>?_) fun hk'=>?_
    ·skip
     obtain⟨x,hmk,hgk,hR⟩:=hdL au iO hk' hR
     have ek:=ek5 k
     have hcI:=sG hcH x
     have hR2:(bk&&(df x.name&&(x.keys.all (fun k=>jh k.name)&&((S.tables.drop (k+1)).all rV&&((S.roles.all fun t=>df t.name)&&E)))))=R:=by
      rw[← hR];show _=(bk&&((rV x&&_)&&_));unfold rV;rw[Bool.and_assoc,Bool.and_assoc]
     replace hR:=hR2
     clear hR2
     cases bk
     case' false=>simp only[go_sem,hgk,ek];try(repeat with_reducible refine aq ?_)
     case' false=>replace hR:(false&&(x.keys.all (fun k=>jh k.name)&&((S.tables.drop (k+1)).all rV&&((S.roles.all fun t=>df t.name)&&E))))=R:=by rw[Bool.false_and]at hR ⊢;exact hR
     case' true=>simp only[go_sem,hgk,ek,jQ,mf];try(repeat with_reducible refine aq ?_)
     case' true=>refine⟨(hS.tn x hmk).1,?_⟩
     case' true=>try simp only[go_sem,ek]
     case' true=>rw[Bool.true_and]at hR
     case' true=>generalize df x.name=bq at hR ⊢
     all_goals
      refine lpB x.keys (fun k=>jh k.name) (fun j bj=>[(3,.bool bj),(1,.ptr H.nx 0),(75,.slice .any 8 (S.tables.map au)),(76,.int .i64 (S.tables.length:Int)),(77,.int .i64 (k:Int)),(88,.slice .any 3 (x.keys.map aZ)),(89,.int .i64 (x.keys.length:Int)),(90,.int .i64 (j:Int))]) ((fJ H S).push (.cells (iO x))) hR (en5 hcI) ?_
      clear hR
      intro j bj hj hR
      have hbj:=(hS.tn x hmk).2.1
      refine Tq20 ?_
      refine csL hj (fun hj'=>?_) fun hj'=>?_
      ·skip
       obtain⟨y,hmj,hgj,hR⟩:=hdL aZ KX hj' hR
       have ej:=ek5 j
       cases bj with
       |false=>
        exact Y100
       |true=>
        simp only[go_sem,hgj,ej,jQ,mf]
        refine Tq0 ?_
        refine⟨(hS.tn x hmk).2.2.2.2 y hmj,?_⟩
        exact Y130
      ·exact Y34
    ·skip
     replace hR:=ndL hk' hR
     subst hk'
     refine Tq32 ?_
     refine lpB S.roles (fun t=>df t.name) (fun k bk=>[(3,.bool bk),(103,.slice .any 6 (S.roles.map aP)),(104,.int .i64 (S.roles.length:Int)),(105,.int .i64 (k:Int))]) (fJ H S) hR (en5 hcH) ?_
     clear hR
     intro k bk hk hR
     have hbk:=sl.rl
     refine Tq20 ?_
     refine csL hk (fun hk'=>?_) fun hk'=>?_
     ·skip
      obtain⟨x,hmk,hgk,hR⟩:=hdL aP nL hk' hR
      have ek:=ek5 k
      cases bk with
      |false=>
       exact Y67
      |true=>
       simp only[go_sem,hgk,ek,jQ,mf]
       refine Tq0 ?_
       refine⟨(hS.rn x hmk).1,?_⟩
       exact Y75
     ·skip
      replace hR:=ndL hk' hR
      subst hk'
      refine Tq32 ?_
      exact Y74
theorem S7{a b:Int}:decide (a>b)=decide (b<a):=rfl
def AA{n:Nat}:decide ((n:Int)>0)=decide (0<n):=by rw[S7];simp
def DA{S:Sch}(h:SLen S):∀ l∈rU S,l.length≤1000000:=by
 intro l hl
 unfold rU at hl
 simp only[List.mem_cons,List.not_mem_nil,or_false]at hl
 have h1:=h.fl;have h2:=h.hl;have h3:=h.sl;have h4:=h.al;have h5:=h.tl;have h6:=h.rl
 rcases hl with rfl|rfl|rfl|rfl|rfl|rfl<;>rw[List.length_map]<;>omega
def fC:PCt
 |[.agg l],_,K=>∃ S:Sch,(l=aR S∧SB S)∧K (.bool (Gz S))
 |_,_,_=>False
def L0:EPp 34 fC:=by
 refine Ype fun _ H K h=>?_
 unfold fC at h
 split at h<;>try exact h.elim
 rename_i l
 obtain⟨S,⟨rfl,hS⟩,hK⟩:=h
 refine⟨_,hK,?_⟩
 clear hK
 obtain⟨E,hE⟩:∃ E:Bool,E=true:=⟨true,rfl⟩
 generalize hR:Gz S=R
 unfold Gz at hR
 have sl:=hS.sl
 have hil:=DA sl
 replace hR:(wB S.maxBatch 1 32&&(wB S.budget 1 200&&(((rU S).all fun l=>l.all fun n=>wB n 1 65534)&&((S.fields.all fun f=>wB f.bits 1 128)&&((S.headers.all fun h=>decide (0<h.fields.length))&&((S.actions.all fun a=>a.params.all fun p=>wB p.bits 1 128)&&((S.tables.all fun t=>wB t.size 1 64&&decide (0<t.keys.length))&&((S.roles.all fun r=>decide (r.quota≤512))&&E))))))))=R:=by rw[← hR,hE];simp only[Bool.and_true]
 refine Yfw aD (tCq Ab (tCq pw tNq)) Tryz.func34 [.tmp 2] (nrq _) (T:=aC [(2,[[1]])]) (h:=fun hcl=>?_)
 have hcH:=me (S:=S) hcl
 unfold aR
 apply jb (α:=Bool) (fun O=>[(1,.ptr H.nx 0),(3,.bool O)]) (fun _=>(fJ H S)) (fun O=>(O&&(((rU S).all fun l=>l.all fun n=>wB n 1 65534)&&((S.fields.all fun f=>wB f.bits 1 128)&&((S.headers.all fun h=>decide (0<h.fields.length))&&((S.actions.all fun a=>a.params.all fun p=>wB p.bits 1 128)&&((S.tables.all fun t=>wB t.size 1 64&&decide (0<t.keys.length))&&((S.roles.all fun r=>decide (r.quota≤512))&&E)))))))=R)
 ·intro J
  cases q1:wB S.maxBatch 1 32 with
  |false=>
   simp only[go_sem,cK,cq,dq,q1]
   exact bw J false (by rw[q1,Bool.false_and]at hR;rw[Bool.false_and];exact hR) (en5 hcH)
  |true=>
   cases q2:wB S.budget 1 200 with
   |false=>
    simp only[go_sem,cK,cq,dq,q1,q2]
    exact bw J false (by rw[q1,q2,Bool.true_and]at hR;exact hR) (en5 hcH)
   |true=>
    simp only[go_sem,cK,cq,dq,q1,q2]
    exact bw J true (by rw[q1,q2,Bool.true_and]at hR;exact hR) (en5 hcH)
 clear hR
 intro b0 hR
 dsimp only at hR ⊢
 simp only[go_sem,cK,cq,dq]
 refine⟨S,⟨rfl,sl⟩,?_⟩
 refine Tq32 ?_
 have hidC:[sI (S.fields.map (·.id)),sI (S.headers.map (·.id)),sI (S.states.map (·.id)),sI (S.actions.map (·.id)),sI (S.tables.map (·.id)),sI (S.roles.map (·.id))]=(rU S).map sI:=rfl
 have hidN:(rU S).length=6:=rfl
 rw[hidC]
 obtain⟨D,hD⟩:∃ D,rU S=D:=⟨_,rfl⟩
 rw[hD]at hil hR hidN ⊢
 clear hD hidC
 have hLD:∀ n':Nat,ltL n' (D.map sI):=fun n'=>ltL_iff.2 fun j hj=>by rw[List.getElem_map];exact gS
 refine aG (A:=Nat × Bool) (fun a=>[(3,.bool a.2),(1,.ptr H.nx 0),(29,.agg (D.map sI)),(30,.int .i64 (a.1:Int))]) (fun _=>(fJ H S))
  (fun a=>a.1≤6∧(a.2&&((D.drop a.1).all (fun l=>l.all fun n=>wB n 1 65534)&&((S.fields.all fun f=>wB f.bits 1 128)&&((S.headers.all fun h=>decide (0<h.fields.length))&&((S.actions.all fun a=>a.params.all fun p=>wB p.bits 1 128)&&((S.tables.all fun t=>wB t.size 1 64&&decide (0<t.keys.length))&&((S.roles.all fun r=>decide (r.quota≤512))&&E)))))))=R) (fun a=>6-a.1) (0,_) ⟨Nat.zero_le _,hR⟩ ?_ fun a ha=>?_
 ·skip
  exact Y102
 clear hR
 obtain⟨k,bk⟩:=a
 obtain⟨hk,hR⟩:=ha
 dsimp only at hk hR ⊢
 refine Tq20 ?_
 refine ax (fun hc=>?_) (fun hc=>?_)
 ·skip
  have hk':k<6:=sHc
  clear hc
  obtain⟨x,hxk⟩:∃ z0,z0=D[k]:=⟨_,rfl⟩
  have hdk:D.drop k=x::D.drop (k+1):=by rw[hxk];exact dcq (by omega)
  have hmk:x∈D:=by rw[hxk];exact gMq (by omega)
  have hgk:=a9 (f:=sI) (l:=D) (k:=k) (x:=x) (by rw[gQq (by omega),hxk])
  rw[show sI x=.slice .any 1 (inL x) from rfl]at hgk
  have ek:IntKind.i64.wrap ((k:Int)+1)=((k+1:Nat):Int):=Xe
  rw[hdk,List.all_cons,Bool.and_assoc]at hR
  clear hxk hdk
  have hln:(inL x).length=x.length:=by unfold inL;rw[List.length_map]
  simp only[go_sem,hgk,ek,hidN,hln]
  refine Tq0 ?_
  refine lpB x (fun n=>wB n 1 65534) (fun j bj=>[(3,.bool bj),(1,.ptr H.nx 0),(29,.agg (D.map sI)),(30,.int .i64 (k:Int)),(33,.slice .any 1 (inL x)),(34,.int .i64 (x.length:Int)),(35,.int .i64 (j:Int))]) (fJ H S) hR (en5 hcH (d:=by(simp[ltF,zlc,znl,znd,zne,aa gL,aa fK,aa eL,aa gh,aa iH,aa fX,aa fo,aa jI,aa cZ,aa ir,aa gf,aa gO,aa km,lM,gS,znp,hLD];try omega))) ?_
  clear hR
  intro j bj hj hR
  have hbj:=hil x hmk
  simp only[go_sem,inL]
  refine csL hj (fun hj'=>?_) fun hj'=>?_
  ·skip
   obtain⟨y,hmj,hgj,hR⟩:=hdI hj' hR
   have ej:=ek5 j
   replace hR:=af (E:=wB y 1 65534) hR
   cases bj with
   |false=>
    try simp only[go_sem,hgj,ej,cK,cq,dq]
    refine Tq0 ?_
    replace hR:=lff hR
    exact Y85
   |true=>
    cases cj0:(wB y 1 65534)with
    |false=>
     refine Tq78 ?_
     refine Tq0 ?_
     replace hR:=lf false hR (by simp only[cj0,tfC])
     exact Y85
    |true=>
     refine Tq78 ?_
     refine Tq0 ?_
     replace hR:=lf true hR (by simp only[cj0,tfC])
     exact⟨(j+1,true),⟨om5,hR⟩,om5,en5 hcH (d:=by(simp[ltF,zlc,znl,znd,zne,aa gL,aa fK,aa eL,aa gh,aa iH,aa fX,aa fo,aa jI,aa cZ,aa ir,aa gf,aa gO,aa km,lM,gS,znp,hLD];try omega))⟩
  ·skip
   replace hR:=ndL hj' hR
   subst hj'
   try simp only[go_sem,ek]
   refine⟨(k+1,bj),⟨Xd,hR⟩,Xd,?_⟩
   exact Y102
 ·skip
  have hk':k=6:=sHc
  clear hc
  rw[show D.drop k=[] by rw[List.drop_eq_nil_iff];omega,List.all_nil,Bool.true_and]at hR
  refine Tq32 ?_
  refine lpB S.fields (fun f=>wB f.bits 1 128) (fun k bk=>[(3,.bool bk),(1,.ptr H.nx 0),(47,.slice .any 3 (S.fields.map aJ)),(48,.int .i64 (S.fields.length:Int)),(49,.int .i64 (k:Int))]) (fJ H S) hR (en5 hcH) ?_
  clear hR
  intro k bk hk hR
  have hbk:=sl.fl
  refine Tq20 ?_
  refine csL hk (fun hk'=>?_) fun hk'=>?_
  ·skip
   obtain⟨x,hmk,hgk,hR⟩:=hdL aJ Di hk' hR
   have ek:=ek5 k
   replace hR:=af (E:=wB x.bits 1 128) hR
   cases bk with
   |false=>
    try simp only[go_sem,hgk,ek,cK,cq,dq]
    exact Y23
   |true=>
    cases ck0:(wB x.bits 1 128)with
    |false=>
     refine Tq59 ?_
     refine Tq0 ?_
     replace hR:=lf false hR (by simp only[ck0,tfC])
     exact Y26
    |true=>
     refine Tq59 ?_
     refine Tq0 ?_
     replace hR:=lf true hR (by simp only[ck0,tfC])
     exact Y43
  ·skip
   replace hR:=ndL hk' hR
   subst hk'
   refine Tq32 ?_
   refine lpB S.headers (fun h=>decide (0<h.fields.length)) (fun k bk=>[(3,.bool bk),(1,.ptr H.nx 0),(61,.slice .any 3 (S.headers.map az)),(62,.int .i64 (S.headers.length:Int)),(63,.int .i64 (k:Int))]) (fJ H S) hR (en5 hcH) ?_
   clear hR
   intro k bk hk hR
   have hbk:=sl.hl
   refine Tq20 ?_
   refine csL hk (fun hk'=>?_) fun hk'=>?_
   ·skip
    obtain⟨x,hmk,hgk,hR⟩:=hdL az nT hk' hR
    have ek:=ek5 k
    replace hR:=af (E:=decide (0<x.fields.length)) hR
    cases bk with
    |false=>
     try simp only[go_sem,hgk,ek,cK,cq,dq,inL]
     exact Y23
    |true=>
     obtain⟨qck0,ck0⟩:∃ q:Bool,(decide (0<x.fields.length))=q:=⟨_,rfl⟩
     have dck0:(decide ((x.fields.length:Int)>0))=qck0:=(show(decide ((x.fields.length:Int)>0))=(decide (0<x.fields.length)) from AA).trans ck0
     cases qck0 with
     |false=>
      try simp only[go_sem,hgk,ek,cK,cq,dq,inL,ck0,dck0]
      refine Tq0 ?_
      replace hR:=lf false hR (by simp only[ck0,dck0,tfC])
      exact Y26
     |true=>
      try simp only[go_sem,hgk,ek,cK,cq,dq,inL,ck0,dck0]
      refine Tq0 ?_
      replace hR:=lf true hR (by simp only[ck0,dck0,tfC])
      exact Y43
   ·skip
    replace hR:=ndL hk' hR
    subst hk'
    refine Tq32 ?_
    refine lpB S.actions (fun a=>a.params.all fun p=>wB p.bits 1 128) (fun k bk=>[(3,.bool bk),(1,.ptr H.nx 0),(76,.slice .any 5 (S.actions.map ap)),(77,.int .i64 (S.actions.length:Int)),(78,.int .i64 (k:Int))]) (fJ H S) hR (en5 hcH) ?_
    clear hR
    intro k bk hk hR
    have hbk:=sl.al
    refine Tq20 ?_
    refine csL hk (fun hk'=>?_) fun hk'=>?_
    ·skip
     obtain⟨x,hmk,hgk,hR⟩:=hdL ap iV hk' hR
     have ek:=ek5 k
     have hcI:=oW hcH x
     rw[Bool.and_assoc]at hR
     refine Tq54 ?_
     refine Tq0 ?_
     refine lpB x.params (fun p=>wB p.bits 1 128) (fun j bj=>[(3,.bool bj),(1,.ptr H.nx 0),(76,.slice .any 5 (S.actions.map ap)),(77,.int .i64 (S.actions.length:Int)),(78,.int .i64 (k:Int)),(83,.slice .any 2 (x.params.map aL)),(84,.int .i64 (x.params.length:Int)),(85,.int .i64 (j:Int))]) ((fJ H S).push (.cells (iV x))) hR (en5 hcI) ?_
     clear hR
     intro j bj hj hR
     have hbj:=(hS.an x hmk).2.1
     refine Tq20 ?_
     refine csL hj (fun hj'=>?_) fun hj'=>?_
     ·skip
      obtain⟨y,hmj,hgj,hR⟩:=hdL aL Cz hj' hR
      have ej:=ek5 j
      replace hR:=af (E:=wB y.bits 1 128) hR
      cases bj with
      |false=>
       try simp only[go_sem,hgj,ej,cK,cq,dq]
       exact Y24
      |true=>
       cases cj0:(wB y.bits 1 128)with
       |false=>
        refine Tq78 ?_
        refine Tq0 ?_
        replace hR:=lf false hR (by simp only[cj0,tfC])
        exact Y25
       |true=>
        refine Tq78 ?_
        refine Tq0 ?_
        replace hR:=lf true hR (by simp only[cj0,tfC])
        exact Y41
     ·exact Y34
    ·skip
     replace hR:=ndL hk' hR
     subst hk'
     refine Tq32 ?_
     refine lpB S.tables (fun t=>wB t.size 1 64&&decide (0<t.keys.length)) (fun k bk=>[(3,.bool bk),(1,.ptr H.nx 0),(98,.slice .any 8 (S.tables.map au)),(99,.int .i64 (S.tables.length:Int)),(100,.int .i64 (k:Int))]) (fJ H S) hR (en5 hcH) ?_
     clear hR
     intro k bk hk hR
     have hbk:=sl.tl
     refine Tq20 ?_
     refine csL hk (fun hk'=>?_) fun hk'=>?_
     ·skip
      obtain⟨x,hmk,hgk,hR⟩:=hdL au iO hk' hR
      have ek:=ek5 k
      replace hR:=af (E:=wB x.size 1 64&&decide (0<x.keys.length)) hR
      cases bk with
      |false=>
       try simp only[go_sem,hgk,ek,cK,cq,dq]
       exact Y23
      |true=>
       cases ck0:(wB x.size 1 64)with
       |false=>
        refine Tq59 ?_
        refine Tq0 ?_
        replace hR:=lf false hR (by simp only[ck0,tfC])
        exact Y26
       |true=>
        obtain⟨qck1,ck1⟩:∃ q:Bool,(decide (0<x.keys.length))=q:=⟨_,rfl⟩
        have dck1:(decide ((x.keys.length:Int)>0))=qck1:=(show(decide ((x.keys.length:Int)>0))=(decide (0<x.keys.length)) from AA).trans ck1
        cases qck1 with
        |false=>
         try simp only[go_sem,hgk,ek,cK,cq,dq,ck0,ck1,dck1]
         refine Tq0 ?_
         replace hR:=lf false hR (by simp only[ck0,ck1,dck1,tfC])
         exact Y26
        |true=>
         try simp only[go_sem,hgk,ek,cK,cq,dq,ck0,ck1,dck1]
         refine Tq0 ?_
         replace hR:=lf true hR (by simp only[ck0,ck1,dck1,tfC])
         exact Y43
     ·skip
      replace hR:=ndL hk' hR
      subst hk'
      refine Tq32 ?_
      refine lpB S.roles (fun r=>decide (r.quota≤512)) (fun k bk=>[(3,.bool bk),(118,.slice .any 6 (S.roles.map aP)),(119,.int .i64 (S.roles.length:Int)),(120,.int .i64 (k:Int))]) (fJ H S) hR (en5 hcH) ?_
      clear hR
      intro k bk hk hR
      have hbk:=sl.rl
      refine Tq20 ?_
      refine csL hk (fun hk'=>?_) fun hk'=>?_
      ·skip
       obtain⟨x,hmk,hgk,hR⟩:=hdL aP nL hk' hR
       have ek:=ek5 k
       replace hR:=af (E:=decide (x.quota≤512)) hR
       cases bk with
       |false=>
        try simp only[go_sem,hgk,ek,cK,cq,dq]
        exact Y23
       |true=>
        cases ck0:(decide (x.quota≤512))with
        |false=>
         refine Tq59 ?_
         refine Tq0 ?_
         replace hR:=lf false hR (by simp only[ck0,tfC])
         exact Y26
        |true=>
         refine Tq59 ?_
         refine Tq0 ?_
         replace hR:=lf true hR (by simp only[ck0,tfC])
         exact Y43
      ·skip
       replace hR:=ndL hk' hR
       subst hk'
       refine Tq32 ?_
       exact Y74
def Js:SRef:=⟨1,0,4,0,1,0⟩
def sb04:Sch:={(d7 [] 0).1 with refs:=[Js]}
def QS:zA sb04=8:=by decide +kernel
def RN:ixP (fun t:STable=>t.id==4) sb04.tables 0=3:=by decide +kernel
def NU:ixP (fun t:STable=>t.id==9) sb04.tables 0 = -1:=by decide +kernel
def sm_b04:SmP 40 1000 sb04:=by
 have h:=Ah [] 0
 exact⟨h.f,h.h,h.s,h.a,h.t,h.g,h.r,by simp[sb04]⟩
def qN:PCt
 |[],_,K=>K (.bool true)
 |_,_,_=>False
def Ct:EPp 4 qN:=by
 refine Ype fun _ H K h=>?_
 unfold qN at h
 split at h<;>try exact h.elim
 refine⟨_,h,?_⟩
 clear h
 have h1:=QS
 have h2:=RN
 have h3:=NU
 have h4:=sm_b04.ok
 have h5:=(sm_b04.mono (N':=50) (R':=1100000) Xb Xb).len
 have h6:sb04.tables.length≤1000000:=by have:=sm_b04.t.1;omega
 obtain⟨S,hS⟩:∃ S,(d7 [] 0).1=S:=⟨_,rfl⟩
 have hsb:sb04={S with refs:=[Js]}:=by rw[← hS];rfl
 have hsC:aR sb04=[.slice .any 3 (S.fields.map aJ),.slice .any 3 (S.headers.map az),.slice .any 5 (S.states.map aE),.slice .any 5 (S.actions.map ap),.slice .any 8 (S.tables.map au),.slice .any 2 (S.stages.map aQ),.slice .any 6 (S.roles.map aP),.slice .any 6 [bc Js],.int .i64 S.maxBatch,.int .i64 S.budget]:=by rw[hsb];rfl
 clear hsb
 generalize sb04=S2 at *
 refine Yfw aD (tCq DM (tCq vT (tCq Ep (tCq jj tNq)))) Tryz.func4 [.tmp 0] (nrq _) (T:=aC [(2,[[3]]),(3,[[1]])]) (h:=fun hcl=>?_)
 have hze:zod ([]:By) 0=il [] (cp 0 0):=yN
 have hS':cW (d7 [] 0).1=.agg (aR S):=by rw[hS];rfl
 simp only[go_sem,wX]
 refine⟨[],⟨rfl,Xa⟩,?_⟩
 simp only[go_sem,wX,qZ,eG,List.take_nil,hze,dm (b:=[]) Xb,List.length_nil,Nat.min_zero,hS',aR]
 refine fL (H.nx+1) (cs:=[.slice .any 3 (S.fields.map aJ),.slice .any 3 (S.headers.map az),.slice .any 5 (S.states.map aE),.slice .any 5 (S.actions.map ap),.slice .any 8 (S.tables.map au),.slice .any 2 (S.stages.map aQ),.slice .any 6 (S.roles.map aP),.slice .full 6 [.agg [.int .i64 1,.int .i64 0,.int .i64 4,.int .i64 0,.int .i64 1,.int .i64 0]],.int .i64 S.maxBatch,.int .i64 S.budget]) [.slice .any 3 (S.fields.map aJ),.slice .any 3 (S.headers.map az),.slice .any 5 (S.states.map aE),.slice .any 5 (S.actions.map ap),.slice .any 8 (S.tables.map au),.slice .any 2 (S.stages.map aQ),.slice .any 6 (S.roles.map aP),.slice .any 6 [bc Js],.int .i64 S.maxBatch,.int .i64 S.budget] Xo ?_ ?_
 ·simp only[cX,dO,jW,true_and,and_true]
  rw[cY]
  exact .inl ⟨by simp[wkM],rfl,by simp[Js,bc,jc,fq,wkDL_same]⟩
 have d1:((8:Int)==8)=true:=rfl
 have d2:((3:Int)==3)=true:=rfl
 have d3:((-1:Int) == -1)=true:=rfl
 simp only[go_sem,xe]
 refine⟨S2,⟨hsC.symm,h4,h5⟩,?_⟩
 rw[h1]
 simp only[go_sem,d1,fG]
 refine⟨S2,⟨hsC.symm,h6⟩,?_⟩
 rw[h2]
 simp only[go_sem,d2,fG]
 refine⟨S2,⟨hsC.symm,h6⟩,?_⟩
 rw[h3]
 simp only[go_sem,d3]
 exact Y53
end Go.AL
