/- Lemmas of the proof; no condition. -/
import Derived.Test.YthnlhjalhflgfaaGreatE05b
import Derived.Test.YthnlhjalhflgfaaGreatW03p
set_option linter.all false
set_option maxRecDepth 10000
set_option maxHeartbeats 32000000
open Go Go.AL Go.Proofs
namespace Go.AL
theorem kw {α:Type} {p q:α→Bool}:∀ {l:List α},(l.all fun t=>p t&&q t)=(l.all p&&l.all q)
 |[]=>rfl
 |x::l=>by
  rw [List.all_cons,List.all_cons,List.all_cons,kw]
  cases p x<;>cases q x<;>cases l.all p<;>rfl
def onF {α:Type} [BEq α]:List α→List α→Bool
 |_,[]=>true
 |p,x::l=>!p.contains x&&onF (p++[x]) l
theorem La {α:Type} [BEq α] [LawfulBEq α]:∀ {l s p:List α},(∀ x,x∈s↔x∈p)→dsF s l=onF p l
 |[],s,p,h=>rfl
 |x::l,s,p,h=>by
  unfold dsF onF
  have h1:s.contains x=p.contains x:=by rw [Bool.eq_iff_iff];simp [h x]
  rw [h1,La (l:=l) (s:=x::s) (p:=p++[x]) (fun y=>by simp [h y,or_comm])]
theorem Cb {α:Type} [BEq α] [LawfulBEq α] {l:List α}:dsF [] l=onF [] l:=La fun x=>Iff.rfl
theorem evL {α:Type} {k:List UInt8} {f:α→List UInt8} {g:α→Bool}:∀ {l:List α} {s:List VN} {p:List (List UInt8)},(∀ n,(k,n)∈s↔n∈p) →
 (evS (fun t s=>((adS k (f t) s).1&&g t,(adS k (f t) s).2)) l s).1=(onF p (l.map f)&&l.all g) ∧
 ((evS (fun t s=>((adS k (f t) s).1&&g t,(adS k (f t) s).2)) l s).1=true→∀ k' n,k'≠k→((k',n)∈(evS (fun t s=>((adS k (f t) s).1&&g t,(adS k (f t) s).2)) l s).2↔(k',n)∈s))
 |[],s,p,h=>⟨rfl,fun _ _ _ _=>Iff.rfl⟩
 |x::l,s,p,h=>by
  unfold evS
  dsimp only
  rw [List.map_cons,onF,List.all_cons]
  have h0:s.contains (k,f x)=p.contains (f x):=by rw [Bool.eq_iff_iff];simp [h (f x)]
  unfold adS
  rw [h0]
  cases hp:p.contains (f x) with
  |true =>
   simp only [if_true,Bool.false_and,Bool.false_eq_true,if_false,Bool.not_true]
   exact ⟨trivial,fun h=>by cases h⟩
  |false =>
   simp only [Bool.false_eq_true,if_false,Bool.true_and,Bool.not_false]
   cases hg:g x with
   |false =>
    simp only [Bool.false_eq_true,if_false,Bool.false_and,Bool.and_false]
    exact ⟨trivial,fun h=>by cases h⟩
   |true =>
    simp only [if_true,Bool.true_and]
    have ih:=evL (k:=k) (f:=f) (g:=g) (l:=l) (s:=(k,f x)::s) (p:=p++[f x]) (fun n=>by
     rw [List.mem_cons,List.mem_append,List.mem_singleton,← h n,Prod.mk.injEq]
     constructor
     ·rintro (⟨_,h⟩|h)
      ·exact .inr h
      ·exact .inl h
     ·rintro (h|h)
      ·exact .inr h
      ·exact .inl ⟨rfl,h⟩)
    unfold adS at ih
    refine ⟨ih.1,fun ht k' n hk=>?_⟩
    rw [ih.2 ht k' n hk,List.mem_cons,Prod.mk.injEq]
    exact ⟨fun h=>h.resolve_left fun e=>hk e.1,.inr⟩
theorem Qr {α:Type} {k:List UInt8} {f:α→List UInt8} {l:List α} {s:List VN} (h:∀ n,(k,n) ∉ s) :
 (evS (fun t=>adS k (f t)) l s).1=onF [] (l.map f)∧((evS (fun t=>adS k (f t)) l s).1=true→∀ k' n,k'≠k→((k',n)∈(evS (fun t=>adS k (f t)) l s).2↔(k',n)∈s)):=by
 have h1:=evL (k:=k) (f:=f) (g:=fun _=>true) (l:=l) (s:=s) (p:=[]) (fun n=>by simp [h n])
 have e:(fun t=>adS k (f t))=(fun (t:α) (s:List VN)=>((adS k (f t) s).1&&(fun _=>true) t,(adS k (f t) s).2)):=by
  funext t s
  simp
 rw [← e] at h1
 refine ⟨?_,h1.2⟩
 rw [h1.1]
 have:l.all (fun _=>true)=true:=by simp
 rw [this,Bool.and_true]
theorem QY {S:Sch}:snB S=(onF [] (S.fields.map (·.name))&&(onF [] (S.headers.map (·.name))&&((onF [] (S.actions.map (·.name))&&S.actions.all fun t=>dsF [] (t.params.map (·.name)))&&((onF [] (S.tables.map (·.name))&&S.tables.all fun t=>dsF [] (t.keys.map (·.name)))&&onF [] (S.roles.map (·.name)))))):=by
 unfold snB
 dsimp only
 obtain ⟨a1,a2⟩:=Qr (k:=kFld) (f:=fun t:SField=>t.name) (l:=S.fields) (s:=[]) (fun n=>by simp)
 generalize ha:evS (fun (t:SField)=>adS kFld t.name) S.fields []=a at *
 cases a1':a.1 with
 |false=>rw [← a1,a1',Bool.false_and,Bool.false_and]
 |true =>
  have a3:=a2 a1'
  rw [← a1,a1',Bool.true_and,Bool.true_and]
  obtain ⟨b1,b2⟩:=Qr (k:=kHdr) (f:=fun t:SHeader=>t.name) (l:=S.headers) (s:=a.2) (fun n=>by rw [a3 kHdr n (by decide)];simp)
  generalize hb:evS (fun (t:SHeader)=>adS kHdr t.name) S.headers a.2=b at *
  cases b1':b.1 with
  |false=>rw [← b1,b1',Bool.false_and,Bool.false_and]
  |true =>
   have b3:=b2 b1'
   rw [← b1,b1',Bool.true_and,Bool.true_and]
   obtain ⟨c1,c2⟩:=evL (k:=kAct) (f:=fun t:SAction=>t.name) (g:=fun t=>dsF [] (t.params.map (·.name))) (l:=S.actions) (s:=b.2) (p:=[]) (fun n=>by rw [b3 kAct n (by decide),a3 kAct n (by decide)];simp)
   have ec:(fun (t:SAction) (s:List VN)=>((adS kAct t.name s).1&&dsF [] (t.params.map (·.name)),(adS kAct t.name s).2))=adA:=rfl
   rw [ec] at c1 c2
   generalize hc:evS adA S.actions b.2=c at *
   cases c1':c.1 with
   |false=>rw [← c1,c1',Bool.false_and,Bool.false_and]
   |true =>
    have c3:=c2 c1'
    rw [← c1,c1',Bool.true_and,Bool.true_and]
    obtain ⟨d1,d2⟩:=evL (k:=kTab) (f:=fun t:STable=>t.name) (g:=fun t=>dsF [] (t.keys.map (·.name))) (l:=S.tables) (s:=c.2) (p:=[]) (fun n=>by rw [c3 kTab n (by decide),b3 kTab n (by decide),a3 kTab n (by decide)];simp)
    have ed:(fun (t:STable) (s:List VN)=>((adS kTab t.name s).1&&dsF [] (t.keys.map (·.name)),(adS kTab t.name s).2))=adT:=rfl
    rw [ed] at d1 d2
    generalize hd:evS adT S.tables c.2=d at *
    cases d1':d.1 with
    |false=>rw [← d1,d1',Bool.false_and,Bool.false_and]
    |true =>
     have d3:=d2 d1'
     rw [← d1,d1',Bool.true_and,Bool.true_and]
     exact (Qr (k:=kRol) (f:=fun t:SRole=>t.name) (l:=S.roles) (s:=d.2) (fun n=>by rw [d3 kRol n (by decide),c3 kRol n (by decide),b3 kRol n (by decide),a3 kRol n (by decide)];simp)).1
def qB (S:Sch):List (List Int):=[S.fields.map (·.id),S.headers.map (·.id),S.states.map (·.id),S.actions.map (·.id),S.tables.map (·.id),S.roles.map (·.id)]
def En (S:Sch):Bool:=wB S.maxBatch 1 32&&(wB S.budget 1 200&&(((qB S).all fun l=>l.all fun n=>wB n 1 65534)&&((S.fields.all fun f=>wB f.bits 1 128)&&((S.headers.all fun h=>decide (0<h.fields.length))&&((S.actions.all fun a=>a.params.all fun p=>wB p.bits 1 128)&&((S.tables.all fun t=>wB t.size 1 64&&decide (0<t.keys.length))&&S.roles.all fun r=>decide (r.quota≤512)))))))
theorem OI {S:Sch}:En S=uN S:=by
 unfold En uN qB
 have e1:S.fields.all nm1=((S.fields.all fun t=>wB t.id 1 65534)&&S.fields.all fun t=>wB t.bits 1 128):=kw
 have e2:S.headers.all nm2=((S.headers.all fun t=>wB t.id 1 65534)&&S.headers.all fun t=>decide (0<t.fields.length)):=kw
 have e4:S.actions.all nm4=((S.actions.all fun t=>wB t.id 1 65534)&&S.actions.all fun t=>t.params.all fun p=>wB p.bits 1 128):=kw
 have e5:S.tables.all nm5=((S.tables.all fun t=>wB t.id 1 65534)&&S.tables.all fun t=>wB t.size 1 64&&decide (0<t.keys.length)):=kw
 have e6:S.roles.all nm6=((S.roles.all fun t=>wB t.id 1 65534)&&S.roles.all fun t=>decide (t.quota≤512)):=kw
 rw [e1,e2,e4,e5,e6]
 simp only [List.all_cons,List.all_nil,Bool.and_true,List.all_map,Function.comp_def]
 ac_rfl
def D3 (S:Sch):Bool:=((qB S).all fun l=>onF [] l)&&((S.actions.all fun t=>onF [] (t.params.map (·.name)))&&((S.tables.all fun t=>onF [] (t.keys.map (·.name))&&onF [] t.actions)&&((S.roles.all fun t=>onF [] (t.grants.map (·.table))&&onF [] t.actions) &&
 (onF [] (S.fields.map (·.name))&&(onF [] (S.headers.map (·.name))&&(onF [] (S.actions.map (·.name))&&(onF [] (S.tables.map (·.name))&&(onF [] (S.roles.map (·.name))&&onF [] (S.headers.flatMap (·.fields))))))))))
theorem Mz {S:Sch}:D3 S=oU S:=by
 unfold D3 oU qB
 rw [QY]
 have e1:S.roles.all rlB=((S.roles.all fun t=>dsF [] (t.actions.map fun n=>n))&&S.roles.all fun t=>dsF [] (t.grants.map (·.table))):=kw
 rw [e1]
 simp only [Cb,List.map_id',kw,List.all_cons,List.all_nil,Bool.and_true]
 ac_rfl
theorem j4 {α:Type} {p q:α→Bool}:∀ {l:List α},(∀ x∈l,p x=q x)→l.all p=l.all q
 |[],_=>rfl
 |x::l,h=>by
  rw [List.all_cons,List.all_cons,h x List.mem_cons_self,j4 fun y hy=>h y (List.mem_cons_of_mem x hy)]
def tQ (p:SPrim):Bool:=if p.op==4||(p.op==5||p.op==6) then p.kind==0&&(p.n==0&&decide (p.value=0)) else if p.kind==1 then p.n==0 else (p.kind==2||p.kind==3)&&decide (p.value=0)
def kpB (p:SPrim):Bool:=wB p.op 1 7&&(tQ p&&(p.dst==0||(p.op != 6&&p.op != 7)))
def krB (r:SRef):Bool:=(r.action==0&&r.param==0)||(r.action != 0&&r.key==0)
def DN (S:Sch):Bool:=(S.actions.all fun a=>a.body.all kpB)&&((S.tables.all fun t=>ftB t.keys 0)&&(S.states.all fsB&&S.refs.all krB))
theorem Qm (p:SPrim):kpB p=fpB p:=by
 unfold kpB fpB
 cases hw:wB p.op 1 7 with
 |false=>rfl
 |true =>
  unfold wB at hw
  simp only [Bool.and_eq_true,decide_eq_true_eq] at hw
  have h7:p.op=1∨p.op=2∨p.op=3∨p.op=4∨p.op=5∨p.op=6∨p.op=7:=by omega
  unfold tQ kM
  have hd:(p.dst != 0)=!(p.dst==0):=rfl
  rw [hd]
  rcases h7 with h|h|h|h|h|h|h<;>rw [h]<;>cases p.dst==0<;>cases p.kind==0<;>cases p.kind==1<;>cases p.kind==2<;>cases p.kind==3<;>cases p.n==0<;>cases decide (p.value=0)<;>rfl
theorem QZ (r:SRef):krB r=frB r:=by
 unfold krB frB
 have hd:(r.action != 0)=!(r.action==0):=rfl
 rw [hd]
 cases r.action==0<;>simp
theorem Ma {S:Sch}:DN S=mw S:=by
 unfold DN mw
 rw [j4 (p:=fun a:SAction=>a.body.all kpB) (q:=fun a=>a.body.all fpB) fun a _=>j4 fun p _=>Qm p,j4 (p:=krB) (q:=frB) fun r _=>QZ r]
def rpB (S:Sch) (np:Nat) (p:SPrim):Bool:=(if p.op==1||(p.op==2||p.op==3) then bz S p.dst else if p.op==4||p.op==5 then fh S p.dst else true)&&((p.kind != 2||bz S p.n)&&(p.kind != 3||decide (p.n<(np:Int))))
theorem QG {S:Sch} {np:Nat} {p:SPrim} (h:fpB p=true):rpB S np p=nD S np p:=by
 unfold rpB nD
 have h45:(p.op==1||(p.op==2||p.op==3))=false→(p.op==4||p.op==5)=true→p.kind=0:=fun h1 h2=>by
  unfold fpB at h
  have ho:kM p.op=false:=by
   simp only [Bool.or_eq_true,beq_iff_eq] at h2
   rcases h2 with h2|h2<;>rw [h2]<;>rfl
  rw [ho] at h
  simp only [Bool.and_eq_true,beq_iff_eq,Bool.false_eq_true,if_false] at h
  exact h.2.2.1
 cases c1:(p.op==1||(p.op==2||p.op==3)) with
 |true =>
  rw [if_pos rfl,if_pos rfl]
  by_cases k2:p.kind=2
  ·rw [k2];cases bz S p.dst<;>cases bz S p.n<;>rfl
  ·by_cases k3:p.kind=3
   ·rw [k3];cases bz S p.dst<;>cases decide (p.n<(np:Int))<;>rfl
   ·have e2:(p.kind==2)=false:=by simpa using k2
    have e3:(p.kind==3)=false:=by simpa using k3
    have n2:(p.kind != 2)=true:=by simpa using k2
    have n3:(p.kind != 3)=true:=by simpa using k3
    rw [e2,e3,n2,n3];cases bz S p.dst<;>rfl
 |false =>
  rw [if_neg Bool.false_ne_true,if_neg Bool.false_ne_true]
  cases c2:(p.op==4||p.op==5) with
  |true =>
   rw [if_pos rfl,if_pos rfl,h45 c1 c2];cases fh S p.dst<;>rfl
  |false =>
   rw [if_neg Bool.false_ne_true,if_neg Bool.false_ne_true,Bool.true_and]
   by_cases k2:p.kind=2
   ·rw [k2];cases bz S p.n<;>rfl
   ·by_cases k3:p.kind=3
    ·rw [k3];cases decide (p.n<(np:Int))<;>rfl
    ·have e2:(p.kind==2)=false:=by simpa using k2
     have e3:(p.kind==3)=false:=by simpa using k3
     have n2:(p.kind != 2)=true:=by simpa using k2
     have n3:(p.kind != 3)=true:=by simpa using k3
     rw [e2,e3,n2,n3];rfl
def kwB (S:Sch):Bool:=bz S 1&&(bz S 2&&(S.headers.all (tD S)&&(S.states.all (qV S)&&S.actions.all fun a=>a.body.all fun p=>rpB S a.params.length p)))
def grB (S:Sch):Bool:=S.tables.all (nQ S)&&(S.stages.all (vQ S)&&(S.roles.all (tc S)&&S.refs.all (mU S)))
theorem A7 {S:Sch} (h:mw S=true):∀ a∈S.actions,∀ p∈a.body,fpB p=true:=by
 unfold mw at h
 simp only [Bool.and_eq_true] at h
 exact fun a ha p hp=>List.all_eq_true.1 (List.all_eq_true.1 h.1 a ha) p hp
theorem C5 {S:Sch} (h:mw S=true):(kwB S&&grB S)=kB S:=by
 have hf:=A7 h
 unfold kwB grB kB
 rw [j4 (p:=fun a:SAction=>a.body.all fun p=>rpB S a.params.length p) (q:=At S) fun a ha=>j4 fun p hp=>QG (hf a ha p hp)]
 ac_rfl
def hwB (S:Sch) (t:SHeader):Bool:=(t.fields.all fun f=>f != 1&&f != 2)&&(decide (smB S t.fields 0 % 8=0)&&decide (smB S t.fields 0≤512))
theorem A1 {n:Int}:∀ {l:List Int},(l.all fun f=>f != n)=!l.contains n
 |[]=>rfl
 |x::l=>by
  rw [List.all_cons,List.contains_cons,A1,Bool.not_or]
  have:(x != n)=!(n==x):=by
   by_cases h:x=n
   ·subst h;simp
   ·have h2:¬ n=x:=fun e=>h e.symm
    have e1:(x==n)=false:=by simpa using h
    have e2:(n==x)=false:=by simpa using h2
    rw [bne,e1,e2]
  rw [this]
theorem Qs {S:Sch} {t:SHeader}:hwB S t=s9 S t:=by
 unfold hwB s9
 rw [kw,A1,A1]
 ac_rfl
def pkB (S:Sch):Bool:=(btF S 1==16)&&((btF S 2==16)&&(S.headers.all (hwB S)&&(S.states.all fun t=>t.cases.all fun p=>nt S t.select p)))
def atB (S:Sch):Bool:=S.actions.all fun t=>t.body.all fun p=>mV S t p
def tbB (S:Sch):Bool:=S.tables.all (tmF S)&&((S.roles.all fun t=>t.grants.all fun g=>gkB S g)&&S.refs.all (ma S))
theorem Mt {S:Sch}:(pkB S&&(atB S&&tbB S))=tO S:=by
 unfold pkB atB tbB tO
 rw [j4 (p:=hwB S) (q:=s9 S) fun t _=>Qs]
 ac_rfl
def ixT (S:Sch) (n:Int):Nat:=(ixP (fun t:STable=>t.id==n) S.tables 0).toNat
def l8 (S:Sch):List Nat:=nT (oJ (kh S.refs) (fE S) (ixT S)) S.tables.length S.tables.length []
theorem wP {α:Type} [BEq α] [LawfulBEq α]:∀ {l p:List α},onF p l=true→l.Nodup∧∀ x∈l,x ∉ p
 |[],p,_=>⟨List.nodup_nil,fun x h=>by cases h⟩
 |x::l,p,h=>by
  unfold onF at h
  rw [Bool.and_eq_true] at h
  obtain ⟨h1,h2⟩:=h
  obtain ⟨h3,h4⟩:=wP h2
  have hx:x ∉ p:=by simpa using h1
  refine ⟨List.nodup_cons.2 ⟨fun hl=>h4 x hl (by simp),h3⟩,fun y hy=>?_⟩
  rcases List.mem_cons.1 hy with rfl|hy
  ·exact hx
  ·exact fun hp=>h4 y hy (List.mem_append_left _ hp)
theorem Df {n:Int}:∀ {l:List STable} {k:Nat} {i:Nat} (h:i<l.length),(l.map (·.id)).Nodup→l[i].id=n→ixP (fun t:STable=>t.id==n) l k=((k+i:Nat):Int)
 |[],k,i,h,_,_=>by simp at h
 |x::l,k,0,h,hn,he=>by
  have he':x.id=n:=he
  unfold ixP
  rw [if_pos (by simp [he'])]
  rfl
 |x::l,k,i+1,h,hn,he=>by
  rw [List.map_cons,List.nodup_cons] at hn
  have he':l[i]'(by simpa using h)=l[i]'(by simpa using h):=rfl
  have hm:n∈l.map (·.id):=List.mem_map.2 ⟨l[i]'(by simpa using h),gMq _,he⟩
  have hx:¬ x.id=n:=fun e=>hn.1 (e ▸ hm)
  unfold ixP
  rw [if_neg (by simp [hx]),Df (k:=k+1) (i:=i) (by simpa using h) hn.2 he]
  congr 1;omega
theorem yf {S:Sch} (h:(fE S).Nodup):Ix (fE S) (ixT S):=by
 have hl:(fE S).length=S.tables.length:=List.length_map _
 have key:∀ i (hi:i<S.tables.length),ixT S (S.tables[i].id)=i:=fun i hi=>by
  unfold ixT
  rw [Df (n:=S.tables[i].id) hi h rfl]
  simp
 have hg:∀ i (hi:i<S.tables.length),(fE S).getD i 0=S.tables[i].id:=fun i hi=>by
  unfold fE
  rw [gEq,List.getElem?_map,gQq hi];rfl
 refine ⟨fun i hi=>?_,fun x hx=>?_⟩
 ·rw [hl] at hi
  rw [hg i hi,key i hi]
 ·obtain ⟨t,ht,rfl⟩:=List.mem_map.1 hx
  obtain ⟨i,hi,rfl⟩:=List.getElem_of_mem ht
  rw [key i hi,hg i hi,hl]
  exact ⟨hi,rfl⟩
theorem Cd {S:Sch} (hr:ov S) (hn:(fE S).Nodup):decide ((l8 S).length<S.tables.length)=!nS S:=by
 have hl:(fE S).length=S.tables.length:=List.length_map _
 have hx:=yf hn
 have hp:∀ r∈kh S.refs,r.1∈fE S∧r.2∈fE S:=fun r h=>by
  unfold kh at h
  obtain ⟨x,hx,rfl⟩:=List.mem_map.1 h
  exact hr x hx
 have hle:(l8 S).length≤S.tables.length:=by
  exact Y136
 cases hb:nS S with
 |true =>
  unfold nS at hb
  split at hb
  ·rename_i D hD
   have:=vL hx (fun r h=>(hp r h).2) hD
   rw [hl] at this
   rw [show (l8 S).length=S.tables.length from this]
   simp
  ·cases hb
 |false =>
  have:¬ (l8 S).length=S.tables.length:=fun he=>by
   have he':(nT (oJ (kh S.refs) (fE S) (ixT S)) (fE S).length (fE S).length []).length=(fE S).length:=by rw [hl];exact he
   obtain ⟨D,hD⟩:=vS hx hp he' (f:=S.tables.length+1) (by omega)
   unfold nS at hb
   rw [hD] at hb
   cases hb
  simp;omega
attribute [go_sem] bm aD bhq aW aX aZ bx aY bw bo bp bv List.take_succ_cons List.take_zero List.drop_succ_cons List.drop_zero iNq List.length_map
attribute [go_sem_proc] Nat.reduceMod Nat.reduceDiv
abbrev AO (x:SField):List AV:=[.int .i64 x.id,.str x.name,.int .i64 x.bits]
abbrev mR (x:SHeader):List AV:=[.int .i64 x.id,.str x.name,.slice .any 1 (inL x.fields)]
theorem wx {H:AHeap} (h:H.Closed) (x:SHeader):(H.push (.cells (mR x))).Closed:=ah h (by have:=fA (n:=H.nx+1) x;simp only [az,znr] at this;exact this)
abbrev qv (x:SState):List AV:=[.int .i64 x.id,.int .i64 x.header,.int .i64 x.select,.slice .any 5 (x.cases.map bb),.int .i64 x.dflt]
theorem yV {H:AHeap} (h:H.Closed) (x:SState):(H.push (.cells (qv x))).Closed:=ah h (by have:=ey (n:=H.nx+1) x;simp only [aA,znr] at this;exact this)
abbrev PE (x:SCase):List AV:=[.int .u64 ((x.value/2^64:Nat):Int),.int .u64 ((x.value % 2^64:Nat):Int),.int .u64 ((x.mask/2^64:Nat):Int),.int .u64 ((x.mask % 2^64:Nat):Int),.int .i64 x.next]
abbrev zY (x:SPrim):List AV:=[.int .i64 x.op,.int .i64 x.dst,.int .i64 x.kind,.int .i64 x.n,.int .u64 ((x.value/2^64:Nat):Int),.int .u64 ((x.value % 2^64:Nat):Int)]
theorem LM {H:AHeap} (h:H.Closed) (x:SPrim):(H.push (.cells (zY x))).Closed:=ah h (by have:=iC (n:=H.nx+1) x;simp only [aT,znr] at this;exact this)
abbrev BM (x:SParam):List AV:=[.str x.name,.int .i64 x.bits]
abbrev iA (x:SAction):List AV:=[.int .i64 x.id,.str x.name,.slice .any 2 (x.params.map aL),.slice .any 6 (x.body.map aT),.str x.restr]
theorem nc {H:AHeap} (h:H.Closed) (x:SAction):(H.push (.cells (iA x))).Closed:=ah h (by have:=eP (n:=H.nx+1) x;simp only [ap,znr] at this;exact this)
abbrev Hq (x:SKey):List AV:=[.str x.name,.int .i64 x.field,.int .i64 x.kind]
abbrev ip (x:STable):List AV:=[.int .i64 x.id,.str x.name,.slice .any 3 (x.keys.map ba),.slice .any 1 (inL x.actions),.int .i64 x.dflt,.slice .any 2 (x.dargs.map vv),.int .i64 x.size,.str x.restr]
theorem rI {H:AHeap} (h:H.Closed) (x:STable):(H.push (.cells (ip x))).Closed:=ah h (by have:=cS (n:=H.nx+1) x;simp only [ax,znr] at this;exact this)
abbrev GH (x:SStage):List AV:=[.int .i64 x.table,.int .i64 x.header]
abbrev yw (x:SGrant):List AV:=[.int .i64 x.table,.bool x.read,.bool x.write,.slice .any 1 (boL x.keys)]
abbrev mQ (x:SRole):List AV:=[.int .i64 x.id,.str x.name,.slice .any 4 (x.grants.map aJ),.slice .any 1 (inL x.actions),.int .i64 x.quota,.bool x.audit]
theorem yp {H:AHeap} (h:H.Closed) (x:SRole):(H.push (.cells (mQ x))).Closed:=ah h (by have:=gM (n:=H.nx+1) x;simp only [aN,znr] at this;exact this)
abbrev D6 (x:SRef):List AV:=[.int .i64 x.table,.int .i64 x.key,.int .i64 x.action,.int .i64 x.param,.int .i64 x.toTable,.int .i64 x.toKey]
abbrev ff (H:AHeap) (S:Sch):AHeap:=H.push (.cells [.slice .any 3 (S.fields.map aG),.slice .any 3 (S.headers.map az),.slice .any 5 (S.states.map aA),.slice .any 5 (S.actions.map ap),.slice .any 8 (S.tables.map ax),.slice .any 2 (S.stages.map aO),.slice .any 6 (S.roles.map aN),.slice .any 6 (S.refs.map a9),.int .i64 S.maxBatch,.int .i64 S.budget])
theorem lm {H:AHeap} {S:Sch} (h:H.Closed):(ff H S).Closed:=ah h (nJ S)
theorem kS {n:Nat} {l:List Int}:AV.lt n (.slice .any 1 (l.map (AV.int .i64))):=fD
theorem ltZ:(∀ (n sz:Nat) (l:List SField),AV.lt n (.slice .any sz (l.map aG)))∧(∀ (n sz:Nat) (l:List SHeader),AV.lt n (.slice .any sz (l.map az)))∧(∀ (n sz:Nat) (l:List SState),AV.lt n (.slice .any sz (l.map aA)))∧(∀ (n sz:Nat) (l:List SCase),AV.lt n (.slice .any sz (l.map bb)))∧(∀ (n sz:Nat) (l:List SPrim),AV.lt n (.slice .any sz (l.map aT)))∧(∀ (n sz:Nat) (l:List SParam),AV.lt n (.slice .any sz (l.map aL)))∧(∀ (n sz:Nat) (l:List SAction),AV.lt n (.slice .any sz (l.map ap)))∧(∀ (n sz:Nat) (l:List SKey),AV.lt n (.slice .any sz (l.map ba)))∧(∀ (n sz:Nat) (l:List STable),AV.lt n (.slice .any sz (l.map ax)))∧(∀ (n sz:Nat) (l:List SStage),AV.lt n (.slice .any sz (l.map aO)))∧(∀ (n sz:Nat) (l:List SGrant),AV.lt n (.slice .any sz (l.map aJ)))∧(∀ (n sz:Nat) (l:List SRole),AV.lt n (.slice .any sz (l.map aN)))∧(∀ (n sz:Nat) (l:List SRef),AV.lt n (.slice .any sz (l.map a9)))∧(∀ (n:Nat) (l:List Int),AV.lt n (.slice .any 1 (l.map (AV.int .i64))))∧(∀ (n:Nat) (l:List Int),AV.lt n (.slice .any 1 (inL l))):=⟨fun _ _ _=>aa gD,fun _ _ _=>aa fA,fun _ _ _=>aa ey,fun _ _ _=>aa iU,fun _ _ _=>aa iC,fun _ _ _=>aa fH,fun _ _ _=>aa eP,fun _ _ _=>aa j3,fun _ _ _=>aa cS,fun _ _ _=>aa gX,fun _ _ _=>aa fV,fun _ _ _=>aa gM,fun _ _ _=>aa iJ,fun _ _=>kS,fun _ _=>fD⟩
theorem aq {p q:Prop} (k:q) (h:p:=by first|exact True.intro|decide|omega|(simp [ziq,zgq,zgr,zgs,zgu,zgt,zgy];first|done|omega)):p∧q:=⟨h,k⟩
theorem om5 {p:Prop} (h:p:=by dsimp only;omega):p:=h
theorem en5 {n0:Nat} {fr:Fr} {H:AHeap} {fr':Fr} {H':AHeap} (c:H'.Closed) (a:n0≤H'.nx:=by (try simp only [zkq,zkv,ja,zle,zlf]);omega) (b:H'.Le H:=by repeat first|exact .refl _|refine .push ?_ _) (d:ltF H'.nx fr':=by (simp [ltF,zle,zlf,znn,znf,zng,ltZ];try omega)) (e:bg H H' fr' fr:=by simp [bg,wk2,wk1,wkM,Fr.get,fJ]):enterW n0 fr H fr' H':=⟨a,b,c,d,e⟩
theorem af {b E A X R:Bool} (h:(b&&((E&&A)&&X))=R):(b&&(E&&(A&&X)))=R:=by rw [← Bool.and_assoc E];exact h
theorem ae {b E X R:Bool} (h:(b&&(E&&X))=R):(b&&(E&&X))=R:=h
theorem lf (v:Bool) {E X R:Bool} (h:(true&&(E&&X))=R) (e:E=v):(v&&X)=R:=by rw [← h,e];rfl
theorem lff {E X R:Bool} (h:(false&&(E&&X))=R):(false&&X)=R:=by rw [← h];rfl
theorem csL {P:Program} {Ω:Tbl} {K:Conts} {a b:Code} {fr:Fr} {H:AHeap} {k n:Nat} (hk:k≤n) (h1:k<n→aw P Ω a K fr H) (h2:k=n→aw P Ω b K fr H):p6 P Ω (.bool (decide ((k:Int)<(n:Int)))) a b K fr H :=
 au (fun h=>h1 (by simp at h;omega)) (fun h=>h2 (by simp at h;omega))
theorem hdL {α:Type} (f:α→AV) (c:α→List AV) {l:List α} {k:Nat} {F:α→Bool} {b X R:Bool} (h:k<l.length) (hR:(b&&((l.drop k).all F&&X))=R) (hc:∀ x,f x=.agg (c x):=by intro x;rfl):∃ x,x∈l∧(l.map f).getD k .junk=.agg (c x)∧(b&&((F x&&(l.drop (k+1)).all F)&&X))=R :=
 ⟨l[k],gMq h,by rw [← hc];exact aV (gQq h),by rw [dcq h,List.all_cons] at hR;exact hR⟩
theorem hdI {l:List Int} {k:Nat} {F:Int→Bool} {b X R:Bool} (h:k<l.length) (hR:(b&&((l.drop k).all F&&X))=R):∃ x,x∈l∧(l.map (AV.int .i64)).getD k .junk=.int .i64 x∧(b&&((F x&&(l.drop (k+1)).all F)&&X))=R :=
 ⟨l[k],gMq h,aV (gQq h),by rw [dcq h,List.all_cons] at hR;exact hR⟩
theorem hdF {α:Type} (f:α→AV) (c:α→List AV) {l:List α} {k:Nat} (h:k<l.length) (hc:∀ x,f x=.agg (c x):=by intro x;rfl):∃ x,x∈l∧(l.map f).getD k .junk=.agg (c x) :=
 ⟨l[k],gMq h,by rw [← hc];exact aV (gQq h)⟩
theorem hdG {l:List Int} {k:Nat} (h:k<l.length):∃ x,x∈l∧(l.map (AV.int .i64)).getD k .junk=.int .i64 x :=
 ⟨l[k],gMq h,aV (gQq h)⟩
theorem ndL {α:Type} {l:List α} {k:Nat} {F:α→Bool} {b X R:Bool} (h:k=l.length) (hR:(b&&((l.drop k).all F&&X))=R):(b&&X)=R:=by
 subst h;rw [List.drop_length,List.all_nil,Bool.true_and] at hR;exact hR
theorem ek5 (k:Nat) (h:k+1<9223372036854775808:=by omega):IntKind.i64.wrap ((k:Int)+1)=((k+1:Nat):Int):=by rw [wrap_i64]<;>omega
theorem lpB {P:Program} {Ω:Tbl} {B:Conts} {k:List KItem} {c:Code} {fr:Fr} {H:AHeap} {α:Type} (l:List α) (F:α→Bool) (g:Nat→Bool→Fr) (G:AHeap) {b X R:Bool} (hR:(b&&(l.all F&&X))=R) (he:enterW B.n0 fr H (g 0 b) G)
 (hb:∀ i o,i≤l.length→(o&&((l.drop i).all F&&X))=R→aw P Ω c (KI P Ω B (.back (fun fr' H'=>∃ a:Nat × Bool,(a.1≤l.length∧(a.2&&((l.drop a.1).all F&&X))=R)∧l.length - a.1<l.length - i∧enterW B.n0 fr' H' (g a.1 a.2) G)::k)) (g i o) G) :
 aw P Ω (.loop c) (KI P Ω B k) fr H :=
 aC (A:=Nat × Bool) (fun a=>g a.1 a.2) (fun _=>G) (fun a=>a.1≤l.length∧(a.2&&((l.drop a.1).all F&&X))=R) (fun a=>l.length - a.1) (0,b) ⟨Nat.zero_le _,hR⟩ he fun a h=>hb a.1 a.2 h.1 h.2
theorem lpF {P:Program} {Ω:Tbl} {B:Conts} {k:List KItem} {c:Code} {fr:Fr} {H:AHeap} (n:Nat) (g:Nat→Fr) (G:AHeap) (he:enterW B.n0 fr H (g 0) G)
 (hb:∀ i,i≤n→aw P Ω c (KI P Ω B (.back (fun fr' H'=>∃ a:Nat,a≤n∧n - a<n - i∧enterW B.n0 fr' H' (g a) G)::k)) (g i) G) :
 aw P Ω (.loop c) (KI P Ω B k) fr H :=
 aC (A:=Nat) g (fun _=>G) (fun a=>a≤n) (fun a=>n - a) 0 (Nat.zero_le _) he hb
def dV:PCt
 |[.agg l],_,K=>∃ S:Sch,(l=aR S∧SB S)∧K (.bool (nZ S))
 |_,_,_=>False
theorem EI:EPp 40 dV:=by
 refine Ype fun _ H K h=>?_
 unfold dV at h
 split at h<;>try exact h.elim
 rename_i l
 obtain ⟨S,⟨rfl,hS⟩,hK⟩:=h
 refine ⟨_,hK,?_⟩
 clear hK
 obtain ⟨E,hE⟩:∃ E:Bool,E=true:=⟨true,rfl⟩
 generalize hR:nZ S=R
 unfold nZ at hR
 have sl:=hS.sl
 replace hR:(true&&((S.fields.all fun t=>dm t.name)&&((S.headers.all fun t=>dm t.name)&&((S.actions.all tg)&&((S.tables.all rH)&&((S.roles.all fun t=>dm t.name)&&E))))))=R:=by rw [← hR,hE];simp only [Bool.true_and,Bool.and_true]
 refine Yfu aE (tCq wJ (tCq HC tNq)) Tryz.func40 [.tmp 2] fun hcl=>?_
 have hcH:=lm (S:=S) hcl
 simp only [go_sem,aR,jo,lv]
 refine lpB S.fields (fun t=>dm t.name) (fun k bk=>[(3,.bool bk),(1,.ptr H.nx 0),(19,.slice .any 3 (S.fields.map aG)),(20,.int .i64 (S.fields.length:Int)),(21,.int .i64 (k:Int))]) (ff H S) hR (en5 hcH) ?_
 clear hR
 intro k bk hk hR
 have hbk:=sl.fl
 refine Tq15 ?_
 refine csL hk (fun hk'=>?_) fun hk'=>?_
 ·skip
  obtain ⟨x,hmk,hgk,hR⟩:=hdL aG AO hk' hR
  have ek:=ek5 k
  cases bk with
  |false =>
   exact Y64
  |true =>
   simp only [go_sem,hgk,ek,jo,lv]
   refine Tq0 ?_
   refine ⟨hS.fn x hmk,?_⟩
   exact Y71
 ·skip
  replace hR:=ndL hk' hR
  subst hk'
  refine Tq28 ?_
  refine lpB S.headers (fun t=>dm t.name) (fun k bk=>[(3,.bool bk),(1,.ptr H.nx 0),(33,.slice .any 3 (S.headers.map az)),(34,.int .i64 (S.headers.length:Int)),(35,.int .i64 (k:Int))]) (ff H S) hR (en5 hcH) ?_
  clear hR
  intro k bk hk hR
  have hbk:=sl.hl
  refine Tq15 ?_
  refine csL hk (fun hk'=>?_) fun hk'=>?_
  ·skip
   obtain ⟨x,hmk,hgk,hR⟩:=hdL az mR hk' hR
   have ek:=ek5 k
   cases bk with
   |false =>
    exact Y64
   |true =>
    simp only [go_sem,hgk,ek,jo,lv]
    refine Tq0 ?_
    refine ⟨(hS.hn x hmk).1,?_⟩
    exact Y71
  ·skip
   replace hR:=ndL hk' hR
   subst hk'
   refine Tq28 ?_
   refine lpB S.actions tg (fun k bk=>[(3,.bool bk),(1,.ptr H.nx 0),(47,.slice .any 5 (S.actions.map ap)),(48,.int .i64 (S.actions.length:Int)),(49,.int .i64 (k:Int))]) (ff H S) hR (en5 hcH) ?_
   clear hR
   intro k bk hk hR
   have hbk:=sl.al
   refine Tq15 ?_
   refine csL hk (fun hk'=>?_) fun hk'=>?_
   ·skip
    obtain ⟨x,hmk,hgk,hR⟩:=hdL ap iA hk' hR
    have ek:=ek5 k
    have hcI:=nc hcH x
    have hR2:(bk&&(dm x.name&&(x.params.all (fun p=>iR p.name)&&((S.actions.drop (k+1)).all tg&&((S.tables.all rH)&&((S.roles.all fun t=>dm t.name)&&E))))))=R:=by
     rw [← hR];show _=(bk&&((tg x&&_)&&_));unfold tg;rw [Bool.and_assoc,Bool.and_assoc]
    replace hR:=hR2
    clear hR2
    cases bk
    case' false=>simp only [go_sem,hgk,ek];try (repeat with_reducible refine aq ?_)
    case' false=>replace hR:(false&&(x.params.all (fun p=>iR p.name)&&((S.actions.drop (k+1)).all tg&&((S.tables.all rH)&&((S.roles.all fun t=>dm t.name)&&E)))))=R:=by rw [Bool.false_and] at hR ⊢;exact hR
    case' true=>simp only [go_sem,hgk,ek,jo,lv];try (repeat with_reducible refine aq ?_)
    case' true=>refine ⟨(hS.an x hmk).1,?_⟩
    case' true=>try simp only [go_sem,ek]
    case' true=>rw [Bool.true_and] at hR
    case' true=>generalize dm x.name=bq at hR ⊢
    all_goals
     refine lpB x.params (fun p=>iR p.name) (fun j bj=>[(3,.bool bj),(1,.ptr H.nx 0),(47,.slice .any 5 (S.actions.map ap)),(48,.int .i64 (S.actions.length:Int)),(49,.int .i64 (k:Int)),(60,.slice .any 2 (x.params.map aL)),(61,.int .i64 (x.params.length:Int)),(62,.int .i64 (j:Int))]) ((ff H S).push (.cells (iA x))) hR (en5 hcI) ?_
     clear hR
     intro j bj hj hR
     have hbj:=(hS.an x hmk).2.1
     refine Tq15 ?_
     refine csL hj (fun hj'=>?_) fun hj'=>?_
     ·skip
      obtain ⟨y,hmj,hgj,hR⟩:=hdL aL BM hj' hR
      have ej:=ek5 j
      cases bj with
      |false =>
       exact Y96
      |true =>
       simp only [go_sem,hgj,ej,jo,lv]
       refine Tq0 ?_
       refine ⟨(hS.an x hmk).2.2.2 y hmj,?_⟩
       exact Y126
     ·exact Y34
   ·skip
    replace hR:=ndL hk' hR
    subst hk'
    refine Tq28 ?_
    refine lpB S.tables rH (fun k bk=>[(3,.bool bk),(1,.ptr H.nx 0),(75,.slice .any 8 (S.tables.map ax)),(76,.int .i64 (S.tables.length:Int)),(77,.int .i64 (k:Int))]) (ff H S) hR (en5 hcH) ?_
    clear hR
    intro k bk hk hR
    have hbk:=sl.tl
    refine Tq15 ?_
    refine csL hk (fun hk'=>?_) fun hk'=>?_
    ·skip
     obtain ⟨x,hmk,hgk,hR⟩:=hdL ax ip hk' hR
     have ek:=ek5 k
     have hcI:=rI hcH x
     have hR2:(bk&&(dm x.name&&(x.keys.all (fun k=>iR k.name)&&((S.tables.drop (k+1)).all rH&&((S.roles.all fun t=>dm t.name)&&E)))))=R:=by
      rw [← hR];show _=(bk&&((rH x&&_)&&_));unfold rH;rw [Bool.and_assoc,Bool.and_assoc]
     replace hR:=hR2
     clear hR2
     cases bk
     case' false=>simp only [go_sem,hgk,ek];try (repeat with_reducible refine aq ?_)
     case' false=>replace hR:(false&&(x.keys.all (fun k=>iR k.name)&&((S.tables.drop (k+1)).all rH&&((S.roles.all fun t=>dm t.name)&&E))))=R:=by rw [Bool.false_and] at hR ⊢;exact hR
     case' true=>simp only [go_sem,hgk,ek,jo,lv];try (repeat with_reducible refine aq ?_)
     case' true=>refine ⟨(hS.tn x hmk).1,?_⟩
     case' true=>try simp only [go_sem,ek]
     case' true=>rw [Bool.true_and] at hR
     case' true=>generalize dm x.name=bq at hR ⊢
     all_goals
      refine lpB x.keys (fun k=>iR k.name) (fun j bj=>[(3,.bool bj),(1,.ptr H.nx 0),(75,.slice .any 8 (S.tables.map ax)),(76,.int .i64 (S.tables.length:Int)),(77,.int .i64 (k:Int)),(88,.slice .any 3 (x.keys.map ba)),(89,.int .i64 (x.keys.length:Int)),(90,.int .i64 (j:Int))]) ((ff H S).push (.cells (ip x))) hR (en5 hcI) ?_
      clear hR
      intro j bj hj hR
      have hbj:=(hS.tn x hmk).2.1
      refine Tq15 ?_
      refine csL hj (fun hj'=>?_) fun hj'=>?_
      ·skip
       obtain ⟨y,hmj,hgj,hR⟩:=hdL ba Hq hj' hR
       have ej:=ek5 j
       cases bj with
       |false =>
        exact Y96
       |true =>
        simp only [go_sem,hgj,ej,jo,lv]
        refine Tq0 ?_
        refine ⟨(hS.tn x hmk).2.2.2.2 y hmj,?_⟩
        exact Y126
      ·exact Y34
    ·skip
     replace hR:=ndL hk' hR
     subst hk'
     refine Tq28 ?_
     refine lpB S.roles (fun t=>dm t.name) (fun k bk=>[(3,.bool bk),(103,.slice .any 6 (S.roles.map aN)),(104,.int .i64 (S.roles.length:Int)),(105,.int .i64 (k:Int))]) (ff H S) hR (en5 hcH) ?_
     clear hR
     intro k bk hk hR
     have hbk:=sl.rl
     refine Tq15 ?_
     refine csL hk (fun hk'=>?_) fun hk'=>?_
     ·skip
      obtain ⟨x,hmk,hgk,hR⟩:=hdL aN mQ hk' hR
      have ek:=ek5 k
      cases bk with
      |false =>
       exact Y64
      |true =>
       simp only [go_sem,hgk,ek,jo,lv]
       refine Tq0 ?_
       refine ⟨(hS.rn x hmk).1,?_⟩
       exact Y71
     ·skip
      replace hR:=ndL hk' hR
      subst hk'
      refine Tq28 ?_
      exact Y70
theorem Qp {a b:Int}:decide (a > b)=decide (b<a):=rfl
theorem zz {n:Nat}:decide ((n:Int) > 0)=decide (0<n):=by rw [Qp];simp
theorem CX {S:Sch} (h:SLen S):∀ l∈qB S,l.length≤1000000:=by
 intro l hl
 unfold qB at hl
 simp only [List.mem_cons,List.not_mem_nil,or_false] at hl
 have h1:=h.fl;have h2:=h.hl;have h3:=h.sl;have h4:=h.al;have h5:=h.tl;have h6:=h.rl
 rcases hl with rfl|rfl|rfl|rfl|rfl|rfl<;>rw [List.length_map]<;>omega
def eV:PCt
 |[.agg l],_,K=>∃ S:Sch,(l=aR S∧SB S)∧K (.bool (En S))
 |_,_,_=>False
theorem Gg:EPp 41 eV:=by
 refine Ype fun _ H K h=>?_
 unfold eV at h
 split at h<;>try exact h.elim
 rename_i l
 obtain ⟨S,⟨rfl,hS⟩,hK⟩:=h
 refine ⟨_,hK,?_⟩
 clear hK
 obtain ⟨E,hE⟩:∃ E:Bool,E=true:=⟨true,rfl⟩
 generalize hR:En S=R
 unfold En at hR
 have sl:=hS.sl
 have hil:=CX sl
 replace hR:(wB S.maxBatch 1 32&&(wB S.budget 1 200&&(((qB S).all fun l=>l.all fun n=>wB n 1 65534)&&((S.fields.all fun f=>wB f.bits 1 128)&&((S.headers.all fun h=>decide (0<h.fields.length))&&((S.actions.all fun a=>a.params.all fun p=>wB p.bits 1 128)&&((S.tables.all fun t=>wB t.size 1 64&&decide (0<t.keys.length))&&((S.roles.all fun r=>decide (r.quota≤512))&&E))))))))=R:=by rw [← hR,hE];simp only [Bool.and_true]
 refine Yfw aE (tCq yG (tCq nA tNq)) Tryz.func41 [.tmp 2] (nrq _) (T:=aB [(2,[[1]])]) (h:=fun hcl=>?_)
 have hcH:=lm (S:=S) hcl
 unfold aR
 apply iG (α:=Bool) (fun O=>[(1,.ptr H.nx 0),(3,.bool O)]) (fun _=>(ff H S)) (fun O=>(O&&(((qB S).all fun l=>l.all fun n=>wB n 1 65534)&&((S.fields.all fun f=>wB f.bits 1 128)&&((S.headers.all fun h=>decide (0<h.fields.length))&&((S.actions.all fun a=>a.params.all fun p=>wB p.bits 1 128)&&((S.tables.all fun t=>wB t.size 1 64&&decide (0<t.keys.length))&&((S.roles.all fun r=>decide (r.quota≤512))&&E)))))))=R)
 ·intro J
  cases q1:wB S.maxBatch 1 32 with
  |false =>
   simp only [go_sem,cE,cm,dd,q1]
   exact bC J false (by rw [q1,Bool.false_and] at hR;rw [Bool.false_and];exact hR) (en5 hcH)
  |true =>
   cases q2:wB S.budget 1 200 with
   |false =>
    simp only [go_sem,cE,cm,dd,q1,q2]
    exact bC J false (by rw [q1,q2,Bool.true_and] at hR;exact hR) (en5 hcH)
   |true =>
    simp only [go_sem,cE,cm,dd,q1,q2]
    exact bC J true (by rw [q1,q2,Bool.true_and] at hR;exact hR) (en5 hcH)
 clear hR
 intro b0 hR
 dsimp only at hR ⊢
 simp only [go_sem,cE,cm,dd]
 refine ⟨S,⟨rfl,sl⟩,?_⟩
 refine Tq28 ?_
 have hidC:[sI (S.fields.map (·.id)),sI (S.headers.map (·.id)),sI (S.states.map (·.id)),sI (S.actions.map (·.id)),sI (S.tables.map (·.id)),sI (S.roles.map (·.id))]=(qB S).map sI:=rfl
 have hidN:(qB S).length=6:=rfl
 rw [hidC]
 obtain ⟨D,hD⟩:∃ D,qB S=D:=⟨_,rfl⟩
 rw [hD] at hil hR hidN ⊢
 clear hD hidC
 have hLD:∀ n':Nat,ltL n' (D.map sI):=fun n'=>ltL_iff.2 fun j hj=>by rw [List.getElem_map];exact fD
 refine aC (A:=Nat × Bool) (fun a=>[(3,.bool a.2),(1,.ptr H.nx 0),(29,.agg (D.map sI)),(30,.int .i64 (a.1:Int))]) (fun _=>(ff H S))
  (fun a=>a.1≤6∧(a.2&&((D.drop a.1).all (fun l=>l.all fun n=>wB n 1 65534)&&((S.fields.all fun f=>wB f.bits 1 128)&&((S.headers.all fun h=>decide (0<h.fields.length))&&((S.actions.all fun a=>a.params.all fun p=>wB p.bits 1 128)&&((S.tables.all fun t=>wB t.size 1 64&&decide (0<t.keys.length))&&((S.roles.all fun r=>decide (r.quota≤512))&&E)))))))=R) (fun a=>6 - a.1) (0,_) ⟨Nat.zero_le _,hR⟩ ?_ fun a ha=>?_
 ·skip
  exact Y99
 clear hR
 obtain ⟨k,bk⟩:=a
 obtain ⟨hk,hR⟩:=ha
 dsimp only at hk hR ⊢
 refine Tq15 ?_
 refine au (fun hc=>?_) (fun hc=>?_)
 ·skip
  have hk':k<6:=sHc
  clear hc
  obtain ⟨x,hxk⟩:∃ z0,z0=D[k]:=⟨_,rfl⟩
  have hdk:D.drop k=x::D.drop (k+1):=by rw [hxk];exact dcq (by omega)
  have hmk:x∈D:=by rw [hxk];exact gMq (by omega)
  have hgk:=aV (f:=sI) (l:=D) (k:=k) (x:=x) (by rw [gQq (by omega),hxk])
  rw [show sI x=.slice .any 1 (inL x) from rfl] at hgk
  have ek:IntKind.i64.wrap ((k:Int)+1)=((k+1:Nat):Int):=by rw [wrap_i64]<;>omega
  rw [hdk,List.all_cons,Bool.and_assoc] at hR
  clear hxk hdk
  have hln:(inL x).length=x.length:=by unfold inL;rw [List.length_map]
  simp only [go_sem,hgk,ek,hidN,hln]
  refine Tq0 ?_
  refine lpB x (fun n=>wB n 1 65534) (fun j bj=>[(3,.bool bj),(1,.ptr H.nx 0),(29,.agg (D.map sI)),(30,.int .i64 (k:Int)),(33,.slice .any 1 (inL x)),(34,.int .i64 (x.length:Int)),(35,.int .i64 (j:Int))]) (ff H S) hR (en5 hcH (d:=by (simp [ltF,zle,znn,znf,zng,aa gD,aa fA,aa ey,aa iU,aa iC,aa fH,aa eP,aa j3,aa cS,aa gX,aa fV,aa gM,aa iJ,kS,fD,znr,hLD];try omega))) ?_
  clear hR
  intro j bj hj hR
  have hbj:=hil x hmk
  simp only [go_sem,inL]
  refine csL hj (fun hj'=>?_) fun hj'=>?_
  ·skip
   obtain ⟨y,hmj,hgj,hR⟩:=hdI hj' hR
   have ej:=ek5 j
   replace hR:=af (E:=wB y 1 65534) hR
   cases bj with
   |false =>
    try simp only [go_sem,hgj,ej,cE,cm,dd]
    refine Tq0 ?_
    replace hR:=lff hR
    exact Y81
   |true =>
    cases cj0:(wB y 1 65534) with
    |false =>
     refine Tq78 ?_
     refine Tq0 ?_
     replace hR:=lf false hR (by simp only [cj0,tfC])
     exact Y81
    |true =>
     refine Tq78 ?_
     refine Tq0 ?_
     replace hR:=lf true hR (by simp only [cj0,tfC])
     exact ⟨(j+1,true),⟨om5,hR⟩,om5,en5 hcH (d:=by (simp [ltF,zle,znn,znf,zng,aa gD,aa fA,aa ey,aa iU,aa iC,aa fH,aa eP,aa j3,aa cS,aa gX,aa fV,aa gM,aa iJ,kS,fD,znr,hLD];try omega))⟩
  ·skip
   replace hR:=ndL hj' hR
   subst hj'
   try simp only [go_sem,ek]
   refine ⟨(k+1,bj),⟨by dsimp only;omega,hR⟩,by dsimp only;omega,?_⟩
   exact Y99
 ·skip
  have hk':k=6:=sHc
  clear hc
  rw [show D.drop k=[] by rw [List.drop_eq_nil_iff];omega,List.all_nil,Bool.true_and] at hR
  refine Tq28 ?_
  refine lpB S.fields (fun f=>wB f.bits 1 128) (fun k bk=>[(3,.bool bk),(1,.ptr H.nx 0),(47,.slice .any 3 (S.fields.map aG)),(48,.int .i64 (S.fields.length:Int)),(49,.int .i64 (k:Int))]) (ff H S) hR (en5 hcH) ?_
  clear hR
  intro k bk hk hR
  have hbk:=sl.fl
  refine Tq15 ?_
  refine csL hk (fun hk'=>?_) fun hk'=>?_
  ·skip
   obtain ⟨x,hmk,hgk,hR⟩:=hdL aG AO hk' hR
   have ek:=ek5 k
   replace hR:=af (E:=wB x.bits 1 128) hR
   cases bk with
   |false =>
    try simp only [go_sem,hgk,ek,cE,cm,dd]
    exact Y23
   |true =>
    cases ck0:(wB x.bits 1 128) with
    |false =>
     refine Tq50 ?_
     refine Tq0 ?_
     replace hR:=lf false hR (by simp only [ck0,tfC])
     exact Y26
    |true =>
     refine Tq50 ?_
     refine Tq0 ?_
     replace hR:=lf true hR (by simp only [ck0,tfC])
     exact Y43
  ·skip
   replace hR:=ndL hk' hR
   subst hk'
   refine Tq28 ?_
   refine lpB S.headers (fun h=>decide (0<h.fields.length)) (fun k bk=>[(3,.bool bk),(1,.ptr H.nx 0),(61,.slice .any 3 (S.headers.map az)),(62,.int .i64 (S.headers.length:Int)),(63,.int .i64 (k:Int))]) (ff H S) hR (en5 hcH) ?_
   clear hR
   intro k bk hk hR
   have hbk:=sl.hl
   refine Tq15 ?_
   refine csL hk (fun hk'=>?_) fun hk'=>?_
   ·skip
    obtain ⟨x,hmk,hgk,hR⟩:=hdL az mR hk' hR
    have ek:=ek5 k
    replace hR:=af (E:=decide (0<x.fields.length)) hR
    cases bk with
    |false =>
     try simp only [go_sem,hgk,ek,cE,cm,dd,inL]
     exact Y23
    |true =>
     obtain ⟨qck0,ck0⟩:∃ q:Bool,(decide (0<x.fields.length))=q:=⟨_,rfl⟩
     have dck0:(decide ((x.fields.length:Int) > 0))=qck0:=(show (decide ((x.fields.length:Int) > 0))=(decide (0<x.fields.length)) from zz).trans ck0
     cases qck0 with
     |false =>
      try simp only [go_sem,hgk,ek,cE,cm,dd,inL,ck0,dck0]
      refine Tq0 ?_
      replace hR:=lf false hR (by simp only [ck0,dck0,tfC])
      exact Y26
     |true =>
      try simp only [go_sem,hgk,ek,cE,cm,dd,inL,ck0,dck0]
      refine Tq0 ?_
      replace hR:=lf true hR (by simp only [ck0,dck0,tfC])
      exact Y43
   ·skip
    replace hR:=ndL hk' hR
    subst hk'
    refine Tq28 ?_
    refine lpB S.actions (fun a=>a.params.all fun p=>wB p.bits 1 128) (fun k bk=>[(3,.bool bk),(1,.ptr H.nx 0),(76,.slice .any 5 (S.actions.map ap)),(77,.int .i64 (S.actions.length:Int)),(78,.int .i64 (k:Int))]) (ff H S) hR (en5 hcH) ?_
    clear hR
    intro k bk hk hR
    have hbk:=sl.al
    refine Tq15 ?_
    refine csL hk (fun hk'=>?_) fun hk'=>?_
    ·skip
     obtain ⟨x,hmk,hgk,hR⟩:=hdL ap iA hk' hR
     have ek:=ek5 k
     have hcI:=nc hcH x
     rw [Bool.and_assoc] at hR
     refine Tq45 ?_
     refine Tq0 ?_
     refine lpB x.params (fun p=>wB p.bits 1 128) (fun j bj=>[(3,.bool bj),(1,.ptr H.nx 0),(76,.slice .any 5 (S.actions.map ap)),(77,.int .i64 (S.actions.length:Int)),(78,.int .i64 (k:Int)),(83,.slice .any 2 (x.params.map aL)),(84,.int .i64 (x.params.length:Int)),(85,.int .i64 (j:Int))]) ((ff H S).push (.cells (iA x))) hR (en5 hcI) ?_
     clear hR
     intro j bj hj hR
     have hbj:=(hS.an x hmk).2.1
     refine Tq15 ?_
     refine csL hj (fun hj'=>?_) fun hj'=>?_
     ·skip
      obtain ⟨y,hmj,hgj,hR⟩:=hdL aL BM hj' hR
      have ej:=ek5 j
      replace hR:=af (E:=wB y.bits 1 128) hR
      cases bj with
      |false =>
       try simp only [go_sem,hgj,ej,cE,cm,dd]
       exact Y24
      |true =>
       cases cj0:(wB y.bits 1 128) with
       |false =>
        refine Tq78 ?_
        refine Tq0 ?_
        replace hR:=lf false hR (by simp only [cj0,tfC])
        exact Y25
       |true =>
        refine Tq78 ?_
        refine Tq0 ?_
        replace hR:=lf true hR (by simp only [cj0,tfC])
        exact Y41
     ·exact Y34
    ·skip
     replace hR:=ndL hk' hR
     subst hk'
     refine Tq28 ?_
     refine lpB S.tables (fun t=>wB t.size 1 64&&decide (0<t.keys.length)) (fun k bk=>[(3,.bool bk),(1,.ptr H.nx 0),(98,.slice .any 8 (S.tables.map ax)),(99,.int .i64 (S.tables.length:Int)),(100,.int .i64 (k:Int))]) (ff H S) hR (en5 hcH) ?_
     clear hR
     intro k bk hk hR
     have hbk:=sl.tl
     refine Tq15 ?_
     refine csL hk (fun hk'=>?_) fun hk'=>?_
     ·skip
      obtain ⟨x,hmk,hgk,hR⟩:=hdL ax ip hk' hR
      have ek:=ek5 k
      replace hR:=af (E:=wB x.size 1 64&&decide (0<x.keys.length)) hR
      cases bk with
      |false =>
       try simp only [go_sem,hgk,ek,cE,cm,dd]
       exact Y23
      |true =>
       cases ck0:(wB x.size 1 64) with
       |false =>
        refine Tq50 ?_
        refine Tq0 ?_
        replace hR:=lf false hR (by simp only [ck0,tfC])
        exact Y26
       |true =>
        obtain ⟨qck1,ck1⟩:∃ q:Bool,(decide (0<x.keys.length))=q:=⟨_,rfl⟩
        have dck1:(decide ((x.keys.length:Int) > 0))=qck1:=(show (decide ((x.keys.length:Int) > 0))=(decide (0<x.keys.length)) from zz).trans ck1
        cases qck1 with
        |false =>
         try simp only [go_sem,hgk,ek,cE,cm,dd,ck0,ck1,dck1]
         refine Tq0 ?_
         replace hR:=lf false hR (by simp only [ck0,ck1,dck1,tfC])
         exact Y26
        |true =>
         try simp only [go_sem,hgk,ek,cE,cm,dd,ck0,ck1,dck1]
         refine Tq0 ?_
         replace hR:=lf true hR (by simp only [ck0,ck1,dck1,tfC])
         exact Y43
     ·skip
      replace hR:=ndL hk' hR
      subst hk'
      refine Tq28 ?_
      refine lpB S.roles (fun r=>decide (r.quota≤512)) (fun k bk=>[(3,.bool bk),(118,.slice .any 6 (S.roles.map aN)),(119,.int .i64 (S.roles.length:Int)),(120,.int .i64 (k:Int))]) (ff H S) hR (en5 hcH) ?_
      clear hR
      intro k bk hk hR
      have hbk:=sl.rl
      refine Tq15 ?_
      refine csL hk (fun hk'=>?_) fun hk'=>?_
      ·skip
       obtain ⟨x,hmk,hgk,hR⟩:=hdL aN mQ hk' hR
       have ek:=ek5 k
       replace hR:=af (E:=decide (x.quota≤512)) hR
       cases bk with
       |false =>
        try simp only [go_sem,hgk,ek,cE,cm,dd]
        exact Y23
       |true =>
        cases ck0:(decide (x.quota≤512)) with
        |false =>
         refine Tq50 ?_
         refine Tq0 ?_
         replace hR:=lf false hR (by simp only [ck0,tfC])
         exact Y26
        |true =>
         refine Tq50 ?_
         refine Tq0 ?_
         replace hR:=lf true hR (by simp only [ck0,tfC])
         exact Y43
      ·skip
       replace hR:=ndL hk' hR
       subst hk'
       refine Tq28 ?_
       exact Y70
def JF:SRef:=⟨1,0,4,0,1,0⟩
def sb04:Sch:={ (gL [] 0).1 with refs:=[JF] }
theorem Oh:x6 sb04=8:=by decide +kernel
theorem QN:ixP (fun t:STable=>t.id==4) sb04.tables 0=3:=by decide +kernel
theorem N5:ixP (fun t:STable=>t.id==9) sb04.tables 0 = -1:=by decide +kernel
theorem sm_b04:SmP 40 1000 sb04:=by
 have h:=tT [] 0
 exact ⟨h.f,h.h,h.s,h.a,h.t,h.g,h.r,by simp [sb04]⟩
def sc:PCt
 |[],_,K=>K (.bool true)
 |_,_,_=>False
theorem BC:EPp 8 sc:=by
 refine Ype fun _ H K h=>?_
 unfold sc at h
 split at h<;>try exact h.elim
 refine ⟨_,h,?_⟩
 clear h
 have h1:=Oh
 have h2:=QN
 have h3:=N5
 have h4:=sm_b04.ok
 have h5:=(sm_b04.mono (N':=50) (R':=1100000) (by decide) (by decide)).len
 have h6:sb04.tables.length≤1000000:=by have:=sm_b04.t.1;omega
 obtain ⟨S,hS⟩:∃ S,(gL [] 0).1=S:=⟨_,rfl⟩
 have hsb:sb04={ S with refs:=[JF] }:=by rw [← hS];rfl
 have hsC:aR sb04=[.slice .any 3 (S.fields.map aG),.slice .any 3 (S.headers.map az),.slice .any 5 (S.states.map aA),.slice .any 5 (S.actions.map ap),.slice .any 8 (S.tables.map ax),.slice .any 2 (S.stages.map aO),.slice .any 6 (S.roles.map aN),.slice .any 6 [a9 JF],.int .i64 S.maxBatch,.int .i64 S.budget]:=by rw [hsb];rfl
 clear hsb
 generalize sb04=S2 at *
 refine Yfw aE (tCq Dh (tCq uS (tCq Ow (tCq gO tNq)))) Tryz.func8 [.tmp 0] (nrq _) (T:=aB [(2,[[3]]),(3,[[1]])]) (h:=fun hcl=>?_)
 have hze:zod ([]:List UInt8) 0=gI [] (cp 0 0):=wd
 have hS':eE (gL [] 0).1=.agg (aR S):=by rw [hS];rfl
 simp only [go_sem,vE]
 refine ⟨[],⟨rfl,by omega⟩,?_⟩
 simp only [go_sem,vE,pF,eG,List.take_nil,hze,cY (b:=[]) (by decide),List.length_nil,Nat.min_zero,hS',aR]
 refine gT (H.nx+1) (cs:=[.slice .any 3 (S.fields.map aG),.slice .any 3 (S.headers.map az),.slice .any 5 (S.states.map aA),.slice .any 5 (S.actions.map ap),.slice .any 8 (S.tables.map ax),.slice .any 2 (S.stages.map aO),.slice .any 6 (S.roles.map aN),.slice .full 6 [.agg [.int .i64 1,.int .i64 0,.int .i64 4,.int .i64 0,.int .i64 1,.int .i64 0]],.int .i64 S.maxBatch,.int .i64 S.budget]) [.slice .any 3 (S.fields.map aG),.slice .any 3 (S.headers.map az),.slice .any 5 (S.states.map aA),.slice .any 5 (S.actions.map ap),.slice .any 8 (S.tables.map ax),.slice .any 2 (S.stages.map aO),.slice .any 6 (S.roles.map aN),.slice .any 6 [a9 JF],.int .i64 S.maxBatch,.int .i64 S.budget] (by simp only [go_sem]) ?_ ?_
 ·simp only [dO,eI,po,true_and,and_true]
  rw [dN]
  exact .inl ⟨by simp [wkM],rfl,by simp [JF,a9,iE,eM,wkDL_same]⟩
 have d1:((8:Int)==8)=true:=rfl
 have d2:((3:Int)==3)=true:=rfl
 have d3:((-1:Int) == -1)=true:=rfl
 simp only [go_sem,Av]
 refine ⟨S2,⟨hsC.symm,h4,h5⟩,?_⟩
 rw [h1]
 simp only [go_sem,d1,d9]
 refine ⟨S2,⟨hsC.symm,h6⟩,?_⟩
 rw [h2]
 simp only [go_sem,d2,d9]
 refine ⟨S2,⟨hsC.symm,h6⟩,?_⟩
 rw [h3]
 simp only [go_sem,d3]
 exact Y52
end Go.AL
