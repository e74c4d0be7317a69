/- Lemmas of the proof; no condition. -/
import Derived.Test.YtjnhidpnfdbmaaaGreatS12j
import Derived.Test.YtjnhidpnfdbmaaaGreatS12b
import Derived.Test.YtjnhidpnfdbmaaaGreatS11g
import Derived.Test.YtjnhidpnfdbmaaaGreatS12g
set_option linter.all false
set_option maxRecDepth 10000
set_option maxHeartbeats 32000000
open List renaming length_cons → yaz, length_nil → yba, take_of_length_le → ybc, drop_append → ybd, take_append → ybe, drop_eq_nil_of_le → ybf, length_map → ybb, take_succ_cons → yaq, take_zero → yar, drop_succ_cons → yao, drop_zero → yap, cons_append → yal, nil_append → yak, map_nil → yaf
open Option renaming isSome_none → yax, isSome_some → yaw
open Go Go.AL Go.Proofs
namespace Go.AL
def gL (S:Sch) (id:Int):Option SRole:=S.roles.find? fun r=>r.id==id
def eT:SGrant:=⟨0,false,false,[]⟩
def grF (S:Sch) (role t:Int):Option SGrant:=match gL S role with
 |none=>none
 |some r=>r.grants.find? fun g=>g.table==t
def tn (S:Sch) (role a:Int):Bool:=match gL S role with
 |none=>false
 |some r=>r.actions.contains a
def x7 (S:Sch) (role t:Int):Bool:=match grF S role t with
 |none=>false
 |some g=>g.read
structure SRol (S:Sch):Prop where
 sl:SLen S
 gl:∀ r∈S.roles,r.grants.length≤1000000∧r.actions.length≤1000000∧∀ g∈r.grants,g.keys.length≤1000000
theorem Fl {S:Sch} {role t:Int} {g:SGrant} (h:grF S role t=some g):∃ r,gL S role=some r∧r∈S.roles∧g∈r.grants∧g.table=t:=by
 unfold grF at h
 cases hr:gL S role with
 |none=>rw [hr] at h;cases h
 |some r =>
  rw [hr] at h
  dsimp only at h
  refine ⟨r,rfl,List.mem_of_find?_eq_some hr,List.mem_of_find?_eq_some h,?_⟩
  have:=List.find?_some h
  simpa using this
theorem IB {n:Nat} (r:SRole):ltL n [.int .i64 r.id,.str r.name,.slice .any 4 (r.grants.map bb),.slice .any 1 (inL r.actions),.int .i64 r.quota,.bool r.audit]:=by
 have:=nz (n:=n) r
 unfold bX at this
 rwa [znr] at this
theorem HT {n:Nat} (g:SGrant):ltL n [.int .i64 g.table,.bool g.read,.bool g.write,.slice .any 1 (boL g.keys)]:=by
 have:=jD (n:=n) g
 unfold bb at this
 rwa [znr] at this
def oV:List AV→AHeap→(AV→Prop)→Prop
 |[.agg l,.int .i64 role,.int .i64 t],_,K=>∃ S:Sch,(l=aW S∧SRol S)∧K (.tup [bb ((grF S role t).getD eT),.bool (grF S role t).isSome])
 |_,_,_=>False
theorem D8:EntOk Tryz.prog 24 (Ent.pure oV):=by
 refine Ype fun _ H K h=>?_
 unfold oV at h
 split at h
 rotate_left
 ·exact h.elim
 rename_i l role t
 obtain ⟨S,⟨rfl,hS⟩,hK⟩:=h
 refine ⟨_,hK,?_⟩
 clear hK
 generalize hR:grF S role t=R
 unfold grF gL at hR
 refine ACalls.fW au (tCq ur tNq) Tryz.func24 [.cell 6 69,.tmp 7] (nrq _) (T:=aq []) (h:=fun hcl hlt=>?_)
 clear hlt
 simp only [go_sem,aW,ne]
 refine ⟨S,⟨rfl,hS.sl⟩,?_⟩
 rcases gg (q:=fun r:SRole=>r.id==role) (l:=S.roles) with ⟨b1,b2⟩|⟨i,r,b1,hil,b3,b2,_⟩
 ·rw [b2] at hR
  dsimp only at hR
  subst hR
  rw [b1]
  have d:decide ((-1:Int)<0)=true:=rfl
  simp only [aH,go_sem,d]
  exact Z29
 rw [b2] at hR
 dsimp only at hR
 rw [b1]
 have d:decide ((i:Int)<0)=false:=by simp
 have hg':=aU (f:=bX) (l:=S.roles) (k:=i) (x:=r) b3
 have hgl:=(hS.gl r (List.mem_of_getElem? b3)).1
 have hclG:=aa (cs:=[.int .i64 0,.bool false,.bool false,.slice .nil 1 []]) (aa hcl (wH S)) (by simp [znu,znv,znf,zng,aF])
 simp only [aH,go_sem,d,iNq,hg',bX,ybb]
 (repeat with_reducible refine Yq ?_)
 refine az (A:=Nat) (fun k=>[(2,.int .i64 t),(6,.ptr (H.nx+1) 0),(22,.slice .any 4 (r.grants.map bb)),(23,.int .i64 (r.grants.length:Int)),(24,.int .i64 (k:Int))]) (fun _=>(H.push (.cells [.slice .any 3 (S.fields.map cn),.slice .any 3 (S.headers.map iT),.slice .any 5 (S.states.map dU),.slice .any 5 (S.actions.map bg),.slice .any 8 (S.tables.map ba),.slice .any 2 (S.stages.map lF),.slice .any 6 (S.roles.map bX),.slice .any 6 (S.refs.map sZ),.int .i64 S.maxBatch,.int .i64 S.budget])).push (.cells [.int .i64 0,.bool false,.bool false,.slice .nil 1 []]))
  (fun k=>k≤r.grants.length∧(r.grants.drop k).find? (fun g=>g.table==t)=R) (fun k=>r.grants.length - k) 0 ⟨Nat.zero_le _,hR⟩ ?_ fun k hk=>?_
 ·refine ⟨by (try simp only [zkq,zkv,zle]);omega,by repeat first|exact .refl _|refine .push ?_ _,hclG,?_,?_⟩
  ·simp [ltF,zle,znn,znf,a8 jD]
   try omega
  ·simp [aJ,wk2,wk1,wkM,Fr.get]
 clear hR
 obtain ⟨hk,hR⟩:=hk
 simp only [go_sem]
 refine ai (fun hc=>?_) (fun hc=>?_)
 ·have hk':k<r.grants.length:=by simp at hc;omega
  obtain ⟨g,hx⟩:∃ g,g=r.grants[k]:=⟨_,rfl⟩
  have hd:r.grants.drop k=g::r.grants.drop (k+1):=by rw [hx];exact dcq hk'
  have hgx:=aU (f:=bb) (l:=r.grants) (k:=k) (x:=g) (by rw [gQq hk',hx])
  have e5:=Yk5 k
  rw [hd,List.find?_cons] at hR
  simp only [aZ,aH,bhq,Nat.reduceMod,Nat.reduceDiv,aC,aB,aE,aS,aD,aR,aO,aP,aQ,yaq,yar,yao,yap,go_sem,iNq,hgx,bb,ybb]
  try (repeat with_reducible refine Yq ?_)
  refine ai (fun hq=>?_) (fun hq=>?_)
  ·rw [hq] at hR
   subst hR
   simp only [go_sem]
   exact Z30
  ·rw [hq] at hR
   simp only [go_sem,e5]
   refine ⟨k+1,⟨by omega,hR⟩,by omega,?_⟩
   refine ⟨by (try simp only [zkq,zkv,zle]);omega,by repeat first|exact .refl _|refine .push ?_ _,hclG,?_,?_⟩
   ·simp [ltF,zle,znn,znf,a8 jD]
    try omega
   ·simp [aJ,wk2,wk1,wkM,Fr.get]
 ·have hk':k=r.grants.length:=by simp at hc;omega
  subst hk'
  rw [List.drop_length] at hR
  subst hR
  simp only [go_sem]
  exact Z29
def vL:List AV→AHeap→(AV→Prop)→Prop
 |[x,.ptr c 0],H,K=>∃ g n,(x=bb g∧H.get c=some (.cells [.int .i64 n]))∧K (.bool (g.table==n))
 |_,_,_=>False
theorem Be:EntOk Tryz.prog 66 (Ent.pure vL):=by
 refine Ype fun _ H K h=>?_
 unfold vL at h
 split at h
 rotate_left
 ·exact h.elim
 rename_i x c
 obtain ⟨g,n,⟨rfl,hg⟩,hK⟩:=h
 refine ⟨_,hK,?_⟩
 clear hK
 unfold bb
 refine ACalls.fW au tNq Tryz.func66 [.tmp 3] (nrq _) (T:=aq []) (h:=fun hcl hlt=>?_)
 clear hlt
 have hcs:=ax hg
 have hl:=glq hg
 have hne:(c=H.nx)=False:=eq_false (by omega)
 simp only [go_sem,hcs,hne]
 (repeat with_reducible refine Yq ?_)
 exact Z0
def iC:List AV→AHeap→(AV→Prop)→Prop
 |[.agg l,.int .i64 role,.int .i64 t],_,K=>∃ S:Sch,(l=aW S∧SRol S)∧K (.tup [bb ((grF S role t).getD eT),.bool (grF S role t).isSome])
 |_,_,_=>False
theorem jW:EntOk Tryz.prog 33 (Ent.pure iC):=by
 refine Ype fun _ H K h=>?_
 unfold iC at h
 split at h
 rotate_left
 ·exact h.elim
 rename_i l role t
 obtain ⟨S,⟨rfl,hS⟩,hK⟩:=h
 refine ⟨_,hK,?_⟩
 clear hK
 generalize hR:grF S role t=R
 unfold grF gL at hR
 refine ACalls.fW au (tCq oF (tCq Fv tNq)) Tryz.func33 [.cell 6 69,.tmp 7] (nrq _) (T:=aq []) (h:=fun hcl hlt=>?_)
 clear hlt
 simp only [go_sem,aW,kP]
 refine ⟨S,⟨rfl,hS.sl.rl⟩,?_⟩
 rcases gg (q:=fun r:SRole=>r.id==role) (l:=S.roles) with ⟨b1,b2⟩|⟨i,r,b1,hil,b3,b2,_⟩
 ·rw [b2] at hR
  dsimp only at hR
  subst hR
  rw [b1]
  have d:decide ((-1:Int)<0)=true:=rfl
  simp only [aH,go_sem,d]
  exact Z29
 rw [b2] at hR
 dsimp only at hR
 rw [b1]
 have d:decide ((i:Int)<0)=false:=by simp
 have hg':=aU (f:=bX) (l:=S.roles) (k:=i) (x:=r) b3
 have hgl:=(hS.gl r (List.mem_of_getElem? b3)).1
 simp only [aH,go_sem,d,iNq,hg',bX,ybb]
 (repeat with_reducible refine Yq ?_)
 refine ⟨r.grants,fun g=>g.table==t,⟨rfl,hgl,fun g hgm=>?_⟩,?_⟩
 ·exact clB Be ⟨g,t,⟨rfl,by simp only [go_sem]⟩,rfl⟩
 rcases gg (q:=fun g:SGrant=>g.table==t) (l:=r.grants) with ⟨c1,c2⟩|⟨j,g,c1,hjl,c3,c2,_⟩
 ·rw [c2] at hR
  subst hR
  rw [c1]
  have d:decide ((-1:Int)<0)=true:=rfl
  simp only [aH,go_sem,d]
  exact Z29
 rw [c2] at hR
 subst hR
 rw [c1]
 have d2:decide ((j:Int)<0)=false:=by simp
 have hgx:=aU (f:=bb) (l:=r.grants) (k:=j) (x:=g) c3
 simp only [aH,go_sem,d2,iNq,hg',hgx,bX,bb,ybb]
 (repeat with_reducible refine Yq ?_)
 exact Z30
def ss:List AV→AHeap→(AV→Prop)→Prop
 |[.agg l,.int .i64 role,.int .i64 a],_,K=>∃ S:Sch,(l=aW S∧SRol S)∧K (.bool (tn S role a))
 |_,_,_=>False
theorem yC:EntOk Tryz.prog 45 (Ent.pure ss):=by
 refine Ype fun _ H K h=>?_
 unfold ss at h
 split at h
 rotate_left
 ·exact h.elim
 rename_i l role a
 obtain ⟨S,⟨rfl,hS⟩,hK⟩:=h
 refine ⟨_,hK,?_⟩
 clear hK
 generalize hR:tn S role a=R
 unfold tn gL at hR
 refine ACalls.fW au (tCq oF (tCq wP tNq)) Tryz.func45 [.tmp 6] (nrq _) (T:=aq []) (h:=fun hcl hlt=>?_)
 clear hlt
 simp only [go_sem,aW,kP]
 refine ⟨S,⟨rfl,hS.sl.rl⟩,?_⟩
 rcases gg (q:=fun r:SRole=>r.id==role) (l:=S.roles) with ⟨b1,b2⟩|⟨i,r,b1,hil,b3,b2,_⟩
 ·rw [b2] at hR
  dsimp only at hR
  subst hR
  rw [b1]
  have d:decide ((-1:Int) ≥ 0)=false:=rfl
  simp only [aH,go_sem,d]
  exact Z0
 rw [b2] at hR
 dsimp only at hR
 rw [b1]
 have d:decide ((i:Int) ≥ 0)=true:=by simp
 have hg':=aU (f:=bX) (l:=S.roles) (k:=i) (x:=r) b3
 have hgl:=(hS.gl r (List.mem_of_getElem? b3)).2.1
 simp only [aH,go_sem,d,iNq,hg',bX,ybb,tJ]
 try (repeat with_reducible refine Yq ?_)
 refine ⟨r.actions,⟨rfl,hgl⟩,?_⟩
 rw [hR]
 try simp only [aH,go_sem]
 exact Z0
def n9 (l:List Bool) (k:Nat):Bool:=l.getD k false
def lm:List AV→AHeap→(AV→Prop)→Prop
 |[.agg l,.int .i64 n],_,K=>∃ (g:SGrant) (k:Nat),(.agg l=bb g∧n=(k:Int))∧K (.bool (n9 g.keys k))
 |_,_,_=>False
theorem rF:EntOk Tryz.prog 35 (Ent.pure lm):=by
 refine Ype fun _ H K h=>?_
 unfold lm at h
 split at h
 rotate_left
 ·exact h.elim
 rename_i l n
 obtain ⟨g,k,⟨hl,rfl⟩,hK⟩:=h
 refine ⟨_,hK,?_⟩
 clear hK
 unfold bb at hl
 cases hl
 generalize hR:n9 g.keys k=R
 unfold n9 at hR
 rw [gEq] at hR
 refine ACalls.fW au tNq Tryz.func35 [.tmp 4] (nrq _) (T:=aq []) (h:=fun hcl hlt=>?_)
 clear hlt
 rcases Nat.lt_or_ge k g.keys.length with h1|h1
 ·obtain ⟨b,hb⟩:∃ b,g.keys[k]=b:=⟨_,rfl⟩
  rw [gQq h1,hb] at hR
  have hR':b=R:=hR
  subst hR'
  have hg':(boL g.keys).getD k .junk=.bool b:=aU (f:=AV.bool) (l:=g.keys) (k:=k) (x:=b) (by rw [gQq h1,hb])
  have d:decide ((k:Int)<(g.keys.length:Int))=true:=dtq (by omega)
  have hbl:(boL g.keys).length=g.keys.length:=by simp [boL]
  simp only [go_sem,d,hbl,hg',iNq]
  try (repeat with_reducible refine Yq ?_)
  exact Z0
 ·rw [gNq h1] at hR
  have hR':false=R:=hR
  subst hR'
  have d:decide ((k:Int)<(g.keys.length:Int))=false:=dfq (by omega)
  have hbl:(boL g.keys).length=g.keys.length:=by simp [boL]
  simp only [go_sem,d,hbl]
  try (repeat with_reducible refine Yq ?_)
  exact Z0
def ka:List AV→AHeap→(AV→Prop)→Prop
 |[.agg l,.int .i64 role,.int .i64 t],_,K=>∃ S:Sch,(l=aW S∧SRol S)∧K (.bool (x7 S role t))
 |_,_,_=>False
theorem wI:EntOk Tryz.prog 14 (Ent.pure ka):=by
 refine Ype fun _ H K h=>?_
 unfold ka at h
 split at h
 rotate_left
 ·exact h.elim
 rename_i l role t
 obtain ⟨S,⟨rfl,hS⟩,hK⟩:=h
 refine ⟨_,hK,?_⟩
 clear hK
 generalize hR:x7 S role t=R
 unfold x7 at hR
 refine ACalls.fW au (tCq jW tNq) Tryz.func14 [.tmp 6] (nrq _) (T:=aq []) (h:=fun hcl hlt=>?_)
 clear hlt
 simp only [go_sem,aW,iC]
 refine ⟨S,⟨rfl,hS⟩,?_⟩
 generalize grF S role t=o at *
 cases o with
 |none =>
  dsimp only at hR
  subst hR
  simp only [aH,go_sem,Option.getD_none,yax,bb,eT]
  exact Z0
 |some g =>
  dsimp only at hR
  subst hR
  simp only [aH,go_sem,Option.getD_some,yaw,bb]
  exact Z0
theorem Ik:ti Tryz.prog 130=some ⟨.slice 94,1,24,.slice .nil 1 []⟩:=by kernel_rfl
theorem LM:ti Tryz.prog 94=some ⟨.func,1,8,.nilf⟩:=by kernel_rfl
theorem Iw:ti Tryz.prog 53=some ⟨.func,1,8,.nilf⟩:=by kernel_rfl
attribute [go_sem] Ik LM Iw
def qR (S:Sch) (role t:Int):Bool:=match grF S role t with
 |none=>false
 |some g=>g.write
def sR (ks:List Bool):List SMatch→Nat→Bool
 |[],_=>true
 |m::ms,k=>(!m.present||n9 ks k)&&sR ks ms (k+1)
def qJ (S:Sch) (role:Int) (e:SEntry):Bool:=sR ((grF S role e.table).getD eT).keys e.ms 0
def Cp (S:Sch) (e:SEntry):Bool:=match jT S e.table with
 |none=>false
 |some t=>t.actions.contains e.act
def orE (b:Bool) (e:Int):Int:=if b then 0 else e
def zw (S:Sch) (role:Int) (e:SEntry):List Int:=[orE (gL S role).isSome 21,orE (jT S e.table).isSome 6,orE (qR S role e.table) 21,gH S e,orE (qJ S role e) 21]
noncomputable def LF (S:Sch) (role:Int) (e:SEntry):List Int:=[orE (Cp S e) 6,orE (tn S role e.act) 21,jz S e,orE (Dc S e) 15]
noncomputable def xY (S:Sch) (role kind:Int) (e:SEntry):Int :=
 if cZ (zw S role e)=0 then (if kind=3 then (if e.act=0∧e.args=[] then 0 else 13) else cZ (LF S role e)) else cZ (zw S role e)
structure SPer (S:Sch):Prop where
 al:SAll S
 rl:SRol S
def MU (P:Program) (H:AHeap) (x:AV) (e:Int):Prop:=∃ (F:FuncId) (a b:Nat),(F=67∨F=40∨F=46)∧x=.func (.func F) [] [.ptr a 0,.ptr b 0]∧ACalls P F [.ptr a 0,.ptr b 0] H (.ret (.int .i64 e)) H
def FnsOk (P:Program) (H:AHeap):List AV→List Int→Prop
 |[],[]=>True
 |x::l,e::es=>MU P H x e∧FnsOk P H l es
 |_,_=>False
theorem FnsOk.len {P:Program} {H:AHeap}:∀ {l:List AV} {es:List Int},FnsOk P H l es→l.length=es.length
 |[],[],_=>rfl
 |x::l,e::es,h=>by rw [yaz,yaz,FnsOk.len h.2]
 |[],_::_,h=>h.elim
 |_::_,[],h=>h.elim
theorem FnsOk.get {P:Program} {H:AHeap}:∀ {l:List AV} {es:List Int} {k:Nat},FnsOk P H l es→(hk:k<es.length)→MU P H (l.getD k .junk) es[k]
 |[],[],k,_,hk=>absurd hk (Nat.not_lt_zero k)
 |x::l,e::es,0,h,_=>h.1
 |x::l,e::es,k+1,h,hk=>FnsOk.get (l:=l) h.2 (by simpa using hk)
 |[],_::_,_,h,_=>h.elim
 |_::_,[],_,h,_=>h.elim
def p6:List AV→AHeap→(AV→Prop)→Prop
 |[.slice _ 1 l],H,K=>∃ es:List Int,(FnsOk Tryz.prog H l es∧es.length≤1000)∧K (.int .i64 (cZ es))
 |_,_,_=>False
theorem Er:EntOk Tryz.prog 36 (Ent.pure p6):=by
 refine Ype fun _ H K h=>?_
 unfold p6 at h
 split at h
 rotate_left
 ·exact h.elim
 rename_i m l
 obtain ⟨es,⟨hf,hl⟩,hK⟩:=h
 refine ⟨_,hK,?_⟩
 clear hK
 generalize hR:cZ es=R
 have hll:=hf.len
 refine ACalls.fW au (tCq (uo (F:=67)) (tCq (uo (F:=40)) (tCq (uo (F:=46)) tNq))) Tryz.func36 [.tmp 2] (nrq _) (T:=aq []) (h:=fun hcl hlt=>?_)
 have hm:AV.lt H.nx (.slice m 1 l):=hlt _ (by simp)
 clear hlt
 simp only [go_sem,hll]
 refine az (A:=Nat) (fun k=>[(6,.slice m 1 l),(7,.int .i64 (es.length:Int)),(8,.int .i64 (k:Int))]) (fun _=>H) (fun k=>k≤es.length∧cZ (es.drop k)=R) (fun k=>es.length - k) 0 ⟨by omega,hR⟩ ?_ fun k hk=>?_
 ·exact ⟨nrq _,lRq _,hcl,by simp [ltF,znf,hm],by simp [aJ,wk2,wk1,wkM,Fr.get]⟩
 clear hR
 obtain ⟨hk,hR⟩:=hk
 simp only [go_sem]
 refine ai (fun hc=>?_) (fun hc=>?_)
 ·have hk':k<es.length:=by simp at hc;omega
  have hd:es.drop k=es[k]::es.drop (k+1):=dcq hk'
  have e5:=Yk5 k
  obtain ⟨F,a,b,hF,hx,hca⟩:=hf.get hk'
  rw [hd,cZ] at hR
  generalize es[k]=e at *
  rcases hF with rfl|rfl|rfl
  all_goals
   simp only [go_sem,iNq,hll,hx,IQ]
   try (repeat with_reducible refine Yq ?_)
   refine ⟨_,?_,hca⟩
   try simp only [aH,go_sem]
   refine ai (fun hq=>?_) (fun hq=>?_)
   ·rw [if_pos hq] at hR
    subst hR
    simp only [go_sem]
    exact Z0
   ·rw [if_neg (by rw [hq];decide)] at hR
    simp only [go_sem,e5]
    exact ⟨k+1,⟨by omega,hR⟩,by omega,nrq _,lRq _,hcl,by simp [ltF,znf,hm],by simp [aJ,wk2,wk1,wkM,Fr.get]⟩
 ·have hk':k=es.length:=by simp at hc;omega
  subst hk'
  rw [List.drop_length] at hR
  subst hR
  simp only [go_sem]
  simp (disch:=first|exact Zd|omega) [↓zmo,beq,ybc,ybd,ybe,ae,wk,wk2,wk1,wkM,wkL,ah,ybf,hcl,cZ]
theorem KT {n a b:Nat} {f:Fn} (ha:a<n) (hb:b<n):AV.lt n (.func f [] [.ptr a 0,.ptr b 0]):=by
 rw [AV.lt]
 refine ⟨fun j hj=>absurd hj (by simp),fun j hj=>?_⟩
 match j,hj with
 |0,_=>simpa [znn] using ha
 |1,_=>simpa [znn] using hb
def nB:List AV→AHeap→(AEnd→AHeap→Prop)→Prop
 |[.func (.func F) [] caps,.int .i64 e],H,K=>K (.ret (.func (.func 67) [] [.ptr H.nx 0,.ptr (H.nx+1) 0])) ((H.push (.cells [.func (.func F) [] caps])).push (.cells [.int .i64 e]))
 |_,_,_=>False
theorem A0:EntOk Tryz.prog 37 (Ent.effect nB):=by
 refine EntOk.effect fun args H K h=>?_
 unfold nB at h
 split at h
 rotate_left
 ·exact h.elim
 rename_i F caps e
 refine ⟨_,_,h,?_⟩
 clear h
 refine ACalls.fW au tNq Tryz.func37 [.tmp 4] (by simp only [zle];omega) (T:=aq []) (h:=fun hcl hlt=>?_)
 have hf:AV.lt H.nx (.func (.func F) [] caps):=hlt _ (by simp)
 have h0:=AV.lt_mono (Nat.le_succ H.nx) _ hf
 clear hlt
 simp only [go_sem]
 simp (disch:=first|exact Zd|omega) [↓zmo,beq,ybc,ybd,ybe,ae,wk,wk2,wk1,wkM,wkL,ah,ybf,hcl]
 exact KT (by omega) (by omega)
def Gi:List AV→AHeap→(AV→Prop)→Prop
 |[.ptr a 0,.ptr b 0],H,K=>∃ (F:FuncId) (caps:List AV) (q:Bool) (e:Int),(H.get a=some (.cells [.func (.func F) [] caps])∧H.get b=some (.cells [.int .i64 e])∧ACalls Tryz.prog F caps H (.ret (.bool q)) H)∧K (.int .i64 (orE q e))
 |_,_,_=>False
theorem lG:EntOk Tryz.prog 67 (Ent.pure Gi):=by
 refine Ype fun _ H K h=>?_
 unfold Gi at h
 split at h
 rotate_left
 ·exact h.elim
 rename_i a b
 obtain ⟨F,caps,q,e,⟨h1,h2,h3⟩,hK⟩:=h
 refine ⟨_,hK,?_⟩
 clear hK
 refine ACalls.fW au (tCq (uo (F:=F)) tNq) Tryz.func67 [.tmp 2] (nrq _) (T:=aq []) (h:=fun hcl hlt=>?_)
 clear hlt
 have hc1:=ax h1
 have hc2:=ax h2
 have n1:=glq h1
 have n2:=glq h2
 have e1:(a=H.nx)=False:=eq_false (by omega)
 have e2:(b=H.nx)=False:=eq_false (by omega)
 simp only [go_sem,hc1,hc2,e1,e2,h1,h2,IQ]
 try (repeat with_reducible refine Yq ?_)
 refine ⟨_,?_,h3⟩
 cases q
 all_goals
  simp only [aH,go_sem,hc1,hc2,e1,e2,h1,h2,orE]
  try (repeat with_reducible refine Yq ?_)
  simp (disch:=first|exact Zd|omega) [↓zmo,beq,ybc,ybd,ybe,ae,wk,wk2,wk1,wkM,wkL,ah,ybf,hcl]
def Kb:List AV→AHeap→(AV→Prop)→Prop
 |[.ptr a 0,.ptr b 0],H,K=>∃ (S:Sch) (e:SEntry),(H.get a=some (.cells (aW S))∧H.get b=some (.cells (aK e))∧S.tables.length≤1000000)∧K (.bool (jT S e.table).isSome)
 |_,_,_=>False
theorem LS:EntOk Tryz.prog 30 (Ent.pure Kb):=by
 refine Ype fun _ H K h=>?_
 unfold Kb at h
 split at h
 rotate_left
 ·exact h.elim
 rename_i a b
 obtain ⟨S,e,⟨ha,hb,hS⟩,hK⟩:=h
 refine ⟨_,hK,?_⟩
 clear hK
 generalize hR:(jT S e.table).isSome=R
 refine ACalls.fW au (tCq ja tNq) Tryz.func30 [.tmp 2] (nrq _) (T:=aq []) (h:=fun hcl hlt=>?_)
 clear hlt
 have ca:=ax ha
 have la:=glq ha
 have ea:(a=H.nx)=False:=eq_false (by omega)
 have cb:=ax hb
 have lb:=glq hb
 have eb:(b=H.nx)=False:=eq_false (by omega)
 simp only [go_sem,ca,ea,ha,cb,eb,hb,aW,aK,gC]
 try (repeat with_reducible refine Yq ?_)
 refine ⟨S,⟨rfl,hS⟩,?_⟩
 rcases gg (q:=fun t:STable=>t.id==e.table) (l:=S.tables) with ⟨b1,b2⟩|⟨i,t,b1,hil,b3,b2,_⟩
 ·have:jT S e.table=none:=b2
  rw [this] at hR
  subst hR
  rw [b1]
  have d:decide ((-1:Int) ≥ 0)=false:=rfl
  simp only [aH,go_sem,d]
  exact Z0
 ·have:jT S e.table=some t:=b2
  rw [this] at hR
  subst hR
  rw [b1]
  have d:decide ((i:Int) ≥ 0)=true:=by simp
  simp only [aH,go_sem,d]
  exact Z0
def J5:List AV→AHeap→(AV→Prop)→Prop
 |[.ptr a 0,.ptr b 0,.ptr c 0],H,K=>∃ (S:Sch) (role:Int) (e:SEntry),(H.get a=some (.cells (aW S))∧H.get b=some (.cells [.int .i64 role])∧H.get c=some (.cells (aK e))∧SRol S)∧K (.bool (qR S role e.table))
 |_,_,_=>False
theorem Lz:EntOk Tryz.prog 32 (Ent.pure J5):=by
 refine Ype fun _ H K h=>?_
 unfold J5 at h
 split at h
 rotate_left
 ·exact h.elim
 rename_i a b c
 obtain ⟨S,role,e,⟨ha,hb,hc,hS⟩,hK⟩:=h
 refine ⟨_,hK,?_⟩
 clear hK
 generalize hR:qR S role e.table=R
 refine ACalls.fW au (tCq jW tNq) Tryz.func32 [.tmp 3] (nrq _) (T:=aq []) (h:=fun hcl hlt=>?_)
 clear hlt
 have ca:=ax ha
 have la:=glq ha
 have ea:(a=H.nx)=False:=eq_false (by omega)
 have cb:=ax hb
 have lb:=glq hb
 have eb:(b=H.nx)=False:=eq_false (by omega)
 have cc:=ax hc
 have lc:=glq hc
 have ec:(c=H.nx)=False:=eq_false (by omega)
 unfold qR at hR
 simp only [go_sem,ca,ea,ha,cb,eb,hb,cc,ec,hc,aW,aK,iC]
 try (repeat with_reducible refine Yq ?_)
 refine ⟨S,⟨rfl,hS⟩,?_⟩
 generalize grF S role e.table=o at *
 cases o with
 |none =>
  dsimp only at hR
  subst hR
  simp only [aH,go_sem,Option.getD_none,yax,bb,eT]
  exact Z0
 |some g =>
  dsimp only at hR
  subst hR
  simp only [aH,go_sem,Option.getD_some,yaw,bb]
  exact Z0
def Kg:List AV→AHeap→(AV→Prop)→Prop
 |[.ptr a 0,.ptr b 0,.ptr c 0],H,K=>∃ (S:Sch) (role:Int) (e:SEntry),(H.get a=some (.cells (aW S))∧H.get b=some (.cells [.int .i64 role])∧H.get c=some (.cells (aK e))∧SRol S∧e.ms.length≤140737488355328)∧K (.bool (qJ S role e))
 |_,_,_=>False
theorem KM:EntOk Tryz.prog 34 (Ent.pure Kg):=by
 refine Ype fun _ H K h=>?_
 unfold Kg at h
 split at h
 rotate_left
 ·exact h.elim
 rename_i a b c
 obtain ⟨S,role,e,⟨ha,hb,hc,hS,hml⟩,hK⟩:=h
 refine ⟨_,hK,?_⟩
 clear hK
 generalize hR:qJ S role e=R
 refine ACalls.fW au (tCq jW (tCq rF tNq)) Tryz.func34 [.tmp 3] (nrq _) (T:=aq []) (h:=fun hcl hlt=>?_)
 clear hlt
 have ca:=ax ha
 have la:=glq ha
 have ea:(a=H.nx)=False:=eq_false (by omega)
 have cb:=ax hb
 have lb:=glq hb
 have eb:(b=H.nx)=False:=eq_false (by omega)
 have cc:=ax hc
 have lc:=glq hc
 have ec:(c=H.nx)=False:=eq_false (by omega)
 unfold qJ at hR
 simp only [go_sem,ca,ea,ha,cb,eb,hb,cc,ec,hc,aW,aK,iC]
 try (repeat with_reducible refine Yq ?_)
 refine ⟨S,⟨rfl,hS⟩,?_⟩
 generalize (grF S role e.table).getD eT=g at *
 generalize (grF S role e.table).isSome=is at *
 have hc1:(c=H.nx+1)=False:=eq_false (by omega)
 have hclG:=aa hcl (HT g)
 simp only [aH,go_sem,ca,ea,ha,cb,eb,hb,cc,ec,hc,hc1,aW,aK,bb]
 try (repeat with_reducible refine Yq ?_)
 refine az (A:=Nat) (fun k=>[(4,.ptr H.nx 0),(17,.slice .any 8 (e.ms.map aI)),(18,.int .i64 (e.ms.length:Int)),(19,.int .i64 (k:Int))]) (fun _=>H.push (.cells [.int .i64 g.table,.bool g.read,.bool g.write,.slice .any 1 (boL g.keys)]))
  (fun k=>k≤e.ms.length∧sR g.keys (e.ms.drop k) k=R) (fun k=>e.ms.length - k) 0 ⟨Nat.zero_le _,hR⟩ ?_ fun k hk=>?_
 ·refine ⟨by (try simp only [zkq,zkv,zle]);omega,by repeat first|exact .refl _|refine .push ?_ _,hclG,?_,?_⟩
  ·simp [ltF,zle,znn,znf,a8 dO]
   try omega
  ·simp [aJ,wk2,wk1,wkM,Fr.get]
 clear hR
 obtain ⟨hk,hR⟩:=hk
 simp only [go_sem]
 refine ai (fun hc=>?_) (fun hc=>?_)
 ·have hk':k<e.ms.length:=by simp at hc;omega
  obtain ⟨m,hm⟩:∃ m,m=e.ms[k]:=⟨_,rfl⟩
  have hd:e.ms.drop k=m::e.ms.drop (k+1):=by rw [hm];exact dcq hk'
  have hgx:=aU (f:=aI) (l:=e.ms) (k:=k) (x:=m) (by rw [gQq hk',hm])
  have e5:=Yk5 k
  rw [hd,sR] at hR
  cases hp:m.present
  ·rw [hp,Bool.not_false,Bool.true_or,Bool.true_and] at hR
   simp only [aZ,aH,bhq,Nat.reduceMod,Nat.reduceDiv,aC,aB,aE,aS,aD,aR,aO,aP,aQ,yaq,yar,yao,yap,go_sem,iNq,hgx,aI,bq,vc,yal,yak,ybb,hp,e5]
   try (repeat with_reducible refine Yq ?_)
   refine ⟨k+1,⟨by omega,hR⟩,by omega,?_⟩
   refine ⟨by (try simp only [zkq,zkv,zle]);omega,by repeat first|exact .refl _|refine .push ?_ _,hclG,?_,?_⟩
   ·simp [ltF,zle,znn,znf,a8 dO]
    try omega
   ·simp [aJ,wk2,wk1,wkM,Fr.get]
  ·rw [hp,Bool.not_true,Bool.false_or] at hR
   simp only [aZ,aH,bhq,Nat.reduceMod,Nat.reduceDiv,aC,aB,aE,aS,aD,aR,aO,aP,aQ,yaq,yar,yao,yap,go_sem,iNq,hgx,aI,bq,vc,yal,yak,ybb,hp,lm]
   try (repeat with_reducible refine Yq ?_)
   refine ⟨g,k,⟨rfl,rfl⟩,?_⟩
   cases hv:n9 g.keys k
   ·rw [hv,Bool.false_and] at hR
    subst hR
    simp only [aZ,aH,bhq,Nat.reduceMod,Nat.reduceDiv,aC,aB,aE,aS,aD,aR,aO,aP,aQ,yaq,yar,yao,yap,go_sem,Bool.not_false]
    exact Z0
   ·rw [hv,Bool.true_and] at hR
    simp only [aZ,aH,bhq,Nat.reduceMod,Nat.reduceDiv,aC,aB,aE,aS,aD,aR,aO,aP,aQ,yaq,yar,yao,yap,go_sem,Bool.not_true,e5]
    refine ⟨k+1,⟨by omega,hR⟩,by omega,?_⟩
    refine ⟨by (try simp only [zkq,zkv,zle]);omega,by repeat first|exact .refl _|refine .push ?_ _,hclG,?_,?_⟩
    ·simp [ltF,zle,znn,znf,a8 dO]
     try omega
    ·simp [aJ,wk2,wk1,wkM,Fr.get]
 ·have hk':k=e.ms.length:=by simp at hc;omega
  subst hk'
  rw [List.drop_length,sR] at hR
  subst hR
  simp only [go_sem]
  exact Z0
def Ku:List AV→AHeap→(AV→Prop)→Prop
 |[.ptr a 0,.ptr b 0],H,K=>∃ (S:Sch) (role:Int),(H.get a=some (.cells (aW S))∧H.get b=some (.cells [.int .i64 role])∧S.roles.length≤1000000)∧K (.bool (gL S role).isSome)
 |_,_,_=>False
theorem LG:EntOk Tryz.prog 38 (Ent.pure Ku):=by
 refine Ype fun _ H K h=>?_
 unfold Ku at h
 split at h
 rotate_left
 ·exact h.elim
 rename_i a b
 obtain ⟨S,role,⟨ha,hb,hS⟩,hK⟩:=h
 refine ⟨_,hK,?_⟩
 clear hK
 generalize hR:(gL S role).isSome=R
 refine ACalls.fW au (tCq oF tNq) Tryz.func38 [.tmp 2] (nrq _) (T:=aq []) (h:=fun hcl hlt=>?_)
 clear hlt
 have ca:=ax ha
 have la:=glq ha
 have ea:(a=H.nx)=False:=eq_false (by omega)
 have cb:=ax hb
 have lb:=glq hb
 have eb:(b=H.nx)=False:=eq_false (by omega)
 simp only [go_sem,ca,ea,ha,cb,eb,hb,aW,kP]
 try (repeat with_reducible refine Yq ?_)
 refine ⟨S,⟨rfl,hS⟩,?_⟩
 rcases gg (q:=fun t:SRole=>t.id==role) (l:=S.roles) with ⟨b1,b2⟩|⟨i,t,b1,hil,b3,b2,_⟩
 ·have:gL S role=none:=b2
  rw [this] at hR
  subst hR
  rw [b1]
  have d:decide ((-1:Int) ≥ 0)=false:=rfl
  simp only [aH,go_sem,d]
  exact Z0
 ·have:gL S role=some t:=b2
  rw [this] at hR
  subst hR
  rw [b1]
  have d:decide ((i:Int) ≥ 0)=true:=by simp
  simp only [aH,go_sem,d]
  exact Z0
def Kn:List AV→AHeap→(AV→Prop)→Prop
 |[.ptr a 0,.ptr b 0],H,K=>∃ (S:Sch) (e:SEntry),(H.get a=some (.cells (aW S))∧H.get b=some (.cells (aK e))∧SChk S∧EOk e)∧K (.int .i64 (gH S e))
 |_,_,_=>False
theorem LQ:EntOk Tryz.prog 40 (Ent.pure Kn):=by
 refine Ype fun _ H K h=>?_
 unfold Kn at h
 split at h
 rotate_left
 ·exact h.elim
 rename_i a b
 obtain ⟨S,e,⟨ha,hb,hS,he⟩,hK⟩:=h
 refine ⟨_,hK,?_⟩
 clear hK
 generalize hR:gH S e=R
 refine ACalls.fW au (tCq wS tNq) Tryz.func40 [.tmp 2] (nrq _) (T:=aq []) (h:=fun hcl hlt=>?_)
 clear hlt
 have ca:=ax ha
 have la:=glq ha
 have ea:(a=H.nx)=False:=eq_false (by omega)
 have cb:=ax hb
 have lb:=glq hb
 have eb:(b=H.nx)=False:=eq_false (by omega)
 simp only [go_sem,ca,ea,ha,cb,eb,hb,aW,aK,mO]
 try (repeat with_reducible refine Yq ?_)
 refine ⟨S,e,⟨rfl,rfl,hS.sl.tl,hS.sl.fl,fun t ht=>by have:=hS.kl t ht;omega,he⟩,?_⟩
 rw [hR]
 try simp only [aH,go_sem]
 exact Z0
def J9:List AV→AHeap→(AV→Prop)→Prop
 |[.ptr a 0,.ptr b 0],H,K=>∃ (S:Sch) (e:SEntry),(H.get a=some (.cells (aW S))∧H.get b=some (.cells (aK e))∧SAct S∧EArg e)∧K (.int .i64 (jz S e))
 |_,_,_=>False
theorem Lv:EntOk Tryz.prog 46 (Ent.pure J9):=by
 refine Ype fun _ H K h=>?_
 unfold J9 at h
 split at h
 rotate_left
 ·exact h.elim
 rename_i a b
 obtain ⟨S,e,⟨ha,hb,hS,he⟩,hK⟩:=h
 refine ⟨_,hK,?_⟩
 clear hK
 generalize hR:jz S e=R
 refine ACalls.fW au (tCq xD tNq) Tryz.func46 [.tmp 2] (nrq _) (T:=aq []) (h:=fun hcl hlt=>?_)
 clear hlt
 have ca:=ax ha
 have la:=glq ha
 have ea:(a=H.nx)=False:=eq_false (by omega)
 have cb:=ax hb
 have lb:=glq hb
 have eb:(b=H.nx)=False:=eq_false (by omega)
 simp only [go_sem,ca,ea,ha,cb,eb,hb,aW,aK,mF]
 try (repeat with_reducible refine Yq ?_)
 refine ⟨S,e,⟨rfl,rfl,hS,he⟩,?_⟩
 rw [hR]
 try simp only [aH,go_sem]
 exact Z0
def Kq:List AV→AHeap→(AV→Prop)→Prop
 |[.ptr a 0,.ptr b 0],H,K=>∃ (S:Sch) (e:SEntry),(H.get a=some (.cells (aW S))∧H.get b=some (.cells (aK e))∧SAdm S∧EAdm e)∧K (.bool (Dc S e))
 |_,_,_=>False
theorem Kx:EntOk Tryz.prog 48 (Ent.pure Kq):=by
 refine Ype fun _ H K h=>?_
 unfold Kq at h
 split at h
 rotate_left
 ·exact h.elim
 rename_i a b
 obtain ⟨S,e,⟨ha,hb,hS,he⟩,hK⟩:=h
 refine ⟨_,hK,?_⟩
 clear hK
 generalize hR:Dc S e=R
 refine ACalls.fW au (tCq Jr tNq) Tryz.func48 [.tmp 2] (nrq _) (T:=aq []) (h:=fun hcl hlt=>?_)
 clear hlt
 have ca:=ax ha
 have la:=glq ha
 have ea:(a=H.nx)=False:=eq_false (by omega)
 have cb:=ax hb
 have lb:=glq hb
 have eb:(b=H.nx)=False:=eq_false (by omega)
 simp only [go_sem,ca,ea,ha,cb,eb,hb,aW,aK,zL]
 try (repeat with_reducible refine Yq ?_)
 refine ⟨S,e,⟨rfl,rfl,hS,he⟩,?_⟩
 rw [hR]
 try simp only [aH,go_sem]
 exact Z0
def Kt:List AV→AHeap→(AV→Prop)→Prop
 |[.ptr a 0,.ptr b 0],H,K=>∃ (S:Sch) (e:SEntry),(H.get a=some (.cells (aW S))∧H.get b=some (.cells (aK e))∧S.tables.length≤1000000∧(∀ t∈S.tables,t.actions.length≤1000000)∧jT S e.table≠none)∧K (.bool (Cp S e))
 |_,_,_=>False
theorem KS:EntOk Tryz.prog 42 (Ent.pure Kt):=by
 refine Ype fun _ H K h=>?_
 unfold Kt at h
 split at h
 rotate_left
 ·exact h.elim
 rename_i a b
 obtain ⟨S,e,⟨ha,hb,hS,hta,hne⟩,hK⟩:=h
 refine ⟨_,hK,?_⟩
 clear hK
 generalize hR:Cp S e=R
 refine ACalls.fW au (tCq ja (tCq wP tNq)) Tryz.func42 [.tmp 2] (nrq _) (T:=aq [(1,[[],[],[],[],[],[2,4],[],[],[5],[],[],[1,2,4,5,8,10]])]) (h:=fun hcl hlt=>?_)
 clear hlt
 have ca:=ax ha
 have la:=glq ha
 have ea:(a=H.nx)=False:=eq_false (by omega)
 have cb:=ax hb
 have lb:=glq hb
 have eb:(b=H.nx)=False:=eq_false (by omega)
 unfold Cp at hR
 simp only [go_sem,ca,ea,ha,cb,eb,hb,aW,aK,gC]
 try (repeat with_reducible refine Yq ?_)
 refine ⟨S,⟨rfl,hS⟩,?_⟩
 rcases gg (q:=fun t:STable=>t.id==e.table) (l:=S.tables) with ⟨b1,b2⟩|⟨i,t,b1,hil,b3,b2,_⟩
 ·exact absurd b2 hne
 have:jT S e.table=some t:=b2
 rw [this] at hR
 dsimp only at hR
 rw [b1]
 have hg':=aU (f:=ba) (l:=S.tables) (k:=i) (x:=t) b3
 have htl:=hta t (List.mem_of_getElem? b3)
 simp only [aH,go_sem,iNq,hg',ba,ybb,tJ]
 try (repeat with_reducible refine Yq ?_)
 refine ⟨t.actions,⟨rfl,htl⟩,?_⟩
 rw [hR]
 try simp only [aH,go_sem]
 exact Z0
def J6:List AV→AHeap→(AV→Prop)→Prop
 |[.ptr a 0,.ptr b 0,.ptr c 0],H,K=>∃ (S:Sch) (role:Int) (e:SEntry),(H.get a=some (.cells (aW S))∧H.get b=some (.cells [.int .i64 role])∧H.get c=some (.cells (aK e))∧SRol S)∧K (.bool (tn S role e.act))
 |_,_,_=>False
theorem Lx:EntOk Tryz.prog 44 (Ent.pure J6):=by
 refine Ype fun _ H K h=>?_
 unfold J6 at h
 split at h
 rotate_left
 ·exact h.elim
 rename_i a b c
 obtain ⟨S,role,e,⟨ha,hb,hc,hS⟩,hK⟩:=h
 refine ⟨_,hK,?_⟩
 clear hK
 generalize hR:tn S role e.act=R
 refine ACalls.fW au (tCq yC tNq) Tryz.func44 [.tmp 3] (nrq _) (T:=aq []) (h:=fun hcl hlt=>?_)
 clear hlt
 have ca:=ax ha
 have la:=glq ha
 have ea:(a=H.nx)=False:=eq_false (by omega)
 have cb:=ax hb
 have lb:=glq hb
 have eb:(b=H.nx)=False:=eq_false (by omega)
 have cc:=ax hc
 have lc:=glq hc
 have ec:(c=H.nx)=False:=eq_false (by omega)
 simp only [go_sem,ca,ea,ha,cb,eb,hb,cc,ec,hc,aW,aK,ss]
 try (repeat with_reducible refine Yq ?_)
 refine ⟨S,⟨rfl,hS⟩,?_⟩
 rw [hR]
 try simp only [aH,go_sem]
 exact Z0
theorem IC:ti Tryz.prog 44=some ⟨.struct [(0,3,false),(1,26,false)],6,80,.agg [.int .i64 0,.int .i64 0,.slice .nil 1 [],.int .i64 0,.int .i64 0,.slice .nil 1 []]⟩:=by kernel_rfl
theorem JQ:ti Tryz.prog 51=some ⟨.int .i64,1,8,.int .i64 0⟩:=by kernel_rfl
attribute [go_sem] IC JQ
theorem hgt {H:AHeap} {i:Nat} {o:AObj} (h:H.get i=some o:=by
 (repeat rw [gPq _ _ (by simp only [zle];omega)])
 exact AHeap.get_push_new _ _):H.get i=some o:=h
theorem oY:∀ {xs:List Int},cZ xs=0→∀ x∈xs,x=0
 |[],_,x,hx=>by cases hx
 |y::ys,h,x,hx=>by
  rw [cZ] at h
  split at h
  ·rename_i h1;subst h;simp at h1
  ·rename_i h1
   rcases List.mem_cons.1 hx with rfl|hx
   ·simpa using h1
   ·exact oY h x hx
theorem qa {b:Bool} {e:Int} (h:orE b e=0) (he:e≠0):b=true:=by
 cases b
 ·exact absurd h he
 ·rfl
structure Key5 (S:Sch) (role:Int) (e:SEntry):Prop where
 r:(gL S role).isSome=true
 t:(jT S e.table).isSome=true
 w:qR S role e.table=true
 k:gH S e=0
 s:qJ S role e=true
theorem Dw {S:Sch} {role:Int} {e:SEntry} (h:cZ (zw S role e)=0):Key5 S role e:=by
 have h':=oY h
 unfold zw at h'
 exact ⟨qa (h' (orE (gL S role).isSome 21) (by simp)) (by decide),qa (h' (orE (jT S e.table).isSome 6) (by simp)) (by decide),qa (h' (orE (qR S role e.table) 21) (by simp)) (by decide),h' (gH S e) (by simp),qa (h' (orE (qJ S role e) 21) (by simp)) (by decide)⟩
def qs:List AV→AHeap→(AV→Prop)→Prop
 |[.agg l,.int .i64 role,.agg lu],_,K=>∃ (S:Sch) (kind:Int) (e:SEntry),(l=aW S∧lu=.int .i64 kind::aK e∧SPer S∧EAll e)∧K (.int .i64 (xY S role kind e))
 |_,_,_=>False
theorem zY:EntOk Tryz.prog 11 (Ent.pure qs):=by
 refine Ype fun _ H K h=>?_
 unfold qs at h
 split at h
 rotate_left
 ·exact h.elim
 rename_i l role lu
 obtain ⟨S,kind,e,⟨rfl,rfl,hS,he⟩,hK⟩:=h
 refine ⟨_,hK,?_⟩
 clear hK
 generalize hR:xY S role kind e=R
 unfold xY at hR
 have hS1:=hS.al
 have hS2:=hS.rl
 have hrl:=hS2.sl.rl
 have htl:=hS2.sl.tl
 have hta:∀ t∈S.tables,t.actions.length≤1000000:=fun t ht=>by have:=(hS1.ac.tl t ht).1;omega
 refine ACalls.fW au (tCq A0 (tCq Er tNq)) Tryz.func11 [.tmp 6] (nrq _) (T:=aq []) (h:=fun hcl hlt=>?_)
 clear hlt
 simp only [go_sem,aW,aK,nB,p6]
 try (repeat with_reducible refine Yq ?_)
 refine ⟨zw S role e,⟨⟨?_,?_,?_,?_,?_,trivial⟩,by simp [zw]⟩,?_⟩
 ·exact ⟨_,_,_,.inl rfl,rfl,clB lG ⟨38,[.ptr H.nx 0,.ptr (H.nx+1) 0],_,_,⟨hgt,hgt,clB LG ⟨S,role,⟨hgt,hgt,hrl⟩,rfl⟩⟩,rfl⟩⟩
 ·exact ⟨_,_,_,.inl rfl,rfl,clB lG ⟨30,[.ptr H.nx 0,.ptr (H.nx+1+1+1) 0],_,_,⟨hgt,hgt,clB LS ⟨S,e,⟨hgt,hgt,htl⟩,rfl⟩⟩,rfl⟩⟩
 ·exact ⟨_,_,_,.inl rfl,rfl,clB lG ⟨32,[.ptr H.nx 0,.ptr (H.nx+1) 0,.ptr (H.nx+1+1+1) 0],_,_,⟨hgt,hgt,clB Lz ⟨S,role,e,⟨hgt,hgt,hgt,hS2⟩,rfl⟩⟩,rfl⟩⟩
 ·exact ⟨_,_,_,.inr (.inl rfl),rfl,clB LQ ⟨S,e,⟨hgt,hgt,hS1.ck,he.ok⟩,rfl⟩⟩
 ·exact ⟨_,_,_,.inl rfl,rfl,clB lG ⟨34,[.ptr H.nx 0,.ptr (H.nx+1) 0,.ptr (H.nx+1+1+1) 0],_,_,⟨hgt,hgt,clB KM ⟨S,role,e,⟨hgt,hgt,hgt,hS2,he.ok.ml⟩,rfl⟩⟩,rfl⟩⟩
 by_cases hk:cZ (zw S role e)=0
 rotate_left
 ·rw [if_neg hk] at hR
  generalize cZ (zw S role e)=k at *
  subst hR
  have d:(k != 0)=true:=by simp [hk]
  simp only [aZ,aH,bhq,Nat.reduceMod,Nat.reduceDiv,aC,aB,aE,aS,aD,aR,aO,aP,aQ,yaq,yar,yao,yap,go_sem,d]
  simp (disch:=first|exact Zd|omega) [↓zmo,beq,ybc,ybd,ybe,ae,wk,wk2,wk1,wkM,wkL,ah,ybf,hcl]
  first|done|repeat first|exact .refl _|refine .push ?_ _
 rw [if_pos hk] at hR
 have hz:=Dw hk
 rw [hk]
 have d:((0:Int) != 0)=false:=rfl
 by_cases h3:kind=3
 ·rw [if_pos h3] at hR
  have d3:(kind==3)=true:=by simp [h3]
  by_cases ha:e.act=0
  ·have da:(e.act != 0)=false:=by simp [ha]
   by_cases hg:e.args=[]
   ·rw [if_pos ⟨ha,hg⟩] at hR
    subst hR
    have dg:decide (((0:Nat):Int) > 0)=false:=rfl
    simp only [aZ,aH,bhq,Nat.reduceMod,Nat.reduceDiv,aC,aB,aE,aS,aD,aR,aO,aP,aQ,yaq,yar,yao,yap,go_sem,d,d3,da,hg,yaf,yba,dg]
    try simp (disch:=first|exact Zd|omega) [↓zmo,beq,ybc,ybd,ybe,ae,wk,wk2,wk1,wkM,wkL,ah,ybf,hcl]
    first|done|repeat first|exact .refl _|refine .push ?_ _
   ·rw [if_neg (fun x=>hg x.2)] at hR
    subst hR
    have dg:decide ((e.args.length:Int) > 0)=true:=by
     cases hq:e.args with
     |nil=>exact absurd hq hg
     |cons x xs=>simp
    simp only [aZ,aH,bhq,Nat.reduceMod,Nat.reduceDiv,aC,aB,aE,aS,aD,aR,aO,aP,aQ,yaq,yar,yao,yap,go_sem,d,d3,da,ybb,dg]
    try simp (disch:=first|exact Zd|omega) [↓zmo,beq,ybc,ybd,ybe,ae,wk,wk2,wk1,wkM,wkL,ah,ybf,hcl]
    first|done|repeat first|exact .refl _|refine .push ?_ _
  ·rw [if_neg (fun x=>ha x.1)] at hR
   subst hR
   have da:(e.act != 0)=true:=by simp [ha]
   simp only [aZ,aH,bhq,Nat.reduceMod,Nat.reduceDiv,aC,aB,aE,aS,aD,aR,aO,aP,aQ,yaq,yar,yao,yap,go_sem,d,d3,da]
   try simp (disch:=first|exact Zd|omega) [↓zmo,beq,ybc,ybd,ybe,ae,wk,wk2,wk1,wkM,wkL,ah,ybf,hcl]
   first|done|repeat first|exact .refl _|refine .push ?_ _
 rw [if_neg h3] at hR
 have d3:(kind==3)=false:=by simp [h3]
 simp only [aZ,aH,bhq,Nat.reduceMod,Nat.reduceDiv,aC,aB,aE,aS,aD,aR,aO,aP,aQ,yaq,yar,yao,yap,go_sem,d,d3,aW,aK,nB,p6]
 try (repeat with_reducible refine Yq ?_)
 refine ⟨LF S role e,⟨⟨?_,?_,?_,?_,trivial⟩,by simp [LF]⟩,?_⟩
 ·exact ⟨_,_,_,.inl rfl,rfl,clB lG ⟨42,[.ptr H.nx 0,.ptr (H.nx+1+1+1) 0],_,_,⟨hgt,hgt,clB KS ⟨S,e,⟨hgt,hgt,htl,hta,fun h=>by have:=hz.t;rw [h] at this;cases this⟩,rfl⟩⟩,rfl⟩⟩
 ·exact ⟨_,_,_,.inl rfl,rfl,clB lG ⟨44,[.ptr H.nx 0,.ptr (H.nx+1) 0,.ptr (H.nx+1+1+1) 0],_,_,⟨hgt,hgt,clB Lx ⟨S,role,e,⟨hgt,hgt,hgt,hS2⟩,rfl⟩⟩,rfl⟩⟩
 ·exact ⟨_,_,_,.inr (.inr rfl),rfl,clB Lv ⟨S,e,⟨hgt,hgt,hS1.ac,he.ar⟩,rfl⟩⟩
 ·exact ⟨_,_,_,.inl rfl,rfl,clB lG ⟨48,[.ptr H.nx 0,.ptr (H.nx+1+1+1) 0],_,_,⟨hgt,hgt,clB Kx ⟨S,e,⟨hgt,hgt,hS1.ad,he.ad⟩,rfl⟩⟩,rfl⟩⟩
 rw [hR]
 try simp only [aZ,aH,bhq,Nat.reduceMod,Nat.reduceDiv,aC,aB,aE,aS,aD,aR,aO,aP,aQ,yaq,yar,yao,yap,go_sem]
 simp (disch:=first|exact Zd|omega) [↓zmo,beq,ybc,ybd,ybe,ae,wk,wk2,wk1,wkM,wkL,ah,ybf,hcl]
 first|done|repeat first|exact .refl _|refine .push ?_ _
end Go.AL
