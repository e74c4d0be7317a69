/- Lemmas of the proof; no condition. -/
import Derived.Test.YtjnhidpnfdbmaaaGreatS12j
import Derived.Test.YtjnhidpnfdbmaaaGreatS12b
import Derived.Test.YtjnhidpnfdbmaaaGreatS11g
import Derived.Test.YtjnhidpnfdbmaaaGreatS12g
set_option linter.all false
set_option maxRecDepth 10000
set_option maxHeartbeats 32000000
open Option renaming isSome_none → yax, isSome_some → yaw
open Go Go.AL Go.Proofs
namespace Go.AL
def iJ(S:Sch)(id:Int):Option SRole:=S.roles.find? fun r=>r.id==id
def ip:SGrant:=⟨0,false,false,[]⟩
def grF(S:Sch)(role t:Int):Option SGrant:=match iJ S role with
 |none=>none
 |some r=>r.grants.find? fun g=>g.table==t
def sJ(S:Sch)(role a:Int):Bool:=match iJ S role with
 |none=>false
 |some r=>r.actions.contains a
def CT(S:Sch)(role t:Int):Bool:=match grF S role t with
 |none=>false
 |some g=>g.read
structure SRol(S:Sch):Prop where
 sl:SLen S
 gl:∀ r∈S.roles,r.grants.length≤1000000∧r.actions.length≤1000000∧∀ g∈r.grants,g.keys.length≤1000000
theorem LU{S:Sch}{role t:Int}{g:SGrant}(h:grF S role t=some g):∃ r,iJ S role=some r∧r∈S.roles∧g∈r.grants∧g.table=t:=by
 unfold grF at h
 cases hr:iJ S role with
 |none=>rw[hr]at h;cases h
 |some r =>
  rw[hr]at h
  dsimp only at h
  refine⟨r,rfl,List.mem_of_find?_eq_some hr,List.mem_of_find?_eq_some h,?_⟩
  have:=List.find?_some h
  simpa using this
theorem Fa{n:Nat}(g:SGrant):ltL n [.int .i64 g.table,.bool g.read,.bool g.write,.slice .any 1 (boL g.keys)]:=by
 have:=md (n:=n) g
 unfold bO at this
 rwa[znr]at this
def Hf:PCt
 |[.slice _ 1 l,.int .i64 n],_,K=>∃ xs:List Int,(l=inL xs∧xs.length≤1000000)∧K (.bool (xs.contains n))
 |_,_,_=>False
theorem La:EPp 52 Hf:=by
 refine Ype fun _ H K h=>?_
 unfold Hf at h
 split at h<;>try exact h.elim
 rename_i m l n
 obtain⟨xs,⟨rfl,hl⟩,hK⟩:=h
 refine⟨_,hK,?_⟩
 clear hK
 generalize hR:xs.contains n=R
 refine Yfv az tNq Tryz.func52 [.tmp 4] fun hcl hlt=>?_
 have hm:AV.lt H.nx (.slice m 1 (inL xs)):=hlt _ Xb
 clear hlt
 simp only[go_sem,inL,ybb]
 refine aA (A:=Nat) (fun k=>[(1,.int .i64 n),(7,.slice m 1 (inL xs)),(8,.int .i64 (xs.length:Int)),(9,.int .i64 (k:Int))]) (fun _=>H) (fun k=>k≤xs.length∧(xs.drop k).contains n=R) (fun k=>xs.length-k) 0 ⟨Xa,hR⟩ ?_ fun k hk=>?_
 ·exact⟨nrq _,lRq _,hcl,by simp[ltF,znf,hm],by simp[aJ,wk2,wk1,wkM,Fr.get,inL]⟩
 clear hR
 obtain⟨hk,hR⟩:=hk
 refine T9 ?_
 refine aq (fun hc=>?_) (fun hc=>?_)
 ·have hk':k<xs.length:=sHc
  obtain⟨x,hx⟩:∃ x,x=xs[k]:=⟨_,rfl⟩
  have hd:xs.drop k=x::xs.drop (k+1):=by rw[hx];exact dcq hk'
  have hg':(inL xs).getD k .junk=.int .i64 x:=bf (f:=AV.int .i64) (l:=xs) (k:=k) (x:=x) (by rw[gQq hk',hx])
  have hil:(inL xs).length=xs.length:=by simp[inL]
  have e5:=Yk5 k
  rw[hd,List.contains_cons]at hR
  simp only[go_sem,iNq,hil,hg']
  refine T1 ?_
  refine aq (fun hq=>?_) (fun hq=>?_)
  ·have:(n==x)=true:=by simp at hq ⊢;exact hq.symm
   rw[this,Bool.true_or]at hR
   subst hR
   exact V33
  ·have:(n==x)=false:=by simp at hq ⊢;exact fun h=>hq h.symm
   rw[this,Bool.false_or]at hR
   refine T37 ?_
   exact V128
 ·have hk':k=xs.length:=sHc
  subst hk'
  rw[List.drop_length]at hR
  subst hR
  exact V33
def yN:PCt
 |[.agg l,.int .i64 role,.int .i64 t],_,K=>∃ S:Sch,(l=bb S∧SRol S)∧K (.tup [bO ((grF S role t).getD ip),.bool (grF S role t).isSome])
 |_,_,_=>False
theorem Ji:EPp 24 yN:=by
 refine Ype fun _ H K h=>?_
 unfold yN at h
 split at h<;>try exact h.elim
 rename_i l role t
 obtain⟨S,⟨rfl,hS⟩,hK⟩:=h
 refine⟨_,hK,?_⟩
 clear hK
 generalize hR:grF S role t=R
 unfold grF iJ at hR
 refine Yfu az (tCq sN tNq) Tryz.func24 [.cell 6 69,.tmp 7] fun hcl=>?_
 simp only[go_sem,bb,n7]
 refine⟨S,⟨rfl,hS.sl⟩,?_⟩
 rcases fQ (q:=fun r:SRole=>r.id==role) (l:=S.roles)with⟨b1,b2⟩|⟨i,r,b1,hil,b3,b2,_⟩
 ·rw[b2]at hR
  dsimp only at hR
  subst hR
  rw[b1]
  exact V121
 rw[b2]at hR
 dsimp only at hR
 rw[b1]
 have d:decide ((i:Int)<0)=false:=Xb
 have hg':=bf (f:=cG) (l:=S.roles) (k:=i) (x:=r) b3
 have hgl:=(hS.gl r (List.mem_of_getElem? b3)).1
 have hclG:=aa (cs:=[.int .i64 0,.bool false,.bool false,.slice .nil 1 []]) (aa hcl (ne S)) (by simp[znu,znv,znf,zng,aN])
 simp only[aF,go_sem,d,iNq,hg',cG,ybb]
 refine T0 ?_
 refine aA (A:=Nat) (fun k=>[(2,.int .i64 t),(6,.ptr (H.nx+1) 0),(22,.slice .any 4 (r.grants.map bO)),(23,.int .i64 (r.grants.length:Int)),(24,.int .i64 (k:Int))]) (fun _=>(H.push (.cells [.slice .any 3 (S.fields.map cD),.slice .any 3 (S.headers.map gr),.slice .any 5 (S.states.map dY),.slice .any 5 (S.actions.map bu),.slice .any 8 (S.tables.map bc),.slice .any 2 (S.stages.map jh),.slice .any 6 (S.roles.map cG),.slice .any 6 (S.refs.map pj),.int .i64 S.maxBatch,.int .i64 S.budget])).push (.cells [.int .i64 0,.bool false,.bool false,.slice .nil 1 []]))
  (fun k=>k≤r.grants.length∧(r.grants.drop k).find? (fun g=>g.table==t)=R) (fun k=>r.grants.length-k) 0 ⟨Nat.zero_le _,hR⟩ ?_ fun k hk=>?_
 ·refine⟨Xj,by repeat first|exact .refl _|refine .push ?_ _,hclG,?_,?_⟩
  ·simp[ltF,zle,znn,znf,bk md]
   try omega
  ·exact V8
 clear hR
 obtain⟨hk,hR⟩:=hk
 refine T9 ?_
 refine aq (fun hc=>?_) (fun hc=>?_)
 ·have hk':k<r.grants.length:=sHc
  obtain⟨g,hx⟩:∃ g,g=r.grants[k]:=⟨_,rfl⟩
  have hd:r.grants.drop k=g::r.grants.drop (k+1):=by rw[hx];exact dcq hk'
  have hgx:=bf (f:=bO) (l:=r.grants) (k:=k) (x:=g) (by rw[gQq hk',hx])
  have e5:=Yk5 k
  rw[hd,List.find?_cons]at hR
  simp only[bn,aF,bhq,go_sem,iNq,hgx,bO,ybb]
  refine T1 ?_
  refine aq (fun hq=>?_) (fun hq=>?_)
  ·rw[hq]at hR
   subst hR
   refine T9 ?_
   exact Z62
  ·rw[hq]at hR
   refine T37 ?_
   refine⟨k+1,⟨Xa,hR⟩,Xa,?_⟩
   refine⟨Xj,by repeat first|exact .refl _|refine .push ?_ _,hclG,?_,?_⟩
   ·simp[ltF,zle,znn,znf,bk md]
    try omega
   ·exact V8
 ·have hk':k=r.grants.length:=sHc
  subst hk'
  rw[List.drop_length]at hR
  subst hR
  refine T9 ?_
  exact Z61
def Er:PCt
 |[.agg l,.int .i64 role,.int .i64 a],_,K=>∃ S:Sch,(l=bb S∧SRol S∧iJ S role≠none)∧K (.bool (sJ S role a))
 |_,_,_=>False
theorem Ob:EPp 53 Er:=by
 refine Ype fun _ H K h=>?_
 unfold Er at h
 split at h<;>try exact h.elim
 rename_i l role a
 obtain⟨S,⟨rfl,hS,hne⟩,hK⟩:=h
 refine⟨_,hK,?_⟩
 clear hK
 generalize hR:sJ S role a=R
 unfold sJ iJ at hR
 unfold iJ at hne
 refine Yfw az (tCq sN (tCq La tNq)) Tryz.func53 [.tmp 6] (nrq _) (T:=ay [(1,[[],[],[],[],[2],[],[],[4],[],[1,2,4,7]])]) (h:=fun hcl=>?_)
 simp only[go_sem,bb,n7]
 refine⟨S,⟨rfl,hS.sl⟩,?_⟩
 rcases fQ (q:=fun r:SRole=>r.id==role) (l:=S.roles)with⟨b1,b2⟩|⟨i,r,b1,hil,b3,b2,_⟩
 ·exact absurd b2 hne
 rw[b2]at hR
 dsimp only at hR
 rw[b1]
 have hg':=bf (f:=cG) (l:=S.roles) (k:=i) (x:=r) b3
 have hgl:=(hS.gl r (List.mem_of_getElem? b3)).2.1
 simp only[aF,go_sem,iNq,hg',cG,ybb,Hf]
 refine T1 ?_
 refine⟨r.actions,⟨rfl,hgl⟩,?_⟩
 rw[hR]
 exact V46
def Az:PCt
 |[x,.ptr c 0],H,K=>∃ g n,(x=bO g∧H.get c=some (.cells [.int .i64 n]))∧K (.bool (g.table==n))
 |_,_,_=>False
theorem Eq:EPp 66 Az:=by
 refine Ype fun _ H K h=>?_
 unfold Az at h
 split at h<;>try exact h.elim
 rename_i x c
 obtain⟨g,n,⟨rfl,hg⟩,hK⟩:=h
 refine⟨_,hK,?_⟩
 clear hK
 unfold bO
 refine Yfv az tNq Tryz.func66 [.tmp 3] fun hcl hlt=>?_
 exact V25
def km:PCt
 |[.agg l,.int .i64 role,.int .i64 t],_,K=>∃ S:Sch,(l=bb S∧SRol S)∧K (.tup [bO ((grF S role t).getD ip),.bool (grF S role t).isSome])
 |_,_,_=>False
theorem mP:EPp 33 km:=by
 refine Ype fun _ H K h=>?_
 unfold km at h
 split at h<;>try exact h.elim
 rename_i l role t
 obtain⟨S,⟨rfl,hS⟩,hK⟩:=h
 refine⟨_,hK,?_⟩
 clear hK
 generalize hR:grF S role t=R
 unfold grF iJ at hR
 refine Yfu az (tCq rX (tCq Mn tNq)) Tryz.func33 [.cell 6 69,.tmp 7] fun hcl=>?_
 simp only[go_sem,bb,n8]
 refine⟨S,⟨rfl,hS.sl.rl⟩,?_⟩
 rcases fQ (q:=fun r:SRole=>r.id==role) (l:=S.roles)with⟨b1,b2⟩|⟨i,r,b1,hil,b3,b2,_⟩
 ·rw[b2]at hR
  dsimp only at hR
  subst hR
  rw[b1]
  exact V121
 rw[b2]at hR
 dsimp only at hR
 rw[b1]
 have d:decide ((i:Int)<0)=false:=Xb
 have hg':=bf (f:=cG) (l:=S.roles) (k:=i) (x:=r) b3
 have hgl:=(hS.gl r (List.mem_of_getElem? b3)).1
 simp only[aF,go_sem,d,iNq,hg',cG,ybb]
 refine T0 ?_
 refine⟨r.grants,fun g=>g.table==t,⟨rfl,hgl,fun g hgm=>?_⟩,?_⟩
 ·exact clB Eq ⟨g,t,⟨rfl,Xk⟩,rfl⟩
 rcases fQ (q:=fun g:SGrant=>g.table==t) (l:=r.grants)with⟨c1,c2⟩|⟨j,g,c1,hjl,c3,c2,_⟩
 ·rw[c2]at hR
  subst hR
  rw[c1]
  exact V121
 rw[c2]at hR
 subst hR
 rw[c1]
 have d2:decide ((j:Int)<0)=false:=Xb
 have hgx:=bf (f:=bO) (l:=r.grants) (k:=j) (x:=g) c3
 simp only[aF,go_sem,d2,iNq,hg',hgx,cG,bO,ybb]
 refine T0 ?_
 exact Z62
def wK:PCt
 |[.agg l,.int .i64 role,.int .i64 a],_,K=>∃ S:Sch,(l=bb S∧SRol S)∧K (.bool (sJ S role a))
 |_,_,_=>False
theorem Ec:EPp 45 wK:=by
 refine Ype fun _ H K h=>?_
 unfold wK at h
 split at h<;>try exact h.elim
 rename_i l role a
 obtain⟨S,⟨rfl,hS⟩,hK⟩:=h
 refine⟨_,hK,?_⟩
 clear hK
 generalize hR:sJ S role a=R
 unfold sJ iJ at hR
 refine Yfu az (tCq rX (tCq B8 tNq)) Tryz.func45 [.tmp 6] fun hcl=>?_
 simp only[go_sem,bb,n8]
 refine⟨S,⟨rfl,hS.sl.rl⟩,?_⟩
 rcases fQ (q:=fun r:SRole=>r.id==role) (l:=S.roles)with⟨b1,b2⟩|⟨i,r,b1,hil,b3,b2,_⟩
 ·rw[b2]at hR
  dsimp only at hR
  subst hR
  rw[b1]
  have d:decide ((-1:Int) ≥ 0)=false:=rfl
  exact V81
 rw[b2]at hR
 dsimp only at hR
 rw[b1]
 have d:decide ((i:Int) ≥ 0)=true:=Xb
 have hg':=bf (f:=cG) (l:=S.roles) (k:=i) (x:=r) b3
 have hgl:=(hS.gl r (List.mem_of_getElem? b3)).2.1
 simp only[aF,go_sem,d,iNq,hg',cG,ybb,xI]
 refine T1 ?_
 refine⟨r.actions,⟨rfl,hgl⟩,?_⟩
 rw[hR]
 exact V46
def xO(l:List Bool)(k:Nat):Bool:=l.getD k false
def oR:PCt
 |[.agg l,.int .i64 n],_,K=>∃ (g:SGrant) (k:Nat),(.agg l=bO g∧n=(k:Int))∧K (.bool (xO g.keys k))
 |_,_,_=>False
theorem vG:EPp 35 oR:=by
 refine Ype fun _ H K h=>?_
 unfold oR at h
 split at h<;>try exact h.elim
 rename_i l n
 obtain⟨g,k,⟨hl,rfl⟩,hK⟩:=h
 refine⟨_,hK,?_⟩
 clear hK
 unfold bO at hl
 cases hl
 generalize hR:xO g.keys k=R
 unfold xO at hR
 rw[gEq]at hR
 refine Yfu az tNq Tryz.func35 [.tmp 4] fun hcl=>?_
 rcases Nat.lt_or_ge k g.keys.length with h1|h1
 ·obtain⟨b,hb⟩:∃ b,g.keys[k]=b:=⟨_,rfl⟩
  rw[gQq h1,hb]at hR
  have hR':b=R:=hR
  subst hR'
  have hg':(boL g.keys).getD k .junk=.bool b:=bf (f:=AV.bool) (l:=g.keys) (k:=k) (x:=b) (by rw[gQq h1,hb])
  have d:decide ((k:Int)<(g.keys.length:Int))=true:=dtq Xa
  have hbl:(boL g.keys).length=g.keys.length:=by simp[boL]
  simp only[go_sem,d,hbl,hg',iNq]
  refine T1 ?_
  exact Z0
 ·rw[gNq h1]at hR
  have hR':false=R:=hR
  subst hR'
  have d:decide ((k:Int)<(g.keys.length:Int))=false:=dfq Xa
  have hbl:(boL g.keys).length=g.keys.length:=by simp[boL]
  simp only[go_sem,d,hbl]
  refine T1 ?_
  exact Z0
def mL:PCt
 |[.agg l,.int .i64 role,.int .i64 t],_,K=>∃ S:Sch,(l=bb S∧SRol S)∧K (.bool (CT S role t))
 |_,_,_=>False
theorem Bm:EPp 14 mL:=by
 refine Ype fun _ H K h=>?_
 unfold mL at h
 split at h<;>try exact h.elim
 rename_i l role t
 obtain⟨S,⟨rfl,hS⟩,hK⟩:=h
 refine⟨_,hK,?_⟩
 clear hK
 generalize hR:CT S role t=R
 unfold CT at hR
 refine Yfu az (tCq mP tNq) Tryz.func14 [.tmp 6] fun hcl=>?_
 simp only[go_sem,bb,km]
 refine⟨S,⟨rfl,hS⟩,?_⟩
 generalize grF S role t=o at *
 exact V83
theorem OW:tSl Tryz.prog 130 94:=kSl
theorem Rj:tFn Tryz.prog 94:=kFn
theorem O1:tFn Tryz.prog 53:=kFn
attribute [go_sem] OW Rj O1
def nh(S:Sch)(role t:Int):Bool:=match grF S role t with
 |none=>false
 |some g=>g.write
def oD(ks:List Bool):List SMatch→Nat→Bool
 |[],_=>true
 |m::ms,k=>(!m.present||xO ks k)&&oD ks ms (k+1)
def oo(S:Sch)(role:Int)(e:SEntry):Bool:=oD ((grF S role e.table).getD ip).keys e.ms 0
def tH(S:Sch)(e:SEntry):Bool:=match iW S e.table with
 |none=>false
 |some t=>t.actions.contains e.act
def orE(b:Bool)(e:Int):Int:=if b then 0 else e
def uN(S:Sch)(role:Int)(e:SEntry):List Int:=[orE (iJ S role).isSome 21,orE (iW S e.table).isSome 6,orE (nh S role e.table) 21,dD S e,orE (oo S role e) 21]
noncomputable def Ix (S:Sch) (role:Int) (e:SEntry):List Int:=[orE (tH S e) 6,orE (sJ S role e.act) 21,eN S e,orE (wm S e) 15]
noncomputable def k9 (S:Sch) (role kind:Int) (e:SEntry):Int :=
 if fJ (uN S role e)=0 then(if kind=3 then(if e.act=0∧e.args=[]then 0 else 13)else fJ (Ix S role e))else fJ (uN S role e)
structure SPer(S:Sch):Prop where
 al:SAll S
 rl:SRol S
def R3(P:Program)(H:AHeap)(x:AV)(e:Int):Prop:=∃ (F:FuncId) (a b:Nat),(F=67∨F=40∨F=46)∧x=.func (.func F) [] [.ptr a 0,.ptr b 0]∧ACalls P F [.ptr a 0,.ptr b 0] H (.ret (.int .i64 e)) H
def FnsOk(P:Program)(H:AHeap):List AV→List Int→Prop
 |[],[]=>True
 |x::l,e::es=>R3 P H x e∧FnsOk P H l es
 |_,_=>False
theorem FnsOk.len{P:Program}{H:AHeap}:∀{l:List AV}{es:List Int},FnsOk P H l es→l.length=es.length
 |[],[],_=>rfl
 |x::l,e::es,h=>by rw[yaz,yaz,FnsOk.len h.2]
 |[],_::_,h=>h.elim
 |_::_,[],h=>h.elim
theorem FnsOk.get{P:Program}{H:AHeap}:∀{l:List AV}{es:List Int}{k:Nat},FnsOk P H l es→(hk:k<es.length)→R3 P H (l.getD k .junk) es[k]
 |[],[],k,_,hk=>absurd hk (Nat.not_lt_zero k)
 |x::l,e::es,0,h,_=>h.1
 |x::l,e::es,k+1,h,hk=>FnsOk.get (l:=l) h.2 (by simpa using hk)
 |[],_::_,_,h,_=>h.elim
 |_::_,[],_,h,_=>h.elim
def tE:PCt
 |[.slice _ 1 l],H,K=>∃ es:List Int,(FnsOk Tryz.prog H l es∧es.length≤1000)∧K (.int .i64 (fJ es))
 |_,_,_=>False
theorem Ju:EPp 36 tE:=by
 refine Ype fun _ H K h=>?_
 unfold tE at h
 split at h<;>try exact h.elim
 rename_i m l
 obtain⟨es,⟨hf,hl⟩,hK⟩:=h
 refine⟨_,hK,?_⟩
 clear hK
 generalize hR:fJ es=R
 have hll:=hf.len
 refine Yfv az (tCq (yy (F:=67)) (tCq (yy (F:=40)) (tCq (yy (F:=46)) tNq))) Tryz.func36 [.tmp 2] fun hcl hlt=>?_
 have hm:AV.lt H.nx (.slice m 1 l):=hlt _ Xb
 clear hlt
 simp only[go_sem,hll]
 refine aA (A:=Nat) (fun k=>[(6,.slice m 1 l),(7,.int .i64 (es.length:Int)),(8,.int .i64 (k:Int))]) (fun _=>H) (fun k=>k≤es.length∧fJ (es.drop k)=R) (fun k=>es.length-k) 0 ⟨Xa,hR⟩ ?_ fun k hk=>?_
 ·exact⟨nrq _,lRq _,hcl,by simp[ltF,znf,hm],by simp[aJ,wk2,wk1,wkM,Fr.get]⟩
 clear hR
 obtain⟨hk,hR⟩:=hk
 refine T9 ?_
 refine aq (fun hc=>?_) (fun hc=>?_)
 ·have hk':k<es.length:=sHc
  have hd:es.drop k=es[k]::es.drop (k+1):=dcq hk'
  have e5:=Yk5 k
  obtain⟨F,a,b,hF,hx,hca⟩:=hf.get hk'
  rw[hd,fJ]at hR
  generalize es[k]=e at *
  rcases hF with rfl|rfl|rfl
  all_goals
   simp only[go_sem,iNq,hll,hx,O3]
   refine T1 ?_
   refine⟨_,?_,hca⟩
   refine T28 ?_
   refine aq (fun hq=>?_) (fun hq=>?_)
   ·rw[if_pos hq]at hR
    subst hR
    exact V33
   ·rw[if_neg (by rw[hq];decide)]at hR
    refine T37 ?_
    exact V128
 ·have hk':k=es.length:=sHc
  subst hk'
  rw[List.drop_length]at hR
  subst hR
  refine T9 ?_
  simp (disch:=first|exact Zd|omega) [↓zmo,beq,ybc,ybd,ybe,af,wk,wk2,wk1,wkM,wkL,aj,ybf,hcl,fJ]
theorem QS{n a b:Nat}{f:Fn}(ha:a<n)(hb:b<n):AV.lt n (.func f [] [.ptr a 0,.ptr b 0]):=by
 rw[AV.lt]
 refine⟨fun j hj=>absurd hj Xb,fun j hj=>?_⟩
 match j,hj with
 |0,_=>simpa[znn]using ha
 |1,_=>simpa[znn]using hb
def rc:ECt
 |[.func (.func F) [] caps,.int .i64 e],H,K=>K (.ret (.func (.func 67) [] [.ptr H.nx 0,.ptr (H.nx+1) 0])) ((H.push (.cells [.func (.func F) [] caps])).push (.cells [.int .i64 e]))
 |_,_,_=>False
theorem Em:EEe 37 rc:=by
 refine Yef fun _ H K h=>?_
 unfold rc at h
 split at h<;>try exact h.elim
 rename_i F caps e
 refine⟨_,_,h,?_⟩
 clear h
 refine ACalls.fW az tNq Tryz.func37 [.tmp 4] Xg (T:=ay []) (h:=fun hcl hlt=>?_)
 have hf:AV.lt H.nx (.func (.func F) [] caps):=hlt _ Xb
 have h0:=AV.lt_mono (Nat.le_succ H.nx) _ hf
 clear hlt
 refine T9 ?_
 simp (disch:=first|exact Zd|omega) [↓zmo,beq,ybc,ybd,ybe,af,wk,wk2,wk1,wkM,wkL,aj,ybf,hcl]
 exact QS Xa Xa
def Lz:PCt
 |[.ptr a 0,.ptr b 0],H,K=>∃ (F:FuncId) (caps:List AV) (q:Bool) (e:Int),(H.get a=some (.cells [.func (.func F) [] caps])∧H.get b=some (.cells [.int .i64 e])∧ACalls Tryz.prog F caps H (.ret (.bool q)) H)∧K (.int .i64 (orE q e))
 |_,_,_=>False
theorem ox:EPp 67 Lz:=by
 refine Ype fun _ H K h=>?_
 unfold Lz at h
 split at h<;>try exact h.elim
 rename_i a b
 obtain⟨F,caps,q,e,⟨h1,h2,h3⟩,hK⟩:=h
 refine⟨_,hK,?_⟩
 clear hK
 refine Yfu az (tCq (yy (F:=F)) tNq) Tryz.func67 [.tmp 2] fun hcl=>?_
 have hc1:=ax h1
 have hc2:=ax h2
 have n1:=glq h1
 have n2:=glq h2
 have e1:(a=H.nx)=False:=eFo
 have e2:(b=H.nx)=False:=eFo
 simp only[go_sem,hc1,hc2,e1,e2,h1,h2,O3]
 refine T1 ?_
 refine⟨_,?_,h3⟩
 cases q
 all_goals
  simp only[aF,go_sem,hc1,hc2,e1,e2,h1,h2,orE]
  refine T1 ?_
  simp (disch:=first|exact Zd|omega) [↓zmo,beq,ybc,ybd,ybe,af,wk,wk2,wk1,wkM,wkL,aj,ybf,hcl]
def PO:PCt
 |[.ptr a 0,.ptr b 0],H,K=>∃ (S:Sch) (e:SEntry),(H.get a=some (.cells (bb S))∧H.get b=some (.cells (a9 e))∧S.tables.length≤1000000)∧K (.bool (iW S e.table).isSome)
 |_,_,_=>False
theorem Ql:EPp 30 PO:=by
 refine Ype fun _ H K h=>?_
 unfold PO at h
 split at h<;>try exact h.elim
 rename_i a b
 obtain⟨S,e,⟨ha,hb,hS⟩,hK⟩:=h
 refine⟨_,hK,?_⟩
 clear hK
 generalize hR:(iW S e.table).isSome=R
 refine Yfu az (tCq kY tNq) Tryz.func30 [.tmp 2] fun hcl=>?_
 have ca:=ax ha
 have la:=glq ha
 have ea:(a=H.nx)=False:=eFo
 have cb:=ax hb
 have lb:=glq hb
 have eb:(b=H.nx)=False:=eFo
 simp only[go_sem,ca,ea,ha,cb,eb,hb,bb,a9,jt]
 refine T1 ?_
 refine⟨S,⟨rfl,hS⟩,?_⟩
 rcases fQ (q:=fun t:STable=>t.id==e.table) (l:=S.tables)with⟨b1,b2⟩|⟨i,t,b1,hil,b3,b2,_⟩
 ·have:iW S e.table=none:=b2
  rw[this]at hR
  subst hR
  rw[b1]
  have d:decide ((-1:Int) ≥ 0)=false:=rfl
  exact V81
 ·have:iW S e.table=some t:=b2
  rw[this]at hR
  subst hR
  rw[b1]
  have d:decide ((i:Int) ≥ 0)=true:=Xb
  exact V81
def PX:PCt
 |[.ptr a 0,.ptr b 0,.ptr c 0],H,K=>∃ (S:Sch) (role:Int) (e:SEntry),(H.get a=some (.cells (bb S))∧H.get b=some (.cells [.int .i64 role])∧H.get c=some (.cells (a9 e))∧SRol S)∧K (.bool (nh S role e.table))
 |_,_,_=>False
theorem Qm:EPp 32 PX:=by
 refine Ype fun _ H K h=>?_
 unfold PX at h
 split at h<;>try exact h.elim
 rename_i a b c
 obtain⟨S,role,e,⟨ha,hb,hc,hS⟩,hK⟩:=h
 refine⟨_,hK,?_⟩
 clear hK
 generalize hR:nh S role e.table=R
 refine Yfu az (tCq mP tNq) Tryz.func32 [.tmp 3] fun hcl=>?_
 have ca:=ax ha
 have la:=glq ha
 have ea:(a=H.nx)=False:=eFo
 have cb:=ax hb
 have lb:=glq hb
 have eb:(b=H.nx)=False:=eFo
 have cc:=ax hc
 have lc:=glq hc
 have ec:(c=H.nx)=False:=eFo
 unfold nh at hR
 simp only[go_sem,ca,ea,ha,cb,eb,hb,cc,ec,hc,bb,a9,km]
 refine T1 ?_
 refine⟨S,⟨rfl,hS⟩,?_⟩
 generalize grF S role e.table=o at *
 exact V83
def PT:PCt
 |[.ptr a 0,.ptr b 0,.ptr c 0],H,K=>∃ (S:Sch) (role:Int) (e:SEntry),(H.get a=some (.cells (bb S))∧H.get b=some (.cells [.int .i64 role])∧H.get c=some (.cells (a9 e))∧SRol S∧e.ms.length≤140737488355328)∧K (.bool (oo S role e))
 |_,_,_=>False
theorem QB:EPp 34 PT:=by
 refine Ype fun _ H K h=>?_
 unfold PT at h
 split at h<;>try exact h.elim
 rename_i a b c
 obtain⟨S,role,e,⟨ha,hb,hc,hS,hml⟩,hK⟩:=h
 refine⟨_,hK,?_⟩
 clear hK
 generalize hR:oo S role e=R
 refine Yfu az (tCq mP (tCq vG tNq)) Tryz.func34 [.tmp 3] fun hcl=>?_
 have ca:=ax ha
 have la:=glq ha
 have ea:(a=H.nx)=False:=eFo
 have cb:=ax hb
 have lb:=glq hb
 have eb:(b=H.nx)=False:=eFo
 have cc:=ax hc
 have lc:=glq hc
 have ec:(c=H.nx)=False:=eFo
 unfold oo at hR
 simp only[go_sem,ca,ea,ha,cb,eb,hb,cc,ec,hc,bb,a9,km]
 refine T1 ?_
 refine⟨S,⟨rfl,hS⟩,?_⟩
 generalize (grF S role e.table).getD ip=g at *
 generalize (grF S role e.table).isSome=is at *
 have hc1:(c=H.nx+1)=False:=eFo
 have hclG:=aa hcl (Fa g)
 simp only[aF,go_sem,ca,ea,ha,cb,eb,hb,cc,ec,hc,hc1,bb,a9,bO]
 refine T1 ?_
 refine aA (A:=Nat) (fun k=>[(4,.ptr H.nx 0),(17,.slice .any 8 (e.ms.map aP)),(18,.int .i64 (e.ms.length:Int)),(19,.int .i64 (k:Int))]) (fun _=>H.push (.cells [.int .i64 g.table,.bool g.read,.bool g.write,.slice .any 1 (boL g.keys)]))
  (fun k=>k≤e.ms.length∧oD g.keys (e.ms.drop k) k=R) (fun k=>e.ms.length-k) 0 ⟨Nat.zero_le _,hR⟩ ?_ fun k hk=>?_
 ·refine⟨Xj,by repeat first|exact .refl _|refine .push ?_ _,hclG,?_,?_⟩
  ·exact V99
  ·exact V8
 clear hR
 obtain⟨hk,hR⟩:=hk
 refine T9 ?_
 refine aq (fun hc=>?_) (fun hc=>?_)
 ·have hk':k<e.ms.length:=sHc
  obtain⟨m,hm⟩:∃ m,m=e.ms[k]:=⟨_,rfl⟩
  have hd:e.ms.drop k=m::e.ms.drop (k+1):=by rw[hm];exact dcq hk'
  have hgx:=bf (f:=aP) (l:=e.ms) (k:=k) (x:=m) (by rw[gQq hk',hm])
  have e5:=Yk5 k
  rw[hd,oD]at hR
  cases hp:m.present
  ·rw[hp,Bool.not_false,Bool.true_or,Bool.true_and]at hR
   refine T34 ?_
   refine T1 ?_
   refine⟨k+1,⟨Xa,hR⟩,Xa,?_⟩
   refine⟨Xj,by repeat first|exact .refl _|refine .push ?_ _,hclG,?_,?_⟩
   ·exact V99
   ·exact V8
  ·rw[hp,Bool.not_true,Bool.false_or]at hR
   simp only[bn,aF,bhq,go_sem,iNq,hgx,aP,bQ,vc,yal,yak,ybb,hp,oR]
   refine T1 ?_
   refine⟨g,k,⟨rfl,rfl⟩,?_⟩
   cases hv:xO g.keys k
   ·rw[hv,Bool.false_and]at hR
    subst hR
    refine T12 ?_
    exact Z0
   ·rw[hv,Bool.true_and]at hR
    refine T22 ?_
    refine⟨k+1,⟨Xa,hR⟩,Xa,?_⟩
    refine⟨Xj,by repeat first|exact .refl _|refine .push ?_ _,hclG,?_,?_⟩
    ·exact V99
    ·exact V8
 ·have hk':k=e.ms.length:=sHc
  subst hk'
  rw[List.drop_length,oD]at hR
  subst hR
  exact V33
def PV:PCt
 |[.ptr a 0,.ptr b 0],H,K=>∃ (S:Sch) (role:Int),(H.get a=some (.cells (bb S))∧H.get b=some (.cells [.int .i64 role])∧S.roles.length≤1000000)∧K (.bool (iJ S role).isSome)
 |_,_,_=>False
theorem Q5:EPp 38 PV:=by
 refine Ype fun _ H K h=>?_
 unfold PV at h
 split at h<;>try exact h.elim
 rename_i a b
 obtain⟨S,role,⟨ha,hb,hS⟩,hK⟩:=h
 refine⟨_,hK,?_⟩
 clear hK
 generalize hR:(iJ S role).isSome=R
 refine Yfu az (tCq rX tNq) Tryz.func38 [.tmp 2] fun hcl=>?_
 have ca:=ax ha
 have la:=glq ha
 have ea:(a=H.nx)=False:=eFo
 have cb:=ax hb
 have lb:=glq hb
 have eb:(b=H.nx)=False:=eFo
 simp only[go_sem,ca,ea,ha,cb,eb,hb,bb,n8]
 refine T1 ?_
 refine⟨S,⟨rfl,hS⟩,?_⟩
 rcases fQ (q:=fun t:SRole=>t.id==role) (l:=S.roles)with⟨b1,b2⟩|⟨i,t,b1,hil,b3,b2,_⟩
 ·have:iJ S role=none:=b2
  rw[this]at hR
  subst hR
  rw[b1]
  have d:decide ((-1:Int) ≥ 0)=false:=rfl
  exact V81
 ·have:iJ S role=some t:=b2
  rw[this]at hR
  subst hR
  rw[b1]
  have d:decide ((i:Int) ≥ 0)=true:=Xb
  exact V81
def PW:PCt
 |[.ptr a 0,.ptr b 0],H,K=>∃ (S:Sch) (e:SEntry),(H.get a=some (.cells (bb S))∧H.get b=some (.cells (a9 e))∧SChk S∧EOk e)∧K (.int .i64 (dD S e))
 |_,_,_=>False
theorem Rk:EPp 40 PW:=by
 refine Ype fun _ H K h=>?_
 unfold PW at h
 split at h<;>try exact h.elim
 rename_i a b
 obtain⟨S,e,⟨ha,hb,hS,he⟩,hK⟩:=h
 refine⟨_,hK,?_⟩
 clear hK
 generalize hR:dD S e=R
 refine Yfu az (tCq Bp tNq) Tryz.func40 [.tmp 2] fun hcl=>?_
 have ca:=ax ha
 have la:=glq ha
 have ea:(a=H.nx)=False:=eFo
 have cb:=ax hb
 have lb:=glq hb
 have eb:(b=H.nx)=False:=eFo
 simp only[go_sem,ca,ea,ha,cb,eb,hb,bb,a9,qu]
 refine T1 ?_
 refine⟨S,e,⟨rfl,rfl,hS.sl.tl,hS.sl.fl,fun t ht=>by have:=hS.kl t ht;omega,he⟩,?_⟩
 rw[hR]
 exact V46
def PL:PCt
 |[.ptr a 0,.ptr b 0],H,K=>∃ (S:Sch) (e:SEntry),(H.get a=some (.cells (bb S))∧H.get b=some (.cells (a9 e))∧SAct S∧EArg e)∧K (.int .i64 (eN S e))
 |_,_,_=>False
theorem QQ:EPp 46 PL:=by
 refine Ype fun _ H K h=>?_
 unfold PL at h
 split at h<;>try exact h.elim
 rename_i a b
 obtain⟨S,e,⟨ha,hb,hS,he⟩,hK⟩:=h
 refine⟨_,hK,?_⟩
 clear hK
 generalize hR:eN S e=R
 refine Yfu az (tCq A5 tNq) Tryz.func46 [.tmp 2] fun hcl=>?_
 have ca:=ax ha
 have la:=glq ha
 have ea:(a=H.nx)=False:=eFo
 have cb:=ax hb
 have lb:=glq hb
 have eb:(b=H.nx)=False:=eFo
 simp only[go_sem,ca,ea,ha,cb,eb,hb,bb,a9,pM]
 refine T1 ?_
 refine⟨S,e,⟨rfl,rfl,hS,he⟩,?_⟩
 rw[hR]
 exact V46
def PP:PCt
 |[.ptr a 0,.ptr b 0],H,K=>∃ (S:Sch) (e:SEntry),(H.get a=some (.cells (bb S))∧H.get b=some (.cells (a9 e))∧SAdm S∧EAdm e)∧K (.bool (wm S e))
 |_,_,_=>False
theorem Ri:EPp 48 PP:=by
 refine Ype fun _ H K h=>?_
 unfold PP at h
 split at h<;>try exact h.elim
 rename_i a b
 obtain⟨S,e,⟨ha,hb,hS,he⟩,hK⟩:=h
 refine⟨_,hK,?_⟩
 clear hK
 generalize hR:wm S e=R
 refine Yfu az (tCq PF tNq) Tryz.func48 [.tmp 2] fun hcl=>?_
 have ca:=ax ha
 have la:=glq ha
 have ea:(a=H.nx)=False:=eFo
 have cb:=ax hb
 have lb:=glq hb
 have eb:(b=H.nx)=False:=eFo
 simp only[go_sem,ca,ea,ha,cb,eb,hb,bb,a9,FZ]
 refine T1 ?_
 refine⟨S,e,⟨rfl,rfl,hS,he⟩,?_⟩
 rw[hR]
 exact V46
def PJ:PCt
 |[.ptr a 0,.ptr b 0],H,K=>∃ (S:Sch) (e:SEntry),(H.get a=some (.cells (bb S))∧H.get b=some (.cells (a9 e))∧S.tables.length≤1000000∧(∀ t∈S.tables,t.actions.length≤1000000)∧iW S e.table≠none)∧K (.bool (tH S e))
 |_,_,_=>False
theorem QK:EPp 42 PJ:=by
 refine Ype fun _ H K h=>?_
 unfold PJ at h
 split at h<;>try exact h.elim
 rename_i a b
 obtain⟨S,e,⟨ha,hb,hS,hta,hne⟩,hK⟩:=h
 refine⟨_,hK,?_⟩
 clear hK
 generalize hR:tH S e=R
 refine Yfw az (tCq kY (tCq B8 tNq)) Tryz.func42 [.tmp 2] (nrq _) (T:=ay [(1,[[],[],[],[],[],[2,4],[],[],[5],[],[],[1,2,4,5,8,10]])]) (h:=fun hcl=>?_)
 have ca:=ax ha
 have la:=glq ha
 have ea:(a=H.nx)=False:=eFo
 have cb:=ax hb
 have lb:=glq hb
 have eb:(b=H.nx)=False:=eFo
 unfold tH at hR
 simp only[go_sem,ca,ea,ha,cb,eb,hb,bb,a9,jt]
 refine T1 ?_
 refine⟨S,⟨rfl,hS⟩,?_⟩
 rcases fQ (q:=fun t:STable=>t.id==e.table) (l:=S.tables)with⟨b1,b2⟩|⟨i,t,b1,hil,b3,b2,_⟩
 ·exact absurd b2 hne
 have:iW S e.table=some t:=b2
 rw[this]at hR
 dsimp only at hR
 rw[b1]
 have hg':=bf (f:=bc) (l:=S.tables) (k:=i) (x:=t) b3
 have htl:=hta t (List.mem_of_getElem? b3)
 simp only[aF,go_sem,iNq,hg',bc,ybb,xI]
 refine T1 ?_
 refine⟨t.actions,⟨rfl,htl⟩,?_⟩
 rw[hR]
 exact V46
def PN:PCt
 |[.ptr a 0,.ptr b 0,.ptr c 0],H,K=>∃ (S:Sch) (role:Int) (e:SEntry),(H.get a=some (.cells (bb S))∧H.get b=some (.cells [.int .i64 role])∧H.get c=some (.cells (a9 e))∧SRol S)∧K (.bool (sJ S role e.act))
 |_,_,_=>False
theorem QP:EPp 44 PN:=by
 refine Ype fun _ H K h=>?_
 unfold PN at h
 split at h<;>try exact h.elim
 rename_i a b c
 obtain⟨S,role,e,⟨ha,hb,hc,hS⟩,hK⟩:=h
 refine⟨_,hK,?_⟩
 clear hK
 generalize hR:sJ S role e.act=R
 refine Yfu az (tCq Ec tNq) Tryz.func44 [.tmp 3] fun hcl=>?_
 have ca:=ax ha
 have la:=glq ha
 have ea:(a=H.nx)=False:=eFo
 have cb:=ax hb
 have lb:=glq hb
 have eb:(b=H.nx)=False:=eFo
 have cc:=ax hc
 have lc:=glq hc
 have ec:(c=H.nx)=False:=eFo
 simp only[go_sem,ca,ea,ha,cb,eb,hb,cc,ec,hc,bb,a9,wK]
 refine T1 ?_
 refine⟨S,⟨rfl,hS⟩,?_⟩
 rw[hR]
 exact V46
theorem NH:ti Tryz.prog 44=some ⟨.struct [(0,3,false),(1,26,false)],6,80,.agg [.int .i64 0,.int .i64 0,.slice .nil 1 [],.int .i64 0,.int .i64 0,.slice .nil 1 []]⟩:=krf
theorem Pz:ti Tryz.prog 51=some ⟨.int .i64,1,8,.int .i64 0⟩:=krf
attribute [go_sem] NH Pz
theorem hgt{H:AHeap}{i:Nat}{o:AObj} (h:H.get i=some o:=by
 (repeat rw[gPq _ _ (Xg)])
 exact AHeap.get_push_new _ _):H.get i=some o:=h
theorem tR:∀{xs:List Int},fJ xs=0→∀ x∈xs,x=0
 |[],_,x,hx=>by cases hx
 |y::ys,h,x,hx=>by
  rw[fJ]at h
  split at h
  ·rename_i h1;subst h;simp at h1
  ·rename_i h1
   rcases List.mem_cons.1 hx with rfl|hx
   ·simpa using h1
   ·exact tR h x hx
theorem tV{b:Bool}{e:Int}(h:orE b e=0)(he:e≠0):b=true:=by
 cases b
 ·exact absurd h he
 ·rfl
structure Key5(S:Sch)(role:Int)(e:SEntry):Prop where
 r:(iJ S role).isSome=true
 t:(iW S e.table).isSome=true
 w:nh S role e.table=true
 k:dD S e=0
 s:oo S role e=true
theorem II{S:Sch}{role:Int}{e:SEntry}(h:fJ (uN S role e)=0):Key5 S role e:=by
 have h':=tR h
 unfold uN at h'
 exact⟨tV (h' (orE (iJ S role).isSome 21) Xb) Xc,tV (h' (orE (iW S e.table).isSome 6) Xb) Xc,tV (h' (orE (nh S role e.table) 21) Xb) Xc,h' (dD S e) Xb,tV (h' (orE (oo S role e) 21) Xb) Xc⟩
def qS:PCt
 |[.agg l,.int .i64 role,.agg lu],_,K=>∃ (S:Sch) (kind:Int) (e:SEntry),(l=bb S∧lu=.int .i64 kind::a9 e∧SPer S∧EAll e)∧K (.int .i64 (k9 S role kind e))
 |_,_,_=>False
theorem xt:EPp 11 qS:=by
 refine Ype fun _ H K h=>?_
 unfold qS at h
 split at h<;>try exact h.elim
 rename_i l role lu
 obtain⟨S,kind,e,⟨rfl,rfl,hS,he⟩,hK⟩:=h
 refine⟨_,hK,?_⟩
 clear hK
 generalize hR:k9 S role kind e=R
 unfold k9 at hR
 have hS1:=hS.al
 have hS2:=hS.rl
 have hrl:=hS2.sl.rl
 have htl:=hS2.sl.tl
 have hta:∀ t∈S.tables,t.actions.length≤1000000:=fun t ht=>by have:=(hS1.ac.tl t ht).1;omega
 refine Yfu az (tCq Em (tCq Ju tNq)) Tryz.func11 [.tmp 6] fun hcl=>?_
 simp only[go_sem,bb,a9,rc,tE]
 refine T1 ?_
 refine⟨uN S role e,⟨⟨?_,?_,?_,?_,?_,trivial⟩,by simp[uN]⟩,?_⟩
 ·exact⟨_,_,_,.inl rfl,rfl,clB ox ⟨38,[.ptr H.nx 0,.ptr (H.nx+1) 0],_,_,⟨hgt,hgt,clB Q5 ⟨S,role,⟨hgt,hgt,hrl⟩,rfl⟩⟩,rfl⟩⟩
 ·exact⟨_,_,_,.inl rfl,rfl,clB ox ⟨30,[.ptr H.nx 0,.ptr (H.nx+1+1+1) 0],_,_,⟨hgt,hgt,clB Ql ⟨S,e,⟨hgt,hgt,htl⟩,rfl⟩⟩,rfl⟩⟩
 ·exact⟨_,_,_,.inl rfl,rfl,clB ox ⟨32,[.ptr H.nx 0,.ptr (H.nx+1) 0,.ptr (H.nx+1+1+1) 0],_,_,⟨hgt,hgt,clB Qm ⟨S,role,e,⟨hgt,hgt,hgt,hS2⟩,rfl⟩⟩,rfl⟩⟩
 ·exact⟨_,_,_,.inr (.inl rfl),rfl,clB Rk ⟨S,e,⟨hgt,hgt,hS1.ck,he.ok⟩,rfl⟩⟩
 ·exact⟨_,_,_,.inl rfl,rfl,clB ox ⟨34,[.ptr H.nx 0,.ptr (H.nx+1) 0,.ptr (H.nx+1+1+1) 0],_,_,⟨hgt,hgt,clB QB ⟨S,role,e,⟨hgt,hgt,hgt,hS2,he.ok.ml⟩,rfl⟩⟩,rfl⟩⟩
 by_cases hk:fJ (uN S role e)=0
 rotate_left
 ·rw[if_neg hk]at hR
  generalize fJ (uN S role e)=k at *
  subst hR
  have d:(k !=0)=true:=by simp[hk]
  refine T45 ?_
  exact V3
 rw[if_pos hk]at hR
 have hz:=II hk
 rw[hk]
 have d:((0:Int) !=0)=false:=rfl
 by_cases h3:kind=3
 ·rw[if_pos h3]at hR
  have d3:(kind==3)=true:=by simp[h3]
  by_cases ha:e.act=0
  ·have da:(e.act !=0)=false:=by simp[ha]
   by_cases hg:e.args=[]
   ·rw[if_pos ⟨ha,hg⟩]at hR
    subst hR
    have dg:decide (((0:Nat):Int)>0)=false:=rfl
    simp only[bn,aF,bhq,go_sem,d,d3,da,hg,yaf,yba,dg]
    try simp (disch:=first|exact Zd|omega) [↓zmo,beq,ybc,ybd,ybe,af,wk,wk2,wk1,wkM,wkL,aj,ybf,hcl]
    try exact V9
   ·rw[if_neg (fun x=>hg x.2)]at hR
    subst hR
    have dg:decide ((e.args.length:Int)>0)=true:=by
     cases hq:e.args with
     |nil=>exact absurd hq hg
     |cons x xs=>simp
    simp only[bn,aF,bhq,go_sem,d,d3,da,ybb,dg]
    try simp (disch:=first|exact Zd|omega) [↓zmo,beq,ybc,ybd,ybe,af,wk,wk2,wk1,wkM,wkL,aj,ybf,hcl]
    try exact V9
  ·rw[if_neg (fun x=>ha x.1)]at hR
   subst hR
   have da:(e.act !=0)=true:=by simp[ha]
   simp only[bn,aF,bhq,go_sem,d,d3,da]
   try simp (disch:=first|exact Zd|omega) [↓zmo,beq,ybc,ybd,ybe,af,wk,wk2,wk1,wkM,wkL,aj,ybf,hcl]
   try exact V9
 rw[if_neg h3]at hR
 have d3:(kind==3)=false:=by simp[h3]
 simp only[bn,aF,bhq,go_sem,d,d3,bb,a9,rc,tE]
 refine T1 ?_
 refine⟨Ix S role e,⟨⟨?_,?_,?_,?_,trivial⟩,by simp[Ix]⟩,?_⟩
 ·exact⟨_,_,_,.inl rfl,rfl,clB ox ⟨42,[.ptr H.nx 0,.ptr (H.nx+1+1+1) 0],_,_,⟨hgt,hgt,clB QK ⟨S,e,⟨hgt,hgt,htl,hta,fun h=>by have:=hz.t;rw[h]at this;cases this⟩,rfl⟩⟩,rfl⟩⟩
 ·exact⟨_,_,_,.inl rfl,rfl,clB ox ⟨44,[.ptr H.nx 0,.ptr (H.nx+1) 0,.ptr (H.nx+1+1+1) 0],_,_,⟨hgt,hgt,clB QP ⟨S,role,e,⟨hgt,hgt,hgt,hS2⟩,rfl⟩⟩,rfl⟩⟩
 ·exact⟨_,_,_,.inr (.inr rfl),rfl,clB QQ ⟨S,e,⟨hgt,hgt,hS1.ac,he.ar⟩,rfl⟩⟩
 ·exact⟨_,_,_,.inl rfl,rfl,clB ox ⟨48,[.ptr H.nx 0,.ptr (H.nx+1+1+1) 0],_,_,⟨hgt,hgt,clB Ri ⟨S,e,⟨hgt,hgt,hS1.ad,he.ad⟩,rfl⟩⟩,rfl⟩⟩
 rw[hR]
 refine T42 ?_
 exact V3
noncomputable def Ge (S:Sch) (role kind:Int) (e:SEntry):Int:=if kind=3 then(if e.act=0∧e.args=[]then 0 else 13)else fJ (Ix S role e)
structure SGk(S:Sch):Prop where
 p:SPer S
 gk:∀ role t g tb,grF S role t=some g→iW S t=some tb→tb.keys.length≤g.keys.length
theorem Qy{S:Sch}{role kind:Int}{e:SEntry}(h:iJ S role=none):k9 S role kind e=21:=by
 simp[k9,uN,fJ,orE,h]
theorem Qi{S:Sch}{role kind:Int}{e:SEntry}{r:SRole}(h:iJ S role=some r)(h2:iW S e.table=none):k9 S role kind e=6:=by
 simp[k9,uN,fJ,orE,h,h2]
theorem LN{S:Sch}{role kind:Int}{e:SEntry}{r:SRole}{t:STable}(h:iJ S role=some r)(h2:iW S e.table=some t)(h3:nh S role e.table=false):k9 S role kind e=21:=by
 simp[k9,uN,fJ,orE,h,h2,h3]
theorem Qj{S:Sch}{role kind:Int}{e:SEntry}{r:SRole}{t:STable}(h:iJ S role=some r)(h2:iW S e.table=some t)(h3:nh S role e.table=true)(h4:dD S e≠0):k9 S role kind e=dD S e:=by
 simp[k9,uN,fJ,orE,h,h2,h3,h4]
theorem Qx{S:Sch}{role kind:Int}{e:SEntry}{r:SRole}{t:STable}(h:iJ S role=some r)(h2:iW S e.table=some t)(h3:nh S role e.table=true)(h4:dD S e=0):k9 S role kind e=if oo S role e=true then Ge S role kind e else 21:=by
 cases h5:oo S role e<;>simp[k9,Ge,uN,fJ,orE,h,h2,h3,h4,h5]
theorem Q0{S:Sch}{role:Int}{e:SEntry}:fJ (Ix S role e)=if tH S e=true then(if sJ S role e.act=true then(if eN S e=0 then(if wm S e=true then 0 else 15)else eN S e)else 21)else 6:=by
 unfold Ix
 cases tH S e
 ·rfl
 cases sJ S role e.act
 ·rfl
 by_cases h:eN S e=0
 ·rw[h];cases wm S e<;>rfl
 ·simp[fJ,orE,h]
theorem Cb{S:Sch}{e:SEntry}{t:STable}(h:dD S e=0)(ht:iW S e.table=some t):e.ms.length=t.keys.length:=by
 unfold dD at h
 rw[ht]at h
 dsimp only at h
 by_cases hl:e.ms.length=t.keys.length
 ·exact hl
 ·rw[if_neg hl]at h;cases h
def u4:PCt
 |[.agg l,.int .i64 role,.agg lu],_,K=>∃ (S:Sch) (kind:Int) (e:SEntry),(l=bb S∧lu=.int .i64 kind::a9 e∧SGk S∧EAll e)∧K (.int .i64 (k9 S role kind e))
 |_,_,_=>False
theorem FU:EPp 12 u4:=by
 refine Ype fun _ H K h=>?_
 unfold u4 at h
 split at h<;>try exact h.elim
 rename_i l role lu
 obtain⟨S,kind,e,⟨rfl,rfl,hS,he⟩,hK⟩:=h
 refine⟨_,hK,?_⟩
 clear hK
 generalize hR:k9 S role kind e=R
 have hS1:=hS.p.al
 have hS2:=hS.p.rl
 have hrl:=hS2.sl.rl
 have htl:=hS2.sl.tl
 have hml:=he.ok.ml
 have hta:∀ t∈S.tables,t.actions.length≤1000000:=fun t ht=>by have:=(hS1.ac.tl t ht).1;omega
 refine Yfw az (tCq sN (tCq mJ (tCq Ji (tCq BR (tCq La (tCq Ob (tCq Bg (tCq OT tNq)))))))) Tryz.func12 [.tmp 6] (nrq _) (T:=ay [(23,[[],[],[],[],[],[],[],[],[1,5,7]])]) (h:=fun hcl=>?_)
 simp only[go_sem,bb,a9,n7]
 refine T1 ?_
 refine⟨S,⟨rfl,hS2.sl⟩,?_⟩
 rcases fQ (q:=fun t:SRole=>t.id==role) (l:=S.roles)with⟨b1,b2⟩|⟨i,r,b1,hil,b3,b2,_⟩
 ·rw[Qy b2]at hR
  subst hR
  rw[b1]
  have d:decide ((-1:Int)<0)=true:=rfl
  simp only[aF,go_sem,d]
  exact V3
 have hrf:iJ S role=some r:=b2
 rw[b1]
 have d:decide ((i:Int)<0)=false:=Xb
 simp only[aF,go_sem,d,bb,a9,kF]
 refine T1 ?_
 refine⟨S,⟨rfl,hS2.sl⟩,?_⟩
 clear d b1 b2 b3 hil
 rcases fQ (q:=fun t:STable=>t.id==e.table) (l:=S.tables)with⟨b1,b2⟩|⟨j,t,b1,hjl,b3,b2,_⟩
 ·rw[Qi hrf b2]at hR
  subst hR
  rw[b1]
  have d:decide ((-1:Int)<0)=true:=rfl
  simp only[aF,go_sem,d]
  exact V3
 have htf:iW S e.table=some t:=b2
 rw[b1]
 have d:decide ((j:Int)<0)=false:=Xb
 simp only[aF,go_sem,d,bb,a9,yN]
 refine T1 ?_
 refine⟨S,⟨rfl,hS2⟩,?_⟩
 have hwB:nh S role e.table=match grF S role e.table with|none=>false|some g=>g.write:=rfl
 have hsh:oo S role e=oD ((grF S role e.table).getD ip).keys e.ms 0:=rfl
 have hgk:=hS.gk role e.table
 generalize grF S role e.table=o at *
 cases o with
 |none =>
  dsimp only at hwB
  rw[LN hrf htf hwB]at hR
  subst hR
  simp only[aF,go_sem,Option.getD_none,yax,bO,ip,Bool.not_false]
  exact V3
 |some g =>
 dsimp only at hwB
 rw[Option.getD_some]at hsh
 have hgk:=hgk g t rfl htf
 simp only[aF,go_sem,Option.getD_some,yaw,bO,Bool.not_true]
 cases hw:g.write
 ·rw[LN hrf htf (hwB.trans hw)]at hR
  subst hR
  simp only[aF,go_sem,Bool.not_false]
  exact V3
 rw[hw]at hwB
 simp only[aF,go_sem,Bool.not_true,bb,a9,qc]
 refine T1 ?_
 refine⟨S,e,⟨rfl,rfl,hS1.ck,he.ok⟩,?_⟩
 by_cases hk:dD S e=0
 rotate_left
 ·rw[Qj hrf htf hwB hk]at hR
  rw[hR]at hk ⊢
  have d:(R !=0)=true:=by simp[hk]
  simp only[aF,go_sem,d]
  exact V3
 rw[Qx hrf htf hwB hk,hsh]at hR
 have hlen:=Cb hk htf
 rw[hk]
 have d0:((0:Int) !=0)=false:=rfl
 have hclG:=aa (aa (aa (aa hcl (ne S)) (cs:=[.int .i64 kind,.int .i64 e.table,.slice .any 8 (e.ms.map aP),.int .i64 e.prio,.int .i64 e.act,.slice .any 2 (e.args.map vv)]) (by simp[znu,znv,znf,bk cN,nt])) (cs:=[.int .i64 e.table,.slice .any 8 (e.ms.map aP),.int .i64 e.prio,.int .i64 e.act,.slice .any 2 (e.args.map vv)]) (by simp[znu,znv,znf,bk cN,nt])) (Fa g)
 simp only[aF,go_sem,d0,ybb]
 refine aA (A:=Nat) (fun k=>[(1,.int .i64 role),(3,.ptr H.nx 0),(5,.ptr (H.nx+1) 0),(7,.ptr (H.nx+1+1) 0),(8,.int .i64 (j:Int)),(9,.ptr (H.nx+1+1+1) 0),(49,.slice .any 8 (e.ms.map aP)),(50,.int .i64 (e.ms.length:Int)),(51,.int .i64 (k:Int))]) (fun _=>(((H.push (.cells [.slice .any 3 (S.fields.map cD),.slice .any 3 (S.headers.map gr),.slice .any 5 (S.states.map dY),.slice .any 5 (S.actions.map bu),.slice .any 8 (S.tables.map bc),.slice .any 2 (S.stages.map jh),.slice .any 6 (S.roles.map cG),.slice .any 6 (S.refs.map pj),.int .i64 S.maxBatch,.int .i64 S.budget])).push (.cells [.int .i64 kind,.int .i64 e.table,.slice .any 8 (e.ms.map aP),.int .i64 e.prio,.int .i64 e.act,.slice .any 2 (e.args.map vv)])).push (.cells [.int .i64 e.table,.slice .any 8 (e.ms.map aP),.int .i64 e.prio,.int .i64 e.act,.slice .any 2 (e.args.map vv)])).push (.cells [.int .i64 g.table,.bool g.read,.bool true,.slice .any 1 (boL g.keys)]))
  (fun k=>k≤e.ms.length∧(if oD g.keys (e.ms.drop k) k=true then Ge S role kind e else 21)=R) (fun k=>e.ms.length-k) 0 ⟨Nat.zero_le _,hR⟩ ?_ fun k hkk=>?_
 all_goals rw[hw]at hclG
 ·refine⟨Xj,by repeat first|exact .refl _|refine .push ?_ _,hclG,?_,?_⟩
  ·exact V99
  ·exact V8
 clear hR
 obtain⟨hk',hR⟩:=hkk
 refine T9 ?_
 refine aq (fun hc=>?_) (fun hc=>?_)
 ·have hk':k<e.ms.length:=sHc
  obtain⟨m,hm⟩:∃ m,m=e.ms[k]:=⟨_,rfl⟩
  have hd:e.ms.drop k=m::e.ms.drop (k+1):=by rw[hm];exact dcq hk'
  have hgx:=bf (f:=aP) (l:=e.ms) (k:=k) (x:=m) (by rw[gQq hk',hm])
  have e5:=Yk5 k
  rw[hd,oD]at hR
  cases hp:m.present
  ·rw[hp,Bool.not_false,Bool.true_or,Bool.true_and]at hR
   refine T34 ?_
   refine T1 ?_
   refine⟨k+1,⟨Xa,hR⟩,Xa,?_⟩
   refine⟨Xj,by repeat first|exact .refl _|refine .push ?_ _,hclG,?_,?_⟩
   ·exact V99
   ·exact V8
  ·rw[hp,Bool.not_true,Bool.false_or]at hR
   have hkg:k<g.keys.length:=Xa
   obtain⟨b,hb⟩:∃ b,xO g.keys k=b:=⟨_,rfl⟩
   have hbl:(boL g.keys).length=g.keys.length:=by simp[boL]
   have hgb:(boL g.keys).getD k .junk=.bool b:=by
    refine bf (f:=AV.bool) (l:=g.keys) (k:=k) (x:=b) ?_
    rw[← hb,gQq hkg]
    unfold xO
    rw[gEq,gQq hkg,Option.getD_some]
   rw[hb]at hR
   simp only[bn,aF,bhq,go_sem,iNq,hgx,hgb,hbl,aP,bQ,vc,yal,yak,ybb,hp]
   refine T1 ?_
   cases b
   ·rw[Bool.false_and,if_neg (Xc)]at hR
    subst hR
    refine T12 ?_
    exact V3
   ·rw[Bool.true_and]at hR
    refine T22 ?_
    refine T1 ?_
    refine⟨k+1,⟨Xa,hR⟩,Xa,?_⟩
    refine⟨Xj,by repeat first|exact .refl _|refine .push ?_ _,hclG,?_,?_⟩
    ·exact V99
    ·exact V8
 have hk':k=e.ms.length:=sHc
 subst hk'
 rw[List.drop_length,oD,if_pos rfl]at hR
 unfold Ge at hR
 clear hsh hgk hlen
 by_cases h3:kind=3
 ·rw[if_pos h3]at hR
  have d3:(kind==3)=true:=by simp[h3]
  by_cases ha:e.act=0
  ·have da:(e.act !=0)=false:=by simp[ha]
   by_cases hg:e.args=[]
   ·rw[if_pos ⟨ha,hg⟩]at hR
    subst hR
    have dg:decide (((0:Nat):Int)>0)=false:=rfl
    simp only[bn,aF,bhq,go_sem,d3,da,hg,yaf,yba,dg]
    try simp (disch:=first|exact Zd|omega) [↓zmo,beq,ybc,ybd,ybe,af,wk,wk2,wk1,wkM,wkL,aj,ybf,hcl]
    try exact V9
   ·rw[if_neg (fun x=>hg x.2)]at hR
    subst hR
    have dg:decide ((e.args.length:Int)>0)=true:=by
     cases hq:e.args with
     |nil=>exact absurd hq hg
     |cons x xs=>simp
    simp only[bn,aF,bhq,go_sem,d3,da,ybb,dg]
    try simp (disch:=first|exact Zd|omega) [↓zmo,beq,ybc,ybd,ybe,af,wk,wk2,wk1,wkM,wkL,aj,ybf,hcl]
    try exact V9
  ·rw[if_neg (fun x=>ha x.1)]at hR
   subst hR
   have da:(e.act !=0)=true:=by simp[ha]
   simp only[bn,aF,bhq,go_sem,d3,da]
   try simp (disch:=first|exact Zd|omega) [↓zmo,beq,ybc,ybd,ybe,af,wk,wk2,wk1,wkM,wkL,aj,ybf,hcl]
   try exact V9
 rw[if_neg h3,Q0]at hR
 have d3:(kind==3)=false:=by simp[h3]
 have hai:tH S e=t.actions.contains e.act:=by unfold tH;rw[htf]
 have hg':=bf (f:=bc) (l:=S.tables) (k:=j) (x:=t) b3
 have htal:=hta t (List.mem_of_getElem? b3)
 simp only[bn,aF,bhq,go_sem,d3,iNq,hg',bc,ybb,Hf]
 refine T1 ?_
 refine⟨t.actions,⟨rfl,htal⟩,?_⟩
 rw[← hai]
 cases h1:tH S e
 ·rw[h1,if_neg (Xc)]at hR
  subst hR
  refine T12 ?_
  exact V3
 rw[h1,if_pos rfl]at hR
 simp only[bn,aF,bhq,go_sem,Bool.not_true,bb,Er]
 refine T1 ?_
 refine⟨S,⟨rfl,hS2,by rw[hrf];exact fun h=>nomatch h⟩,?_⟩
 cases h2:sJ S role e.act
 ·rw[h2,if_neg (Xc)]at hR
  subst hR
  refine T12 ?_
  exact V3
 rw[h2,if_pos rfl]at hR
 simp only[bn,aF,bhq,go_sem,Bool.not_true,bb,a9,qx]
 refine T1 ?_
 refine⟨S,e,⟨rfl,rfl,hS1.ac,he.ar⟩,?_⟩
 by_cases hk:eN S e=0
 rotate_left
 ·rw[if_neg hk]at hR
  rw[hR]at hk ⊢
  have d:(R !=0)=true:=by simp[hk]
  refine T45 ?_
  exact V3
 rw[if_pos hk]at hR
 rw[hk]
 simp only[bn,aF,bhq,go_sem,d0,bb,a9,Ej]
 refine T1 ?_
 refine⟨S,e,⟨rfl,rfl,hS1.ad,he.ad⟩,?_⟩
 cases h4:wm S e
 ·rw[h4,if_neg (Xc)]at hR
  subst hR
  refine T12 ?_
  exact V3
 ·rw[h4,if_pos rfl]at hR
  subst hR
  refine T38 ?_
  exact V3
end Go.AL
