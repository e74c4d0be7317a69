/- Lemmas of the proof; no condition. -/
import Derived.Test.YtjnhidpnfdbmaaaGreatS12j
import Derived.Test.YtjnhidpnfdbmaaaGreatS12b
import Derived.Test.YtjnhidpnfdbmaaaGreatS11g
import Derived.Test.YtjnhidpnfdbmaaaGreatS12g
set_option linter.all false
set_option maxRecDepth 10000
set_option maxHeartbeats 32000000
open List renaming length_cons → yaz, length_nil → yba, length_map → ybb, take_of_length_le → ybc, drop_append → ybd, take_append → ybe, drop_eq_nil_of_le → ybf, take_succ_cons → yaq, take_zero → yar, drop_succ_cons → yao, drop_zero → yap, cons_append → yal, nil_append → yak, map_nil → yaf
open Option renaming isSome_none → yax, isSome_some → yaw
open Go Go.AL Go.Proofs
namespace Go.AL
def ii (S:Sch) (id:Int):Option SRole:=S.roles.find? fun r=>r.id==id
def eV:SGrant:=⟨0,false,false,[]⟩
def grF (S:Sch) (role t:Int):Option SGrant:=match ii S role with
 |none=>none
 |some r=>r.grants.find? fun g=>g.table==t
def qR (S:Sch) (role a:Int):Bool:=match ii S role with
 |none=>false
 |some r=>r.actions.contains a
def mu (S:Sch) (role t:Int):Bool:=match grF S role t with
 |none=>false
 |some g=>g.read
structure SRol (S:Sch):Prop where
 sl:SLen S
 gl:∀ r∈S.roles,r.grants.length≤1000000∧r.actions.length≤1000000∧∀ g∈r.grants,g.keys.length≤1000000
theorem zt {S:Sch} {role t:Int} {g:SGrant} (h:grF S role t=some g):∃ r,ii S role=some r∧r∈S.roles∧g∈r.grants∧g.table=t:=by
 unfold grF at h
 cases hr:ii S role with
 |none=>rw [hr] at h;cases h
 |some r =>
  rw [hr] at h
  dsimp only at h
  refine ⟨r,rfl,List.mem_of_find?_eq_some hr,List.mem_of_find?_eq_some h,?_⟩
  have:=List.find?_some h
  simpa using this
theorem Bg {n:Nat} (g:SGrant):ltL n [.int .i64 g.table,.bool g.read,.bool g.write,.slice .any 1 (boL g.keys)]:=by
 have:=jH (n:=n) g
 unfold bh at this
 rwa [znr] at this
def F5:List AV→AHeap→(AV→Prop)→Prop
 |[.slice _ 1 l,.int .i64 n],_,K=>∃ xs:List Int,(l=inL xs∧xs.length≤1000000)∧K (.bool (xs.contains n))
 |_,_,_=>False
theorem KL:EntOk Tryz.prog 52 (Ent.pure F5):=by
 refine Ype fun _ H K h=>?_
 unfold F5 at h
 split at h
 rotate_left
 ·exact h.elim
 rename_i m l n
 obtain ⟨xs,⟨rfl,hl⟩,hK⟩:=h
 refine ⟨_,hK,?_⟩
 clear hK
 generalize hR:xs.contains n=R
 refine ACalls.fW au tNq Tryz.func52 [.tmp 4] (nrq _) (T:=aq []) (h:=fun hcl hlt=>?_)
 have hm:AV.lt H.nx (.slice m 1 (inL xs)):=hlt _ (by simp)
 clear hlt
 simp only [go_sem,inL,ybb]
 refine az (A:=Nat) (fun k=>[(1,.int .i64 n),(7,.slice m 1 (inL xs)),(8,.int .i64 (xs.length:Int)),(9,.int .i64 (k:Int))]) (fun _=>H) (fun k=>k≤xs.length∧(xs.drop k).contains n=R) (fun k=>xs.length - k) 0 ⟨by omega,hR⟩ ?_ fun k hk=>?_
 ·exact ⟨nrq _,lRq _,hcl,by simp [ltF,znf,hm],by simp [aJ,wk2,wk1,wkM,Fr.get,inL]⟩
 clear hR
 obtain ⟨hk,hR⟩:=hk
 simp only [go_sem]
 refine ai (fun hc=>?_) (fun hc=>?_)
 ·have hk':k<xs.length:=by simp at hc;omega
  obtain ⟨x,hx⟩:∃ x,x=xs[k]:=⟨_,rfl⟩
  have hd:xs.drop k=x::xs.drop (k+1):=by rw [hx];exact dcq hk'
  have hg':(inL xs).getD k .junk=.int .i64 x:=aX (f:=AV.int .i64) (l:=xs) (k:=k) (x:=x) (by rw [gQq hk',hx])
  have hil:(inL xs).length=xs.length:=by simp [inL]
  have e5:=Yk5 k
  rw [hd,List.contains_cons] at hR
  simp only [go_sem,iNq,hil,hg']
  try (repeat with_reducible refine Yq ?_)
  refine ai (fun hq=>?_) (fun hq=>?_)
  ·have:(n==x)=true:=by simp at hq ⊢;exact hq.symm
   rw [this,Bool.true_or] at hR
   subst hR
   simp only [go_sem]
   exact Z0
  ·have:(n==x)=false:=by simp at hq ⊢;exact fun h=>hq h.symm
   rw [this,Bool.false_or] at hR
   simp only [go_sem,e5]
   exact ⟨k+1,⟨by omega,hR⟩,by omega,nrq _,lRq _,hcl,by simp [ltF,znf,hm],by simp [aJ,wk2,wk1,wkM,Fr.get]⟩
 ·have hk':k=xs.length:=by simp at hc;omega
  subst hk'
  rw [List.drop_length] at hR
  subst hR
  simp only [go_sem]
  exact Z0
def o9:List AV→AHeap→(AV→Prop)→Prop
 |[.agg l,.int .i64 role,.int .i64 t],_,K=>∃ S:Sch,(l=aN S∧SRol S)∧K (.tup [bh ((grF S role t).getD eV),.bool (grF S role t).isSome])
 |_,_,_=>False
theorem vq:EntOk Tryz.prog 24 (Ent.pure o9):=by
 refine Ype fun _ H K h=>?_
 unfold o9 at h
 split at h
 rotate_left
 ·exact h.elim
 rename_i l role t
 obtain ⟨S,⟨rfl,hS⟩,hK⟩:=h
 refine ⟨_,hK,?_⟩
 clear hK
 generalize hR:grF S role t=R
 unfold grF ii at hR
 refine ACalls.fW au (tCq tV tNq) Tryz.func24 [.cell 6 69,.tmp 7] (nrq _) (T:=aq []) (h:=fun hcl hlt=>?_)
 clear hlt
 simp only [go_sem,aN,nL]
 refine ⟨S,⟨rfl,hS.sl⟩,?_⟩
 rcases gq (q:=fun r:SRole=>r.id==role) (l:=S.roles) with ⟨b1,b2⟩|⟨i,r,b1,hil,b3,b2,_⟩
 ·rw [b2] at hR
  dsimp only at hR
  subst hR
  rw [b1]
  have d:decide ((-1:Int)<0)=true:=rfl
  simp only [aG,go_sem,d]
  exact Z29
 rw [b2] at hR
 dsimp only at hR
 rw [b1]
 have d:decide ((i:Int)<0)=false:=by simp
 have hg':=aX (f:=ce) (l:=S.roles) (k:=i) (x:=r) b3
 have hgl:=(hS.gl r (List.mem_of_getElem? b3)).1
 have hclG:=aa (cs:=[.int .i64 0,.bool false,.bool false,.slice .nil 1 []]) (aa hcl (t7 S)) (by simp [znu,znv,znf,zng,aA])
 simp only [aG,go_sem,d,iNq,hg',ce,ybb]
 (repeat with_reducible refine Yq ?_)
 refine az (A:=Nat) (fun k=>[(2,.int .i64 t),(6,.ptr (H.nx+1) 0),(22,.slice .any 4 (r.grants.map bh)),(23,.int .i64 (r.grants.length:Int)),(24,.int .i64 (k:Int))]) (fun _=>(H.push (.cells [.slice .any 3 (S.fields.map cq),.slice .any 3 (S.headers.map i9),.slice .any 5 (S.states.map dX),.slice .any 5 (S.actions.map bf),.slice .any 8 (S.tables.map ba),.slice .any 2 (S.stages.map ly),.slice .any 6 (S.roles.map ce),.slice .any 6 (S.refs.map tR),.int .i64 S.maxBatch,.int .i64 S.budget])).push (.cells [.int .i64 0,.bool false,.bool false,.slice .nil 1 []]))
  (fun k=>k≤r.grants.length∧(r.grants.drop k).find? (fun g=>g.table==t)=R) (fun k=>r.grants.length - k) 0 ⟨Nat.zero_le _,hR⟩ ?_ fun k hk=>?_
 ·refine ⟨by (try simp only [zkq,zkv,zle]);omega,by repeat first|exact .refl _|refine .push ?_ _,hclG,?_,?_⟩
  ·simp [ltF,zle,znn,znf,aQ jH]
   try omega
  ·simp [aJ,wk2,wk1,wkM,Fr.get]
 clear hR
 obtain ⟨hk,hR⟩:=hk
 simp only [go_sem]
 refine ai (fun hc=>?_) (fun hc=>?_)
 ·have hk':k<r.grants.length:=by simp at hc;omega
  obtain ⟨g,hx⟩:∃ g,g=r.grants[k]:=⟨_,rfl⟩
  have hd:r.grants.drop k=g::r.grants.drop (k+1):=by rw [hx];exact dcq hk'
  have hgx:=aX (f:=bh) (l:=r.grants) (k:=k) (x:=g) (by rw [gQq hk',hx])
  have e5:=Yk5 k
  rw [hd,List.find?_cons] at hR
  simp only [a9,aG,bhq,Nat.reduceMod,Nat.reduceDiv,aB,aC,aE,aV,aD,aU,aP,aS,aT,yaq,yar,yao,yap,go_sem,iNq,hgx,bh,ybb]
  try (repeat with_reducible refine Yq ?_)
  refine ai (fun hq=>?_) (fun hq=>?_)
  ·rw [hq] at hR
   subst hR
   simp only [go_sem]
   exact Z30
  ·rw [hq] at hR
   simp only [go_sem,e5]
   refine ⟨k+1,⟨by omega,hR⟩,by omega,?_⟩
   refine ⟨by (try simp only [zkq,zkv,zle]);omega,by repeat first|exact .refl _|refine .push ?_ _,hclG,?_,?_⟩
   ·simp [ltF,zle,znn,znf,aQ jH]
    try omega
   ·simp [aJ,wk2,wk1,wkM,Fr.get]
 ·have hk':k=r.grants.length:=by simp at hc;omega
  subst hk'
  rw [List.drop_length] at hR
  subst hR
  simp only [go_sem]
  exact Z29
def z4:List AV→AHeap→(AV→Prop)→Prop
 |[.agg l,.int .i64 role,.int .i64 a],_,K=>∃ S:Sch,(l=aN S∧SRol S∧ii S role≠none)∧K (.bool (qR S role a))
 |_,_,_=>False
theorem IJ:EntOk Tryz.prog 53 (Ent.pure z4):=by
 refine Ype fun _ H K h=>?_
 unfold z4 at h
 split at h
 rotate_left
 ·exact h.elim
 rename_i l role a
 obtain ⟨S,⟨rfl,hS,hne⟩,hK⟩:=h
 refine ⟨_,hK,?_⟩
 clear hK
 generalize hR:qR S role a=R
 unfold qR ii at hR
 unfold ii at hne
 refine ACalls.fW au (tCq tV (tCq KL tNq)) Tryz.func53 [.tmp 6] (nrq _) (T:=aq [(1,[[],[],[],[],[2],[],[],[4],[],[1,2,4,7]])]) (h:=fun hcl hlt=>?_)
 clear hlt
 simp only [go_sem,aN,nL]
 refine ⟨S,⟨rfl,hS.sl⟩,?_⟩
 rcases gq (q:=fun r:SRole=>r.id==role) (l:=S.roles) with ⟨b1,b2⟩|⟨i,r,b1,hil,b3,b2,_⟩
 ·exact absurd b2 hne
 rw [b2] at hR
 dsimp only at hR
 rw [b1]
 have hg':=aX (f:=ce) (l:=S.roles) (k:=i) (x:=r) b3
 have hgl:=(hS.gl r (List.mem_of_getElem? b3)).2.1
 simp only [aG,go_sem,iNq,hg',ce,ybb,F5]
 try (repeat with_reducible refine Yq ?_)
 refine ⟨r.actions,⟨rfl,hgl⟩,?_⟩
 rw [hR]
 try simp only [aG,go_sem]
 exact Z0
def j6:List AV→AHeap→(AV→Prop)→Prop
 |[.agg l,.int .i64 role,.int .i64 t],_,K=>∃ S:Sch,(l=aN S∧SRol S)∧K (.bool (mu S role t))
 |_,_,_=>False
theorem xq:EntOk Tryz.prog 15 (Ent.pure j6):=by
 refine Ype fun _ H K h=>?_
 unfold j6 at h
 split at h
 rotate_left
 ·exact h.elim
 rename_i l role t
 obtain ⟨S,⟨rfl,hS⟩,hK⟩:=h
 refine ⟨_,hK,?_⟩
 clear hK
 generalize hR:mu S role t=R
 unfold mu at hR
 refine ACalls.fW au (tCq vq tNq) Tryz.func15 [.tmp 6] (nrq _) (T:=aq []) (h:=fun hcl hlt=>?_)
 clear hlt
 simp only [go_sem,aN,o9]
 refine ⟨S,⟨rfl,hS⟩,?_⟩
 generalize grF S role t=o at *
 cases o with
 |none =>
  dsimp only at hR
  subst hR
  simp only [aG,go_sem,Option.getD_none,yax,bh,eV]
  exact Z0
 |some g =>
  dsimp only at hR
  subst hR
  simp only [aG,go_sem,Option.getD_some,yaw,bh]
  exact Z0
def wg:List AV→AHeap→(AV→Prop)→Prop
 |[x,.ptr c 0],H,K=>∃ g n,(x=bh g∧H.get c=some (.cells [.int .i64 n]))∧K (.bool (g.table==n))
 |_,_,_=>False
theorem Bd:EntOk Tryz.prog 66 (Ent.pure wg):=by
 refine Ype fun _ H K h=>?_
 unfold wg at h
 split at h
 rotate_left
 ·exact h.elim
 rename_i x c
 obtain ⟨g,n,⟨rfl,hg⟩,hK⟩:=h
 refine ⟨_,hK,?_⟩
 clear hK
 unfold bh
 refine ACalls.fW au tNq Tryz.func66 [.tmp 3] (nrq _) (T:=aq []) (h:=fun hcl hlt=>?_)
 clear hlt
 have hcs:=ax hg
 have hl:=glq hg
 have hne:(c=H.nx)=False:=eq_false (by omega)
 simp only [go_sem,hcs,hne]
 (repeat with_reducible refine Yq ?_)
 exact Z0
def iE:List AV→AHeap→(AV→Prop)→Prop
 |[.agg l,.int .i64 role,.int .i64 t],_,K=>∃ S:Sch,(l=aN S∧SRol S)∧K (.tup [bh ((grF S role t).getD eV),.bool (grF S role t).isSome])
 |_,_,_=>False
theorem ku:EntOk Tryz.prog 33 (Ent.pure iE):=by
 refine Ype fun _ H K h=>?_
 unfold iE at h
 split at h
 rotate_left
 ·exact h.elim
 rename_i l role t
 obtain ⟨S,⟨rfl,hS⟩,hK⟩:=h
 refine ⟨_,hK,?_⟩
 clear hK
 generalize hR:grF S role t=R
 unfold grF ii at hR
 refine ACalls.fW au (tCq oQ (tCq FB tNq)) Tryz.func33 [.cell 6 69,.tmp 7] (nrq _) (T:=aq []) (h:=fun hcl hlt=>?_)
 clear hlt
 simp only [go_sem,aN,lh]
 refine ⟨S,⟨rfl,hS.sl.rl⟩,?_⟩
 rcases gq (q:=fun r:SRole=>r.id==role) (l:=S.roles) with ⟨b1,b2⟩|⟨i,r,b1,hil,b3,b2,_⟩
 ·rw [b2] at hR
  dsimp only at hR
  subst hR
  rw [b1]
  have d:decide ((-1:Int)<0)=true:=rfl
  simp only [aG,go_sem,d]
  exact Z29
 rw [b2] at hR
 dsimp only at hR
 rw [b1]
 have d:decide ((i:Int)<0)=false:=by simp
 have hg':=aX (f:=ce) (l:=S.roles) (k:=i) (x:=r) b3
 have hgl:=(hS.gl r (List.mem_of_getElem? b3)).1
 simp only [aG,go_sem,d,iNq,hg',ce,ybb]
 (repeat with_reducible refine Yq ?_)
 refine ⟨r.grants,fun g=>g.table==t,⟨rfl,hgl,fun g hgm=>?_⟩,?_⟩
 ·exact clB Bd ⟨g,t,⟨rfl,by simp only [go_sem]⟩,rfl⟩
 rcases gq (q:=fun g:SGrant=>g.table==t) (l:=r.grants) with ⟨c1,c2⟩|⟨j,g,c1,hjl,c3,c2,_⟩
 ·rw [c2] at hR
  subst hR
  rw [c1]
  have d:decide ((-1:Int)<0)=true:=rfl
  simp only [aG,go_sem,d]
  exact Z29
 rw [c2] at hR
 subst hR
 rw [c1]
 have d2:decide ((j:Int)<0)=false:=by simp
 have hgx:=aX (f:=bh) (l:=r.grants) (k:=j) (x:=g) c3
 simp only [aG,go_sem,d2,iNq,hg',hgx,ce,bh,ybb]
 (repeat with_reducible refine Yq ?_)
 exact Z30
def sB:List AV→AHeap→(AV→Prop)→Prop
 |[.agg l,.int .i64 role,.int .i64 a],_,K=>∃ S:Sch,(l=aN S∧SRol S)∧K (.bool (qR S role a))
 |_,_,_=>False
theorem yQ:EntOk Tryz.prog 45 (Ent.pure sB):=by
 refine Ype fun _ H K h=>?_
 unfold sB at h
 split at h
 rotate_left
 ·exact h.elim
 rename_i l role a
 obtain ⟨S,⟨rfl,hS⟩,hK⟩:=h
 refine ⟨_,hK,?_⟩
 clear hK
 generalize hR:qR S role a=R
 unfold qR ii at hR
 refine ACalls.fW au (tCq oQ (tCq xX tNq)) Tryz.func45 [.tmp 6] (nrq _) (T:=aq []) (h:=fun hcl hlt=>?_)
 clear hlt
 simp only [go_sem,aN,lh]
 refine ⟨S,⟨rfl,hS.sl.rl⟩,?_⟩
 rcases gq (q:=fun r:SRole=>r.id==role) (l:=S.roles) with ⟨b1,b2⟩|⟨i,r,b1,hil,b3,b2,_⟩
 ·rw [b2] at hR
  dsimp only at hR
  subst hR
  rw [b1]
  have d:decide ((-1:Int) ≥ 0)=false:=rfl
  simp only [aG,go_sem,d]
  exact Z0
 rw [b2] at hR
 dsimp only at hR
 rw [b1]
 have d:decide ((i:Int) ≥ 0)=true:=by simp
 have hg':=aX (f:=ce) (l:=S.roles) (k:=i) (x:=r) b3
 have hgl:=(hS.gl r (List.mem_of_getElem? b3)).2.1
 simp only [aG,go_sem,d,iNq,hg',ce,ybb,tT]
 try (repeat with_reducible refine Yq ?_)
 refine ⟨r.actions,⟨rfl,hgl⟩,?_⟩
 rw [hR]
 try simp only [aG,go_sem]
 exact Z0
def se (l:List Bool) (k:Nat):Bool:=l.getD k false
def lA:List AV→AHeap→(AV→Prop)→Prop
 |[.agg l,.int .i64 n],_,K=>∃ (g:SGrant) (k:Nat),(.agg l=bh g∧n=(k:Int))∧K (.bool (se g.keys k))
 |_,_,_=>False
theorem rH:EntOk Tryz.prog 35 (Ent.pure lA):=by
 refine Ype fun _ H K h=>?_
 unfold lA at h
 split at h
 rotate_left
 ·exact h.elim
 rename_i l n
 obtain ⟨g,k,⟨hl,rfl⟩,hK⟩:=h
 refine ⟨_,hK,?_⟩
 clear hK
 unfold bh at hl
 cases hl
 generalize hR:se g.keys k=R
 unfold se at hR
 rw [gEq] at hR
 refine ACalls.fW au tNq Tryz.func35 [.tmp 4] (nrq _) (T:=aq []) (h:=fun hcl hlt=>?_)
 clear hlt
 rcases Nat.lt_or_ge k g.keys.length with h1|h1
 ·obtain ⟨b,hb⟩:∃ b,g.keys[k]=b:=⟨_,rfl⟩
  rw [gQq h1,hb] at hR
  have hR':b=R:=hR
  subst hR'
  have hg':(boL g.keys).getD k .junk=.bool b:=aX (f:=AV.bool) (l:=g.keys) (k:=k) (x:=b) (by rw [gQq h1,hb])
  have d:decide ((k:Int)<(g.keys.length:Int))=true:=dtq (by omega)
  have hbl:(boL g.keys).length=g.keys.length:=by simp [boL]
  simp only [go_sem,d,hbl,hg',iNq]
  try (repeat with_reducible refine Yq ?_)
  exact Z0
 ·rw [gNq h1] at hR
  have hR':false=R:=hR
  subst hR'
  have d:decide ((k:Int)<(g.keys.length:Int))=false:=dfq (by omega)
  have hbl:(boL g.keys).length=g.keys.length:=by simp [boL]
  simp only [go_sem,d,hbl]
  try (repeat with_reducible refine Yq ?_)
  exact Z0
def fJ:List AV→AHeap→(AV→Prop)→Prop
 |[.agg l,.int .i64 role,.int .i64 t],_,K=>∃ S:Sch,(l=aN S∧SRol S)∧K (.bool (mu S role t))
 |_,_,_=>False
theorem pD:EntOk Tryz.prog 14 (Ent.pure fJ):=by
 refine Ype fun _ H K h=>?_
 unfold fJ at h
 split at h
 rotate_left
 ·exact h.elim
 rename_i l role t
 obtain ⟨S,⟨rfl,hS⟩,hK⟩:=h
 refine ⟨_,hK,?_⟩
 clear hK
 generalize hR:mu S role t=R
 unfold mu at hR
 refine ACalls.fW au (tCq ku tNq) Tryz.func14 [.tmp 6] (nrq _) (T:=aq []) (h:=fun hcl hlt=>?_)
 clear hlt
 simp only [go_sem,aN,iE]
 refine ⟨S,⟨rfl,hS⟩,?_⟩
 generalize grF S role t=o at *
 cases o with
 |none =>
  dsimp only at hR
  subst hR
  simp only [aG,go_sem,Option.getD_none,yax,bh,eV]
  exact Z0
 |some g =>
  dsimp only at hR
  subst hR
  simp only [aG,go_sem,Option.getD_some,yaw,bh]
  exact Z0
theorem IX:ti Tryz.prog 130=some ⟨.slice 94,1,24,.slice .nil 1 []⟩:=by kernel_rfl
theorem Lv:ti Tryz.prog 94=some ⟨.func,1,8,.nilf⟩:=by kernel_rfl
theorem Jw:ti Tryz.prog 53=some ⟨.func,1,8,.nilf⟩:=by kernel_rfl
attribute [go_sem] IX Lv Jw
def re (S:Sch) (role t:Int):Bool:=match grF S role t with
 |none=>false
 |some g=>g.write
def tD (ks:List Bool):List SMatch→Nat→Bool
 |[],_=>true
 |m::ms,k=>(!m.present||se ks k)&&tD ks ms (k+1)
def rc (S:Sch) (role:Int) (e:SEntry):Bool:=tD ((grF S role e.table).getD eV).keys e.ms 0
def Cp (S:Sch) (e:SEntry):Bool:=match jX S e.table with
 |none=>false
 |some t=>t.actions.contains e.act
def orE (b:Bool) (e:Int):Int:=if b then 0 else e
def yl (S:Sch) (role:Int) (e:SEntry):List Int:=[orE (ii S role).isSome 21,orE (jX S e.table).isSome 6,orE (re S role e.table) 21,gL S e,orE (rc S role e) 21]
noncomputable def LI (S:Sch) (role:Int) (e:SEntry):List Int:=[orE (Cp S e) 6,orE (qR S role e.act) 21,jz S e,orE (EC S e) 15]
noncomputable def zf (S:Sch) (role kind:Int) (e:SEntry):Int :=
 if c6 (yl S role e)=0 then (if kind=3 then (if e.act=0∧e.args=[] then 0 else 13) else c6 (LI S role e)) else c6 (yl S role e)
structure SPer (S:Sch):Prop where
 al:SAll S
 rl:SRol S
def Mj (P:Program) (H:AHeap) (x:AV) (e:Int):Prop:=∃ (F:FuncId) (a b:Nat),(F=67∨F=40∨F=46)∧x=.func (.func F) [] [.ptr a 0,.ptr b 0]∧ACalls P F [.ptr a 0,.ptr b 0] H (.ret (.int .i64 e)) H
def FnsOk (P:Program) (H:AHeap):List AV→List Int→Prop
 |[],[]=>True
 |x::l,e::es=>Mj P H x e∧FnsOk P H l es
 |_,_=>False
theorem FnsOk.len {P:Program} {H:AHeap}:∀ {l:List AV} {es:List Int},FnsOk P H l es→l.length=es.length
 |[],[],_=>rfl
 |x::l,e::es,h=>by rw [yaz,yaz,FnsOk.len h.2]
 |[],_::_,h=>h.elim
 |_::_,[],h=>h.elim
theorem FnsOk.get {P:Program} {H:AHeap}:∀ {l:List AV} {es:List Int} {k:Nat},FnsOk P H l es→(hk:k<es.length)→Mj P H (l.getD k .junk) es[k]
 |[],[],k,_,hk=>absurd hk (Nat.not_lt_zero k)
 |x::l,e::es,0,h,_=>h.1
 |x::l,e::es,k+1,h,hk=>FnsOk.get (l:=l) h.2 (by simpa using hk)
 |[],_::_,_,h,_=>h.elim
 |_::_,[],_,h,_=>h.elim
def pu:List AV→AHeap→(AV→Prop)→Prop
 |[.slice _ 1 l],H,K=>∃ es:List Int,(FnsOk Tryz.prog H l es∧es.length≤1000)∧K (.int .i64 (c6 es))
 |_,_,_=>False
theorem DM:EntOk Tryz.prog 36 (Ent.pure pu):=by
 refine Ype fun _ H K h=>?_
 unfold pu at h
 split at h
 rotate_left
 ·exact h.elim
 rename_i m l
 obtain ⟨es,⟨hf,hl⟩,hK⟩:=h
 refine ⟨_,hK,?_⟩
 clear hK
 generalize hR:c6 es=R
 have hll:=hf.len
 refine ACalls.fW au (tCq (uI (F:=67)) (tCq (uI (F:=40)) (tCq (uI (F:=46)) tNq))) Tryz.func36 [.tmp 2] (nrq _) (T:=aq []) (h:=fun hcl hlt=>?_)
 have hm:AV.lt H.nx (.slice m 1 l):=hlt _ (by simp)
 clear hlt
 simp only [go_sem,hll]
 refine az (A:=Nat) (fun k=>[(6,.slice m 1 l),(7,.int .i64 (es.length:Int)),(8,.int .i64 (k:Int))]) (fun _=>H) (fun k=>k≤es.length∧c6 (es.drop k)=R) (fun k=>es.length - k) 0 ⟨by omega,hR⟩ ?_ fun k hk=>?_
 ·exact ⟨nrq _,lRq _,hcl,by simp [ltF,znf,hm],by simp [aJ,wk2,wk1,wkM,Fr.get]⟩
 clear hR
 obtain ⟨hk,hR⟩:=hk
 simp only [go_sem]
 refine ai (fun hc=>?_) (fun hc=>?_)
 ·have hk':k<es.length:=by simp at hc;omega
  have hd:es.drop k=es[k]::es.drop (k+1):=dcq hk'
  have e5:=Yk5 k
  obtain ⟨F,a,b,hF,hx,hca⟩:=hf.get hk'
  rw [hd,c6] at hR
  generalize es[k]=e at *
  rcases hF with rfl|rfl|rfl
  all_goals
   simp only [go_sem,iNq,hll,hx,Ia]
   try (repeat with_reducible refine Yq ?_)
   refine ⟨_,?_,hca⟩
   try simp only [aG,go_sem]
   refine ai (fun hq=>?_) (fun hq=>?_)
   ·rw [if_pos hq] at hR
    subst hR
    simp only [go_sem]
    exact Z0
   ·rw [if_neg (by rw [hq];decide)] at hR
    simp only [go_sem,e5]
    exact ⟨k+1,⟨by omega,hR⟩,by omega,nrq _,lRq _,hcl,by simp [ltF,znf,hm],by simp [aJ,wk2,wk1,wkM,Fr.get]⟩
 ·have hk':k=es.length:=by simp at hc;omega
  subst hk'
  rw [List.drop_length] at hR
  subst hR
  simp only [go_sem]
  simp (disch:=first|exact Zd|omega) [↓zmo,beq,ybc,ybd,ybe,ae,wk,wk2,wk1,wkM,wkL,ah,ybf,hcl,c6]
theorem Lk {n a b:Nat} {f:Fn} (ha:a<n) (hb:b<n):AV.lt n (.func f [] [.ptr a 0,.ptr b 0]):=by
 rw [AV.lt]
 refine ⟨fun j hj=>absurd hj (by simp),fun j hj=>?_⟩
 match j,hj with
 |0,_=>simpa [znn] using ha
 |1,_=>simpa [znn] using hb
def nH:List AV→AHeap→(AEnd→AHeap→Prop)→Prop
 |[.func (.func F) [] caps,.int .i64 e],H,K=>K (.ret (.func (.func 67) [] [.ptr H.nx 0,.ptr (H.nx+1) 0])) ((H.push (.cells [.func (.func F) [] caps])).push (.cells [.int .i64 e]))
 |_,_,_=>False
theorem Bi:EntOk Tryz.prog 37 (Ent.effect nH):=by
 refine EntOk.effect fun args H K h=>?_
 unfold nH at h
 split at h
 rotate_left
 ·exact h.elim
 rename_i F caps e
 refine ⟨_,_,h,?_⟩
 clear h
 refine ACalls.fW au tNq Tryz.func37 [.tmp 4] (by simp only [zle];omega) (T:=aq []) (h:=fun hcl hlt=>?_)
 have hf:AV.lt H.nx (.func (.func F) [] caps):=hlt _ (by simp)
 have h0:=AV.lt_mono (Nat.le_succ H.nx) _ hf
 clear hlt
 simp only [go_sem]
 simp (disch:=first|exact Zd|omega) [↓zmo,beq,ybc,ybd,ybe,ae,wk,wk2,wk1,wkM,wkL,ah,ybf,hcl]
 exact Lk (by omega) (by omega)
def Hz:List AV→AHeap→(AV→Prop)→Prop
 |[.ptr a 0,.ptr b 0],H,K=>∃ (F:FuncId) (caps:List AV) (q:Bool) (e:Int),(H.get a=some (.cells [.func (.func F) [] caps])∧H.get b=some (.cells [.int .i64 e])∧ACalls Tryz.prog F caps H (.ret (.bool q)) H)∧K (.int .i64 (orE q e))
 |_,_,_=>False
theorem lH:EntOk Tryz.prog 67 (Ent.pure Hz):=by
 refine Ype fun _ H K h=>?_
 unfold Hz at h
 split at h
 rotate_left
 ·exact h.elim
 rename_i a b
 obtain ⟨F,caps,q,e,⟨h1,h2,h3⟩,hK⟩:=h
 refine ⟨_,hK,?_⟩
 clear hK
 refine ACalls.fW au (tCq (uI (F:=F)) tNq) Tryz.func67 [.tmp 2] (nrq _) (T:=aq []) (h:=fun hcl hlt=>?_)
 clear hlt
 have hc1:=ax h1
 have hc2:=ax h2
 have n1:=glq h1
 have n2:=glq h2
 have e1:(a=H.nx)=False:=eq_false (by omega)
 have e2:(b=H.nx)=False:=eq_false (by omega)
 simp only [go_sem,hc1,hc2,e1,e2,h1,h2,Ia]
 try (repeat with_reducible refine Yq ?_)
 refine ⟨_,?_,h3⟩
 cases q
 all_goals
  simp only [aG,go_sem,hc1,hc2,e1,e2,h1,h2,orE]
  try (repeat with_reducible refine Yq ?_)
  simp (disch:=first|exact Zd|omega) [↓zmo,beq,ybc,ybd,ybe,ae,wk,wk2,wk1,wkM,wkL,ah,ybf,hcl]
def Kg:List AV→AHeap→(AV→Prop)→Prop
 |[.ptr a 0,.ptr b 0],H,K=>∃ (S:Sch) (e:SEntry),(H.get a=some (.cells (aN S))∧H.get b=some (.cells (aO e))∧S.tables.length≤1000000)∧K (.bool (jX S e.table).isSome)
 |_,_,_=>False
theorem Lu:EntOk Tryz.prog 30 (Ent.pure Kg):=by
 refine Ype fun _ H K h=>?_
 unfold Kg at h
 split at h
 rotate_left
 ·exact h.elim
 rename_i a b
 obtain ⟨S,e,⟨ha,hb,hS⟩,hK⟩:=h
 refine ⟨_,hK,?_⟩
 clear hK
 generalize hR:(jX S e.table).isSome=R
 refine ACalls.fW au (tCq ji tNq) Tryz.func30 [.tmp 2] (nrq _) (T:=aq []) (h:=fun hcl hlt=>?_)
 clear hlt
 have ca:=ax ha
 have la:=glq ha
 have ea:(a=H.nx)=False:=eq_false (by omega)
 have cb:=ax hb
 have lb:=glq hb
 have eb:(b=H.nx)=False:=eq_false (by omega)
 simp only [go_sem,ca,ea,ha,cb,eb,hb,aN,aO,gB]
 try (repeat with_reducible refine Yq ?_)
 refine ⟨S,⟨rfl,hS⟩,?_⟩
 rcases gq (q:=fun t:STable=>t.id==e.table) (l:=S.tables) with ⟨b1,b2⟩|⟨i,t,b1,hil,b3,b2,_⟩
 ·have:jX S e.table=none:=b2
  rw [this] at hR
  subst hR
  rw [b1]
  have d:decide ((-1:Int) ≥ 0)=false:=rfl
  simp only [aG,go_sem,d]
  exact Z0
 ·have:jX S e.table=some t:=b2
  rw [this] at hR
  subst hR
  rw [b1]
  have d:decide ((i:Int) ≥ 0)=true:=by simp
  simp only [aG,go_sem,d]
  exact Z0
def Kb:List AV→AHeap→(AV→Prop)→Prop
 |[.ptr a 0,.ptr b 0,.ptr c 0],H,K=>∃ (S:Sch) (role:Int) (e:SEntry),(H.get a=some (.cells (aN S))∧H.get b=some (.cells [.int .i64 role])∧H.get c=some (.cells (aO e))∧SRol S)∧K (.bool (re S role e.table))
 |_,_,_=>False
theorem KN:EntOk Tryz.prog 32 (Ent.pure Kb):=by
 refine Ype fun _ H K h=>?_
 unfold Kb at h
 split at h
 rotate_left
 ·exact h.elim
 rename_i a b c
 obtain ⟨S,role,e,⟨ha,hb,hc,hS⟩,hK⟩:=h
 refine ⟨_,hK,?_⟩
 clear hK
 generalize hR:re S role e.table=R
 refine ACalls.fW au (tCq ku tNq) Tryz.func32 [.tmp 3] (nrq _) (T:=aq []) (h:=fun hcl hlt=>?_)
 clear hlt
 have ca:=ax ha
 have la:=glq ha
 have ea:(a=H.nx)=False:=eq_false (by omega)
 have cb:=ax hb
 have lb:=glq hb
 have eb:(b=H.nx)=False:=eq_false (by omega)
 have cc:=ax hc
 have lc:=glq hc
 have ec:(c=H.nx)=False:=eq_false (by omega)
 unfold re at hR
 simp only [go_sem,ca,ea,ha,cb,eb,hb,cc,ec,hc,aN,aO,iE]
 try (repeat with_reducible refine Yq ?_)
 refine ⟨S,⟨rfl,hS⟩,?_⟩
 generalize grF S role e.table=o at *
 cases o with
 |none =>
  dsimp only at hR
  subst hR
  simp only [aG,go_sem,Option.getD_none,yax,bh,eV]
  exact Z0
 |some g =>
  dsimp only at hR
  subst hR
  simp only [aG,go_sem,Option.getD_some,yaw,bh]
  exact Z0
def Kw:List AV→AHeap→(AV→Prop)→Prop
 |[.ptr a 0,.ptr b 0,.ptr c 0],H,K=>∃ (S:Sch) (role:Int) (e:SEntry),(H.get a=some (.cells (aN S))∧H.get b=some (.cells [.int .i64 role])∧H.get c=some (.cells (aO e))∧SRol S∧e.ms.length≤140737488355328)∧K (.bool (rc S role e))
 |_,_,_=>False
theorem KJ:EntOk Tryz.prog 34 (Ent.pure Kw):=by
 refine Ype fun _ H K h=>?_
 unfold Kw at h
 split at h
 rotate_left
 ·exact h.elim
 rename_i a b c
 obtain ⟨S,role,e,⟨ha,hb,hc,hS,hml⟩,hK⟩:=h
 refine ⟨_,hK,?_⟩
 clear hK
 generalize hR:rc S role e=R
 refine ACalls.fW au (tCq ku (tCq rH tNq)) Tryz.func34 [.tmp 3] (nrq _) (T:=aq []) (h:=fun hcl hlt=>?_)
 clear hlt
 have ca:=ax ha
 have la:=glq ha
 have ea:(a=H.nx)=False:=eq_false (by omega)
 have cb:=ax hb
 have lb:=glq hb
 have eb:(b=H.nx)=False:=eq_false (by omega)
 have cc:=ax hc
 have lc:=glq hc
 have ec:(c=H.nx)=False:=eq_false (by omega)
 unfold rc at hR
 simp only [go_sem,ca,ea,ha,cb,eb,hb,cc,ec,hc,aN,aO,iE]
 try (repeat with_reducible refine Yq ?_)
 refine ⟨S,⟨rfl,hS⟩,?_⟩
 generalize (grF S role e.table).getD eV=g at *
 generalize (grF S role e.table).isSome=is at *
 have hc1:(c=H.nx+1)=False:=eq_false (by omega)
 have hclG:=aa hcl (Bg g)
 simp only [aG,go_sem,ca,ea,ha,cb,eb,hb,cc,ec,hc,hc1,aN,aO,bh]
 try (repeat with_reducible refine Yq ?_)
 refine az (A:=Nat) (fun k=>[(4,.ptr H.nx 0),(17,.slice .any 8 (e.ms.map aI)),(18,.int .i64 (e.ms.length:Int)),(19,.int .i64 (k:Int))]) (fun _=>H.push (.cells [.int .i64 g.table,.bool g.read,.bool g.write,.slice .any 1 (boL g.keys)]))
  (fun k=>k≤e.ms.length∧tD g.keys (e.ms.drop k) k=R) (fun k=>e.ms.length - k) 0 ⟨Nat.zero_le _,hR⟩ ?_ fun k hk=>?_
 ·refine ⟨by (try simp only [zkq,zkv,zle]);omega,by repeat first|exact .refl _|refine .push ?_ _,hclG,?_,?_⟩
  ·simp [ltF,zle,znn,znf,aQ dn]
   try omega
  ·simp [aJ,wk2,wk1,wkM,Fr.get]
 clear hR
 obtain ⟨hk,hR⟩:=hk
 simp only [go_sem]
 refine ai (fun hc=>?_) (fun hc=>?_)
 ·have hk':k<e.ms.length:=by simp at hc;omega
  obtain ⟨m,hm⟩:∃ m,m=e.ms[k]:=⟨_,rfl⟩
  have hd:e.ms.drop k=m::e.ms.drop (k+1):=by rw [hm];exact dcq hk'
  have hgx:=aX (f:=aI) (l:=e.ms) (k:=k) (x:=m) (by rw [gQq hk',hm])
  have e5:=Yk5 k
  rw [hd,tD] at hR
  cases hp:m.present
  ·rw [hp,Bool.not_false,Bool.true_or,Bool.true_and] at hR
   simp only [a9,aG,bhq,Nat.reduceMod,Nat.reduceDiv,aB,aC,aE,aV,aD,aU,aP,aS,aT,yaq,yar,yao,yap,go_sem,iNq,hgx,aI,bx,vc,yal,yak,ybb,hp,e5]
   try (repeat with_reducible refine Yq ?_)
   refine ⟨k+1,⟨by omega,hR⟩,by omega,?_⟩
   refine ⟨by (try simp only [zkq,zkv,zle]);omega,by repeat first|exact .refl _|refine .push ?_ _,hclG,?_,?_⟩
   ·simp [ltF,zle,znn,znf,aQ dn]
    try omega
   ·simp [aJ,wk2,wk1,wkM,Fr.get]
  ·rw [hp,Bool.not_true,Bool.false_or] at hR
   simp only [a9,aG,bhq,Nat.reduceMod,Nat.reduceDiv,aB,aC,aE,aV,aD,aU,aP,aS,aT,yaq,yar,yao,yap,go_sem,iNq,hgx,aI,bx,vc,yal,yak,ybb,hp,lA]
   try (repeat with_reducible refine Yq ?_)
   refine ⟨g,k,⟨rfl,rfl⟩,?_⟩
   cases hv:se g.keys k
   ·rw [hv,Bool.false_and] at hR
    subst hR
    simp only [a9,aG,bhq,Nat.reduceMod,Nat.reduceDiv,aB,aC,aE,aV,aD,aU,aP,aS,aT,yaq,yar,yao,yap,go_sem,Bool.not_false]
    exact Z0
   ·rw [hv,Bool.true_and] at hR
    simp only [a9,aG,bhq,Nat.reduceMod,Nat.reduceDiv,aB,aC,aE,aV,aD,aU,aP,aS,aT,yaq,yar,yao,yap,go_sem,Bool.not_true,e5]
    refine ⟨k+1,⟨by omega,hR⟩,by omega,?_⟩
    refine ⟨by (try simp only [zkq,zkv,zle]);omega,by repeat first|exact .refl _|refine .push ?_ _,hclG,?_,?_⟩
    ·simp [ltF,zle,znn,znf,aQ dn]
     try omega
    ·simp [aJ,wk2,wk1,wkM,Fr.get]
 ·have hk':k=e.ms.length:=by simp at hc;omega
  subst hk'
  rw [List.drop_length,tD] at hR
  subst hR
  simp only [go_sem]
  exact Z0
def Kj:List AV→AHeap→(AV→Prop)→Prop
 |[.ptr a 0,.ptr b 0],H,K=>∃ (S:Sch) (role:Int),(H.get a=some (.cells (aN S))∧H.get b=some (.cells [.int .i64 role])∧S.roles.length≤1000000)∧K (.bool (ii S role).isSome)
 |_,_,_=>False
theorem LT:EntOk Tryz.prog 38 (Ent.pure Kj):=by
 refine Ype fun _ H K h=>?_
 unfold Kj at h
 split at h
 rotate_left
 ·exact h.elim
 rename_i a b
 obtain ⟨S,role,⟨ha,hb,hS⟩,hK⟩:=h
 refine ⟨_,hK,?_⟩
 clear hK
 generalize hR:(ii S role).isSome=R
 refine ACalls.fW au (tCq oQ tNq) Tryz.func38 [.tmp 2] (nrq _) (T:=aq []) (h:=fun hcl hlt=>?_)
 clear hlt
 have ca:=ax ha
 have la:=glq ha
 have ea:(a=H.nx)=False:=eq_false (by omega)
 have cb:=ax hb
 have lb:=glq hb
 have eb:(b=H.nx)=False:=eq_false (by omega)
 simp only [go_sem,ca,ea,ha,cb,eb,hb,aN,lh]
 try (repeat with_reducible refine Yq ?_)
 refine ⟨S,⟨rfl,hS⟩,?_⟩
 rcases gq (q:=fun t:SRole=>t.id==role) (l:=S.roles) with ⟨b1,b2⟩|⟨i,t,b1,hil,b3,b2,_⟩
 ·have:ii S role=none:=b2
  rw [this] at hR
  subst hR
  rw [b1]
  have d:decide ((-1:Int) ≥ 0)=false:=rfl
  simp only [aG,go_sem,d]
  exact Z0
 ·have:ii S role=some t:=b2
  rw [this] at hR
  subst hR
  rw [b1]
  have d:decide ((i:Int) ≥ 0)=true:=by simp
  simp only [aG,go_sem,d]
  exact Z0
def Ky:List AV→AHeap→(AV→Prop)→Prop
 |[.ptr a 0,.ptr b 0],H,K=>∃ (S:Sch) (e:SEntry),(H.get a=some (.cells (aN S))∧H.get b=some (.cells (aO e))∧SChk S∧EOk e)∧K (.int .i64 (gL S e))
 |_,_,_=>False
theorem Li:EntOk Tryz.prog 40 (Ent.pure Ky):=by
 refine Ype fun _ H K h=>?_
 unfold Ky at h
 split at h
 rotate_left
 ·exact h.elim
 rename_i a b
 obtain ⟨S,e,⟨ha,hb,hS,he⟩,hK⟩:=h
 refine ⟨_,hK,?_⟩
 clear hK
 generalize hR:gL S e=R
 refine ACalls.fW au (tCq xn tNq) Tryz.func40 [.tmp 2] (nrq _) (T:=aq []) (h:=fun hcl hlt=>?_)
 clear hlt
 have ca:=ax ha
 have la:=glq ha
 have ea:(a=H.nx)=False:=eq_false (by omega)
 have cb:=ax hb
 have lb:=glq hb
 have eb:(b=H.nx)=False:=eq_false (by omega)
 simp only [go_sem,ca,ea,ha,cb,eb,hb,aN,aO,mA]
 try (repeat with_reducible refine Yq ?_)
 refine ⟨S,e,⟨rfl,rfl,hS.sl.tl,hS.sl.fl,fun t ht=>by have:=hS.kl t ht;omega,he⟩,?_⟩
 rw [hR]
 try simp only [aG,go_sem]
 exact Z0
def Kc:List AV→AHeap→(AV→Prop)→Prop
 |[.ptr a 0,.ptr b 0],H,K=>∃ (S:Sch) (e:SEntry),(H.get a=some (.cells (aN S))∧H.get b=some (.cells (aO e))∧SAct S∧EArg e)∧K (.int .i64 (jz S e))
 |_,_,_=>False
theorem K9:EntOk Tryz.prog 46 (Ent.pure Kc):=by
 refine Ype fun _ H K h=>?_
 unfold Kc at h
 split at h
 rotate_left
 ·exact h.elim
 rename_i a b
 obtain ⟨S,e,⟨ha,hb,hS,he⟩,hK⟩:=h
 refine ⟨_,hK,?_⟩
 clear hK
 generalize hR:jz S e=R
 refine ACalls.fW au (tCq xa tNq) Tryz.func46 [.tmp 2] (nrq _) (T:=aq []) (h:=fun hcl hlt=>?_)
 clear hlt
 have ca:=ax ha
 have la:=glq ha
 have ea:(a=H.nx)=False:=eq_false (by omega)
 have cb:=ax hb
 have lb:=glq hb
 have eb:(b=H.nx)=False:=eq_false (by omega)
 simp only [go_sem,ca,ea,ha,cb,eb,hb,aN,aO,mS]
 try (repeat with_reducible refine Yq ?_)
 refine ⟨S,e,⟨rfl,rfl,hS,he⟩,?_⟩
 rw [hR]
 try simp only [aG,go_sem]
 exact Z0
def Ki:List AV→AHeap→(AV→Prop)→Prop
 |[.ptr a 0,.ptr b 0],H,K=>∃ (S:Sch) (e:SEntry),(H.get a=some (.cells (aN S))∧H.get b=some (.cells (aO e))∧SAdm S∧EAdm e)∧K (.bool (EC S e))
 |_,_,_=>False
theorem Lt:EntOk Tryz.prog 48 (Ent.pure Ki):=by
 refine Ype fun _ H K h=>?_
 unfold Ki at h
 split at h
 rotate_left
 ·exact h.elim
 rename_i a b
 obtain ⟨S,e,⟨ha,hb,hS,he⟩,hK⟩:=h
 refine ⟨_,hK,?_⟩
 clear hK
 generalize hR:EC S e=R
 refine ACalls.fW au (tCq J0 tNq) Tryz.func48 [.tmp 2] (nrq _) (T:=aq []) (h:=fun hcl hlt=>?_)
 clear hlt
 have ca:=ax ha
 have la:=glq ha
 have ea:(a=H.nx)=False:=eq_false (by omega)
 have cb:=ax hb
 have lb:=glq hb
 have eb:(b=H.nx)=False:=eq_false (by omega)
 simp only [go_sem,ca,ea,ha,cb,eb,hb,aN,aO,Bp]
 try (repeat with_reducible refine Yq ?_)
 refine ⟨S,e,⟨rfl,rfl,hS,he⟩,?_⟩
 rw [hR]
 try simp only [aG,go_sem]
 exact Z0
def Kq:List AV→AHeap→(AV→Prop)→Prop
 |[.ptr a 0,.ptr b 0],H,K=>∃ (S:Sch) (e:SEntry),(H.get a=some (.cells (aN S))∧H.get b=some (.cells (aO e))∧S.tables.length≤1000000∧(∀ t∈S.tables,t.actions.length≤1000000)∧jX S e.table≠none)∧K (.bool (Cp S e))
 |_,_,_=>False
theorem Ln:EntOk Tryz.prog 42 (Ent.pure Kq):=by
 refine Ype fun _ H K h=>?_
 unfold Kq at h
 split at h
 rotate_left
 ·exact h.elim
 rename_i a b
 obtain ⟨S,e,⟨ha,hb,hS,hta,hne⟩,hK⟩:=h
 refine ⟨_,hK,?_⟩
 clear hK
 generalize hR:Cp S e=R
 refine ACalls.fW au (tCq ji (tCq xX tNq)) Tryz.func42 [.tmp 2] (nrq _) (T:=aq [(1,[[],[],[],[],[],[2,4],[],[],[5],[],[],[1,2,4,5,8,10]])]) (h:=fun hcl hlt=>?_)
 clear hlt
 have ca:=ax ha
 have la:=glq ha
 have ea:(a=H.nx)=False:=eq_false (by omega)
 have cb:=ax hb
 have lb:=glq hb
 have eb:(b=H.nx)=False:=eq_false (by omega)
 unfold Cp at hR
 simp only [go_sem,ca,ea,ha,cb,eb,hb,aN,aO,gB]
 try (repeat with_reducible refine Yq ?_)
 refine ⟨S,⟨rfl,hS⟩,?_⟩
 rcases gq (q:=fun t:STable=>t.id==e.table) (l:=S.tables) with ⟨b1,b2⟩|⟨i,t,b1,hil,b3,b2,_⟩
 ·exact absurd b2 hne
 have:jX S e.table=some t:=b2
 rw [this] at hR
 dsimp only at hR
 rw [b1]
 have hg':=aX (f:=ba) (l:=S.tables) (k:=i) (x:=t) b3
 have htl:=hta t (List.mem_of_getElem? b3)
 simp only [aG,go_sem,iNq,hg',ba,ybb,tT]
 try (repeat with_reducible refine Yq ?_)
 refine ⟨t.actions,⟨rfl,htl⟩,?_⟩
 rw [hR]
 try simp only [aG,go_sem]
 exact Z0
def Kt:List AV→AHeap→(AV→Prop)→Prop
 |[.ptr a 0,.ptr b 0,.ptr c 0],H,K=>∃ (S:Sch) (role:Int) (e:SEntry),(H.get a=some (.cells (aN S))∧H.get b=some (.cells [.int .i64 role])∧H.get c=some (.cells (aO e))∧SRol S)∧K (.bool (qR S role e.act))
 |_,_,_=>False
theorem Lw:EntOk Tryz.prog 44 (Ent.pure Kt):=by
 refine Ype fun _ H K h=>?_
 unfold Kt at h
 split at h
 rotate_left
 ·exact h.elim
 rename_i a b c
 obtain ⟨S,role,e,⟨ha,hb,hc,hS⟩,hK⟩:=h
 refine ⟨_,hK,?_⟩
 clear hK
 generalize hR:qR S role e.act=R
 refine ACalls.fW au (tCq yQ tNq) Tryz.func44 [.tmp 3] (nrq _) (T:=aq []) (h:=fun hcl hlt=>?_)
 clear hlt
 have ca:=ax ha
 have la:=glq ha
 have ea:(a=H.nx)=False:=eq_false (by omega)
 have cb:=ax hb
 have lb:=glq hb
 have eb:(b=H.nx)=False:=eq_false (by omega)
 have cc:=ax hc
 have lc:=glq hc
 have ec:(c=H.nx)=False:=eq_false (by omega)
 simp only [go_sem,ca,ea,ha,cb,eb,hb,cc,ec,hc,aN,aO,sB]
 try (repeat with_reducible refine Yq ?_)
 refine ⟨S,⟨rfl,hS⟩,?_⟩
 rw [hR]
 try simp only [aG,go_sem]
 exact Z0
theorem J4:ti Tryz.prog 44=some ⟨.struct [(0,3,false),(1,26,false)],6,80,.agg [.int .i64 0,.int .i64 0,.slice .nil 1 [],.int .i64 0,.int .i64 0,.slice .nil 1 []]⟩:=by kernel_rfl
theorem JQ:ti Tryz.prog 51=some ⟨.int .i64,1,8,.int .i64 0⟩:=by kernel_rfl
attribute [go_sem] J4 JQ
theorem hgt {H:AHeap} {i:Nat} {o:AObj} (h:H.get i=some o:=by
 (repeat rw [gPq _ _ (by simp only [zle];omega)])
 exact AHeap.get_push_new _ _):H.get i=some o:=h
theorem pS:∀ {xs:List Int},c6 xs=0→∀ x∈xs,x=0
 |[],_,x,hx=>by cases hx
 |y::ys,h,x,hx=>by
  rw [c6] at h
  split at h
  ·rename_i h1;subst h;simp at h1
  ·rename_i h1
   rcases List.mem_cons.1 hx with rfl|hx
   ·simpa using h1
   ·exact pS h x hx
theorem pK {b:Bool} {e:Int} (h:orE b e=0) (he:e≠0):b=true:=by
 cases b
 ·exact absurd h he
 ·rfl
structure Key5 (S:Sch) (role:Int) (e:SEntry):Prop where
 r:(ii S role).isSome=true
 t:(jX S e.table).isSome=true
 w:re S role e.table=true
 k:gL S e=0
 s:rc S role e=true
theorem Eh {S:Sch} {role:Int} {e:SEntry} (h:c6 (yl S role e)=0):Key5 S role e:=by
 have h':=pS h
 unfold yl at h'
 exact ⟨pK (h' (orE (ii S role).isSome 21) (by simp)) (by decide),pK (h' (orE (jX S e.table).isSome 6) (by simp)) (by decide),pK (h' (orE (re S role e.table) 21) (by simp)) (by decide),h' (gL S e) (by simp),pK (h' (orE (rc S role e) 21) (by simp)) (by decide)⟩
def qF:List AV→AHeap→(AV→Prop)→Prop
 |[.agg l,.int .i64 role,.agg lu],_,K=>∃ (S:Sch) (kind:Int) (e:SEntry),(l=aN S∧lu=.int .i64 kind::aO e∧SPer S∧EAll e)∧K (.int .i64 (zf S role kind e))
 |_,_,_=>False
theorem z8:EntOk Tryz.prog 11 (Ent.pure qF):=by
 refine Ype fun _ H K h=>?_
 unfold qF at h
 split at h
 rotate_left
 ·exact h.elim
 rename_i l role lu
 obtain ⟨S,kind,e,⟨rfl,rfl,hS,he⟩,hK⟩:=h
 refine ⟨_,hK,?_⟩
 clear hK
 generalize hR:zf S role kind e=R
 unfold zf at hR
 have hS1:=hS.al
 have hS2:=hS.rl
 have hrl:=hS2.sl.rl
 have htl:=hS2.sl.tl
 have hta:∀ t∈S.tables,t.actions.length≤1000000:=fun t ht=>by have:=(hS1.ac.tl t ht).1;omega
 refine ACalls.fW au (tCq Bi (tCq DM tNq)) Tryz.func11 [.tmp 6] (nrq _) (T:=aq []) (h:=fun hcl hlt=>?_)
 clear hlt
 simp only [go_sem,aN,aO,nH,pu]
 try (repeat with_reducible refine Yq ?_)
 refine ⟨yl S role e,⟨⟨?_,?_,?_,?_,?_,trivial⟩,by simp [yl]⟩,?_⟩
 ·exact ⟨_,_,_,.inl rfl,rfl,clB lH ⟨38,[.ptr H.nx 0,.ptr (H.nx+1) 0],_,_,⟨hgt,hgt,clB LT ⟨S,role,⟨hgt,hgt,hrl⟩,rfl⟩⟩,rfl⟩⟩
 ·exact ⟨_,_,_,.inl rfl,rfl,clB lH ⟨30,[.ptr H.nx 0,.ptr (H.nx+1+1+1) 0],_,_,⟨hgt,hgt,clB Lu ⟨S,e,⟨hgt,hgt,htl⟩,rfl⟩⟩,rfl⟩⟩
 ·exact ⟨_,_,_,.inl rfl,rfl,clB lH ⟨32,[.ptr H.nx 0,.ptr (H.nx+1) 0,.ptr (H.nx+1+1+1) 0],_,_,⟨hgt,hgt,clB KN ⟨S,role,e,⟨hgt,hgt,hgt,hS2⟩,rfl⟩⟩,rfl⟩⟩
 ·exact ⟨_,_,_,.inr (.inl rfl),rfl,clB Li ⟨S,e,⟨hgt,hgt,hS1.ck,he.ok⟩,rfl⟩⟩
 ·exact ⟨_,_,_,.inl rfl,rfl,clB lH ⟨34,[.ptr H.nx 0,.ptr (H.nx+1) 0,.ptr (H.nx+1+1+1) 0],_,_,⟨hgt,hgt,clB KJ ⟨S,role,e,⟨hgt,hgt,hgt,hS2,he.ok.ml⟩,rfl⟩⟩,rfl⟩⟩
 by_cases hk:c6 (yl S role e)=0
 rotate_left
 ·rw [if_neg hk] at hR
  generalize c6 (yl S role e)=k at *
  subst hR
  have d:(k != 0)=true:=by simp [hk]
  simp only [a9,aG,bhq,Nat.reduceMod,Nat.reduceDiv,aB,aC,aE,aV,aD,aU,aP,aS,aT,yaq,yar,yao,yap,go_sem,d]
  simp (disch:=first|exact Zd|omega) [↓zmo,beq,ybc,ybd,ybe,ae,wk,wk2,wk1,wkM,wkL,ah,ybf,hcl]
  first|done|repeat first|exact .refl _|refine .push ?_ _
 rw [if_pos hk] at hR
 have hz:=Eh hk
 rw [hk]
 have d:((0:Int) != 0)=false:=rfl
 by_cases h3:kind=3
 ·rw [if_pos h3] at hR
  have d3:(kind==3)=true:=by simp [h3]
  by_cases ha:e.act=0
  ·have da:(e.act != 0)=false:=by simp [ha]
   by_cases hg:e.args=[]
   ·rw [if_pos ⟨ha,hg⟩] at hR
    subst hR
    have dg:decide (((0:Nat):Int) > 0)=false:=rfl
    simp only [a9,aG,bhq,Nat.reduceMod,Nat.reduceDiv,aB,aC,aE,aV,aD,aU,aP,aS,aT,yaq,yar,yao,yap,go_sem,d,d3,da,hg,yaf,yba,dg]
    try simp (disch:=first|exact Zd|omega) [↓zmo,beq,ybc,ybd,ybe,ae,wk,wk2,wk1,wkM,wkL,ah,ybf,hcl]
    first|done|repeat first|exact .refl _|refine .push ?_ _
   ·rw [if_neg (fun x=>hg x.2)] at hR
    subst hR
    have dg:decide ((e.args.length:Int) > 0)=true:=by
     cases hq:e.args with
     |nil=>exact absurd hq hg
     |cons x xs=>simp
    simp only [a9,aG,bhq,Nat.reduceMod,Nat.reduceDiv,aB,aC,aE,aV,aD,aU,aP,aS,aT,yaq,yar,yao,yap,go_sem,d,d3,da,ybb,dg]
    try simp (disch:=first|exact Zd|omega) [↓zmo,beq,ybc,ybd,ybe,ae,wk,wk2,wk1,wkM,wkL,ah,ybf,hcl]
    first|done|repeat first|exact .refl _|refine .push ?_ _
  ·rw [if_neg (fun x=>ha x.1)] at hR
   subst hR
   have da:(e.act != 0)=true:=by simp [ha]
   simp only [a9,aG,bhq,Nat.reduceMod,Nat.reduceDiv,aB,aC,aE,aV,aD,aU,aP,aS,aT,yaq,yar,yao,yap,go_sem,d,d3,da]
   try simp (disch:=first|exact Zd|omega) [↓zmo,beq,ybc,ybd,ybe,ae,wk,wk2,wk1,wkM,wkL,ah,ybf,hcl]
   first|done|repeat first|exact .refl _|refine .push ?_ _
 rw [if_neg h3] at hR
 have d3:(kind==3)=false:=by simp [h3]
 simp only [a9,aG,bhq,Nat.reduceMod,Nat.reduceDiv,aB,aC,aE,aV,aD,aU,aP,aS,aT,yaq,yar,yao,yap,go_sem,d,d3,aN,aO,nH,pu]
 try (repeat with_reducible refine Yq ?_)
 refine ⟨LI S role e,⟨⟨?_,?_,?_,?_,trivial⟩,by simp [LI]⟩,?_⟩
 ·exact ⟨_,_,_,.inl rfl,rfl,clB lH ⟨42,[.ptr H.nx 0,.ptr (H.nx+1+1+1) 0],_,_,⟨hgt,hgt,clB Ln ⟨S,e,⟨hgt,hgt,htl,hta,fun h=>by have:=hz.t;rw [h] at this;cases this⟩,rfl⟩⟩,rfl⟩⟩
 ·exact ⟨_,_,_,.inl rfl,rfl,clB lH ⟨44,[.ptr H.nx 0,.ptr (H.nx+1) 0,.ptr (H.nx+1+1+1) 0],_,_,⟨hgt,hgt,clB Lw ⟨S,role,e,⟨hgt,hgt,hgt,hS2⟩,rfl⟩⟩,rfl⟩⟩
 ·exact ⟨_,_,_,.inr (.inr rfl),rfl,clB K9 ⟨S,e,⟨hgt,hgt,hS1.ac,he.ar⟩,rfl⟩⟩
 ·exact ⟨_,_,_,.inl rfl,rfl,clB lH ⟨48,[.ptr H.nx 0,.ptr (H.nx+1+1+1) 0],_,_,⟨hgt,hgt,clB Lt ⟨S,e,⟨hgt,hgt,hS1.ad,he.ad⟩,rfl⟩⟩,rfl⟩⟩
 rw [hR]
 try simp only [a9,aG,bhq,Nat.reduceMod,Nat.reduceDiv,aB,aC,aE,aV,aD,aU,aP,aS,aT,yaq,yar,yao,yap,go_sem]
 simp (disch:=first|exact Zd|omega) [↓zmo,beq,ybc,ybd,ybe,ae,wk,wk2,wk1,wkM,wkL,ah,ybf,hcl]
 first|done|repeat first|exact .refl _|refine .push ?_ _
end Go.AL
