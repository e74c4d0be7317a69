/- Lemmas of the proof; no condition. -/
import Derived.Test.YtjnhidpnfdbmaaaGreatS12j
import Derived.Test.YtjnhidpnfdbmaaaGreatS12b
import Derived.Test.YtjnhidpnfdbmaaaGreatS11g
import Derived.Test.YtjnhidpnfdbmaaaGreatS12g
set_option linter.all false
set_option maxRecDepth 10000
set_option maxHeartbeats 32000000
open List renaming length_cons → yaz, length_nil → yba, take_of_length_le → ybc, drop_append → ybd, take_append → ybe, drop_eq_nil_of_le → ybf, length_map → ybb, take_succ_cons → yaq, take_zero → yar, drop_succ_cons → yao, drop_zero → yap, cons_append → yal, nil_append → yak, map_nil → yaf
open Option renaming isSome_none → yax, isSome_some → yaw
open Go Go.AL Go.Proofs
namespace Go.AL
def g7 (S:Sch) (id:Int):Option SRole:=S.roles.find? fun r=>r.id==id
def jf:SGrant:=⟨0,false,false,[]⟩
def grF (S:Sch) (role t:Int):Option SGrant:=match g7 S role with
 |none=>none
 |some r=>r.grants.find? fun g=>g.table==t
def xG (S:Sch) (role a:Int):Bool:=match g7 S role with
 |none=>false
 |some r=>r.actions.contains a
def zk (S:Sch) (role t:Int):Bool:=match grF S role t with
 |none=>false
 |some g=>g.read
structure SRol (S:Sch):Prop where
 sl:SLen S
 gl:∀ r∈S.roles,r.grants.length≤1000000∧r.actions.length≤1000000∧∀ g∈r.grants,g.keys.length≤1000000
theorem E2 {n:Nat} (g:SGrant):ltL n [.int .i64 g.table,.bool g.read,.bool g.write,.slice .any 1 (boL g.keys)]:=by
 have:=fU (n:=n) g
 unfold a9 at this
 rwa [znr] at this
def uW:List AV→AHeap→(AV→Prop)→Prop
 |[x,.ptr c 0],H,K=>∃ g n,(x=a9 g∧H.get c=some (.cells [.int .i64 n]))∧K (.bool (g.table==n))
 |_,_,_=>False
theorem zW:EntOk Tryz.prog 66 (Ent.pure uW):=by
 refine Ype fun _ H K h=>?_
 unfold uW at h
 split at h
 rotate_left
 ·exact h.elim
 rename_i x c
 obtain ⟨g,n,⟨rfl,hg⟩,hK⟩:=h
 refine ⟨_,hK,?_⟩
 clear hK
 unfold a9
 refine ACalls.fW ax tNq Tryz.func66 [.tmp 3] (nrq _) (T:=aq []) (h:=fun hcl hlt=>?_)
 clear hlt
 have hcs:=au hg
 have hl:=glq hg
 have hne:(c=H.nx)=False:=eq_false (by omega)
 simp only [go_sem,hcs,hne]
 (repeat with_reducible refine Yq ?_)
 exact Z0
def iu:List AV→AHeap→(AV→Prop)→Prop
 |[.agg l,.int .i64 role,.int .i64 t],_,K=>∃ S:Sch,(l=aY S∧SRol S)∧K (.tup [a9 ((grF S role t).getD jf),.bool (grF S role t).isSome])
 |_,_,_=>False
theorem j5:EntOk Tryz.prog 33 (Ent.pure iu):=by
 refine Ype fun _ H K h=>?_
 unfold iu at h
 split at h
 rotate_left
 ·exact h.elim
 rename_i l role t
 obtain ⟨S,⟨rfl,hS⟩,hK⟩:=h
 refine ⟨_,hK,?_⟩
 clear hK
 generalize hR:grF S role t=R
 unfold grF g7 at hR
 refine ACalls.fW ax (tCq nX (tCq FH tNq)) Tryz.func33 [.cell 6 69,.tmp 7] (nrq _) (T:=aq []) (h:=fun hcl hlt=>?_)
 clear hlt
 simp only [go_sem,aY,kO]
 refine ⟨S,⟨rfl,hS.sl.rl⟩,?_⟩
 rcases fa (q:=fun r:SRole=>r.id==role) (l:=S.roles) with ⟨b1,b2⟩|⟨i,r,b1,hil,b3,b2,_⟩
 ·rw [b2] at hR
  dsimp only at hR
  subst hR
  rw [b1]
  have d:decide ((-1:Int)<0)=true:=rfl
  simp only [aG,go_sem,d]
  exact Z29
 rw [b2] at hR
 dsimp only at hR
 rw [b1]
 have d:decide ((i:Int)<0)=false:=by simp
 have hg':=bw (f:=bZ) (l:=S.roles) (k:=i) (x:=r) b3
 have hgl:=(hS.gl r (List.mem_of_getElem? b3)).1
 simp only [aG,go_sem,d,iNq,hg',bZ,ybb]
 (repeat with_reducible refine Yq ?_)
 refine ⟨r.grants,fun g=>g.table==t,⟨rfl,hgl,fun g hgm=>?_⟩,?_⟩
 ·exact clB zW ⟨g,t,⟨rfl,by simp only [go_sem]⟩,rfl⟩
 rcases fa (q:=fun g:SGrant=>g.table==t) (l:=r.grants) with ⟨c1,c2⟩|⟨j,g,c1,hjl,c3,c2,_⟩
 ·rw [c2] at hR
  subst hR
  rw [c1]
  have d:decide ((-1:Int)<0)=true:=rfl
  simp only [aG,go_sem,d]
  exact Z29
 rw [c2] at hR
 subst hR
 rw [c1]
 have d2:decide ((j:Int)<0)=false:=by simp
 have hgx:=bw (f:=a9) (l:=r.grants) (k:=j) (x:=g) c3
 simp only [aG,go_sem,d2,iNq,hg',hgx,bZ,a9,ybb]
 (repeat with_reducible refine Yq ?_)
 simp (disch:=first|exact Zd|omega) [↓zmo,beq,ybc,ybd,ybe,ae,wk,wk2,wk1,wkM,wkL,ah,ybf,hcl,a9,AK]
def sj:List AV→AHeap→(AV→Prop)→Prop
 |[.agg l,.int .i64 role,.int .i64 a],_,K=>∃ S:Sch,(l=aY S∧SRol S)∧K (.bool (xG S role a))
 |_,_,_=>False
theorem yY:EntOk Tryz.prog 45 (Ent.pure sj):=by
 refine Ype fun _ H K h=>?_
 unfold sj at h
 split at h
 rotate_left
 ·exact h.elim
 rename_i l role a
 obtain ⟨S,⟨rfl,hS⟩,hK⟩:=h
 refine ⟨_,hK,?_⟩
 clear hK
 generalize hR:xG S role a=R
 unfold xG g7 at hR
 refine ACalls.fW ax (tCq nX (tCq xh tNq)) Tryz.func45 [.tmp 6] (nrq _) (T:=aq []) (h:=fun hcl hlt=>?_)
 clear hlt
 simp only [go_sem,aY,kO]
 refine ⟨S,⟨rfl,hS.sl.rl⟩,?_⟩
 rcases fa (q:=fun r:SRole=>r.id==role) (l:=S.roles) with ⟨b1,b2⟩|⟨i,r,b1,hil,b3,b2,_⟩
 ·rw [b2] at hR
  dsimp only at hR
  subst hR
  rw [b1]
  have d:decide ((-1:Int) ≥ 0)=false:=rfl
  simp only [aG,go_sem,d]
  exact Z0
 rw [b2] at hR
 dsimp only at hR
 rw [b1]
 have d:decide ((i:Int) ≥ 0)=true:=by simp
 have hg':=bw (f:=bZ) (l:=S.roles) (k:=i) (x:=r) b3
 have hgl:=(hS.gl r (List.mem_of_getElem? b3)).2.1
 simp only [aG,go_sem,d,iNq,hg',bZ,ybb,sH]
 try (repeat with_reducible refine Yq ?_)
 refine ⟨r.actions,⟨rfl,hgl⟩,?_⟩
 rw [hR]
 try simp only [aG,go_sem]
 exact Z0
def wD (l:List Bool) (k:Nat):Bool:=l.getD k false
def k7:List AV→AHeap→(AV→Prop)→Prop
 |[.agg l,.int .i64 n],_,K=>∃ (g:SGrant) (k:Nat),(.agg l=a9 g∧n=(k:Int))∧K (.bool (wD g.keys k))
 |_,_,_=>False
theorem qW:EntOk Tryz.prog 35 (Ent.pure k7):=by
 refine Ype fun _ H K h=>?_
 unfold k7 at h
 split at h
 rotate_left
 ·exact h.elim
 rename_i l n
 obtain ⟨g,k,⟨hl,rfl⟩,hK⟩:=h
 refine ⟨_,hK,?_⟩
 clear hK
 unfold a9 at hl
 cases hl
 generalize hR:wD g.keys k=R
 unfold wD at hR
 rw [gEq] at hR
 refine ACalls.fW ax tNq Tryz.func35 [.tmp 4] (nrq _) (T:=aq []) (h:=fun hcl hlt=>?_)
 clear hlt
 rcases Nat.lt_or_ge k g.keys.length with h1|h1
 ·obtain ⟨b,hb⟩:∃ b,g.keys[k]=b:=⟨_,rfl⟩
  rw [gQq h1,hb] at hR
  have hR':b=R:=hR
  subst hR'
  have hg':(boL g.keys).getD k .junk=.bool b:=bw (f:=AV.bool) (l:=g.keys) (k:=k) (x:=b) (by rw [gQq h1,hb])
  have d:decide ((k:Int)<(g.keys.length:Int))=true:=dtq (by omega)
  have hbl:(boL g.keys).length=g.keys.length:=by simp [boL]
  simp only [go_sem,d,hbl,hg',iNq]
  try (repeat with_reducible refine Yq ?_)
  exact Z0
 ·rw [gNq h1] at hR
  have hR':false=R:=hR
  subst hR'
  have d:decide ((k:Int)<(g.keys.length:Int))=false:=dfq (by omega)
  have hbl:(boL g.keys).length=g.keys.length:=by simp [boL]
  simp only [go_sem,d,hbl]
  try (repeat with_reducible refine Yq ?_)
  exact Z0
def jP:List AV→AHeap→(AV→Prop)→Prop
 |[.agg l,.int .i64 role,.int .i64 t],_,K=>∃ S:Sch,(l=aY S∧SRol S)∧K (.bool (zk S role t))
 |_,_,_=>False
theorem xI:EntOk Tryz.prog 14 (Ent.pure jP):=by
 refine Ype fun _ H K h=>?_
 unfold jP at h
 split at h
 rotate_left
 ·exact h.elim
 rename_i l role t
 obtain ⟨S,⟨rfl,hS⟩,hK⟩:=h
 refine ⟨_,hK,?_⟩
 clear hK
 generalize hR:zk S role t=R
 unfold zk at hR
 refine ACalls.fW ax (tCq j5 tNq) Tryz.func14 [.tmp 6] (nrq _) (T:=aq []) (h:=fun hcl hlt=>?_)
 clear hlt
 simp only [go_sem,aY,iu]
 refine ⟨S,⟨rfl,hS⟩,?_⟩
 generalize grF S role t=o at *
 cases o with
 |none =>
  dsimp only at hR
  subst hR
  simp only [aG,go_sem,Option.getD_none,yax,a9,jf]
  exact Z0
 |some g =>
  dsimp only at hR
  subst hR
  simp only [aG,go_sem,Option.getD_some,yaw,a9]
  exact Z0
theorem IE:ti Tryz.prog 130=some ⟨.slice 94,1,24,.slice .nil 1 []⟩:=by kernel_rfl
theorem Kn:ti Tryz.prog 94=some ⟨.func,1,8,.nilf⟩:=by kernel_rfl
theorem HW:ti Tryz.prog 53=some ⟨.func,1,8,.nilf⟩:=by kernel_rfl
attribute [go_sem] IE Kn HW
def ki (S:Sch) (role t:Int):Bool:=match grF S role t with
 |none=>false
 |some g=>g.write
def tO (ks:List Bool):List SMatch→Nat→Bool
 |[],_=>true
 |m::ms,k=>(!m.present||wD ks k)&&tO ks ms (k+1)
def qf (S:Sch) (role:Int) (e:SEntry):Bool:=tO ((grF S role e.table).getD jf).keys e.ms 0
def BJ (S:Sch) (e:SEntry):Bool:=match jb S e.table with
 |none=>false
 |some t=>t.actions.contains e.act
def orE (b:Bool) (e:Int):Int:=if b then 0 else e
def uP (S:Sch) (role:Int) (e:SEntry):List Int:=[orE (g7 S role).isSome 21,orE (jb S e.table).isSome 6,orE (ki S role e.table) 21,gy S e,orE (qf S role e) 21]
noncomputable def KN (S:Sch) (role:Int) (e:SEntry):List Int:=[orE (BJ S e) 6,orE (xG S role e.act) 21,jn S e,orE (CI S e) 15]
noncomputable def nD (S:Sch) (role kind:Int) (e:SEntry):Int :=
 if fM (uP S role e)=0 then (if kind=3 then (if e.act=0∧e.args=[] then 0 else 13) else fM (KN S role e)) else fM (uP S role e)
structure SPer (S:Sch):Prop where
 al:SAll S
 rl:SRol S
def MN (P:Program) (H:AHeap) (x:AV) (e:Int):Prop:=∃ (F:FuncId) (a b:Nat),(F=67∨F=40∨F=46)∧x=.func (.func F) [] [.ptr a 0,.ptr b 0]∧ACalls P F [.ptr a 0,.ptr b 0] H (.ret (.int .i64 e)) H
def FnsOk (P:Program) (H:AHeap):List AV→List Int→Prop
 |[],[]=>True
 |x::l,e::es=>MN P H x e∧FnsOk P H l es
 |_,_=>False
theorem FnsOk.len {P:Program} {H:AHeap}:∀ {l:List AV} {es:List Int},FnsOk P H l es→l.length=es.length
 |[],[],_=>rfl
 |x::l,e::es,h=>by rw [yaz,yaz,FnsOk.len h.2]
 |[],_::_,h=>h.elim
 |_::_,[],h=>h.elim
theorem FnsOk.get {P:Program} {H:AHeap}:∀ {l:List AV} {es:List Int} {k:Nat},FnsOk P H l es→(hk:k<es.length)→MN P H (l.getD k .junk) es[k]
 |[],[],k,_,hk=>absurd hk (Nat.not_lt_zero k)
 |x::l,e::es,0,h,_=>h.1
 |x::l,e::es,k+1,h,hk=>FnsOk.get (l:=l) h.2 (by simpa using hk)
 |[],_::_,_,h,_=>h.elim
 |_::_,[],_,h,_=>h.elim
def px:List AV→AHeap→(AV→Prop)→Prop
 |[.slice _ 1 l],H,K=>∃ es:List Int,(FnsOk Tryz.prog H l es∧es.length≤1000)∧K (.int .i64 (fM es))
 |_,_,_=>False
theorem Dq:EntOk Tryz.prog 36 (Ent.pure px):=by
 refine Ype fun _ H K h=>?_
 unfold px at h
 split at h
 rotate_left
 ·exact h.elim
 rename_i m l
 obtain ⟨es,⟨hf,hl⟩,hK⟩:=h
 refine ⟨_,hK,?_⟩
 clear hK
 generalize hR:fM es=R
 have hll:=hf.len
 refine ACalls.fW ax (tCq (tj (F:=67)) (tCq (tj (F:=40)) (tCq (tj (F:=46)) tNq))) Tryz.func36 [.tmp 2] (nrq _) (T:=aq []) (h:=fun hcl hlt=>?_)
 have hm:AV.lt H.nx (.slice m 1 l):=hlt _ (by simp)
 clear hlt
 simp only [go_sem,hll]
 refine aE (A:=Nat) (fun k=>[(6,.slice m 1 l),(7,.int .i64 (es.length:Int)),(8,.int .i64 (k:Int))]) (fun _=>H) (fun k=>k≤es.length∧fM (es.drop k)=R) (fun k=>es.length - k) 0 ⟨by omega,hR⟩ ?_ fun k hk=>?_
 ·exact ⟨nrq _,lRq _,hcl,by simp [ltF,znf,hm],by simp [aK,wk2,wk1,wkM,Fr.get]⟩
 clear hR
 obtain ⟨hk,hR⟩:=hk
 simp only [go_sem]
 refine aj (fun hc=>?_) (fun hc=>?_)
 ·have hk':k<es.length:=by simp at hc;omega
  have hd:es.drop k=es[k]::es.drop (k+1):=dcq hk'
  have e5:=Yk5 k
  obtain ⟨F,a,b,hF,hx,hca⟩:=hf.get hk'
  rw [hd,fM] at hR
  generalize es[k]=e at *
  rcases hF with rfl|rfl|rfl
  all_goals
   simp only [go_sem,iNq,hll,hx,IP]
   try (repeat with_reducible refine Yq ?_)
   refine ⟨_,?_,hca⟩
   try simp only [aG,go_sem]
   refine aj (fun hq=>?_) (fun hq=>?_)
   ·rw [if_pos hq] at hR
    subst hR
    simp only [go_sem]
    exact Z0
   ·rw [if_neg (by rw [hq];decide)] at hR
    simp only [go_sem,e5]
    exact ⟨k+1,⟨by omega,hR⟩,by omega,nrq _,lRq _,hcl,by simp [ltF,znf,hm],by simp [aK,wk2,wk1,wkM,Fr.get]⟩
 ·have hk':k=es.length:=by simp at hc;omega
  subst hk'
  rw [List.drop_length] at hR
  subst hR
  simp only [go_sem]
  simp (disch:=first|exact Zd|omega) [↓zmo,beq,ybc,ybd,ybe,ae,wk,wk2,wk1,wkM,wkL,ah,ybf,hcl,fM]
theorem Kq {n a b:Nat} {f:Fn} (ha:a<n) (hb:b<n):AV.lt n (.func f [] [.ptr a 0,.ptr b 0]):=by
 rw [AV.lt]
 refine ⟨fun j hj=>absurd hj (by simp),fun j hj=>?_⟩
 match j,hj with
 |0,_=>simpa [znn] using ha
 |1,_=>simpa [znn] using hb
def nw:List AV→AHeap→(AEnd→AHeap→Prop)→Prop
 |[.func (.func F) [] caps,.int .i64 e],H,K=>K (.ret (.func (.func 67) [] [.ptr H.nx 0,.ptr (H.nx+1) 0])) ((H.push (.cells [.func (.func F) [] caps])).push (.cells [.int .i64 e]))
 |_,_,_=>False
theorem zJ:EntOk Tryz.prog 37 (Ent.effect nw):=by
 refine EntOk.effect fun args H K h=>?_
 unfold nw at h
 split at h
 rotate_left
 ·exact h.elim
 rename_i F caps e
 refine ⟨_,_,h,?_⟩
 clear h
 refine ACalls.fW ax tNq Tryz.func37 [.tmp 4] (by simp only [zle];omega) (T:=aq []) (h:=fun hcl hlt=>?_)
 have hf:AV.lt H.nx (.func (.func F) [] caps):=hlt _ (by simp)
 have h0:=AV.lt_mono (Nat.le_succ H.nx) _ hf
 clear hlt
 simp only [go_sem]
 simp (disch:=first|exact Zd|omega) [↓zmo,beq,ybc,ybd,ybe,ae,wk,wk2,wk1,wkM,wkL,ah,ybf,hcl]
 exact Kq (by omega) (by omega)
def Ge:List AV→AHeap→(AV→Prop)→Prop
 |[.ptr a 0,.ptr b 0],H,K=>∃ (F:FuncId) (caps:List AV) (q:Bool) (e:Int),(H.get a=some (.cells [.func (.func F) [] caps])∧H.get b=some (.cells [.int .i64 e])∧ACalls Tryz.prog F caps H (.ret (.bool q)) H)∧K (.int .i64 (orE q e))
 |_,_,_=>False
theorem lB:EntOk Tryz.prog 67 (Ent.pure Ge):=by
 refine Ype fun _ H K h=>?_
 unfold Ge at h
 split at h
 rotate_left
 ·exact h.elim
 rename_i a b
 obtain ⟨F,caps,q,e,⟨h1,h2,h3⟩,hK⟩:=h
 refine ⟨_,hK,?_⟩
 clear hK
 refine ACalls.fW ax (tCq (tj (F:=F)) tNq) Tryz.func67 [.tmp 2] (nrq _) (T:=aq []) (h:=fun hcl hlt=>?_)
 clear hlt
 have hc1:=au h1
 have hc2:=au h2
 have n1:=glq h1
 have n2:=glq h2
 have e1:(a=H.nx)=False:=eq_false (by omega)
 have e2:(b=H.nx)=False:=eq_false (by omega)
 simp only [go_sem,hc1,hc2,e1,e2,h1,h2,IP]
 try (repeat with_reducible refine Yq ?_)
 refine ⟨_,?_,h3⟩
 cases q
 all_goals
  simp only [aG,go_sem,hc1,hc2,e1,e2,h1,h2,orE]
  try (repeat with_reducible refine Yq ?_)
  simp (disch:=first|exact Zd|omega) [↓zmo,beq,ybc,ybd,ybe,ae,wk,wk2,wk1,wkM,wkL,ah,ybf,hcl]
def JO:List AV→AHeap→(AV→Prop)→Prop
 |[.ptr a 0,.ptr b 0],H,K=>∃ (S:Sch) (e:SEntry),(H.get a=some (.cells (aY S))∧H.get b=some (.cells (aJ e))∧S.tables.length≤1000000)∧K (.bool (jb S e.table).isSome)
 |_,_,_=>False
theorem La:EntOk Tryz.prog 30 (Ent.pure JO):=by
 refine Ype fun _ H K h=>?_
 unfold JO at h
 split at h
 rotate_left
 ·exact h.elim
 rename_i a b
 obtain ⟨S,e,⟨ha,hb,hS⟩,hK⟩:=h
 refine ⟨_,hK,?_⟩
 clear hK
 generalize hR:(jb S e.table).isSome=R
 refine ACalls.fW ax (tCq iL tNq) Tryz.func30 [.tmp 2] (nrq _) (T:=aq []) (h:=fun hcl hlt=>?_)
 clear hlt
 have ca:=au ha
 have la:=glq ha
 have ea:(a=H.nx)=False:=eq_false (by omega)
 have cb:=au hb
 have lb:=glq hb
 have eb:(b=H.nx)=False:=eq_false (by omega)
 simp only [go_sem,ca,ea,ha,cb,eb,hb,aY,aJ,gm]
 try (repeat with_reducible refine Yq ?_)
 refine ⟨S,⟨rfl,hS⟩,?_⟩
 rcases fa (q:=fun t:STable=>t.id==e.table) (l:=S.tables) with ⟨b1,b2⟩|⟨i,t,b1,hil,b3,b2,_⟩
 ·have:jb S e.table=none:=b2
  rw [this] at hR
  subst hR
  rw [b1]
  have d:decide ((-1:Int) ≥ 0)=false:=rfl
  simp only [aG,go_sem,d]
  exact Z0
 ·have:jb S e.table=some t:=b2
  rw [this] at hR
  subst hR
  rw [b1]
  have d:decide ((i:Int) ≥ 0)=true:=by simp
  simp only [aG,go_sem,d]
  exact Z0
def JV:List AV→AHeap→(AV→Prop)→Prop
 |[.ptr a 0,.ptr b 0,.ptr c 0],H,K=>∃ (S:Sch) (role:Int) (e:SEntry),(H.get a=some (.cells (aY S))∧H.get b=some (.cells [.int .i64 role])∧H.get c=some (.cells (aJ e))∧SRol S)∧K (.bool (ki S role e.table))
 |_,_,_=>False
theorem KV:EntOk Tryz.prog 32 (Ent.pure JV):=by
 refine Ype fun _ H K h=>?_
 unfold JV at h
 split at h
 rotate_left
 ·exact h.elim
 rename_i a b c
 obtain ⟨S,role,e,⟨ha,hb,hc,hS⟩,hK⟩:=h
 refine ⟨_,hK,?_⟩
 clear hK
 generalize hR:ki S role e.table=R
 refine ACalls.fW ax (tCq j5 tNq) Tryz.func32 [.tmp 3] (nrq _) (T:=aq []) (h:=fun hcl hlt=>?_)
 clear hlt
 have ca:=au ha
 have la:=glq ha
 have ea:(a=H.nx)=False:=eq_false (by omega)
 have cb:=au hb
 have lb:=glq hb
 have eb:(b=H.nx)=False:=eq_false (by omega)
 have cc:=au hc
 have lc:=glq hc
 have ec:(c=H.nx)=False:=eq_false (by omega)
 unfold ki at hR
 simp only [go_sem,ca,ea,ha,cb,eb,hb,cc,ec,hc,aY,aJ,iu]
 try (repeat with_reducible refine Yq ?_)
 refine ⟨S,⟨rfl,hS⟩,?_⟩
 generalize grF S role e.table=o at *
 cases o with
 |none =>
  dsimp only at hR
  subst hR
  simp only [aG,go_sem,Option.getD_none,yax,a9,jf]
  exact Z0
 |some g =>
  dsimp only at hR
  subst hR
  simp only [aG,go_sem,Option.getD_some,yaw,a9]
  exact Z0
def JJ:List AV→AHeap→(AV→Prop)→Prop
 |[.ptr a 0,.ptr b 0,.ptr c 0],H,K=>∃ (S:Sch) (role:Int) (e:SEntry),(H.get a=some (.cells (aY S))∧H.get b=some (.cells [.int .i64 role])∧H.get c=some (.cells (aJ e))∧SRol S∧e.ms.length≤140737488355328)∧K (.bool (qf S role e))
 |_,_,_=>False
theorem KO:EntOk Tryz.prog 34 (Ent.pure JJ):=by
 refine Ype fun _ H K h=>?_
 unfold JJ at h
 split at h
 rotate_left
 ·exact h.elim
 rename_i a b c
 obtain ⟨S,role,e,⟨ha,hb,hc,hS,hml⟩,hK⟩:=h
 refine ⟨_,hK,?_⟩
 clear hK
 generalize hR:qf S role e=R
 refine ACalls.fW ax (tCq j5 (tCq qW tNq)) Tryz.func34 [.tmp 3] (nrq _) (T:=aq []) (h:=fun hcl hlt=>?_)
 clear hlt
 have ca:=au ha
 have la:=glq ha
 have ea:(a=H.nx)=False:=eq_false (by omega)
 have cb:=au hb
 have lb:=glq hb
 have eb:(b=H.nx)=False:=eq_false (by omega)
 have cc:=au hc
 have lc:=glq hc
 have ec:(c=H.nx)=False:=eq_false (by omega)
 unfold qf at hR
 simp only [go_sem,ca,ea,ha,cb,eb,hb,cc,ec,hc,aY,aJ,iu]
 try (repeat with_reducible refine Yq ?_)
 refine ⟨S,⟨rfl,hS⟩,?_⟩
 generalize (grF S role e.table).getD jf=g at *
 generalize (grF S role e.table).isSome=is at *
 have hc1:(c=H.nx+1)=False:=eq_false (by omega)
 have hclG:=aa hcl (E2 g)
 simp only [aG,go_sem,ca,ea,ha,cb,eb,hb,cc,ec,hc,hc1,aY,aJ,a9]
 try (repeat with_reducible refine Yq ?_)
 refine aE (A:=Nat) (fun k=>[(4,.ptr H.nx 0),(17,.slice .any 8 (e.ms.map aT)),(18,.int .i64 (e.ms.length:Int)),(19,.int .i64 (k:Int))]) (fun _=>H.push (.cells [.int .i64 g.table,.bool g.read,.bool g.write,.slice .any 1 (boL g.keys)]))
  (fun k=>k≤e.ms.length∧tO g.keys (e.ms.drop k) k=R) (fun k=>e.ms.length - k) 0 ⟨Nat.zero_le _,hR⟩ ?_ fun k hk=>?_
 ·refine ⟨by (try simp only [zkq,zkv,zle]);omega,by repeat first|exact .refl _|refine .push ?_ _,hclG,?_,?_⟩
  ·simp [ltF,zle,znn,znf,aW eA]
   try omega
  ·simp [aK,wk2,wk1,wkM,Fr.get]
 clear hR
 obtain ⟨hk,hR⟩:=hk
 simp only [go_sem]
 refine aj (fun hc=>?_) (fun hc=>?_)
 ·have hk':k<e.ms.length:=by simp at hc;omega
  obtain ⟨m,hm⟩:∃ m,m=e.ms[k]:=⟨_,rfl⟩
  have hd:e.ms.drop k=m::e.ms.drop (k+1):=by rw [hm];exact dcq hk'
  have hgx:=bw (f:=aT) (l:=e.ms) (k:=k) (x:=m) (by rw [gQq hk',hm])
  have e5:=Yk5 k
  rw [hd,tO] at hR
  cases hp:m.present
  ·rw [hp,Bool.not_false,Bool.true_or,Bool.true_and] at hR
   simp only [aV,aG,bhq,Nat.reduceMod,Nat.reduceDiv,aC,aB,aD,aR,aF,aQ,aN,aO,aP,yaq,yar,yao,yap,go_sem,iNq,hgx,aT,bP,vc,yal,yak,ybb,hp,e5]
   try (repeat with_reducible refine Yq ?_)
   refine ⟨k+1,⟨by omega,hR⟩,by omega,?_⟩
   refine ⟨by (try simp only [zkq,zkv,zle]);omega,by repeat first|exact .refl _|refine .push ?_ _,hclG,?_,?_⟩
   ·simp [ltF,zle,znn,znf,aW eA]
    try omega
   ·simp [aK,wk2,wk1,wkM,Fr.get]
  ·rw [hp,Bool.not_true,Bool.false_or] at hR
   simp only [aV,aG,bhq,Nat.reduceMod,Nat.reduceDiv,aC,aB,aD,aR,aF,aQ,aN,aO,aP,yaq,yar,yao,yap,go_sem,iNq,hgx,aT,bP,vc,yal,yak,ybb,hp,k7]
   try (repeat with_reducible refine Yq ?_)
   refine ⟨g,k,⟨rfl,rfl⟩,?_⟩
   cases hv:wD g.keys k
   ·rw [hv,Bool.false_and] at hR
    subst hR
    simp only [aV,aG,bhq,Nat.reduceMod,Nat.reduceDiv,aC,aB,aD,aR,aF,aQ,aN,aO,aP,yaq,yar,yao,yap,go_sem,Bool.not_false]
    exact Z0
   ·rw [hv,Bool.true_and] at hR
    simp only [aV,aG,bhq,Nat.reduceMod,Nat.reduceDiv,aC,aB,aD,aR,aF,aQ,aN,aO,aP,yaq,yar,yao,yap,go_sem,Bool.not_true,e5]
    refine ⟨k+1,⟨by omega,hR⟩,by omega,?_⟩
    refine ⟨by (try simp only [zkq,zkv,zle]);omega,by repeat first|exact .refl _|refine .push ?_ _,hclG,?_,?_⟩
    ·simp [ltF,zle,znn,znf,aW eA]
     try omega
    ·simp [aK,wk2,wk1,wkM,Fr.get]
 ·have hk':k=e.ms.length:=by simp at hc;omega
  subst hk'
  rw [List.drop_length,tO] at hR
  subst hR
  simp only [go_sem]
  exact Z0
def JK:List AV→AHeap→(AV→Prop)→Prop
 |[.ptr a 0,.ptr b 0],H,K=>∃ (S:Sch) (role:Int),(H.get a=some (.cells (aY S))∧H.get b=some (.cells [.int .i64 role])∧S.roles.length≤1000000)∧K (.bool (g7 S role).isSome)
 |_,_,_=>False
theorem KY:EntOk Tryz.prog 38 (Ent.pure JK):=by
 refine Ype fun _ H K h=>?_
 unfold JK at h
 split at h
 rotate_left
 ·exact h.elim
 rename_i a b
 obtain ⟨S,role,⟨ha,hb,hS⟩,hK⟩:=h
 refine ⟨_,hK,?_⟩
 clear hK
 generalize hR:(g7 S role).isSome=R
 refine ACalls.fW ax (tCq nX tNq) Tryz.func38 [.tmp 2] (nrq _) (T:=aq []) (h:=fun hcl hlt=>?_)
 clear hlt
 have ca:=au ha
 have la:=glq ha
 have ea:(a=H.nx)=False:=eq_false (by omega)
 have cb:=au hb
 have lb:=glq hb
 have eb:(b=H.nx)=False:=eq_false (by omega)
 simp only [go_sem,ca,ea,ha,cb,eb,hb,aY,kO]
 try (repeat with_reducible refine Yq ?_)
 refine ⟨S,⟨rfl,hS⟩,?_⟩
 rcases fa (q:=fun t:SRole=>t.id==role) (l:=S.roles) with ⟨b1,b2⟩|⟨i,t,b1,hil,b3,b2,_⟩
 ·have:g7 S role=none:=b2
  rw [this] at hR
  subst hR
  rw [b1]
  have d:decide ((-1:Int) ≥ 0)=false:=rfl
  simp only [aG,go_sem,d]
  exact Z0
 ·have:g7 S role=some t:=b2
  rw [this] at hR
  subst hR
  rw [b1]
  have d:decide ((i:Int) ≥ 0)=true:=by simp
  simp only [aG,go_sem,d]
  exact Z0
def JY:List AV→AHeap→(AV→Prop)→Prop
 |[.ptr a 0,.ptr b 0],H,K=>∃ (S:Sch) (e:SEntry),(H.get a=some (.cells (aY S))∧H.get b=some (.cells (aJ e))∧SChk S∧EOk e)∧K (.int .i64 (gy S e))
 |_,_,_=>False
theorem Lj:EntOk Tryz.prog 40 (Ent.pure JY):=by
 refine Ype fun _ H K h=>?_
 unfold JY at h
 split at h
 rotate_left
 ·exact h.elim
 rename_i a b
 obtain ⟨S,e,⟨ha,hb,hS,he⟩,hK⟩:=h
 refine ⟨_,hK,?_⟩
 clear hK
 generalize hR:gy S e=R
 refine ACalls.fW ax (tCq w7 tNq) Tryz.func40 [.tmp 2] (nrq _) (T:=aq []) (h:=fun hcl hlt=>?_)
 clear hlt
 have ca:=au ha
 have la:=glq ha
 have ea:(a=H.nx)=False:=eq_false (by omega)
 have cb:=au hb
 have lb:=glq hb
 have eb:(b=H.nx)=False:=eq_false (by omega)
 simp only [go_sem,ca,ea,ha,cb,eb,hb,aY,aJ,lZ]
 try (repeat with_reducible refine Yq ?_)
 refine ⟨S,e,⟨rfl,rfl,hS.sl.tl,hS.sl.fl,fun t ht=>by have:=hS.kl t ht;omega,he⟩,?_⟩
 rw [hR]
 try simp only [aG,go_sem]
 exact Z0
def JX:List AV→AHeap→(AV→Prop)→Prop
 |[.ptr a 0,.ptr b 0],H,K=>∃ (S:Sch) (e:SEntry),(H.get a=some (.cells (aY S))∧H.get b=some (.cells (aJ e))∧SAct S∧EArg e)∧K (.int .i64 (jn S e))
 |_,_,_=>False
theorem KX:EntOk Tryz.prog 46 (Ent.pure JX):=by
 refine Ype fun _ H K h=>?_
 unfold JX at h
 split at h
 rotate_left
 ·exact h.elim
 rename_i a b
 obtain ⟨S,e,⟨ha,hb,hS,he⟩,hK⟩:=h
 refine ⟨_,hK,?_⟩
 clear hK
 generalize hR:jn S e=R
 refine ACalls.fW ax (tCq wR tNq) Tryz.func46 [.tmp 2] (nrq _) (T:=aq []) (h:=fun hcl hlt=>?_)
 clear hlt
 have ca:=au ha
 have la:=glq ha
 have ea:(a=H.nx)=False:=eq_false (by omega)
 have cb:=au hb
 have lb:=glq hb
 have eb:(b=H.nx)=False:=eq_false (by omega)
 simp only [go_sem,ca,ea,ha,cb,eb,hb,aY,aJ,lV]
 try (repeat with_reducible refine Yq ?_)
 refine ⟨S,e,⟨rfl,rfl,hS,he⟩,?_⟩
 rw [hR]
 try simp only [aG,go_sem]
 exact Z0
def JM:List AV→AHeap→(AV→Prop)→Prop
 |[.ptr a 0,.ptr b 0],H,K=>∃ (S:Sch) (e:SEntry),(H.get a=some (.cells (aY S))∧H.get b=some (.cells (aJ e))∧SAdm S∧EAdm e)∧K (.bool (CI S e))
 |_,_,_=>False
theorem K0:EntOk Tryz.prog 48 (Ent.pure JM):=by
 refine Ype fun _ H K h=>?_
 unfold JM at h
 split at h
 rotate_left
 ·exact h.elim
 rename_i a b
 obtain ⟨S,e,⟨ha,hb,hS,he⟩,hK⟩:=h
 refine ⟨_,hK,?_⟩
 clear hK
 generalize hR:CI S e=R
 refine ACalls.fW ax (tCq Iz tNq) Tryz.func48 [.tmp 2] (nrq _) (T:=aq []) (h:=fun hcl hlt=>?_)
 clear hlt
 have ca:=au ha
 have la:=glq ha
 have ea:(a=H.nx)=False:=eq_false (by omega)
 have cb:=au hb
 have lb:=glq hb
 have eb:(b=H.nx)=False:=eq_false (by omega)
 simp only [go_sem,ca,ea,ha,cb,eb,hb,aY,aJ,Ag]
 try (repeat with_reducible refine Yq ?_)
 refine ⟨S,e,⟨rfl,rfl,hS,he⟩,?_⟩
 rw [hR]
 try simp only [aG,go_sem]
 exact Z0
def JD:List AV→AHeap→(AV→Prop)→Prop
 |[.ptr a 0,.ptr b 0],H,K=>∃ (S:Sch) (e:SEntry),(H.get a=some (.cells (aY S))∧H.get b=some (.cells (aJ e))∧S.tables.length≤1000000∧(∀ t∈S.tables,t.actions.length≤1000000)∧jb S e.table≠none)∧K (.bool (BJ S e))
 |_,_,_=>False
theorem Kl:EntOk Tryz.prog 42 (Ent.pure JD):=by
 refine Ype fun _ H K h=>?_
 unfold JD at h
 split at h
 rotate_left
 ·exact h.elim
 rename_i a b
 obtain ⟨S,e,⟨ha,hb,hS,hta,hne⟩,hK⟩:=h
 refine ⟨_,hK,?_⟩
 clear hK
 generalize hR:BJ S e=R
 refine ACalls.fW ax (tCq iL (tCq xh tNq)) Tryz.func42 [.tmp 2] (nrq _) (T:=aq [(1,[[],[],[],[],[],[2,4],[],[],[5],[],[],[1,2,4,5,8,10]])]) (h:=fun hcl hlt=>?_)
 clear hlt
 have ca:=au ha
 have la:=glq ha
 have ea:(a=H.nx)=False:=eq_false (by omega)
 have cb:=au hb
 have lb:=glq hb
 have eb:(b=H.nx)=False:=eq_false (by omega)
 unfold BJ at hR
 simp only [go_sem,ca,ea,ha,cb,eb,hb,aY,aJ,gm]
 try (repeat with_reducible refine Yq ?_)
 refine ⟨S,⟨rfl,hS⟩,?_⟩
 rcases fa (q:=fun t:STable=>t.id==e.table) (l:=S.tables) with ⟨b1,b2⟩|⟨i,t,b1,hil,b3,b2,_⟩
 ·exact absurd b2 hne
 have:jb S e.table=some t:=b2
 rw [this] at hR
 dsimp only at hR
 rw [b1]
 have hg':=bw (f:=bc) (l:=S.tables) (k:=i) (x:=t) b3
 have htl:=hta t (List.mem_of_getElem? b3)
 simp only [aG,go_sem,iNq,hg',bc,ybb,sH]
 try (repeat with_reducible refine Yq ?_)
 refine ⟨t.actions,⟨rfl,htl⟩,?_⟩
 rw [hR]
 try simp only [aG,go_sem]
 exact Z0
def JG:List AV→AHeap→(AV→Prop)→Prop
 |[.ptr a 0,.ptr b 0,.ptr c 0],H,K=>∃ (S:Sch) (role:Int) (e:SEntry),(H.get a=some (.cells (aY S))∧H.get b=some (.cells [.int .i64 role])∧H.get c=some (.cells (aJ e))∧SRol S)∧K (.bool (xG S role e.act))
 |_,_,_=>False
theorem K7:EntOk Tryz.prog 44 (Ent.pure JG):=by
 refine Ype fun _ H K h=>?_
 unfold JG at h
 split at h
 rotate_left
 ·exact h.elim
 rename_i a b c
 obtain ⟨S,role,e,⟨ha,hb,hc,hS⟩,hK⟩:=h
 refine ⟨_,hK,?_⟩
 clear hK
 generalize hR:xG S role e.act=R
 refine ACalls.fW ax (tCq yY tNq) Tryz.func44 [.tmp 3] (nrq _) (T:=aq []) (h:=fun hcl hlt=>?_)
 clear hlt
 have ca:=au ha
 have la:=glq ha
 have ea:(a=H.nx)=False:=eq_false (by omega)
 have cb:=au hb
 have lb:=glq hb
 have eb:(b=H.nx)=False:=eq_false (by omega)
 have cc:=au hc
 have lc:=glq hc
 have ec:(c=H.nx)=False:=eq_false (by omega)
 simp only [go_sem,ca,ea,ha,cb,eb,hb,cc,ec,hc,aY,aJ,sj]
 try (repeat with_reducible refine Yq ?_)
 refine ⟨S,⟨rfl,hS⟩,?_⟩
 rw [hR]
 try simp only [aG,go_sem]
 exact Z0
theorem Jp:ti Tryz.prog 44=some ⟨.struct [(0,3,false),(1,26,false)],6,80,.agg [.int .i64 0,.int .i64 0,.slice .nil 1 [],.int .i64 0,.int .i64 0,.slice .nil 1 []]⟩:=by kernel_rfl
theorem Ii:ti Tryz.prog 51=some ⟨.int .i64,1,8,.int .i64 0⟩:=by kernel_rfl
attribute [go_sem] Jp Ii
theorem hgt {H:AHeap} {i:Nat} {o:AObj} (h:H.get i=some o:=by
 (repeat rw [gPq _ _ (by simp only [zle];omega)])
 exact AHeap.get_push_new _ _):H.get i=some o:=h
theorem pC:∀ {xs:List Int},fM xs=0→∀ x∈xs,x=0
 |[],_,x,hx=>by cases hx
 |y::ys,h,x,hx=>by
  rw [fM] at h
  split at h
  ·rename_i h1;subst h;simp at h1
  ·rename_i h1
   rcases List.mem_cons.1 hx with rfl|hx
   ·simpa using h1
   ·exact pC h x hx
theorem ph {b:Bool} {e:Int} (h:orE b e=0) (he:e≠0):b=true:=by
 cases b
 ·exact absurd h he
 ·rfl
structure Key5 (S:Sch) (role:Int) (e:SEntry):Prop where
 r:(g7 S role).isSome=true
 t:(jb S e.table).isSome=true
 w:ki S role e.table=true
 k:gy S e=0
 s:qf S role e=true
theorem DI {S:Sch} {role:Int} {e:SEntry} (h:fM (uP S role e)=0):Key5 S role e:=by
 have h':=pC h
 unfold uP at h'
 exact ⟨ph (h' (orE (g7 S role).isSome 21) (by simp)) (by decide),ph (h' (orE (jb S e.table).isSome 6) (by simp)) (by decide),ph (h' (orE (ki S role e.table) 21) (by simp)) (by decide),h' (gy S e) (by simp),ph (h' (orE (qf S role e) 21) (by simp)) (by decide)⟩
def eD:List AV→AHeap→(AV→Prop)→Prop
 |[.agg l,.int .i64 role,.agg lu],_,K=>∃ (S:Sch) (kind:Int) (e:SEntry),(l=aY S∧lu=.int .i64 kind::aJ e∧SPer S∧EAll e)∧K (.int .i64 (nD S role kind e))
 |_,_,_=>False
theorem n5:EntOk Tryz.prog 11 (Ent.pure eD):=by
 refine Ype fun _ H K h=>?_
 unfold eD at h
 split at h
 rotate_left
 ·exact h.elim
 rename_i l role lu
 obtain ⟨S,kind,e,⟨rfl,rfl,hS,he⟩,hK⟩:=h
 refine ⟨_,hK,?_⟩
 clear hK
 generalize hR:nD S role kind e=R
 unfold nD at hR
 have hS1:=hS.al
 have hS2:=hS.rl
 have hrl:=hS2.sl.rl
 have htl:=hS2.sl.tl
 have hta:∀ t∈S.tables,t.actions.length≤1000000:=fun t ht=>by have:=(hS1.ac.tl t ht).1;omega
 refine ACalls.fW ax (tCq zJ (tCq Dq tNq)) Tryz.func11 [.tmp 6] (nrq _) (T:=aq []) (h:=fun hcl hlt=>?_)
 clear hlt
 simp only [go_sem,aY,aJ,nw,px]
 try (repeat with_reducible refine Yq ?_)
 refine ⟨uP S role e,⟨⟨?_,?_,?_,?_,?_,trivial⟩,by simp [uP]⟩,?_⟩
 ·exact ⟨_,_,_,.inl rfl,rfl,clB lB ⟨38,[.ptr H.nx 0,.ptr (H.nx+1) 0],_,_,⟨hgt,hgt,clB KY ⟨S,role,⟨hgt,hgt,hrl⟩,rfl⟩⟩,rfl⟩⟩
 ·exact ⟨_,_,_,.inl rfl,rfl,clB lB ⟨30,[.ptr H.nx 0,.ptr (H.nx+1+1+1) 0],_,_,⟨hgt,hgt,clB La ⟨S,e,⟨hgt,hgt,htl⟩,rfl⟩⟩,rfl⟩⟩
 ·exact ⟨_,_,_,.inl rfl,rfl,clB lB ⟨32,[.ptr H.nx 0,.ptr (H.nx+1) 0,.ptr (H.nx+1+1+1) 0],_,_,⟨hgt,hgt,clB KV ⟨S,role,e,⟨hgt,hgt,hgt,hS2⟩,rfl⟩⟩,rfl⟩⟩
 ·exact ⟨_,_,_,.inr (.inl rfl),rfl,clB Lj ⟨S,e,⟨hgt,hgt,hS1.ck,he.ok⟩,rfl⟩⟩
 ·exact ⟨_,_,_,.inl rfl,rfl,clB lB ⟨34,[.ptr H.nx 0,.ptr (H.nx+1) 0,.ptr (H.nx+1+1+1) 0],_,_,⟨hgt,hgt,clB KO ⟨S,role,e,⟨hgt,hgt,hgt,hS2,he.ok.ml⟩,rfl⟩⟩,rfl⟩⟩
 by_cases hk:fM (uP S role e)=0
 rotate_left
 ·rw [if_neg hk] at hR
  generalize fM (uP S role e)=k at *
  subst hR
  have d:(k != 0)=true:=by simp [hk]
  simp only [aV,aG,bhq,Nat.reduceMod,Nat.reduceDiv,aC,aB,aD,aR,aF,aQ,aN,aO,aP,yaq,yar,yao,yap,go_sem,d]
  simp (disch:=first|exact Zd|omega) [↓zmo,beq,ybc,ybd,ybe,ae,wk,wk2,wk1,wkM,wkL,ah,ybf,hcl]
  first|done|repeat first|exact .refl _|refine .push ?_ _
 rw [if_pos hk] at hR
 have hz:=DI hk
 rw [hk]
 have d:((0:Int) != 0)=false:=rfl
 by_cases h3:kind=3
 ·rw [if_pos h3] at hR
  have d3:(kind==3)=true:=by simp [h3]
  by_cases ha:e.act=0
  ·have da:(e.act != 0)=false:=by simp [ha]
   by_cases hg:e.args=[]
   ·rw [if_pos ⟨ha,hg⟩] at hR
    subst hR
    have dg:decide (((0:Nat):Int) > 0)=false:=rfl
    simp only [aV,aG,bhq,Nat.reduceMod,Nat.reduceDiv,aC,aB,aD,aR,aF,aQ,aN,aO,aP,yaq,yar,yao,yap,go_sem,d,d3,da,hg,yaf,yba,dg]
    try simp (disch:=first|exact Zd|omega) [↓zmo,beq,ybc,ybd,ybe,ae,wk,wk2,wk1,wkM,wkL,ah,ybf,hcl]
    first|done|repeat first|exact .refl _|refine .push ?_ _
   ·rw [if_neg (fun x=>hg x.2)] at hR
    subst hR
    have dg:decide ((e.args.length:Int) > 0)=true:=by
     cases hq:e.args with
     |nil=>exact absurd hq hg
     |cons x xs=>simp
    simp only [aV,aG,bhq,Nat.reduceMod,Nat.reduceDiv,aC,aB,aD,aR,aF,aQ,aN,aO,aP,yaq,yar,yao,yap,go_sem,d,d3,da,ybb,dg]
    try simp (disch:=first|exact Zd|omega) [↓zmo,beq,ybc,ybd,ybe,ae,wk,wk2,wk1,wkM,wkL,ah,ybf,hcl]
    first|done|repeat first|exact .refl _|refine .push ?_ _
  ·rw [if_neg (fun x=>ha x.1)] at hR
   subst hR
   have da:(e.act != 0)=true:=by simp [ha]
   simp only [aV,aG,bhq,Nat.reduceMod,Nat.reduceDiv,aC,aB,aD,aR,aF,aQ,aN,aO,aP,yaq,yar,yao,yap,go_sem,d,d3,da]
   try simp (disch:=first|exact Zd|omega) [↓zmo,beq,ybc,ybd,ybe,ae,wk,wk2,wk1,wkM,wkL,ah,ybf,hcl]
   first|done|repeat first|exact .refl _|refine .push ?_ _
 rw [if_neg h3] at hR
 have d3:(kind==3)=false:=by simp [h3]
 simp only [aV,aG,bhq,Nat.reduceMod,Nat.reduceDiv,aC,aB,aD,aR,aF,aQ,aN,aO,aP,yaq,yar,yao,yap,go_sem,d,d3,aY,aJ,nw,px]
 try (repeat with_reducible refine Yq ?_)
 refine ⟨KN S role e,⟨⟨?_,?_,?_,?_,trivial⟩,by simp [KN]⟩,?_⟩
 ·exact ⟨_,_,_,.inl rfl,rfl,clB lB ⟨42,[.ptr H.nx 0,.ptr (H.nx+1+1+1) 0],_,_,⟨hgt,hgt,clB Kl ⟨S,e,⟨hgt,hgt,htl,hta,fun h=>by have:=hz.t;rw [h] at this;cases this⟩,rfl⟩⟩,rfl⟩⟩
 ·exact ⟨_,_,_,.inl rfl,rfl,clB lB ⟨44,[.ptr H.nx 0,.ptr (H.nx+1) 0,.ptr (H.nx+1+1+1) 0],_,_,⟨hgt,hgt,clB K7 ⟨S,role,e,⟨hgt,hgt,hgt,hS2⟩,rfl⟩⟩,rfl⟩⟩
 ·exact ⟨_,_,_,.inr (.inr rfl),rfl,clB KX ⟨S,e,⟨hgt,hgt,hS1.ac,he.ar⟩,rfl⟩⟩
 ·exact ⟨_,_,_,.inl rfl,rfl,clB lB ⟨48,[.ptr H.nx 0,.ptr (H.nx+1+1+1) 0],_,_,⟨hgt,hgt,clB K0 ⟨S,e,⟨hgt,hgt,hS1.ad,he.ad⟩,rfl⟩⟩,rfl⟩⟩
 rw [hR]
 try simp only [aV,aG,bhq,Nat.reduceMod,Nat.reduceDiv,aC,aB,aD,aR,aF,aQ,aN,aO,aP,yaq,yar,yao,yap,go_sem]
 simp (disch:=first|exact Zd|omega) [↓zmo,beq,ybc,ybd,ybe,ae,wk,wk2,wk1,wkM,wkL,ah,ybf,hcl]
 first|done|repeat first|exact .refl _|refine .push ?_ _
theorem wa {S:Sch} {role kind:Int} {e:SEntry} (h:g7 S role=none):nD S role kind e=21:=by
 simp [nD,uP,fM,orE,h]
theorem Ll {S:Sch} {role kind:Int} {e:SEntry} {r:SRole} {t:STable} (h:g7 S role=some r) (h2:jb S e.table=some t) (h3:ki S role e.table=false):nD S role kind e=21:=by
 simp [nD,uP,fM,orE,h,h2,h3]
end Go.AL
