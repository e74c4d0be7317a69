/- Lemmas of the proof; no condition. -/
import Derived.Test.YtjnhidpnfdbmaaaGreatS10r
import Derived.Test.YtjnhidpnfdbmaaaGreatS09u
set_option linter.all false
set_option maxRecDepth 10000
set_option maxHeartbeats 32000000
open List renaming length_cons → yaz, length_nil → yba, take_of_length_le → ybc, drop_append → ybd, take_append → ybe, drop_eq_nil_of_le → ybf, length_map → ybb
open Go Go.AL Go.Proofs
namespace Go.AL
theorem JI:ti Tryz.prog 107=some ⟨.struct [(0,3,false),(1,9,false),(2,104,false),(3,105,false),(4,9,false)],5,88,.agg [.int .i64 0,.str [],.slice .nil 1 [],.slice .nil 1 [],.str []]⟩:=by kernel_rfl
theorem EZ:ti Tryz.prog 33=some ⟨.slice 107,1,24,.slice .nil 1 []⟩:=by kernel_rfl
theorem JH:ti Tryz.prog 65=some ⟨.struct [(0,3,false),(1,9,false),(2,63,false),(3,50,false),(4,3,false),(5,4,false)],6,88,.agg [.int .i64 0,.str [],.slice .nil 1 [],.slice .nil 1 [],.int .i64 0,.bool false]⟩:=by kernel_rfl
theorem F5:ti Tryz.prog 36=some ⟨.slice 65,1,24,.slice .nil 1 []⟩:=by kernel_rfl
theorem I5:ti Tryz.prog 80=some ⟨.struct [(0,3,false),(1,9,false),(2,50,false)],3,48,.agg [.int .i64 0,.str [],.slice .nil 1 []]⟩:=by kernel_rfl
theorem GR:ti Tryz.prog 31=some ⟨.slice 80,1,24,.slice .nil 1 []⟩:=by kernel_rfl
theorem IZ:ti Tryz.prog 117=some ⟨.struct [(0,3,false),(1,3,false),(2,3,false),(3,115,false),(4,3,false)],5,56,.agg [.int .i64 0,.int .i64 0,.int .i64 0,.slice .nil 1 [],.int .i64 0]⟩:=by kernel_rfl
theorem FL:ti Tryz.prog 32=some ⟨.slice 117,1,24,.slice .nil 1 []⟩:=by kernel_rfl
attribute [go_sem] JI EZ JH F5 I5 GR IZ FL
def AA:List AV→AHeap→(AV→Prop)→Prop
 |[x,.ptr c 0],H,K=>∃ t n,(x=bg t∧H.get c=some (.cells [.int .i64 n]))∧K (.bool (t.id==n))
 |_,_,_=>False
theorem JZ:EntOk Tryz.prog 111 (Ent.pure AA):=by
 refine Ype fun _ H K h=>?_
 unfold AA at h
 split at h
 rotate_left
 ·exact h.elim
 rename_i x c
 obtain ⟨t,n,⟨rfl,hg⟩,hK⟩:=h
 refine ⟨_,hK,?_⟩
 clear hK
 unfold bg
 refine ACalls.fW au tNq Tryz.func111 [.tmp 3] (nrq _) (T:=aq []) (h:=fun hcl hlt=>?_)
 clear hlt
 have hcs:=ax hg
 have hl:=glq hg
 have hne:(c=H.nx)=False:=eq_false (by omega)
 simp only [go_sem,hcs,hne]
 (repeat with_reducible refine Yq ?_)
 exact Z0
def tL:List AV→AHeap→(AV→Prop)→Prop
 |[.slice _ 5 l,.func (.func 111) [] [.ptr c 0]],H,K=>∃ (ts:List SAction) (n:Int),(l=ts.map bg∧H.get c=some (.cells [.int .i64 n])∧ts.length≤1000000)∧K (.int .i64 (ixP (fun t:SAction=>t.id==n) ts 0))
 |_,_,_=>False
theorem DW:EntOk Tryz.prog 110 (Ent.pure tL):=by
 refine Ype fun _ H K h=>?_
 unfold tL at h
 split at h
 rotate_left
 ·exact h.elim
 rename_i m l c
 obtain ⟨ts,n,⟨rfl,hg,hl⟩,hK⟩:=h
 refine ⟨_,hK,?_⟩
 clear hK
 generalize hR:ixP (fun t:SAction=>t.id==n) ts 0=R
 refine ACalls.fW au (tCq JZ tNq) Tryz.func110 [.tmp 4] (nrq _) (T:=aq []) (h:=fun hcl hlt=>?_)
 have hm:AV.lt H.nx (.slice m 5 (ts.map bg)):=hlt _ (by simp)
 have hf:AV.lt H.nx (.func (.func 111) [] [.ptr c 0]):=hlt _ (by simp)
 clear hlt
 simp only [go_sem,ybb]
 refine az (A:=Nat) (fun k=>[(0,.slice m 5 (ts.map bg)),(1,.func (.func 111) [] [.ptr c 0]),(7,.int .i64 (ts.length:Int)),(8,.int .i64 (k:Int))]) (fun _=>H) (fun k=>k≤ts.length∧ixP (fun t:SAction=>t.id==n) (ts.drop k) k=R) (fun k=>ts.length - k) 0 ⟨by omega,hR⟩ ?_ fun k hk=>?_
 ·refine ⟨nrq _,lRq _,hcl,?_,?_⟩
  ·simp [ltF,znf,hm,hf]
  ·simp [aJ,wk2,wk1,wkM,Fr.get]
 clear hR
 obtain ⟨hk,hR⟩:=hk
 simp only [go_sem]
 refine ai (fun hc=>?_) (fun hc=>?_)
 ·have hk':k<ts.length:=by simp at hc;omega
  obtain ⟨x,hx⟩:∃ x,x=ts[k]:=⟨_,rfl⟩
  have hd:ts.drop k=x::ts.drop (k+1):=by rw [hx];exact dcq hk'
  have hg':=aU (f:=bg) (l:=ts) (k:=k) (x:=x) (by rw [gQq hk',hx])
  have e5:=Yk5 k
  have hcell:(bg x).cells.length=5:=rfl
  rw [hd] at hR
  unfold ixP at hR
  have hag:∃ cs,bg x=.agg cs∧cs.length=5:=⟨_,rfl,rfl⟩
  obtain ⟨cs,hcs,hcl3⟩:=hag
  have hts:List.take 5 cs=cs:=ybc (by omega)
  simp only [go_sem,iNq,ybb,hg',hcs,hcl3,hts,AA]
  (repeat with_reducible refine Yq ?_)
  refine ⟨x,n,⟨hcs.symm,hg⟩,?_⟩
  try simp only [aH,go_sem]
  (repeat with_reducible refine Yq ?_)
  refine ai (fun hq=>?_) (fun hq=>?_)
  ·rw [if_pos hq] at hR
   subst hR
   simp only [go_sem]
   exact Z0
  ·rw [if_neg (by rw [hq];decide)] at hR
   simp only [go_sem,e5]
   refine ⟨k+1,⟨by omega,hR⟩,by omega,nrq _,lRq _,hcl,?_,?_⟩
   ·simp [ltF,znf,hm,hf]
   ·simp [aJ,wk2,wk1,wkM,Fr.get]
 ·have hk':k=ts.length:=by simp at hc;omega
  subst hk'
  rw [List.drop_length] at hR
  unfold ixP at hR
  subst hR
  simp only [go_sem]
  exact Z0
def je:List AV→AHeap→(AV→Prop)→Prop
 |[.agg l,.int .i64 n],_,K=>∃ S:Sch,(l=aW S∧S.actions.length≤1000000)∧K (.int .i64 (ixP (fun t:SAction=>t.id==n) S.actions 0))
 |_,_,_=>False
theorem pX:EntOk Tryz.prog 76 (Ent.pure je):=by
 refine Ype fun _ H K h=>?_
 unfold je at h
 split at h
 rotate_left
 ·exact h.elim
 rename_i l n
 obtain ⟨S,⟨rfl,hl⟩,hK⟩:=h
 refine ⟨_,hK,?_⟩
 clear hK
 refine ACalls.fW au (tCq DW tNq) Tryz.func76 [.tmp 4] (nrq _) (T:=aq []) (h:=fun hcl hlt=>?_)
 clear hlt
 simp only [go_sem,aW,tL]
 (repeat with_reducible refine Yq ?_)
 refine ⟨S.actions,n,⟨rfl,by simp only [go_sem],hl⟩,?_⟩
 try simp only [aH,go_sem]
 exact Z0
def At:List AV→AHeap→(AV→Prop)→Prop
 |[x,.ptr c 0],H,K=>∃ t n,(x=bX t∧H.get c=some (.cells [.int .i64 n]))∧K (.bool (t.id==n))
 |_,_,_=>False
theorem H8:EntOk Tryz.prog 69 (Ent.pure At):=by
 refine Ype fun _ H K h=>?_
 unfold At at h
 split at h
 rotate_left
 ·exact h.elim
 rename_i x c
 obtain ⟨t,n,⟨rfl,hg⟩,hK⟩:=h
 refine ⟨_,hK,?_⟩
 clear hK
 unfold bX
 refine ACalls.fW au tNq Tryz.func69 [.tmp 3] (nrq _) (T:=aq []) (h:=fun hcl hlt=>?_)
 clear hlt
 have hcs:=ax hg
 have hl:=glq hg
 have hne:(c=H.nx)=False:=eq_false (by omega)
 simp only [go_sem,hcs,hne]
 (repeat with_reducible refine Yq ?_)
 exact Z0
def sV:List AV→AHeap→(AV→Prop)→Prop
 |[.slice _ 6 l,.func (.func 69) [] [.ptr c 0]],H,K=>∃ (ts:List SRole) (n:Int),(l=ts.map bX∧H.get c=some (.cells [.int .i64 n])∧ts.length≤1000000)∧K (.int .i64 (ixP (fun t:SRole=>t.id==n) ts 0))
 |_,_,_=>False
theorem C8:EntOk Tryz.prog 68 (Ent.pure sV):=by
 refine Ype fun _ H K h=>?_
 unfold sV at h
 split at h
 rotate_left
 ·exact h.elim
 rename_i m l c
 obtain ⟨ts,n,⟨rfl,hg,hl⟩,hK⟩:=h
 refine ⟨_,hK,?_⟩
 clear hK
 generalize hR:ixP (fun t:SRole=>t.id==n) ts 0=R
 refine ACalls.fW au (tCq H8 tNq) Tryz.func68 [.tmp 4] (nrq _) (T:=aq []) (h:=fun hcl hlt=>?_)
 have hm:AV.lt H.nx (.slice m 6 (ts.map bX)):=hlt _ (by simp)
 have hf:AV.lt H.nx (.func (.func 69) [] [.ptr c 0]):=hlt _ (by simp)
 clear hlt
 simp only [go_sem,ybb]
 refine az (A:=Nat) (fun k=>[(0,.slice m 6 (ts.map bX)),(1,.func (.func 69) [] [.ptr c 0]),(7,.int .i64 (ts.length:Int)),(8,.int .i64 (k:Int))]) (fun _=>H) (fun k=>k≤ts.length∧ixP (fun t:SRole=>t.id==n) (ts.drop k) k=R) (fun k=>ts.length - k) 0 ⟨by omega,hR⟩ ?_ fun k hk=>?_
 ·refine ⟨nrq _,lRq _,hcl,?_,?_⟩
  ·simp [ltF,znf,hm,hf]
  ·simp [aJ,wk2,wk1,wkM,Fr.get]
 clear hR
 obtain ⟨hk,hR⟩:=hk
 simp only [go_sem]
 refine ai (fun hc=>?_) (fun hc=>?_)
 ·have hk':k<ts.length:=by simp at hc;omega
  obtain ⟨x,hx⟩:∃ x,x=ts[k]:=⟨_,rfl⟩
  have hd:ts.drop k=x::ts.drop (k+1):=by rw [hx];exact dcq hk'
  have hg':=aU (f:=bX) (l:=ts) (k:=k) (x:=x) (by rw [gQq hk',hx])
  have e5:=Yk5 k
  have hcell:(bX x).cells.length=6:=rfl
  rw [hd] at hR
  unfold ixP at hR
  have hag:∃ cs,bX x=.agg cs∧cs.length=6:=⟨_,rfl,rfl⟩
  obtain ⟨cs,hcs,hcl3⟩:=hag
  have hts:List.take 6 cs=cs:=ybc (by omega)
  simp only [go_sem,iNq,ybb,hg',hcs,hcl3,hts,At]
  (repeat with_reducible refine Yq ?_)
  refine ⟨x,n,⟨hcs.symm,hg⟩,?_⟩
  try simp only [aH,go_sem]
  (repeat with_reducible refine Yq ?_)
  refine ai (fun hq=>?_) (fun hq=>?_)
  ·rw [if_pos hq] at hR
   subst hR
   simp only [go_sem]
   exact Z0
  ·rw [if_neg (by rw [hq];decide)] at hR
   simp only [go_sem,e5]
   refine ⟨k+1,⟨by omega,hR⟩,by omega,nrq _,lRq _,hcl,?_,?_⟩
   ·simp [ltF,znf,hm,hf]
   ·simp [aJ,wk2,wk1,wkM,Fr.get]
 ·have hk':k=ts.length:=by simp at hc;omega
  subst hk'
  rw [List.drop_length] at hR
  unfold ixP at hR
  subst hR
  simp only [go_sem]
  exact Z0
def kP:List AV→AHeap→(AV→Prop)→Prop
 |[.agg l,.int .i64 n],_,K=>∃ S:Sch,(l=aW S∧S.roles.length≤1000000)∧K (.int .i64 (ixP (fun t:SRole=>t.id==n) S.roles 0))
 |_,_,_=>False
theorem oF:EntOk Tryz.prog 39 (Ent.pure kP):=by
 refine Ype fun _ H K h=>?_
 unfold kP at h
 split at h
 rotate_left
 ·exact h.elim
 rename_i l n
 obtain ⟨S,⟨rfl,hl⟩,hK⟩:=h
 refine ⟨_,hK,?_⟩
 clear hK
 refine ACalls.fW au (tCq C8 tNq) Tryz.func39 [.tmp 4] (nrq _) (T:=aq []) (h:=fun hcl hlt=>?_)
 clear hlt
 simp only [go_sem,aW,sV]
 (repeat with_reducible refine Yq ?_)
 refine ⟨S.roles,n,⟨rfl,by simp only [go_sem],hl⟩,?_⟩
 try simp only [aH,go_sem]
 exact Z0
def ne:List AV→AHeap→(AV→Prop)→Prop
 |[.agg l,.int .i64 n],_,K=>∃ S:Sch,(l=aW S∧SLen S)∧K (.int .i64 (ixP (fun t:SRole=>t.id==n) S.roles 0))
 |_,_,_=>False
theorem ur:EntOk Tryz.prog 23 (Ent.pure ne):=by
 refine Ype fun _ H K h=>?_
 unfold ne at h
 split at h
 rotate_left
 ·exact h.elim
 rename_i l n
 obtain ⟨S,⟨rfl,hS⟩,hK⟩:=h
 refine ⟨_,hK,?_⟩
 clear hK
 refine ACalls.fW au (tCq IW (tCq DA tNq)) Tryz.func23 [.tmp 4] (nrq _) (T:=aq []) (h:=fun hcl hlt=>?_)
 clear hlt
 simp only [go_sem,aW,Aa]
 (repeat with_reducible refine Yq ?_)
 refine ⟨S,⟨rfl,hS⟩,?_⟩
 try simp only [aH,go_sem,HQ,sI,tG]
 (repeat with_reducible refine Yq ?_)
 refine ⟨_,⟨rfl,by have h1:=hS.rl;simpa using h1⟩,?_⟩
 rw [Cq]
 try simp only [aH,go_sem]
 simp (disch:=first|exact Zd|omega) [↓zmo,beq,ybc,ybd,ybe,ae,wk,wk2,wk1,wkM,wkL,ah,ybf,hcl]
 first|done|repeat first|exact .refl _|refine .push ?_ _
def Ni (S:Sch) (id:Int):Option SAction:=S.actions.find? fun a=>a.id==id
noncomputable def wL (vs:List VN) (s:List UInt8) (b:List (VN × Nat)):Bool:=if (comp (bQ vs) s).2=0 then Ct b (comp (bQ vs) s).1 else false
noncomputable def MK (S:Sch) (e:SEntry):Bool:=if e.act=0 then true else match Ni S e.act with
 |some a=>wL (gq a.params) a.restr (jM a.params e.args a.params.length)
 |none=>false
noncomputable def Dc (S:Sch) (e:SEntry):Bool:=match jT S e.table with
 |some t=>wL (nM t.keys) t.restr (oX S.fields t.keys e.ms e.prio)&&MK S e
 |none=>false
structure SAdm (S:Sch):Prop where
 sl:SLen S
 tk:∀ t∈S.tables,BQ t
 ak:∀ a∈S.actions,E1 a
structure EAdm (e:SEntry):Prop where
 ml:e.ms.length≤4611686018427387904
 pf:∀ m∈e.ms,m.pfx<9223372036854775808
 pr:e.prio<9223372036854775808
 mo:∀ m∈e.ms,MOk m
 ar:∀ x∈e.args,x<2^128
theorem BA {x:SMatch} (h:MOk x) (hp:x.pfx<9223372036854775808) {a:List UInt8} {w:Int}:kX x a w<2^128:=by
 have h1:=mG w
 obtain ⟨h2,h3,h4⟩:=h
 have h5:x.pfx.toNat<2^128:=by
  have:x.pfx.toNat<9223372036854775808:=by omega
  omega
 unfold kX
 repeat' split
 all_goals assumption
theorem DG {fs:List SField} {keys:List SKey} {e:SEntry} (h:EAdm e) (hk:keys.length≤1000):EQ (oX fs keys e.ms e.prio):=by
 refine ⟨?_,?_⟩
 ·have:=@jL fs keys e.ms keys.length
  unfold oX
  rw [lAq]
  simp only [yaz,yba]
  omega
 ·have key:∀ k,∀ x∈eH fs keys e.ms k,x.2<2^128:=by
   intro k
   induction k with
   |zero=>intro x hx;cases hx
   |succ k ih =>
    intro x hx
    rw [eH] at hx
    rcases List.mem_append.1 hx with hx|hx
    ·exact ih x hx
    ·unfold rz at hx
     split at hx
     ·unfold jH at hx
      obtain ⟨a,_,rfl⟩:=List.mem_map.1 hx
      dsimp only
      rw [gEq]
      rcases Nat.lt_or_ge k e.ms.length with h1|h1
      ·rw [gQq h1]
       exact BA (h.mo _ (gMq h1)) (h.pf _ (gMq h1))
      ·rw [gNq h1]
       exact BA (x:=cA) ⟨by decide,by decide,by decide⟩ (by decide)
     ·cases hx
  intro x hx
  unfold oX at hx
  rcases List.mem_append.1 hx with hx|hx
  ·have:=key _ x hx;omega
  ·rw [List.mem_singleton.1 hx]
   have:=h.pr
   show e.prio.toNat<340282366920938463463374607431768211456
   have:e.prio.toNat<9223372036854775808:=by omega
   omega
theorem CM {ps:List SParam} {e:SEntry} (h:EAdm e) (hk:ps.length≤1000):EQ (jM ps e.args ps.length):=by
 refine ⟨by rw [qF];omega,?_⟩
 have key:∀ k,∀ x∈jM ps e.args k,x.2<2^128:=by
  intro k
  induction k with
  |zero=>intro x hx;cases hx
  |succ k ih =>
   intro x hx
   rw [jM] at hx
   rcases List.mem_append.1 hx with hx|hx
   ·exact ih x hx
   ·rw [List.mem_singleton.1 hx]
    dsimp only
    rw [gEq]
    rcases Nat.lt_or_ge k e.args.length with h1|h1
    ·rw [gQq h1];exact h.ar _ (gMq h1)
    ·rw [gNq h1];decide
 intro x hx
 have:=key _ x hx
 omega
theorem gg {α:Type} {q:α→Bool} {l:List α}:(ixP q l 0 = -1∧l.find? q=none)∨∃ (i:Nat) (x:α),ixP q l 0=(i:Int)∧i<l.length∧l[i]?=some x∧l.find? q=some x∧q x=true:=by
 obtain ⟨b1,b2⟩:=om (q:=q) (l:=l) (k:=0)
 rcases b2 with b2|b2
 ·exact .inl ⟨b2,lf b2⟩
 ·obtain ⟨i,hi⟩:∃ i:Nat,ixP q l 0=((0+i:Nat):Int):=⟨(ixP q l 0).toNat,by omega⟩
  obtain ⟨x,h1,h2,h3⟩:=nn hi
  rw [nzq] at hi
  exact .inr ⟨i,x,hi,by omega,h1,h3,h2⟩
def zL:List AV→AHeap→(AV→Prop)→Prop
 |[.agg l,.agg le],_,K=>∃ S e,(l=aW S∧le=aK e∧SAdm S∧EAdm e)∧K (.bool (Dc S e))
 |_,_,_=>False
theorem Db {t:STable} (h:BQ t):t.restr.length≤140737488355328:=h.2.2
theorem Jr:EntOk Tryz.prog 49 (Ent.pure zL):=by
 refine Ype fun _ H K h=>?_
 unfold zL at h
 split at h
 rotate_left
 ·exact h.elim
 rename_i l le
 obtain ⟨S,e,⟨rfl,rfl,hS,he⟩,hK⟩:=h
 refine ⟨_,hK,?_⟩
 clear hK
 generalize hR:Dc S e=R
 unfold Dc jT at hR
 refine ACalls.fW au (tCq ja (tCq nQ (tCq yl (tCq EX (tCq CX (tCq pX (tCq nb (tCq Ew tNq)))))))) Tryz.func49 [.tmp 4] (nrq _) (T:=aq [(4,[[],[],[],[],[],[],[],[],[],[],[],[7,10],[1,5,7,10,11]]),(5,[[],[],[],[],[],[],[],[],[],[],[],[4,6,9,10],[4,6,9,10,11]]),(12,[[],[],[],[],[],[],[],[],[],[],[],[7,10],[1,5,7,10,11]]),(13,[[],[],[],[],[],[],[],[],[],[],[],[5,8,10],[5,8,10,11]])]) (h:=fun hcl hlt=>?_)
 have hsx:=fun n' (hn:H.nx≤n')=>AV.lt_mono hn _ (hlt (.agg (aW S)) (by simp))
 have hex:=fun n' (hn:H.nx≤n')=>AV.lt_mono hn _ (hlt (.agg (aK e)) (by simp))
 simp only [znr] at hsx hex
 clear hlt
 simp only [go_sem,aW,aK,gC]
 refine ⟨S,⟨rfl,hS.sl.tl⟩,?_⟩
 rcases gg (q:=fun t:STable=>t.id==e.table) (l:=S.tables) with ⟨b1,b2⟩|⟨i,t,b1,hil,b3,b2,_⟩
 ·rw [b2] at hR
  dsimp only at hR
  subst hR
  rw [b1]
  have d:decide ((-1:Int)<0)=true:=rfl
  simp only [aH,go_sem,d]
  exact Z0
 rw [b2] at hR
 dsimp only at hR
 rw [b1]
 have d:decide ((i:Int)<0)=false:=by simp
 have hg':=aU (f:=ba) (l:=S.tables) (k:=i) (x:=t) b3
 have htm:t∈S.tables:=List.mem_of_getElem? b3
 have hot:=hS.tk t htm
 simp only [aH,go_sem,d,iNq,hg',ba,ybb,lM]
 have hk1:t.keys.length≤1000:=by have:=hot.1;omega
 refine ⟨by omega,by omega,t.keys,⟨rfl,hk1⟩,?_⟩
 simp only [aH,go_sem,lR]
 refine ⟨nM t.keys,⟨rfl,F1 hot,Db hot⟩,?_⟩
 have hC:=@yq (bQ (nM t.keys)) t.restr
 have hbs:=DG (fs:=S.fields) (keys:=t.keys) he hk1
 unfold wL at hR
 obtain ⟨⟨tr,er⟩,hq⟩:∃ q,comp (bQ (nM t.keys)) t.restr=q:=⟨_,rfl⟩
 rw [hq] at hC hR ⊢
 dsimp only at hR
 have hpl:e.prio<9223372036854775808:=he.pr
 by_cases h0:er=0
 rotate_left
 ·rw [if_neg h0,Bool.false_and] at hR
  subst hR
  have d0:((er:Int) != 0)=true:=by simp [h0]
  simp only [aH,go_sem,kA,d0,ybb]
  exact Z0
 subst h0
 rw [if_pos rfl] at hR
 obtain ⟨hH,hV⟩:=Kv (hC rfl) hbs
 have hm:(wl (oX S.fields t.keys e.ms e.prio) tr).bo=Ct (oX S.fields t.keys e.ms e.prio) tr:=by rw [hV];rfl
 have d0:(((0:Nat):Int) != 0)=false:=rfl
 have dn1:(!true)=false:=rfl
 have dn2:(!false)=true:=rfl
 simp only [aH,go_sem,kA,d0,iNq,hg',ba,ybb,wG]
 refine ⟨by omega,S.fields,t.keys,e.ms,⟨.inl ⟨_,rfl⟩,hS.sl.fl,rfl,hk1,.inl ⟨_,rfl⟩,he.ml,he.pf,he.pr⟩,?_⟩
 simp only [aH,go_sem,po]
 refine ⟨tr,_,⟨rfl,rfl,hH,hbs⟩,?_⟩
 rw [hm]
 cases hmv:Ct (oX S.fields t.keys e.ms e.prio) tr with
 |false =>
  rw [hmv,Bool.false_and] at hR
  subst hR
  simp only [aH,go_sem,dn1,dn2]
  exact Z0
 |true =>
 rw [hmv,Bool.true_and] at hR
 unfold MK Ni at hR
 by_cases ha:e.act=0
 ·rw [if_pos ha] at hR
  subst hR
  have da:(e.act==0)=true:=by rw [ha];rfl
  simp only [aH,go_sem,dn1,dn2,da]
  exact Z0
 rw [if_neg ha] at hR
 have da:(e.act==0)=false:=by simp [ha]
 simp only [aH,go_sem,dn1,dn2,da,je]
 refine ⟨S,⟨rfl,hS.sl.al⟩,?_⟩
 rcases gg (q:=fun a:SAction=>a.id==e.act) (l:=S.actions) with ⟨q1,q2⟩|⟨j,a,q1,hjl,q3,q2,_⟩
 ·rw [q2] at hR
  dsimp only at hR
  subst hR
  rw [q1]
  have d:decide ((-1:Int)<0)=true:=rfl
  simp only [aH,go_sem,d]
  exact Z0
 rw [q2] at hR
 dsimp only at hR
 rw [q1]
 have dj:decide ((j:Int)<0)=false:=by simp
 have hga:=aU (f:=bg) (l:=S.actions) (k:=j) (x:=a) q3
 have hoa:=hS.ak a (List.mem_of_getElem? q3)
 have hp1:a.params.length≤1000:=by have:=hoa.1;omega
 simp only [aH,go_sem,dj,iNq,hga,bg,ybb,kC]
 refine ⟨by omega,by omega,a.params,⟨rfl,hp1⟩,?_⟩
 simp only [aH,go_sem,lR]
 refine ⟨gq a.params,⟨rfl,Fa hoa,hoa.2.2⟩,?_⟩
 have hC2:=@yq (bQ (gq a.params)) a.restr
 have hbs2:=CM (ps:=a.params) he hp1
 unfold wL at hR
 obtain ⟨⟨tr2,er2⟩,hq2⟩:∃ q,comp (bQ (gq a.params)) a.restr=q:=⟨_,rfl⟩
 rw [hq2] at hC2 hR ⊢
 dsimp only at hR
 by_cases h02:er2=0
 rotate_left
 ·rw [if_neg h02] at hR
  subst hR
  have d02:((er2:Int)==0)=false:=by simp [h02]
  simp only [aH,go_sem,kA,d02]
  exact Z0
 subst h02
 rw [if_pos rfl] at hR
 obtain ⟨hH2,hV2⟩:=Kv (hC2 rfl) hbs2
 have hm2:(wl (jM a.params e.args a.params.length) tr2).bo=Ct (jM a.params e.args a.params.length) tr2:=by rw [hV2];rfl
 have d02:(((0:Nat):Int)==0)=true:=rfl
 simp only [aH,go_sem,kA,d02,iNq,hga,bg,ybb,uG]
 refine ⟨by omega,a.params,e.args,⟨rfl,hp1,.inl ⟨_,rfl⟩⟩,?_⟩
 try simp only [aH,go_sem,po]
 refine ⟨tr2,_,⟨rfl,rfl,hH2,hbs2⟩,?_⟩
 rw [hm2,hR]
 try simp only [aH,go_sem]
 exact Z0
theorem I1:ti Tryz.prog 78=some ⟨.struct [(0,3,false),(1,9,false),(2,3,false)],3,32,.agg [.int .i64 0,.str [],.int .i64 0]⟩:=by kernel_rfl
theorem E0:ti Tryz.prog 30=some ⟨.slice 78,1,24,.slice .nil 1 []⟩:=by kernel_rfl
theorem Fb:ti Tryz.prog 212=some ⟨.func,1,8,.nilf⟩:=by kernel_rfl
theorem IA:ti Tryz.prog 80=some ⟨.struct [(0,3,false),(1,9,false),(2,50,false)],3,48,.agg [.int .i64 0,.str [],.slice .nil 1 []]⟩:=by kernel_rfl
theorem Hn:ti Tryz.prog 31=some ⟨.slice 80,1,24,.slice .nil 1 []⟩:=by kernel_rfl
theorem JG:ti Tryz.prog 117=some ⟨.struct [(0,3,false),(1,3,false),(2,3,false),(3,115,false),(4,3,false)],5,56,.agg [.int .i64 0,.int .i64 0,.int .i64 0,.slice .nil 1 [],.int .i64 0]⟩:=by kernel_rfl
theorem FI:ti Tryz.prog 32=some ⟨.slice 117,1,24,.slice .nil 1 []⟩:=by kernel_rfl
theorem I9:ti Tryz.prog 107=some ⟨.struct [(0,3,false),(1,9,false),(2,104,false),(3,105,false),(4,9,false)],5,88,.agg [.int .i64 0,.str [],.slice .nil 1 [],.slice .nil 1 [],.str []]⟩:=by kernel_rfl
theorem GD:ti Tryz.prog 33=some ⟨.slice 107,1,24,.slice .nil 1 []⟩:=by kernel_rfl
theorem Gu:ti Tryz.prog 172=some ⟨.func,1,8,.nilf⟩:=by kernel_rfl
theorem JP:ti Tryz.prog 110=some ⟨.struct [(0,9,false),(1,3,false)],2,24,.agg [.str [],.int .i64 0]⟩:=by kernel_rfl
theorem Fo:ti Tryz.prog 104=some ⟨.slice 110,1,24,.slice .nil 1 []⟩:=by kernel_rfl
theorem Ih:ti Tryz.prog 91=some ⟨.struct [(0,3,false),(1,9,false),(2,89,false),(3,50,false),(4,3,false),(5,24,false),(6,3,false),(7,9,false)],8,128,.agg [.int .i64 0,.str [],.slice .nil 1 [],.slice .nil 1 [],.int .i64 0,.slice .nil 1 [],.int .i64 0,.str []]⟩:=by kernel_rfl
theorem Gm:ti Tryz.prog 34=some ⟨.slice 91,1,24,.slice .nil 1 []⟩:=by kernel_rfl
theorem EO:ti Tryz.prog 127=some ⟨.func,1,8,.nilf⟩:=by kernel_rfl
theorem Ju:ti Tryz.prog 102=some ⟨.struct [(0,9,false),(1,3,false),(2,3,false)],3,32,.agg [.str [],.int .i64 0,.int .i64 0]⟩:=by kernel_rfl
theorem Gt:ti Tryz.prog 89=some ⟨.slice 102,1,24,.slice .nil 1 []⟩:=by kernel_rfl
theorem Fq:ti Tryz.prog 170=some ⟨.func,1,8,.nilf⟩:=by kernel_rfl
theorem IO:ti Tryz.prog 65=some ⟨.struct [(0,3,false),(1,9,false),(2,63,false),(3,50,false),(4,3,false),(5,4,false)],6,88,.agg [.int .i64 0,.str [],.slice .nil 1 [],.slice .nil 1 [],.int .i64 0,.bool false]⟩:=by kernel_rfl
theorem EN:ti Tryz.prog 36=some ⟨.slice 65,1,24,.slice .nil 1 []⟩:=by kernel_rfl
theorem EM:ti Tryz.prog 132=some ⟨.func,1,8,.nilf⟩:=by kernel_rfl
theorem Ip:ti Tryz.prog 123=some ⟨.struct [(0,3,false),(1,3,false),(2,121,false)],6,48,.agg [.int .i64 0,.int .i64 0,.int .i64 0,.int .i64 0,.int .u64 0,.int .u64 0]⟩:=by kernel_rfl
theorem Gy:ti Tryz.prog 105=some ⟨.slice 123,1,24,.slice .nil 1 []⟩:=by kernel_rfl
theorem JY:ti Tryz.prog 86=some ⟨.struct [(0,3,false),(1,3,false)],2,16,.agg [.int .i64 0,.int .i64 0]⟩:=by kernel_rfl
theorem HD:ti Tryz.prog 35=some ⟨.slice 86,1,24,.slice .nil 1 []⟩:=by kernel_rfl
theorem Jb:ti Tryz.prog 69=some ⟨.struct [(0,3,false),(1,4,false),(2,4,false),(3,67,false)],4,40,.agg [.int .i64 0,.bool false,.bool false,.slice .nil 1 []]⟩:=by kernel_rfl
theorem FC:ti Tryz.prog 63=some ⟨.slice 69,1,24,.slice .nil 1 []⟩:=by kernel_rfl
theorem Fx:ti Tryz.prog 129=some ⟨.func,1,8,.nilf⟩:=by kernel_rfl
theorem Il:ti Tryz.prog 119=some ⟨.struct [(0,29,false),(2,29,false),(4,3,false)],5,40,.agg [.int .u64 0,.int .u64 0,.int .u64 0,.int .u64 0,.int .i64 0]⟩:=by kernel_rfl
theorem HF:ti Tryz.prog 115=some ⟨.slice 119,1,24,.slice .nil 1 []⟩:=by kernel_rfl
theorem JU:ti Tryz.prog 88=some ⟨.struct [(0,3,false),(1,3,false),(2,3,false),(3,3,false),(4,3,false),(5,3,false)],6,48,.agg [.int .i64 0,.int .i64 0,.int .i64 0,.int .i64 0,.int .i64 0,.int .i64 0]⟩:=by kernel_rfl
theorem FM:ti Tryz.prog 37=some ⟨.slice 88,1,24,.slice .nil 1 []⟩:=by kernel_rfl
theorem IV:ti Tryz.prog 3=some ⟨.int .i64,1,8,.int .i64 0⟩:=by kernel_rfl
theorem Ga:ti Tryz.prog 50=some ⟨.slice 3,1,24,.slice .nil 1 []⟩:=by kernel_rfl
attribute [go_sem] I1 E0 Fb IA Hn JG FI I9 GD Gu JP Fo Ih Gm EO Ju Gt Fq IO EN EM Ip Gy JY HD Jb FC Fx Il HF JU FM IV Ga
def IQ (P:Program) (F:FuncId):List AV→AHeap→(AV→Prop)→Prop:=fun args H K=>∃ x,K x∧ACalls P F args H (.ret x) H
theorem uo {P:Program} {F:FuncId}:EntOk P F (Ent.pure (IQ P F)):=EntOk.pure fun _ _ _ h=>h
theorem clB {P:Program} {f:FuncId} {p:List AV→AHeap→(AV→Prop)→Prop} {args:List AV} {H:AHeap} {b:AV} (h:EntOk P f (Ent.pure p)) (hp:p args H (fun v=>v=b)):ACalls P f args H (.ret b) H:=by
 obtain ⟨v,hv,hc⟩:=h.1 rfl _ _ _ hp
 subst hv
 exact hc
def AV.smk:AV→Mark
 |.slice m _ _=>m
 |_=>.any
def pIx {α:Type} (P:Program) (av:α→AV) (sz:Nat):List AV→AHeap→(AV→Prop)→Prop
 |[x,.func (.func F) fst caps],H,K=>∃ (ts:List α) (q:α→Bool),(x=.slice x.smk sz (ts.map av)∧ts.length≤1000000∧∀ x∈ts,ACalls P F (fst++[av x]++caps) H (.ret (.bool (q x))) H)∧K (.int .i64 (ixP q ts 0))
 |_,_,_=>False
theorem LT {α:Type} {P:Program} {f:FuncId} {av:α→AV} {sz:Nat} (h:∀ (av':α→AV) (sz':Nat),av'=av→sz'=sz→∀ (m:Mark) (ts:List α) (q:α→Bool) (F:FuncId) (fst caps:List AV) (H:AHeap),ts.length≤1000000→(∀ x∈ts,ACalls P F (fst++[av' x]++caps) H (.ret (.bool (q x))) H)→ACalls P f [.slice m sz' (ts.map av'),.func (.func F) fst caps] H (.ret (.int .i64 (ixP q ts 0))) H):EntOk P f (Ent.pure (pIx P av sz)):=by
 refine EntOk.pure fun args H K hh=>?_
 unfold pIx at hh
 split at hh
 ·obtain ⟨ts,q,⟨h1,h2,h3⟩,h4⟩:=hh
  rw [h1]
  exact ⟨_,h4,h av sz rfl rfl _ ts q _ _ _ _ h2 h3⟩
 ·exact hh.elim
def pAn {α:Type} (P:Program) (av:α→AV) (sz:Nat):List AV→AHeap→(AV→Prop)→Prop
 |[x,.func (.func F) fst caps],H,K=>∃ (ts:List α) (q:α→Bool),(x=.slice x.smk sz (ts.map av)∧ts.length≤1000000∧∀ x∈ts,ACalls P F (fst++[av x]++caps) H (.ret (.bool (q x))) H)∧K (.bool (ts.any q))
 |_,_,_=>False
def pEv {α:Type} (P:Program) (av:α→AV) (sz:Nat):List AV→AHeap→(AV→Prop)→Prop
 |[x,.func (.func F) fst caps],H,K=>∃ (ts:List α) (q:α→Bool),(x=.slice x.smk sz (ts.map av)∧ts.length≤1000000∧∀ x∈ts,∀ H',H.Le H'→H'.Closed→ACalls P F (fst++[av x]++caps) H' (.ret (.bool (q x))) H')∧K (.bool (ts.all q))
 |_,_,_=>False
def pCl {α:Type} (P:Program) (av:α→AV):List AV→AHeap→(AV→Prop)→Prop
 |[x,.ptr c 0],H,K=>∃ (t:α) (b:Bool) (F:FuncId) (fst caps:List AV),(x=av t∧H.get c=some (.cells [.func (.func F) fst caps])∧∀ H',H.Le H'→H'.Closed→ACalls P F (fst++[av t]++caps) H' (.ret (.bool b)) H')∧K (.bool (!b))
 |_,_,_=>False
attribute [go_sem] pIx pAn pEv pCl
abbrev JB:=@pIx SGrant Tryz.prog bb 4
theorem Fv:EntOk Tryz.prog 65 (Ent.pure JB):=LT fun av sz ha hs m ts q F fst caps H hl hq=>by
 have hag:∀ x,∃ cs,av x=.agg cs∧cs.length=sz:=by subst ha hs;exact fun x=>⟨_,rfl,rfl⟩
 refine ACalls.fW au (tCq (uo (F:=F)) tNq) Tryz.func65 [.tmp 4] (nrq _) (T:=aq []) (h:=fun hcl hlt=>?_)
 generalize hR:ixP q ts 0=R
 have hm:AV.lt H.nx (.slice m sz (ts.map av)):=hlt _ (by simp)
 have hf:AV.lt H.nx (.func (.func F) fst caps):=hlt _ (by simp)
 clear hlt
 simp only [go_sem,ybb]
 refine az (A:=Nat) (fun k=>[(0,.slice m sz (ts.map av)),(1,.func (.func F) fst caps),(7,.int .i64 (ts.length:Int)),(8,.int .i64 (k:Int))]) (fun _=>H) (fun k=>k≤ts.length∧ixP q (ts.drop k) k=R) (fun k=>ts.length - k) 0 ⟨by omega,hR⟩ ?_ fun k hk=>?_
 ·exact ⟨nrq _,lRq _,hcl,by simp [ltF,znf,hm,hf],by simp [aJ,wk2,wk1,wkM,Fr.get]⟩
 clear hR
 obtain ⟨hk,hR⟩:=hk
 simp only [go_sem]
 refine ai (fun hc=>?_) (fun hc=>?_)
 ·have hk':k<ts.length:=by simp at hc;omega
  obtain ⟨x,hx⟩:∃ x,x=ts[k]:=⟨_,rfl⟩
  have hd:ts.drop k=x::ts.drop (k+1):=by rw [hx];exact dcq hk'
  have hg':=aU (f:=av) (l:=ts) (k:=k) (x:=x) (by rw [gQq hk',hx])
  have e5:=Yk5 k
  rw [hd] at hR
  unfold ixP at hR
  have hqx:=hq x (by rw [hx];exact gMq hk')
  obtain ⟨cs,hcs,hcl3⟩:=hag x
  have hts:List.take sz cs=cs:=ybc (by omega)
  rw [hcs] at hqx
  clear ha hag
  subst hs
  simp only [go_sem,iNq,ybb,hg',hcs,hcl3,hts,IQ]
  (repeat with_reducible refine Yq ?_)
  refine ⟨_,?_,hqx⟩
  try simp only [aH,go_sem]
  try (repeat with_reducible refine Yq ?_)
  refine ai (fun hq=>?_) (fun hq=>?_)
  ·rw [if_pos hq] at hR
   subst hR
   simp only [go_sem]
   exact Z0
  ·rw [if_neg (by rw [hq];decide)] at hR
   simp only [go_sem,e5]
   exact ⟨k+1,⟨by omega,hR⟩,by omega,nrq _,lRq _,hcl,by simp [ltF,znf,hm,hf],by simp [aJ,wk2,wk1,wkM,Fr.get]⟩
 ·have hk':k=ts.length:=by simp at hc;omega
  subst hk'
  rw [List.drop_length] at hR
  unfold ixP at hR
  subst hR
  simp only [go_sem]
  exact Z0
end Go.AL
