/- Contracts and plain laws, a part of the proof; no condition of its own. -/
import Derived.Test.YtokjjhidigoodaaGreatS10r
import Derived.Test.YtokjjhidigoodaaGreatS09u
open List renaming length_cons → yaz, length_nil → yba, take_of_length_le → ybc, drop_append → ybd, take_append → ybe, drop_eq_nil_of_le → ybf, length_map → ybb
open Go Go.AL Go.Proofs
namespace Go.AL
set_option linter.all false
set_option maxRecDepth 10000
theorem II:ti Tryz.prog 103=some ⟨.struct [(0,3,false),(1,9,false),(2,100,false),(3,101,false),(4,9,false)],5,88,.agg [.int .i64 0,.str [],.slice .nil 1 [],.slice .nil 1 [],.str []]⟩:=by kernel_rfl
theorem Ge:ti Tryz.prog 30=some ⟨.slice 103,1,24,.slice .nil 1 []⟩:=by kernel_rfl
theorem Iw:ti Tryz.prog 80=some ⟨.struct [(0,3,false),(1,9,false),(2,78,false),(3,56,false),(4,3,false),(5,4,false)],6,88,.agg [.int .i64 0,.str [],.slice .nil 1 [],.slice .nil 1 [],.int .i64 0,.bool false]⟩:=by kernel_rfl
theorem Gy:ti Tryz.prog 33=some ⟨.slice 80,1,24,.slice .nil 1 []⟩:=by kernel_rfl
theorem Jy:ti Tryz.prog 85=some ⟨.struct [(0,3,false),(1,9,false),(2,56,false)],3,48,.agg [.int .i64 0,.str [],.slice .nil 1 []]⟩:=by kernel_rfl
theorem Hp:ti Tryz.prog 28=some ⟨.slice 85,1,24,.slice .nil 1 []⟩:=by kernel_rfl
theorem Jb:ti Tryz.prog 145=some ⟨.struct [(0,3,false),(1,3,false),(2,3,false),(3,143,false),(4,3,false)],5,56,.agg [.int .i64 0,.int .i64 0,.int .i64 0,.slice .nil 1 [],.int .i64 0]⟩:=by kernel_rfl
theorem FU:ti Tryz.prog 29=some ⟨.slice 145,1,24,.slice .nil 1 []⟩:=by kernel_rfl
attribute [go_sem] II Ge Iw Gy Jy Hp Jb FU
def AX:List AV→AHeap→(AV→Prop)→Prop
 |[x,.ptr c 0],H,K=>∃ t n,(x=a8 t∧H.get c=some (.cells [.int .i64 n]))∧K (.bool (t.id==n))
 |_,_,_=>False
theorem Jm:EntOk Tryz.prog 91 (Ent.pure AX):=by
 refine EntOk.pure fun args H K h=>?_
 unfold AX at h
 split at h
 rotate_left
 ·exact h.elim
 rename_i x c
 obtain ⟨t,n,⟨rfl,hg⟩,hK⟩:=h
 refine ⟨_,hK,?_⟩
 clear hK
 unfold a8
 refine ACalls.fW aB TblOk.nil Tryz.func91 [.tmp 3] (Nat.le_refl _) (T:=aA []) (h:=fun hcl hlt=>?_)
 clear hlt
 have hcs:=av hg
 have hl:=AHeap.get_lt hg
 have hne:(c=H.nx)=False:=eq_false (by omega)
 simp only [go_sem,hcs,hne]
 (repeat with_reducible refine And.intro (by first|exact True.intro|decide|omega|(simp [zim,zgm,zgn,zgo,zgq,zgp,zgu];first|done|omega)) ?_)
 exact Z0
def sM:List AV→AHeap→(AV→Prop)→Prop
 |[.slice _ 5 l,.func (.func 91) [] [.ptr c 0]],H,K=>∃ (ts:List SAction) (n:Int),(l=ts.map a8∧H.get c=some (.cells [.int .i64 n])∧ts.length≤1000000)∧K (.int .i64 (ixP (fun t:SAction=>t.id==n) ts 0))
 |_,_,_=>False
theorem DU:EntOk Tryz.prog 90 (Ent.pure sM):=by
 refine EntOk.pure fun args H K h=>?_
 unfold sM at h
 split at h
 rotate_left
 ·exact h.elim
 rename_i m l c
 obtain ⟨ts,n,⟨rfl,hg,hl⟩,hK⟩:=h
 refine ⟨_,hK,?_⟩
 clear hK
 generalize hR:ixP (fun t:SAction=>t.id==n) ts 0=R
 refine ACalls.fW aB (TblOk.cons Jm TblOk.nil) Tryz.func90 [.tmp 4] (Nat.le_refl _) (T:=aA []) (h:=fun hcl hlt=>?_)
 have hm:AV.lt H.nx (.slice m 5 (ts.map a8)):=hlt _ (by simp)
 have hf:AV.lt H.nx (.func (.func 91) [] [.ptr c 0]):=hlt _ (by simp)
 clear hlt
 simp only [go_sem,ybb]
 refine ay (A:=Nat) (fun k=>[(0,.slice m 5 (ts.map a8)),(1,.func (.func 91) [] [.ptr c 0]),(7,.int .i64 (ts.length:Int)),(8,.int .i64 (k:Int))]) (fun _=>H) (fun k=>k≤ts.length∧ixP (fun t:SAction=>t.id==n) (ts.drop k) k=R) (fun k=>ts.length - k) 0 ⟨by omega,hR⟩ ?_ fun k hk=>?_
 ·refine ⟨Nat.le_refl _,AHeap.Le.refl _,hcl,?_,?_⟩
  ·simp [ltF,znb,hm,hf]
  ·simp [aI,wk2,wk1,wkM,Fr.get]
 clear hR
 obtain ⟨hk,hR⟩:=hk
 simp only [go_sem]
 refine aq (fun hc=>?_) (fun hc=>?_)
 ·have hk':k<ts.length:=by simp at hc;omega
  obtain ⟨x,hx⟩:∃ x,x=ts[k]:=⟨_,rfl⟩
  have hd:ts.drop k=x::ts.drop (k+1):=by rw [hx];exact List.drop_eq_getElem_cons hk'
  have hg':=cl (f:=a8) (l:=ts) (k:=k) (x:=x) (by rw [List.getElem?_eq_getElem hk',hx])
  have e5:IntKind.i64.wrap ((k:Int)+1)=((k+1:Nat):Int):=by rw [wrap_i64]<;>omega
  have hcell:(a8 x).cells.length=5:=rfl
  rw [hd] at hR
  unfold ixP at hR
  have hag:∃ cs,a8 x=.agg cs∧cs.length=5:=⟨_,rfl,rfl⟩
  obtain ⟨cs,hcs,hcl3⟩:=hag
  have hts:List.take 5 cs=cs:=ybc (by omega)
  simp only [go_sem,Int.toNat_natCast,ybb,hg',hcs,hcl3,hts,AX]
  (repeat with_reducible refine And.intro (by first|exact True.intro|decide|omega|(simp [zim,zgm,zgn,zgo,zgq,zgp,zgu];first|done|omega)) ?_)
  refine ⟨x,n,⟨hcs.symm,hg⟩,?_⟩
  try simp only [bv,go_sem]
  (repeat with_reducible refine And.intro (by first|exact True.intro|decide|omega|(simp [zim,zgm,zgn,zgo,zgq,zgp,zgu];first|done|omega)) ?_)
  refine aq (fun hq=>?_) (fun hq=>?_)
  ·rw [if_pos hq] at hR
   subst hR
   simp only [go_sem]
   exact Z0
  ·rw [if_neg (by rw [hq];decide)] at hR
   simp only [go_sem,e5]
   refine ⟨k+1,⟨by omega,hR⟩,by omega,Nat.le_refl _,AHeap.Le.refl _,hcl,?_,?_⟩
   ·simp [ltF,znb,hm,hf]
   ·simp [aI,wk2,wk1,wkM,Fr.get]
 ·have hk':k=ts.length:=by simp at hc;omega
  subst hk'
  rw [List.drop_length] at hR
  unfold ixP at hR
  subst hR
  simp only [go_sem]
  exact Z0
def ng:List AV→AHeap→(AV→Prop)→Prop
 |[.agg l,.int .i64 n],_,K=>∃ S:Sch,(l=br S∧S.actions.length≤1000000)∧K (.int .i64 (ixP (fun t:SAction=>t.id==n) S.actions 0))
 |_,_,_=>False
theorem xr:EntOk Tryz.prog 36 (Ent.pure ng):=by
 refine EntOk.pure fun args H K h=>?_
 unfold ng at h
 split at h
 rotate_left
 ·exact h.elim
 rename_i l n
 obtain ⟨S,⟨rfl,hl⟩,hK⟩:=h
 refine ⟨_,hK,?_⟩
 clear hK
 refine ACalls.fW aB (TblOk.cons DU TblOk.nil) Tryz.func36 [.tmp 4] (Nat.le_refl _) (T:=aA []) (h:=fun hcl hlt=>?_)
 clear hlt
 simp only [go_sem,br,sM]
 (repeat with_reducible refine And.intro (by first|exact True.intro|decide|omega|(simp [zim,zgm,zgn,zgo,zgq,zgp,zgu];first|done|omega)) ?_)
 refine ⟨S.actions,n,⟨rfl,by simp only [go_sem],hl⟩,?_⟩
 try simp only [bv,go_sem]
 exact Z0
def nj:List AV→AHeap→(AV→Prop)→Prop
 |[.agg l,.int .i64 n],_,K=>∃ S:Sch,(l=br S∧SLen S)∧K (.int .i64 (ixP (fun t:SAction=>t.id==n) S.actions 0))
 |_,_,_=>False
theorem w7:EntOk Tryz.prog 37 (Ent.pure nj):=by
 refine EntOk.pure fun args H K h=>?_
 unfold nj at h
 split at h
 rotate_left
 ·exact h.elim
 rename_i l n
 obtain ⟨S,⟨rfl,hS⟩,hK⟩:=h
 refine ⟨_,hK,?_⟩
 clear hK
 refine ACalls.fW aB (TblOk.cons wS (TblOk.cons qG TblOk.nil)) Tryz.func37 [.tmp 4] (Nat.le_refl _) (T:=aA []) (h:=fun hcl hlt=>?_)
 clear hlt
 simp only [go_sem,br,tJ]
 (repeat with_reducible refine And.intro (by first|exact True.intro|decide|omega|(simp [zim,zgm,zgn,zgo,zgq,zgp,zgu];first|done|omega)) ?_)
 refine ⟨S,⟨rfl,hS⟩,?_⟩
 try simp only [bv,go_sem,yw,sI,ns]
 (repeat with_reducible refine And.intro (by first|exact True.intro|decide|omega|(simp [zim,zgm,zgn,zgo,zgq,zgp,zgu];first|done|omega)) ?_)
 refine ⟨_,⟨rfl,by have h1:=hS.al;simpa using h1⟩,?_⟩
 rw [sy]
 try simp only [bv,go_sem]
 simp (disch:=first|exact Zd|omega) [↓zmk,beq,ybc,ybd,ybe,ag,wk,wk2,wk1,wkM,wkL,au,ybf,hcl]
 first|done|repeat first|exact .refl _|refine .push ?_ _
end Go.AL
open Go Go.AL Go.Proofs
namespace Go.AL
set_option linter.all false
set_option maxRecDepth 10000
def Ke (S:Sch) (id:Int):Option SAction:=S.actions.find? fun a=>a.id==id
/-- whether a restriction holds -/
noncomputable def nb (vs:List VN) (s:List UInt8) (b:List (VN × Nat)):Bool:=if (comp (bE vs) s).2=0 then vA b (comp (bE vs) s).1 else false
noncomputable def Kt (S:Sch) (e:SEntry):Bool:=if e.act=0 then true else match Ke S e.act with
 |some a=>nb (dx a.params) a.restr (gH a.params e.args a.params.length)
 |none=>false
/-- whether an entry satisfies the restrictions of its table and of its action -/
noncomputable def Ev (S:Sch) (e:SEntry):Bool:=match Ki S e.table with
 |some t=>nb (kL t.keys) t.restr (ke S.fields t.keys e.ms e.prio)&&Kt S e
 |none=>false
structure SAdm (S:Sch):Prop where
 sl:SLen S
 tk:∀ t∈S.tables,BX t
 ak:∀ a∈S.actions,Hm a
structure EAdm (e:SEntry):Prop where
 ml:e.ms.length≤4611686018427387904
 pf:∀ m∈e.ms,m.pfx<9223372036854775808
 pr:e.prio<9223372036854775808
 mo:∀ m∈e.ms,MOk m
 ar:∀ x∈e.args,x<2^128
theorem B4 {x:SMatch} (h:MOk x) (hp:x.pfx<9223372036854775808) {a:List UInt8} {w:Int}:gD x a w<2^128:=by
 have h1:=zr w
 obtain ⟨h2,h3,h4⟩:=h
 have h5:x.pfx.toNat<2^128:=by
  have:x.pfx.toNat<9223372036854775808:=by omega
  omega
 unfold gD
 repeat' split
 all_goals assumption
theorem v4 {fs:List SField} {keys:List SKey} {e:SEntry} (h:EAdm e) (hk:keys.length≤1000):uQ (ke fs keys e.ms e.prio):=by
 refine ⟨?_,?_⟩
 ·have:=@gV fs keys e.ms keys.length
  unfold ke
  rw [List.length_append]
  simp only [yaz,yba]
  omega
 ·have key:∀ k,∀ x∈bF fs keys e.ms k,x.2<2^128:=by
   intro k
   induction k with
   |zero=>intro x hx;cases hx
   |succ k ih =>
    intro x hx
    rw [bF] at hx
    rcases List.mem_append.1 hx with hx|hx
    ·exact ih x hx
    ·unfold pZ at hx
     split at hx
     ·unfold dU at hx
      obtain ⟨a,_,rfl⟩:=List.mem_map.1 hx
      dsimp only
      rw [List.getD_eq_getElem?_getD]
      rcases Nat.lt_or_ge k e.ms.length with h1|h1
      ·rw [List.getElem?_eq_getElem h1]
       exact B4 (h.mo _ (List.getElem_mem h1)) (h.pf _ (List.getElem_mem h1))
      ·rw [List.getElem?_eq_none h1]
       exact B4 (x:=cS) ⟨by decide,by decide,by decide⟩ (by decide)
     ·cases hx
  intro x hx
  unfold ke at hx
  rcases List.mem_append.1 hx with hx|hx
  ·have:=key _ x hx;omega
  ·rw [List.mem_singleton.1 hx]
   have:=h.pr
   show e.prio.toNat<340282366920938463463374607431768211456
   have:e.prio.toNat<9223372036854775808:=by omega
   omega
theorem wm {ps:List SParam} {e:SEntry} (h:EAdm e) (hk:ps.length≤1000):uQ (gH ps e.args ps.length):=by
 refine ⟨by rw [nG];omega,?_⟩
 have key:∀ k,∀ x∈gH ps e.args k,x.2<2^128:=by
  intro k
  induction k with
  |zero=>intro x hx;cases hx
  |succ k ih =>
   intro x hx
   rw [gH] at hx
   rcases List.mem_append.1 hx with hx|hx
   ·exact ih x hx
   ·rw [List.mem_singleton.1 hx]
    dsimp only
    rw [List.getD_eq_getElem?_getD]
    rcases Nat.lt_or_ge k e.args.length with h1|h1
    ·rw [List.getElem?_eq_getElem h1];exact h.ar _ (List.getElem_mem h1)
    ·rw [List.getElem?_eq_none h1];decide
 intro x hx
 have:=key _ x hx
 omega
/-- what the index of an element says -/
theorem pI {α:Type} {q:α→Bool} {l:List α}:(ixP q l 0 = -1∧l.find? q=none)∨∃ (i:Nat) (x:α),ixP q l 0=(i:Int)∧i<l.length∧l[i]?=some x∧l.find? q=some x∧q x=true:=by
 obtain ⟨b1,b2⟩:=um (q:=q) (l:=l) (k:=0)
 rcases b2 with b2|b2
 ·exact .inl ⟨b2,qf b2⟩
 ·obtain ⟨i,hi⟩:∃ i:Nat,ixP q l 0=((0+i:Nat):Int):=⟨(ixP q l 0).toNat,by omega⟩
  obtain ⟨x,h1,h2,h3⟩:=sC hi
  rw [Nat.zero_add] at hi
  exact .inr ⟨i,x,hi,by omega,h1,h3,h2⟩
def AN:List AV→AHeap→(AV→Prop)→Prop
 |[.agg l,.agg le],_,K=>∃ S e,(l=br S∧le=eA e∧SAdm S∧EAdm e)∧K (.bool (Ev S e))
 |_,_,_=>False
theorem vu {t:STable} (h:BX t):t.restr.length≤140737488355328:=h.2.2
set_option maxHeartbeats 4000000 in
theorem Jx:EntOk Tryz.prog 14 (Ent.pure AN):=by
 refine EntOk.pure fun args H K h=>?_
 unfold AN at h
 split at h
 rotate_left
 ·exact h.elim
 rename_i l le
 obtain ⟨S,e,⟨rfl,rfl,hS,he⟩,hK⟩:=h
 refine ⟨_,hK,?_⟩
 clear hK
 generalize hR:Ev S e=R
 unfold Ev Ki at hR
 refine ACalls.fW aB (TblOk.cons zW (TblOk.cons k7 (TblOk.cons rQ (TblOk.cons zP (TblOk.cons wK (TblOk.cons xr (TblOk.cons ne (TblOk.cons EW TblOk.nil)))))))) Tryz.func14 [.tmp 4] (Nat.le_refl _) (T:=aA [(4,[[],[],[],[],[],[],[],[],[],[],[],[7,10],[1,5,7,10,11]]),(5,[[],[],[],[],[],[],[],[],[],[],[],[4,6,9,10],[4,6,9,10,11]]),(12,[[],[],[],[],[],[],[],[],[],[],[],[7,10],[1,5,7,10,11]]),(13,[[],[],[],[],[],[],[],[],[],[],[],[5,8,10],[5,8,10,11]])]) (h:=fun hcl hlt=>?_)
 have hsx:=fun n' (hn:H.nx≤n')=>AV.lt_mono hn _ (hlt (.agg (br S)) (by simp))
 have hex:=fun n' (hn:H.nx≤n')=>AV.lt_mono hn _ (hlt (.agg (eA e)) (by simp))
 simp only [znn] at hsx hex
 clear hlt
 simp only [go_sem,br,eA,oL]
 refine ⟨S,⟨rfl,hS.sl.tl⟩,?_⟩
 rcases pI (q:=fun t:STable=>t.id==e.table) (l:=S.tables) with ⟨b1,b2⟩|⟨i,t,b1,hil,b3,b2,_⟩
 ·rw [b2] at hR
  dsimp only at hR
  subst hR
  rw [b1]
  have d:decide ((-1:Int)<0)=true:=rfl
  simp only [bv,go_sem,d]
  exact Z0
 rw [b2] at hR
 dsimp only at hR
 rw [b1]
 have d:decide ((i:Int)<0)=false:=by simp
 have hg':=cl (f:=bx) (l:=S.tables) (k:=i) (x:=t) b3
 have htm:t∈S.tables:=List.mem_of_getElem? b3
 have hot:=hS.tk t htm
 simp only [bv,go_sem,d,Int.toNat_natCast,hg',bx,ybb,jM]
 have hk1:t.keys.length≤1000:=by have:=hot.1;omega
 refine ⟨by omega,by omega,t.keys,⟨rfl,hk1⟩,?_⟩
 simp only [bv,go_sem,kj]
 refine ⟨kL t.keys,⟨rfl,yG hot,vu hot⟩,?_⟩
 have hC:=@qj (bE (kL t.keys)) t.restr
 have hbs:=v4 (fs:=S.fields) (keys:=t.keys) he hk1
 unfold nb at hR
 obtain ⟨⟨tr,er⟩,hq⟩:∃ q,comp (bE (kL t.keys)) t.restr=q:=⟨_,rfl⟩
 rw [hq] at hC hR ⊢
 dsimp only at hR
 have hpl:e.prio<9223372036854775808:=he.pr
 by_cases h0:er=0
 rotate_left
 ·rw [if_neg h0,Bool.false_and] at hR
  subst hR
  have d0:((er:Int) != 0)=true:=by simp [h0]
  simp only [bv,go_sem,fA,d0,ybb]
  exact Z0
 subst h0
 rw [if_pos rfl] at hR
 obtain ⟨hH,hV⟩:=GY (hC rfl) hbs
 have hm:(s7 (ke S.fields t.keys e.ms e.prio) tr).bo=vA (ke S.fields t.keys e.ms e.prio) tr:=by rw [hV];rfl
 have d0:(((0:Nat):Int) != 0)=false:=rfl
 have dn1:(!true)=false:=rfl
 have dn2:(!false)=true:=rfl
 simp only [bv,go_sem,fA,d0,Int.toNat_natCast,hg',bx,ybb,xy]
 refine ⟨by omega,S.fields,t.keys,e.ms,⟨.inl ⟨_,rfl⟩,hS.sl.fl,rfl,hk1,.inl ⟨_,rfl⟩,he.ml,he.pf,he.pr⟩,?_⟩
 simp only [bv,go_sem,qm]
 refine ⟨tr,_,⟨rfl,rfl,hH,hbs⟩,?_⟩
 rw [hm]
 cases hmv:vA (ke S.fields t.keys e.ms e.prio) tr with
 |false =>
  rw [hmv,Bool.false_and] at hR
  subst hR
  simp only [bv,go_sem,dn1,dn2]
  exact Z0
 |true =>
 rw [hmv,Bool.true_and] at hR
 unfold Kt Ke at hR
 by_cases ha:e.act=0
 ·rw [if_pos ha] at hR
  subst hR
  have da:(e.act==0)=true:=by rw [ha];rfl
  simp only [bv,go_sem,dn1,dn2,da]
  exact Z0
 rw [if_neg ha] at hR
 have da:(e.act==0)=false:=by simp [ha]
 simp only [bv,go_sem,dn1,dn2,da,ng]
 refine ⟨S,⟨rfl,hS.sl.al⟩,?_⟩
 rcases pI (q:=fun a:SAction=>a.id==e.act) (l:=S.actions) with ⟨q1,q2⟩|⟨j,a,q1,hjl,q3,q2,_⟩
 ·rw [q2] at hR
  dsimp only at hR
  subst hR
  rw [q1]
  have d:decide ((-1:Int)<0)=true:=rfl
  simp only [bv,go_sem,d]
  exact Z0
 rw [q2] at hR
 dsimp only at hR
 rw [q1]
 have dj:decide ((j:Int)<0)=false:=by simp
 have hga:=cl (f:=a8) (l:=S.actions) (k:=j) (x:=a) q3
 have hoa:=hS.ak a (List.mem_of_getElem? q3)
 have hp1:a.params.length≤1000:=by have:=hoa.1;omega
 simp only [bv,go_sem,dj,Int.toNat_natCast,hga,a8,ybb,kV]
 refine ⟨by omega,by omega,a.params,⟨rfl,hp1⟩,?_⟩
 simp only [bv,go_sem,kj]
 refine ⟨dx a.params,⟨rfl,yE hoa,hoa.2.2⟩,?_⟩
 have hC2:=@qj (bE (dx a.params)) a.restr
 have hbs2:=wm (ps:=a.params) he hp1
 unfold nb at hR
 obtain ⟨⟨tr2,er2⟩,hq2⟩:∃ q,comp (bE (dx a.params)) a.restr=q:=⟨_,rfl⟩
 rw [hq2] at hC2 hR ⊢
 dsimp only at hR
 by_cases h02:er2=0
 rotate_left
 ·rw [if_neg h02] at hR
  subst hR
  have d02:((er2:Int)==0)=false:=by simp [h02]
  simp only [bv,go_sem,fA,d02]
  exact Z0
 subst h02
 rw [if_pos rfl] at hR
 obtain ⟨hH2,hV2⟩:=GY (hC2 rfl) hbs2
 have hm2:(s7 (gH a.params e.args a.params.length) tr2).bo=vA (gH a.params e.args a.params.length) tr2:=by rw [hV2];rfl
 have d02:(((0:Nat):Int)==0)=true:=rfl
 simp only [bv,go_sem,fA,d02,Int.toNat_natCast,hga,a8,ybb,tm]
 refine ⟨by omega,a.params,e.args,⟨rfl,hp1,.inl ⟨_,rfl⟩⟩,?_⟩
 try simp only [bv,go_sem,qm]
 refine ⟨tr2,_,⟨rfl,rfl,hH2,hbs2⟩,?_⟩
 rw [hm2,hR]
 try simp only [bv,go_sem]
 exact Z0
end Go.AL
