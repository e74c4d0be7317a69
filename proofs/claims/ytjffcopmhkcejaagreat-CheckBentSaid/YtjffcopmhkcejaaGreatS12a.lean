/- Lemmas of the proof; no condition. -/
import Derived.Test.YtjffcopmhkcejaaGreatS10j
set_option linter.all false
set_option maxRecDepth 10000
open Go Go.AL Go.Proofs
namespace Go.AL
structure MOk(m:SMatch):Prop where
 v:m.value<2^128
 k:m.mask<2^128
 h:m.high<2^128
theorem qm{x:Nat}(h:x<2^128):isV ((x/2^64:Nat):Int) ((x%2^64:Nat):Int)=True:=eq_true (by unfold isV;omega)
structure EOk(e:SEntry):Prop where
 ml:e.ms.length≤140737488355328
 al:e.args.length≤140737488355328
 mo:∀ m∈e.ms,MOk m
theorem OV:ti Tryz.prog 229=some ⟨.array 6 23,6,144,.agg [.slice .nil 1 [],.slice .nil 1 [],.slice .nil 1 [],.slice .nil 1 [],.slice .nil 1 [],.slice .nil 1 []]⟩:=krf
attribute [go_sem] OV
theorem iK{l:List Int}:(inL l).length=l.length:=Xp
def sI(l:List Int):AV:=.slice .any 1 (inL l)
def Rt{n:Nat}{l:List Int}:AV.lt n (sI l):=gS
theorem MK:∀ l:List Int,uH (inL l) (inL l)
 |[]=>by simp[inL,fq]
 |x::l=>by
  have:=MK l
  unfold inL at this ⊢
  simp[jc,AV.cells,cX,dO,mU,this]
def lI{m:Mark}{l:List Int}:wkD (.slice m 1 (inL l)) (sI l):=by
 unfold sI
 rw[cY]
 exact .inl ⟨.inl rfl,rfl,MK l⟩
def rb{n:Nat}{l:List Int}:ltL n (inL l):=ltL_iff.2 fun j hj=>by
 simp[inL,znd]
def lN{H:AHeap}{c cs:Wz}{x y z:AObj}(h:((((H.push (.cells c)).push x).push y).push z).Closed)(hl:ltL (H.nx+1+1+1+1) cs):((((H.push (.cells cs)).push x).push y).push z).Closed:=by
 have h1:((((H.push (.cells c)).push x).push y).push z).set H.nx (.cells cs)=(((H.push (.cells cs)).push x).push y).push z:=by
  simp only[zlg,zlc]
  rw[if_neg Xa,if_neg Xa,if_neg Xa,if_pos trivial]
 rw[← h1]
 exact bA h (by simpa only[zlc]using hl)
structure SLen(S:Sch):Prop where
 fl:S.fields.length≤1000000
 hl:S.headers.length≤1000000
 sl:S.states.length≤1000000
 al:S.actions.length≤1000000
 tl:S.tables.length≤1000000
 rl:S.roles.length≤1000000
def dq(S:Sch):AV:=.agg [sI (S.fields.map (·.id)),sI (S.headers.map (·.id)),sI (S.states.map (·.id)),sI (S.actions.map (·.id)),sI (S.tables.map (·.id)),sI (S.roles.map (·.id))]
abbrev q60(S:Sch)(o:AV):Wz:=[o,.slice .nil 1 [],.slice .nil 1 [],.slice .nil 1 [],.slice .nil 1 [],.slice .nil 1 []]
abbrev q61(S:Sch)(o:AV):Wz:=[sI (S.fields.map (·.id)),o,.slice .nil 1 [],.slice .nil 1 [],.slice .nil 1 [],.slice .nil 1 []]
abbrev q62(S:Sch)(o:AV):Wz:=[sI (S.fields.map (·.id)),sI (S.headers.map (·.id)),o,.slice .nil 1 [],.slice .nil 1 [],.slice .nil 1 []]
abbrev q63(S:Sch)(o:AV):Wz:=[sI (S.fields.map (·.id)),sI (S.headers.map (·.id)),sI (S.states.map (·.id)),o,.slice .nil 1 [],.slice .nil 1 []]
abbrev q64(S:Sch)(o:AV):Wz:=[sI (S.fields.map (·.id)),sI (S.headers.map (·.id)),sI (S.states.map (·.id)),sI (S.actions.map (·.id)),o,.slice .nil 1 []]
abbrev q65(S:Sch)(o:AV):Wz:=[sI (S.fields.map (·.id)),sI (S.headers.map (·.id)),sI (S.states.map (·.id)),sI (S.actions.map (·.id)),sI (S.tables.map (·.id)),o]
abbrev q66(S:Sch)(o:AV):Wz:=[sI (S.fields.map (·.id)),sI (S.headers.map (·.id)),sI (S.states.map (·.id)),sI (S.actions.map (·.id)),sI (S.tables.map (·.id)),sI (S.roles.map (·.id))]
def lQ{zs cs:Wz}(h:zs.length=cs.length):splice zs 0 cs=cs:=by
 rw[mc zs cs 0 Xa,yar,yak,ybf Xa,yaj]
def hdC{α:Type}(av:α→AV):List α→Wz
 |x::_=>(av x).cells
 |[]=>[]
theorem tF{α:Type}{av:α→AV}(h:∀(n:Nat)(x:α),(av x).lt n):∀(l:List α)(m:Nat),ltL m (hdC av l)
 |x::_,m=>ltL_iff.2 fun j hj=>AV.lt_cells (h m x) j hj
 |[],m=>by unfold hdC;rw[znt];trivial
theorem tz{α:Type}{av:α→AV}:∀{l:List α}(h:0<l.length),hdC av l=(av l[0]).cells
 |_::_,_=>rfl
def qS{α:Type}{p:Prop}(ts:List α)(av:α→AV)(idf:α→Int)(sz a b c:Nat)(XO:AV→Wz)(XN:Wz)(pf:Fr)(hle:ts.length≤1000000)(hlt:∀{n:Nat}(x:α),(av x).lt n)(hag:∀ x,∃ cs,av x=.agg (.int .i64 (idf x)::cs)∧cs.length+1=sz∧dp cs=true)
 (h:∀(ts':List α)(av':α→AV)(idf':α→Int)(sz' a' b' c':Nat)(XO':AV→Wz)(XN':Wz)(pf':Fr),ts'=ts→av'=av→idf'=idf→sz'=sz→a'=a→b'=b→c'=c→XO'=XO→XN'=XN→pf'=pf→ts'.length≤1000000→(∀(n:Nat)(x:α),(av' x).lt n)→(∀ x,∃ cs,av' x=.agg (.int .i64 (idf' x)::cs)∧cs.length+1=sz'∧dp cs=true)→(∀ n v,AV.lt n v→ltL n (XO' v))→(∀ n,ltL n XN')→p)
 (hXO:∀ n v,AV.lt n v→ltL n (XO v):=by intro n v h;simp[zns,znt,cI,Rt,h]) (hXN:∀ n,ltL n XN:=by intro n;simp[zns,znt,cI,Rt]):p :=
 h _ _ _ _ _ _ _ _ _ _ rfl rfl rfl rfl rfl rfl rfl rfl rfl rfl hle (fun _ x=>hlt x) hag hXO hXN
def cq:PCt
 |[.agg l],_,K=>∃ S:Sch,(l=aR S∧SLen S)∧K (dq S)
 |_,_,_=>False
set_option maxHeartbeats 8000000 in
theorem pw:EPp 163 cq:=by
 refine Ype fun _ H K h=>?_
 unfold cq at h
 split at h<;>try exact h.elim
 rename_i l
 obtain⟨S,⟨rfl,h1,h2,h3,h4,h5,h6⟩,hK⟩:=h
 refine⟨_,hK,?_⟩
 clear hK
 refine Yfw aD tNq Tryz.func163 [.cell 2 229] (nrq _) (T:=aC [(7,[[1,1]]),(12,[[1,1]]),(17,[[1,1]]),(22,[[1,1]]),(27,[[1,1]]),(32,[[1,1]])]) (h:=fun hcl=>?_)
 have nl:([.slice .nil 1 [],.slice .nil 1 [],.slice .nil 1 [],.slice .nil 1 [],.slice .nil 1 [],.slice .nil 1 []]:Wz).length=6:=rfl
 obtain⟨HB,hHB⟩:∃ HB,(H.push (.cells (aR S))).push (.cells [.slice .nil 1 [],.slice .nil 1 [],.slice .nil 1 [],.slice .nil 1 [],.slice .nil 1 [],.slice .nil 1 []])=HB:=⟨_,rfl⟩
 have hclB:HB.Closed:=by
  rw[← hHB]
  refine ah (ah hcl (ltL_iff.2 fun j hj=>AV.lt_cells (iC S) j hj)) ?_
  simp[zns,znt,cI]
 have hnB:HB.nx=H.nx+1+1:=by rw[← hHB];rfl
 simp only[go_sem,aR]
 apply jb (α:=Unit) (fun _=>[(1,.ptr H.nx 0),(2,.ptr (H.nx+1) 0),(3,.ptr (H.nx+1+1) 0)]) (fun _=>HB.push (.cells (q61 S (.slice .nil 1 [])))) (fun _=>True)
 ·intro J
  refine qS S.fields aJ (·.id) 3 17 18 19 (q60 S) (q61 S (.slice .nil 1 [])) [(1,.ptr H.nx 0)] h1 gL (fun _=>⟨_,rfl,rfl,rfl⟩) fun ts av idf sz a b c XO XN pf e1 e2 e3 e4 e5 e6 e7 e8 e9 e10 hle hlt hag hXO hXN=>?_
  exact Y1
 ·intro _ _
  dsimp only
  rw[← hHB]
  refine Tq22 ?_
  apply jb (α:=Unit) (fun _=>[(1,.ptr H.nx 0),(2,.ptr (H.nx+1) 0),(3,.ptr (H.nx+1+1) 0)]) (fun _=>HB.push (.cells (q62 S (.slice .nil 1 [])))) (fun _=>True)
  ·intro J
   refine qS S.headers az (·.id) 3 32 33 34 (q61 S) (q62 S (.slice .nil 1 [])) [(1,.ptr H.nx 0)] h2 fK (fun _=>⟨_,rfl,rfl,rfl⟩) fun ts av idf sz a b c XO XN pf e1 e2 e3 e4 e5 e6 e7 e8 e9 e10 hle hlt hag hXO hXN=>?_
   exact Y1
  ·intro _ _
   dsimp only
   rw[← hHB]
   refine Tq22 ?_
   apply jb (α:=Unit) (fun _=>[(1,.ptr H.nx 0),(2,.ptr (H.nx+1) 0),(3,.ptr (H.nx+1+1) 0)]) (fun _=>HB.push (.cells (q63 S (.slice .nil 1 [])))) (fun _=>True)
   ·intro J
    refine qS S.states aE (·.id) 5 47 48 49 (q62 S) (q63 S (.slice .nil 1 [])) [(1,.ptr H.nx 0)] h3 eL (fun _=>⟨_,rfl,rfl,rfl⟩) fun ts av idf sz a b c XO XN pf e1 e2 e3 e4 e5 e6 e7 e8 e9 e10 hle hlt hag hXO hXN=>?_
    exact Y1
   ·intro _ _
    dsimp only
    rw[← hHB]
    refine Tq22 ?_
    apply jb (α:=Unit) (fun _=>[(1,.ptr H.nx 0),(2,.ptr (H.nx+1) 0),(3,.ptr (H.nx+1+1) 0)]) (fun _=>HB.push (.cells (q64 S (.slice .nil 1 [])))) (fun _=>True)
    ·intro J
     refine qS S.actions ap (·.id) 5 62 63 64 (q63 S) (q64 S (.slice .nil 1 [])) [(1,.ptr H.nx 0)] h4 fo (fun _=>⟨_,rfl,rfl,rfl⟩) fun ts av idf sz a b c XO XN pf e1 e2 e3 e4 e5 e6 e7 e8 e9 e10 hle hlt hag hXO hXN=>?_
     exact Y1
    ·intro _ _
     dsimp only
     rw[← hHB]
     refine Tq22 ?_
     apply jb (α:=Unit) (fun _=>[(1,.ptr H.nx 0),(2,.ptr (H.nx+1) 0),(3,.ptr (H.nx+1+1) 0)]) (fun _=>HB.push (.cells (q65 S (.slice .nil 1 [])))) (fun _=>True)
     ·intro J
      refine qS S.tables au (·.id) 8 77 78 79 (q64 S) (q65 S (.slice .nil 1 [])) [(1,.ptr H.nx 0)] h5 cZ (fun _=>⟨_,rfl,rfl,rfl⟩) fun ts av idf sz a b c XO XN pf e1 e2 e3 e4 e5 e6 e7 e8 e9 e10 hle hlt hag hXO hXN=>?_
      exact Y1
     ·intro _ _
      dsimp only
      rw[← hHB]
      refine Tq22 ?_
      apply jb (α:=Unit) (fun _=>[(2,.ptr (H.nx+1) 0),(3,.ptr (H.nx+1+1) 0)]) (fun _=>HB.push (.cells (q66 S (.slice .nil 1 [])))) (fun _=>True)
      ·intro J
       refine qS S.roles aP (·.id) 6 92 93 94 (q65 S) (q66 S (.slice .nil 1 [])) [] h6 gO (fun _=>⟨_,rfl,rfl,rfl⟩) fun ts av idf sz a b c XO XN pf e1 e2 e3 e4 e5 e6 e7 e8 e9 e10 hle hlt hag hXO hXN=>?_
       exact Y1
      ·intro _ _
       dsimp only
       rw[← hHB]
       refine Tq22 ?_
       simp only[aX,aA,bhq,go_sem,aR,sI]
       simp (disch:=first|exact Zd|omega) [↓zmm,beq,ybc,ybd,ybe,ag,wk,wk2,wk1,wkM,wkL,ay,ybf,hcl,dq,sI,gS]
       first|done|repeat first|exact .refl _|refine .push ?_ _
def bz:PCt
 |[.slice _ 1 l,.int .i64 n],_,K=>∃ xs:List Int,(l=inL xs∧xs.length≤1000000)∧K (.int .i64 (ixP (fun x=>x==n) xs 0))
 |_,_,_=>False
def jE:EPp 171 bz:=by
 refine Ype fun _ H K h=>?_
 unfold bz at h
 split at h<;>try exact h.elim
 rename_i m l n
 obtain⟨xs,⟨rfl,hl⟩,hK⟩:=h
 refine⟨_,hK,?_⟩
 clear hK
 generalize hR:ixP (fun x:Int=>x==n) xs 0=R
 refine Yfv aD tNq Tryz.func171 [.tmp 4] fun hcl hlt=>?_
 have hm:AV.lt H.nx (.slice m 1 (inL xs)):=hlt _ Xc
 clear hlt
 simp only[go_sem,iK]
 refine aG (A:=Nat) (fun k=>[(1,.int .i64 n),(7,.slice m 1 (inL xs)),(8,.int .i64 (xs.length:Int)),(9,.int .i64 (k:Int))]) (fun _=>H) (fun k=>k≤xs.length∧ixP (fun x:Int=>x==n) (xs.drop k) k=R) (fun k=>xs.length-k) 0 ⟨Xa,hR⟩ ?_ fun k hk=>?_
 ·refine⟨nrq _,lRq _,hcl,?_,?_⟩
  ·simp[ltF,znd,hm]
  ·exact Y14
 clear hR
 obtain⟨hk,hR⟩:=hk
 refine Tq20 ?_
 refine ax (fun hc=>?_) (fun hc=>?_)
 ·have hk':k<xs.length:=sHc
  obtain⟨x,hx⟩:∃ x,x=xs[k]:=⟨_,rfl⟩
  have hd:xs.drop k=x::xs.drop (k+1):=by rw[hx];exact dcq hk'
  have hg:=a9 (f:=AV.int .i64) (l:=xs) (k:=k) (x:=x) (by rw[gQq hk',hx])
  have e5:=Yk5 k
  rw[hd]at hR
  unfold ixP at hR
  simp only[go_sem,iNq,inL,hg,ybb]
  refine Tq7 ?_
  refine ax (fun hq=>?_) (fun hq=>?_)
  ·rw[if_pos hq]at hR
   subst hR
   exact Y32
  ·rw[if_neg (by rw[hq];decide)]at hR
   simp only[go_sem,e5]
   unfold inL at hm
   refine⟨k+1,⟨Xa,hR⟩,Xa,nrq _,lRq _,hcl,?_,?_⟩
   ·simp[ltF,znd,hm]
   ·exact Y14
 ·have hk':k=xs.length:=sHc
  exact Y21
def aS:PCt
 |[.agg l,.int .i64 n],_,K=>∃ S:Sch,(l=aR S∧SLen S)∧K (.int .i64 (ixP (fun t:STable=>t.id==n) S.tables 0))
 |_,_,_=>False
def jX:EPp 172 aS:=by
 refine Ype fun _ H K h=>?_
 unfold aS at h
 split at h<;>try exact h.elim
 rename_i l n
 obtain⟨S,⟨rfl,hS⟩,hK⟩:=h
 refine⟨_,hK,?_⟩
 clear hK
 refine Yfu aD (tCq pw (tCq jE tNq)) Tryz.func172 [.tmp 4] fun hcl=>?_
 simp only[go_sem,aR,cq]
 refine Tq7 ?_
 refine⟨S,⟨rfl,hS⟩,?_⟩
 try simp only[aA,go_sem,dq,sI,bz]
 refine Tq7 ?_
 refine⟨_,⟨rfl,by have h1:=hS.fl;have h2:=hS.tl;simpa using(by assumption)⟩,?_⟩
 exact Y42
def aM:PCt
 |[.agg l,.int .i64 n],_,K=>∃ S:Sch,(l=aR S∧SLen S)∧K (.int .i64 (ixP (fun t:SField=>t.id==n) S.fields 0))
 |_,_,_=>False
def pW:EPp 167 aM:=by
 refine Ype fun _ H K h=>?_
 unfold aM at h
 split at h<;>try exact h.elim
 rename_i l n
 obtain⟨S,⟨rfl,hS⟩,hK⟩:=h
 refine⟨_,hK,?_⟩
 clear hK
 refine Yfu aD (tCq pw (tCq jE tNq)) Tryz.func167 [.tmp 4] fun hcl=>?_
 simp only[go_sem,aR,cq]
 refine Tq7 ?_
 refine⟨S,⟨rfl,hS⟩,?_⟩
 try simp only[aA,go_sem,dq,sI,bz]
 refine Tq7 ?_
 refine⟨_,⟨rfl,by have h1:=hS.fl;have h2:=hS.tl;simpa using(by assumption)⟩,?_⟩
 exact Y42
theorem QD:ti Tryz.prog 74=some ⟨.struct [(0,3,false),(1,9,false),(2,71,false),(3,72,false),(4,9,false)],5,88,.agg [.int .i64 0,.str [],.slice .nil 1 [],.slice .nil 1 [],.str []]⟩:=krf
def ME:tSl Tryz.prog 28 74:=kSl
theorem OL:ti Tryz.prog 79=some ⟨.struct [(0,3,false),(1,9,false),(2,77,false),(3,23,false),(4,3,false),(5,4,false)],6,88,.agg [.int .i64 0,.str [],.slice .nil 1 [],.slice .nil 1 [],.int .i64 0,.bool false]⟩:=krf
def Kc:tSl Tryz.prog 31 79:=kSl
theorem PM:ti Tryz.prog 52=some ⟨.struct [(0,3,false),(1,9,false),(2,23,false)],3,48,.agg [.int .i64 0,.str [],.slice .nil 1 []]⟩:=krf
def HO:tSl Tryz.prog 26 52:=kSl
theorem QP:ti Tryz.prog 69=some ⟨.struct [(0,3,false),(1,3,false),(2,3,false),(3,67,false),(4,3,false)],5,56,.agg [.int .i64 0,.int .i64 0,.int .i64 0,.slice .nil 1 [],.int .i64 0]⟩:=krf
def MT:tSl Tryz.prog 27 69:=kSl
attribute [go_sem] QD ME OL Kc PM HO QP MT
def Cc:PCt
 |[x,.ptr c 0],H,K=>∃ t n,(x=ap t∧H.get c=some (.cells [.int .i64 n]))∧K (.bool (t.id==n))
 |_,_,_=>False
def Pj:EPp 270 Cc:=by
 refine Ype fun _ H K h=>?_
 unfold Cc at h
 split at h<;>try exact h.elim
 rename_i x c
 obtain⟨t,n,⟨rfl,hg⟩,hK⟩:=h
 refine⟨_,hK,?_⟩
 clear hK
 unfold ap
 refine Yfv aD tNq Tryz.func270 [.tmp 3] fun hcl hlt=>?_
 exact Y44
def wy:PCt
 |[.slice _ 5 l,.func (.func 270) [] [.ptr c 0]],H,K=>∃ (ts:List SAction) (n:Int),(l=ts.map ap∧H.get c=some (.cells [.int .i64 n])∧ts.length≤1000000)∧K (.int .i64 (ixP (fun t:SAction=>t.id==n) ts 0))
 |_,_,_=>False
def FQ:EPp 269 wy:=by
 refine Ype fun _ H K h=>?_
 unfold wy at h
 split at h<;>try exact h.elim
 rename_i m l c
 obtain⟨ts,n,⟨rfl,hg,hl⟩,hK⟩:=h
 refine⟨_,hK,?_⟩
 clear hK
 generalize hR:ixP (fun t:SAction=>t.id==n) ts 0=R
 refine Yfv aD (tCq Pj tNq) Tryz.func269 [.tmp 4] fun hcl hlt=>?_
 have hm:AV.lt H.nx (.slice m 5 (ts.map ap)):=hlt _ Xc
 have hf:AV.lt H.nx (.func (.func 270) [] [.ptr c 0]):=hlt _ Xc
 clear hlt
 simp only[go_sem,ybb]
 refine aG (A:=Nat) (fun k=>[(0,.slice m 5 (ts.map ap)),(1,.func (.func 270) [] [.ptr c 0]),(7,.int .i64 (ts.length:Int)),(8,.int .i64 (k:Int))]) (fun _=>H) (fun k=>k≤ts.length∧ixP (fun t:SAction=>t.id==n) (ts.drop k) k=R) (fun k=>ts.length-k) 0 ⟨Xa,hR⟩ ?_ fun k hk=>?_
 ·refine⟨nrq _,lRq _,hcl,?_,?_⟩
  ·simp[ltF,znd,hm,hf]
  ·exact Y14
 clear hR
 obtain⟨hk,hR⟩:=hk
 refine Tq20 ?_
 refine ax (fun hc=>?_) (fun hc=>?_)
 ·have hk':k<ts.length:=sHc
  obtain⟨x,hx⟩:∃ x,x=ts[k]:=⟨_,rfl⟩
  have hd:ts.drop k=x::ts.drop (k+1):=by rw[hx];exact dcq hk'
  have hg':=a9 (f:=ap) (l:=ts) (k:=k) (x:=x) (by rw[gQq hk',hx])
  have e5:=Yk5 k
  have hcell:(ap x).cells.length=5:=rfl
  rw[hd]at hR
  unfold ixP at hR
  have hag:∃ cs,ap x=.agg cs∧cs.length=5:=⟨_,rfl,rfl⟩
  obtain⟨cs,hcs,hcl3⟩:=hag
  have hts:List.take 5 cs=cs:=ybc Xa
  simp only[go_sem,iNq,ybb,hg',hcs,hcl3,hts,Cc]
  refine Tq7 ?_
  refine⟨x,n,⟨hcs.symm,hg⟩,?_⟩
  try simp only[aA,go_sem]
  refine Tq7 ?_
  refine ax (fun hq=>?_) (fun hq=>?_)
  ·rw[if_pos hq]at hR
   subst hR
   exact Y32
  ·rw[if_neg (by rw[hq];decide)]at hR
   simp only[go_sem,e5]
   refine⟨k+1,⟨Xa,hR⟩,Xa,nrq _,lRq _,hcl,?_,?_⟩
   ·simp[ltF,znd,hm,hf]
   ·exact Y14
 ·exact Y19
def iG:PCt
 |[.agg l,.int .i64 n],_,K=>∃ S:Sch,(l=aR S∧S.actions.length≤1000000)∧K (.int .i64 (ixP (fun t:SAction=>t.id==n) S.actions 0))
 |_,_,_=>False
def j8:EPp 148 iG:=by
 refine Ype fun _ H K h=>?_
 unfold iG at h
 split at h<;>try exact h.elim
 rename_i l n
 obtain⟨S,⟨rfl,hl⟩,hK⟩:=h
 refine⟨_,hK,?_⟩
 clear hK
 refine Yfu aD (tCq FQ tNq) Tryz.func148 [.tmp 4] fun hcl=>?_
 simp only[go_sem,aR,wy]
 refine Tq7 ?_
 refine⟨S.actions,n,⟨rfl,Xo,hl⟩,?_⟩
 exact Y37
def aW:PCt
 |[.agg l,.int .i64 n],_,K=>∃ S:Sch,(l=aR S∧SLen S)∧K (.int .i64 (ixP (fun t:SAction=>t.id==n) S.actions 0))
 |_,_,_=>False
def lc:EPp 170 aW:=by
 refine Ype fun _ H K h=>?_
 unfold aW at h
 split at h<;>try exact h.elim
 rename_i l n
 obtain⟨S,⟨rfl,hS⟩,hK⟩:=h
 refine⟨_,hK,?_⟩
 clear hK
 refine Yfu aD (tCq pw (tCq jE tNq)) Tryz.func170 [.tmp 4] fun hcl=>?_
 simp only[go_sem,aR,cq]
 refine Tq7 ?_
 refine⟨S,⟨rfl,hS⟩,?_⟩
 try simp only[aA,go_sem,dq,sI,bz]
 refine Tq7 ?_
 refine⟨_,⟨rfl,by have h1:=hS.al;simpa using h1⟩,?_⟩
 exact Y42
def Cs:PCt
 |[x,.ptr c 0],H,K=>∃ t n,(x=az t∧H.get c=some (.cells [.int .i64 n]))∧K (.bool (t.id==n))
 |_,_,_=>False
def OU:EPp 322 Cs:=by
 refine Ype fun _ H K h=>?_
 unfold Cs at h
 split at h<;>try exact h.elim
 rename_i x c
 obtain⟨t,n,⟨rfl,hg⟩,hK⟩:=h
 refine⟨_,hK,?_⟩
 clear hK
 unfold az
 refine Yfv aD tNq Tryz.func322 [.tmp 3] fun hcl hlt=>?_
 exact Y44
def ww:PCt
 |[.slice _ 3 l,.func (.func 322) [] [.ptr c 0]],H,K=>∃ (ts:List SHeader) (n:Int),(l=ts.map az∧H.get c=some (.cells [.int .i64 n])∧ts.length≤1000000)∧K (.int .i64 (ixP (fun t:SHeader=>t.id==n) ts 0))
 |_,_,_=>False
def GJ:EPp 310 ww:=by
 refine Ype fun _ H K h=>?_
 unfold ww at h
 split at h<;>try exact h.elim
 rename_i m l c
 obtain⟨ts,n,⟨rfl,hg,hl⟩,hK⟩:=h
 refine⟨_,hK,?_⟩
 clear hK
 generalize hR:ixP (fun t:SHeader=>t.id==n) ts 0=R
 refine Yfv aD (tCq OU tNq) Tryz.func310 [.tmp 4] fun hcl hlt=>?_
 have hm:AV.lt H.nx (.slice m 3 (ts.map az)):=hlt _ Xc
 have hf:AV.lt H.nx (.func (.func 322) [] [.ptr c 0]):=hlt _ Xc
 clear hlt
 simp only[go_sem,ybb]
 refine aG (A:=Nat) (fun k=>[(0,.slice m 3 (ts.map az)),(1,.func (.func 322) [] [.ptr c 0]),(7,.int .i64 (ts.length:Int)),(8,.int .i64 (k:Int))]) (fun _=>H) (fun k=>k≤ts.length∧ixP (fun t:SHeader=>t.id==n) (ts.drop k) k=R) (fun k=>ts.length-k) 0 ⟨Xa,hR⟩ ?_ fun k hk=>?_
 ·refine⟨nrq _,lRq _,hcl,?_,?_⟩
  ·simp[ltF,znd,hm,hf]
  ·exact Y14
 clear hR
 obtain⟨hk,hR⟩:=hk
 refine Tq20 ?_
 refine ax (fun hc=>?_) (fun hc=>?_)
 ·have hk':k<ts.length:=sHc
  obtain⟨x,hx⟩:∃ x,x=ts[k]:=⟨_,rfl⟩
  have hd:ts.drop k=x::ts.drop (k+1):=by rw[hx];exact dcq hk'
  have hg':=a9 (f:=az) (l:=ts) (k:=k) (x:=x) (by rw[gQq hk',hx])
  have e5:=Yk5 k
  have hcell:(az x).cells.length=3:=rfl
  rw[hd]at hR
  unfold ixP at hR
  have hag:∃ cs,az x=.agg cs∧cs.length=3:=⟨_,rfl,rfl⟩
  obtain⟨cs,hcs,hcl3⟩:=hag
  have hts:List.take 3 cs=cs:=ybc Xa
  simp only[go_sem,iNq,ybb,hg',hcs,hcl3,hts,Cs]
  refine Tq7 ?_
  refine⟨x,n,⟨hcs.symm,hg⟩,?_⟩
  try simp only[aA,go_sem]
  refine Tq7 ?_
  refine ax (fun hq=>?_) (fun hq=>?_)
  ·rw[if_pos hq]at hR
   subst hR
   exact Y32
  ·rw[if_neg (by rw[hq];decide)]at hR
   simp only[go_sem,e5]
   refine⟨k+1,⟨Xa,hR⟩,Xa,nrq _,lRq _,hcl,?_,?_⟩
   ·simp[ltF,znd,hm,hf]
   ·exact Y14
 ·exact Y19
def qj:PCt
 |[.agg l,.int .i64 n],_,K=>∃ S:Sch,(l=aR S∧S.headers.length≤1000000)∧K (.int .i64 (ixP (fun t:SHeader=>t.id==n) S.headers 0))
 |_,_,_=>False
def y7:EPp 262 qj:=by
 refine Ype fun _ H K h=>?_
 unfold qj at h
 split at h<;>try exact h.elim
 rename_i l n
 obtain⟨S,⟨rfl,hl⟩,hK⟩:=h
 refine⟨_,hK,?_⟩
 clear hK
 refine Yfu aD (tCq GJ tNq) Tryz.func262 [.tmp 4] fun hcl=>?_
 simp only[go_sem,aR,ww]
 refine Tq7 ?_
 refine⟨S.headers,n,⟨rfl,Xo,hl⟩,?_⟩
 exact Y37
def aH:PCt
 |[.agg l,.int .i64 n],_,K=>∃ S:Sch,(l=aR S∧SLen S)∧K (.int .i64 (ixP (fun t:SHeader=>t.id==n) S.headers 0))
 |_,_,_=>False
def sX:EPp 168 aH:=by
 refine Ype fun _ H K h=>?_
 unfold aH at h
 split at h<;>try exact h.elim
 rename_i l n
 obtain⟨S,⟨rfl,hS⟩,hK⟩:=h
 refine⟨_,hK,?_⟩
 clear hK
 refine Yfu aD (tCq pw (tCq jE tNq)) Tryz.func168 [.tmp 4] fun hcl=>?_
 simp only[go_sem,aR,cq]
 refine Tq7 ?_
 refine⟨S,⟨rfl,hS⟩,?_⟩
 try simp only[aA,go_sem,dq,sI,bz]
 refine Tq7 ?_
 refine⟨_,⟨rfl,by have h1:=hS.hl;simpa using h1⟩,?_⟩
 exact Y42
def C4:PCt
 |[x,.ptr c 0],H,K=>∃ t n,(x=aE t∧H.get c=some (.cells [.int .i64 n]))∧K (.bool (t.id==n))
 |_,_,_=>False
def P8:EPp 335 C4:=by
 refine Ype fun _ H K h=>?_
 unfold C4 at h
 split at h<;>try exact h.elim
 rename_i x c
 obtain⟨t,n,⟨rfl,hg⟩,hK⟩:=h
 refine⟨_,hK,?_⟩
 clear hK
 unfold aE
 refine Yfv aD tNq Tryz.func335 [.tmp 3] fun hcl hlt=>?_
 exact Y44
def vh:PCt
 |[.slice _ 5 l,.func (.func 335) [] [.ptr c 0]],H,K=>∃ (ts:List SState) (n:Int),(l=ts.map aE∧H.get c=some (.cells [.int .i64 n])∧ts.length≤1000000)∧K (.int .i64 (ixP (fun t:SState=>t.id==n) ts 0))
 |_,_,_=>False
def Fj:EPp 314 vh:=by
 refine Ype fun _ H K h=>?_
 unfold vh at h
 split at h<;>try exact h.elim
 rename_i m l c
 obtain⟨ts,n,⟨rfl,hg,hl⟩,hK⟩:=h
 refine⟨_,hK,?_⟩
 clear hK
 generalize hR:ixP (fun t:SState=>t.id==n) ts 0=R
 refine Yfv aD (tCq P8 tNq) Tryz.func314 [.tmp 4] fun hcl hlt=>?_
 have hm:AV.lt H.nx (.slice m 5 (ts.map aE)):=hlt _ Xc
 have hf:AV.lt H.nx (.func (.func 335) [] [.ptr c 0]):=hlt _ Xc
 clear hlt
 simp only[go_sem,ybb]
 refine aG (A:=Nat) (fun k=>[(0,.slice m 5 (ts.map aE)),(1,.func (.func 335) [] [.ptr c 0]),(7,.int .i64 (ts.length:Int)),(8,.int .i64 (k:Int))]) (fun _=>H) (fun k=>k≤ts.length∧ixP (fun t:SState=>t.id==n) (ts.drop k) k=R) (fun k=>ts.length-k) 0 ⟨Xa,hR⟩ ?_ fun k hk=>?_
 ·refine⟨nrq _,lRq _,hcl,?_,?_⟩
  ·simp[ltF,znd,hm,hf]
  ·exact Y14
 clear hR
 obtain⟨hk,hR⟩:=hk
 refine Tq20 ?_
 refine ax (fun hc=>?_) (fun hc=>?_)
 ·have hk':k<ts.length:=sHc
  obtain⟨x,hx⟩:∃ x,x=ts[k]:=⟨_,rfl⟩
  have hd:ts.drop k=x::ts.drop (k+1):=by rw[hx];exact dcq hk'
  have hg':=a9 (f:=aE) (l:=ts) (k:=k) (x:=x) (by rw[gQq hk',hx])
  have e5:=Yk5 k
  have hcell:(aE x).cells.length=5:=rfl
  rw[hd]at hR
  unfold ixP at hR
  have hag:∃ cs,aE x=.agg cs∧cs.length=5:=⟨_,rfl,rfl⟩
  obtain⟨cs,hcs,hcl3⟩:=hag
  have hts:List.take 5 cs=cs:=ybc Xa
  simp only[go_sem,iNq,ybb,hg',hcs,hcl3,hts,C4]
  refine Tq7 ?_
  refine⟨x,n,⟨hcs.symm,hg⟩,?_⟩
  try simp only[aA,go_sem]
  refine Tq7 ?_
  refine ax (fun hq=>?_) (fun hq=>?_)
  ·rw[if_pos hq]at hR
   subst hR
   exact Y32
  ·rw[if_neg (by rw[hq];decide)]at hR
   simp only[go_sem,e5]
   refine⟨k+1,⟨Xa,hR⟩,Xa,nrq _,lRq _,hcl,?_,?_⟩
   ·simp[ltF,znd,hm,hf]
   ·exact Y14
 ·exact Y19
def nh:PCt
 |[.agg l,.int .i64 n],_,K=>∃ S:Sch,(l=aR S∧S.states.length≤1000000)∧K (.int .i64 (ixP (fun t:SState=>t.id==n) S.states 0))
 |_,_,_=>False
def Bc:EPp 319 nh:=by
 refine Ype fun _ H K h=>?_
 unfold nh at h
 split at h<;>try exact h.elim
 rename_i l n
 obtain⟨S,⟨rfl,hl⟩,hK⟩:=h
 refine⟨_,hK,?_⟩
 clear hK
 refine Yfu aD (tCq Fj tNq) Tryz.func319 [.tmp 4] fun hcl=>?_
 simp only[go_sem,aR,vh]
 refine Tq7 ?_
 refine⟨S.states,n,⟨rfl,Xo,hl⟩,?_⟩
 exact Y37
def nv:PCt
 |[.agg l,.int .i64 n],_,K=>∃ S:Sch,(l=aR S∧SLen S)∧K (.int .i64 (ixP (fun t:SState=>t.id==n) S.states 0))
 |_,_,_=>False
def BN:EPp 276 nv:=by
 refine Ype fun _ H K h=>?_
 unfold nv at h
 split at h<;>try exact h.elim
 rename_i l n
 obtain⟨S,⟨rfl,hS⟩,hK⟩:=h
 refine⟨_,hK,?_⟩
 clear hK
 refine Yfu aD (tCq pw (tCq jE tNq)) Tryz.func276 [.tmp 4] fun hcl=>?_
 simp only[go_sem,aR,cq]
 refine Tq7 ?_
 refine⟨S,⟨rfl,hS⟩,?_⟩
 try simp only[aA,go_sem,dq,sI,bz]
 refine Tq7 ?_
 refine⟨_,⟨rfl,by have h1:=hS.sl;simpa using h1⟩,?_⟩
 exact Y42
end Go.AL
