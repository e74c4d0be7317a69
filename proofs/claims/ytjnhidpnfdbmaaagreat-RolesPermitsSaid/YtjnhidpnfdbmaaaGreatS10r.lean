/- Lemmas of the proof; no condition. -/
import Derived.Test.YtjnhidpnfdbmaaaGreatS10n
set_option linter.all false
set_option maxRecDepth 10000
open Go Go.AL Go.Proofs
namespace Go.AL
theorem NO:ti Tryz.prog 113=some ⟨.array 6 50,6,144,.agg [.slice .nil 1 [],.slice .nil 1 [],.slice .nil 1 [],.slice .nil 1 [],.slice .nil 1 [],.slice .nil 1 []]⟩:=krf
attribute [go_sem] NO
theorem Bs{l:List Int}:(inL l).length=l.length:=by simp[inL]
def sI(l:List Int):AV:=.slice .any 1 (inL l)
theorem PK{n:Nat}{l:List Int}:AV.lt n (sI l):=nq
theorem JX:∀ l:List Int,wr (inL l) (inL l)
 |[]=>by simp[inL,cP]
 |x::l=>by
  have:=JX l
  unfold inL at this ⊢
  simp[fw,AV.cells,cu,cL,jk,this]
theorem j8{m:Mark}{l:List Int}:wkD (.slice m 1 (inL l)) (sI l):=by
 unfold sI
 rw[cw]
 exact .inl ⟨.inl rfl,rfl,JX l⟩
theorem rp{n:Nat}{l:List Int}:ltL n (inL l):=ltL_iff.2 fun j hj=>by
 simp[inL,znf]
theorem kP{H:AHeap}{c cs:List AV}{x y z:AObj}(h:((((H.push (.cells c)).push x).push y).push z).Closed)(hl:ltL (H.nx+1+1+1+1) cs):((((H.push (.cells cs)).push x).push y).push z).Closed:=by
 have h1:((((H.push (.cells c)).push x).push y).push z).set H.nx (.cells cs)=(((H.push (.cells cs)).push x).push y).push z:=by
  simp only[zli,zle]
  rw[if_neg Xa,if_neg Xa,if_neg Xa,if_pos trivial]
 rw[← h1]
 exact ai h (by simpa only[zle]using hl)
structure SLen(S:Sch):Prop where
 fl:S.fields.length≤1000000
 hl:S.headers.length≤1000000
 sl:S.states.length≤1000000
 al:S.actions.length≤1000000
 tl:S.tables.length≤1000000
 rl:S.roles.length≤1000000
def Ah(S:Sch):AV:=.agg [sI (S.fields.map (·.id)),sI (S.headers.map (·.id)),sI (S.states.map (·.id)),sI (S.actions.map (·.id)),sI (S.tables.map (·.id)),sI (S.roles.map (·.id))]
abbrev q60(S:Sch)(o:AV):List AV:=[o,.slice .nil 1 [],.slice .nil 1 [],.slice .nil 1 [],.slice .nil 1 [],.slice .nil 1 []]
abbrev q61(S:Sch)(o:AV):List AV:=[sI (S.fields.map (·.id)),o,.slice .nil 1 [],.slice .nil 1 [],.slice .nil 1 [],.slice .nil 1 []]
abbrev q62(S:Sch)(o:AV):List AV:=[sI (S.fields.map (·.id)),sI (S.headers.map (·.id)),o,.slice .nil 1 [],.slice .nil 1 [],.slice .nil 1 []]
abbrev q63(S:Sch)(o:AV):List AV:=[sI (S.fields.map (·.id)),sI (S.headers.map (·.id)),sI (S.states.map (·.id)),o,.slice .nil 1 [],.slice .nil 1 []]
abbrev q64(S:Sch)(o:AV):List AV:=[sI (S.fields.map (·.id)),sI (S.headers.map (·.id)),sI (S.states.map (·.id)),sI (S.actions.map (·.id)),o,.slice .nil 1 []]
abbrev q65(S:Sch)(o:AV):List AV:=[sI (S.fields.map (·.id)),sI (S.headers.map (·.id)),sI (S.states.map (·.id)),sI (S.actions.map (·.id)),sI (S.tables.map (·.id)),o]
abbrev q66(S:Sch)(o:AV):List AV:=[sI (S.fields.map (·.id)),sI (S.headers.map (·.id)),sI (S.states.map (·.id)),sI (S.actions.map (·.id)),sI (S.tables.map (·.id)),sI (S.roles.map (·.id))]
theorem kG{zs cs:List AV}(h:zs.length=cs.length):splice zs 0 cs=cs:=by
 rw[hZ zs cs 0 Xa,yar,yak,ybf Xa,yaj]
def hdC{α:Type}(av:α→AV):List α→List AV
 |x::_=>(av x).cells
 |[]=>[]
theorem uo{α:Type}{av:α→AV}(h:∀(n:Nat)(x:α),(av x).lt n):∀(l:List α)(m:Nat),ltL m (hdC av l)
 |x::_,m=>ltL_iff.2 fun j hj=>AV.lt_cells (h m x) j hj
 |[],m=>by unfold hdC;rw[znv];trivial
theorem vg{α:Type}{av:α→AV}:∀{l:List α}(h:0<l.length),hdC av l=(av l[0]).cells
 |_::_,_=>rfl
theorem re{α:Type}{p:Prop}(ts:List α)(av:α→AV)(idf:α→Int)(sz a b c:Nat)(XO:AV→List AV)(XN:List AV)(pf:Fr)(hle:ts.length≤1000000)(hlt:∀{n:Nat}(x:α),(av x).lt n)(hag:∀ x,∃ cs,av x=.agg (.int .i64 (idf x)::cs)∧cs.length+1=sz∧bG cs=true)
 (h:∀(ts':List α)(av':α→AV)(idf':α→Int)(sz' a' b' c':Nat)(XO':AV→List AV)(XN':List AV)(pf':Fr),ts'=ts→av'=av→idf'=idf→sz'=sz→a'=a→b'=b→c'=c→XO'=XO→XN'=XN→pf'=pf→ts'.length≤1000000→(∀(n:Nat)(x:α),(av' x).lt n)→(∀ x,∃ cs,av' x=.agg (.int .i64 (idf' x)::cs)∧cs.length+1=sz'∧bG cs=true)→(∀ n v,AV.lt n v→ltL n (XO' v))→(∀ n,ltL n XN')→p)
 (hXO:∀ n v,AV.lt n v→ltL n (XO v):=by intro n v h;simp[znu,znv,aN,PK,h]) (hXN:∀ n,ltL n XN:=by intro n;simp[znu,znv,aN,PK]):p :=
 h _ _ _ _ _ _ _ _ _ _ rfl rfl rfl rfl rfl rfl rfl rfl rfl rfl hle (fun _ x=>hlt x) hag hXO hXN
def uL:PCt
 |[.agg l],_,K=>∃ S:Sch,(l=bb S∧SLen S)∧K (Ah S)
 |_,_,_=>False
set_option maxHeartbeats 8000000 in
theorem wJ:EPp 62 uL:=by
 refine Ype fun _ H K h=>?_
 unfold uL at h
 split at h<;>try exact h.elim
 rename_i l
 obtain⟨S,⟨rfl,h1,h2,h3,h4,h5,h6⟩,hK⟩:=h
 refine⟨_,hK,?_⟩
 clear hK
 refine Yfw az tNq Tryz.func62 [.cell 2 113] (nrq _) (T:=ay [(7,[[1,1]]),(12,[[1,1]]),(17,[[1,1]]),(22,[[1,1]]),(27,[[1,1]]),(32,[[1,1]])]) (h:=fun hcl=>?_)
 have nl:([.slice .nil 1 [],.slice .nil 1 [],.slice .nil 1 [],.slice .nil 1 [],.slice .nil 1 [],.slice .nil 1 []]:List AV).length=6:=rfl
 obtain⟨HB,hHB⟩:∃ HB,(H.push (.cells (bb S))).push (.cells [.slice .nil 1 [],.slice .nil 1 [],.slice .nil 1 [],.slice .nil 1 [],.slice .nil 1 [],.slice .nil 1 []])=HB:=⟨_,rfl⟩
 have hclB:HB.Closed:=by
  rw[← hHB]
  refine aa (aa hcl (ltL_iff.2 fun j hj=>AV.lt_cells (u7 S) j hj)) ?_
  simp[znu,znv,aN]
 have hnB:HB.nx=H.nx+1+1:=by rw[← hHB];rfl
 simp only[go_sem,bb]
 apply lf (α:=Unit) (fun _=>[(1,.ptr H.nx 0),(2,.ptr (H.nx+1) 0),(3,.ptr (H.nx+1+1) 0)]) (fun _=>HB.push (.cells (q61 S (.slice .nil 1 [])))) (fun _=>True)
 ·intro J
  refine re S.fields cD (·.id) 3 17 18 19 (q60 S) (q61 S (.slice .nil 1 [])) [(1,.ptr H.nx 0)] h1 qe (fun _=>⟨_,rfl,rfl,rfl⟩) fun ts av idf sz a b c XO XN pf e1 e2 e3 e4 e5 e6 e7 e8 e9 e10 hle hlt hag hXO hXN=>?_
  exact V0
 ·intro _ _
  dsimp only
  rw[← hHB]
  refine T10 ?_
  apply lf (α:=Unit) (fun _=>[(1,.ptr H.nx 0),(2,.ptr (H.nx+1) 0),(3,.ptr (H.nx+1+1) 0)]) (fun _=>HB.push (.cells (q62 S (.slice .nil 1 [])))) (fun _=>True)
  ·intro J
   refine re S.headers gr (·.id) 3 32 33 34 (q61 S) (q62 S (.slice .nil 1 [])) [(1,.ptr H.nx 0)] h2 uW (fun _=>⟨_,rfl,rfl,rfl⟩) fun ts av idf sz a b c XO XN pf e1 e2 e3 e4 e5 e6 e7 e8 e9 e10 hle hlt hag hXO hXN=>?_
   exact V0
  ·intro _ _
   dsimp only
   rw[← hHB]
   refine T10 ?_
   apply lf (α:=Unit) (fun _=>[(1,.ptr H.nx 0),(2,.ptr (H.nx+1) 0),(3,.ptr (H.nx+1+1) 0)]) (fun _=>HB.push (.cells (q63 S (.slice .nil 1 [])))) (fun _=>True)
   ·intro J
    refine re S.states dY (·.id) 5 47 48 49 (q62 S) (q63 S (.slice .nil 1 [])) [(1,.ptr H.nx 0)] h3 iF (fun _=>⟨_,rfl,rfl,rfl⟩) fun ts av idf sz a b c XO XN pf e1 e2 e3 e4 e5 e6 e7 e8 e9 e10 hle hlt hag hXO hXN=>?_
    exact V0
   ·intro _ _
    dsimp only
    rw[← hHB]
    refine T10 ?_
    apply lf (α:=Unit) (fun _=>[(1,.ptr H.nx 0),(2,.ptr (H.nx+1) 0),(3,.ptr (H.nx+1+1) 0)]) (fun _=>HB.push (.cells (q64 S (.slice .nil 1 [])))) (fun _=>True)
    ·intro J
     refine re S.actions bu (·.id) 5 62 63 64 (q63 S) (q64 S (.slice .nil 1 [])) [(1,.ptr H.nx 0)] h4 kh (fun _=>⟨_,rfl,rfl,rfl⟩) fun ts av idf sz a b c XO XN pf e1 e2 e3 e4 e5 e6 e7 e8 e9 e10 hle hlt hag hXO hXN=>?_
     exact V0
    ·intro _ _
     dsimp only
     rw[← hHB]
     refine T10 ?_
     apply lf (α:=Unit) (fun _=>[(1,.ptr H.nx 0),(2,.ptr (H.nx+1) 0),(3,.ptr (H.nx+1+1) 0)]) (fun _=>HB.push (.cells (q65 S (.slice .nil 1 [])))) (fun _=>True)
     ·intro J
      refine re S.tables bc (·.id) 8 77 78 79 (q64 S) (q65 S (.slice .nil 1 [])) [(1,.ptr H.nx 0)] h5 dM (fun _=>⟨_,rfl,rfl,rfl⟩) fun ts av idf sz a b c XO XN pf e1 e2 e3 e4 e5 e6 e7 e8 e9 e10 hle hlt hag hXO hXN=>?_
      exact V0
     ·intro _ _
      dsimp only
      rw[← hHB]
      refine T10 ?_
      apply lf (α:=Unit) (fun _=>[(2,.ptr (H.nx+1) 0),(3,.ptr (H.nx+1+1) 0)]) (fun _=>HB.push (.cells (q66 S (.slice .nil 1 [])))) (fun _=>True)
      ·intro J
       refine re S.roles cG (·.id) 6 92 93 94 (q65 S) (q66 S (.slice .nil 1 [])) [] h6 sU (fun _=>⟨_,rfl,rfl,rfl⟩) fun ts av idf sz a b c XO XN pf e1 e2 e3 e4 e5 e6 e7 e8 e9 e10 hle hlt hag hXO hXN=>?_
       exact V0
      ·intro _ _
       dsimp only
       rw[← hHB]
       refine T10 ?_
       simp only[bn,aF,bhq,go_sem,bb,sI]
       simp (disch:=first|exact Zd|omega) [↓zmo,beq,ybc,ybd,ybe,af,wk,wk2,wk1,wkM,wkL,aj,ybf,hcl,Ah,sI,nq]
       try exact V9
def oa:PCt
 |[.slice _ 1 l,.int .i64 n],_,K=>∃ xs:List Int,(l=inL xs∧xs.length≤1000000)∧K (.int .i64 (ixP (fun x=>x==n) xs 0))
 |_,_,_=>False
theorem qM:EPp 61 oa:=by
 refine Ype fun _ H K h=>?_
 unfold oa at h
 split at h<;>try exact h.elim
 rename_i m l n
 obtain⟨xs,⟨rfl,hl⟩,hK⟩:=h
 refine⟨_,hK,?_⟩
 clear hK
 generalize hR:ixP (fun x:Int=>x==n) xs 0=R
 refine Yfv az tNq Tryz.func61 [.tmp 4] fun hcl hlt=>?_
 have hm:AV.lt H.nx (.slice m 1 (inL xs)):=hlt _ Xb
 clear hlt
 simp only[go_sem,Bs]
 refine aA (A:=Nat) (fun k=>[(1,.int .i64 n),(7,.slice m 1 (inL xs)),(8,.int .i64 (xs.length:Int)),(9,.int .i64 (k:Int))]) (fun _=>H) (fun k=>k≤xs.length∧ixP (fun x:Int=>x==n) (xs.drop k) k=R) (fun k=>xs.length-k) 0 ⟨Xa,hR⟩ ?_ fun k hk=>?_
 ·refine⟨nrq _,lRq _,hcl,?_,?_⟩
  ·simp[ltF,znf,hm]
  ·exact V8
 clear hR
 obtain⟨hk,hR⟩:=hk
 refine T9 ?_
 refine aq (fun hc=>?_) (fun hc=>?_)
 ·have hk':k<xs.length:=sHc
  obtain⟨x,hx⟩:∃ x,x=xs[k]:=⟨_,rfl⟩
  have hd:xs.drop k=x::xs.drop (k+1):=by rw[hx];exact dcq hk'
  have hg:=bf (f:=AV.int .i64) (l:=xs) (k:=k) (x:=x) (by rw[gQq hk',hx])
  have e5:=Yk5 k
  rw[hd]at hR
  unfold ixP at hR
  simp only[go_sem,iNq,inL,hg,ybb]
  refine T0 ?_
  refine aq (fun hq=>?_) (fun hq=>?_)
  ·rw[if_pos hq]at hR
   subst hR
   exact V33
  ·rw[if_neg (by rw[hq];decide)]at hR
   refine T37 ?_
   unfold inL at hm
   refine⟨k+1,⟨Xa,hR⟩,Xa,nrq _,lRq _,hcl,?_,?_⟩
   ·simp[ltF,znf,hm]
   ·exact V8
 ·have hk':k=xs.length:=sHc
  exact V22
def kF:PCt
 |[.agg l,.int .i64 n],_,K=>∃ S:Sch,(l=bb S∧SLen S)∧K (.int .i64 (ixP (fun t:STable=>t.id==n) S.tables 0))
 |_,_,_=>False
theorem mJ:EPp 50 kF:=by
 refine Ype fun _ H K h=>?_
 unfold kF at h
 split at h<;>try exact h.elim
 rename_i l n
 obtain⟨S,⟨rfl,hS⟩,hK⟩:=h
 refine⟨_,hK,?_⟩
 clear hK
 refine Yfu az (tCq wJ (tCq qM tNq)) Tryz.func50 [.tmp 4] fun hcl=>?_
 simp only[go_sem,bb,uL]
 refine T0 ?_
 refine⟨S,⟨rfl,hS⟩,?_⟩
 try simp only[aF,go_sem,Ah,sI,oa]
 refine T0 ?_
 refine⟨_,⟨rfl,by have h1:=hS.fl;have h2:=hS.tl;simpa using(by assumption)⟩,?_⟩
 rw[ub]
 refine T28 ?_
 exact V3
def mh:PCt
 |[.agg l,.int .i64 n],_,K=>∃ S:Sch,(l=bb S∧SLen S)∧K (.int .i64 (ixP (fun t:SField=>t.id==n) S.fields 0))
 |_,_,_=>False
theorem qj:EPp 160 mh:=by
 refine Ype fun _ H K h=>?_
 unfold mh at h
 split at h<;>try exact h.elim
 rename_i l n
 obtain⟨S,⟨rfl,hS⟩,hK⟩:=h
 refine⟨_,hK,?_⟩
 clear hK
 refine Yfu az (tCq wJ (tCq qM tNq)) Tryz.func160 [.tmp 4] fun hcl=>?_
 simp only[go_sem,bb,uL]
 refine T0 ?_
 refine⟨S,⟨rfl,hS⟩,?_⟩
 try simp only[aF,go_sem,Ah,sI,oa]
 refine T0 ?_
 refine⟨_,⟨rfl,by have h1:=hS.fl;have h2:=hS.tl;simpa using(by assumption)⟩,?_⟩
 rw[ub]
 refine T28 ?_
 exact V3
end Go.AL
