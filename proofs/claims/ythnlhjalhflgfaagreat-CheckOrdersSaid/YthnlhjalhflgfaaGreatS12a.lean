/- Lemmas of the proof; no condition. -/
import Derived.Test.YthnlhjalhflgfaaGreatS10j
set_option linter.all false
set_option maxRecDepth 10000
open Go Go.AL Go.Proofs
namespace Go.AL
structure MOk (m:SMatch):Prop where
 v:m.value<2^128
 k:m.mask<2^128
 h:m.high<2^128
theorem ph {x:Nat} (h:x<2^128):isV ((x/2^64:Nat):Int) ((x % 2^64:Nat):Int)=True:=eq_true (by unfold isV;omega)
structure EOk (e:SEntry):Prop where
 ml:e.ms.length≤140737488355328
 al:e.args.length≤140737488355328
 mo:∀ m∈e.ms,MOk m
theorem LV:ti Tryz.prog 236=some ⟨.array 6 23,6,144,.agg [.slice .nil 1 [],.slice .nil 1 [],.slice .nil 1 [],.slice .nil 1 [],.slice .nil 1 [],.slice .nil 1 []]⟩:=krf
attribute [go_sem] LV
theorem ib {l:List Int}:(inL l).length=l.length:=by simp [inL]
def sI (l:List Int):AV:=.slice .any 1 (inL l)
theorem PG {n:Nat} {l:List Int}:AV.lt n (sI l):=fD
theorem JY:∀ l:List Int,s5 (inL l) (inL l)
 |[]=>by simp [inL,eM]
 |x::l=>by
  have:=JY l
  unfold inL at this ⊢
  simp [iE,AV.cells,dO,eI,lX,this]
theorem kP {m:Mark} {l:List Int}:wkD (.slice m 1 (inL l)) (sI l):=by
 unfold sI
 rw [dN]
 exact .inl ⟨.inl rfl,rfl,JY l⟩
theorem pT {n:Nat} {l:List Int}:ltL n (inL l):=ltL_iff.2 fun j hj=>by
 simp [inL,znf]
theorem kY {H:AHeap} {c cs:List AV} {x y z:AObj} (h:((((H.push (.cells c)).push x).push y).push z).Closed) (hl:ltL (H.nx+1+1+1+1) cs):((((H.push (.cells cs)).push x).push y).push z).Closed:=by
 have h1:((((H.push (.cells c)).push x).push y).push z).set H.nx (.cells cs)=(((H.push (.cells cs)).push x).push y).push z:=by
  simp only [zli,zle]
  rw [if_neg (by omega),if_neg (by omega),if_neg (by omega),if_pos trivial]
 rw [← h1]
 exact bG h (by simpa only [zle] using hl)
structure SLen (S:Sch):Prop where
 fl:S.fields.length≤1000000
 hl:S.headers.length≤1000000
 sl:S.states.length≤1000000
 al:S.actions.length≤1000000
 tl:S.tables.length≤1000000
 rl:S.roles.length≤1000000
def dd (S:Sch):AV:=.agg [sI (S.fields.map (·.id)),sI (S.headers.map (·.id)),sI (S.states.map (·.id)),sI (S.actions.map (·.id)),sI (S.tables.map (·.id)),sI (S.roles.map (·.id))]
abbrev q60 (S:Sch) (o:AV):List AV:=[o,.slice .nil 1 [],.slice .nil 1 [],.slice .nil 1 [],.slice .nil 1 [],.slice .nil 1 []]
abbrev q61 (S:Sch) (o:AV):List AV:=[sI (S.fields.map (·.id)),o,.slice .nil 1 [],.slice .nil 1 [],.slice .nil 1 [],.slice .nil 1 []]
abbrev q62 (S:Sch) (o:AV):List AV:=[sI (S.fields.map (·.id)),sI (S.headers.map (·.id)),o,.slice .nil 1 [],.slice .nil 1 [],.slice .nil 1 []]
abbrev q63 (S:Sch) (o:AV):List AV:=[sI (S.fields.map (·.id)),sI (S.headers.map (·.id)),sI (S.states.map (·.id)),o,.slice .nil 1 [],.slice .nil 1 []]
abbrev q64 (S:Sch) (o:AV):List AV:=[sI (S.fields.map (·.id)),sI (S.headers.map (·.id)),sI (S.states.map (·.id)),sI (S.actions.map (·.id)),o,.slice .nil 1 []]
abbrev q65 (S:Sch) (o:AV):List AV:=[sI (S.fields.map (·.id)),sI (S.headers.map (·.id)),sI (S.states.map (·.id)),sI (S.actions.map (·.id)),sI (S.tables.map (·.id)),o]
abbrev q66 (S:Sch) (o:AV):List AV:=[sI (S.fields.map (·.id)),sI (S.headers.map (·.id)),sI (S.states.map (·.id)),sI (S.actions.map (·.id)),sI (S.tables.map (·.id)),sI (S.roles.map (·.id))]
theorem lc {zs cs:List AV} (h:zs.length=cs.length):splice zs 0 cs=cs:=by
 rw [lq zs cs 0 (by omega),yar,yak,ybf (by omega),yaj]
def hdC {α:Type} (av:α→AV):List α→List AV
 |x::_=>(av x).cells
 |[]=>[]
theorem sA {α:Type} {av:α→AV} (h:∀ (n:Nat) (x:α),(av x).lt n):∀ (l:List α) (m:Nat),ltL m (hdC av l)
 |x::_,m=>ltL_iff.2 fun j hj=>AV.lt_cells (h m x) j hj
 |[],m=>by unfold hdC;rw [znv];trivial
theorem rM {α:Type} {av:α→AV}:∀ {l:List α} (h:0<l.length),hdC av l=(av l[0]).cells
 |_::_,_=>rfl
theorem pN {α:Type} {p:Prop} (ts:List α) (av:α→AV) (idf:α→Int) (sz a b c:Nat) (XO:AV→List AV) (XN:List AV) (pf:Fr) (hle:ts.length≤1000000) (hlt:∀ {n:Nat} (x:α),(av x).lt n) (hag:∀ x,∃ cs,av x=.agg (.int .i64 (idf x)::cs)∧cs.length+1=sz∧cM cs=true)
 (h:∀ (ts':List α) (av':α→AV) (idf':α→Int) (sz' a' b' c':Nat) (XO':AV→List AV) (XN':List AV) (pf':Fr),ts'=ts→av'=av→idf'=idf→sz'=sz→a'=a→b'=b→c'=c→XO'=XO→XN'=XN→pf'=pf→ts'.length≤1000000→(∀ (n:Nat) (x:α),(av' x).lt n)→(∀ x,∃ cs,av' x=.agg (.int .i64 (idf' x)::cs)∧cs.length+1=sz'∧cM cs=true)→(∀ n v,AV.lt n v→ltL n (XO' v))→(∀ n,ltL n XN')→p)
 (hXO:∀ n v,AV.lt n v→ltL n (XO v):=by intro n v h;simp [znu,znv,cC,PG,h]) (hXN:∀ n,ltL n XN:=by intro n;simp [znu,znv,cC,PG]):p :=
 h _ _ _ _ _ _ _ _ _ _ rfl rfl rfl rfl rfl rfl rfl rfl rfl rfl hle (fun _ x=>hlt x) hag hXO hXN
def cm:PCt
 |[.agg l],_,K=>∃ S:Sch,(l=aR S∧SLen S)∧K (dd S)
 |_,_,_=>False
set_option maxHeartbeats 8000000 in
theorem nA:EPp 173 cm:=by
 refine Ype fun _ H K h=>?_
 unfold cm at h
 split at h<;>try exact h.elim
 rename_i l
 obtain ⟨S,⟨rfl,h1,h2,h3,h4,h5,h6⟩,hK⟩:=h
 refine ⟨_,hK,?_⟩
 clear hK
 refine Yfw aE tNq Tryz.func173 [.cell 2 236] (nrq _) (T:=aB [(7,[[1,1]]),(12,[[1,1]]),(17,[[1,1]]),(22,[[1,1]]),(27,[[1,1]]),(32,[[1,1]])]) (h:=fun hcl=>?_)
 have nl:([.slice .nil 1 [],.slice .nil 1 [],.slice .nil 1 [],.slice .nil 1 [],.slice .nil 1 [],.slice .nil 1 []]:List AV).length=6:=rfl
 obtain ⟨HB,hHB⟩:∃ HB,(H.push (.cells (aR S))).push (.cells [.slice .nil 1 [],.slice .nil 1 [],.slice .nil 1 [],.slice .nil 1 [],.slice .nil 1 [],.slice .nil 1 []])=HB:=⟨_,rfl⟩
 have hclB:HB.Closed:=by
  rw [← hHB]
  refine ah (ah hcl (ltL_iff.2 fun j hj=>AV.lt_cells (sF S) j hj)) ?_
  simp [znu,znv,cC]
 have hnB:HB.nx=H.nx+1+1:=by rw [← hHB];rfl
 simp only [go_sem,aR]
 apply iG (α:=Unit) (fun _=>[(1,.ptr H.nx 0),(2,.ptr (H.nx+1) 0),(3,.ptr (H.nx+1+1) 0)]) (fun _=>HB.push (.cells (q61 S (.slice .nil 1 [])))) (fun _=>True)
 ·intro J
  refine pN S.fields aG (·.id) 3 17 18 19 (q60 S) (q61 S (.slice .nil 1 [])) [(1,.ptr H.nx 0)] h1 gD (fun _=>⟨_,rfl,rfl,rfl⟩) fun ts av idf sz a b c XO XN pf e1 e2 e3 e4 e5 e6 e7 e8 e9 e10 hle hlt hag hXO hXN=>?_
  exact Y1
 ·intro _ _
  dsimp only
  rw [← hHB]
  refine Tq16 ?_
  apply iG (α:=Unit) (fun _=>[(1,.ptr H.nx 0),(2,.ptr (H.nx+1) 0),(3,.ptr (H.nx+1+1) 0)]) (fun _=>HB.push (.cells (q62 S (.slice .nil 1 [])))) (fun _=>True)
  ·intro J
   refine pN S.headers az (·.id) 3 32 33 34 (q61 S) (q62 S (.slice .nil 1 [])) [(1,.ptr H.nx 0)] h2 fA (fun _=>⟨_,rfl,rfl,rfl⟩) fun ts av idf sz a b c XO XN pf e1 e2 e3 e4 e5 e6 e7 e8 e9 e10 hle hlt hag hXO hXN=>?_
   exact Y1
  ·intro _ _
   dsimp only
   rw [← hHB]
   refine Tq16 ?_
   apply iG (α:=Unit) (fun _=>[(1,.ptr H.nx 0),(2,.ptr (H.nx+1) 0),(3,.ptr (H.nx+1+1) 0)]) (fun _=>HB.push (.cells (q63 S (.slice .nil 1 [])))) (fun _=>True)
   ·intro J
    refine pN S.states aA (·.id) 5 47 48 49 (q62 S) (q63 S (.slice .nil 1 [])) [(1,.ptr H.nx 0)] h3 ey (fun _=>⟨_,rfl,rfl,rfl⟩) fun ts av idf sz a b c XO XN pf e1 e2 e3 e4 e5 e6 e7 e8 e9 e10 hle hlt hag hXO hXN=>?_
    exact Y1
   ·intro _ _
    dsimp only
    rw [← hHB]
    refine Tq16 ?_
    apply iG (α:=Unit) (fun _=>[(1,.ptr H.nx 0),(2,.ptr (H.nx+1) 0),(3,.ptr (H.nx+1+1) 0)]) (fun _=>HB.push (.cells (q64 S (.slice .nil 1 [])))) (fun _=>True)
    ·intro J
     refine pN S.actions ap (·.id) 5 62 63 64 (q63 S) (q64 S (.slice .nil 1 [])) [(1,.ptr H.nx 0)] h4 eP (fun _=>⟨_,rfl,rfl,rfl⟩) fun ts av idf sz a b c XO XN pf e1 e2 e3 e4 e5 e6 e7 e8 e9 e10 hle hlt hag hXO hXN=>?_
     exact Y1
    ·intro _ _
     dsimp only
     rw [← hHB]
     refine Tq16 ?_
     apply iG (α:=Unit) (fun _=>[(1,.ptr H.nx 0),(2,.ptr (H.nx+1) 0),(3,.ptr (H.nx+1+1) 0)]) (fun _=>HB.push (.cells (q65 S (.slice .nil 1 [])))) (fun _=>True)
     ·intro J
      refine pN S.tables ax (·.id) 8 77 78 79 (q64 S) (q65 S (.slice .nil 1 [])) [(1,.ptr H.nx 0)] h5 cS (fun _=>⟨_,rfl,rfl,rfl⟩) fun ts av idf sz a b c XO XN pf e1 e2 e3 e4 e5 e6 e7 e8 e9 e10 hle hlt hag hXO hXN=>?_
      exact Y1
     ·intro _ _
      dsimp only
      rw [← hHB]
      refine Tq16 ?_
      apply iG (α:=Unit) (fun _=>[(2,.ptr (H.nx+1) 0),(3,.ptr (H.nx+1+1) 0)]) (fun _=>HB.push (.cells (q66 S (.slice .nil 1 [])))) (fun _=>True)
      ·intro J
       refine pN S.roles aN (·.id) 6 92 93 94 (q65 S) (q66 S (.slice .nil 1 [])) [] h6 gM (fun _=>⟨_,rfl,rfl,rfl⟩) fun ts av idf sz a b c XO XN pf e1 e2 e3 e4 e5 e6 e7 e8 e9 e10 hle hlt hag hXO hXN=>?_
       exact Y1
      ·intro _ _
       dsimp only
       rw [← hHB]
       refine Tq16 ?_
       simp only [bm,aD,bhq,Nat.reduceMod,Nat.reduceDiv,aW,aX,aZ,bx,aY,bw,bo,bp,bv,yaq,yar,yao,yap,go_sem,aR,sI]
       simp (disch:=first|exact Zd|omega) [↓zmo,beq,ybc,ybd,ybe,ag,wk,wk2,wk1,wkM,wkL,ay,ybf,hcl,dd,sI,fD]
       first|done|repeat first|exact .refl _|refine .push ?_ _
def bD:PCt
 |[.slice _ 1 l,.int .i64 n],_,K=>∃ xs:List Int,(l=inL xs∧xs.length≤1000000)∧K (.int .i64 (ixP (fun x=>x==n) xs 0))
 |_,_,_=>False
theorem je:EPp 54 bD:=by
 refine Ype fun _ H K h=>?_
 unfold bD at h
 split at h<;>try exact h.elim
 rename_i m l n
 obtain ⟨xs,⟨rfl,hl⟩,hK⟩:=h
 refine ⟨_,hK,?_⟩
 clear hK
 generalize hR:ixP (fun x:Int=>x==n) xs 0=R
 refine Yfv aE tNq Tryz.func54 [.tmp 4] fun hcl hlt=>?_
 have hm:AV.lt H.nx (.slice m 1 (inL xs)):=hlt _ (by simp)
 clear hlt
 simp only [go_sem,ib]
 refine aC (A:=Nat) (fun k=>[(1,.int .i64 n),(7,.slice m 1 (inL xs)),(8,.int .i64 (xs.length:Int)),(9,.int .i64 (k:Int))]) (fun _=>H) (fun k=>k≤xs.length∧ixP (fun x:Int=>x==n) (xs.drop k) k=R) (fun k=>xs.length - k) 0 ⟨by omega,hR⟩ ?_ fun k hk=>?_
 ·refine ⟨nrq _,lRq _,hcl,?_,?_⟩
  ·simp [ltF,znf,hm]
  ·exact Y13
 clear hR
 obtain ⟨hk,hR⟩:=hk
 refine Tq15 ?_
 refine au (fun hc=>?_) (fun hc=>?_)
 ·have hk':k<xs.length:=sHc
  obtain ⟨x,hx⟩:∃ x,x=xs[k]:=⟨_,rfl⟩
  have hd:xs.drop k=x::xs.drop (k+1):=by rw [hx];exact dcq hk'
  have hg:=aV (f:=AV.int .i64) (l:=xs) (k:=k) (x:=x) (by rw [gQq hk',hx])
  have e5:=Yk5 k
  rw [hd] at hR
  unfold ixP at hR
  simp only [go_sem,iNq,inL,hg,ybb]
  refine Tq3 ?_
  refine au (fun hq=>?_) (fun hq=>?_)
  ·rw [if_pos hq] at hR
   subst hR
   exact Y32
  ·rw [if_neg (by rw [hq];decide)] at hR
   simp only [go_sem,e5]
   unfold inL at hm
   refine ⟨k+1,⟨by omega,hR⟩,by omega,nrq _,lRq _,hcl,?_,?_⟩
   ·simp [ltF,znf,hm]
   ·exact Y13
 ·have hk':k=xs.length:=sHc
  exact Y21
def aP:PCt
 |[.agg l,.int .i64 n],_,K=>∃ S:Sch,(l=aR S∧SLen S)∧K (.int .i64 (ixP (fun t:STable=>t.id==n) S.tables 0))
 |_,_,_=>False
theorem jr:EPp 55 aP:=by
 refine Ype fun _ H K h=>?_
 unfold aP at h
 split at h<;>try exact h.elim
 rename_i l n
 obtain ⟨S,⟨rfl,hS⟩,hK⟩:=h
 refine ⟨_,hK,?_⟩
 clear hK
 refine Yfu aE (tCq nA (tCq je tNq)) Tryz.func55 [.tmp 4] fun hcl=>?_
 simp only [go_sem,aR,cm]
 refine Tq3 ?_
 refine ⟨S,⟨rfl,hS⟩,?_⟩
 try simp only [aD,go_sem,dd,sI,bD]
 refine Tq3 ?_
 refine ⟨_,⟨rfl,by have h1:=hS.fl;have h2:=hS.tl;simpa using (by assumption)⟩,?_⟩
 exact Y42
def aK:PCt
 |[.agg l,.int .i64 n],_,K=>∃ S:Sch,(l=aR S∧SLen S)∧K (.int .i64 (ixP (fun t:SField=>t.id==n) S.fields 0))
 |_,_,_=>False
theorem oL:EPp 177 aK:=by
 refine Ype fun _ H K h=>?_
 unfold aK at h
 split at h<;>try exact h.elim
 rename_i l n
 obtain ⟨S,⟨rfl,hS⟩,hK⟩:=h
 refine ⟨_,hK,?_⟩
 clear hK
 refine Yfu aE (tCq nA (tCq je tNq)) Tryz.func177 [.tmp 4] fun hcl=>?_
 simp only [go_sem,aR,cm]
 refine Tq3 ?_
 refine ⟨S,⟨rfl,hS⟩,?_⟩
 try simp only [aD,go_sem,dd,sI,bD]
 refine Tq3 ?_
 refine ⟨_,⟨rfl,by have h1:=hS.fl;have h2:=hS.tl;simpa using (by assumption)⟩,?_⟩
 exact Y42
theorem Mj:ti Tryz.prog 86=some ⟨.struct [(0,3,false),(1,9,false),(2,83,false),(3,84,false),(4,9,false)],5,88,.agg [.int .i64 0,.str [],.slice .nil 1 [],.slice .nil 1 [],.str []]⟩:=krf
theorem Jy:tSl Tryz.prog 28 86:=kSl
theorem MC:ti Tryz.prog 48=some ⟨.struct [(0,3,false),(1,9,false),(2,46,false),(3,23,false),(4,3,false),(5,4,false)],6,88,.agg [.int .i64 0,.str [],.slice .nil 1 [],.slice .nil 1 [],.int .i64 0,.bool false]⟩:=krf
theorem IM:tSl Tryz.prog 31 48:=kSl
theorem Mf:ti Tryz.prog 69=some ⟨.struct [(0,3,false),(1,9,false),(2,23,false)],3,48,.agg [.int .i64 0,.str [],.slice .nil 1 []]⟩:=krf
theorem G3:tSl Tryz.prog 26 69:=kSl
theorem Nz:ti Tryz.prog 81=some ⟨.struct [(0,3,false),(1,3,false),(2,3,false),(3,79,false),(4,3,false)],5,56,.agg [.int .i64 0,.int .i64 0,.int .i64 0,.slice .nil 1 [],.int .i64 0]⟩:=krf
theorem J4:tSl Tryz.prog 27 81:=kSl
attribute [go_sem] Mj Jy MC IM Mf G3 Nz J4
def AA:PCt
 |[x,.ptr c 0],H,K=>∃ t n,(x=ap t∧H.get c=some (.cells [.int .i64 n]))∧K (.bool (t.id==n))
 |_,_,_=>False
theorem MG:EPp 278 AA:=by
 refine Ype fun _ H K h=>?_
 unfold AA at h
 split at h<;>try exact h.elim
 rename_i x c
 obtain ⟨t,n,⟨rfl,hg⟩,hK⟩:=h
 refine ⟨_,hK,?_⟩
 clear hK
 unfold ap
 refine Yfv aE tNq Tryz.func278 [.tmp 3] fun hcl hlt=>?_
 exact Y44
def uv:PCt
 |[.slice _ 5 l,.func (.func 278) [] [.ptr c 0]],H,K=>∃ (ts:List SAction) (n:Int),(l=ts.map ap∧H.get c=some (.cells [.int .i64 n])∧ts.length≤1000000)∧K (.int .i64 (ixP (fun t:SAction=>t.id==n) ts 0))
 |_,_,_=>False
theorem Dn:EPp 277 uv:=by
 refine Ype fun _ H K h=>?_
 unfold uv at h
 split at h<;>try exact h.elim
 rename_i m l c
 obtain ⟨ts,n,⟨rfl,hg,hl⟩,hK⟩:=h
 refine ⟨_,hK,?_⟩
 clear hK
 generalize hR:ixP (fun t:SAction=>t.id==n) ts 0=R
 refine Yfv aE (tCq MG tNq) Tryz.func277 [.tmp 4] fun hcl hlt=>?_
 have hm:AV.lt H.nx (.slice m 5 (ts.map ap)):=hlt _ (by simp)
 have hf:AV.lt H.nx (.func (.func 278) [] [.ptr c 0]):=hlt _ (by simp)
 clear hlt
 simp only [go_sem,ybb]
 refine aC (A:=Nat) (fun k=>[(0,.slice m 5 (ts.map ap)),(1,.func (.func 278) [] [.ptr c 0]),(7,.int .i64 (ts.length:Int)),(8,.int .i64 (k:Int))]) (fun _=>H) (fun k=>k≤ts.length∧ixP (fun t:SAction=>t.id==n) (ts.drop k) k=R) (fun k=>ts.length - k) 0 ⟨by omega,hR⟩ ?_ fun k hk=>?_
 ·refine ⟨nrq _,lRq _,hcl,?_,?_⟩
  ·simp [ltF,znf,hm,hf]
  ·exact Y13
 clear hR
 obtain ⟨hk,hR⟩:=hk
 refine Tq15 ?_
 refine au (fun hc=>?_) (fun hc=>?_)
 ·have hk':k<ts.length:=sHc
  obtain ⟨x,hx⟩:∃ x,x=ts[k]:=⟨_,rfl⟩
  have hd:ts.drop k=x::ts.drop (k+1):=by rw [hx];exact dcq hk'
  have hg':=aV (f:=ap) (l:=ts) (k:=k) (x:=x) (by rw [gQq hk',hx])
  have e5:=Yk5 k
  have hcell:(ap x).cells.length=5:=rfl
  rw [hd] at hR
  unfold ixP at hR
  have hag:∃ cs,ap x=.agg cs∧cs.length=5:=⟨_,rfl,rfl⟩
  obtain ⟨cs,hcs,hcl3⟩:=hag
  have hts:List.take 5 cs=cs:=ybc (by omega)
  simp only [go_sem,iNq,ybb,hg',hcs,hcl3,hts,AA]
  refine Tq3 ?_
  refine ⟨x,n,⟨hcs.symm,hg⟩,?_⟩
  try simp only [aD,go_sem]
  refine Tq3 ?_
  refine au (fun hq=>?_) (fun hq=>?_)
  ·rw [if_pos hq] at hR
   subst hR
   exact Y32
  ·rw [if_neg (by rw [hq];decide)] at hR
   simp only [go_sem,e5]
   refine ⟨k+1,⟨by omega,hR⟩,by omega,nrq _,lRq _,hcl,?_,?_⟩
   ·simp [ltF,znf,hm,hf]
   ·exact Y13
 ·exact Y19
def ic:PCt
 |[.agg l,.int .i64 n],_,K=>∃ S:Sch,(l=aR S∧S.actions.length≤1000000)∧K (.int .i64 (ixP (fun t:SAction=>t.id==n) S.actions 0))
 |_,_,_=>False
theorem jz:EPp 158 ic:=by
 refine Ype fun _ H K h=>?_
 unfold ic at h
 split at h<;>try exact h.elim
 rename_i l n
 obtain ⟨S,⟨rfl,hl⟩,hK⟩:=h
 refine ⟨_,hK,?_⟩
 clear hK
 refine Yfu aE (tCq Dn tNq) Tryz.func158 [.tmp 4] fun hcl=>?_
 simp only [go_sem,aR,uv]
 refine Tq3 ?_
 refine ⟨S.actions,n,⟨rfl,by simp only [go_sem],hl⟩,?_⟩
 exact Y37
def aU:PCt
 |[.agg l,.int .i64 n],_,K=>∃ S:Sch,(l=aR S∧SLen S)∧K (.int .i64 (ixP (fun t:SAction=>t.id==n) S.actions 0))
 |_,_,_=>False
theorem kv:EPp 180 aU:=by
 refine Ype fun _ H K h=>?_
 unfold aU at h
 split at h<;>try exact h.elim
 rename_i l n
 obtain ⟨S,⟨rfl,hS⟩,hK⟩:=h
 refine ⟨_,hK,?_⟩
 clear hK
 refine Yfu aE (tCq nA (tCq je tNq)) Tryz.func180 [.tmp 4] fun hcl=>?_
 simp only [go_sem,aR,cm]
 refine Tq3 ?_
 refine ⟨S,⟨rfl,hS⟩,?_⟩
 try simp only [aD,go_sem,dd,sI,bD]
 refine Tq3 ?_
 refine ⟨_,⟨rfl,by have h1:=hS.al;simpa using h1⟩,?_⟩
 exact Y42
def Bb:PCt
 |[x,.ptr c 0],H,K=>∃ t n,(x=az t∧H.get c=some (.cells [.int .i64 n]))∧K (.bool (t.id==n))
 |_,_,_=>False
theorem Od:EPp 329 Bb:=by
 refine Ype fun _ H K h=>?_
 unfold Bb at h
 split at h<;>try exact h.elim
 rename_i x c
 obtain ⟨t,n,⟨rfl,hg⟩,hK⟩:=h
 refine ⟨_,hK,?_⟩
 clear hK
 unfold az
 refine Yfv aE tNq Tryz.func329 [.tmp 3] fun hcl hlt=>?_
 exact Y44
def vg:PCt
 |[.slice _ 3 l,.func (.func 329) [] [.ptr c 0]],H,K=>∃ (ts:List SHeader) (n:Int),(l=ts.map az∧H.get c=some (.cells [.int .i64 n])∧ts.length≤1000000)∧K (.int .i64 (ixP (fun t:SHeader=>t.id==n) ts 0))
 |_,_,_=>False
theorem Ej:EPp 319 vg:=by
 refine Ype fun _ H K h=>?_
 unfold vg at h
 split at h<;>try exact h.elim
 rename_i m l c
 obtain ⟨ts,n,⟨rfl,hg,hl⟩,hK⟩:=h
 refine ⟨_,hK,?_⟩
 clear hK
 generalize hR:ixP (fun t:SHeader=>t.id==n) ts 0=R
 refine Yfv aE (tCq Od tNq) Tryz.func319 [.tmp 4] fun hcl hlt=>?_
 have hm:AV.lt H.nx (.slice m 3 (ts.map az)):=hlt _ (by simp)
 have hf:AV.lt H.nx (.func (.func 329) [] [.ptr c 0]):=hlt _ (by simp)
 clear hlt
 simp only [go_sem,ybb]
 refine aC (A:=Nat) (fun k=>[(0,.slice m 3 (ts.map az)),(1,.func (.func 329) [] [.ptr c 0]),(7,.int .i64 (ts.length:Int)),(8,.int .i64 (k:Int))]) (fun _=>H) (fun k=>k≤ts.length∧ixP (fun t:SHeader=>t.id==n) (ts.drop k) k=R) (fun k=>ts.length - k) 0 ⟨by omega,hR⟩ ?_ fun k hk=>?_
 ·refine ⟨nrq _,lRq _,hcl,?_,?_⟩
  ·simp [ltF,znf,hm,hf]
  ·exact Y13
 clear hR
 obtain ⟨hk,hR⟩:=hk
 refine Tq15 ?_
 refine au (fun hc=>?_) (fun hc=>?_)
 ·have hk':k<ts.length:=sHc
  obtain ⟨x,hx⟩:∃ x,x=ts[k]:=⟨_,rfl⟩
  have hd:ts.drop k=x::ts.drop (k+1):=by rw [hx];exact dcq hk'
  have hg':=aV (f:=az) (l:=ts) (k:=k) (x:=x) (by rw [gQq hk',hx])
  have e5:=Yk5 k
  have hcell:(az x).cells.length=3:=rfl
  rw [hd] at hR
  unfold ixP at hR
  have hag:∃ cs,az x=.agg cs∧cs.length=3:=⟨_,rfl,rfl⟩
  obtain ⟨cs,hcs,hcl3⟩:=hag
  have hts:List.take 3 cs=cs:=ybc (by omega)
  simp only [go_sem,iNq,ybb,hg',hcs,hcl3,hts,Bb]
  refine Tq3 ?_
  refine ⟨x,n,⟨hcs.symm,hg⟩,?_⟩
  try simp only [aD,go_sem]
  refine Tq3 ?_
  refine au (fun hq=>?_) (fun hq=>?_)
  ·rw [if_pos hq] at hR
   subst hR
   exact Y32
  ·rw [if_neg (by rw [hq];decide)] at hR
   simp only [go_sem,e5]
   refine ⟨k+1,⟨by omega,hR⟩,by omega,nrq _,lRq _,hcl,?_,?_⟩
   ·simp [ltF,znf,hm,hf]
   ·exact Y13
 ·exact Y19
def pj:PCt
 |[.agg l,.int .i64 n],_,K=>∃ S:Sch,(l=aR S∧S.headers.length≤1000000)∧K (.int .i64 (ixP (fun t:SHeader=>t.id==n) S.headers 0))
 |_,_,_=>False
theorem xS:EPp 270 pj:=by
 refine Ype fun _ H K h=>?_
 unfold pj at h
 split at h<;>try exact h.elim
 rename_i l n
 obtain ⟨S,⟨rfl,hl⟩,hK⟩:=h
 refine ⟨_,hK,?_⟩
 clear hK
 refine Yfu aE (tCq Ej tNq) Tryz.func270 [.tmp 4] fun hcl=>?_
 simp only [go_sem,aR,vg]
 refine Tq3 ?_
 refine ⟨S.headers,n,⟨rfl,by simp only [go_sem],hl⟩,?_⟩
 exact Y37
def aF:PCt
 |[.agg l,.int .i64 n],_,K=>∃ S:Sch,(l=aR S∧SLen S)∧K (.int .i64 (ixP (fun t:SHeader=>t.id==n) S.headers 0))
 |_,_,_=>False
theorem ra:EPp 178 aF:=by
 refine Ype fun _ H K h=>?_
 unfold aF at h
 split at h<;>try exact h.elim
 rename_i l n
 obtain ⟨S,⟨rfl,hS⟩,hK⟩:=h
 refine ⟨_,hK,?_⟩
 clear hK
 refine Yfu aE (tCq nA (tCq je tNq)) Tryz.func178 [.tmp 4] fun hcl=>?_
 simp only [go_sem,aR,cm]
 refine Tq3 ?_
 refine ⟨S,⟨rfl,hS⟩,?_⟩
 try simp only [aD,go_sem,dd,sI,bD]
 refine Tq3 ?_
 refine ⟨_,⟨rfl,by have h1:=hS.hl;simpa using h1⟩,?_⟩
 exact Y42
def AK:PCt
 |[x,.ptr c 0],H,K=>∃ t n,(x=aA t∧H.get c=some (.cells [.int .i64 n]))∧K (.bool (t.id==n))
 |_,_,_=>False
theorem M1:EPp 342 AK:=by
 refine Ype fun _ H K h=>?_
 unfold AK at h
 split at h<;>try exact h.elim
 rename_i x c
 obtain ⟨t,n,⟨rfl,hg⟩,hK⟩:=h
 refine ⟨_,hK,?_⟩
 clear hK
 unfold aA
 refine Yfv aE tNq Tryz.func342 [.tmp 3] fun hcl hlt=>?_
 exact Y44
def vf:PCt
 |[.slice _ 5 l,.func (.func 342) [] [.ptr c 0]],H,K=>∃ (ts:List SState) (n:Int),(l=ts.map aA∧H.get c=some (.cells [.int .i64 n])∧ts.length≤1000000)∧K (.int .i64 (ixP (fun t:SState=>t.id==n) ts 0))
 |_,_,_=>False
theorem ER:EPp 323 vf:=by
 refine Ype fun _ H K h=>?_
 unfold vf at h
 split at h<;>try exact h.elim
 rename_i m l c
 obtain ⟨ts,n,⟨rfl,hg,hl⟩,hK⟩:=h
 refine ⟨_,hK,?_⟩
 clear hK
 generalize hR:ixP (fun t:SState=>t.id==n) ts 0=R
 refine Yfv aE (tCq M1 tNq) Tryz.func323 [.tmp 4] fun hcl hlt=>?_
 have hm:AV.lt H.nx (.slice m 5 (ts.map aA)):=hlt _ (by simp)
 have hf:AV.lt H.nx (.func (.func 342) [] [.ptr c 0]):=hlt _ (by simp)
 clear hlt
 simp only [go_sem,ybb]
 refine aC (A:=Nat) (fun k=>[(0,.slice m 5 (ts.map aA)),(1,.func (.func 342) [] [.ptr c 0]),(7,.int .i64 (ts.length:Int)),(8,.int .i64 (k:Int))]) (fun _=>H) (fun k=>k≤ts.length∧ixP (fun t:SState=>t.id==n) (ts.drop k) k=R) (fun k=>ts.length - k) 0 ⟨by omega,hR⟩ ?_ fun k hk=>?_
 ·refine ⟨nrq _,lRq _,hcl,?_,?_⟩
  ·simp [ltF,znf,hm,hf]
  ·exact Y13
 clear hR
 obtain ⟨hk,hR⟩:=hk
 refine Tq15 ?_
 refine au (fun hc=>?_) (fun hc=>?_)
 ·have hk':k<ts.length:=sHc
  obtain ⟨x,hx⟩:∃ x,x=ts[k]:=⟨_,rfl⟩
  have hd:ts.drop k=x::ts.drop (k+1):=by rw [hx];exact dcq hk'
  have hg':=aV (f:=aA) (l:=ts) (k:=k) (x:=x) (by rw [gQq hk',hx])
  have e5:=Yk5 k
  have hcell:(aA x).cells.length=5:=rfl
  rw [hd] at hR
  unfold ixP at hR
  have hag:∃ cs,aA x=.agg cs∧cs.length=5:=⟨_,rfl,rfl⟩
  obtain ⟨cs,hcs,hcl3⟩:=hag
  have hts:List.take 5 cs=cs:=ybc (by omega)
  simp only [go_sem,iNq,ybb,hg',hcs,hcl3,hts,AK]
  refine Tq3 ?_
  refine ⟨x,n,⟨hcs.symm,hg⟩,?_⟩
  try simp only [aD,go_sem]
  refine Tq3 ?_
  refine au (fun hq=>?_) (fun hq=>?_)
  ·rw [if_pos hq] at hR
   subst hR
   exact Y32
  ·rw [if_neg (by rw [hq];decide)] at hR
   simp only [go_sem,e5]
   refine ⟨k+1,⟨by omega,hR⟩,by omega,nrq _,lRq _,hcl,?_,?_⟩
   ·simp [ltF,znf,hm,hf]
   ·exact Y13
 ·exact Y19
def mm:PCt
 |[.agg l,.int .i64 n],_,K=>∃ S:Sch,(l=aR S∧S.states.length≤1000000)∧K (.int .i64 (ixP (fun t:SState=>t.id==n) S.states 0))
 |_,_,_=>False
theorem yO:EPp 327 mm:=by
 refine Ype fun _ H K h=>?_
 unfold mm at h
 split at h<;>try exact h.elim
 rename_i l n
 obtain ⟨S,⟨rfl,hl⟩,hK⟩:=h
 refine ⟨_,hK,?_⟩
 clear hK
 refine Yfu aE (tCq ER tNq) Tryz.func327 [.tmp 4] fun hcl=>?_
 simp only [go_sem,aR,vf]
 refine Tq3 ?_
 refine ⟨S.states,n,⟨rfl,by simp only [go_sem],hl⟩,?_⟩
 exact Y37
def mf:PCt
 |[.agg l,.int .i64 n],_,K=>∃ S:Sch,(l=aR S∧SLen S)∧K (.int .i64 (ixP (fun t:SState=>t.id==n) S.states 0))
 |_,_,_=>False
theorem z7:EPp 284 mf:=by
 refine Ype fun _ H K h=>?_
 unfold mf at h
 split at h<;>try exact h.elim
 rename_i l n
 obtain ⟨S,⟨rfl,hS⟩,hK⟩:=h
 refine ⟨_,hK,?_⟩
 clear hK
 refine Yfu aE (tCq nA (tCq je tNq)) Tryz.func284 [.tmp 4] fun hcl=>?_
 simp only [go_sem,aR,cm]
 refine Tq3 ?_
 refine ⟨S,⟨rfl,hS⟩,?_⟩
 try simp only [aD,go_sem,dd,sI,bD]
 refine Tq3 ?_
 refine ⟨_,⟨rfl,by have h1:=hS.sl;simpa using h1⟩,?_⟩
 exact Y42
end Go.AL
