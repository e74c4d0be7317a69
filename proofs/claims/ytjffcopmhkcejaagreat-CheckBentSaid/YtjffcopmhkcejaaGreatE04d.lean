/- Lemmas of the proof; no condition. -/
import Derived.Test.YtjffcopmhkcejaaGreatS12a
set_option linter.all false
set_option maxRecDepth 10000
set_option maxHeartbeats 32000000
open Go Go.AL Go.Proofs
namespace Go.AL
theorem NG:ti Tryz.prog 50=some ⟨.struct [(0,3,false),(1,9,false),(2,3,false)],3,32,.agg [.int .i64 0,.str [],.int .i64 0]⟩:=krf
def HY:tSl Tryz.prog 25 50:=kSl
def Jj:tFn Tryz.prog 164:=kFn
theorem Om:ti Tryz.prog 52=some ⟨.struct [(0,3,false),(1,9,false),(2,23,false)],3,48,.agg [.int .i64 0,.str [],.slice .nil 1 []]⟩:=krf
def Mi:tSl Tryz.prog 26 52:=kSl
def K5:tFn Tryz.prog 166:=kFn
theorem Np:ti Tryz.prog 69=some ⟨.struct [(0,3,false),(1,3,false),(2,3,false),(3,67,false),(4,3,false)],5,56,.agg [.int .i64 0,.int .i64 0,.int .i64 0,.slice .nil 1 [],.int .i64 0]⟩:=krf
def Ln:tSl Tryz.prog 27 69:=kSl
def IY:tFn Tryz.prog 179:=kFn
theorem Oe:ti Tryz.prog 74=some ⟨.struct [(0,3,false),(1,9,false),(2,71,false),(3,72,false),(4,9,false)],5,88,.agg [.int .i64 0,.str [],.slice .nil 1 [],.slice .nil 1 [],.str []]⟩:=krf
def Hr:tSl Tryz.prog 28 74:=kSl
def LD:tFn Tryz.prog 170:=kFn
theorem PC:ti Tryz.prog 102=some ⟨.struct [(0,9,false),(1,3,false)],2,24,.agg [.str [],.int .i64 0]⟩:=krf
def KP:tSl Tryz.prog 71 102:=kSl
def Ha:tFn Tryz.prog 169:=kFn
theorem O7:ti Tryz.prog 62=some ⟨.struct [(0,3,false),(1,9,false),(2,59,false),(3,23,false),(4,3,false),(5,60,false),(6,3,false),(7,9,false)],8,128,.agg [.int .i64 0,.str [],.slice .nil 1 [],.slice .nil 1 [],.int .i64 0,.slice .nil 1 [],.int .i64 0,.str []]⟩:=krf
def M7:tSl Tryz.prog 29 62:=kSl
def HU:tFn Tryz.prog 91:=kFn
theorem Nz:ti Tryz.prog 104=some ⟨.struct [(0,9,false),(1,3,false),(2,3,false)],3,32,.agg [.str [],.int .i64 0,.int .i64 0]⟩:=krf
def I0:tSl Tryz.prog 59 104:=kSl
def MP:tFn Tryz.prog 173:=kFn
theorem Ol:ti Tryz.prog 79=some ⟨.struct [(0,3,false),(1,9,false),(2,77,false),(3,23,false),(4,3,false),(5,4,false)],6,88,.agg [.int .i64 0,.str [],.slice .nil 1 [],.slice .nil 1 [],.int .i64 0,.bool false]⟩:=krf
def LH:tSl Tryz.prog 31 79:=kSl
def KO:tFn Tryz.prog 175:=kFn
theorem P1:ti Tryz.prog 100=some ⟨.struct [(0,3,false),(1,3,false),(2,98,false)],6,48,.agg [.int .i64 0,.int .i64 0,.int .i64 0,.int .i64 0,.int .u64 0,.int .u64 0]⟩:=krf
def Lh:tSl Tryz.prog 72 100:=kSl
def M5:tFn Tryz.prog 196:=kFn
theorem PN:ti Tryz.prog 58=some ⟨.struct [(0,3,false),(1,3,false)],2,16,.agg [.int .i64 0,.int .i64 0]⟩:=krf
def Iu:tSl Tryz.prog 30 58:=kSl
def Ke:tFn Tryz.prog 204:=kFn
theorem QG:ti Tryz.prog 109=some ⟨.struct [(0,3,false),(1,4,false),(2,4,false),(3,107,false)],4,40,.agg [.int .i64 0,.bool false,.bool false,.slice .nil 1 []]⟩:=krf
def KQ:tSl Tryz.prog 77 109:=kSl
def Is:tFn Tryz.prog 206:=kFn
theorem N8:ti Tryz.prog 96=some ⟨.struct [(0,94,false),(2,94,false),(4,3,false)],5,40,.agg [.int .u64 0,.int .u64 0,.int .u64 0,.int .u64 0,.int .i64 0]⟩:=krf
def Jf:tSl Tryz.prog 67 96:=kSl
def Lr:tFn Tryz.prog 212:=kFn
theorem Nx:ti Tryz.prog 44=some ⟨.struct [(0,3,false),(1,3,false),(2,3,false),(3,3,false),(4,3,false),(5,3,false)],6,48,.agg [.int .i64 0,.int .i64 0,.int .i64 0,.int .i64 0,.int .i64 0,.int .i64 0]⟩:=krf
def Kz:tSl Tryz.prog 32 44:=kSl
def Mc:tFn Tryz.prog 198:=kFn
theorem Qc:ti Tryz.prog 3=some ⟨.int .i64,1,8,.int .i64 0⟩:=krf
def Jz:tSl Tryz.prog 23 3:=kSl
def Nh:tFn Tryz.prog 177:=kFn
attribute [go_sem] NG HY Jj Om Mi K5 Np Ln IY Oe Hr LD PC KP Ha O7 M7 HU Nz I0 MP Ol LH KO P1 Lh M5 PN Iu Ke QG KQ Is N8 Jf Lr Nx Kz Mc Qc Jz Nh
def ju(P:Program)(F:FuncId):PCt:=fun args H K=>∃ x,K x∧ACalls P F args H (.ret x) H
def eU{P:Program}{F:FuncId}:EntOk P F (Ent.pure (ju P F)):=EntOk.pure fun _ _ _ h=>h
theorem eY{α:Type}{q:α→Bool}:∀{l:List α}{k:Nat},decide (0≤ixP q l k)=l.any q
 |[],_=>rfl
 |x::l,k=>by
  unfold ixP
  rw[List.any_cons]
  cases h:q x
  ·rw[if_neg Xb,eY,Bool.false_or]
  ·rw[if_pos rfl,Bool.true_or];exact dtq (Int.natCast_nonneg _)
def jM{α:Type}{q:α→Bool}{l:List α}:(!(l.any fun x=>!q x))=l.all q:=by
 induction l with
 |nil=>rfl
 |cons x l ih=>rw[List.any_cons,List.all_cons,← ih];cases q x<;>simp
def tfB:(∀ x,(true&&x)=x)∧(∀ x,(false&&x)=false)∧(∀ x,(x&&true)=x)∧(∀ x,(x&&false)=false)∧(∀ x,(true||x)=true)∧(∀ x,(false||x)=x)∧(∀ x,(x||true)=true)∧(∀ x,(x||false)=x)∧(!true)=false∧(!false)=true∧(false=true)=False∧(true=false)=False:=by decide +revert
def tfC:type_of% tfB∧(∀{α:Type}{a b:α}{_:Decidable True},ite True a b=a)∧∀{α:Type}{a b:α}{_:Decidable False},ite False a b=b:=⟨tfB,fun{_ a b _}=>if_true a b,fun{_ a b _}=>if_false a b⟩
def clB{P:Program}{f:FuncId}{p:PCt}{args:Wz}{H:AHeap}{b:AV}(h:EntOk P f (Ent.pure p))(hp:p args H (fun v=>v=b)):ACalls P f args H (.ret b) H:=by
 obtain⟨v,hv,hc⟩:=h.1 rfl _ _ _ hp
 subst hv
 exact hc
def AV.smk:AV→Mark
 |.slice m _ _=>m
 |_=>.any
def pIx{α:Type}(P:Program)(av:α→AV)(sz:Nat):PCt
 |[x,.func (.func F) fst caps],H,K=>∃ (ts:List α) (q:α→Bool),(x=.slice x.smk sz (ts.map av)∧ts.length≤1000000∧∀ x∈ts,ACalls P F (fst++[av x]++caps) H (.ret (.bool (q x))) H)∧K (.int .i64 (ixP q ts 0))
 |_,_,_=>False
def kW{α:Type}{P:Program}{f:FuncId}{av:α→AV}{sz:Nat}(h:∀(av':α→AV)(sz':Nat),av'=av→sz'=sz→∀(m:Mark)(ts:List α)(q:α→Bool)(F:FuncId)(fst caps:Wz)(H:AHeap),ts.length≤1000000→(∀ x∈ts,ACalls P F (fst++[av' x]++caps) H (.ret (.bool (q x))) H)→ACalls P f [.slice m sz' (ts.map av'),.func (.func F) fst caps] H (.ret (.int .i64 (ixP q ts 0))) H):EntOk P f (Ent.pure (pIx P av sz)):=by
 refine EntOk.pure fun args H K hh=>?_
 unfold pIx at hh
 exact Y73
def pAn{α:Type}(P:Program)(av:α→AV)(sz:Nat):PCt
 |[x,.func (.func F) fst caps],H,K=>∃ (ts:List α) (q:α→Bool),(x=.slice x.smk sz (ts.map av)∧ts.length≤1000000∧∀ x∈ts,ACalls P F (fst++[av x]++caps) H (.ret (.bool (q x))) H)∧K (.bool (ts.any q))
 |_,_,_=>False
def lC{α:Type}{P:Program}{f:FuncId}{av:α→AV}{sz:Nat}(h:∀(av':α→AV)(sz':Nat),av'=av→sz'=sz→∀(m:Mark)(ts:List α)(q:α→Bool)(F:FuncId)(fst caps:Wz)(H:AHeap),ts.length≤1000000→(∀ x∈ts,ACalls P F (fst++[av' x]++caps) H (.ret (.bool (q x))) H)→ACalls P f [.slice m sz' (ts.map av'),.func (.func F) fst caps] H (.ret (.bool (ts.any q))) H):EntOk P f (Ent.pure (pAn P av sz)):=by
 refine EntOk.pure fun args H K hh=>?_
 unfold pAn at hh
 exact Y73
def pEv{α:Type}(P:Program)(av:α→AV)(sz:Nat):PCt
 |[x,.func (.func F) fst caps],H,K=>∃ (ts:List α) (q:α→Bool),(x=.slice x.smk sz (ts.map av)∧ts.length≤1000000∧∀ x∈ts,∀ H',H.Le H'→H'.Closed→ACalls P F (fst++[av x]++caps) H' (.ret (.bool (q x))) H')∧K (.bool (ts.all q))
 |_,_,_=>False
def lr{α:Type}{P:Program}{f:FuncId}{av:α→AV}{sz:Nat}(h:∀(av':α→AV)(sz':Nat),av'=av→sz'=sz→∀(m:Mark)(ts:List α)(q:α→Bool)(F:FuncId)(fst caps:Wz)(H:AHeap),ts.length≤1000000→(∀ x∈ts,∀ H',H.Le H'→H'.Closed→ACalls P F (fst++[av' x]++caps) H' (.ret (.bool (q x))) H')→ACalls P f [.slice m sz' (ts.map av'),.func (.func F) fst caps] H (.ret (.bool (ts.all q))) H):EntOk P f (Ent.pure (pEv P av sz)):=by
 refine EntOk.pure fun args H K hh=>?_
 unfold pEv at hh
 exact Y73
def pCl{α:Type}(P:Program)(av:α→AV):PCt
 |[x,.ptr c 0],H,K=>∃ (t:α) (b:Bool) (F:FuncId) (fst caps:Wz),(x=av t∧H.get c=some (.cells [.func (.func F) fst caps])∧∀ H',H.Le H'→H'.Closed→ACalls P F (fst++[av t]++caps) H' (.ret (.bool b)) H')∧K (.bool (!b))
 |_,_,_=>False
def lB{α:Type}{P:Program}{f:FuncId}{av:α→AV}(h:∀(av':α→AV),av'=av→∀(t:α)(c:Nat)(b:Bool)(F:FuncId)(fst caps:Wz)(H:AHeap),H.get c=some (.cells [.func (.func F) fst caps])→(∀ H',H.Le H'→H'.Closed→ACalls P F (fst++[av' t]++caps) H' (.ret (.bool b)) H')→ACalls P f [av' t,.ptr c 0] H (.ret (.bool (!b))) H):EntOk P f (Ent.pure (pCl P av)):=by
 refine EntOk.pure fun args H K hh=>?_
 unfold pCl at hh
 split at hh
 ·obtain⟨t,b,F,fst,caps,⟨h1,h2,h3⟩,h4⟩:=hh
  rw[h1]
  exact⟨_,h4,h av rfl t _ b _ _ _ _ h2 h3⟩
 ·exact hh.elim
attribute [go_sem] pIx pAn pEv pCl
abbrev Pv:=@pIx SField Tryz.prog aJ 3
abbrev Pn:=@pAn SField Tryz.prog aJ 3
abbrev fP:=@pEv SField Tryz.prog aJ 3
abbrev OE:=@pCl SField Tryz.prog aJ
def MG:EPp 309 Pv:=kW fun av sz ha hs m ts q F fst caps H hl hq=>by
 have hag:∀ x,∃ cs,av x=.agg cs∧cs.length=sz:=by subst ha hs;exact fun x=>⟨_,rfl,rfl⟩
 refine Yfv aD (tCq (eU (F:=F)) tNq) Tryz.func309 [.tmp 4] fun hcl hlt=>?_
 exact Y2
def H4:EPp 222 Pn:=lC fun av sz ha hs m ts q F fst caps H hl hq=>by
 refine Yfv aD (tCq MG tNq) Tryz.func222 [.tmp 4] fun hcl hlt=>?_
 exact Y17
def Iv:EPp 223 OE:=lB fun av ha t c b F fst caps H hg hq=>by
 have hag:∀ x,∃ cs,av x=.agg cs∧cs.length=3:=by subst ha;exact fun x=>⟨_,rfl,rfl⟩
 refine Yfv aD (tCq (eU (F:=F)) tNq) Tryz.func223 [.tmp 3] fun hcl hlt=>?_
 exact Y7
def AG:EPp 64 fP:=lr fun av sz ha hs m ts q F fst caps H hl hq=>by
 have hL:EPp 223 (pCl Tryz.prog av):=by rw[ha];exact Iv
 refine Yfv aD (tCq H4 tNq) Tryz.func64 [.tmp 4] fun hcl hlt=>?_
 exact Y6
abbrev Pf:=@pIx SHeader Tryz.prog az 3
abbrev P4:=@pAn SHeader Tryz.prog az 3
abbrev bY:=@pEv SHeader Tryz.prog az 3
abbrev PK:=@pCl SHeader Tryz.prog az
def MR:EPp 310 Pf:=kW fun av sz ha hs m ts q F fst caps H hl hq=>by
 have hag:∀ x,∃ cs,av x=.agg cs∧cs.length=sz:=by subst ha hs;exact fun x=>⟨_,rfl,rfl⟩
 refine Yfv aD (tCq (eU (F:=F)) tNq) Tryz.func310 [.tmp 4] fun hcl hlt=>?_
 exact Y2
def IW:EPp 224 P4:=lC fun av sz ha hs m ts q F fst caps H hl hq=>by
 refine Yfv aD (tCq MR tNq) Tryz.func224 [.tmp 4] fun hcl hlt=>?_
 exact Y17
def LR:EPp 225 PK:=lB fun av ha t c b F fst caps H hg hq=>by
 have hag:∀ x,∃ cs,av x=.agg cs∧cs.length=3:=by subst ha;exact fun x=>⟨_,rfl,rfl⟩
 refine Yfv aD (tCq (eU (F:=F)) tNq) Tryz.func225 [.tmp 3] fun hcl hlt=>?_
 exact Y7
def sq:EPp 67 bY:=lr fun av sz ha hs m ts q F fst caps H hl hq=>by
 have hL:EPp 225 (pCl Tryz.prog av):=by rw[ha];exact LR
 refine Yfv aD (tCq IW tNq) Tryz.func67 [.tmp 4] fun hcl hlt=>?_
 exact Y6
abbrev QH:=@pIx SState Tryz.prog aE 5
abbrev OC:=@pAn SState Tryz.prog aE 5
abbrev cx:=@pEv SState Tryz.prog aE 5
abbrev Qj:=@pCl SState Tryz.prog aE
def LW:EPp 314 QH:=kW fun av sz ha hs m ts q F fst caps H hl hq=>by
 have hag:∀ x,∃ cs,av x=.agg cs∧cs.length=sz:=by subst ha hs;exact fun x=>⟨_,rfl,rfl⟩
 refine Yfv aD (tCq (eU (F:=F)) tNq) Tryz.func314 [.tmp 4] fun hcl hlt=>?_
 exact Y2
def Jb:EPp 236 OC:=lC fun av sz ha hs m ts q F fst caps H hl hq=>by
 refine Yfv aD (tCq LW tNq) Tryz.func236 [.tmp 4] fun hcl hlt=>?_
 exact Y17
def IM:EPp 237 Qj:=lB fun av ha t c b F fst caps H hg hq=>by
 have hag:∀ x,∃ cs,av x=.agg cs∧cs.length=5:=by subst ha;exact fun x=>⟨_,rfl,rfl⟩
 refine Yfv aD (tCq (eU (F:=F)) tNq) Tryz.func237 [.tmp 3] fun hcl hlt=>?_
 exact Y7
def sC:EPp 85 cx:=lr fun av sz ha hs m ts q F fst caps H hl hq=>by
 have hL:EPp 237 (pCl Tryz.prog av):=by rw[ha];exact IM
 refine Yfv aD (tCq Jb tNq) Tryz.func85 [.tmp 4] fun hcl hlt=>?_
 exact Y6
abbrev PY:=@pIx SAction Tryz.prog ap 5
abbrev PA:=@pAn SAction Tryz.prog ap 5
abbrev bM:=@pEv SAction Tryz.prog ap 5
abbrev NY:=@pCl SAction Tryz.prog ap
def HN:EPp 269 PY:=kW fun av sz ha hs m ts q F fst caps H hl hq=>by
 have hag:∀ x,∃ cs,av x=.agg cs∧cs.length=sz:=by subst ha hs;exact fun x=>⟨_,rfl,rfl⟩
 refine Yfv aD (tCq (eU (F:=F)) tNq) Tryz.func269 [.tmp 4] fun hcl hlt=>?_
 exact Y2
def IU:EPp 226 PA:=lC fun av sz ha hs m ts q F fst caps H hl hq=>by
 refine Yfv aD (tCq HN tNq) Tryz.func226 [.tmp 4] fun hcl hlt=>?_
 exact Y17
def Mz:EPp 227 NY:=lB fun av ha t c b F fst caps H hg hq=>by
 have hag:∀ x,∃ cs,av x=.agg cs∧cs.length=5:=by subst ha;exact fun x=>⟨_,rfl,rfl⟩
 refine Yfv aD (tCq (eU (F:=F)) tNq) Tryz.func227 [.tmp 3] fun hcl hlt=>?_
 exact Y7
def qI:EPp 69 bM:=lr fun av sz ha hs m ts q F fst caps H hl hq=>by
 have hL:EPp 227 (pCl Tryz.prog av):=by rw[ha];exact Mz
 refine Yfv aD (tCq IU tNq) Tryz.func69 [.tmp 4] fun hcl hlt=>?_
 exact Y6
abbrev Ob:=@pIx SParam Tryz.prog aL 2
abbrev Pm:=@pAn SParam Tryz.prog aL 2
abbrev pt:=@pEv SParam Tryz.prog aL 2
abbrev Nn:=@pCl SParam Tryz.prog aL
def Lm:EPp 311 Ob:=kW fun av sz ha hs m ts q F fst caps H hl hq=>by
 have hag:∀ x,∃ cs,av x=.agg cs∧cs.length=sz:=by subst ha hs;exact fun x=>⟨_,rfl,rfl⟩
 refine Yfv aD (tCq (eU (F:=F)) tNq) Tryz.func311 [.tmp 4] fun hcl hlt=>?_
 exact Y2
def Ki:EPp 228 Pm:=lC fun av sz ha hs m ts q F fst caps H hl hq=>by
 refine Yfv aD (tCq Lm tNq) Tryz.func228 [.tmp 4] fun hcl hlt=>?_
 exact Y17
def Jv:EPp 229 Nn:=lB fun av ha t c b F fst caps H hg hq=>by
 have hag:∀ x,∃ cs,av x=.agg cs∧cs.length=2:=by subst ha;exact fun x=>⟨_,rfl,rfl⟩
 refine Yfv aD (tCq (eU (F:=F)) tNq) Tryz.func229 [.tmp 3] fun hcl hlt=>?_
 exact Y7
def AU:EPp 71 pt:=lr fun av sz ha hs m ts q F fst caps H hl hq=>by
 have hL:EPp 229 (pCl Tryz.prog av):=by rw[ha];exact Jv
 refine Yfv aD (tCq Ki tNq) Tryz.func71 [.tmp 4] fun hcl hlt=>?_
 exact Y6
abbrev NJ:=@pIx STable Tryz.prog au 8
abbrev NW:=@pAn STable Tryz.prog au 8
abbrev bW:=@pEv STable Tryz.prog au 8
abbrev Pw:=@pCl STable Tryz.prog au
def MS:EPp 44 NJ:=kW fun av sz ha hs m ts q F fst caps H hl hq=>by
 have hag:∀ x,∃ cs,av x=.agg cs∧cs.length=sz:=by subst ha hs;exact fun x=>⟨_,rfl,rfl⟩
 refine Yfv aD (tCq (eU (F:=F)) tNq) Tryz.func44 [.tmp 4] fun hcl hlt=>?_
 exact Y2
def I3:EPp 230 NW:=lC fun av sz ha hs m ts q F fst caps H hl hq=>by
 refine Yfv aD (tCq MS tNq) Tryz.func230 [.tmp 4] fun hcl hlt=>?_
 exact Y17
def Na:EPp 231 Pw:=lB fun av ha t c b F fst caps H hg hq=>by
 have hag:∀ x,∃ cs,av x=.agg cs∧cs.length=8:=by subst ha;exact fun x=>⟨_,rfl,rfl⟩
 refine Yfv aD (tCq (eU (F:=F)) tNq) Tryz.func231 [.tmp 3] fun hcl hlt=>?_
 exact Y7
def oI:EPp 74 bW:=lr fun av sz ha hs m ts q F fst caps H hl hq=>by
 have hL:EPp 231 (pCl Tryz.prog av):=by rw[ha];exact Na
 refine Yfv aD (tCq I3 tNq) Tryz.func74 [.tmp 4] fun hcl hlt=>?_
 exact Y6
abbrev P0:=@pIx SKey Tryz.prog aZ 3
abbrev N9:=@pAn SKey Tryz.prog aZ 3
abbrev ld:=@pEv SKey Tryz.prog aZ 3
abbrev Qh:=@pCl SKey Tryz.prog aZ
def Kj:EPp 312 P0:=kW fun av sz ha hs m ts q F fst caps H hl hq=>by
 have hag:∀ x,∃ cs,av x=.agg cs∧cs.length=sz:=by subst ha hs;exact fun x=>⟨_,rfl,rfl⟩
 refine Yfv aD (tCq (eU (F:=F)) tNq) Tryz.func312 [.tmp 4] fun hcl hlt=>?_
 exact Y2
def Ho:EPp 232 N9:=lC fun av sz ha hs m ts q F fst caps H hl hq=>by
 refine Yfv aD (tCq Kj tNq) Tryz.func232 [.tmp 4] fun hcl hlt=>?_
 exact Y17
def Io:EPp 233 Qh:=lB fun av ha t c b F fst caps H hg hq=>by
 have hag:∀ x,∃ cs,av x=.agg cs∧cs.length=3:=by subst ha;exact fun x=>⟨_,rfl,rfl⟩
 refine Yfv aD (tCq (eU (F:=F)) tNq) Tryz.func233 [.tmp 3] fun hcl hlt=>?_
 exact Y7
def A1:EPp 76 ld:=lr fun av sz ha hs m ts q F fst caps H hl hq=>by
 have hL:EPp 233 (pCl Tryz.prog av):=by rw[ha];exact Io
 refine Yfv aD (tCq Ho tNq) Tryz.func76 [.tmp 4] fun hcl hlt=>?_
 exact Y6
abbrev Qd:=@pIx SRole Tryz.prog aP 6
abbrev NF:=@pAn SRole Tryz.prog aP 6
abbrev cL:=@pEv SRole Tryz.prog aP 6
abbrev QW:=@pCl SRole Tryz.prog aP
def Jw:EPp 313 Qd:=kW fun av sz ha hs m ts q F fst caps H hl hq=>by
 have hag:∀ x,∃ cs,av x=.agg cs∧cs.length=sz:=by subst ha hs;exact fun x=>⟨_,rfl,rfl⟩
 refine Yfv aD (tCq (eU (F:=F)) tNq) Tryz.func313 [.tmp 4] fun hcl hlt=>?_
 exact Y2
def Nc:EPp 234 NF:=lC fun av sz ha hs m ts q F fst caps H hl hq=>by
 refine Yfv aD (tCq Jw tNq) Tryz.func234 [.tmp 4] fun hcl hlt=>?_
 exact Y17
def G5:EPp 235 QW:=lB fun av ha t c b F fst caps H hg hq=>by
 have hag:∀ x,∃ cs,av x=.agg cs∧cs.length=6:=by subst ha;exact fun x=>⟨_,rfl,rfl⟩
 refine Yfv aD (tCq (eU (F:=F)) tNq) Tryz.func235 [.tmp 3] fun hcl hlt=>?_
 exact Y7
def qK:EPp 78 cL:=lr fun av sz ha hs m ts q F fst caps H hl hq=>by
 have hL:EPp 235 (pCl Tryz.prog av):=by rw[ha];exact G5
 refine Yfv aD (tCq Nc tNq) Tryz.func78 [.tmp 4] fun hcl hlt=>?_
 exact Y6
abbrev Qt:=@pIx SPrim Tryz.prog aU 6
abbrev NT:=@pAn SPrim Tryz.prog aU 6
abbrev dT:=@pEv SPrim Tryz.prog aU 6
abbrev Oa:=@pCl SPrim Tryz.prog aU
def MI:EPp 315 Qt:=kW fun av sz ha hs m ts q F fst caps H hl hq=>by
 have hag:∀ x,∃ cs,av x=.agg cs∧cs.length=sz:=by subst ha hs;exact fun x=>⟨_,rfl,rfl⟩
 refine Yfv aD (tCq (eU (F:=F)) tNq) Tryz.func315 [.tmp 4] fun hcl hlt=>?_
 exact Y2
def Jo:EPp 248 NT:=lC fun av sz ha hs m ts q F fst caps H hl hq=>by
 refine Yfv aD (tCq MI tNq) Tryz.func248 [.tmp 4] fun hcl hlt=>?_
 exact Y17
def Hd:EPp 249 Oa:=lB fun av ha t c b F fst caps H hg hq=>by
 have hag:∀ x,∃ cs,av x=.agg cs∧cs.length=6:=by subst ha;exact fun x=>⟨_,rfl,rfl⟩
 refine Yfv aD (tCq (eU (F:=F)) tNq) Tryz.func249 [.tmp 3] fun hcl hlt=>?_
 exact Y7
def ws:EPp 111 dT:=lr fun av sz ha hs m ts q F fst caps H hl hq=>by
 have hL:EPp 249 (pCl Tryz.prog av):=by rw[ha];exact Hd
 refine Yfv aD (tCq Jo tNq) Tryz.func111 [.tmp 4] fun hcl hlt=>?_
 exact Y6
abbrev Po:=@pIx SStage Tryz.prog aQ 2
abbrev NA:=@pAn SStage Tryz.prog aQ 2
abbrev gR:=@pEv SStage Tryz.prog aQ 2
abbrev Qv:=@pCl SStage Tryz.prog aQ
def MD:EPp 321 Po:=kW fun av sz ha hs m ts q F fst caps H hl hq=>by
 have hag:∀ x,∃ cs,av x=.agg cs∧cs.length=sz:=by subst ha hs;exact fun x=>⟨_,rfl,rfl⟩
 refine Yfv aD (tCq (eU (F:=F)) tNq) Tryz.func321 [.tmp 4] fun hcl hlt=>?_
 exact Y2
def M4:EPp 260 NA:=lC fun av sz ha hs m ts q F fst caps H hl hq=>by
 refine Yfv aD (tCq MD tNq) Tryz.func260 [.tmp 4] fun hcl hlt=>?_
 exact Y17
def Ml:EPp 261 Qv:=lB fun av ha t c b F fst caps H hg hq=>by
 have hag:∀ x,∃ cs,av x=.agg cs∧cs.length=2:=by subst ha;exact fun x=>⟨_,rfl,rfl⟩
 refine Yfv aD (tCq (eU (F:=F)) tNq) Tryz.func261 [.tmp 3] fun hcl hlt=>?_
 exact Y7
def M0:EPp 125 gR:=lr fun av sz ha hs m ts q F fst caps H hl hq=>by
 have hL:EPp 261 (pCl Tryz.prog av):=by rw[ha];exact Ml
 refine Yfv aD (tCq M4 tNq) Tryz.func125 [.tmp 4] fun hcl hlt=>?_
 exact Y6
abbrev ND:=@pIx SGrant Tryz.prog aK 4
abbrev NR:=@pAn SGrant Tryz.prog aK 4
abbrev eb:=@pEv SGrant Tryz.prog aK 4
abbrev Qn:=@pCl SGrant Tryz.prog aK
def Hh:EPp 323 ND:=kW fun av sz ha hs m ts q F fst caps H hl hq=>by
 have hag:∀ x,∃ cs,av x=.agg cs∧cs.length=sz:=by subst ha hs;exact fun x=>⟨_,rfl,rfl⟩
 refine Yfv aD (tCq (eU (F:=F)) tNq) Tryz.func323 [.tmp 4] fun hcl hlt=>?_
 exact Y2
def LL:EPp 263 NR:=lC fun av sz ha hs m ts q F fst caps H hl hq=>by
 refine Yfv aD (tCq Hh tNq) Tryz.func263 [.tmp 4] fun hcl hlt=>?_
 exact Y17
def Kt:EPp 264 Qn:=lB fun av ha t c b F fst caps H hg hq=>by
 have hag:∀ x,∃ cs,av x=.agg cs∧cs.length=4:=by subst ha;exact fun x=>⟨_,rfl,rfl⟩
 refine Yfv aD (tCq (eU (F:=F)) tNq) Tryz.func264 [.tmp 3] fun hcl hlt=>?_
 exact Y7
def Al:EPp 130 eb:=lr fun av sz ha hs m ts q F fst caps H hl hq=>by
 have hL:EPp 264 (pCl Tryz.prog av):=by rw[ha];exact Kt
 refine Yfv aD (tCq LL tNq) Tryz.func130 [.tmp 4] fun hcl hlt=>?_
 exact Y6
abbrev N7:=@pIx SCase Tryz.prog ba 5
abbrev O6:=@pAn SCase Tryz.prog ba 5
abbrev dn:=@pEv SCase Tryz.prog ba 5
abbrev N1:=@pCl SCase Tryz.prog ba
def Lu:EPp 324 N7:=kW fun av sz ha hs m ts q F fst caps H hl hq=>by
 have hag:∀ x,∃ cs,av x=.agg cs∧cs.length=sz:=by subst ha hs;exact fun x=>⟨_,rfl,rfl⟩
 refine Yfv aD (tCq (eU (F:=F)) tNq) Tryz.func324 [.tmp 4] fun hcl hlt=>?_
 exact Y2
def JW:EPp 265 O6:=lC fun av sz ha hs m ts q F fst caps H hl hq=>by
 refine Yfv aD (tCq Lu tNq) Tryz.func265 [.tmp 4] fun hcl hlt=>?_
 exact Y17
def JV:EPp 266 N1:=lB fun av ha t c b F fst caps H hg hq=>by
 have hag:∀ x,∃ cs,av x=.agg cs∧cs.length=5:=by subst ha;exact fun x=>⟨_,rfl,rfl⟩
 refine Yfv aD (tCq (eU (F:=F)) tNq) Tryz.func266 [.tmp 3] fun hcl hlt=>?_
 exact Y7
def BR:EPp 140 dn:=lr fun av sz ha hs m ts q F fst caps H hl hq=>by
 have hL:EPp 266 (pCl Tryz.prog av):=by rw[ha];exact JV
 refine Yfv aD (tCq JW tNq) Tryz.func140 [.tmp 4] fun hcl hlt=>?_
 exact Y6
abbrev NI:=@pIx SRef Tryz.prog bc 6
abbrev Og:=@pAn SRef Tryz.prog bc 6
abbrev cV:=@pEv SRef Tryz.prog bc 6
abbrev Pl:=@pCl SRef Tryz.prog bc
def I1:EPp 316 NI:=kW fun av sz ha hs m ts q F fst caps H hl hq=>by
 have hag:∀ x,∃ cs,av x=.agg cs∧cs.length=sz:=by subst ha hs;exact fun x=>⟨_,rfl,rfl⟩
 refine Yfv aD (tCq (eU (F:=F)) tNq) Tryz.func316 [.tmp 4] fun hcl hlt=>?_
 exact Y2
def LE:EPp 251 Og:=lC fun av sz ha hs m ts q F fst caps H hl hq=>by
 refine Yfv aD (tCq I1 tNq) Tryz.func251 [.tmp 4] fun hcl hlt=>?_
 exact Y17
def Kr:EPp 252 Pl:=lB fun av ha t c b F fst caps H hg hq=>by
 have hag:∀ x,∃ cs,av x=.agg cs∧cs.length=6:=by subst ha;exact fun x=>⟨_,rfl,rfl⟩
 refine Yfv aD (tCq (eU (F:=F)) tNq) Tryz.func252 [.tmp 3] fun hcl hlt=>?_
 exact Y7
def sW:EPp 115 cV:=lr fun av sz ha hs m ts q F fst caps H hl hq=>by
 have hL:EPp 252 (pCl Tryz.prog av):=by rw[ha];exact Kr
 refine Yfv aD (tCq LE tNq) Tryz.func115 [.tmp 4] fun hcl hlt=>?_
 exact Y6
abbrev Oy:=@pIx Int Tryz.prog (AV.int .i64) 1
abbrev OY:=@pAn Int Tryz.prog (AV.int .i64) 1
abbrev fp:=@pEv Int Tryz.prog (AV.int .i64) 1
abbrev Ow:=@pCl Int Tryz.prog (AV.int .i64)
def Ij:EPp 318 Oy:=kW fun av sz ha hs m ts q F fst caps H hl hq=>by
 refine Yfv aD (tCq (eU (F:=F)) tNq) Tryz.func318 [.tmp 4] fun hcl hlt=>?_
 subst ha hs
 generalize hR:ixP q ts 0=R
 have hm:AV.lt H.nx (.slice m 1 (ts.map (AV.int .i64))):=hlt _ Xc
 have hf:AV.lt H.nx (.func (.func F) fst caps):=hlt _ Xc
 clear hlt
 simp only[go_sem,ybb]
 refine aG (A:=Nat) (fun k=>[(0,.slice m 1 (ts.map (AV.int .i64))),(1,.func (.func F) fst caps),(7,.int .i64 (ts.length:Int)),(8,.int .i64 (k:Int))]) (fun _=>H) (fun k=>k≤ts.length∧ixP q (ts.drop k) k=R) (fun k=>ts.length-k) 0 ⟨Xa,hR⟩ ?_ fun k hk=>?_
 ·exact⟨nrq _,lRq _,hcl,by simp[ltF,znd,hm,hf],Xx⟩
 clear hR
 obtain⟨hk,hR⟩:=hk
 refine Tq20 ?_
 refine ax (fun hc=>?_) (fun hc=>?_)
 ·have hk':k<ts.length:=sHc
  obtain⟨x,hx⟩:∃ x,x=ts[k]:=⟨_,rfl⟩
  have hd:ts.drop k=x::ts.drop (k+1):=by rw[hx];exact dcq hk'
  have hg':=a9 (f:=(AV.int .i64)) (l:=ts) (k:=k) (x:=x) (by rw[gQq hk',hx])
  have e5:=Yk5 k
  rw[hd]at hR
  unfold ixP at hR
  have hqx:=hq x (by rw[hx];exact gMq hk')
  simp only[go_sem,iNq,ybb,hg',ju]
  refine Tq7 ?_
  refine⟨_,?_,hqx⟩
  try simp only[aA,go_sem]
  refine Tq8 ?_
  refine ax (fun hq=>?_) (fun hq=>?_)
  ·rw[if_pos hq]at hR
   subst hR
   exact Y32
  ·rw[if_neg (by rw[hq];decide)]at hR
   simp only[go_sem,e5]
   exact⟨k+1,⟨Xa,hR⟩,Xa,nrq _,lRq _,hcl,by simp[ltF,znd,hm,hf],Xx⟩
 ·exact Y19
def I2:EPp 254 OY:=lC fun av sz ha hs m ts q F fst caps H hl hq=>by
 refine Yfv aD (tCq Ij tNq) Tryz.func254 [.tmp 4] fun hcl hlt=>?_
 exact Y17
def LF:EPp 255 Ow:=lB fun av ha t c b F fst caps H hg hq=>by
 subst ha
 refine Yfv aD (tCq (eU (F:=F)) tNq) Tryz.func255 [.tmp 3] fun hcl hlt=>?_
 have hcs:=aB hg
 have hl:=glq hg
 have hne:(c=H.nx)=False:=eFo
 have hlx:=hlt _ (List.mem_cons_self)
 clear hlt
 simp only[go_sem,hcs,hne,hg,ju]
 refine⟨_,?_,hq _ (lRq _) hcl⟩
 exact Y37
def we:EPp 119 fp:=lr fun av sz ha hs m ts q F fst caps H hl hq=>by
 have hL:EPp 255 (pCl Tryz.prog av):=by rw[ha];exact LF
 refine Yfv aD (tCq I2 tNq) Tryz.func119 [.tmp 4] fun hcl hlt=>?_
 exact Y6
def Gt:tSl Tryz.prog 22 5:=kSl
attribute [go_sem] Gt
def tP(c:UInt8):Bool:=decide (97≤c.toNat)&&decide (c.toNat≤122)
def gW(c:UInt8):Bool:=(decide (48≤c.toNat)&&decide (c.toNat≤57))||decide (c.toNat=95)
def n9:By→Nat→Bool
 |[],_=>true
 |c::r,i=>(tP c||(!decide (i=0)&&gW c))&&n9 r (i+1)
def df(s:By):Bool:=n9 s 0&&decide (s≠[])
def jh(s:By):Bool:=df s&&decide (s≠[112,114,105,111,114,105,116,121])&&decide (s≠[116,114,117,101])&&decide (s≠[102,97,108,115,101])
def fE:PCt
 |[.str s],_,K=>s.length≤140737488355328∧K (.bool (df s))
 |_,_,_=>False
def m7:EPp 66 fE:=by
 refine Ype fun _ H K h=>?_
 unfold fE at h
 split at h<;>try exact h.elim
 rename_i s
 obtain⟨hl,hK⟩:=h
 refine⟨_,hK,?_⟩
 clear hK
 generalize hR:df s=R
 unfold df at hR
 obtain⟨Q,hQ⟩:∃ Q,n9 s 0=Q:=⟨_,rfl⟩
 rw[hQ]at hR
 have dn1:(!true)=false:=rfl
 have dn2:(!false)=true:=rfl
 have lt_bys:∀ n,AV.lt n (.slice .any 1 (s.map bC)):=fun n=>aa fun x=>by simp only[bC,znd]
 refine Yfu aD tNq Tryz.func66 [.tmp 2] fun hcl=>?_
 refine Tq20 ?_
 refine⟨Xa,?_⟩
 refine aG (A:=Nat) (fun k=>[(0,.str s),(7,.slice .any 1 (s.map bC)),(8,.int .i64 (s.length:Int)),(9,.int .i64 (k:Int))]) (fun _=>H) (fun k=>k≤s.length∧n9 (s.drop k) k=Q) (fun k=>s.length-k) 0 ⟨Xa,hQ⟩ ?_ fun k hk=>?_
 ·refine eNt hcl ?_ ?_
  ·exact Y56
  ·exact Y14
 clear hQ
 obtain⟨hk,hQ⟩:=hk
 refine Tq20 ?_
 refine ax (fun hc=>?_) (fun hc=>?_)
 ·have hk':k<s.length:=sHc
  obtain⟨c,hcx⟩:∃ c,c=s[k]:=⟨_,rfl⟩
  have hd:s.drop k=c::s.drop (k+1):=by rw[hcx];exact dcq hk'
  have hg':=a9 (f:=bC) (l:=s) (k:=k) (x:=c) (by rw[gQq hk',hcx])
  have hgs:s.getD k 0=c:=by rw[gEq,gQq hk',hcx];rfl
  have e5:=Yk5 k
  rw[hd]at hQ
  unfold n9 at hQ
  by_cases h1:97≤c.toNat
  ·have d1:decide ((c.toNat:Int) ≥ 97)=true:=dtq Xa
   by_cases h2:c.toNat≤122
   ·have d2:decide ((c.toNat:Int)≤122)=true:=dtq Xa
    have hb:tP c=true:=by unfold tP;rw[dtq h1,dtq h2];rfl
    rw[hb,Bool.true_or,Bool.true_and]at hQ
    simp only[go_sem,iNq,ybb,hg',bC,e5,d1,d2,dn1,dn2]
    refine Tq8 ?_
    refine⟨k+1,⟨Xa,hQ⟩,Xa,?_⟩
    refine eNt hcl ?_ ?_
    ·exact Y56
    ·exact Y14
   ·have d2:decide ((c.toNat:Int)≤122)=false:=dfq Xa
    have hb:tP c=false:=by unfold tP;rw[dfq h2,Bool.and_false]
    rw[hb,Bool.false_or]at hQ
    by_cases h0:k=0
    ·have d0:((k:Int)==0)=true:=by rw[h0];rfl
     rw[dtq h0,Bool.not_true,Bool.false_and,Bool.false_and]at hQ
     rw[← hQ,Bool.false_and]at hR
     subst hR
     simp only[go_sem,iNq,ybb,hg',bC,e5,d1,d2,d0,dn1,dn2]
     exact Y8
    have d0:((k:Int)==0)=false:=Xf
    rw[dfq h0,Bool.not_false,Bool.true_and]at hQ
    by_cases h95:c.toNat=95
    ·have d95:((c.toNat:Int) !=95)=false:=Xf
     have d3:decide ((c.toNat:Int)<48)=false:=dfq Xa
     have d4:decide ((c.toNat:Int)>57)=true:=dtq Xa
     have hp:gW c=true:=by unfold gW;rw[dtq h95,Bool.or_true]
     rw[hp,Bool.true_and]at hQ
     refine Tq67 ?_
     refine Tq8 ?_
     refine⟨k+1,⟨Xa,hQ⟩,Xa,?_⟩
     refine eNt hcl ?_ ?_
     ·exact Y56
     ·exact Y14
    have d95:((c.toNat:Int) !=95)=true:=Xf
    by_cases h3:c.toNat<48
    ·have d3:decide ((c.toNat:Int)<48)=true:=dtq Xa
     have hp:gW c=false:=by unfold gW;rw[dfq h95,dfq (by omega),Bool.false_and,Bool.or_false]
     rw[hp,Bool.false_and]at hQ
     rw[← hQ,Bool.false_and]at hR
     subst hR
     simp only[go_sem,iNq,ybb,hg',bC,e5,d1,d2,d0,d95,d3,dn1,dn2]
     exact Y8
    have d3:decide ((c.toNat:Int)<48)=false:=dfq Xa
    by_cases h4:57<c.toNat
    ·have d4:decide ((c.toNat:Int)>57)=true:=dtq Xa
     have hp:gW c=false:=by unfold gW;rw[dfq h95,dfq (show ¬ c.toNat≤57 by omega),Bool.and_false,Bool.or_false]
     rw[hp,Bool.false_and]at hQ
     rw[← hQ,Bool.false_and]at hR
     subst hR
     refine Tq67 ?_
     exact Y8
    have d4:decide ((c.toNat:Int)>57)=false:=dfq Xa
    have hp:gW c=true:=by unfold gW;rw[dtq (show 48≤c.toNat by omega),dtq (show c.toNat≤57 by omega)];rfl
    rw[hp,Bool.true_and]at hQ
    refine Tq67 ?_
    refine Tq8 ?_
    refine⟨k+1,⟨Xa,hQ⟩,Xa,?_⟩
    refine eNt hcl ?_ ?_
    ·exact Y56
    ·exact Y14
  ·have d1:decide ((c.toNat:Int) ≥ 97)=false:=dfq Xa
   have hb:tP c=false:=by unfold tP;rw[dfq h1,Bool.false_and]
   rw[hb,Bool.false_or]at hQ
   by_cases h0:k=0
   ·have d0:((k:Int)==0)=true:=by rw[h0];rfl
    rw[dtq h0,Bool.not_true,Bool.false_and,Bool.false_and]at hQ
    rw[← hQ,Bool.false_and]at hR
    subst hR
    simp only[go_sem,iNq,ybb,hg',bC,e5,d1,d0,dn1,dn2]
    exact Y8
   have d0:((k:Int)==0)=false:=Xf
   rw[dfq h0,Bool.not_false,Bool.true_and]at hQ
   by_cases h95:c.toNat=95
   ·have d95:((c.toNat:Int) !=95)=false:=Xf
    have d3:decide ((c.toNat:Int)<48)=false:=dfq Xa
    have d4:decide ((c.toNat:Int)>57)=true:=dtq Xa
    have hp:gW c=true:=by unfold gW;rw[dtq h95,Bool.or_true]
    rw[hp,Bool.true_and]at hQ
    refine Tq71 ?_
    refine Tq8 ?_
    refine⟨k+1,⟨Xa,hQ⟩,Xa,?_⟩
    refine eNt hcl ?_ ?_
    ·exact Y56
    ·exact Y14
   have d95:((c.toNat:Int) !=95)=true:=Xf
   by_cases h3:c.toNat<48
   ·have d3:decide ((c.toNat:Int)<48)=true:=dtq Xa
    have hp:gW c=false:=by unfold gW;rw[dfq h95,dfq (by omega),Bool.false_and,Bool.or_false]
    rw[hp,Bool.false_and]at hQ
    rw[← hQ,Bool.false_and]at hR
    subst hR
    simp only[go_sem,iNq,ybb,hg',bC,e5,d1,d0,d95,d3,dn1,dn2]
    exact Y8
   have d3:decide ((c.toNat:Int)<48)=false:=dfq Xa
   by_cases h4:57<c.toNat
   ·have d4:decide ((c.toNat:Int)>57)=true:=dtq Xa
    have hp:gW c=false:=by unfold gW;rw[dfq h95,dfq (show ¬ c.toNat≤57 by omega),Bool.and_false,Bool.or_false]
    rw[hp,Bool.false_and]at hQ
    rw[← hQ,Bool.false_and]at hR
    subst hR
    refine Tq71 ?_
    exact Y8
   have d4:decide ((c.toNat:Int)>57)=false:=dfq Xa
   have hp:gW c=true:=by unfold gW;rw[dtq (show 48≤c.toNat by omega),dtq (show c.toNat≤57 by omega)];rfl
   rw[hp,Bool.true_and]at hQ
   refine Tq71 ?_
   refine Tq8 ?_
   refine⟨k+1,⟨Xa,hQ⟩,Xa,?_⟩
   refine eNt hcl ?_ ?_
   ·exact Y56
   ·exact Y14
 ·have hk':k=s.length:=sHc
  subst hk'
  rw[List.drop_length]at hQ
  unfold n9 at hQ
  rw[← hQ,Bool.true_and]at hR
  cases s with
  |nil =>
   have hR':R=false:=by rw[← hR];rfl
   subst hR'
   exact Y32
  |cons c r =>
   exact Y137
def jQ:PCt
 |[.str s],_,K=>s.length≤140737488355328∧K (.bool (df s))
 |_,_,_=>False
def yH:EPp 160 jQ:=by
 refine Ype fun _ H K h=>?_
 unfold jQ at h
 split at h<;>try exact h.elim
 rename_i s
 obtain⟨hl,hK⟩:=h
 refine⟨_,hK,?_⟩
 clear hK
 generalize hR:df s=R
 unfold df at hR
 obtain⟨Q,hQ⟩:∃ Q,n9 s 0=Q:=⟨_,rfl⟩
 rw[hQ]at hR
 have dn1:(!true)=false:=rfl
 have dn2:(!false)=true:=rfl
 have lt_bys:∀ n,AV.lt n (.slice .any 1 (s.map bC)):=fun n=>aa fun x=>by simp only[bC,znd]
 refine Yfu aD tNq Tryz.func160 [.tmp 2] fun hcl=>?_
 refine Tq20 ?_
 refine aG (A:=Nat) (fun k=>[(0,.str s),(3,.int .i64 (k:Int))]) (fun _=>H) (fun k=>k≤s.length∧n9 (s.drop k) k=Q) (fun k=>s.length-k) 0 ⟨Xa,hQ⟩ ?_ fun k hk=>?_
 ·refine eNt hcl ?_ ?_
  ·exact Y56
  ·exact Y14
 clear hQ
 obtain⟨hk,hQ⟩:=hk
 refine Tq20 ?_
 refine ax (fun hc=>?_) (fun hc=>?_)
 ·have hk':k<s.length:=sHc
  obtain⟨c,hcx⟩:∃ c,c=s[k]:=⟨_,rfl⟩
  have hd:s.drop k=c::s.drop (k+1):=by rw[hcx];exact dcq hk'
  have hg':=a9 (f:=bC) (l:=s) (k:=k) (x:=c) (by rw[gQq hk',hcx])
  have hgs:s.getD k 0=c:=by rw[gEq,gQq hk',hcx];rfl
  have e5:=Yk5 k
  rw[hd]at hQ
  unfold n9 at hQ
  by_cases h1:97≤c.toNat
  ·have d1:decide ((c.toNat:Int) ≥ 97)=true:=dtq Xa
   by_cases h2:c.toNat≤122
   ·have d2:decide ((c.toNat:Int)≤122)=true:=dtq Xa
    have hb:tP c=true:=by unfold tP;rw[dtq h1,dtq h2];rfl
    rw[hb,Bool.true_or,Bool.true_and]at hQ
    simp only[go_sem,iNq,hgs,bC,e5,d1,d2,dn1,dn2]
    refine Tq8 ?_
    refine⟨k+1,⟨Xa,hQ⟩,Xa,?_⟩
    refine eNt hcl ?_ ?_
    ·exact Y56
    ·exact Y14
   ·have d2:decide ((c.toNat:Int)≤122)=false:=dfq Xa
    have hb:tP c=false:=by unfold tP;rw[dfq h2,Bool.and_false]
    rw[hb,Bool.false_or]at hQ
    by_cases h0:k=0
    ·have d0:((k:Int)==0)=true:=by rw[h0];rfl
     rw[dtq h0,Bool.not_true,Bool.false_and,Bool.false_and]at hQ
     rw[← hQ,Bool.false_and]at hR
     subst hR
     simp only[go_sem,iNq,hgs,bC,e5,d1,d2,d0,dn1,dn2]
     exact Y8
    have d0:((k:Int)==0)=false:=Xf
    rw[dfq h0,Bool.not_false,Bool.true_and]at hQ
    by_cases h95:c.toNat=95
    ·have d95:((c.toNat:Int) !=95)=false:=Xf
     have d3:decide ((c.toNat:Int)<48)=false:=dfq Xa
     have d4:decide ((c.toNat:Int)>57)=true:=dtq Xa
     have hp:gW c=true:=by unfold gW;rw[dtq h95,Bool.or_true]
     rw[hp,Bool.true_and]at hQ
     refine Tq74 ?_
     refine Tq8 ?_
     refine⟨k+1,⟨Xa,hQ⟩,Xa,?_⟩
     refine eNt hcl ?_ ?_
     ·exact Y56
     ·exact Y14
    have d95:((c.toNat:Int) !=95)=true:=Xf
    by_cases h3:c.toNat<48
    ·have d3:decide ((c.toNat:Int)<48)=true:=dtq Xa
     have hp:gW c=false:=by unfold gW;rw[dfq h95,dfq (by omega),Bool.false_and,Bool.or_false]
     rw[hp,Bool.false_and]at hQ
     rw[← hQ,Bool.false_and]at hR
     subst hR
     simp only[go_sem,iNq,hgs,bC,e5,d1,d2,d0,d95,d3,dn1,dn2]
     exact Y8
    have d3:decide ((c.toNat:Int)<48)=false:=dfq Xa
    by_cases h4:57<c.toNat
    ·have d4:decide ((c.toNat:Int)>57)=true:=dtq Xa
     have hp:gW c=false:=by unfold gW;rw[dfq h95,dfq (show ¬ c.toNat≤57 by omega),Bool.and_false,Bool.or_false]
     rw[hp,Bool.false_and]at hQ
     rw[← hQ,Bool.false_and]at hR
     subst hR
     refine Tq74 ?_
     exact Y8
    have d4:decide ((c.toNat:Int)>57)=false:=dfq Xa
    have hp:gW c=true:=by unfold gW;rw[dtq (show 48≤c.toNat by omega),dtq (show c.toNat≤57 by omega)];rfl
    rw[hp,Bool.true_and]at hQ
    refine Tq74 ?_
    refine Tq8 ?_
    refine⟨k+1,⟨Xa,hQ⟩,Xa,?_⟩
    refine eNt hcl ?_ ?_
    ·exact Y56
    ·exact Y14
  ·have d1:decide ((c.toNat:Int) ≥ 97)=false:=dfq Xa
   have hb:tP c=false:=by unfold tP;rw[dfq h1,Bool.false_and]
   rw[hb,Bool.false_or]at hQ
   by_cases h0:k=0
   ·have d0:((k:Int)==0)=true:=by rw[h0];rfl
    rw[dtq h0,Bool.not_true,Bool.false_and,Bool.false_and]at hQ
    rw[← hQ,Bool.false_and]at hR
    subst hR
    simp only[go_sem,iNq,hgs,bC,e5,d1,d0,dn1,dn2]
    exact Y8
   have d0:((k:Int)==0)=false:=Xf
   rw[dfq h0,Bool.not_false,Bool.true_and]at hQ
   by_cases h95:c.toNat=95
   ·have d95:((c.toNat:Int) !=95)=false:=Xf
    have d3:decide ((c.toNat:Int)<48)=false:=dfq Xa
    have d4:decide ((c.toNat:Int)>57)=true:=dtq Xa
    have hp:gW c=true:=by unfold gW;rw[dtq h95,Bool.or_true]
    rw[hp,Bool.true_and]at hQ
    refine Tq79 ?_
    refine Tq8 ?_
    refine⟨k+1,⟨Xa,hQ⟩,Xa,?_⟩
    refine eNt hcl ?_ ?_
    ·exact Y56
    ·exact Y14
   have d95:((c.toNat:Int) !=95)=true:=Xf
   by_cases h3:c.toNat<48
   ·have d3:decide ((c.toNat:Int)<48)=true:=dtq Xa
    have hp:gW c=false:=by unfold gW;rw[dfq h95,dfq (by omega),Bool.false_and,Bool.or_false]
    rw[hp,Bool.false_and]at hQ
    rw[← hQ,Bool.false_and]at hR
    subst hR
    simp only[go_sem,iNq,hgs,bC,e5,d1,d0,d95,d3,dn1,dn2]
    exact Y8
   have d3:decide ((c.toNat:Int)<48)=false:=dfq Xa
   by_cases h4:57<c.toNat
   ·have d4:decide ((c.toNat:Int)>57)=true:=dtq Xa
    have hp:gW c=false:=by unfold gW;rw[dfq h95,dfq (show ¬ c.toNat≤57 by omega),Bool.and_false,Bool.or_false]
    rw[hp,Bool.false_and]at hQ
    rw[← hQ,Bool.false_and]at hR
    subst hR
    refine Tq79 ?_
    exact Y8
   have d4:decide ((c.toNat:Int)>57)=false:=dfq Xa
   have hp:gW c=true:=by unfold gW;rw[dtq (show 48≤c.toNat by omega),dtq (show c.toNat≤57 by omega)];rfl
   rw[hp,Bool.true_and]at hQ
   refine Tq79 ?_
   refine Tq8 ?_
   refine⟨k+1,⟨Xa,hQ⟩,Xa,?_⟩
   refine eNt hcl ?_ ?_
   ·exact Y56
   ·exact Y14
 ·have hk':k=s.length:=sHc
  subst hk'
  rw[List.drop_length]at hQ
  unfold n9 at hQ
  rw[← hQ,Bool.true_and]at hR
  cases s with
  |nil =>
   have hR':R=false:=by rw[← hR];rfl
   subst hR'
   exact Y32
  |cons c r =>
   exact Y137
def nY:PCt
 |[.str s],_,K=>s.length≤140737488355328∧K (.bool (jh s))
 |_,_,_=>False
def Bv:EPp 73 nY:=by
 refine Ype fun _ H K h=>?_
 unfold nY at h
 split at h<;>try exact h.elim
 rename_i s
 obtain⟨hl,hK⟩:=h
 refine⟨_,hK,?_⟩
 clear hK
 generalize hR:jh s=R
 unfold jh at hR
 have d1:(s==[112,114,105,111,114,105,116,121])=!decide (s≠[112,114,105,111,114,105,116,121]):=Xw
 have d2:(s==[116,114,117,101])=!decide (s≠[116,114,117,101]):=Xw
 have d3:(s==[102,97,108,115,101])=!decide (s≠[102,97,108,115,101]):=Xw
 generalize decide (s≠[112,114,105,111,114,105,116,121])=b1 at *
 generalize decide (s≠[116,114,117,101])=b2 at *
 generalize decide (s≠[102,97,108,115,101])=b3 at *
 refine Yfu aD (tCq m7 tNq) Tryz.func73 [.tmp 2] fun hcl=>?_
 simp only[go_sem,fE]
 exact Y59
def mf:PCt
 |[.str s],_,K=>s.length≤140737488355328∧K (.bool (jh s))
 |_,_,_=>False
def MA:EPp 161 mf:=by
 refine Ype fun _ H K h=>?_
 unfold mf at h
 split at h<;>try exact h.elim
 rename_i s
 obtain⟨hl,hK⟩:=h
 refine⟨_,hK,?_⟩
 clear hK
 generalize hR:jh s=R
 unfold jh at hR
 have d1:(s==[112,114,105,111,114,105,116,121])=!decide (s≠[112,114,105,111,114,105,116,121]):=Xw
 have d2:(s==[116,114,117,101])=!decide (s≠[116,114,117,101]):=Xw
 have d3:(s==[102,97,108,115,101])=!decide (s≠[102,97,108,115,101]):=Xw
 generalize decide (s≠[112,114,105,111,114,105,116,121])=b1 at *
 generalize decide (s≠[116,114,117,101])=b2 at *
 generalize decide (s≠[102,97,108,115,101])=b3 at *
 refine Yfu aD (tCq yH tNq) Tryz.func161 [.tmp 2] fun hcl=>?_
 simp only[go_sem,jQ]
 exact Y59
structure SB(S:Sch):Prop where
 sl:SLen S
 gl:S.stages.length≤1000000
 xl:S.refs.length≤1000000
 fn:∀ x∈S.fields,x.name.length≤140737488355328
 hn:∀ x∈S.headers,x.name.length≤140737488355328∧x.fields.length≤1000000
 sn:∀ x∈S.states,x.cases.length≤1000000
 an:∀ x∈S.actions,x.name.length≤140737488355328∧x.params.length≤1000000∧x.body.length≤1000000∧∀ p∈x.params,p.name.length≤140737488355328
 tn:∀ x∈S.tables,x.name.length≤140737488355328∧x.keys.length≤1000000∧x.actions.length≤1000000∧x.dargs.length≤1000000∧∀ k∈x.keys,k.name.length≤140737488355328
 rn:∀ x∈S.roles,x.name.length≤140737488355328∧x.grants.length≤1000000∧x.actions.length≤1000000∧∀ g∈x.grants,g.keys.length≤1000000
def wB(n lo hi:Int):Bool:=decide (lo≤n)&&decide (n≤hi)
def br:PCt
 |[.int .i64 n,.int .i64 lo,.int .i64 hi],_,K=>K (.bool (wB n lo hi))
 |_,_,_=>False
def l7:EPp 80 br:=by
 refine Ype fun _ H K h=>?_
 unfold br at h
 split at h<;>try exact h.elim
 rename_i n lo hi
 refine⟨_,h,?_⟩
 clear h
 generalize hR:wB n lo hi=R
 unfold wB at hR
 refine Yfu aD tNq Tryz.func80 [.tmp 6] fun hcl=>?_
 obtain⟨b0,e0⟩:∃ b:Bool,(decide (lo≤n))=b:=⟨_,rfl⟩
 have d0:decide (n ≥ lo)=b0:=(show decide (n ≥ lo)=(decide (lo≤n)) from rfl).trans e0
 rw[e0]at hR
 cases b0 with
 |false=>
  rw[Bool.false_and]at hR
  subst hR
  try simp only[aX,aA,bhq,go_sem,d0]
  exact Y8
 |true=>
 rw[Bool.true_and]at hR
 obtain⟨b1,e1⟩:∃ b:Bool,(decide (n≤hi))=b:=⟨_,rfl⟩
 have d1:decide (n≤hi)=b1:=(show decide (n≤hi)=(decide (n≤hi)) from rfl).trans e1
 rw[e1]at hR
 cases b1 with
 |false=>
  subst hR
  refine Tq34 ?_
  exact Y8
 |true=>
 subst hR
 refine Tq34 ?_
 exact Y8
def cK:PCt
 |[.int .i64 n,.int .i64 lo,.int .i64 hi],_,K=>K (.bool (wB n lo hi))
 |_,_,_=>False
def Ab:EPp 162 cK:=by
 refine Ype fun _ H K h=>?_
 unfold cK at h
 split at h<;>try exact h.elim
 rename_i n lo hi
 refine⟨_,h,?_⟩
 clear h
 generalize hR:wB n lo hi=R
 unfold wB at hR
 refine Yfu aD tNq Tryz.func162 [.tmp 6] fun hcl=>?_
 obtain⟨b0,e0⟩:∃ b:Bool,(decide (lo≤n))=b:=⟨_,rfl⟩
 have d0:decide (n ≥ lo)=b0:=(show decide (n ≥ lo)=(decide (lo≤n)) from rfl).trans e0
 rw[e0]at hR
 cases b0 with
 |false=>
  rw[Bool.false_and]at hR
  subst hR
  try simp only[aX,aA,bhq,go_sem,d0]
  exact Y8
 |true=>
 rw[Bool.true_and]at hR
 obtain⟨b1,e1⟩:∃ b:Bool,(decide (n≤hi))=b:=⟨_,rfl⟩
 have d1:decide (n≤hi)=b1:=(show decide (n≤hi)=(decide (n≤hi)) from rfl).trans e1
 rw[e1]at hR
 cases b1 with
 |false=>
  subst hR
  refine Tq34 ?_
  exact Y8
 |true=>
 subst hR
 refine Tq34 ?_
 exact Y8
def i5:PCt
 |[.int .i64 n],_,K=>K (.bool (wB n 1 65534))
 |_,_,_=>False
def tB:EPp 82 i5:=by
 refine Ype fun _ H K h=>?_
 unfold i5 at h
 split at h<;>try exact h.elim
 rename_i n
 refine⟨_,h,?_⟩
 clear h
 refine Yfv aD (tCq l7 tNq) Tryz.func82 [.tmp 2] fun hcl hlt=>?_
 exact Y144
def rd:PCt
 |[.int .i64 n],_,K=>K (.bool (wB n 1 128))
 |_,_,_=>False
def AE:EPp 83 rd:=by
 refine Ype fun _ H K h=>?_
 unfold rd at h
 split at h<;>try exact h.elim
 rename_i n
 refine⟨_,h,?_⟩
 clear h
 refine Yfv aD (tCq l7 tNq) Tryz.func83 [.tmp 2] fun hcl hlt=>?_
 exact Y144
def yb:PCt
 |[x],H,K=>∃ t:SField,(x=aJ t∧t.name.length≤140737488355328)∧K (.bool (df t.name))
 |_,_,_=>False
def Ci:EPp 65 yb:=by
 refine Ype fun _ H K h=>?_
 unfold yb at h
 split at h<;>try exact h.elim
 rename_i x
 obtain⟨t,⟨rfl,hc⟩,hK⟩:=h
 refine⟨_,hK,?_⟩
 clear hK
 generalize hR:(df t.name)=R
 unfold aJ
 refine Yfu aD (tCq m7 tNq) Tryz.func65 [.tmp 2] fun hcl=>?_
 refine Tq30 ?_
 refine⟨hc,?_⟩
 cases c0:df t.name with
 |false=>
  rw[c0]at hR
  subst hR
  refine Tq19 ?_
  exact Y8
 |true=>
 rw[c0]at hR
 subst hR
 refine Tq19 ?_
 exact Y8
def xN:PCt
 |[x],H,K=>∃ t:SHeader,(x=az t∧t.name.length≤140737488355328)∧K (.bool (df t.name))
 |_,_,_=>False
def Cy:EPp 68 xN:=by
 refine Ype fun _ H K h=>?_
 unfold xN at h
 split at h<;>try exact h.elim
 rename_i x
 obtain⟨t,⟨rfl,hc⟩,hK⟩:=h
 refine⟨_,hK,?_⟩
 clear hK
 generalize hR:(df t.name)=R
 unfold az
 refine Yfu aD (tCq m7 tNq) Tryz.func68 [.tmp 2] fun hcl=>?_
 refine Tq30 ?_
 refine⟨hc,?_⟩
 cases c0:df t.name with
 |false=>
  rw[c0]at hR
  subst hR
  refine Tq19 ?_
  exact Y8
 |true=>
 rw[c0]at hR
 subst hR
 refine Tq19 ?_
 exact Y8
def vK:PCt
 |[x],H,K=>∃ t:SParam,(x=aL t∧t.name.length≤140737488355328)∧K (.bool (jh t.name))
 |_,_,_=>False
def BT:EPp 72 vK:=by
 refine Ype fun _ H K h=>?_
 unfold vK at h
 split at h<;>try exact h.elim
 rename_i x
 obtain⟨t,⟨rfl,hc⟩,hK⟩:=h
 refine⟨_,hK,?_⟩
 clear hK
 generalize hR:(jh t.name)=R
 unfold aL
 refine Yfu aD (tCq Bv tNq) Tryz.func72 [.tmp 2] fun hcl=>?_
 simp only[aX,aA,bhq,go_sem,nY]
 refine⟨hc,?_⟩
 cases c0:jh t.name with
 |false=>
  rw[c0]at hR
  subst hR
  refine Tq33 ?_
  exact Y8
 |true=>
 rw[c0]at hR
 subst hR
 refine Tq33 ?_
 exact Y8
def v7:PCt
 |[x],H,K=>∃ t:SKey,(x=aZ t∧t.name.length≤140737488355328)∧K (.bool (jh t.name))
 |_,_,_=>False
def Ar:EPp 77 v7:=by
 refine Ype fun _ H K h=>?_
 unfold v7 at h
 split at h<;>try exact h.elim
 rename_i x
 obtain⟨t,⟨rfl,hc⟩,hK⟩:=h
 refine⟨_,hK,?_⟩
 clear hK
 generalize hR:(jh t.name)=R
 unfold aZ
 refine Yfu aD (tCq Bv tNq) Tryz.func77 [.tmp 2] fun hcl=>?_
 simp only[aX,aA,bhq,go_sem,nY]
 refine⟨hc,?_⟩
 cases c0:jh t.name with
 |false=>
  rw[c0]at hR
  subst hR
  refine Tq33 ?_
  exact Y8
 |true=>
 rw[c0]at hR
 subst hR
 refine Tq33 ?_
 exact Y8
def yt:PCt
 |[x],H,K=>∃ t:SRole,(x=aP t∧t.name.length≤140737488355328)∧K (.bool (df t.name))
 |_,_,_=>False
def CN:EPp 79 yt:=by
 refine Ype fun _ H K h=>?_
 unfold yt at h
 split at h<;>try exact h.elim
 rename_i x
 obtain⟨t,⟨rfl,hc⟩,hK⟩:=h
 refine⟨_,hK,?_⟩
 clear hK
 generalize hR:(df t.name)=R
 unfold aP
 refine Yfu aD (tCq m7 tNq) Tryz.func79 [.tmp 2] fun hcl=>?_
 refine Tq30 ?_
 refine⟨hc,?_⟩
 cases c0:df t.name with
 |false=>
  rw[c0]at hR
  subst hR
  refine Tq19 ?_
  exact Y8
 |true=>
 rw[c0]at hR
 subst hR
 refine Tq19 ?_
 exact Y8
def tr(t:SAction):Bool:=df t.name&&t.params.all fun p=>jh p.name
def rV(t:STable):Bool:=df t.name&&t.keys.all fun k=>jh k.name
def yc:PCt
 |[x],H,K=>∃ t:SAction,(x=ap t∧(t.name.length≤140737488355328∧t.params.length≤1000000∧∀ p∈t.params,p.name.length≤140737488355328))∧K (.bool (tr t))
 |_,_,_=>False
def Cw:EPp 70 yc:=by
 refine Ype fun _ H K h=>?_
 unfold yc at h
 split at h<;>try exact h.elim
 rename_i x
 obtain⟨t,⟨rfl,hc⟩,hK⟩:=h
 refine⟨_,hK,?_⟩
 clear hK
 generalize hR:(tr t)=R
 unfold ap
 refine Yfu aD (tCq m7 (tCq AU tNq)) Tryz.func70 [.tmp 2] fun hcl=>?_
 unfold tr at hR
 refine Tq30 ?_
 refine⟨hc.1,?_⟩
 cases c0:df t.name with
 |false=>
  rw[c0,Bool.false_and]at hR
  subst hR
  refine Tq19 ?_
  exact Y8
 |true=>
 rw[c0,Bool.true_and]at hR
 try simp only[aX,aA,bhq,go_sem,fE,pt,c0]
 refine⟨t.params,(fun p=>jh p.name),⟨rfl,hc.2.1,fun x hx H' hle' hcl'=>clB BT ⟨x,⟨rfl,hc.2.2 x hx⟩,rfl⟩⟩,?_⟩
 cases c1:t.params.all fun p=>jh p.name with
 |false=>
  rw[c1]at hR
  subst hR
  try simp only[aX,aA,bhq,go_sem,fE,pt,c0,c1]
  exact Y8
 |true=>
 rw[c1]at hR
 subst hR
 try simp only[aX,aA,bhq,go_sem,fE,pt,c0,c1]
 exact Y8
def yf:PCt
 |[x],H,K=>∃ t:STable,(x=au t∧(t.name.length≤140737488355328∧t.keys.length≤1000000∧∀ p∈t.keys,p.name.length≤140737488355328))∧K (.bool (rV t))
 |_,_,_=>False
def B5:EPp 75 yf:=by
 refine Ype fun _ H K h=>?_
 unfold yf at h
 split at h<;>try exact h.elim
 rename_i x
 obtain⟨t,⟨rfl,hc⟩,hK⟩:=h
 refine⟨_,hK,?_⟩
 clear hK
 generalize hR:(rV t)=R
 unfold au
 refine Yfu aD (tCq m7 (tCq A1 tNq)) Tryz.func75 [.tmp 2] fun hcl=>?_
 unfold rV at hR
 refine Tq30 ?_
 refine⟨hc.1,?_⟩
 cases c0:df t.name with
 |false=>
  rw[c0,Bool.false_and]at hR
  subst hR
  refine Tq19 ?_
  exact Y8
 |true=>
 rw[c0,Bool.true_and]at hR
 try simp only[aX,aA,bhq,go_sem,fE,ld,c0]
 refine⟨t.keys,(fun k=>jh k.name),⟨rfl,hc.2.1,fun x hx H' hle' hcl'=>clB Ar ⟨x,⟨rfl,hc.2.2 x hx⟩,rfl⟩⟩,?_⟩
 cases c1:t.keys.all fun k=>jh k.name with
 |false=>
  rw[c1]at hR
  subst hR
  try simp only[aX,aA,bhq,go_sem,fE,ld,c0,c1]
  exact Y8
 |true=>
 rw[c1]at hR
 subst hR
 try simp only[aX,aA,bhq,go_sem,fE,ld,c0,c1]
 exact Y8
def nc(S:Sch):Bool:=(S.fields.all fun t=>df t.name)&&((S.headers.all fun t=>df t.name)&&(S.actions.all tr&&(S.tables.all rV&&S.roles.all fun t=>df t.name)))
def kz:PCt
 |[.agg l],_,K=>∃ S:Sch,(l=aR S∧SB S)∧K (.bool (nc S))
 |_,_,_=>False
def GZ:EPp 24 kz:=by
 refine Ype fun _ H K h=>?_
 unfold kz at h
 split at h<;>try exact h.elim
 rename_i l
 obtain⟨S,⟨rfl,hS⟩,hK⟩:=h
 refine⟨_,hK,?_⟩
 clear hK
 generalize hR:nc S=R
 unfold nc at hR
 refine Yfu aD (tCq AG (tCq sq (tCq qI (tCq oI (tCq qK tNq))))) Tryz.func24 [.tmp 2] fun hcl=>?_
 simp only[aX,aA,bhq,go_sem,aR,fP]
 refine⟨S.fields,(fun t=>df t.name),⟨rfl,hS.sl.fl,fun x hx H' hle' hcl'=>clB Ci ⟨x,⟨rfl,hS.fn x hx⟩,rfl⟩⟩,?_⟩
 cases c0:S.fields.all fun t=>df t.name with
 |false=>
  rw[c0,Bool.false_and]at hR
  subst hR
  try simp only[aX,aA,bhq,go_sem,aR,fP,c0]
  exact Y8
 |true=>
 rw[c0,Bool.true_and]at hR
 try simp only[aX,aA,bhq,go_sem,aR,fP,bY,c0]
 refine⟨S.headers,(fun t=>df t.name),⟨rfl,hS.sl.hl,fun x hx H' hle' hcl'=>clB Cy ⟨x,⟨rfl,(hS.hn x hx).1⟩,rfl⟩⟩,?_⟩
 cases c1:S.headers.all fun t=>df t.name with
 |false=>
  rw[c1,Bool.false_and]at hR
  subst hR
  try simp only[aX,aA,bhq,go_sem,aR,fP,bY,c0,c1]
  exact Y8
 |true=>
 rw[c1,Bool.true_and]at hR
 try simp only[aX,aA,bhq,go_sem,aR,fP,bY,bM,c0,c1]
 refine⟨S.actions,tr,⟨rfl,hS.sl.al,fun x hx H' hle' hcl'=>clB Cw ⟨x,⟨rfl,⟨(hS.an x hx).1,(hS.an x hx).2.1,(hS.an x hx).2.2.2⟩⟩,rfl⟩⟩,?_⟩
 cases c2:S.actions.all tr with
 |false=>
  rw[c2,Bool.false_and]at hR
  subst hR
  try simp only[aX,aA,bhq,go_sem,aR,fP,bY,bM,c0,c1,c2]
  exact Y8
 |true=>
 rw[c2,Bool.true_and]at hR
 try simp only[aX,aA,bhq,go_sem,aR,fP,bY,bM,bW,c0,c1,c2]
 refine⟨S.tables,rV,⟨rfl,hS.sl.tl,fun x hx H' hle' hcl'=>clB B5 ⟨x,⟨rfl,⟨(hS.tn x hx).1,(hS.tn x hx).2.1,(hS.tn x hx).2.2.2.2⟩⟩,rfl⟩⟩,?_⟩
 cases c3:S.tables.all rV with
 |false=>
  rw[c3,Bool.false_and]at hR
  subst hR
  try simp only[aX,aA,bhq,go_sem,aR,fP,bY,bM,bW,c0,c1,c2,c3]
  exact Y8
 |true=>
 rw[c3,Bool.true_and]at hR
 try simp only[aX,aA,bhq,go_sem,aR,fP,bY,bM,bW,cL,c0,c1,c2,c3]
 refine⟨S.roles,(fun t=>df t.name),⟨rfl,hS.sl.rl,fun x hx H' hle' hcl'=>clB CN ⟨x,⟨rfl,(hS.rn x hx).1⟩,rfl⟩⟩,?_⟩
 cases c4:S.roles.all fun t=>df t.name with
 |false=>
  rw[c4]at hR
  subst hR
  refine Tq66 ?_
  exact Y8
 |true=>
 rw[c4]at hR
 subst hR
 refine Tq66 ?_
 exact Y8
theorem px{n:Nat}:decide ((n:Int)>0)=decide (0<n):=Xc
def nm1(t:SField):Bool:=wB t.id 1 65534&&wB t.bits 1 128
def nm2(t:SHeader):Bool:=wB t.id 1 65534&&decide (0<t.fields.length)
def nm4(t:SAction):Bool:=wB t.id 1 65534&&t.params.all fun p=>wB p.bits 1 128
def nm5(t:STable):Bool:=wB t.id 1 65534&&(wB t.size 1 64&&decide (0<t.keys.length))
def nm6(t:SRole):Bool:=wB t.id 1 65534&&decide (t.quota≤512)
def tt(S:Sch):Bool:=wB S.maxBatch 1 32&&(wB S.budget 1 200&&(S.fields.all nm1&&(S.headers.all nm2&&((S.states.all fun t=>wB t.id 1 65534)&&(S.actions.all nm4&&(S.tables.all nm5&&S.roles.all nm6))))))
def Ey:PCt
 |[x],H,K=>∃ t:SField,(x=aJ t)∧K (.bool (nm1 t))
 |_,_,_=>False
def JB:EPp 81 Ey:=by
 refine Ype fun _ H K h=>?_
 unfold Ey at h
 split at h<;>try exact h.elim
 rename_i x
 obtain⟨t,rfl,hK⟩:=h
 refine⟨_,hK,?_⟩
 clear hK
 generalize hR:(nm1 t)=R
 unfold aJ
 refine Yfu aD (tCq tB (tCq AE tNq)) Tryz.func81 [.tmp 2] fun hcl=>?_
 unfold nm1 at hR
 cases c0:wB t.id 1 65534 with
 |false=>
  rw[c0,Bool.false_and]at hR
  subst hR
  refine Tq26 ?_
  exact Y8
 |true=>
 rw[c0,Bool.true_and]at hR
 cases c1:wB t.bits 1 128 with
 |false=>
  rw[c1]at hR
  subst hR
  try simp only[aX,aA,bhq,go_sem,i5,rd,c0,c1]
  exact Y8
 |true=>
 rw[c1]at hR
 subst hR
 try simp only[aX,aA,bhq,go_sem,i5,rd,c0,c1]
 exact Y8
def Ec:PCt
 |[x],H,K=>∃ t:SHeader,(x=az t)∧K (.bool (nm2 t))
 |_,_,_=>False
def M3:EPp 84 Ec:=by
 refine Ype fun _ H K h=>?_
 unfold Ec at h
 split at h<;>try exact h.elim
 rename_i x
 obtain⟨t,rfl,hK⟩:=h
 refine⟨_,hK,?_⟩
 clear hK
 generalize hR:(nm2 t)=R
 unfold az
 refine Yfu aD (tCq tB tNq) Tryz.func84 [.tmp 2] fun hcl=>?_
 unfold nm2 at hR
 cases c0:wB t.id 1 65534 with
 |false=>
  rw[c0,Bool.false_and]at hR
  subst hR
  refine Tq77 ?_
  exact Y8
 |true=>
 rw[c0,Bool.true_and]at hR
 cases c1:decide (0<t.fields.length)with
 |false=>
  rw[c1]at hR
  subst hR
  refine Tq73 ?_
  exact Y8
 |true=>
 rw[c1]at hR
 subst hR
 refine Tq73 ?_
 exact Y8
def EA:PCt
 |[x],H,K=>∃ t:SState,(x=aE t)∧K (.bool (wB t.id 1 65534))
 |_,_,_=>False
def Kf:EPp 86 EA:=by
 refine Ype fun _ H K h=>?_
 unfold EA at h
 split at h<;>try exact h.elim
 rename_i x
 obtain⟨t,rfl,hK⟩:=h
 refine⟨_,hK,?_⟩
 clear hK
 generalize hR:(wB t.id 1 65534)=R
 unfold aE
 refine Yfu aD (tCq tB tNq) Tryz.func86 [.tmp 2] fun hcl=>?_
 cases c0:wB t.id 1 65534 with
 |false=>
  rw[c0]at hR
  subst hR
  refine Tq26 ?_
  exact Y8
 |true=>
 rw[c0]at hR
 subst hR
 refine Tq26 ?_
 exact Y8
def AZ:PCt
 |[x],H,K=>∃ t:SParam,(x=aL t)∧K (.bool (wB t.bits 1 128))
 |_,_,_=>False
def Fw:EPp 88 AZ:=by
 refine Ype fun _ H K h=>?_
 unfold AZ at h
 split at h<;>try exact h.elim
 rename_i x
 obtain⟨t,rfl,hK⟩:=h
 refine⟨_,hK,?_⟩
 clear hK
 generalize hR:(wB t.bits 1 128)=R
 unfold aL
 refine Yfu aD (tCq AE tNq) Tryz.func88 [.tmp 2] fun hcl=>?_
 cases c0:wB t.bits 1 128 with
 |false=>
  rw[c0]at hR
  subst hR
  try simp only[aX,aA,bhq,go_sem,rd,c0]
  exact Y8
 |true=>
 rw[c0]at hR
 subst hR
 try simp only[aX,aA,bhq,go_sem,rd,c0]
 exact Y8
def Ei:PCt
 |[x],H,K=>∃ t:SAction,(x=ap t∧t.params.length≤1000000)∧K (.bool (nm4 t))
 |_,_,_=>False
def KK:EPp 87 Ei:=by
 refine Ype fun _ H K h=>?_
 unfold Ei at h
 split at h<;>try exact h.elim
 rename_i x
 obtain⟨t,⟨rfl,hc⟩,hK⟩:=h
 refine⟨_,hK,?_⟩
 clear hK
 generalize hR:(nm4 t)=R
 unfold ap
 refine Yfu aD (tCq tB (tCq AU tNq)) Tryz.func87 [.tmp 2] fun hcl=>?_
 unfold nm4 at hR
 cases c0:wB t.id 1 65534 with
 |false=>
  rw[c0,Bool.false_and]at hR
  subst hR
  refine Tq26 ?_
  exact Y8
 |true=>
 rw[c0,Bool.true_and]at hR
 simp only[aX,aA,bhq,go_sem,i5,pt,c0]
 refine⟨t.params,(fun p=>wB p.bits 1 128),⟨rfl,hc,fun x hx H' hle' hcl'=>clB Fw ⟨x,rfl,rfl⟩⟩,?_⟩
 cases c1:t.params.all fun p=>wB p.bits 1 128 with
 |false=>
  rw[c1]at hR
  subst hR
  try simp only[aX,aA,bhq,go_sem,i5,pt,c0,c1]
  exact Y8
 |true=>
 rw[c1]at hR
 subst hR
 try simp only[aX,aA,bhq,go_sem,i5,pt,c0,c1]
 exact Y8
def D7:PCt
 |[x],H,K=>∃ t:STable,(x=au t)∧K (.bool (nm5 t))
 |_,_,_=>False
def LC:EPp 89 D7:=by
 refine Ype fun _ H K h=>?_
 unfold D7 at h
 split at h<;>try exact h.elim
 rename_i x
 obtain⟨t,rfl,hK⟩:=h
 refine⟨_,hK,?_⟩
 clear hK
 generalize hR:(nm5 t)=R
 unfold au
 refine Yfu aD (tCq tB (tCq l7 tNq)) Tryz.func89 [.tmp 2] fun hcl=>?_
 unfold nm5 at hR
 cases c0:wB t.id 1 65534 with
 |false=>
  rw[c0,Bool.false_and]at hR
  subst hR
  refine Tq77 ?_
  exact Y8
 |true=>
 rw[c0,Bool.true_and]at hR
 cases c1:wB t.size 1 64 with
 |false=>
  rw[c1,Bool.false_and]at hR
  subst hR
  try simp only[aX,aA,bhq,go_sem,ybb,px,inL,i5,br,c0,c1]
  exact Y8
 |true=>
 rw[c1,Bool.true_and]at hR
 cases c2:decide (0<t.keys.length)with
 |false=>
  rw[c2]at hR
  subst hR
  refine Tq68 ?_
  exact Y8
 |true=>
 rw[c2]at hR
 subst hR
 refine Tq68 ?_
 exact Y8
def Ea:PCt
 |[x],H,K=>∃ t:SRole,(x=aP t)∧K (.bool (nm6 t))
 |_,_,_=>False
def JJ:EPp 90 Ea:=by
 refine Ype fun _ H K h=>?_
 unfold Ea at h
 split at h<;>try exact h.elim
 rename_i x
 obtain⟨t,rfl,hK⟩:=h
 refine⟨_,hK,?_⟩
 clear hK
 generalize hR:(nm6 t)=R
 unfold aP
 refine Yfu aD (tCq tB tNq) Tryz.func90 [.tmp 2] fun hcl=>?_
 unfold nm6 at hR
 cases c0:wB t.id 1 65534 with
 |false=>
  rw[c0,Bool.false_and]at hR
  subst hR
  refine Tq26 ?_
  exact Y8
 |true=>
 rw[c0,Bool.true_and]at hR
 cases c1:decide (t.quota≤512)with
 |false=>
  rw[c1]at hR
  subst hR
  try simp only[aX,aA,bhq,go_sem,i5,i5,c0,c1]
  exact Y8
 |true=>
 rw[c1]at hR
 subst hR
 try simp only[aX,aA,bhq,go_sem,i5,i5,c0,c1]
 exact Y8
def pn:PCt
 |[.agg l],_,K=>∃ S:Sch,(l=aR S∧SB S)∧K (.bool (tt S))
 |_,_,_=>False
def Oh:EPp 25 pn:=by
 refine Ype fun _ H K h=>?_
 unfold pn at h
 split at h<;>try exact h.elim
 rename_i l
 obtain⟨S,⟨rfl,hS⟩,hK⟩:=h
 refine⟨_,hK,?_⟩
 clear hK
 generalize hR:tt S=R
 unfold tt at hR
 refine Yfu aD (tCq l7 (tCq AG (tCq sq (tCq sC (tCq qI (tCq oI (tCq qK tNq))))))) Tryz.func25 [.tmp 2] fun hcl=>?_
 cases c0:wB S.maxBatch 1 32 with
 |false=>
  rw[c0,Bool.false_and]at hR
  subst hR
  try simp only[aX,aA,bhq,go_sem,aR,br,c0]
  exact Y8
 |true=>
 rw[c0,Bool.true_and]at hR
 cases c1:wB S.budget 1 200 with
 |false=>
  rw[c1,Bool.false_and]at hR
  subst hR
  try simp only[aX,aA,bhq,go_sem,aR,br,br,c0,c1]
  exact Y8
 |true=>
 rw[c1,Bool.true_and]at hR
 simp only[aX,aA,bhq,go_sem,aR,br,br,fP,c0,c1]
 refine⟨S.fields,nm1,⟨rfl,hS.sl.fl,fun x hx H' hle' hcl'=>clB JB ⟨x,rfl,rfl⟩⟩,?_⟩
 cases c2:S.fields.all nm1 with
 |false=>
  rw[c2,Bool.false_and]at hR
  subst hR
  try simp only[aX,aA,bhq,go_sem,aR,br,br,fP,c0,c1,c2]
  exact Y8
 |true=>
 rw[c2,Bool.true_and]at hR
 try simp only[aX,aA,bhq,go_sem,aR,br,br,fP,bY,c0,c1,c2]
 refine⟨S.headers,nm2,⟨rfl,hS.sl.hl,fun x hx H' hle' hcl'=>clB M3 ⟨x,rfl,rfl⟩⟩,?_⟩
 cases c3:S.headers.all nm2 with
 |false=>
  rw[c3,Bool.false_and]at hR
  subst hR
  try simp only[aX,aA,bhq,go_sem,aR,br,br,fP,bY,c0,c1,c2,c3]
  exact Y8
 |true=>
 rw[c3,Bool.true_and]at hR
 try simp only[aX,aA,bhq,go_sem,aR,br,br,fP,bY,cx,c0,c1,c2,c3]
 refine⟨S.states,(fun t=>wB t.id 1 65534),⟨rfl,hS.sl.sl,fun x hx H' hle' hcl'=>clB Kf ⟨x,rfl,rfl⟩⟩,?_⟩
 cases c4:S.states.all fun t=>wB t.id 1 65534 with
 |false=>
  rw[c4,Bool.false_and]at hR
  subst hR
  try simp only[aX,aA,bhq,go_sem,aR,br,br,fP,bY,cx,c0,c1,c2,c3,c4]
  exact Y8
 |true=>
 rw[c4,Bool.true_and]at hR
 try simp only[aX,aA,bhq,go_sem,aR,br,br,fP,bY,cx,bM,c0,c1,c2,c3,c4]
 refine⟨S.actions,nm4,⟨rfl,hS.sl.al,fun x hx H' hle' hcl'=>clB KK ⟨x,⟨rfl,(hS.an x hx).2.1⟩,rfl⟩⟩,?_⟩
 cases c5:S.actions.all nm4 with
 |false=>
  rw[c5,Bool.false_and]at hR
  subst hR
  try simp only[aX,aA,bhq,go_sem,aR,br,br,fP,bY,cx,bM,c0,c1,c2,c3,c4,c5]
  exact Y8
 |true=>
 rw[c5,Bool.true_and]at hR
 try simp only[aX,aA,bhq,go_sem,aR,br,br,fP,bY,cx,bM,bW,c0,c1,c2,c3,c4,c5]
 refine⟨S.tables,nm5,⟨rfl,hS.sl.tl,fun x hx H' hle' hcl'=>clB LC ⟨x,rfl,rfl⟩⟩,?_⟩
 cases c6:S.tables.all nm5 with
 |false=>
  rw[c6,Bool.false_and]at hR
  subst hR
  try simp only[aX,aA,bhq,go_sem,aR,br,br,fP,bY,cx,bM,bW,c0,c1,c2,c3,c4,c5,c6]
  exact Y8
 |true=>
 rw[c6,Bool.true_and]at hR
 try simp only[aX,aA,bhq,go_sem,aR,br,br,fP,bY,cx,bM,bW,cL,c0,c1,c2,c3,c4,c5,c6]
 refine⟨S.roles,nm6,⟨rfl,hS.sl.rl,fun x hx H' hle' hcl'=>clB JJ ⟨x,rfl,rfl⟩⟩,?_⟩
 cases c7:S.roles.all nm6 with
 |false=>
  rw[c7]at hR
  subst hR
  refine Tq55 ?_
  exact Y8
 |true=>
 rw[c7]at hR
 subst hR
 refine Tq55 ?_
 exact Y8
end Go.AL
