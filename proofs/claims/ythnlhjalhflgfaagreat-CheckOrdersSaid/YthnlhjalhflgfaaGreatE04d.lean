/- Lemmas of the proof; no condition. -/
import Derived.Test.YthnlhjalhflgfaaGreatS12a
set_option linter.all false
set_option maxRecDepth 10000
set_option maxHeartbeats 32000000
open Go Go.AL Go.Proofs
namespace Go.AL
theorem O8:ti Tryz.prog 45=some ⟨.struct [(0,3,false),(1,9,false),(2,3,false)],3,32,.agg [.int .i64 0,.str [],.int .i64 0]⟩:=krf
theorem Gi:tSl Tryz.prog 25 45:=kSl
theorem K7:tFn Tryz.prog 174:=kFn
theorem Nf:ti Tryz.prog 69=some ⟨.struct [(0,3,false),(1,9,false),(2,23,false)],3,48,.agg [.int .i64 0,.str [],.slice .nil 1 []]⟩:=krf
theorem Lt:tSl Tryz.prog 26 69:=kSl
theorem Lj:tFn Tryz.prog 176:=kFn
theorem L8:ti Tryz.prog 81=some ⟨.struct [(0,3,false),(1,3,false),(2,3,false),(3,79,false),(4,3,false)],5,56,.agg [.int .i64 0,.int .i64 0,.int .i64 0,.slice .nil 1 [],.int .i64 0]⟩:=krf
theorem Je:tSl Tryz.prog 27 81:=kSl
theorem IY:tFn Tryz.prog 188:=kFn
theorem LA:ti Tryz.prog 86=some ⟨.struct [(0,3,false),(1,9,false),(2,83,false),(3,84,false),(4,9,false)],5,88,.agg [.int .i64 0,.str [],.slice .nil 1 [],.slice .nil 1 [],.str []]⟩:=krf
theorem JZ:tSl Tryz.prog 28 86:=kSl
theorem KZ:tFn Tryz.prog 180:=kFn
theorem Oq:ti Tryz.prog 114=some ⟨.struct [(0,9,false),(1,3,false)],2,24,.agg [.str [],.int .i64 0]⟩:=krf
theorem Ko:tSl Tryz.prog 83 114:=kSl
theorem Lp:tFn Tryz.prog 179:=kFn
theorem OK:ti Tryz.prog 57=some ⟨.struct [(0,3,false),(1,9,false),(2,54,false),(3,23,false),(4,3,false),(5,55,false),(6,3,false),(7,9,false)],8,128,.agg [.int .i64 0,.str [],.slice .nil 1 [],.slice .nil 1 [],.int .i64 0,.slice .nil 1 [],.int .i64 0,.str []]⟩:=krf
theorem GF:tSl Tryz.prog 29 57:=kSl
theorem K4:tFn Tryz.prog 103:=kFn
theorem O1:ti Tryz.prog 53=some ⟨.struct [(0,9,false),(1,3,false),(2,3,false)],3,32,.agg [.str [],.int .i64 0,.int .i64 0]⟩:=krf
theorem Js:tSl Tryz.prog 54 53:=kSl
theorem Gy:tFn Tryz.prog 183:=kFn
theorem L1:ti Tryz.prog 48=some ⟨.struct [(0,3,false),(1,9,false),(2,46,false),(3,23,false),(4,3,false),(5,4,false)],6,88,.agg [.int .i64 0,.str [],.slice .nil 1 [],.slice .nil 1 [],.int .i64 0,.bool false]⟩:=krf
theorem I7:tSl Tryz.prog 31 48:=kSl
theorem Fs:tFn Tryz.prog 185:=kFn
theorem MM:ti Tryz.prog 112=some ⟨.struct [(0,3,false),(1,3,false),(2,110,false)],6,48,.agg [.int .i64 0,.int .i64 0,.int .i64 0,.int .i64 0,.int .u64 0,.int .u64 0]⟩:=krf
theorem KA:tSl Tryz.prog 84 112:=kSl
theorem HH:tFn Tryz.prog 205:=kFn
theorem N4:ti Tryz.prog 75=some ⟨.struct [(0,3,false),(1,3,false)],2,16,.agg [.int .i64 0,.int .i64 0]⟩:=krf
theorem Lv:tSl Tryz.prog 30 75:=kSl
theorem Jm:tFn Tryz.prog 211:=kFn
theorem Oc:ti Tryz.prog 119=some ⟨.struct [(0,3,false),(1,4,false),(2,4,false),(3,117,false)],4,40,.agg [.int .i64 0,.bool false,.bool false,.slice .nil 1 []]⟩:=krf
theorem FH:tSl Tryz.prog 46 119:=kSl
theorem Jd:tFn Tryz.prog 213:=kFn
theorem Mg:ti Tryz.prog 108=some ⟨.struct [(0,106,false),(2,106,false),(4,3,false)],5,40,.agg [.int .u64 0,.int .u64 0,.int .u64 0,.int .u64 0,.int .i64 0]⟩:=krf
theorem Fl:tSl Tryz.prog 79 108:=kSl
theorem Gq:tFn Tryz.prog 219:=kFn
theorem LC:ti Tryz.prog 50=some ⟨.struct [(0,3,false),(1,3,false),(2,3,false),(3,3,false),(4,3,false),(5,3,false)],6,48,.agg [.int .i64 0,.int .i64 0,.int .i64 0,.int .i64 0,.int .i64 0,.int .i64 0]⟩:=krf
theorem Hz:tSl Tryz.prog 32 50:=kSl
theorem Kq:tFn Tryz.prog 99:=kFn
theorem NC:ti Tryz.prog 3=some ⟨.int .i64,1,8,.int .i64 0⟩:=krf
theorem Fp:tSl Tryz.prog 23 3:=kSl
theorem Ha:tFn Tryz.prog 100:=kFn
attribute [go_sem] O8 Gi K7 Nf Lt Lj L8 Je IY LA JZ KZ Oq Ko Lp OK GF K4 O1 Js Gy L1 I7 Fs MM KA HH N4 Lv Jm Oc FH Jd Mg Fl Gq LC Hz Kq NC Fp Ha
def iT (P:Program) (F:FuncId):PCt:=fun args H K=>∃ x,K x∧ACalls P F args H (.ret x) H
theorem ex {P:Program} {F:FuncId}:EntOk P F (Ent.pure (iT P F)):=EntOk.pure fun _ _ _ h=>h
theorem eC {α:Type} {q:α→Bool}:∀ {l:List α} {k:Nat},decide (0≤ixP q l k)=l.any q
 |[],_=>rfl
 |x::l,k=>by
  unfold ixP
  rw [List.any_cons]
  cases h:q x
  ·rw [if_neg (by decide),eC,Bool.false_or]
  ·rw [if_pos rfl,Bool.true_or];exact dtq (Int.natCast_nonneg _)
theorem jk {α:Type} {q:α→Bool} {l:List α}:(!(l.any fun x=>!q x))=l.all q:=by
 induction l with
 |nil=>rfl
 |cons x l ih=>rw [List.any_cons,List.all_cons,← ih];cases q x<;>simp
theorem tfB:(∀ x,(true&&x)=x)∧(∀ x,(false&&x)=false)∧(∀ x,(x&&true)=x)∧(∀ x,(x&&false)=false)∧(∀ x,(true||x)=true)∧(∀ x,(false||x)=x)∧(∀ x,(x||true)=true)∧(∀ x,(x||false)=x)∧(!true)=false∧(!false)=true∧(false=true)=False∧(true=false)=False:=by decide +revert
theorem tfC:type_of% tfB∧(∀ {α:Type} {a b:α} {_:Decidable True},ite True a b=a)∧∀ {α:Type} {a b:α} {_:Decidable False},ite False a b=b:=⟨tfB,fun {_ a b _}=>if_true a b,fun {_ a b _}=>if_false a b⟩
theorem clB {P:Program} {f:FuncId} {p:PCt} {args:List AV} {H:AHeap} {b:AV} (h:EntOk P f (Ent.pure p)) (hp:p args H (fun v=>v=b)):ACalls P f args H (.ret b) H:=by
 obtain ⟨v,hv,hc⟩:=h.1 rfl _ _ _ hp
 subst hv
 exact hc
def AV.smk:AV→Mark
 |.slice m _ _=>m
 |_=>.any
def pIx {α:Type} (P:Program) (av:α→AV) (sz:Nat):PCt
 |[x,.func (.func F) fst caps],H,K=>∃ (ts:List α) (q:α→Bool),(x=.slice x.smk sz (ts.map av)∧ts.length≤1000000∧∀ x∈ts,ACalls P F (fst++[av x]++caps) H (.ret (.bool (q x))) H)∧K (.int .i64 (ixP q ts 0))
 |_,_,_=>False
theorem kA {α:Type} {P:Program} {f:FuncId} {av:α→AV} {sz:Nat} (h:∀ (av':α→AV) (sz':Nat),av'=av→sz'=sz→∀ (m:Mark) (ts:List α) (q:α→Bool) (F:FuncId) (fst caps:List AV) (H:AHeap),ts.length≤1000000→(∀ x∈ts,ACalls P F (fst++[av' x]++caps) H (.ret (.bool (q x))) H)→ACalls P f [.slice m sz' (ts.map av'),.func (.func F) fst caps] H (.ret (.int .i64 (ixP q ts 0))) H):EntOk P f (Ent.pure (pIx P av sz)):=by
 refine EntOk.pure fun args H K hh=>?_
 unfold pIx at hh
 exact Y69
def pAn {α:Type} (P:Program) (av:α→AV) (sz:Nat):PCt
 |[x,.func (.func F) fst caps],H,K=>∃ (ts:List α) (q:α→Bool),(x=.slice x.smk sz (ts.map av)∧ts.length≤1000000∧∀ x∈ts,ACalls P F (fst++[av x]++caps) H (.ret (.bool (q x))) H)∧K (.bool (ts.any q))
 |_,_,_=>False
theorem ko {α:Type} {P:Program} {f:FuncId} {av:α→AV} {sz:Nat} (h:∀ (av':α→AV) (sz':Nat),av'=av→sz'=sz→∀ (m:Mark) (ts:List α) (q:α→Bool) (F:FuncId) (fst caps:List AV) (H:AHeap),ts.length≤1000000→(∀ x∈ts,ACalls P F (fst++[av' x]++caps) H (.ret (.bool (q x))) H)→ACalls P f [.slice m sz' (ts.map av'),.func (.func F) fst caps] H (.ret (.bool (ts.any q))) H):EntOk P f (Ent.pure (pAn P av sz)):=by
 refine EntOk.pure fun args H K hh=>?_
 unfold pAn at hh
 exact Y69
def pEv {α:Type} (P:Program) (av:α→AV) (sz:Nat):PCt
 |[x,.func (.func F) fst caps],H,K=>∃ (ts:List α) (q:α→Bool),(x=.slice x.smk sz (ts.map av)∧ts.length≤1000000∧∀ x∈ts,∀ H',H.Le H'→H'.Closed→ACalls P F (fst++[av x]++caps) H' (.ret (.bool (q x))) H')∧K (.bool (ts.all q))
 |_,_,_=>False
theorem kF {α:Type} {P:Program} {f:FuncId} {av:α→AV} {sz:Nat} (h:∀ (av':α→AV) (sz':Nat),av'=av→sz'=sz→∀ (m:Mark) (ts:List α) (q:α→Bool) (F:FuncId) (fst caps:List AV) (H:AHeap),ts.length≤1000000→(∀ x∈ts,∀ H',H.Le H'→H'.Closed→ACalls P F (fst++[av' x]++caps) H' (.ret (.bool (q x))) H')→ACalls P f [.slice m sz' (ts.map av'),.func (.func F) fst caps] H (.ret (.bool (ts.all q))) H):EntOk P f (Ent.pure (pEv P av sz)):=by
 refine EntOk.pure fun args H K hh=>?_
 unfold pEv at hh
 exact Y69
def pCl {α:Type} (P:Program) (av:α→AV):PCt
 |[x,.ptr c 0],H,K=>∃ (t:α) (b:Bool) (F:FuncId) (fst caps:List AV),(x=av t∧H.get c=some (.cells [.func (.func F) fst caps])∧∀ H',H.Le H'→H'.Closed→ACalls P F (fst++[av t]++caps) H' (.ret (.bool b)) H')∧K (.bool (!b))
 |_,_,_=>False
theorem kL {α:Type} {P:Program} {f:FuncId} {av:α→AV} (h:∀ (av':α→AV),av'=av→∀ (t:α) (c:Nat) (b:Bool) (F:FuncId) (fst caps:List AV) (H:AHeap),H.get c=some (.cells [.func (.func F) fst caps])→(∀ H',H.Le H'→H'.Closed→ACalls P F (fst++[av' t]++caps) H' (.ret (.bool b)) H')→ACalls P f [av' t,.ptr c 0] H (.ret (.bool (!b))) H):EntOk P f (Ent.pure (pCl P av)):=by
 refine EntOk.pure fun args H K hh=>?_
 unfold pCl at hh
 split at hh
 ·obtain ⟨t,b,F,fst,caps,⟨h1,h2,h3⟩,h4⟩:=hh
  rw [h1]
  exact ⟨_,h4,h av rfl t _ b _ _ _ _ h2 h3⟩
 ·exact hh.elim
attribute [go_sem] pIx pAn pEv pCl
abbrev Mm:=@pIx SField Tryz.prog aG 3
abbrev NU:=@pAn SField Tryz.prog aG 3
abbrev fq:=@pEv SField Tryz.prog aG 3
abbrev OY:=@pCl SField Tryz.prog aG
theorem Ia:EPp 318 Mm:=kA fun av sz ha hs m ts q F fst caps H hl hq=>by
 have hag:∀ x,∃ cs,av x=.agg cs∧cs.length=sz:=by subst ha hs;exact fun x=>⟨_,rfl,rfl⟩
 refine Yfv aE (tCq (ex (F:=F)) tNq) Tryz.func318 [.tmp 4] fun hcl hlt=>?_
 exact Y2
theorem I5:EPp 233 NU:=ko fun av sz ha hs m ts q F fst caps H hl hq=>by
 refine Yfv aE (tCq Ia tNq) Tryz.func233 [.tmp 4] fun hcl hlt=>?_
 exact Y17
theorem HP:EPp 234 OY:=kL fun av ha t c b F fst caps H hg hq=>by
 have hag:∀ x,∃ cs,av x=.agg cs∧cs.length=3:=by subst ha;exact fun x=>⟨_,rfl,rfl⟩
 refine Yfv aE (tCq (ex (F:=F)) tNq) Tryz.func234 [.tmp 3] fun hcl hlt=>?_
 exact Y7
theorem zT:EPp 75 fq:=kF fun av sz ha hs m ts q F fst caps H hl hq=>by
 have hL:EPp 234 (pCl Tryz.prog av):=by rw [ha];exact HP
 refine Yfv aE (tCq I5 tNq) Tryz.func75 [.tmp 4] fun hcl hlt=>?_
 exact Y6
abbrev N0:=@pIx SHeader Tryz.prog az 3
abbrev L6:=@pAn SHeader Tryz.prog az 3
abbrev b6:=@pEv SHeader Tryz.prog az 3
abbrev MX:=@pCl SHeader Tryz.prog az
theorem Lg:EPp 319 N0:=kA fun av sz ha hs m ts q F fst caps H hl hq=>by
 have hag:∀ x,∃ cs,av x=.agg cs∧cs.length=sz:=by subst ha hs;exact fun x=>⟨_,rfl,rfl⟩
 refine Yfv aE (tCq (ex (F:=F)) tNq) Tryz.func319 [.tmp 4] fun hcl hlt=>?_
 exact Y2
theorem HV:EPp 235 L6:=ko fun av sz ha hs m ts q F fst caps H hl hq=>by
 refine Yfv aE (tCq Lg tNq) Tryz.func235 [.tmp 4] fun hcl hlt=>?_
 exact Y17
theorem KV:EPp 236 MX:=kL fun av ha t c b F fst caps H hg hq=>by
 have hag:∀ x,∃ cs,av x=.agg cs∧cs.length=3:=by subst ha;exact fun x=>⟨_,rfl,rfl⟩
 refine Yfv aE (tCq (ex (F:=F)) tNq) Tryz.func236 [.tmp 3] fun hcl hlt=>?_
 exact Y7
theorem qK:EPp 78 b6:=kF fun av sz ha hs m ts q F fst caps H hl hq=>by
 have hL:EPp 236 (pCl Tryz.prog av):=by rw [ha];exact KV
 refine Yfv aE (tCq HV tNq) Tryz.func78 [.tmp 4] fun hcl hlt=>?_
 exact Y6
abbrev Ob:=@pIx SState Tryz.prog aA 5
abbrev NX:=@pAn SState Tryz.prog aA 5
abbrev cr:=@pEv SState Tryz.prog aA 5
abbrev N1:=@pCl SState Tryz.prog aA
theorem GJ:EPp 323 Ob:=kA fun av sz ha hs m ts q F fst caps H hl hq=>by
 have hag:∀ x,∃ cs,av x=.agg cs∧cs.length=sz:=by subst ha hs;exact fun x=>⟨_,rfl,rfl⟩
 refine Yfv aE (tCq (ex (F:=F)) tNq) Tryz.func323 [.tmp 4] fun hcl hlt=>?_
 exact Y2
theorem Kk:EPp 247 NX:=ko fun av sz ha hs m ts q F fst caps H hl hq=>by
 refine Yfv aE (tCq GJ tNq) Tryz.func247 [.tmp 4] fun hcl hlt=>?_
 exact Y17
theorem H6:EPp 248 N1:=kL fun av ha t c b F fst caps H hg hq=>by
 have hag:∀ x,∃ cs,av x=.agg cs∧cs.length=5:=by subst ha;exact fun x=>⟨_,rfl,rfl⟩
 refine Yfv aE (tCq (ex (F:=F)) tNq) Tryz.func248 [.tmp 3] fun hcl hlt=>?_
 exact Y7
theorem qJ:EPp 96 cr:=kF fun av sz ha hs m ts q F fst caps H hl hq=>by
 have hL:EPp 248 (pCl Tryz.prog av):=by rw [ha];exact H6
 refine Yfv aE (tCq Kk tNq) Tryz.func96 [.tmp 4] fun hcl hlt=>?_
 exact Y6
abbrev MN:=@pIx SAction Tryz.prog ap 5
abbrev MF:=@pAn SAction Tryz.prog ap 5
abbrev bQ:=@pEv SAction Tryz.prog ap 5
abbrev Ok:=@pCl SAction Tryz.prog ap
theorem Hw:EPp 277 MN:=kA fun av sz ha hs m ts q F fst caps H hl hq=>by
 have hag:∀ x,∃ cs,av x=.agg cs∧cs.length=sz:=by subst ha hs;exact fun x=>⟨_,rfl,rfl⟩
 refine Yfv aE (tCq (ex (F:=F)) tNq) Tryz.func277 [.tmp 4] fun hcl hlt=>?_
 exact Y2
theorem Ic:EPp 237 MF:=ko fun av sz ha hs m ts q F fst caps H hl hq=>by
 refine Yfv aE (tCq Hw tNq) Tryz.func237 [.tmp 4] fun hcl hlt=>?_
 exact Y17
theorem FB:EPp 238 Ok:=kL fun av ha t c b F fst caps H hg hq=>by
 have hag:∀ x,∃ cs,av x=.agg cs∧cs.length=5:=by subst ha;exact fun x=>⟨_,rfl,rfl⟩
 refine Yfv aE (tCq (ex (F:=F)) tNq) Tryz.func238 [.tmp 3] fun hcl hlt=>?_
 exact Y7
theorem oY:EPp 80 bQ:=kF fun av sz ha hs m ts q F fst caps H hl hq=>by
 have hL:EPp 238 (pCl Tryz.prog av):=by rw [ha];exact FB
 refine Yfv aE (tCq Ic tNq) Tryz.func80 [.tmp 4] fun hcl hlt=>?_
 exact Y6
abbrev OB:=@pIx SParam Tryz.prog aL 2
abbrev MB:=@pAn SParam Tryz.prog aL 2
abbrev nY:=@pEv SParam Tryz.prog aL 2
abbrev Oe:=@pCl SParam Tryz.prog aL
theorem Kl:EPp 320 OB:=kA fun av sz ha hs m ts q F fst caps H hl hq=>by
 have hag:∀ x,∃ cs,av x=.agg cs∧cs.length=sz:=by subst ha hs;exact fun x=>⟨_,rfl,rfl⟩
 refine Yfv aE (tCq (ex (F:=F)) tNq) Tryz.func320 [.tmp 4] fun hcl hlt=>?_
 exact Y2
theorem JU:EPp 239 MB:=ko fun av sz ha hs m ts q F fst caps H hl hq=>by
 refine Yfv aE (tCq Kl tNq) Tryz.func239 [.tmp 4] fun hcl hlt=>?_
 exact Y17
theorem G7:EPp 240 Oe:=kL fun av ha t c b F fst caps H hg hq=>by
 have hag:∀ x,∃ cs,av x=.agg cs∧cs.length=2:=by subst ha;exact fun x=>⟨_,rfl,rfl⟩
 refine Yfv aE (tCq (ex (F:=F)) tNq) Tryz.func240 [.tmp 3] fun hcl hlt=>?_
 exact Y7
theorem y8:EPp 82 nY:=kF fun av sz ha hs m ts q F fst caps H hl hq=>by
 have hL:EPp 240 (pCl Tryz.prog av):=by rw [ha];exact G7
 refine Yfv aE (tCq JU tNq) Tryz.func82 [.tmp 4] fun hcl hlt=>?_
 exact Y6
abbrev Ms:=@pIx STable Tryz.prog ax 8
abbrev M4:=@pAn STable Tryz.prog ax 8
abbrev bZ:=@pEv STable Tryz.prog ax 8
abbrev Mi:=@pCl STable Tryz.prog ax
theorem KS:EPp 56 Ms:=kA fun av sz ha hs m ts q F fst caps H hl hq=>by
 have hag:∀ x,∃ cs,av x=.agg cs∧cs.length=sz:=by subst ha hs;exact fun x=>⟨_,rfl,rfl⟩
 refine Yfv aE (tCq (ex (F:=F)) tNq) Tryz.func56 [.tmp 4] fun hcl hlt=>?_
 exact Y2
theorem Fy:EPp 241 M4:=ko fun av sz ha hs m ts q F fst caps H hl hq=>by
 refine Yfv aE (tCq KS tNq) Tryz.func241 [.tmp 4] fun hcl hlt=>?_
 exact Y17
theorem IC:EPp 242 Mi:=kL fun av ha t c b F fst caps H hg hq=>by
 have hag:∀ x,∃ cs,av x=.agg cs∧cs.length=8:=by subst ha;exact fun x=>⟨_,rfl,rfl⟩
 refine Yfv aE (tCq (ex (F:=F)) tNq) Tryz.func242 [.tmp 3] fun hcl hlt=>?_
 exact Y7
theorem nd:EPp 85 bZ:=kF fun av sz ha hs m ts q F fst caps H hl hq=>by
 have hL:EPp 242 (pCl Tryz.prog av):=by rw [ha];exact IC
 refine Yfv aE (tCq Fy tNq) Tryz.func85 [.tmp 4] fun hcl hlt=>?_
 exact Y6
abbrev Oa:=@pIx SKey Tryz.prog ba 3
abbrev NF:=@pAn SKey Tryz.prog ba 3
abbrev kx:=@pEv SKey Tryz.prog ba 3
abbrev Nr:=@pCl SKey Tryz.prog ba
theorem II:EPp 321 Oa:=kA fun av sz ha hs m ts q F fst caps H hl hq=>by
 have hag:∀ x,∃ cs,av x=.agg cs∧cs.length=sz:=by subst ha hs;exact fun x=>⟨_,rfl,rfl⟩
 refine Yfv aE (tCq (ex (F:=F)) tNq) Tryz.func321 [.tmp 4] fun hcl hlt=>?_
 exact Y2
theorem Gm:EPp 243 NF:=ko fun av sz ha hs m ts q F fst caps H hl hq=>by
 refine Yfv aE (tCq II tNq) Tryz.func243 [.tmp 4] fun hcl hlt=>?_
 exact Y17
theorem JL:EPp 244 Nr:=kL fun av ha t c b F fst caps H hg hq=>by
 have hag:∀ x,∃ cs,av x=.agg cs∧cs.length=3:=by subst ha;exact fun x=>⟨_,rfl,rfl⟩
 refine Yfv aE (tCq (ex (F:=F)) tNq) Tryz.func244 [.tmp 3] fun hcl hlt=>?_
 exact Y7
theorem zQ:EPp 87 kx:=kF fun av sz ha hs m ts q F fst caps H hl hq=>by
 have hL:EPp 244 (pCl Tryz.prog av):=by rw [ha];exact JL
 refine Yfv aE (tCq Gm tNq) Tryz.func87 [.tmp 4] fun hcl hlt=>?_
 exact Y6
abbrev M2:=@pIx SRole Tryz.prog aN 6
abbrev O5:=@pAn SRole Tryz.prog aN 6
abbrev cD:=@pEv SRole Tryz.prog aN 6
abbrev MD:=@pCl SRole Tryz.prog aN
theorem JW:EPp 322 M2:=kA fun av sz ha hs m ts q F fst caps H hl hq=>by
 have hag:∀ x,∃ cs,av x=.agg cs∧cs.length=sz:=by subst ha hs;exact fun x=>⟨_,rfl,rfl⟩
 refine Yfv aE (tCq (ex (F:=F)) tNq) Tryz.func322 [.tmp 4] fun hcl hlt=>?_
 exact Y2
theorem Ip:EPp 245 O5:=ko fun av sz ha hs m ts q F fst caps H hl hq=>by
 refine Yfv aE (tCq JW tNq) Tryz.func245 [.tmp 4] fun hcl hlt=>?_
 exact Y17
theorem F3:EPp 246 MD:=kL fun av ha t c b F fst caps H hg hq=>by
 have hag:∀ x,∃ cs,av x=.agg cs∧cs.length=6:=by subst ha;exact fun x=>⟨_,rfl,rfl⟩
 refine Yfv aE (tCq (ex (F:=F)) tNq) Tryz.func246 [.tmp 3] fun hcl hlt=>?_
 exact Y7
theorem pb:EPp 89 cD:=kF fun av sz ha hs m ts q F fst caps H hl hq=>by
 have hL:EPp 246 (pCl Tryz.prog av):=by rw [ha];exact F3
 refine Yfv aE (tCq Ip tNq) Tryz.func89 [.tmp 4] fun hcl hlt=>?_
 exact Y6
abbrev Mn:=@pIx SPrim Tryz.prog aT 6
abbrev LN:=@pAn SPrim Tryz.prog aT 6
abbrev dz:=@pEv SPrim Tryz.prog aT 6
abbrev LG:=@pCl SPrim Tryz.prog aT
theorem Jp:EPp 324 Mn:=kA fun av sz ha hs m ts q F fst caps H hl hq=>by
 have hag:∀ x,∃ cs,av x=.agg cs∧cs.length=sz:=by subst ha hs;exact fun x=>⟨_,rfl,rfl⟩
 refine Yfv aE (tCq (ex (F:=F)) tNq) Tryz.func324 [.tmp 4] fun hcl hlt=>?_
 exact Y2
theorem Ga:EPp 259 LN:=ko fun av sz ha hs m ts q F fst caps H hl hq=>by
 refine Yfv aE (tCq Jp tNq) Tryz.func259 [.tmp 4] fun hcl hlt=>?_
 exact Y17
theorem J8:EPp 260 LG:=kL fun av ha t c b F fst caps H hg hq=>by
 have hag:∀ x,∃ cs,av x=.agg cs∧cs.length=6:=by subst ha;exact fun x=>⟨_,rfl,rfl⟩
 refine Yfv aE (tCq (ex (F:=F)) tNq) Tryz.func260 [.tmp 3] fun hcl hlt=>?_
 exact Y7
theorem uI:EPp 122 dz:=kF fun av sz ha hs m ts q F fst caps H hl hq=>by
 have hL:EPp 260 (pCl Tryz.prog av):=by rw [ha];exact J8
 refine Yfv aE (tCq Ga tNq) Tryz.func122 [.tmp 4] fun hcl hlt=>?_
 exact Y6
abbrev LL:=@pIx SStage Tryz.prog aO 2
abbrev NS:=@pAn SStage Tryz.prog aO 2
abbrev gx:=@pEv SStage Tryz.prog aO 2
abbrev Om:=@pCl SStage Tryz.prog aO
theorem GC:EPp 328 LL:=kA fun av sz ha hs m ts q F fst caps H hl hq=>by
 have hag:∀ x,∃ cs,av x=.agg cs∧cs.length=sz:=by subst ha hs;exact fun x=>⟨_,rfl,rfl⟩
 refine Yfv aE (tCq (ex (F:=F)) tNq) Tryz.func328 [.tmp 4] fun hcl hlt=>?_
 exact Y2
theorem Iq:EPp 268 NS:=ko fun av sz ha hs m ts q F fst caps H hl hq=>by
 refine Yfv aE (tCq GC tNq) Tryz.func268 [.tmp 4] fun hcl hlt=>?_
 exact Y17
theorem J6:EPp 269 Om:=kL fun av ha t c b F fst caps H hg hq=>by
 have hag:∀ x,∃ cs,av x=.agg cs∧cs.length=2:=by subst ha;exact fun x=>⟨_,rfl,rfl⟩
 refine Yfv aE (tCq (ex (F:=F)) tNq) Tryz.func269 [.tmp 3] fun hcl hlt=>?_
 exact Y7
theorem Jn:EPp 135 gx:=kF fun av sz ha hs m ts q F fst caps H hl hq=>by
 have hL:EPp 269 (pCl Tryz.prog av):=by rw [ha];exact J6
 refine Yfv aE (tCq Iq tNq) Tryz.func135 [.tmp 4] fun hcl hlt=>?_
 exact Y6
abbrev N2:=@pIx SGrant Tryz.prog aJ 4
abbrev Oy:=@pAn SGrant Tryz.prog aJ 4
abbrev dU:=@pEv SGrant Tryz.prog aJ 4
abbrev L9:=@pCl SGrant Tryz.prog aJ
theorem Gw:EPp 330 N2:=kA fun av sz ha hs m ts q F fst caps H hl hq=>by
 have hag:∀ x,∃ cs,av x=.agg cs∧cs.length=sz:=by subst ha hs;exact fun x=>⟨_,rfl,rfl⟩
 refine Yfv aE (tCq (ex (F:=F)) tNq) Tryz.func330 [.tmp 4] fun hcl hlt=>?_
 exact Y2
theorem K5:EPp 271 Oy:=ko fun av sz ha hs m ts q F fst caps H hl hq=>by
 refine Yfv aE (tCq Gw tNq) Tryz.func271 [.tmp 4] fun hcl hlt=>?_
 exact Y17
theorem FQ:EPp 272 L9:=kL fun av ha t c b F fst caps H hg hq=>by
 have hag:∀ x,∃ cs,av x=.agg cs∧cs.length=4:=by subst ha;exact fun x=>⟨_,rfl,rfl⟩
 refine Yfv aE (tCq (ex (F:=F)) tNq) Tryz.func272 [.tmp 3] fun hcl hlt=>?_
 exact Y7
theorem zM:EPp 140 dU:=kF fun av sz ha hs m ts q F fst caps H hl hq=>by
 have hL:EPp 272 (pCl Tryz.prog av):=by rw [ha];exact FQ
 refine Yfv aE (tCq K5 tNq) Tryz.func140 [.tmp 4] fun hcl hlt=>?_
 exact Y6
abbrev Ml:=@pIx SCase Tryz.prog bb 5
abbrev M3:=@pAn SCase Tryz.prog bb 5
abbrev cX:=@pEv SCase Tryz.prog bb 5
abbrev OM:=@pCl SCase Tryz.prog bb
theorem Fv:EPp 331 Ml:=kA fun av sz ha hs m ts q F fst caps H hl hq=>by
 have hag:∀ x,∃ cs,av x=.agg cs∧cs.length=sz:=by subst ha hs;exact fun x=>⟨_,rfl,rfl⟩
 refine Yfv aE (tCq (ex (F:=F)) tNq) Tryz.func331 [.tmp 4] fun hcl hlt=>?_
 exact Y2
theorem IA:EPp 273 M3:=ko fun av sz ha hs m ts q F fst caps H hl hq=>by
 refine Yfv aE (tCq Fv tNq) Tryz.func273 [.tmp 4] fun hcl hlt=>?_
 exact Y17
theorem KU:EPp 274 OM:=kL fun av ha t c b F fst caps H hg hq=>by
 have hag:∀ x,∃ cs,av x=.agg cs∧cs.length=5:=by subst ha;exact fun x=>⟨_,rfl,rfl⟩
 refine Yfv aE (tCq (ex (F:=F)) tNq) Tryz.func274 [.tmp 3] fun hcl hlt=>?_
 exact Y7
theorem zG:EPp 150 cX:=kF fun av sz ha hs m ts q F fst caps H hl hq=>by
 have hL:EPp 274 (pCl Tryz.prog av):=by rw [ha];exact KU
 refine Yfv aE (tCq IA tNq) Tryz.func150 [.tmp 4] fun hcl hlt=>?_
 exact Y6
abbrev N7:=@pIx SRef Tryz.prog a9 6
abbrev Mr:=@pAn SRef Tryz.prog a9 6
abbrev cL:=@pEv SRef Tryz.prog a9 6
abbrev OJ:=@pCl SRef Tryz.prog a9
theorem Ja:EPp 288 N7:=kA fun av sz ha hs m ts q F fst caps H hl hq=>by
 have hag:∀ x,∃ cs,av x=.agg cs∧cs.length=sz:=by subst ha hs;exact fun x=>⟨_,rfl,rfl⟩
 refine Yfv aE (tCq (ex (F:=F)) tNq) Tryz.func288 [.tmp 4] fun hcl hlt=>?_
 exact Y2
theorem IX:EPp 188 Mr:=ko fun av sz ha hs m ts q F fst caps H hl hq=>by
 refine Yfv aE (tCq Ja tNq) Tryz.func188 [.tmp 4] fun hcl hlt=>?_
 exact Y17
theorem Jc:EPp 189 OJ:=kL fun av ha t c b F fst caps H hg hq=>by
 have hag:∀ x,∃ cs,av x=.agg cs∧cs.length=6:=by subst ha;exact fun x=>⟨_,rfl,rfl⟩
 refine Yfv aE (tCq (ex (F:=F)) tNq) Tryz.func189 [.tmp 3] fun hcl hlt=>?_
 exact Y7
theorem oO:EPp 52 cL:=kF fun av sz ha hs m ts q F fst caps H hl hq=>by
 have hL:EPp 189 (pCl Tryz.prog av):=by rw [ha];exact Jc
 refine Yfv aE (tCq IX tNq) Tryz.func52 [.tmp 4] fun hcl hlt=>?_
 exact Y6
abbrev M0:=@pIx Int Tryz.prog (AV.int .i64) 1
abbrev Nj:=@pAn Int Tryz.prog (AV.int .i64) 1
abbrev eL:=@pEv Int Tryz.prog (AV.int .i64) 1
abbrev Oo:=@pCl Int Tryz.prog (AV.int .i64)
theorem Jv:EPp 326 M0:=kA fun av sz ha hs m ts q F fst caps H hl hq=>by
 refine Yfv aE (tCq (ex (F:=F)) tNq) Tryz.func326 [.tmp 4] fun hcl hlt=>?_
 subst ha hs
 generalize hR:ixP q ts 0=R
 have hm:AV.lt H.nx (.slice m 1 (ts.map (AV.int .i64))):=hlt _ (by simp)
 have hf:AV.lt H.nx (.func (.func F) fst caps):=hlt _ (by simp)
 clear hlt
 simp only [go_sem,ybb]
 refine aC (A:=Nat) (fun k=>[(0,.slice m 1 (ts.map (AV.int .i64))),(1,.func (.func F) fst caps),(7,.int .i64 (ts.length:Int)),(8,.int .i64 (k:Int))]) (fun _=>H) (fun k=>k≤ts.length∧ixP q (ts.drop k) k=R) (fun k=>ts.length - k) 0 ⟨by omega,hR⟩ ?_ fun k hk=>?_
 ·exact ⟨nrq _,lRq _,hcl,by simp [ltF,znf,hm,hf],by simp [bg,wk2,wk1,wkM,Fr.get]⟩
 clear hR
 obtain ⟨hk,hR⟩:=hk
 refine Tq15 ?_
 refine au (fun hc=>?_) (fun hc=>?_)
 ·have hk':k<ts.length:=sHc
  obtain ⟨x,hx⟩:∃ x,x=ts[k]:=⟨_,rfl⟩
  have hd:ts.drop k=x::ts.drop (k+1):=by rw [hx];exact dcq hk'
  have hg':=aV (f:=(AV.int .i64)) (l:=ts) (k:=k) (x:=x) (by rw [gQq hk',hx])
  have e5:=Yk5 k
  rw [hd] at hR
  unfold ixP at hR
  have hqx:=hq x (by rw [hx];exact gMq hk')
  simp only [go_sem,iNq,ybb,hg',iT]
  refine Tq3 ?_
  refine ⟨_,?_,hqx⟩
  try simp only [aD,go_sem]
  refine Tq4 ?_
  refine au (fun hq=>?_) (fun hq=>?_)
  ·rw [if_pos hq] at hR
   subst hR
   exact Y32
  ·rw [if_neg (by rw [hq];decide)] at hR
   simp only [go_sem,e5]
   exact ⟨k+1,⟨by omega,hR⟩,by omega,nrq _,lRq _,hcl,by simp [ltF,znf,hm,hf],by simp [bg,wk2,wk1,wkM,Fr.get]⟩
 ·exact Y19
theorem K6:EPp 263 Nj:=ko fun av sz ha hs m ts q F fst caps H hl hq=>by
 refine Yfv aE (tCq Jv tNq) Tryz.func263 [.tmp 4] fun hcl hlt=>?_
 exact Y17
theorem JP:EPp 264 Oo:=kL fun av ha t c b F fst caps H hg hq=>by
 subst ha
 refine Yfv aE (tCq (ex (F:=F)) tNq) Tryz.func264 [.tmp 3] fun hcl hlt=>?_
 have hcs:=aM hg
 have hl:=glq hg
 have hne:(c=H.nx)=False:=eFo
 have hlx:=hlt _ (List.mem_cons_self)
 clear hlt
 simp only [go_sem,hcs,hne,hg,iT]
 refine ⟨_,?_,hq _ (lRq _) hcl⟩
 exact Y37
theorem tV:EPp 129 eL:=kF fun av sz ha hs m ts q F fst caps H hl hq=>by
 have hL:EPp 264 (pCl Tryz.prog av):=by rw [ha];exact JP
 refine Yfv aE (tCq K6 tNq) Tryz.func129 [.tmp 4] fun hcl hlt=>?_
 exact Y6
theorem EF:tSl Tryz.prog 22 5:=kSl
attribute [go_sem] EF
def se (c:UInt8):Bool:=decide (97≤c.toNat)&&decide (c.toNat≤122)
def gG (c:UInt8):Bool:=(decide (48≤c.toNat)&&decide (c.toNat≤57))||decide (c.toNat=95)
def mW:List UInt8→Nat→Bool
 |[],_=>true
 |c::r,i=>(se c||(!decide (i=0)&&gG c))&&mW r (i+1)
def dm (s:List UInt8):Bool:=mW s 0&&decide (s≠[])
def iR (s:List UInt8):Bool:=dm s&&decide (s≠[112,114,105,111,114,105,116,121])&&decide (s≠[116,114,117,101])&&decide (s≠[102,97,108,115,101])
def eZ:PCt
 |[.str s],_,K=>s.length≤140737488355328∧K (.bool (dm s))
 |_,_,_=>False
theorem l5:EPp 77 eZ:=by
 refine Ype fun _ H K h=>?_
 unfold eZ at h
 split at h<;>try exact h.elim
 rename_i s
 obtain ⟨hl,hK⟩:=h
 refine ⟨_,hK,?_⟩
 clear hK
 generalize hR:dm s=R
 unfold dm at hR
 obtain ⟨Q,hQ⟩:∃ Q,mW s 0=Q:=⟨_,rfl⟩
 rw [hQ] at hR
 have dn1:(!true)=false:=rfl
 have dn2:(!false)=true:=rfl
 have lt_bys:∀ n,AV.lt n (.slice .any 1 (s.map bH)):=fun n=>aa fun x=>by simp only [bH,znf]
 refine Yfu aE tNq Tryz.func77 [.tmp 2] fun hcl=>?_
 refine Tq15 ?_
 refine ⟨by omega,?_⟩
 refine aC (A:=Nat) (fun k=>[(0,.str s),(7,.slice .any 1 (s.map bH)),(8,.int .i64 (s.length:Int)),(9,.int .i64 (k:Int))]) (fun _=>H) (fun k=>k≤s.length∧mW (s.drop k) k=Q) (fun k=>s.length - k) 0 ⟨by omega,hQ⟩ ?_ fun k hk=>?_
 ·refine eNt hcl ?_ ?_
  ·exact Y55
  ·exact Y13
 clear hQ
 obtain ⟨hk,hQ⟩:=hk
 refine Tq15 ?_
 refine au (fun hc=>?_) (fun hc=>?_)
 ·have hk':k<s.length:=sHc
  obtain ⟨c,hcx⟩:∃ c,c=s[k]:=⟨_,rfl⟩
  have hd:s.drop k=c::s.drop (k+1):=by rw [hcx];exact dcq hk'
  have hg':=aV (f:=bH) (l:=s) (k:=k) (x:=c) (by rw [gQq hk',hcx])
  have hgs:s.getD k 0=c:=by rw [gEq,gQq hk',hcx];rfl
  have e5:=Yk5 k
  rw [hd] at hQ
  unfold mW at hQ
  by_cases h1:97≤c.toNat
  ·have d1:decide ((c.toNat:Int) ≥ 97)=true:=dtq (by omega)
   by_cases h2:c.toNat≤122
   ·have d2:decide ((c.toNat:Int)≤122)=true:=dtq (by omega)
    have hb:se c=true:=by unfold se;rw [dtq h1,dtq h2];rfl
    rw [hb,Bool.true_or,Bool.true_and] at hQ
    simp only [go_sem,iNq,ybb,hg',bH,e5,d1,d2,dn1,dn2]
    refine Tq4 ?_
    refine ⟨k+1,⟨by omega,hQ⟩,by omega,?_⟩
    refine eNt hcl ?_ ?_
    ·exact Y55
    ·exact Y13
   ·have d2:decide ((c.toNat:Int)≤122)=false:=dfq (by omega)
    have hb:se c=false:=by unfold se;rw [dfq h2,Bool.and_false]
    rw [hb,Bool.false_or] at hQ
    by_cases h0:k=0
    ·have d0:((k:Int)==0)=true:=by rw [h0];rfl
     rw [dtq h0,Bool.not_true,Bool.false_and,Bool.false_and] at hQ
     rw [← hQ,Bool.false_and] at hR
     subst hR
     simp only [go_sem,iNq,ybb,hg',bH,e5,d1,d2,d0,dn1,dn2]
     exact Y8
    have d0:((k:Int)==0)=false:=by simp;omega
    rw [dfq h0,Bool.not_false,Bool.true_and] at hQ
    by_cases h95:c.toNat=95
    ·have d95:((c.toNat:Int) != 95)=false:=by simp;omega
     have d3:decide ((c.toNat:Int)<48)=false:=dfq (by omega)
     have d4:decide ((c.toNat:Int) > 57)=true:=dtq (by omega)
     have hp:gG c=true:=by unfold gG;rw [dtq h95,Bool.or_true]
     rw [hp,Bool.true_and] at hQ
     refine Tq65 ?_
     refine Tq4 ?_
     refine ⟨k+1,⟨by omega,hQ⟩,by omega,?_⟩
     refine eNt hcl ?_ ?_
     ·exact Y55
     ·exact Y13
    have d95:((c.toNat:Int) != 95)=true:=by simp;omega
    by_cases h3:c.toNat<48
    ·have d3:decide ((c.toNat:Int)<48)=true:=dtq (by omega)
     have hp:gG c=false:=by unfold gG;rw [dfq h95,dfq (by omega),Bool.false_and,Bool.or_false]
     rw [hp,Bool.false_and] at hQ
     rw [← hQ,Bool.false_and] at hR
     subst hR
     simp only [go_sem,iNq,ybb,hg',bH,e5,d1,d2,d0,d95,d3,dn1,dn2]
     exact Y8
    have d3:decide ((c.toNat:Int)<48)=false:=dfq (by omega)
    by_cases h4:57<c.toNat
    ·have d4:decide ((c.toNat:Int) > 57)=true:=dtq (by omega)
     have hp:gG c=false:=by unfold gG;rw [dfq h95,dfq (show ¬ c.toNat≤57 by omega),Bool.and_false,Bool.or_false]
     rw [hp,Bool.false_and] at hQ
     rw [← hQ,Bool.false_and] at hR
     subst hR
     refine Tq65 ?_
     exact Y8
    have d4:decide ((c.toNat:Int) > 57)=false:=dfq (by omega)
    have hp:gG c=true:=by unfold gG;rw [dtq (show 48≤c.toNat by omega),dtq (show c.toNat≤57 by omega)];rfl
    rw [hp,Bool.true_and] at hQ
    refine Tq65 ?_
    refine Tq4 ?_
    refine ⟨k+1,⟨by omega,hQ⟩,by omega,?_⟩
    refine eNt hcl ?_ ?_
    ·exact Y55
    ·exact Y13
  ·have d1:decide ((c.toNat:Int) ≥ 97)=false:=dfq (by omega)
   have hb:se c=false:=by unfold se;rw [dfq h1,Bool.false_and]
   rw [hb,Bool.false_or] at hQ
   by_cases h0:k=0
   ·have d0:((k:Int)==0)=true:=by rw [h0];rfl
    rw [dtq h0,Bool.not_true,Bool.false_and,Bool.false_and] at hQ
    rw [← hQ,Bool.false_and] at hR
    subst hR
    simp only [go_sem,iNq,ybb,hg',bH,e5,d1,d0,dn1,dn2]
    exact Y8
   have d0:((k:Int)==0)=false:=by simp;omega
   rw [dfq h0,Bool.not_false,Bool.true_and] at hQ
   by_cases h95:c.toNat=95
   ·have d95:((c.toNat:Int) != 95)=false:=by simp;omega
    have d3:decide ((c.toNat:Int)<48)=false:=dfq (by omega)
    have d4:decide ((c.toNat:Int) > 57)=true:=dtq (by omega)
    have hp:gG c=true:=by unfold gG;rw [dtq h95,Bool.or_true]
    rw [hp,Bool.true_and] at hQ
    refine Tq72 ?_
    refine Tq4 ?_
    refine ⟨k+1,⟨by omega,hQ⟩,by omega,?_⟩
    refine eNt hcl ?_ ?_
    ·exact Y55
    ·exact Y13
   have d95:((c.toNat:Int) != 95)=true:=by simp;omega
   by_cases h3:c.toNat<48
   ·have d3:decide ((c.toNat:Int)<48)=true:=dtq (by omega)
    have hp:gG c=false:=by unfold gG;rw [dfq h95,dfq (by omega),Bool.false_and,Bool.or_false]
    rw [hp,Bool.false_and] at hQ
    rw [← hQ,Bool.false_and] at hR
    subst hR
    simp only [go_sem,iNq,ybb,hg',bH,e5,d1,d0,d95,d3,dn1,dn2]
    exact Y8
   have d3:decide ((c.toNat:Int)<48)=false:=dfq (by omega)
   by_cases h4:57<c.toNat
   ·have d4:decide ((c.toNat:Int) > 57)=true:=dtq (by omega)
    have hp:gG c=false:=by unfold gG;rw [dfq h95,dfq (show ¬ c.toNat≤57 by omega),Bool.and_false,Bool.or_false]
    rw [hp,Bool.false_and] at hQ
    rw [← hQ,Bool.false_and] at hR
    subst hR
    refine Tq72 ?_
    exact Y8
   have d4:decide ((c.toNat:Int) > 57)=false:=dfq (by omega)
   have hp:gG c=true:=by unfold gG;rw [dtq (show 48≤c.toNat by omega),dtq (show c.toNat≤57 by omega)];rfl
   rw [hp,Bool.true_and] at hQ
   refine Tq72 ?_
   refine Tq4 ?_
   refine ⟨k+1,⟨by omega,hQ⟩,by omega,?_⟩
   refine eNt hcl ?_ ?_
   ·exact Y55
   ·exact Y13
 ·have hk':k=s.length:=sHc
  subst hk'
  rw [List.drop_length] at hQ
  unfold mW at hQ
  rw [← hQ,Bool.true_and] at hR
  cases s with
  |nil =>
   have hR':R=false:=by rw [← hR];rfl
   subst hR'
   exact Y32
  |cons c r =>
   exact Y134
def jo:PCt
 |[.str s],_,K=>s.length≤140737488355328∧K (.bool (dm s))
 |_,_,_=>False
theorem wJ:EPp 170 jo:=by
 refine Ype fun _ H K h=>?_
 unfold jo at h
 split at h<;>try exact h.elim
 rename_i s
 obtain ⟨hl,hK⟩:=h
 refine ⟨_,hK,?_⟩
 clear hK
 generalize hR:dm s=R
 unfold dm at hR
 obtain ⟨Q,hQ⟩:∃ Q,mW s 0=Q:=⟨_,rfl⟩
 rw [hQ] at hR
 have dn1:(!true)=false:=rfl
 have dn2:(!false)=true:=rfl
 have lt_bys:∀ n,AV.lt n (.slice .any 1 (s.map bH)):=fun n=>aa fun x=>by simp only [bH,znf]
 refine Yfu aE tNq Tryz.func170 [.tmp 2] fun hcl=>?_
 refine Tq15 ?_
 refine aC (A:=Nat) (fun k=>[(0,.str s),(3,.int .i64 (k:Int))]) (fun _=>H) (fun k=>k≤s.length∧mW (s.drop k) k=Q) (fun k=>s.length - k) 0 ⟨by omega,hQ⟩ ?_ fun k hk=>?_
 ·refine eNt hcl ?_ ?_
  ·exact Y55
  ·exact Y13
 clear hQ
 obtain ⟨hk,hQ⟩:=hk
 refine Tq15 ?_
 refine au (fun hc=>?_) (fun hc=>?_)
 ·have hk':k<s.length:=sHc
  obtain ⟨c,hcx⟩:∃ c,c=s[k]:=⟨_,rfl⟩
  have hd:s.drop k=c::s.drop (k+1):=by rw [hcx];exact dcq hk'
  have hg':=aV (f:=bH) (l:=s) (k:=k) (x:=c) (by rw [gQq hk',hcx])
  have hgs:s.getD k 0=c:=by rw [gEq,gQq hk',hcx];rfl
  have e5:=Yk5 k
  rw [hd] at hQ
  unfold mW at hQ
  by_cases h1:97≤c.toNat
  ·have d1:decide ((c.toNat:Int) ≥ 97)=true:=dtq (by omega)
   by_cases h2:c.toNat≤122
   ·have d2:decide ((c.toNat:Int)≤122)=true:=dtq (by omega)
    have hb:se c=true:=by unfold se;rw [dtq h1,dtq h2];rfl
    rw [hb,Bool.true_or,Bool.true_and] at hQ
    simp only [go_sem,iNq,hgs,bH,e5,d1,d2,dn1,dn2]
    refine Tq4 ?_
    refine ⟨k+1,⟨by omega,hQ⟩,by omega,?_⟩
    refine eNt hcl ?_ ?_
    ·exact Y55
    ·exact Y13
   ·have d2:decide ((c.toNat:Int)≤122)=false:=dfq (by omega)
    have hb:se c=false:=by unfold se;rw [dfq h2,Bool.and_false]
    rw [hb,Bool.false_or] at hQ
    by_cases h0:k=0
    ·have d0:((k:Int)==0)=true:=by rw [h0];rfl
     rw [dtq h0,Bool.not_true,Bool.false_and,Bool.false_and] at hQ
     rw [← hQ,Bool.false_and] at hR
     subst hR
     simp only [go_sem,iNq,hgs,bH,e5,d1,d2,d0,dn1,dn2]
     exact Y8
    have d0:((k:Int)==0)=false:=by simp;omega
    rw [dfq h0,Bool.not_false,Bool.true_and] at hQ
    by_cases h95:c.toNat=95
    ·have d95:((c.toNat:Int) != 95)=false:=by simp;omega
     have d3:decide ((c.toNat:Int)<48)=false:=dfq (by omega)
     have d4:decide ((c.toNat:Int) > 57)=true:=dtq (by omega)
     have hp:gG c=true:=by unfold gG;rw [dtq h95,Bool.or_true]
     rw [hp,Bool.true_and] at hQ
     refine Tq74 ?_
     refine Tq4 ?_
     refine ⟨k+1,⟨by omega,hQ⟩,by omega,?_⟩
     refine eNt hcl ?_ ?_
     ·exact Y55
     ·exact Y13
    have d95:((c.toNat:Int) != 95)=true:=by simp;omega
    by_cases h3:c.toNat<48
    ·have d3:decide ((c.toNat:Int)<48)=true:=dtq (by omega)
     have hp:gG c=false:=by unfold gG;rw [dfq h95,dfq (by omega),Bool.false_and,Bool.or_false]
     rw [hp,Bool.false_and] at hQ
     rw [← hQ,Bool.false_and] at hR
     subst hR
     simp only [go_sem,iNq,hgs,bH,e5,d1,d2,d0,d95,d3,dn1,dn2]
     exact Y8
    have d3:decide ((c.toNat:Int)<48)=false:=dfq (by omega)
    by_cases h4:57<c.toNat
    ·have d4:decide ((c.toNat:Int) > 57)=true:=dtq (by omega)
     have hp:gG c=false:=by unfold gG;rw [dfq h95,dfq (show ¬ c.toNat≤57 by omega),Bool.and_false,Bool.or_false]
     rw [hp,Bool.false_and] at hQ
     rw [← hQ,Bool.false_and] at hR
     subst hR
     refine Tq74 ?_
     exact Y8
    have d4:decide ((c.toNat:Int) > 57)=false:=dfq (by omega)
    have hp:gG c=true:=by unfold gG;rw [dtq (show 48≤c.toNat by omega),dtq (show c.toNat≤57 by omega)];rfl
    rw [hp,Bool.true_and] at hQ
    refine Tq74 ?_
    refine Tq4 ?_
    refine ⟨k+1,⟨by omega,hQ⟩,by omega,?_⟩
    refine eNt hcl ?_ ?_
    ·exact Y55
    ·exact Y13
  ·have d1:decide ((c.toNat:Int) ≥ 97)=false:=dfq (by omega)
   have hb:se c=false:=by unfold se;rw [dfq h1,Bool.false_and]
   rw [hb,Bool.false_or] at hQ
   by_cases h0:k=0
   ·have d0:((k:Int)==0)=true:=by rw [h0];rfl
    rw [dtq h0,Bool.not_true,Bool.false_and,Bool.false_and] at hQ
    rw [← hQ,Bool.false_and] at hR
    subst hR
    simp only [go_sem,iNq,hgs,bH,e5,d1,d0,dn1,dn2]
    exact Y8
   have d0:((k:Int)==0)=false:=by simp;omega
   rw [dfq h0,Bool.not_false,Bool.true_and] at hQ
   by_cases h95:c.toNat=95
   ·have d95:((c.toNat:Int) != 95)=false:=by simp;omega
    have d3:decide ((c.toNat:Int)<48)=false:=dfq (by omega)
    have d4:decide ((c.toNat:Int) > 57)=true:=dtq (by omega)
    have hp:gG c=true:=by unfold gG;rw [dtq h95,Bool.or_true]
    rw [hp,Bool.true_and] at hQ
    refine Tq79 ?_
    refine Tq4 ?_
    refine ⟨k+1,⟨by omega,hQ⟩,by omega,?_⟩
    refine eNt hcl ?_ ?_
    ·exact Y55
    ·exact Y13
   have d95:((c.toNat:Int) != 95)=true:=by simp;omega
   by_cases h3:c.toNat<48
   ·have d3:decide ((c.toNat:Int)<48)=true:=dtq (by omega)
    have hp:gG c=false:=by unfold gG;rw [dfq h95,dfq (by omega),Bool.false_and,Bool.or_false]
    rw [hp,Bool.false_and] at hQ
    rw [← hQ,Bool.false_and] at hR
    subst hR
    simp only [go_sem,iNq,hgs,bH,e5,d1,d0,d95,d3,dn1,dn2]
    exact Y8
   have d3:decide ((c.toNat:Int)<48)=false:=dfq (by omega)
   by_cases h4:57<c.toNat
   ·have d4:decide ((c.toNat:Int) > 57)=true:=dtq (by omega)
    have hp:gG c=false:=by unfold gG;rw [dfq h95,dfq (show ¬ c.toNat≤57 by omega),Bool.and_false,Bool.or_false]
    rw [hp,Bool.false_and] at hQ
    rw [← hQ,Bool.false_and] at hR
    subst hR
    refine Tq79 ?_
    exact Y8
   have d4:decide ((c.toNat:Int) > 57)=false:=dfq (by omega)
   have hp:gG c=true:=by unfold gG;rw [dtq (show 48≤c.toNat by omega),dtq (show c.toNat≤57 by omega)];rfl
   rw [hp,Bool.true_and] at hQ
   refine Tq79 ?_
   refine Tq4 ?_
   refine ⟨k+1,⟨by omega,hQ⟩,by omega,?_⟩
   refine eNt hcl ?_ ?_
   ·exact Y55
   ·exact Y13
 ·have hk':k=s.length:=sHc
  subst hk'
  rw [List.drop_length] at hQ
  unfold mW at hQ
  rw [← hQ,Bool.true_and] at hR
  cases s with
  |nil =>
   have hR':R=false:=by rw [← hR];rfl
   subst hR'
   exact Y32
  |cons c r =>
   exact Y134
def mB:PCt
 |[.str s],_,K=>s.length≤140737488355328∧K (.bool (iR s))
 |_,_,_=>False
theorem zR:EPp 84 mB:=by
 refine Ype fun _ H K h=>?_
 unfold mB at h
 split at h<;>try exact h.elim
 rename_i s
 obtain ⟨hl,hK⟩:=h
 refine ⟨_,hK,?_⟩
 clear hK
 generalize hR:iR s=R
 unfold iR at hR
 have d1:(s==[112,114,105,111,114,105,116,121])=!decide (s≠[112,114,105,111,114,105,116,121]):=by rw [Bool.eq_iff_iff];simp
 have d2:(s==[116,114,117,101])=!decide (s≠[116,114,117,101]):=by rw [Bool.eq_iff_iff];simp
 have d3:(s==[102,97,108,115,101])=!decide (s≠[102,97,108,115,101]):=by rw [Bool.eq_iff_iff];simp
 generalize decide (s≠[112,114,105,111,114,105,116,121])=b1 at *
 generalize decide (s≠[116,114,117,101])=b2 at *
 generalize decide (s≠[102,97,108,115,101])=b3 at *
 refine Yfu aE (tCq l5 tNq) Tryz.func84 [.tmp 2] fun hcl=>?_
 simp only [go_sem,eZ]
 exact Y58
def lv:PCt
 |[.str s],_,K=>s.length≤140737488355328∧K (.bool (iR s))
 |_,_,_=>False
theorem HC:EPp 171 lv:=by
 refine Ype fun _ H K h=>?_
 unfold lv at h
 split at h<;>try exact h.elim
 rename_i s
 obtain ⟨hl,hK⟩:=h
 refine ⟨_,hK,?_⟩
 clear hK
 generalize hR:iR s=R
 unfold iR at hR
 have d1:(s==[112,114,105,111,114,105,116,121])=!decide (s≠[112,114,105,111,114,105,116,121]):=by rw [Bool.eq_iff_iff];simp
 have d2:(s==[116,114,117,101])=!decide (s≠[116,114,117,101]):=by rw [Bool.eq_iff_iff];simp
 have d3:(s==[102,97,108,115,101])=!decide (s≠[102,97,108,115,101]):=by rw [Bool.eq_iff_iff];simp
 generalize decide (s≠[112,114,105,111,114,105,116,121])=b1 at *
 generalize decide (s≠[116,114,117,101])=b2 at *
 generalize decide (s≠[102,97,108,115,101])=b3 at *
 refine Yfu aE (tCq wJ tNq) Tryz.func171 [.tmp 2] fun hcl=>?_
 simp only [go_sem,jo]
 exact Y58
structure SB (S:Sch):Prop where
 sl:SLen S
 gl:S.stages.length≤1000000
 xl:S.refs.length≤1000000
 fn:∀ x∈S.fields,x.name.length≤140737488355328
 hn:∀ x∈S.headers,x.name.length≤140737488355328∧x.fields.length≤1000000
 sn:∀ x∈S.states,x.cases.length≤1000000
 an:∀ x∈S.actions,x.name.length≤140737488355328∧x.params.length≤1000000∧x.body.length≤1000000∧∀ p∈x.params,p.name.length≤140737488355328
 tn:∀ x∈S.tables,x.name.length≤140737488355328∧x.keys.length≤1000000∧x.actions.length≤1000000∧x.dargs.length≤1000000∧∀ k∈x.keys,k.name.length≤140737488355328
 rn:∀ x∈S.roles,x.name.length≤140737488355328∧x.grants.length≤1000000∧x.actions.length≤1000000∧∀ g∈x.grants,g.keys.length≤1000000
def wB (n lo hi:Int):Bool:=decide (lo≤n)&&decide (n≤hi)
def bA:PCt
 |[.int .i64 n,.int .i64 lo,.int .i64 hi],_,K=>K (.bool (wB n lo hi))
 |_,_,_=>False
theorem ld:EPp 91 bA:=by
 refine Ype fun _ H K h=>?_
 unfold bA at h
 split at h<;>try exact h.elim
 rename_i n lo hi
 refine ⟨_,h,?_⟩
 clear h
 generalize hR:wB n lo hi=R
 unfold wB at hR
 refine Yfu aE tNq Tryz.func91 [.tmp 6] fun hcl=>?_
 obtain ⟨b0,e0⟩:∃ b:Bool,(decide (lo≤n))=b:=⟨_,rfl⟩
 have d0:decide (n ≥ lo)=b0:=(show decide (n ≥ lo)=(decide (lo≤n)) from rfl).trans e0
 rw [e0] at hR
 cases b0 with
 |false =>
  rw [Bool.false_and] at hR
  subst hR
  refine Tq71 ?_
  exact Y8
 |true =>
 rw [Bool.true_and] at hR
 obtain ⟨b1,e1⟩:∃ b:Bool,(decide (n≤hi))=b:=⟨_,rfl⟩
 have d1:decide (n≤hi)=b1:=(show decide (n≤hi)=(decide (n≤hi)) from rfl).trans e1
 rw [e1] at hR
 cases b1 with
 |false =>
  subst hR
  refine Tq24 ?_
  exact Y8
 |true =>
 subst hR
 refine Tq24 ?_
 exact Y8
def cE:PCt
 |[.int .i64 n,.int .i64 lo,.int .i64 hi],_,K=>K (.bool (wB n lo hi))
 |_,_,_=>False
theorem yG:EPp 172 cE:=by
 refine Ype fun _ H K h=>?_
 unfold cE at h
 split at h<;>try exact h.elim
 rename_i n lo hi
 refine ⟨_,h,?_⟩
 clear h
 generalize hR:wB n lo hi=R
 unfold wB at hR
 refine Yfu aE tNq Tryz.func172 [.tmp 6] fun hcl=>?_
 obtain ⟨b0,e0⟩:∃ b:Bool,(decide (lo≤n))=b:=⟨_,rfl⟩
 have d0:decide (n ≥ lo)=b0:=(show decide (n ≥ lo)=(decide (lo≤n)) from rfl).trans e0
 rw [e0] at hR
 cases b0 with
 |false =>
  rw [Bool.false_and] at hR
  subst hR
  refine Tq71 ?_
  exact Y8
 |true =>
 rw [Bool.true_and] at hR
 obtain ⟨b1,e1⟩:∃ b:Bool,(decide (n≤hi))=b:=⟨_,rfl⟩
 have d1:decide (n≤hi)=b1:=(show decide (n≤hi)=(decide (n≤hi)) from rfl).trans e1
 rw [e1] at hR
 cases b1 with
 |false =>
  subst hR
  refine Tq24 ?_
  exact Y8
 |true =>
 subst hR
 refine Tq24 ?_
 exact Y8
def iK:PCt
 |[.int .i64 n],_,K=>K (.bool (wB n 1 65534))
 |_,_,_=>False
theorem sk:EPp 93 iK:=by
 refine Ype fun _ H K h=>?_
 unfold iK at h
 split at h<;>try exact h.elim
 rename_i n
 refine ⟨_,h,?_⟩
 clear h
 refine Yfv aE (tCq ld tNq) Tryz.func93 [.tmp 2] fun hcl hlt=>?_
 exact Y131
def pE:PCt
 |[.int .i64 n],_,K=>K (.bool (wB n 1 128))
 |_,_,_=>False
theorem yB:EPp 94 pE:=by
 refine Ype fun _ H K h=>?_
 unfold pE at h
 split at h<;>try exact h.elim
 rename_i n
 refine ⟨_,h,?_⟩
 clear h
 refine Yfv aE (tCq ld tNq) Tryz.func94 [.tmp 2] fun hcl hlt=>?_
 exact Y131
def xa:PCt
 |[x],H,K=>∃ t:SField,(x=aG t∧t.name.length≤140737488355328)∧K (.bool (dm t.name))
 |_,_,_=>False
theorem BH:EPp 76 xa:=by
 refine Ype fun _ H K h=>?_
 unfold xa at h
 split at h<;>try exact h.elim
 rename_i x
 obtain ⟨t,⟨rfl,hc⟩,hK⟩:=h
 refine ⟨_,hK,?_⟩
 clear hK
 generalize hR:(dm t.name)=R
 unfold aG
 refine Yfu aE (tCq l5 tNq) Tryz.func76 [.tmp 2] fun hcl=>?_
 refine Tq19 ?_
 refine ⟨hc,?_⟩
 cases c0:dm t.name with
 |false =>
  rw [c0] at hR
  subst hR
  refine Tq10 ?_
  exact Y8
 |true =>
 rw [c0] at hR
 subst hR
 refine Tq10 ?_
 exact Y8
def w6:PCt
 |[x],H,K=>∃ t:SHeader,(x=az t∧t.name.length≤140737488355328)∧K (.bool (dm t.name))
 |_,_,_=>False
theorem A3:EPp 79 w6:=by
 refine Ype fun _ H K h=>?_
 unfold w6 at h
 split at h<;>try exact h.elim
 rename_i x
 obtain ⟨t,⟨rfl,hc⟩,hK⟩:=h
 refine ⟨_,hK,?_⟩
 clear hK
 generalize hR:(dm t.name)=R
 unfold az
 refine Yfu aE (tCq l5 tNq) Tryz.func79 [.tmp 2] fun hcl=>?_
 refine Tq19 ?_
 refine ⟨hc,?_⟩
 cases c0:dm t.name with
 |false =>
  rw [c0] at hR
  subst hR
  refine Tq10 ?_
  exact Y8
 |true =>
 rw [c0] at hR
 subst hR
 refine Tq10 ?_
 exact Y8
def tI:PCt
 |[x],H,K=>∃ t:SParam,(x=aL t∧t.name.length≤140737488355328)∧K (.bool (iR t.name))
 |_,_,_=>False
theorem zB:EPp 83 tI:=by
 refine Ype fun _ H K h=>?_
 unfold tI at h
 split at h<;>try exact h.elim
 rename_i x
 obtain ⟨t,⟨rfl,hc⟩,hK⟩:=h
 refine ⟨_,hK,?_⟩
 clear hK
 generalize hR:(iR t.name)=R
 unfold aL
 refine Yfu aE (tCq zR tNq) Tryz.func83 [.tmp 2] fun hcl=>?_
 refine Tq76 ?_
 refine ⟨hc,?_⟩
 cases c0:iR t.name with
 |false =>
  rw [c0] at hR
  subst hR
  refine Tq23 ?_
  exact Y8
 |true =>
 rw [c0] at hR
 subst hR
 refine Tq23 ?_
 exact Y8
def ua:PCt
 |[x],H,K=>∃ t:SKey,(x=ba t∧t.name.length≤140737488355328)∧K (.bool (iR t.name))
 |_,_,_=>False
theorem zx:EPp 88 ua:=by
 refine Ype fun _ H K h=>?_
 unfold ua at h
 split at h<;>try exact h.elim
 rename_i x
 obtain ⟨t,⟨rfl,hc⟩,hK⟩:=h
 refine ⟨_,hK,?_⟩
 clear hK
 generalize hR:(iR t.name)=R
 unfold ba
 refine Yfu aE (tCq zR tNq) Tryz.func88 [.tmp 2] fun hcl=>?_
 refine Tq76 ?_
 refine ⟨hc,?_⟩
 cases c0:iR t.name with
 |false =>
  rw [c0] at hR
  subst hR
  refine Tq23 ?_
  exact Y8
 |true =>
 rw [c0] at hR
 subst hR
 refine Tq23 ?_
 exact Y8
def wM:PCt
 |[x],H,K=>∃ t:SRole,(x=aN t∧t.name.length≤140737488355328)∧K (.bool (dm t.name))
 |_,_,_=>False
theorem AJ:EPp 90 wM:=by
 refine Ype fun _ H K h=>?_
 unfold wM at h
 split at h<;>try exact h.elim
 rename_i x
 obtain ⟨t,⟨rfl,hc⟩,hK⟩:=h
 refine ⟨_,hK,?_⟩
 clear hK
 generalize hR:(dm t.name)=R
 unfold aN
 refine Yfu aE (tCq l5 tNq) Tryz.func90 [.tmp 2] fun hcl=>?_
 refine Tq19 ?_
 refine ⟨hc,?_⟩
 cases c0:dm t.name with
 |false =>
  rw [c0] at hR
  subst hR
  refine Tq10 ?_
  exact Y8
 |true =>
 rw [c0] at hR
 subst hR
 refine Tq10 ?_
 exact Y8
def tg (t:SAction):Bool:=dm t.name&&t.params.all fun p=>iR p.name
def rH (t:STable):Bool:=dm t.name&&t.keys.all fun k=>iR k.name
def wm:PCt
 |[x],H,K=>∃ t:SAction,(x=ap t∧(t.name.length≤140737488355328∧t.params.length≤1000000∧∀ p∈t.params,p.name.length≤140737488355328))∧K (.bool (tg t))
 |_,_,_=>False
theorem Bq:EPp 81 wm:=by
 refine Ype fun _ H K h=>?_
 unfold wm at h
 split at h<;>try exact h.elim
 rename_i x
 obtain ⟨t,⟨rfl,hc⟩,hK⟩:=h
 refine ⟨_,hK,?_⟩
 clear hK
 generalize hR:(tg t)=R
 unfold ap
 refine Yfu aE (tCq l5 (tCq y8 tNq)) Tryz.func81 [.tmp 2] fun hcl=>?_
 unfold tg at hR
 refine Tq19 ?_
 refine ⟨hc.1,?_⟩
 cases c0:dm t.name with
 |false =>
  rw [c0,Bool.false_and] at hR
  subst hR
  refine Tq10 ?_
  exact Y8
 |true =>
 rw [c0,Bool.true_and] at hR
 try simp only [bm,aD,bhq,Nat.reduceMod,Nat.reduceDiv,aW,aX,aZ,bx,aY,bw,bo,bp,bv,yaq,yar,yao,yap,go_sem,eZ,nY,c0]
 refine ⟨t.params,(fun p=>iR p.name),⟨rfl,hc.2.1,fun x hx H' hle' hcl'=>clB zB ⟨x,⟨rfl,hc.2.2 x hx⟩,rfl⟩⟩,?_⟩
 cases c1:t.params.all fun p=>iR p.name with
 |false =>
  rw [c1] at hR
  subst hR
  refine Tq63 ?_
  exact Y8
 |true =>
 rw [c1] at hR
 subst hR
 refine Tq63 ?_
 exact Y8
def wj:PCt
 |[x],H,K=>∃ t:STable,(x=ax t∧(t.name.length≤140737488355328∧t.keys.length≤1000000∧∀ p∈t.keys,p.name.length≤140737488355328))∧K (.bool (rH t))
 |_,_,_=>False
theorem Ak:EPp 86 wj:=by
 refine Ype fun _ H K h=>?_
 unfold wj at h
 split at h<;>try exact h.elim
 rename_i x
 obtain ⟨t,⟨rfl,hc⟩,hK⟩:=h
 refine ⟨_,hK,?_⟩
 clear hK
 generalize hR:(rH t)=R
 unfold ax
 refine Yfu aE (tCq l5 (tCq zQ tNq)) Tryz.func86 [.tmp 2] fun hcl=>?_
 unfold rH at hR
 refine Tq19 ?_
 refine ⟨hc.1,?_⟩
 cases c0:dm t.name with
 |false =>
  rw [c0,Bool.false_and] at hR
  subst hR
  refine Tq10 ?_
  exact Y8
 |true =>
 rw [c0,Bool.true_and] at hR
 try simp only [bm,aD,bhq,Nat.reduceMod,Nat.reduceDiv,aW,aX,aZ,bx,aY,bw,bo,bp,bv,yaq,yar,yao,yap,go_sem,eZ,kx,c0]
 refine ⟨t.keys,(fun k=>iR k.name),⟨rfl,hc.2.1,fun x hx H' hle' hcl'=>clB zx ⟨x,⟨rfl,hc.2.2 x hx⟩,rfl⟩⟩,?_⟩
 cases c1:t.keys.all fun k=>iR k.name with
 |false =>
  rw [c1] at hR
  subst hR
  refine Tq64 ?_
  exact Y8
 |true =>
 rw [c1] at hR
 subst hR
 refine Tq64 ?_
 exact Y8
def nZ (S:Sch):Bool:=(S.fields.all fun t=>dm t.name)&&((S.headers.all fun t=>dm t.name)&&(S.actions.all tg&&(S.tables.all rH&&S.roles.all fun t=>dm t.name)))
def jO:PCt
 |[.agg l],_,K=>∃ S:Sch,(l=aR S∧SB S)∧K (.bool (nZ S))
 |_,_,_=>False
theorem Eh:EPp 31 jO:=by
 refine Ype fun _ H K h=>?_
 unfold jO at h
 split at h<;>try exact h.elim
 rename_i l
 obtain ⟨S,⟨rfl,hS⟩,hK⟩:=h
 refine ⟨_,hK,?_⟩
 clear hK
 generalize hR:nZ S=R
 unfold nZ at hR
 refine Yfu aE (tCq zT (tCq qK (tCq oY (tCq nd (tCq pb tNq))))) Tryz.func31 [.tmp 2] fun hcl=>?_
 simp only [bm,aD,bhq,Nat.reduceMod,Nat.reduceDiv,aW,aX,aZ,bx,aY,bw,bo,bp,bv,yaq,yar,yao,yap,go_sem,aR,fq]
 refine ⟨S.fields,(fun t=>dm t.name),⟨rfl,hS.sl.fl,fun x hx H' hle' hcl'=>clB BH ⟨x,⟨rfl,hS.fn x hx⟩,rfl⟩⟩,?_⟩
 cases c0:S.fields.all fun t=>dm t.name with
 |false =>
  rw [c0,Bool.false_and] at hR
  subst hR
  try simp only [bm,aD,bhq,Nat.reduceMod,Nat.reduceDiv,aW,aX,aZ,bx,aY,bw,bo,bp,bv,yaq,yar,yao,yap,go_sem,aR,fq,c0]
  exact Y8
 |true =>
 rw [c0,Bool.true_and] at hR
 try simp only [bm,aD,bhq,Nat.reduceMod,Nat.reduceDiv,aW,aX,aZ,bx,aY,bw,bo,bp,bv,yaq,yar,yao,yap,go_sem,aR,fq,b6,c0]
 refine ⟨S.headers,(fun t=>dm t.name),⟨rfl,hS.sl.hl,fun x hx H' hle' hcl'=>clB A3 ⟨x,⟨rfl,(hS.hn x hx).1⟩,rfl⟩⟩,?_⟩
 cases c1:S.headers.all fun t=>dm t.name with
 |false =>
  rw [c1,Bool.false_and] at hR
  subst hR
  try simp only [bm,aD,bhq,Nat.reduceMod,Nat.reduceDiv,aW,aX,aZ,bx,aY,bw,bo,bp,bv,yaq,yar,yao,yap,go_sem,aR,fq,b6,c0,c1]
  exact Y8
 |true =>
 rw [c1,Bool.true_and] at hR
 try simp only [bm,aD,bhq,Nat.reduceMod,Nat.reduceDiv,aW,aX,aZ,bx,aY,bw,bo,bp,bv,yaq,yar,yao,yap,go_sem,aR,fq,b6,bQ,c0,c1]
 refine ⟨S.actions,tg,⟨rfl,hS.sl.al,fun x hx H' hle' hcl'=>clB Bq ⟨x,⟨rfl,⟨(hS.an x hx).1,(hS.an x hx).2.1,(hS.an x hx).2.2.2⟩⟩,rfl⟩⟩,?_⟩
 cases c2:S.actions.all tg with
 |false =>
  rw [c2,Bool.false_and] at hR
  subst hR
  try simp only [bm,aD,bhq,Nat.reduceMod,Nat.reduceDiv,aW,aX,aZ,bx,aY,bw,bo,bp,bv,yaq,yar,yao,yap,go_sem,aR,fq,b6,bQ,c0,c1,c2]
  exact Y8
 |true =>
 rw [c2,Bool.true_and] at hR
 try simp only [bm,aD,bhq,Nat.reduceMod,Nat.reduceDiv,aW,aX,aZ,bx,aY,bw,bo,bp,bv,yaq,yar,yao,yap,go_sem,aR,fq,b6,bQ,bZ,c0,c1,c2]
 refine ⟨S.tables,rH,⟨rfl,hS.sl.tl,fun x hx H' hle' hcl'=>clB Ak ⟨x,⟨rfl,⟨(hS.tn x hx).1,(hS.tn x hx).2.1,(hS.tn x hx).2.2.2.2⟩⟩,rfl⟩⟩,?_⟩
 cases c3:S.tables.all rH with
 |false =>
  rw [c3,Bool.false_and] at hR
  subst hR
  try simp only [bm,aD,bhq,Nat.reduceMod,Nat.reduceDiv,aW,aX,aZ,bx,aY,bw,bo,bp,bv,yaq,yar,yao,yap,go_sem,aR,fq,b6,bQ,bZ,c0,c1,c2,c3]
  exact Y8
 |true =>
 rw [c3,Bool.true_and] at hR
 try simp only [bm,aD,bhq,Nat.reduceMod,Nat.reduceDiv,aW,aX,aZ,bx,aY,bw,bo,bp,bv,yaq,yar,yao,yap,go_sem,aR,fq,b6,bQ,bZ,cD,c0,c1,c2,c3]
 refine ⟨S.roles,(fun t=>dm t.name),⟨rfl,hS.sl.rl,fun x hx H' hle' hcl'=>clB AJ ⟨x,⟨rfl,(hS.rn x hx).1⟩,rfl⟩⟩,?_⟩
 cases c4:S.roles.all fun t=>dm t.name with
 |false =>
  rw [c4] at hR
  subst hR
  refine Tq44 ?_
  exact Y8
 |true =>
 rw [c4] at hR
 subst hR
 refine Tq44 ?_
 exact Y8
theorem nW {n:Nat}:decide ((n:Int) > 0)=decide (0<n):=by simp
def nm1 (t:SField):Bool:=wB t.id 1 65534&&wB t.bits 1 128
def nm2 (t:SHeader):Bool:=wB t.id 1 65534&&decide (0<t.fields.length)
def nm4 (t:SAction):Bool:=wB t.id 1 65534&&t.params.all fun p=>wB p.bits 1 128
def nm5 (t:STable):Bool:=wB t.id 1 65534&&(wB t.size 1 64&&decide (0<t.keys.length))
def nm6 (t:SRole):Bool:=wB t.id 1 65534&&decide (t.quota≤512)
def uN (S:Sch):Bool:=wB S.maxBatch 1 32&&(wB S.budget 1 200&&(S.fields.all nm1&&(S.headers.all nm2&&((S.states.all fun t=>wB t.id 1 65534)&&(S.actions.all nm4&&(S.tables.all nm5&&S.roles.all nm6))))))
def Ce:PCt
 |[x],H,K=>∃ t:SField,(x=aG t)∧K (.bool (nm1 t))
 |_,_,_=>False
theorem FU:EPp 92 Ce:=by
 refine Ype fun _ H K h=>?_
 unfold Ce at h
 split at h<;>try exact h.elim
 rename_i x
 obtain ⟨t,rfl,hK⟩:=h
 refine ⟨_,hK,?_⟩
 clear hK
 generalize hR:(nm1 t)=R
 unfold aG
 refine Yfu aE (tCq sk (tCq yB tNq)) Tryz.func92 [.tmp 2] fun hcl=>?_
 unfold nm1 at hR
 cases c0:wB t.id 1 65534 with
 |false =>
  rw [c0,Bool.false_and] at hR
  subst hR
  refine Tq18 ?_
  exact Y8
 |true =>
 rw [c0,Bool.true_and] at hR
 cases c1:wB t.bits 1 128 with
 |false =>
  rw [c1] at hR
  subst hR
  refine Tq60 ?_
  exact Y8
 |true =>
 rw [c1] at hR
 subst hR
 refine Tq60 ?_
 exact Y8
def Cl:PCt
 |[x],H,K=>∃ t:SHeader,(x=az t)∧K (.bool (nm2 t))
 |_,_,_=>False
theorem GW:EPp 95 Cl:=by
 refine Ype fun _ H K h=>?_
 unfold Cl at h
 split at h<;>try exact h.elim
 rename_i x
 obtain ⟨t,rfl,hK⟩:=h
 refine ⟨_,hK,?_⟩
 clear hK
 generalize hR:(nm2 t)=R
 unfold az
 refine Yfu aE (tCq sk tNq) Tryz.func95 [.tmp 2] fun hcl=>?_
 unfold nm2 at hR
 cases c0:wB t.id 1 65534 with
 |false =>
  rw [c0,Bool.false_and] at hR
  subst hR
  refine Tq53 ?_
  exact Y8
 |true =>
 rw [c0,Bool.true_and] at hR
 cases c1:decide (0<t.fields.length) with
 |false =>
  rw [c1] at hR
  subst hR
  refine Tq51 ?_
  exact Y8
 |true =>
 rw [c1] at hR
 subst hR
 refine Tq51 ?_
 exact Y8
def Dl:PCt
 |[x],H,K=>∃ t:SState,(x=aA t)∧K (.bool (wB t.id 1 65534))
 |_,_,_=>False
theorem Kw:EPp 97 Dl:=by
 refine Ype fun _ H K h=>?_
 unfold Dl at h
 split at h<;>try exact h.elim
 rename_i x
 obtain ⟨t,rfl,hK⟩:=h
 refine ⟨_,hK,?_⟩
 clear hK
 generalize hR:(wB t.id 1 65534)=R
 unfold aA
 refine Yfu aE (tCq sk tNq) Tryz.func97 [.tmp 2] fun hcl=>?_
 cases c0:wB t.id 1 65534 with
 |false =>
  rw [c0] at hR
  subst hR
  refine Tq18 ?_
  exact Y8
 |true =>
 rw [c0] at hR
 subst hR
 refine Tq18 ?_
 exact Y8
def yF:PCt
 |[x],H,K=>∃ t:SParam,(x=aL t)∧K (.bool (wB t.bits 1 128))
 |_,_,_=>False
theorem DQ:EPp 99 yF:=by
 refine Ype fun _ H K h=>?_
 unfold yF at h
 split at h<;>try exact h.elim
 rename_i x
 obtain ⟨t,rfl,hK⟩:=h
 refine ⟨_,hK,?_⟩
 clear hK
 generalize hR:(wB t.bits 1 128)=R
 unfold aL
 refine Yfu aE (tCq yB tNq) Tryz.func99 [.tmp 2] fun hcl=>?_
 cases c0:wB t.bits 1 128 with
 |false =>
  rw [c0] at hR
  subst hR
  refine Tq68 ?_
  exact Y8
 |true =>
 rw [c0] at hR
 subst hR
 refine Tq68 ?_
 exact Y8
def Cv:PCt
 |[x],H,K=>∃ t:SAction,(x=ap t∧t.params.length≤1000000)∧K (.bool (nm4 t))
 |_,_,_=>False
theorem IF:EPp 98 Cv:=by
 refine Ype fun _ H K h=>?_
 unfold Cv at h
 split at h<;>try exact h.elim
 rename_i x
 obtain ⟨t,⟨rfl,hc⟩,hK⟩:=h
 refine ⟨_,hK,?_⟩
 clear hK
 generalize hR:(nm4 t)=R
 unfold ap
 refine Yfu aE (tCq sk (tCq y8 tNq)) Tryz.func98 [.tmp 2] fun hcl=>?_
 unfold nm4 at hR
 cases c0:wB t.id 1 65534 with
 |false =>
  rw [c0,Bool.false_and] at hR
  subst hR
  refine Tq18 ?_
  exact Y8
 |true =>
 rw [c0,Bool.true_and] at hR
 simp only [bm,aD,bhq,Nat.reduceMod,Nat.reduceDiv,aW,aX,aZ,bx,aY,bw,bo,bp,bv,yaq,yar,yao,yap,go_sem,iK,nY,c0]
 refine ⟨t.params,(fun p=>wB p.bits 1 128),⟨rfl,hc,fun x hx H' hle' hcl'=>clB DQ ⟨x,rfl,rfl⟩⟩,?_⟩
 cases c1:t.params.all fun p=>wB p.bits 1 128 with
 |false =>
  rw [c1] at hR
  subst hR
  refine Tq61 ?_
  exact Y8
 |true =>
 rw [c1] at hR
 subst hR
 refine Tq61 ?_
 exact Y8
def Cm:PCt
 |[x],H,K=>∃ t:STable,(x=ax t)∧K (.bool (nm5 t))
 |_,_,_=>False
theorem KY:EPp 100 Cm:=by
 refine Ype fun _ H K h=>?_
 unfold Cm at h
 split at h<;>try exact h.elim
 rename_i x
 obtain ⟨t,rfl,hK⟩:=h
 refine ⟨_,hK,?_⟩
 clear hK
 generalize hR:(nm5 t)=R
 unfold ax
 refine Yfu aE (tCq sk (tCq ld tNq)) Tryz.func100 [.tmp 2] fun hcl=>?_
 unfold nm5 at hR
 cases c0:wB t.id 1 65534 with
 |false =>
  rw [c0,Bool.false_and] at hR
  subst hR
  refine Tq53 ?_
  exact Y8
 |true =>
 rw [c0,Bool.true_and] at hR
 cases c1:wB t.size 1 64 with
 |false =>
  rw [c1,Bool.false_and] at hR
  subst hR
  try simp only [bm,aD,bhq,Nat.reduceMod,Nat.reduceDiv,aW,aX,aZ,bx,aY,bw,bo,bp,bv,yaq,yar,yao,yap,go_sem,ybb,nW,inL,iK,bA,c0,c1]
  exact Y8
 |true =>
 rw [c1,Bool.true_and] at hR
 cases c2:decide (0<t.keys.length) with
 |false =>
  rw [c2] at hR
  subst hR
  refine Tq46 ?_
  exact Y8
 |true =>
 rw [c2] at hR
 subst hR
 refine Tq46 ?_
 exact Y8
def Cw:PCt
 |[x],H,K=>∃ t:SRole,(x=aN t)∧K (.bool (nm6 t))
 |_,_,_=>False
theorem Hs:EPp 101 Cw:=by
 refine Ype fun _ H K h=>?_
 unfold Cw at h
 split at h<;>try exact h.elim
 rename_i x
 obtain ⟨t,rfl,hK⟩:=h
 refine ⟨_,hK,?_⟩
 clear hK
 generalize hR:(nm6 t)=R
 unfold aN
 refine Yfu aE (tCq sk tNq) Tryz.func101 [.tmp 2] fun hcl=>?_
 unfold nm6 at hR
 cases c0:wB t.id 1 65534 with
 |false =>
  rw [c0,Bool.false_and] at hR
  subst hR
  refine Tq18 ?_
  exact Y8
 |true =>
 rw [c0,Bool.true_and] at hR
 cases c1:decide (t.quota≤512) with
 |false =>
  rw [c1] at hR
  subst hR
  refine Tq62 ?_
  exact Y8
 |true =>
 rw [c1] at hR
 subst hR
 refine Tq62 ?_
 exact Y8
def nE:PCt
 |[.agg l],_,K=>∃ S:Sch,(l=aR S∧SB S)∧K (.bool (uN S))
 |_,_,_=>False
theorem LI:EPp 32 nE:=by
 refine Ype fun _ H K h=>?_
 unfold nE at h
 split at h<;>try exact h.elim
 rename_i l
 obtain ⟨S,⟨rfl,hS⟩,hK⟩:=h
 refine ⟨_,hK,?_⟩
 clear hK
 generalize hR:uN S=R
 unfold uN at hR
 refine Yfu aE (tCq ld (tCq zT (tCq qK (tCq qJ (tCq oY (tCq nd (tCq pb tNq))))))) Tryz.func32 [.tmp 2] fun hcl=>?_
 cases c0:wB S.maxBatch 1 32 with
 |false =>
  rw [c0,Bool.false_and] at hR
  subst hR
  try simp only [bm,aD,bhq,Nat.reduceMod,Nat.reduceDiv,aW,aX,aZ,bx,aY,bw,bo,bp,bv,yaq,yar,yao,yap,go_sem,aR,bA,c0]
  exact Y8
 |true =>
 rw [c0,Bool.true_and] at hR
 cases c1:wB S.budget 1 200 with
 |false =>
  rw [c1,Bool.false_and] at hR
  subst hR
  try simp only [bm,aD,bhq,Nat.reduceMod,Nat.reduceDiv,aW,aX,aZ,bx,aY,bw,bo,bp,bv,yaq,yar,yao,yap,go_sem,aR,bA,bA,c0,c1]
  exact Y8
 |true =>
 rw [c1,Bool.true_and] at hR
 simp only [bm,aD,bhq,Nat.reduceMod,Nat.reduceDiv,aW,aX,aZ,bx,aY,bw,bo,bp,bv,yaq,yar,yao,yap,go_sem,aR,bA,bA,fq,c0,c1]
 refine ⟨S.fields,nm1,⟨rfl,hS.sl.fl,fun x hx H' hle' hcl'=>clB FU ⟨x,rfl,rfl⟩⟩,?_⟩
 cases c2:S.fields.all nm1 with
 |false =>
  rw [c2,Bool.false_and] at hR
  subst hR
  try simp only [bm,aD,bhq,Nat.reduceMod,Nat.reduceDiv,aW,aX,aZ,bx,aY,bw,bo,bp,bv,yaq,yar,yao,yap,go_sem,aR,bA,bA,fq,c0,c1,c2]
  exact Y8
 |true =>
 rw [c2,Bool.true_and] at hR
 try simp only [bm,aD,bhq,Nat.reduceMod,Nat.reduceDiv,aW,aX,aZ,bx,aY,bw,bo,bp,bv,yaq,yar,yao,yap,go_sem,aR,bA,bA,fq,b6,c0,c1,c2]
 refine ⟨S.headers,nm2,⟨rfl,hS.sl.hl,fun x hx H' hle' hcl'=>clB GW ⟨x,rfl,rfl⟩⟩,?_⟩
 cases c3:S.headers.all nm2 with
 |false =>
  rw [c3,Bool.false_and] at hR
  subst hR
  try simp only [bm,aD,bhq,Nat.reduceMod,Nat.reduceDiv,aW,aX,aZ,bx,aY,bw,bo,bp,bv,yaq,yar,yao,yap,go_sem,aR,bA,bA,fq,b6,c0,c1,c2,c3]
  exact Y8
 |true =>
 rw [c3,Bool.true_and] at hR
 try simp only [bm,aD,bhq,Nat.reduceMod,Nat.reduceDiv,aW,aX,aZ,bx,aY,bw,bo,bp,bv,yaq,yar,yao,yap,go_sem,aR,bA,bA,fq,b6,cr,c0,c1,c2,c3]
 refine ⟨S.states,(fun t=>wB t.id 1 65534),⟨rfl,hS.sl.sl,fun x hx H' hle' hcl'=>clB Kw ⟨x,rfl,rfl⟩⟩,?_⟩
 cases c4:S.states.all fun t=>wB t.id 1 65534 with
 |false =>
  rw [c4,Bool.false_and] at hR
  subst hR
  try simp only [bm,aD,bhq,Nat.reduceMod,Nat.reduceDiv,aW,aX,aZ,bx,aY,bw,bo,bp,bv,yaq,yar,yao,yap,go_sem,aR,bA,bA,fq,b6,cr,c0,c1,c2,c3,c4]
  exact Y8
 |true =>
 rw [c4,Bool.true_and] at hR
 try simp only [bm,aD,bhq,Nat.reduceMod,Nat.reduceDiv,aW,aX,aZ,bx,aY,bw,bo,bp,bv,yaq,yar,yao,yap,go_sem,aR,bA,bA,fq,b6,cr,bQ,c0,c1,c2,c3,c4]
 refine ⟨S.actions,nm4,⟨rfl,hS.sl.al,fun x hx H' hle' hcl'=>clB IF ⟨x,⟨rfl,(hS.an x hx).2.1⟩,rfl⟩⟩,?_⟩
 cases c5:S.actions.all nm4 with
 |false =>
  rw [c5,Bool.false_and] at hR
  subst hR
  try simp only [bm,aD,bhq,Nat.reduceMod,Nat.reduceDiv,aW,aX,aZ,bx,aY,bw,bo,bp,bv,yaq,yar,yao,yap,go_sem,aR,bA,bA,fq,b6,cr,bQ,c0,c1,c2,c3,c4,c5]
  exact Y8
 |true =>
 rw [c5,Bool.true_and] at hR
 try simp only [bm,aD,bhq,Nat.reduceMod,Nat.reduceDiv,aW,aX,aZ,bx,aY,bw,bo,bp,bv,yaq,yar,yao,yap,go_sem,aR,bA,bA,fq,b6,cr,bQ,bZ,c0,c1,c2,c3,c4,c5]
 refine ⟨S.tables,nm5,⟨rfl,hS.sl.tl,fun x hx H' hle' hcl'=>clB KY ⟨x,rfl,rfl⟩⟩,?_⟩
 cases c6:S.tables.all nm5 with
 |false =>
  rw [c6,Bool.false_and] at hR
  subst hR
  try simp only [bm,aD,bhq,Nat.reduceMod,Nat.reduceDiv,aW,aX,aZ,bx,aY,bw,bo,bp,bv,yaq,yar,yao,yap,go_sem,aR,bA,bA,fq,b6,cr,bQ,bZ,c0,c1,c2,c3,c4,c5,c6]
  exact Y8
 |true =>
 rw [c6,Bool.true_and] at hR
 try simp only [bm,aD,bhq,Nat.reduceMod,Nat.reduceDiv,aW,aX,aZ,bx,aY,bw,bo,bp,bv,yaq,yar,yao,yap,go_sem,aR,bA,bA,fq,b6,cr,bQ,bZ,cD,c0,c1,c2,c3,c4,c5,c6]
 refine ⟨S.roles,nm6,⟨rfl,hS.sl.rl,fun x hx H' hle' hcl'=>clB Hs ⟨x,rfl,rfl⟩⟩,?_⟩
 cases c7:S.roles.all nm6 with
 |false =>
  rw [c7] at hR
  subst hR
  refine Tq38 ?_
  exact Y8
 |true =>
 rw [c7] at hR
 subst hR
 refine Tq38 ?_
 exact Y8
end Go.AL
