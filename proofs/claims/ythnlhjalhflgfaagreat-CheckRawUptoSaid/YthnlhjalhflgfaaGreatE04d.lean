/- Lemmas of the proof; no condition. -/
import Derived.Test.YthnlhjalhflgfaaGreatS12a
set_option linter.all false
set_option maxRecDepth 10000
set_option maxHeartbeats 32000000
open List renaming length_cons → yaz, length_nil → yba, length_map → ybb, take_of_length_le → ybc, drop_append → ybd, take_append → ybe, drop_eq_nil_of_le → ybf, take_succ_cons → yaq, take_zero → yar, drop_succ_cons → yao, drop_zero → yap
open Go Go.AL Go.Proofs
namespace Go.AL
theorem NW:ti Tryz.prog 45=some ⟨.struct [(0,3,false),(1,9,false),(2,3,false)],3,32,.agg [.int .i64 0,.str [],.int .i64 0]⟩:=krf
theorem Id:tSl Tryz.prog 25 45:=kSl
theorem Jb:tFn Tryz.prog 174:=kFn
theorem OW:ti Tryz.prog 69=some ⟨.struct [(0,3,false),(1,9,false),(2,23,false)],3,48,.agg [.int .i64 0,.str [],.slice .nil 1 []]⟩:=krf
theorem Im:tSl Tryz.prog 26 69:=kSl
theorem HR:tFn Tryz.prog 176:=kFn
theorem Od:ti Tryz.prog 81=some ⟨.struct [(0,3,false),(1,3,false),(2,3,false),(3,79,false),(4,3,false)],5,56,.agg [.int .i64 0,.int .i64 0,.int .i64 0,.slice .nil 1 [],.int .i64 0]⟩:=krf
theorem Jr:tSl Tryz.prog 27 81:=kSl
theorem KQ:tFn Tryz.prog 188:=kFn
theorem O9:ti Tryz.prog 86=some ⟨.struct [(0,3,false),(1,9,false),(2,83,false),(3,84,false),(4,9,false)],5,88,.agg [.int .i64 0,.str [],.slice .nil 1 [],.slice .nil 1 [],.str []]⟩:=krf
theorem Kk:tSl Tryz.prog 28 86:=kSl
theorem H5:tFn Tryz.prog 180:=kFn
theorem Oi:ti Tryz.prog 114=some ⟨.struct [(0,9,false),(1,3,false)],2,24,.agg [.str [],.int .i64 0]⟩:=krf
theorem Ho:tSl Tryz.prog 83 114:=kSl
theorem KS:tFn Tryz.prog 179:=kFn
theorem M8:ti Tryz.prog 57=some ⟨.struct [(0,3,false),(1,9,false),(2,54,false),(3,23,false),(4,3,false),(5,55,false),(6,3,false),(7,9,false)],8,128,.agg [.int .i64 0,.str [],.slice .nil 1 [],.slice .nil 1 [],.int .i64 0,.slice .nil 1 [],.int .i64 0,.str []]⟩:=krf
theorem LH:tSl Tryz.prog 29 57:=kSl
theorem GG:tFn Tryz.prog 103:=kFn
theorem OY:ti Tryz.prog 53=some ⟨.struct [(0,9,false),(1,3,false),(2,3,false)],3,32,.agg [.str [],.int .i64 0,.int .i64 0]⟩:=krf
theorem GN:tSl Tryz.prog 54 53:=kSl
theorem Ly:tFn Tryz.prog 183:=kFn
theorem O3:ti Tryz.prog 48=some ⟨.struct [(0,3,false),(1,9,false),(2,46,false),(3,23,false),(4,3,false),(5,4,false)],6,88,.agg [.int .i64 0,.str [],.slice .nil 1 [],.slice .nil 1 [],.int .i64 0,.bool false]⟩:=krf
theorem LT:tSl Tryz.prog 31 48:=kSl
theorem Iq:tFn Tryz.prog 185:=kFn
theorem Ou:ti Tryz.prog 112=some ⟨.struct [(0,3,false),(1,3,false),(2,110,false)],6,48,.agg [.int .i64 0,.int .i64 0,.int .i64 0,.int .i64 0,.int .u64 0,.int .u64 0]⟩:=krf
theorem HF:tSl Tryz.prog 84 112:=kSl
theorem JY:tFn Tryz.prog 205:=kFn
theorem NE:ti Tryz.prog 75=some ⟨.struct [(0,3,false),(1,3,false)],2,16,.agg [.int .i64 0,.int .i64 0]⟩:=krf
theorem Lk:tSl Tryz.prog 30 75:=kSl
theorem GZ:tFn Tryz.prog 211:=kFn
theorem Nc:ti Tryz.prog 119=some ⟨.struct [(0,3,false),(1,4,false),(2,4,false),(3,117,false)],4,40,.agg [.int .i64 0,.bool false,.bool false,.slice .nil 1 []]⟩:=krf
theorem IL:tSl Tryz.prog 46 119:=kSl
theorem LY:tFn Tryz.prog 213:=kFn
theorem Pe:ti Tryz.prog 108=some ⟨.struct [(0,106,false),(2,106,false),(4,3,false)],5,40,.agg [.int .u64 0,.int .u64 0,.int .u64 0,.int .u64 0,.int .i64 0]⟩:=krf
theorem Km:tSl Tryz.prog 79 108:=kSl
theorem G7:tFn Tryz.prog 219:=kFn
theorem N4:ti Tryz.prog 50=some ⟨.struct [(0,3,false),(1,3,false),(2,3,false),(3,3,false),(4,3,false),(5,3,false)],6,48,.agg [.int .i64 0,.int .i64 0,.int .i64 0,.int .i64 0,.int .i64 0,.int .i64 0]⟩:=krf
theorem J0:tSl Tryz.prog 32 50:=kSl
theorem LM:tFn Tryz.prog 99:=kFn
theorem Nl:ti Tryz.prog 3=some ⟨.int .i64,1,8,.int .i64 0⟩:=krf
theorem Lc:tSl Tryz.prog 23 3:=kSl
theorem Kf:tFn Tryz.prog 100:=kFn
attribute [go_sem] NW Id Jb OW Im HR Od Jr KQ O9 Kk H5 Oi Ho KS M8 LH GG OY GN Ly O3 LT Iq Ou HF JY NE Lk GZ Nc IL LY Pe Km G7 N4 J0 LM Nl Lc Kf
def jb (P:Program) (F:FuncId):PCt:=fun args H K=>∃ x,K x∧ACalls P F args H (.ret x) H
theorem ex {P:Program} {F:FuncId}:EntOk P F (Ent.pure (jb P F)):=EntOk.pure fun _ _ _ h=>h
theorem eH {α:Type} {q:α→Bool}:∀ {l:List α} {k:Nat},decide (0≤ixP q l k)=l.any q
 |[],_=>rfl
 |x::l,k=>by
  unfold ixP
  rw [List.any_cons]
  cases h:q x
  ·rw [if_neg (by decide),eH,Bool.false_or]
  ·rw [if_pos rfl,Bool.true_or];exact dtq (Int.natCast_nonneg _)
theorem jp {α:Type} {q:α→Bool} {l:List α}:(!(l.any fun x=>!q x))=l.all q:=by
 induction l with
 |nil=>rfl
 |cons x l ih=>rw [List.any_cons,List.all_cons,← ih];cases q x<;>simp
theorem tfB:(∀ x,(true&&x)=x)∧(∀ x,(false&&x)=false)∧(∀ x,(x&&true)=x)∧(∀ x,(x&&false)=false)∧(∀ x,(true||x)=true)∧(∀ x,(false||x)=x)∧(∀ x,(x||true)=true)∧(∀ x,(x||false)=x)∧(!true)=false∧(!false)=true∧(false=true)=False∧(true=false)=False:=by decide +revert
theorem clB {P:Program} {f:FuncId} {p:PCt} {args:List AV} {H:AHeap} {b:AV} (h:EntOk P f (Ent.pure p)) (hp:p args H (fun v=>v=b)):ACalls P f args H (.ret b) H:=by
 obtain ⟨v,hv,hc⟩:=h.1 rfl _ _ _ hp
 subst hv
 exact hc
def AV.smk:AV→Mark
 |.slice m _ _=>m
 |_=>.any
def pIx {α:Type} (P:Program) (av:α→AV) (sz:Nat):PCt
 |[x,.func (.func F) fst caps],H,K=>∃ (ts:List α) (q:α→Bool),(x=.slice x.smk sz (ts.map av)∧ts.length≤1000000∧∀ x∈ts,ACalls P F (fst++[av x]++caps) H (.ret (.bool (q x))) H)∧K (.int .i64 (ixP q ts 0))
 |_,_,_=>False
theorem kF {α:Type} {P:Program} {f:FuncId} {av:α→AV} {sz:Nat} (h:∀ (av':α→AV) (sz':Nat),av'=av→sz'=sz→∀ (m:Mark) (ts:List α) (q:α→Bool) (F:FuncId) (fst caps:List AV) (H:AHeap),ts.length≤1000000→(∀ x∈ts,ACalls P F (fst++[av' x]++caps) H (.ret (.bool (q x))) H)→ACalls P f [.slice m sz' (ts.map av'),.func (.func F) fst caps] H (.ret (.int .i64 (ixP q ts 0))) H):EntOk P f (Ent.pure (pIx P av sz)):=by
 refine EntOk.pure fun args H K hh=>?_
 unfold pIx at hh
 exact Y70
def pAn {α:Type} (P:Program) (av:α→AV) (sz:Nat):PCt
 |[x,.func (.func F) fst caps],H,K=>∃ (ts:List α) (q:α→Bool),(x=.slice x.smk sz (ts.map av)∧ts.length≤1000000∧∀ x∈ts,ACalls P F (fst++[av x]++caps) H (.ret (.bool (q x))) H)∧K (.bool (ts.any q))
 |_,_,_=>False
theorem kw {α:Type} {P:Program} {f:FuncId} {av:α→AV} {sz:Nat} (h:∀ (av':α→AV) (sz':Nat),av'=av→sz'=sz→∀ (m:Mark) (ts:List α) (q:α→Bool) (F:FuncId) (fst caps:List AV) (H:AHeap),ts.length≤1000000→(∀ x∈ts,ACalls P F (fst++[av' x]++caps) H (.ret (.bool (q x))) H)→ACalls P f [.slice m sz' (ts.map av'),.func (.func F) fst caps] H (.ret (.bool (ts.any q))) H):EntOk P f (Ent.pure (pAn P av sz)):=by
 refine EntOk.pure fun args H K hh=>?_
 unfold pAn at hh
 exact Y70
def pEv {α:Type} (P:Program) (av:α→AV) (sz:Nat):PCt
 |[x,.func (.func F) fst caps],H,K=>∃ (ts:List α) (q:α→Bool),(x=.slice x.smk sz (ts.map av)∧ts.length≤1000000∧∀ x∈ts,∀ H',H.Le H'→H'.Closed→ACalls P F (fst++[av x]++caps) H' (.ret (.bool (q x))) H')∧K (.bool (ts.all q))
 |_,_,_=>False
theorem kC {α:Type} {P:Program} {f:FuncId} {av:α→AV} {sz:Nat} (h:∀ (av':α→AV) (sz':Nat),av'=av→sz'=sz→∀ (m:Mark) (ts:List α) (q:α→Bool) (F:FuncId) (fst caps:List AV) (H:AHeap),ts.length≤1000000→(∀ x∈ts,∀ H',H.Le H'→H'.Closed→ACalls P F (fst++[av' x]++caps) H' (.ret (.bool (q x))) H')→ACalls P f [.slice m sz' (ts.map av'),.func (.func F) fst caps] H (.ret (.bool (ts.all q))) H):EntOk P f (Ent.pure (pEv P av sz)):=by
 refine EntOk.pure fun args H K hh=>?_
 unfold pEv at hh
 exact Y70
def pCl {α:Type} (P:Program) (av:α→AV):PCt
 |[x,.ptr c 0],H,K=>∃ (t:α) (b:Bool) (F:FuncId) (fst caps:List AV),(x=av t∧H.get c=some (.cells [.func (.func F) fst caps])∧∀ H',H.Le H'→H'.Closed→ACalls P F (fst++[av t]++caps) H' (.ret (.bool b)) H')∧K (.bool (!b))
 |_,_,_=>False
theorem kL {α:Type} {P:Program} {f:FuncId} {av:α→AV} (h:∀ (av':α→AV),av'=av→∀ (t:α) (c:Nat) (b:Bool) (F:FuncId) (fst caps:List AV) (H:AHeap),H.get c=some (.cells [.func (.func F) fst caps])→(∀ H',H.Le H'→H'.Closed→ACalls P F (fst++[av' t]++caps) H' (.ret (.bool b)) H')→ACalls P f [av' t,.ptr c 0] H (.ret (.bool (!b))) H):EntOk P f (Ent.pure (pCl P av)):=by
 refine EntOk.pure fun args H K hh=>?_
 unfold pCl at hh
 split at hh
 ·obtain ⟨t,b,F,fst,caps,⟨h1,h2,h3⟩,h4⟩:=hh
  rw [h1]
  exact ⟨_,h4,h av rfl t _ b _ _ _ _ h2 h3⟩
 ·exact hh.elim
attribute [go_sem] pIx pAn pEv pCl
abbrev MD:=@pIx SField Tryz.prog aH 3
abbrev N1:=@pAn SField Tryz.prog aH 3
abbrev fB:=@pEv SField Tryz.prog aH 3
abbrev Pl:=@pCl SField Tryz.prog aH
theorem JI:EPp 318 MD:=kF fun av sz ha hs m ts q F fst caps H hl hq=>by
 have hag:∀ x,∃ cs,av x=.agg cs∧cs.length=sz:=by subst ha hs;exact fun x=>⟨_,rfl,rfl⟩
 refine Yfv aC (tCq (ex (F:=F)) tNq) Tryz.func318 [.tmp 4] fun hcl hlt=>?_
 exact Y2
theorem Kx:EPp 233 N1:=kw fun av sz ha hs m ts q F fst caps H hl hq=>by
 refine Yfv aC (tCq JI tNq) Tryz.func233 [.tmp 4] fun hcl hlt=>?_
 exact Y17
theorem JU:EPp 234 Pl:=kL fun av ha t c b F fst caps H hg hq=>by
 have hag:∀ x,∃ cs,av x=.agg cs∧cs.length=3:=by subst ha;exact fun x=>⟨_,rfl,rfl⟩
 refine Yfv aC (tCq (ex (F:=F)) tNq) Tryz.func234 [.tmp 3] fun hcl hlt=>?_
 exact Y7
theorem zY:EPp 75 fB:=kC fun av sz ha hs m ts q F fst caps H hl hq=>by
 have hL:EPp 234 (pCl Tryz.prog av):=by rw [ha];exact JU
 refine Yfv aC (tCq Kx tNq) Tryz.func75 [.tmp 4] fun hcl hlt=>?_
 exact Y6
abbrev L3:=@pIx SHeader Tryz.prog az 3
abbrev Pa:=@pAn SHeader Tryz.prog az 3
abbrev b8:=@pEv SHeader Tryz.prog az 3
abbrev O8:=@pCl SHeader Tryz.prog az
theorem GF:EPp 319 L3:=kF fun av sz ha hs m ts q F fst caps H hl hq=>by
 have hag:∀ x,∃ cs,av x=.agg cs∧cs.length=sz:=by subst ha hs;exact fun x=>⟨_,rfl,rfl⟩
 refine Yfv aC (tCq (ex (F:=F)) tNq) Tryz.func319 [.tmp 4] fun hcl hlt=>?_
 exact Y2
theorem Jt:EPp 235 Pa:=kw fun av sz ha hs m ts q F fst caps H hl hq=>by
 refine Yfv aC (tCq GF tNq) Tryz.func235 [.tmp 4] fun hcl hlt=>?_
 exact Y17
theorem Jx:EPp 236 O8:=kL fun av ha t c b F fst caps H hg hq=>by
 have hag:∀ x,∃ cs,av x=.agg cs∧cs.length=3:=by subst ha;exact fun x=>⟨_,rfl,rfl⟩
 refine Yfv aC (tCq (ex (F:=F)) tNq) Tryz.func236 [.tmp 3] fun hcl hlt=>?_
 exact Y7
theorem re:EPp 78 b8:=kC fun av sz ha hs m ts q F fst caps H hl hq=>by
 have hL:EPp 236 (pCl Tryz.prog av):=by rw [ha];exact Jx
 refine Yfv aC (tCq Jt tNq) Tryz.func78 [.tmp 4] fun hcl hlt=>?_
 exact Y6
abbrev MC:=@pIx SState Tryz.prog aB 5
abbrev NC:=@pAn SState Tryz.prog aB 5
abbrev cu:=@pEv SState Tryz.prog aB 5
abbrev Mj:=@pCl SState Tryz.prog aB
theorem Hs:EPp 323 MC:=kF fun av sz ha hs m ts q F fst caps H hl hq=>by
 have hag:∀ x,∃ cs,av x=.agg cs∧cs.length=sz:=by subst ha hs;exact fun x=>⟨_,rfl,rfl⟩
 refine Yfv aC (tCq (ex (F:=F)) tNq) Tryz.func323 [.tmp 4] fun hcl hlt=>?_
 exact Y2
theorem GD:EPp 247 NC:=kw fun av sz ha hs m ts q F fst caps H hl hq=>by
 refine Yfv aC (tCq Hs tNq) Tryz.func247 [.tmp 4] fun hcl hlt=>?_
 exact Y17
theorem IE:EPp 248 Mj:=kL fun av ha t c b F fst caps H hg hq=>by
 have hag:∀ x,∃ cs,av x=.agg cs∧cs.length=5:=by subst ha;exact fun x=>⟨_,rfl,rfl⟩
 refine Yfv aC (tCq (ex (F:=F)) tNq) Tryz.func248 [.tmp 3] fun hcl hlt=>?_
 exact Y7
theorem rQ:EPp 96 cu:=kC fun av sz ha hs m ts q F fst caps H hl hq=>by
 have hL:EPp 248 (pCl Tryz.prog av):=by rw [ha];exact IE
 refine Yfv aC (tCq GD tNq) Tryz.func96 [.tmp 4] fun hcl hlt=>?_
 exact Y6
abbrev MH:=@pIx SAction Tryz.prog ap 5
abbrev N7:=@pAn SAction Tryz.prog ap 5
abbrev bS:=@pEv SAction Tryz.prog ap 5
abbrev OD:=@pCl SAction Tryz.prog ap
theorem LP:EPp 277 MH:=kF fun av sz ha hs m ts q F fst caps H hl hq=>by
 have hag:∀ x,∃ cs,av x=.agg cs∧cs.length=sz:=by subst ha hs;exact fun x=>⟨_,rfl,rfl⟩
 refine Yfv aC (tCq (ex (F:=F)) tNq) Tryz.func277 [.tmp 4] fun hcl hlt=>?_
 exact Y2
theorem LX:EPp 237 N7:=kw fun av sz ha hs m ts q F fst caps H hl hq=>by
 refine Yfv aC (tCq LP tNq) Tryz.func237 [.tmp 4] fun hcl hlt=>?_
 exact Y17
theorem KF:EPp 238 OD:=kL fun av ha t c b F fst caps H hg hq=>by
 have hag:∀ x,∃ cs,av x=.agg cs∧cs.length=5:=by subst ha;exact fun x=>⟨_,rfl,rfl⟩
 refine Yfv aC (tCq (ex (F:=F)) tNq) Tryz.func238 [.tmp 3] fun hcl hlt=>?_
 exact Y7
theorem pi:EPp 80 bS:=kC fun av sz ha hs m ts q F fst caps H hl hq=>by
 have hL:EPp 238 (pCl Tryz.prog av):=by rw [ha];exact KF
 refine Yfv aC (tCq LX tNq) Tryz.func80 [.tmp 4] fun hcl hlt=>?_
 exact Y6
abbrev Pi:=@pIx SParam Tryz.prog aK 2
abbrev MF:=@pAn SParam Tryz.prog aK 2
abbrev oC:=@pEv SParam Tryz.prog aK 2
abbrev OE:=@pCl SParam Tryz.prog aK
theorem Hl:EPp 320 Pi:=kF fun av sz ha hs m ts q F fst caps H hl hq=>by
 have hag:∀ x,∃ cs,av x=.agg cs∧cs.length=sz:=by subst ha hs;exact fun x=>⟨_,rfl,rfl⟩
 refine Yfv aC (tCq (ex (F:=F)) tNq) Tryz.func320 [.tmp 4] fun hcl hlt=>?_
 exact Y2
theorem IZ:EPp 239 MF:=kw fun av sz ha hs m ts q F fst caps H hl hq=>by
 refine Yfv aC (tCq Hl tNq) Tryz.func239 [.tmp 4] fun hcl hlt=>?_
 exact Y17
theorem JN:EPp 240 OE:=kL fun av ha t c b F fst caps H hg hq=>by
 have hag:∀ x,∃ cs,av x=.agg cs∧cs.length=2:=by subst ha;exact fun x=>⟨_,rfl,rfl⟩
 refine Yfv aC (tCq (ex (F:=F)) tNq) Tryz.func240 [.tmp 3] fun hcl hlt=>?_
 exact Y7
theorem AU:EPp 82 oC:=kC fun av sz ha hs m ts q F fst caps H hl hq=>by
 have hL:EPp 240 (pCl Tryz.prog av):=by rw [ha];exact JN
 refine Yfv aC (tCq IZ tNq) Tryz.func82 [.tmp 4] fun hcl hlt=>?_
 exact Y6
abbrev Mh:=@pIx STable Tryz.prog ax 8
abbrev N2:=@pAn STable Tryz.prog ax 8
abbrev b6:=@pEv STable Tryz.prog ax 8
abbrev L9:=@pCl STable Tryz.prog ax
theorem Hg:EPp 56 Mh:=kF fun av sz ha hs m ts q F fst caps H hl hq=>by
 have hag:∀ x,∃ cs,av x=.agg cs∧cs.length=sz:=by subst ha hs;exact fun x=>⟨_,rfl,rfl⟩
 refine Yfv aC (tCq (ex (F:=F)) tNq) Tryz.func56 [.tmp 4] fun hcl hlt=>?_
 exact Y2
theorem KP:EPp 241 N2:=kw fun av sz ha hs m ts q F fst caps H hl hq=>by
 refine Yfv aC (tCq Hg tNq) Tryz.func241 [.tmp 4] fun hcl hlt=>?_
 exact Y17
theorem KB:EPp 242 L9:=kL fun av ha t c b F fst caps H hg hq=>by
 have hag:∀ x,∃ cs,av x=.agg cs∧cs.length=8:=by subst ha;exact fun x=>⟨_,rfl,rfl⟩
 refine Yfv aC (tCq (ex (F:=F)) tNq) Tryz.func242 [.tmp 3] fun hcl hlt=>?_
 exact Y7
theorem nS:EPp 85 b6:=kC fun av sz ha hs m ts q F fst caps H hl hq=>by
 have hL:EPp 242 (pCl Tryz.prog av):=by rw [ha];exact KB
 refine Yfv aC (tCq KP tNq) Tryz.func85 [.tmp 4] fun hcl hlt=>?_
 exact Y6
abbrev OM:=@pIx SKey Tryz.prog aY 3
abbrev NH:=@pAn SKey Tryz.prog aY 3
abbrev kM:=@pEv SKey Tryz.prog aY 3
abbrev Pm:=@pCl SKey Tryz.prog aY
theorem LZ:EPp 321 OM:=kF fun av sz ha hs m ts q F fst caps H hl hq=>by
 have hag:∀ x,∃ cs,av x=.agg cs∧cs.length=sz:=by subst ha hs;exact fun x=>⟨_,rfl,rfl⟩
 refine Yfv aC (tCq (ex (F:=F)) tNq) Tryz.func321 [.tmp 4] fun hcl hlt=>?_
 exact Y2
theorem JA:EPp 243 NH:=kw fun av sz ha hs m ts q F fst caps H hl hq=>by
 refine Yfv aC (tCq LZ tNq) Tryz.func243 [.tmp 4] fun hcl hlt=>?_
 exact Y17
theorem LD:EPp 244 Pm:=kL fun av ha t c b F fst caps H hg hq=>by
 have hag:∀ x,∃ cs,av x=.agg cs∧cs.length=3:=by subst ha;exact fun x=>⟨_,rfl,rfl⟩
 refine Yfv aC (tCq (ex (F:=F)) tNq) Tryz.func244 [.tmp 3] fun hcl hlt=>?_
 exact Y7
theorem zj:EPp 87 kM:=kC fun av sz ha hs m ts q F fst caps H hl hq=>by
 have hL:EPp 244 (pCl Tryz.prog av):=by rw [ha];exact LD
 refine Yfv aC (tCq JA tNq) Tryz.func87 [.tmp 4] fun hcl hlt=>?_
 exact Y6
abbrev ME:=@pIx SRole Tryz.prog aN 6
abbrev NY:=@pAn SRole Tryz.prog aN 6
abbrev cE:=@pEv SRole Tryz.prog aN 6
abbrev Oy:=@pCl SRole Tryz.prog aN
theorem Ia:EPp 322 ME:=kF fun av sz ha hs m ts q F fst caps H hl hq=>by
 have hag:∀ x,∃ cs,av x=.agg cs∧cs.length=sz:=by subst ha hs;exact fun x=>⟨_,rfl,rfl⟩
 refine Yfv aC (tCq (ex (F:=F)) tNq) Tryz.func322 [.tmp 4] fun hcl hlt=>?_
 exact Y2
theorem Gq:EPp 245 NY:=kw fun av sz ha hs m ts q F fst caps H hl hq=>by
 refine Yfv aC (tCq Ia tNq) Tryz.func245 [.tmp 4] fun hcl hlt=>?_
 exact Y17
theorem Lq:EPp 246 Oy:=kL fun av ha t c b F fst caps H hg hq=>by
 have hag:∀ x,∃ cs,av x=.agg cs∧cs.length=6:=by subst ha;exact fun x=>⟨_,rfl,rfl⟩
 refine Yfv aC (tCq (ex (F:=F)) tNq) Tryz.func246 [.tmp 3] fun hcl hlt=>?_
 exact Y7
theorem pt:EPp 89 cE:=kC fun av sz ha hs m ts q F fst caps H hl hq=>by
 have hL:EPp 246 (pCl Tryz.prog av):=by rw [ha];exact Lq
 refine Yfv aC (tCq Gq tNq) Tryz.func89 [.tmp 4] fun hcl hlt=>?_
 exact Y6
abbrev N0:=@pIx SPrim Tryz.prog aT 6
abbrev Ns:=@pAn SPrim Tryz.prog aT 6
abbrev dD:=@pEv SPrim Tryz.prog aT 6
abbrev Mq:=@pCl SPrim Tryz.prog aT
theorem Lx:EPp 324 N0:=kF fun av sz ha hs m ts q F fst caps H hl hq=>by
 have hag:∀ x,∃ cs,av x=.agg cs∧cs.length=sz:=by subst ha hs;exact fun x=>⟨_,rfl,rfl⟩
 refine Yfv aC (tCq (ex (F:=F)) tNq) Tryz.func324 [.tmp 4] fun hcl hlt=>?_
 exact Y2
theorem HD:EPp 259 Ns:=kw fun av sz ha hs m ts q F fst caps H hl hq=>by
 refine Yfv aC (tCq Lx tNq) Tryz.func259 [.tmp 4] fun hcl hlt=>?_
 exact Y17
theorem LU:EPp 260 Mq:=kL fun av ha t c b F fst caps H hg hq=>by
 have hag:∀ x,∃ cs,av x=.agg cs∧cs.length=6:=by subst ha;exact fun x=>⟨_,rfl,rfl⟩
 refine Yfv aC (tCq (ex (F:=F)) tNq) Tryz.func260 [.tmp 3] fun hcl hlt=>?_
 exact Y7
theorem vO:EPp 122 dD:=kC fun av sz ha hs m ts q F fst caps H hl hq=>by
 have hL:EPp 260 (pCl Tryz.prog av):=by rw [ha];exact LU
 refine Yfv aC (tCq HD tNq) Tryz.func122 [.tmp 4] fun hcl hlt=>?_
 exact Y6
abbrev OA:=@pIx SStage Tryz.prog aO 2
abbrev O2:=@pAn SStage Tryz.prog aO 2
abbrev gB:=@pEv SStage Tryz.prog aO 2
abbrev ON:=@pCl SStage Tryz.prog aO
theorem Lo:EPp 328 OA:=kF fun av sz ha hs m ts q F fst caps H hl hq=>by
 have hag:∀ x,∃ cs,av x=.agg cs∧cs.length=sz:=by subst ha hs;exact fun x=>⟨_,rfl,rfl⟩
 refine Yfv aC (tCq (ex (F:=F)) tNq) Tryz.func328 [.tmp 4] fun hcl hlt=>?_
 exact Y2
theorem KL:EPp 268 O2:=kw fun av sz ha hs m ts q F fst caps H hl hq=>by
 refine Yfv aC (tCq Lo tNq) Tryz.func268 [.tmp 4] fun hcl hlt=>?_
 exact Y17
theorem K0:EPp 269 ON:=kL fun av ha t c b F fst caps H hg hq=>by
 have hag:∀ x,∃ cs,av x=.agg cs∧cs.length=2:=by subst ha;exact fun x=>⟨_,rfl,rfl⟩
 refine Yfv aC (tCq (ex (F:=F)) tNq) Tryz.func269 [.tmp 3] fun hcl hlt=>?_
 exact Y7
theorem Gi:EPp 135 gB:=kC fun av sz ha hs m ts q F fst caps H hl hq=>by
 have hL:EPp 269 (pCl Tryz.prog av):=by rw [ha];exact K0
 refine Yfv aC (tCq KL tNq) Tryz.func135 [.tmp 4] fun hcl hlt=>?_
 exact Y6
abbrev OV:=@pIx SGrant Tryz.prog aJ 4
abbrev OQ:=@pAn SGrant Tryz.prog aJ 4
abbrev dU:=@pEv SGrant Tryz.prog aJ 4
abbrev NO:=@pCl SGrant Tryz.prog aJ
theorem Jw:EPp 330 OV:=kF fun av sz ha hs m ts q F fst caps H hl hq=>by
 have hag:∀ x,∃ cs,av x=.agg cs∧cs.length=sz:=by subst ha hs;exact fun x=>⟨_,rfl,rfl⟩
 refine Yfv aC (tCq (ex (F:=F)) tNq) Tryz.func330 [.tmp 4] fun hcl hlt=>?_
 exact Y2
theorem JE:EPp 271 OQ:=kw fun av sz ha hs m ts q F fst caps H hl hq=>by
 refine Yfv aC (tCq Jw tNq) Tryz.func271 [.tmp 4] fun hcl hlt=>?_
 exact Y17
theorem I1:EPp 272 NO:=kL fun av ha t c b F fst caps H hg hq=>by
 have hag:∀ x,∃ cs,av x=.agg cs∧cs.length=4:=by subst ha;exact fun x=>⟨_,rfl,rfl⟩
 refine Yfv aC (tCq (ex (F:=F)) tNq) Tryz.func272 [.tmp 3] fun hcl hlt=>?_
 exact Y7
theorem Ad:EPp 140 dU:=kC fun av sz ha hs m ts q F fst caps H hl hq=>by
 have hL:EPp 272 (pCl Tryz.prog av):=by rw [ha];exact I1
 refine Yfv aC (tCq JE tNq) Tryz.func140 [.tmp 4] fun hcl hlt=>?_
 exact Y6
abbrev L4:=@pIx SCase Tryz.prog aX 5
abbrev Ot:=@pAn SCase Tryz.prog aX 5
abbrev cZ:=@pEv SCase Tryz.prog aX 5
abbrev Nq:=@pCl SCase Tryz.prog aX
theorem Kz:EPp 331 L4:=kF fun av sz ha hs m ts q F fst caps H hl hq=>by
 have hag:∀ x,∃ cs,av x=.agg cs∧cs.length=sz:=by subst ha hs;exact fun x=>⟨_,rfl,rfl⟩
 refine Yfv aC (tCq (ex (F:=F)) tNq) Tryz.func331 [.tmp 4] fun hcl hlt=>?_
 exact Y2
theorem I0:EPp 273 Ot:=kw fun av sz ha hs m ts q F fst caps H hl hq=>by
 refine Yfv aC (tCq Kz tNq) Tryz.func273 [.tmp 4] fun hcl hlt=>?_
 exact Y17
theorem IF:EPp 274 Nq:=kL fun av ha t c b F fst caps H hg hq=>by
 have hag:∀ x,∃ cs,av x=.agg cs∧cs.length=5:=by subst ha;exact fun x=>⟨_,rfl,rfl⟩
 refine Yfv aC (tCq (ex (F:=F)) tNq) Tryz.func274 [.tmp 3] fun hcl hlt=>?_
 exact Y7
theorem AW:EPp 150 cZ:=kC fun av sz ha hs m ts q F fst caps H hl hq=>by
 have hL:EPp 274 (pCl Tryz.prog av):=by rw [ha];exact IF
 refine Yfv aC (tCq I0 tNq) Tryz.func150 [.tmp 4] fun hcl hlt=>?_
 exact Y6
abbrev O6:=@pIx SRef Tryz.prog bh 6
abbrev NP:=@pAn SRef Tryz.prog bh 6
abbrev cQ:=@pEv SRef Tryz.prog bh 6
abbrev NK:=@pCl SRef Tryz.prog bh
theorem Iy:EPp 288 O6:=kF fun av sz ha hs m ts q F fst caps H hl hq=>by
 have hag:∀ x,∃ cs,av x=.agg cs∧cs.length=sz:=by subst ha hs;exact fun x=>⟨_,rfl,rfl⟩
 refine Yfv aC (tCq (ex (F:=F)) tNq) Tryz.func288 [.tmp 4] fun hcl hlt=>?_
 exact Y2
theorem Ln:EPp 188 NP:=kw fun av sz ha hs m ts q F fst caps H hl hq=>by
 refine Yfv aC (tCq Iy tNq) Tryz.func188 [.tmp 4] fun hcl hlt=>?_
 exact Y17
theorem IW:EPp 189 NK:=kL fun av ha t c b F fst caps H hg hq=>by
 have hag:∀ x,∃ cs,av x=.agg cs∧cs.length=6:=by subst ha;exact fun x=>⟨_,rfl,rfl⟩
 refine Yfv aC (tCq (ex (F:=F)) tNq) Tryz.func189 [.tmp 3] fun hcl hlt=>?_
 exact Y7
theorem rA:EPp 52 cQ:=kC fun av sz ha hs m ts q F fst caps H hl hq=>by
 have hL:EPp 189 (pCl Tryz.prog av):=by rw [ha];exact IW
 refine Yfv aC (tCq Ln tNq) Tryz.func52 [.tmp 4] fun hcl hlt=>?_
 exact Y6
abbrev O1:=@pIx Int Tryz.prog (AV.int .i64) 1
abbrev MI:=@pAn Int Tryz.prog (AV.int .i64) 1
abbrev eL:=@pEv Int Tryz.prog (AV.int .i64) 1
abbrev Ok:=@pCl Int Tryz.prog (AV.int .i64)
theorem IQ:EPp 326 O1:=kF fun av sz ha hs m ts q F fst caps H hl hq=>by
 refine Yfv aC (tCq (ex (F:=F)) tNq) Tryz.func326 [.tmp 4] fun hcl hlt=>?_
 subst ha hs
 generalize hR:ixP q ts 0=R
 have hm:AV.lt H.nx (.slice m 1 (ts.map (AV.int .i64))):=hlt _ (by simp)
 have hf:AV.lt H.nx (.func (.func F) fst caps):=hlt _ (by simp)
 clear hlt
 simp only [go_sem,ybb]
 refine aD (A:=Nat) (fun k=>[(0,.slice m 1 (ts.map (AV.int .i64))),(1,.func (.func F) fst caps),(7,.int .i64 (ts.length:Int)),(8,.int .i64 (k:Int))]) (fun _=>H) (fun k=>k≤ts.length∧ixP q (ts.drop k) k=R) (fun k=>ts.length - k) 0 ⟨by omega,hR⟩ ?_ fun k hk=>?_
 ·exact ⟨nrq _,lRq _,hcl,by simp [ltF,znf,hm,hf],by simp [bn,wk2,wk1,wkM,Fr.get]⟩
 clear hR
 obtain ⟨hk,hR⟩:=hk
 refine Tq15 ?_
 refine ay (fun hc=>?_) (fun hc=>?_)
 ·have hk':k<ts.length:=sHc
  obtain ⟨x,hx⟩:∃ x,x=ts[k]:=⟨_,rfl⟩
  have hd:ts.drop k=x::ts.drop (k+1):=by rw [hx];exact dcq hk'
  have hg':=aV (f:=(AV.int .i64)) (l:=ts) (k:=k) (x:=x) (by rw [gQq hk',hx])
  have e5:=Yk5 k
  rw [hd] at hR
  unfold ixP at hR
  have hqx:=hq x (by rw [hx];exact gMq hk')
  simp only [go_sem,iNq,ybb,hg',jb]
  refine Tq3 ?_
  refine ⟨_,?_,hqx⟩
  try simp only [aF,go_sem]
  refine Tq4 ?_
  refine ay (fun hq=>?_) (fun hq=>?_)
  ·rw [if_pos hq] at hR
   subst hR
   exact Y32
  ·rw [if_neg (by rw [hq];decide)] at hR
   simp only [go_sem,e5]
   exact ⟨k+1,⟨by omega,hR⟩,by omega,nrq _,lRq _,hcl,by simp [ltF,znf,hm,hf],by simp [bn,wk2,wk1,wkM,Fr.get]⟩
 ·exact Y19
theorem J7:EPp 263 MI:=kw fun av sz ha hs m ts q F fst caps H hl hq=>by
 refine Yfv aC (tCq IQ tNq) Tryz.func263 [.tmp 4] fun hcl hlt=>?_
 exact Y17
theorem Kb:EPp 264 Ok:=kL fun av ha t c b F fst caps H hg hq=>by
 subst ha
 refine Yfv aC (tCq (ex (F:=F)) tNq) Tryz.func264 [.tmp 3] fun hcl hlt=>?_
 have hcs:=aM hg
 have hl:=glq hg
 have hne:(c=H.nx)=False:=eFo
 have hlx:=hlt _ (List.mem_cons_self)
 clear hlt
 simp only [go_sem,hcs,hne,hg,jb]
 refine ⟨_,?_,hq _ (lRq _) hcl⟩
 exact Y37
theorem uo:EPp 129 eL:=kC fun av sz ha hs m ts q F fst caps H hl hq=>by
 have hL:EPp 264 (pCl Tryz.prog av):=by rw [ha];exact Kb
 refine Yfv aC (tCq J7 tNq) Tryz.func129 [.tmp 4] fun hcl hlt=>?_
 exact Y6
theorem Fu:tSl Tryz.prog 22 5:=kSl
attribute [go_sem] Fu
def sk (c:UInt8):Bool:=decide (97≤c.toNat)&&decide (c.toNat≤122)
def gN (c:UInt8):Bool:=(decide (48≤c.toNat)&&decide (c.toNat≤57))||decide (c.toNat=95)
def nn:List UInt8→Nat→Bool
 |[],_=>true
 |c::r,i=>(sk c||(!decide (i=0)&&gN c))&&nn r (i+1)
def dn (s:List UInt8):Bool:=nn s 0&&decide (s≠[])
def iU (s:List UInt8):Bool:=dn s&&decide (s≠[112,114,105,111,114,105,116,121])&&decide (s≠[116,114,117,101])&&decide (s≠[102,97,108,115,101])
def ff:PCt
 |[.str s],_,K=>s.length≤140737488355328∧K (.bool (dn s))
 |_,_,_=>False
theorem mf:EPp 77 ff:=by
 refine Ype fun _ H K h=>?_
 unfold ff at h
 split at h<;>try exact h.elim
 rename_i s
 obtain ⟨hl,hK⟩:=h
 refine ⟨_,hK,?_⟩
 clear hK
 generalize hR:dn s=R
 unfold dn at hR
 obtain ⟨Q,hQ⟩:∃ Q,nn s 0=Q:=⟨_,rfl⟩
 rw [hQ] at hR
 have dn1:(!true)=false:=rfl
 have dn2:(!false)=true:=rfl
 have lt_bys:∀ n,AV.lt n (.slice .any 1 (s.map bJ)):=fun n=>aa fun x=>by simp only [bJ,znf]
 refine Yfu aC tNq Tryz.func77 [.tmp 2] fun hcl=>?_
 refine Tq15 ?_
 refine ⟨by omega,?_⟩
 refine aD (A:=Nat) (fun k=>[(0,.str s),(7,.slice .any 1 (s.map bJ)),(8,.int .i64 (s.length:Int)),(9,.int .i64 (k:Int))]) (fun _=>H) (fun k=>k≤s.length∧nn (s.drop k) k=Q) (fun k=>s.length - k) 0 ⟨by omega,hQ⟩ ?_ fun k hk=>?_
 ·refine eNt hcl ?_ ?_
  ·exact Y55
  ·exact Y14
 clear hQ
 obtain ⟨hk,hQ⟩:=hk
 refine Tq15 ?_
 refine ay (fun hc=>?_) (fun hc=>?_)
 ·have hk':k<s.length:=sHc
  obtain ⟨c,hcx⟩:∃ c,c=s[k]:=⟨_,rfl⟩
  have hd:s.drop k=c::s.drop (k+1):=by rw [hcx];exact dcq hk'
  have hg':=aV (f:=bJ) (l:=s) (k:=k) (x:=c) (by rw [gQq hk',hcx])
  have hgs:s.getD k 0=c:=by rw [gEq,gQq hk',hcx];rfl
  have e5:=Yk5 k
  rw [hd] at hQ
  unfold nn at hQ
  by_cases h1:97≤c.toNat
  ·have d1:decide ((c.toNat:Int) ≥ 97)=true:=dtq (by omega)
   by_cases h2:c.toNat≤122
   ·have d2:decide ((c.toNat:Int)≤122)=true:=dtq (by omega)
    have hb:sk c=true:=by unfold sk;rw [dtq h1,dtq h2];rfl
    rw [hb,Bool.true_or,Bool.true_and] at hQ
    simp only [go_sem,iNq,ybb,hg',bJ,e5,d1,d2,dn1,dn2]
    refine Tq4 ?_
    refine ⟨k+1,⟨by omega,hQ⟩,by omega,?_⟩
    refine eNt hcl ?_ ?_
    ·exact Y55
    ·exact Y14
   ·have d2:decide ((c.toNat:Int)≤122)=false:=dfq (by omega)
    have hb:sk c=false:=by unfold sk;rw [dfq h2,Bool.and_false]
    rw [hb,Bool.false_or] at hQ
    by_cases h0:k=0
    ·have d0:((k:Int)==0)=true:=by rw [h0];rfl
     rw [dtq h0,Bool.not_true,Bool.false_and,Bool.false_and] at hQ
     rw [← hQ,Bool.false_and] at hR
     subst hR
     simp only [go_sem,iNq,ybb,hg',bJ,e5,d1,d2,d0,dn1,dn2]
     exact Y8
    have d0:((k:Int)==0)=false:=by simp;omega
    rw [dfq h0,Bool.not_false,Bool.true_and] at hQ
    by_cases h95:c.toNat=95
    ·have d95:((c.toNat:Int) != 95)=false:=by simp;omega
     have d3:decide ((c.toNat:Int)<48)=false:=dfq (by omega)
     have d4:decide ((c.toNat:Int) > 57)=true:=dtq (by omega)
     have hp:gN c=true:=by unfold gN;rw [dtq h95,Bool.or_true]
     rw [hp,Bool.true_and] at hQ
     refine Tq64 ?_
     refine Tq4 ?_
     refine ⟨k+1,⟨by omega,hQ⟩,by omega,?_⟩
     refine eNt hcl ?_ ?_
     ·exact Y55
     ·exact Y14
    have d95:((c.toNat:Int) != 95)=true:=by simp;omega
    by_cases h3:c.toNat<48
    ·have d3:decide ((c.toNat:Int)<48)=true:=dtq (by omega)
     have hp:gN c=false:=by unfold gN;rw [dfq h95,dfq (by omega),Bool.false_and,Bool.or_false]
     rw [hp,Bool.false_and] at hQ
     rw [← hQ,Bool.false_and] at hR
     subst hR
     simp only [go_sem,iNq,ybb,hg',bJ,e5,d1,d2,d0,d95,d3,dn1,dn2]
     exact Y8
    have d3:decide ((c.toNat:Int)<48)=false:=dfq (by omega)
    by_cases h4:57<c.toNat
    ·have d4:decide ((c.toNat:Int) > 57)=true:=dtq (by omega)
     have hp:gN c=false:=by unfold gN;rw [dfq h95,dfq (show ¬ c.toNat≤57 by omega),Bool.and_false,Bool.or_false]
     rw [hp,Bool.false_and] at hQ
     rw [← hQ,Bool.false_and] at hR
     subst hR
     refine Tq64 ?_
     exact Y8
    have d4:decide ((c.toNat:Int) > 57)=false:=dfq (by omega)
    have hp:gN c=true:=by unfold gN;rw [dtq (show 48≤c.toNat by omega),dtq (show c.toNat≤57 by omega)];rfl
    rw [hp,Bool.true_and] at hQ
    refine Tq64 ?_
    refine Tq4 ?_
    refine ⟨k+1,⟨by omega,hQ⟩,by omega,?_⟩
    refine eNt hcl ?_ ?_
    ·exact Y55
    ·exact Y14
  ·have d1:decide ((c.toNat:Int) ≥ 97)=false:=dfq (by omega)
   have hb:sk c=false:=by unfold sk;rw [dfq h1,Bool.false_and]
   rw [hb,Bool.false_or] at hQ
   by_cases h0:k=0
   ·have d0:((k:Int)==0)=true:=by rw [h0];rfl
    rw [dtq h0,Bool.not_true,Bool.false_and,Bool.false_and] at hQ
    rw [← hQ,Bool.false_and] at hR
    subst hR
    simp only [go_sem,iNq,ybb,hg',bJ,e5,d1,d0,dn1,dn2]
    exact Y8
   have d0:((k:Int)==0)=false:=by simp;omega
   rw [dfq h0,Bool.not_false,Bool.true_and] at hQ
   by_cases h95:c.toNat=95
   ·have d95:((c.toNat:Int) != 95)=false:=by simp;omega
    have d3:decide ((c.toNat:Int)<48)=false:=dfq (by omega)
    have d4:decide ((c.toNat:Int) > 57)=true:=dtq (by omega)
    have hp:gN c=true:=by unfold gN;rw [dtq h95,Bool.or_true]
    rw [hp,Bool.true_and] at hQ
    refine Tq71 ?_
    refine Tq4 ?_
    refine ⟨k+1,⟨by omega,hQ⟩,by omega,?_⟩
    refine eNt hcl ?_ ?_
    ·exact Y55
    ·exact Y14
   have d95:((c.toNat:Int) != 95)=true:=by simp;omega
   by_cases h3:c.toNat<48
   ·have d3:decide ((c.toNat:Int)<48)=true:=dtq (by omega)
    have hp:gN c=false:=by unfold gN;rw [dfq h95,dfq (by omega),Bool.false_and,Bool.or_false]
    rw [hp,Bool.false_and] at hQ
    rw [← hQ,Bool.false_and] at hR
    subst hR
    simp only [go_sem,iNq,ybb,hg',bJ,e5,d1,d0,d95,d3,dn1,dn2]
    exact Y8
   have d3:decide ((c.toNat:Int)<48)=false:=dfq (by omega)
   by_cases h4:57<c.toNat
   ·have d4:decide ((c.toNat:Int) > 57)=true:=dtq (by omega)
    have hp:gN c=false:=by unfold gN;rw [dfq h95,dfq (show ¬ c.toNat≤57 by omega),Bool.and_false,Bool.or_false]
    rw [hp,Bool.false_and] at hQ
    rw [← hQ,Bool.false_and] at hR
    subst hR
    refine Tq71 ?_
    exact Y8
   have d4:decide ((c.toNat:Int) > 57)=false:=dfq (by omega)
   have hp:gN c=true:=by unfold gN;rw [dtq (show 48≤c.toNat by omega),dtq (show c.toNat≤57 by omega)];rfl
   rw [hp,Bool.true_and] at hQ
   refine Tq71 ?_
   refine Tq4 ?_
   refine ⟨k+1,⟨by omega,hQ⟩,by omega,?_⟩
   refine eNt hcl ?_ ?_
   ·exact Y55
   ·exact Y14
 ·have hk':k=s.length:=sHc
  subst hk'
  rw [List.drop_length] at hQ
  unfold nn at hQ
  rw [← hQ,Bool.true_and] at hR
  cases s with
  |nil =>
   have hR':R=false:=by rw [← hR];rfl
   subst hR'
   exact Y32
  |cons c r =>
   exact Y135
def jv:PCt
 |[.str s],_,K=>s.length≤140737488355328∧K (.bool (dn s))
 |_,_,_=>False
theorem xn:EPp 170 jv:=by
 refine Ype fun _ H K h=>?_
 unfold jv at h
 split at h<;>try exact h.elim
 rename_i s
 obtain ⟨hl,hK⟩:=h
 refine ⟨_,hK,?_⟩
 clear hK
 generalize hR:dn s=R
 unfold dn at hR
 obtain ⟨Q,hQ⟩:∃ Q,nn s 0=Q:=⟨_,rfl⟩
 rw [hQ] at hR
 have dn1:(!true)=false:=rfl
 have dn2:(!false)=true:=rfl
 have lt_bys:∀ n,AV.lt n (.slice .any 1 (s.map bJ)):=fun n=>aa fun x=>by simp only [bJ,znf]
 refine Yfu aC tNq Tryz.func170 [.tmp 2] fun hcl=>?_
 refine Tq15 ?_
 refine aD (A:=Nat) (fun k=>[(0,.str s),(3,.int .i64 (k:Int))]) (fun _=>H) (fun k=>k≤s.length∧nn (s.drop k) k=Q) (fun k=>s.length - k) 0 ⟨by omega,hQ⟩ ?_ fun k hk=>?_
 ·refine eNt hcl ?_ ?_
  ·exact Y55
  ·exact Y14
 clear hQ
 obtain ⟨hk,hQ⟩:=hk
 refine Tq15 ?_
 refine ay (fun hc=>?_) (fun hc=>?_)
 ·have hk':k<s.length:=sHc
  obtain ⟨c,hcx⟩:∃ c,c=s[k]:=⟨_,rfl⟩
  have hd:s.drop k=c::s.drop (k+1):=by rw [hcx];exact dcq hk'
  have hg':=aV (f:=bJ) (l:=s) (k:=k) (x:=c) (by rw [gQq hk',hcx])
  have hgs:s.getD k 0=c:=by rw [gEq,gQq hk',hcx];rfl
  have e5:=Yk5 k
  rw [hd] at hQ
  unfold nn at hQ
  by_cases h1:97≤c.toNat
  ·have d1:decide ((c.toNat:Int) ≥ 97)=true:=dtq (by omega)
   by_cases h2:c.toNat≤122
   ·have d2:decide ((c.toNat:Int)≤122)=true:=dtq (by omega)
    have hb:sk c=true:=by unfold sk;rw [dtq h1,dtq h2];rfl
    rw [hb,Bool.true_or,Bool.true_and] at hQ
    simp only [go_sem,iNq,hgs,bJ,e5,d1,d2,dn1,dn2]
    refine Tq4 ?_
    refine ⟨k+1,⟨by omega,hQ⟩,by omega,?_⟩
    refine eNt hcl ?_ ?_
    ·exact Y55
    ·exact Y14
   ·have d2:decide ((c.toNat:Int)≤122)=false:=dfq (by omega)
    have hb:sk c=false:=by unfold sk;rw [dfq h2,Bool.and_false]
    rw [hb,Bool.false_or] at hQ
    by_cases h0:k=0
    ·have d0:((k:Int)==0)=true:=by rw [h0];rfl
     rw [dtq h0,Bool.not_true,Bool.false_and,Bool.false_and] at hQ
     rw [← hQ,Bool.false_and] at hR
     subst hR
     simp only [go_sem,iNq,hgs,bJ,e5,d1,d2,d0,dn1,dn2]
     exact Y8
    have d0:((k:Int)==0)=false:=by simp;omega
    rw [dfq h0,Bool.not_false,Bool.true_and] at hQ
    by_cases h95:c.toNat=95
    ·have d95:((c.toNat:Int) != 95)=false:=by simp;omega
     have d3:decide ((c.toNat:Int)<48)=false:=dfq (by omega)
     have d4:decide ((c.toNat:Int) > 57)=true:=dtq (by omega)
     have hp:gN c=true:=by unfold gN;rw [dtq h95,Bool.or_true]
     rw [hp,Bool.true_and] at hQ
     refine Tq73 ?_
     refine Tq4 ?_
     refine ⟨k+1,⟨by omega,hQ⟩,by omega,?_⟩
     refine eNt hcl ?_ ?_
     ·exact Y55
     ·exact Y14
    have d95:((c.toNat:Int) != 95)=true:=by simp;omega
    by_cases h3:c.toNat<48
    ·have d3:decide ((c.toNat:Int)<48)=true:=dtq (by omega)
     have hp:gN c=false:=by unfold gN;rw [dfq h95,dfq (by omega),Bool.false_and,Bool.or_false]
     rw [hp,Bool.false_and] at hQ
     rw [← hQ,Bool.false_and] at hR
     subst hR
     simp only [go_sem,iNq,hgs,bJ,e5,d1,d2,d0,d95,d3,dn1,dn2]
     exact Y8
    have d3:decide ((c.toNat:Int)<48)=false:=dfq (by omega)
    by_cases h4:57<c.toNat
    ·have d4:decide ((c.toNat:Int) > 57)=true:=dtq (by omega)
     have hp:gN c=false:=by unfold gN;rw [dfq h95,dfq (show ¬ c.toNat≤57 by omega),Bool.and_false,Bool.or_false]
     rw [hp,Bool.false_and] at hQ
     rw [← hQ,Bool.false_and] at hR
     subst hR
     refine Tq73 ?_
     exact Y8
    have d4:decide ((c.toNat:Int) > 57)=false:=dfq (by omega)
    have hp:gN c=true:=by unfold gN;rw [dtq (show 48≤c.toNat by omega),dtq (show c.toNat≤57 by omega)];rfl
    rw [hp,Bool.true_and] at hQ
    refine Tq73 ?_
    refine Tq4 ?_
    refine ⟨k+1,⟨by omega,hQ⟩,by omega,?_⟩
    refine eNt hcl ?_ ?_
    ·exact Y55
    ·exact Y14
  ·have d1:decide ((c.toNat:Int) ≥ 97)=false:=dfq (by omega)
   have hb:sk c=false:=by unfold sk;rw [dfq h1,Bool.false_and]
   rw [hb,Bool.false_or] at hQ
   by_cases h0:k=0
   ·have d0:((k:Int)==0)=true:=by rw [h0];rfl
    rw [dtq h0,Bool.not_true,Bool.false_and,Bool.false_and] at hQ
    rw [← hQ,Bool.false_and] at hR
    subst hR
    simp only [go_sem,iNq,hgs,bJ,e5,d1,d0,dn1,dn2]
    exact Y8
   have d0:((k:Int)==0)=false:=by simp;omega
   rw [dfq h0,Bool.not_false,Bool.true_and] at hQ
   by_cases h95:c.toNat=95
   ·have d95:((c.toNat:Int) != 95)=false:=by simp;omega
    have d3:decide ((c.toNat:Int)<48)=false:=dfq (by omega)
    have d4:decide ((c.toNat:Int) > 57)=true:=dtq (by omega)
    have hp:gN c=true:=by unfold gN;rw [dtq h95,Bool.or_true]
    rw [hp,Bool.true_and] at hQ
    refine Tq79 ?_
    refine Tq4 ?_
    refine ⟨k+1,⟨by omega,hQ⟩,by omega,?_⟩
    refine eNt hcl ?_ ?_
    ·exact Y55
    ·exact Y14
   have d95:((c.toNat:Int) != 95)=true:=by simp;omega
   by_cases h3:c.toNat<48
   ·have d3:decide ((c.toNat:Int)<48)=true:=dtq (by omega)
    have hp:gN c=false:=by unfold gN;rw [dfq h95,dfq (by omega),Bool.false_and,Bool.or_false]
    rw [hp,Bool.false_and] at hQ
    rw [← hQ,Bool.false_and] at hR
    subst hR
    simp only [go_sem,iNq,hgs,bJ,e5,d1,d0,d95,d3,dn1,dn2]
    exact Y8
   have d3:decide ((c.toNat:Int)<48)=false:=dfq (by omega)
   by_cases h4:57<c.toNat
   ·have d4:decide ((c.toNat:Int) > 57)=true:=dtq (by omega)
    have hp:gN c=false:=by unfold gN;rw [dfq h95,dfq (show ¬ c.toNat≤57 by omega),Bool.and_false,Bool.or_false]
    rw [hp,Bool.false_and] at hQ
    rw [← hQ,Bool.false_and] at hR
    subst hR
    refine Tq79 ?_
    exact Y8
   have d4:decide ((c.toNat:Int) > 57)=false:=dfq (by omega)
   have hp:gN c=true:=by unfold gN;rw [dtq (show 48≤c.toNat by omega),dtq (show c.toNat≤57 by omega)];rfl
   rw [hp,Bool.true_and] at hQ
   refine Tq79 ?_
   refine Tq4 ?_
   refine ⟨k+1,⟨by omega,hQ⟩,by omega,?_⟩
   refine eNt hcl ?_ ?_
   ·exact Y55
   ·exact Y14
 ·have hk':k=s.length:=sHc
  subst hk'
  rw [List.drop_length] at hQ
  unfold nn at hQ
  rw [← hQ,Bool.true_and] at hR
  cases s with
  |nil =>
   have hR':R=false:=by rw [← hR];rfl
   subst hR'
   exact Y32
  |cons c r =>
   exact Y135
def nh:PCt
 |[.str s],_,K=>s.length≤140737488355328∧K (.bool (iU s))
 |_,_,_=>False
theorem zn:EPp 84 nh:=by
 refine Ype fun _ H K h=>?_
 unfold nh at h
 split at h<;>try exact h.elim
 rename_i s
 obtain ⟨hl,hK⟩:=h
 refine ⟨_,hK,?_⟩
 clear hK
 generalize hR:iU s=R
 unfold iU at hR
 have d1:(s==[112,114,105,111,114,105,116,121])=!decide (s≠[112,114,105,111,114,105,116,121]):=by rw [Bool.eq_iff_iff];simp
 have d2:(s==[116,114,117,101])=!decide (s≠[116,114,117,101]):=by rw [Bool.eq_iff_iff];simp
 have d3:(s==[102,97,108,115,101])=!decide (s≠[102,97,108,115,101]):=by rw [Bool.eq_iff_iff];simp
 generalize decide (s≠[112,114,105,111,114,105,116,121])=b1 at *
 generalize decide (s≠[116,114,117,101])=b2 at *
 generalize decide (s≠[102,97,108,115,101])=b3 at *
 refine Yfu aC (tCq mf tNq) Tryz.func84 [.tmp 2] fun hcl=>?_
 simp only [go_sem,ff]
 exact Y58
def lK:PCt
 |[.str s],_,K=>s.length≤140737488355328∧K (.bool (iU s))
 |_,_,_=>False
theorem Hh:EPp 171 lK:=by
 refine Ype fun _ H K h=>?_
 unfold lK at h
 split at h<;>try exact h.elim
 rename_i s
 obtain ⟨hl,hK⟩:=h
 refine ⟨_,hK,?_⟩
 clear hK
 generalize hR:iU s=R
 unfold iU at hR
 have d1:(s==[112,114,105,111,114,105,116,121])=!decide (s≠[112,114,105,111,114,105,116,121]):=by rw [Bool.eq_iff_iff];simp
 have d2:(s==[116,114,117,101])=!decide (s≠[116,114,117,101]):=by rw [Bool.eq_iff_iff];simp
 have d3:(s==[102,97,108,115,101])=!decide (s≠[102,97,108,115,101]):=by rw [Bool.eq_iff_iff];simp
 generalize decide (s≠[112,114,105,111,114,105,116,121])=b1 at *
 generalize decide (s≠[116,114,117,101])=b2 at *
 generalize decide (s≠[102,97,108,115,101])=b3 at *
 refine Yfu aC (tCq xn tNq) Tryz.func171 [.tmp 2] fun hcl=>?_
 simp only [go_sem,jv]
 exact Y58
structure SB (S:Sch):Prop where
 sl:SLen S
 gl:S.stages.length≤1000000
 xl:S.refs.length≤1000000
 fn:∀ x∈S.fields,x.name.length≤140737488355328
 hn:∀ x∈S.headers,x.name.length≤140737488355328∧x.fields.length≤1000000
 sn:∀ x∈S.states,x.cases.length≤1000000
 an:∀ x∈S.actions,x.name.length≤140737488355328∧x.params.length≤1000000∧x.body.length≤1000000∧∀ p∈x.params,p.name.length≤140737488355328
 tn:∀ x∈S.tables,x.name.length≤140737488355328∧x.keys.length≤1000000∧x.actions.length≤1000000∧x.dargs.length≤1000000∧∀ k∈x.keys,k.name.length≤140737488355328
 rn:∀ x∈S.roles,x.name.length≤140737488355328∧x.grants.length≤1000000∧x.actions.length≤1000000∧∀ g∈x.grants,g.keys.length≤1000000
def wB (n lo hi:Int):Bool:=decide (lo≤n)&&decide (n≤hi)
def bw:PCt
 |[.int .i64 n,.int .i64 lo,.int .i64 hi],_,K=>K (.bool (wB n lo hi))
 |_,_,_=>False
theorem lA:EPp 91 bw:=by
 refine Ype fun _ H K h=>?_
 unfold bw at h
 split at h<;>try exact h.elim
 rename_i n lo hi
 refine ⟨_,h,?_⟩
 clear h
 generalize hR:wB n lo hi=R
 unfold wB at hR
 refine Yfu aC tNq Tryz.func91 [.tmp 6] fun hcl=>?_
 obtain ⟨b0,e0⟩:∃ b:Bool,(decide (lo≤n))=b:=⟨_,rfl⟩
 have d0:decide (n ≥ lo)=b0:=(show decide (n ≥ lo)=(decide (lo≤n)) from rfl).trans e0
 rw [e0] at hR
 cases b0 with
 |false =>
  rw [Bool.false_and] at hR
  subst hR
  refine Tq70 ?_
  exact Y8
 |true =>
 rw [Bool.true_and] at hR
 obtain ⟨b1,e1⟩:∃ b:Bool,(decide (n≤hi))=b:=⟨_,rfl⟩
 have d1:decide (n≤hi)=b1:=(show decide (n≤hi)=(decide (n≤hi)) from rfl).trans e1
 rw [e1] at hR
 cases b1 with
 |false =>
  subst hR
  refine Tq23 ?_
  exact Y8
 |true =>
 subst hR
 refine Tq23 ?_
 exact Y8
def cG:PCt
 |[.int .i64 n,.int .i64 lo,.int .i64 hi],_,K=>K (.bool (wB n lo hi))
 |_,_,_=>False
theorem AR:EPp 172 cG:=by
 refine Ype fun _ H K h=>?_
 unfold cG at h
 split at h<;>try exact h.elim
 rename_i n lo hi
 refine ⟨_,h,?_⟩
 clear h
 generalize hR:wB n lo hi=R
 unfold wB at hR
 refine Yfu aC tNq Tryz.func172 [.tmp 6] fun hcl=>?_
 obtain ⟨b0,e0⟩:∃ b:Bool,(decide (lo≤n))=b:=⟨_,rfl⟩
 have d0:decide (n ≥ lo)=b0:=(show decide (n ≥ lo)=(decide (lo≤n)) from rfl).trans e0
 rw [e0] at hR
 cases b0 with
 |false =>
  rw [Bool.false_and] at hR
  subst hR
  refine Tq70 ?_
  exact Y8
 |true =>
 rw [Bool.true_and] at hR
 obtain ⟨b1,e1⟩:∃ b:Bool,(decide (n≤hi))=b:=⟨_,rfl⟩
 have d1:decide (n≤hi)=b1:=(show decide (n≤hi)=(decide (n≤hi)) from rfl).trans e1
 rw [e1] at hR
 cases b1 with
 |false =>
  subst hR
  refine Tq23 ?_
  exact Y8
 |true =>
 subst hR
 refine Tq23 ?_
 exact Y8
def iJ:PCt
 |[.int .i64 n],_,K=>K (.bool (wB n 1 65534))
 |_,_,_=>False
theorem sZ:EPp 93 iJ:=by
 refine Ype fun _ H K h=>?_
 unfold iJ at h
 split at h<;>try exact h.elim
 rename_i n
 refine ⟨_,h,?_⟩
 clear h
 refine Yfv aC (tCq lA tNq) Tryz.func93 [.tmp 2] fun hcl hlt=>?_
 exact Y133
def pQ:PCt
 |[.int .i64 n],_,K=>K (.bool (wB n 1 128))
 |_,_,_=>False
theorem Ar:EPp 94 pQ:=by
 refine Ype fun _ H K h=>?_
 unfold pQ at h
 split at h<;>try exact h.elim
 rename_i n
 refine ⟨_,h,?_⟩
 clear h
 refine Yfv aC (tCq lA tNq) Tryz.func94 [.tmp 2] fun hcl hlt=>?_
 exact Y133
def xa:PCt
 |[x],H,K=>∃ t:SField,(x=aH t∧t.name.length≤140737488355328)∧K (.bool (dn t.name))
 |_,_,_=>False
theorem BW:EPp 76 xa:=by
 refine Ype fun _ H K h=>?_
 unfold xa at h
 split at h<;>try exact h.elim
 rename_i x
 obtain ⟨t,⟨rfl,hc⟩,hK⟩:=h
 refine ⟨_,hK,?_⟩
 clear hK
 generalize hR:(dn t.name)=R
 unfold aH
 refine Yfu aC (tCq mf tNq) Tryz.func76 [.tmp 2] fun hcl=>?_
 refine Tq19 ?_
 refine ⟨hc,?_⟩
 cases c0:dn t.name with
 |false =>
  rw [c0] at hR
  subst hR
  refine Tq10 ?_
  exact Y8
 |true =>
 rw [c0] at hR
 subst hR
 refine Tq10 ?_
 exact Y8
def xJ:PCt
 |[x],H,K=>∃ t:SHeader,(x=az t∧t.name.length≤140737488355328)∧K (.bool (dn t.name))
 |_,_,_=>False
theorem Ca:EPp 79 xJ:=by
 refine Ype fun _ H K h=>?_
 unfold xJ at h
 split at h<;>try exact h.elim
 rename_i x
 obtain ⟨t,⟨rfl,hc⟩,hK⟩:=h
 refine ⟨_,hK,?_⟩
 clear hK
 generalize hR:(dn t.name)=R
 unfold az
 refine Yfu aC (tCq mf tNq) Tryz.func79 [.tmp 2] fun hcl=>?_
 refine Tq19 ?_
 refine ⟨hc,?_⟩
 cases c0:dn t.name with
 |false =>
  rw [c0] at hR
  subst hR
  refine Tq10 ?_
  exact Y8
 |true =>
 rw [c0] at hR
 subst hR
 refine Tq10 ?_
 exact Y8
def vV:PCt
 |[x],H,K=>∃ t:SParam,(x=aK t∧t.name.length≤140737488355328)∧K (.bool (iU t.name))
 |_,_,_=>False
theorem zZ:EPp 83 vV:=by
 refine Ype fun _ H K h=>?_
 unfold vV at h
 split at h<;>try exact h.elim
 rename_i x
 obtain ⟨t,⟨rfl,hc⟩,hK⟩:=h
 refine ⟨_,hK,?_⟩
 clear hK
 generalize hR:(iU t.name)=R
 unfold aK
 refine Yfu aC (tCq zn tNq) Tryz.func83 [.tmp 2] fun hcl=>?_
 refine Tq75 ?_
 refine ⟨hc,?_⟩
 cases c0:iU t.name with
 |false =>
  rw [c0] at hR
  subst hR
  refine Tq22 ?_
  exact Y8
 |true =>
 rw [c0] at hR
 subst hR
 refine Tq22 ?_
 exact Y8
def uV:PCt
 |[x],H,K=>∃ t:SKey,(x=aY t∧t.name.length≤140737488355328)∧K (.bool (iU t.name))
 |_,_,_=>False
theorem A0:EPp 88 uV:=by
 refine Ype fun _ H K h=>?_
 unfold uV at h
 split at h<;>try exact h.elim
 rename_i x
 obtain ⟨t,⟨rfl,hc⟩,hK⟩:=h
 refine ⟨_,hK,?_⟩
 clear hK
 generalize hR:(iU t.name)=R
 unfold aY
 refine Yfu aC (tCq zn tNq) Tryz.func88 [.tmp 2] fun hcl=>?_
 refine Tq75 ?_
 refine ⟨hc,?_⟩
 cases c0:iU t.name with
 |false =>
  rw [c0] at hR
  subst hR
  refine Tq22 ?_
  exact Y8
 |true =>
 rw [c0] at hR
 subst hR
 refine Tq22 ?_
 exact Y8
def xm:PCt
 |[x],H,K=>∃ t:SRole,(x=aN t∧t.name.length≤140737488355328)∧K (.bool (dn t.name))
 |_,_,_=>False
theorem Cd:EPp 90 xm:=by
 refine Ype fun _ H K h=>?_
 unfold xm at h
 split at h<;>try exact h.elim
 rename_i x
 obtain ⟨t,⟨rfl,hc⟩,hK⟩:=h
 refine ⟨_,hK,?_⟩
 clear hK
 generalize hR:(dn t.name)=R
 unfold aN
 refine Yfu aC (tCq mf tNq) Tryz.func90 [.tmp 2] fun hcl=>?_
 refine Tq19 ?_
 refine ⟨hc,?_⟩
 cases c0:dn t.name with
 |false =>
  rw [c0] at hR
  subst hR
  refine Tq10 ?_
  exact Y8
 |true =>
 rw [c0] at hR
 subst hR
 refine Tq10 ?_
 exact Y8
def tA (t:SAction):Bool:=dn t.name&&t.params.all fun p=>iU p.name
def rL (t:STable):Bool:=dn t.name&&t.keys.all fun k=>iU k.name
def xg:PCt
 |[x],H,K=>∃ t:SAction,(x=ap t∧(t.name.length≤140737488355328∧t.params.length≤1000000∧∀ p∈t.params,p.name.length≤140737488355328))∧K (.bool (tA t))
 |_,_,_=>False
theorem BJ:EPp 81 xg:=by
 refine Ype fun _ H K h=>?_
 unfold xg at h
 split at h<;>try exact h.elim
 rename_i x
 obtain ⟨t,⟨rfl,hc⟩,hK⟩:=h
 refine ⟨_,hK,?_⟩
 clear hK
 generalize hR:(tA t)=R
 unfold ap
 refine Yfu aC (tCq mf (tCq AU tNq)) Tryz.func81 [.tmp 2] fun hcl=>?_
 unfold tA at hR
 refine Tq19 ?_
 refine ⟨hc.1,?_⟩
 cases c0:dn t.name with
 |false =>
  rw [c0,Bool.false_and] at hR
  subst hR
  refine Tq10 ?_
  exact Y8
 |true =>
 rw [c0,Bool.true_and] at hR
 try simp only [bo,aF,bhq,Nat.reduceMod,Nat.reduceDiv,aZ,ba,bf,bD,bc,bC,bz,bB,bA,yaq,yar,yao,yap,go_sem,ff,oC,c0]
 refine ⟨t.params,(fun p=>iU p.name),⟨rfl,hc.2.1,fun x hx H' hle' hcl'=>clB zZ ⟨x,⟨rfl,hc.2.2 x hx⟩,rfl⟩⟩,?_⟩
 cases c1:t.params.all fun p=>iU p.name with
 |false =>
  rw [c1] at hR
  subst hR
  refine Tq62 ?_
  exact Y8
 |true =>
 rw [c1] at hR
 subst hR
 refine Tq62 ?_
 exact Y8
def xb:PCt
 |[x],H,K=>∃ t:STable,(x=ax t∧(t.name.length≤140737488355328∧t.keys.length≤1000000∧∀ p∈t.keys,p.name.length≤140737488355328))∧K (.bool (rL t))
 |_,_,_=>False
theorem Cj:EPp 86 xb:=by
 refine Ype fun _ H K h=>?_
 unfold xb at h
 split at h<;>try exact h.elim
 rename_i x
 obtain ⟨t,⟨rfl,hc⟩,hK⟩:=h
 refine ⟨_,hK,?_⟩
 clear hK
 generalize hR:(rL t)=R
 unfold ax
 refine Yfu aC (tCq mf (tCq zj tNq)) Tryz.func86 [.tmp 2] fun hcl=>?_
 unfold rL at hR
 refine Tq19 ?_
 refine ⟨hc.1,?_⟩
 cases c0:dn t.name with
 |false =>
  rw [c0,Bool.false_and] at hR
  subst hR
  refine Tq10 ?_
  exact Y8
 |true =>
 rw [c0,Bool.true_and] at hR
 try simp only [bo,aF,bhq,Nat.reduceMod,Nat.reduceDiv,aZ,ba,bf,bD,bc,bC,bz,bB,bA,yaq,yar,yao,yap,go_sem,ff,kM,c0]
 refine ⟨t.keys,(fun k=>iU k.name),⟨rfl,hc.2.1,fun x hx H' hle' hcl'=>clB A0 ⟨x,⟨rfl,hc.2.2 x hx⟩,rfl⟩⟩,?_⟩
 cases c1:t.keys.all fun k=>iU k.name with
 |false =>
  rw [c1] at hR
  subst hR
  refine Tq63 ?_
  exact Y8
 |true =>
 rw [c1] at hR
 subst hR
 refine Tq63 ?_
 exact Y8
def oo (S:Sch):Bool:=(S.fields.all fun t=>dn t.name)&&((S.headers.all fun t=>dn t.name)&&(S.actions.all tA&&(S.tables.all rL&&S.roles.all fun t=>dn t.name)))
def jR:PCt
 |[.agg l],_,K=>∃ S:Sch,(l=aS S∧SB S)∧K (.bool (oo S))
 |_,_,_=>False
theorem FB:EPp 31 jR:=by
 refine Ype fun _ H K h=>?_
 unfold jR at h
 split at h<;>try exact h.elim
 rename_i l
 obtain ⟨S,⟨rfl,hS⟩,hK⟩:=h
 refine ⟨_,hK,?_⟩
 clear hK
 generalize hR:oo S=R
 unfold oo at hR
 refine Yfu aC (tCq zY (tCq re (tCq pi (tCq nS (tCq pt tNq))))) Tryz.func31 [.tmp 2] fun hcl=>?_
 simp only [bo,aF,bhq,Nat.reduceMod,Nat.reduceDiv,aZ,ba,bf,bD,bc,bC,bz,bB,bA,yaq,yar,yao,yap,go_sem,aS,fB]
 refine ⟨S.fields,(fun t=>dn t.name),⟨rfl,hS.sl.fl,fun x hx H' hle' hcl'=>clB BW ⟨x,⟨rfl,hS.fn x hx⟩,rfl⟩⟩,?_⟩
 cases c0:S.fields.all fun t=>dn t.name with
 |false =>
  rw [c0,Bool.false_and] at hR
  subst hR
  try simp only [bo,aF,bhq,Nat.reduceMod,Nat.reduceDiv,aZ,ba,bf,bD,bc,bC,bz,bB,bA,yaq,yar,yao,yap,go_sem,aS,fB,c0]
  exact Y8
 |true =>
 rw [c0,Bool.true_and] at hR
 try simp only [bo,aF,bhq,Nat.reduceMod,Nat.reduceDiv,aZ,ba,bf,bD,bc,bC,bz,bB,bA,yaq,yar,yao,yap,go_sem,aS,fB,b8,c0]
 refine ⟨S.headers,(fun t=>dn t.name),⟨rfl,hS.sl.hl,fun x hx H' hle' hcl'=>clB Ca ⟨x,⟨rfl,(hS.hn x hx).1⟩,rfl⟩⟩,?_⟩
 cases c1:S.headers.all fun t=>dn t.name with
 |false =>
  rw [c1,Bool.false_and] at hR
  subst hR
  try simp only [bo,aF,bhq,Nat.reduceMod,Nat.reduceDiv,aZ,ba,bf,bD,bc,bC,bz,bB,bA,yaq,yar,yao,yap,go_sem,aS,fB,b8,c0,c1]
  exact Y8
 |true =>
 rw [c1,Bool.true_and] at hR
 try simp only [bo,aF,bhq,Nat.reduceMod,Nat.reduceDiv,aZ,ba,bf,bD,bc,bC,bz,bB,bA,yaq,yar,yao,yap,go_sem,aS,fB,b8,bS,c0,c1]
 refine ⟨S.actions,tA,⟨rfl,hS.sl.al,fun x hx H' hle' hcl'=>clB BJ ⟨x,⟨rfl,⟨(hS.an x hx).1,(hS.an x hx).2.1,(hS.an x hx).2.2.2⟩⟩,rfl⟩⟩,?_⟩
 cases c2:S.actions.all tA with
 |false =>
  rw [c2,Bool.false_and] at hR
  subst hR
  try simp only [bo,aF,bhq,Nat.reduceMod,Nat.reduceDiv,aZ,ba,bf,bD,bc,bC,bz,bB,bA,yaq,yar,yao,yap,go_sem,aS,fB,b8,bS,c0,c1,c2]
  exact Y8
 |true =>
 rw [c2,Bool.true_and] at hR
 try simp only [bo,aF,bhq,Nat.reduceMod,Nat.reduceDiv,aZ,ba,bf,bD,bc,bC,bz,bB,bA,yaq,yar,yao,yap,go_sem,aS,fB,b8,bS,b6,c0,c1,c2]
 refine ⟨S.tables,rL,⟨rfl,hS.sl.tl,fun x hx H' hle' hcl'=>clB Cj ⟨x,⟨rfl,⟨(hS.tn x hx).1,(hS.tn x hx).2.1,(hS.tn x hx).2.2.2.2⟩⟩,rfl⟩⟩,?_⟩
 cases c3:S.tables.all rL with
 |false =>
  rw [c3,Bool.false_and] at hR
  subst hR
  try simp only [bo,aF,bhq,Nat.reduceMod,Nat.reduceDiv,aZ,ba,bf,bD,bc,bC,bz,bB,bA,yaq,yar,yao,yap,go_sem,aS,fB,b8,bS,b6,c0,c1,c2,c3]
  exact Y8
 |true =>
 rw [c3,Bool.true_and] at hR
 try simp only [bo,aF,bhq,Nat.reduceMod,Nat.reduceDiv,aZ,ba,bf,bD,bc,bC,bz,bB,bA,yaq,yar,yao,yap,go_sem,aS,fB,b8,bS,b6,cE,c0,c1,c2,c3]
 refine ⟨S.roles,(fun t=>dn t.name),⟨rfl,hS.sl.rl,fun x hx H' hle' hcl'=>clB Cd ⟨x,⟨rfl,(hS.rn x hx).1⟩,rfl⟩⟩,?_⟩
 cases c4:S.roles.all fun t=>dn t.name with
 |false =>
  rw [c4] at hR
  subst hR
  refine Tq43 ?_
  exact Y8
 |true =>
 rw [c4] at hR
 subst hR
 refine Tq43 ?_
 exact Y8
theorem oy {n:Nat}:decide ((n:Int) > 0)=decide (0<n):=by simp
def nm1 (t:SField):Bool:=wB t.id 1 65534&&wB t.bits 1 128
def nm2 (t:SHeader):Bool:=wB t.id 1 65534&&decide (0<t.fields.length)
def nm4 (t:SAction):Bool:=wB t.id 1 65534&&t.params.all fun p=>wB p.bits 1 128
def nm5 (t:STable):Bool:=wB t.id 1 65534&&(wB t.size 1 64&&decide (0<t.keys.length))
def nm6 (t:SRole):Bool:=wB t.id 1 65534&&decide (t.quota≤512)
def uK (S:Sch):Bool:=wB S.maxBatch 1 32&&(wB S.budget 1 200&&(S.fields.all nm1&&(S.headers.all nm2&&((S.states.all fun t=>wB t.id 1 65534)&&(S.actions.all nm4&&(S.tables.all nm5&&S.roles.all nm6))))))
def CU:PCt
 |[x],H,K=>∃ t:SField,(x=aH t)∧K (.bool (nm1 t))
 |_,_,_=>False
theorem Ju:EPp 92 CU:=by
 refine Ype fun _ H K h=>?_
 unfold CU at h
 split at h<;>try exact h.elim
 rename_i x
 obtain ⟨t,rfl,hK⟩:=h
 refine ⟨_,hK,?_⟩
 clear hK
 generalize hR:(nm1 t)=R
 unfold aH
 refine Yfu aC (tCq sZ (tCq Ar tNq)) Tryz.func92 [.tmp 2] fun hcl=>?_
 unfold nm1 at hR
 cases c0:wB t.id 1 65534 with
 |false =>
  rw [c0,Bool.false_and] at hR
  subst hR
  refine Tq18 ?_
  exact Y8
 |true =>
 rw [c0,Bool.true_and] at hR
 cases c1:wB t.bits 1 128 with
 |false =>
  rw [c1] at hR
  subst hR
  refine Tq59 ?_
  exact Y8
 |true =>
 rw [c1] at hR
 subst hR
 refine Tq59 ?_
 exact Y8
def Du:PCt
 |[x],H,K=>∃ t:SHeader,(x=az t)∧K (.bool (nm2 t))
 |_,_,_=>False
theorem Ii:EPp 95 Du:=by
 refine Ype fun _ H K h=>?_
 unfold Du at h
 split at h<;>try exact h.elim
 rename_i x
 obtain ⟨t,rfl,hK⟩:=h
 refine ⟨_,hK,?_⟩
 clear hK
 generalize hR:(nm2 t)=R
 unfold az
 refine Yfu aC (tCq sZ tNq) Tryz.func95 [.tmp 2] fun hcl=>?_
 unfold nm2 at hR
 cases c0:wB t.id 1 65534 with
 |false =>
  rw [c0,Bool.false_and] at hR
  subst hR
  refine Tq52 ?_
  exact Y8
 |true =>
 rw [c0,Bool.true_and] at hR
 cases c1:decide (0<t.fields.length) with
 |false =>
  rw [c1] at hR
  subst hR
  refine Tq50 ?_
  exact Y8
 |true =>
 rw [c1] at hR
 subst hR
 refine Tq50 ?_
 exact Y8
def DT:PCt
 |[x],H,K=>∃ t:SState,(x=aB t)∧K (.bool (wB t.id 1 65534))
 |_,_,_=>False
theorem KW:EPp 97 DT:=by
 refine Ype fun _ H K h=>?_
 unfold DT at h
 split at h<;>try exact h.elim
 rename_i x
 obtain ⟨t,rfl,hK⟩:=h
 refine ⟨_,hK,?_⟩
 clear hK
 generalize hR:(wB t.id 1 65534)=R
 unfold aB
 refine Yfu aC (tCq sZ tNq) Tryz.func97 [.tmp 2] fun hcl=>?_
 cases c0:wB t.id 1 65534 with
 |false =>
  rw [c0] at hR
  subst hR
  refine Tq18 ?_
  exact Y8
 |true =>
 rw [c0] at hR
 subst hR
 refine Tq18 ?_
 exact Y8
def zm:PCt
 |[x],H,K=>∃ t:SParam,(x=aK t)∧K (.bool (wB t.bits 1 128))
 |_,_,_=>False
theorem Fz:EPp 99 zm:=by
 refine Ype fun _ H K h=>?_
 unfold zm at h
 split at h<;>try exact h.elim
 rename_i x
 obtain ⟨t,rfl,hK⟩:=h
 refine ⟨_,hK,?_⟩
 clear hK
 generalize hR:(wB t.bits 1 128)=R
 unfold aK
 refine Yfu aC (tCq Ar tNq) Tryz.func99 [.tmp 2] fun hcl=>?_
 cases c0:wB t.bits 1 128 with
 |false =>
  rw [c0] at hR
  subst hR
  refine Tq67 ?_
  exact Y8
 |true =>
 rw [c0] at hR
 subst hR
 refine Tq67 ?_
 exact Y8
def CN:PCt
 |[x],H,K=>∃ t:SAction,(x=ap t∧t.params.length≤1000000)∧K (.bool (nm4 t))
 |_,_,_=>False
theorem IA:EPp 98 CN:=by
 refine Ype fun _ H K h=>?_
 unfold CN at h
 split at h<;>try exact h.elim
 rename_i x
 obtain ⟨t,⟨rfl,hc⟩,hK⟩:=h
 refine ⟨_,hK,?_⟩
 clear hK
 generalize hR:(nm4 t)=R
 unfold ap
 refine Yfu aC (tCq sZ (tCq AU tNq)) Tryz.func98 [.tmp 2] fun hcl=>?_
 unfold nm4 at hR
 cases c0:wB t.id 1 65534 with
 |false =>
  rw [c0,Bool.false_and] at hR
  subst hR
  refine Tq18 ?_
  exact Y8
 |true =>
 rw [c0,Bool.true_and] at hR
 simp only [bo,aF,bhq,Nat.reduceMod,Nat.reduceDiv,aZ,ba,bf,bD,bc,bC,bz,bB,bA,yaq,yar,yao,yap,go_sem,iJ,oC,c0]
 refine ⟨t.params,(fun p=>wB p.bits 1 128),⟨rfl,hc,fun x hx H' hle' hcl'=>clB Fz ⟨x,rfl,rfl⟩⟩,?_⟩
 cases c1:t.params.all fun p=>wB p.bits 1 128 with
 |false =>
  rw [c1] at hR
  subst hR
  refine Tq60 ?_
  exact Y8
 |true =>
 rw [c1] at hR
 subst hR
 refine Tq60 ?_
 exact Y8
def CV:PCt
 |[x],H,K=>∃ t:STable,(x=ax t)∧K (.bool (nm5 t))
 |_,_,_=>False
theorem He:EPp 100 CV:=by
 refine Ype fun _ H K h=>?_
 unfold CV at h
 split at h<;>try exact h.elim
 rename_i x
 obtain ⟨t,rfl,hK⟩:=h
 refine ⟨_,hK,?_⟩
 clear hK
 generalize hR:(nm5 t)=R
 unfold ax
 refine Yfu aC (tCq sZ (tCq lA tNq)) Tryz.func100 [.tmp 2] fun hcl=>?_
 unfold nm5 at hR
 cases c0:wB t.id 1 65534 with
 |false =>
  rw [c0,Bool.false_and] at hR
  subst hR
  refine Tq52 ?_
  exact Y8
 |true =>
 rw [c0,Bool.true_and] at hR
 cases c1:wB t.size 1 64 with
 |false =>
  rw [c1,Bool.false_and] at hR
  subst hR
  try simp only [bo,aF,bhq,Nat.reduceMod,Nat.reduceDiv,aZ,ba,bf,bD,bc,bC,bz,bB,bA,yaq,yar,yao,yap,go_sem,ybb,oy,inL,iJ,bw,c0,c1]
  exact Y8
 |true =>
 rw [c1,Bool.true_and] at hR
 cases c2:decide (0<t.keys.length) with
 |false =>
  rw [c2] at hR
  subst hR
  refine Tq45 ?_
  exact Y8
 |true =>
 rw [c2] at hR
 subst hR
 refine Tq45 ?_
 exact Y8
def DM:PCt
 |[x],H,K=>∃ t:SRole,(x=aN t)∧K (.bool (nm6 t))
 |_,_,_=>False
theorem Ko:EPp 101 DM:=by
 refine Ype fun _ H K h=>?_
 unfold DM at h
 split at h<;>try exact h.elim
 rename_i x
 obtain ⟨t,rfl,hK⟩:=h
 refine ⟨_,hK,?_⟩
 clear hK
 generalize hR:(nm6 t)=R
 unfold aN
 refine Yfu aC (tCq sZ tNq) Tryz.func101 [.tmp 2] fun hcl=>?_
 unfold nm6 at hR
 cases c0:wB t.id 1 65534 with
 |false =>
  rw [c0,Bool.false_and] at hR
  subst hR
  refine Tq18 ?_
  exact Y8
 |true =>
 rw [c0,Bool.true_and] at hR
 cases c1:decide (t.quota≤512) with
 |false =>
  rw [c1] at hR
  subst hR
  refine Tq61 ?_
  exact Y8
 |true =>
 rw [c1] at hR
 subst hR
 refine Tq61 ?_
 exact Y8
def oF:PCt
 |[.agg l],_,K=>∃ S:Sch,(l=aS S∧SB S)∧K (.bool (uK S))
 |_,_,_=>False
theorem Pk:EPp 32 oF:=by
 refine Ype fun _ H K h=>?_
 unfold oF at h
 split at h<;>try exact h.elim
 rename_i l
 obtain ⟨S,⟨rfl,hS⟩,hK⟩:=h
 refine ⟨_,hK,?_⟩
 clear hK
 generalize hR:uK S=R
 unfold uK at hR
 refine Yfu aC (tCq lA (tCq zY (tCq re (tCq rQ (tCq pi (tCq nS (tCq pt tNq))))))) Tryz.func32 [.tmp 2] fun hcl=>?_
 cases c0:wB S.maxBatch 1 32 with
 |false =>
  rw [c0,Bool.false_and] at hR
  subst hR
  try simp only [bo,aF,bhq,Nat.reduceMod,Nat.reduceDiv,aZ,ba,bf,bD,bc,bC,bz,bB,bA,yaq,yar,yao,yap,go_sem,aS,bw,c0]
  exact Y8
 |true =>
 rw [c0,Bool.true_and] at hR
 cases c1:wB S.budget 1 200 with
 |false =>
  rw [c1,Bool.false_and] at hR
  subst hR
  try simp only [bo,aF,bhq,Nat.reduceMod,Nat.reduceDiv,aZ,ba,bf,bD,bc,bC,bz,bB,bA,yaq,yar,yao,yap,go_sem,aS,bw,bw,c0,c1]
  exact Y8
 |true =>
 rw [c1,Bool.true_and] at hR
 simp only [bo,aF,bhq,Nat.reduceMod,Nat.reduceDiv,aZ,ba,bf,bD,bc,bC,bz,bB,bA,yaq,yar,yao,yap,go_sem,aS,bw,bw,fB,c0,c1]
 refine ⟨S.fields,nm1,⟨rfl,hS.sl.fl,fun x hx H' hle' hcl'=>clB Ju ⟨x,rfl,rfl⟩⟩,?_⟩
 cases c2:S.fields.all nm1 with
 |false =>
  rw [c2,Bool.false_and] at hR
  subst hR
  try simp only [bo,aF,bhq,Nat.reduceMod,Nat.reduceDiv,aZ,ba,bf,bD,bc,bC,bz,bB,bA,yaq,yar,yao,yap,go_sem,aS,bw,bw,fB,c0,c1,c2]
  exact Y8
 |true =>
 rw [c2,Bool.true_and] at hR
 try simp only [bo,aF,bhq,Nat.reduceMod,Nat.reduceDiv,aZ,ba,bf,bD,bc,bC,bz,bB,bA,yaq,yar,yao,yap,go_sem,aS,bw,bw,fB,b8,c0,c1,c2]
 refine ⟨S.headers,nm2,⟨rfl,hS.sl.hl,fun x hx H' hle' hcl'=>clB Ii ⟨x,rfl,rfl⟩⟩,?_⟩
 cases c3:S.headers.all nm2 with
 |false =>
  rw [c3,Bool.false_and] at hR
  subst hR
  try simp only [bo,aF,bhq,Nat.reduceMod,Nat.reduceDiv,aZ,ba,bf,bD,bc,bC,bz,bB,bA,yaq,yar,yao,yap,go_sem,aS,bw,bw,fB,b8,c0,c1,c2,c3]
  exact Y8
 |true =>
 rw [c3,Bool.true_and] at hR
 try simp only [bo,aF,bhq,Nat.reduceMod,Nat.reduceDiv,aZ,ba,bf,bD,bc,bC,bz,bB,bA,yaq,yar,yao,yap,go_sem,aS,bw,bw,fB,b8,cu,c0,c1,c2,c3]
 refine ⟨S.states,(fun t=>wB t.id 1 65534),⟨rfl,hS.sl.sl,fun x hx H' hle' hcl'=>clB KW ⟨x,rfl,rfl⟩⟩,?_⟩
 cases c4:S.states.all fun t=>wB t.id 1 65534 with
 |false =>
  rw [c4,Bool.false_and] at hR
  subst hR
  try simp only [bo,aF,bhq,Nat.reduceMod,Nat.reduceDiv,aZ,ba,bf,bD,bc,bC,bz,bB,bA,yaq,yar,yao,yap,go_sem,aS,bw,bw,fB,b8,cu,c0,c1,c2,c3,c4]
  exact Y8
 |true =>
 rw [c4,Bool.true_and] at hR
 try simp only [bo,aF,bhq,Nat.reduceMod,Nat.reduceDiv,aZ,ba,bf,bD,bc,bC,bz,bB,bA,yaq,yar,yao,yap,go_sem,aS,bw,bw,fB,b8,cu,bS,c0,c1,c2,c3,c4]
 refine ⟨S.actions,nm4,⟨rfl,hS.sl.al,fun x hx H' hle' hcl'=>clB IA ⟨x,⟨rfl,(hS.an x hx).2.1⟩,rfl⟩⟩,?_⟩
 cases c5:S.actions.all nm4 with
 |false =>
  rw [c5,Bool.false_and] at hR
  subst hR
  try simp only [bo,aF,bhq,Nat.reduceMod,Nat.reduceDiv,aZ,ba,bf,bD,bc,bC,bz,bB,bA,yaq,yar,yao,yap,go_sem,aS,bw,bw,fB,b8,cu,bS,c0,c1,c2,c3,c4,c5]
  exact Y8
 |true =>
 rw [c5,Bool.true_and] at hR
 try simp only [bo,aF,bhq,Nat.reduceMod,Nat.reduceDiv,aZ,ba,bf,bD,bc,bC,bz,bB,bA,yaq,yar,yao,yap,go_sem,aS,bw,bw,fB,b8,cu,bS,b6,c0,c1,c2,c3,c4,c5]
 refine ⟨S.tables,nm5,⟨rfl,hS.sl.tl,fun x hx H' hle' hcl'=>clB He ⟨x,rfl,rfl⟩⟩,?_⟩
 cases c6:S.tables.all nm5 with
 |false =>
  rw [c6,Bool.false_and] at hR
  subst hR
  try simp only [bo,aF,bhq,Nat.reduceMod,Nat.reduceDiv,aZ,ba,bf,bD,bc,bC,bz,bB,bA,yaq,yar,yao,yap,go_sem,aS,bw,bw,fB,b8,cu,bS,b6,c0,c1,c2,c3,c4,c5,c6]
  exact Y8
 |true =>
 rw [c6,Bool.true_and] at hR
 try simp only [bo,aF,bhq,Nat.reduceMod,Nat.reduceDiv,aZ,ba,bf,bD,bc,bC,bz,bB,bA,yaq,yar,yao,yap,go_sem,aS,bw,bw,fB,b8,cu,bS,b6,cE,c0,c1,c2,c3,c4,c5,c6]
 refine ⟨S.roles,nm6,⟨rfl,hS.sl.rl,fun x hx H' hle' hcl'=>clB Ko ⟨x,rfl,rfl⟩⟩,?_⟩
 cases c7:S.roles.all nm6 with
 |false =>
  rw [c7] at hR
  subst hR
  refine Tq37 ?_
  exact Y8
 |true =>
 rw [c7] at hR
 subst hR
 refine Tq37 ?_
 exact Y8
end Go.AL
