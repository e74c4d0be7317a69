/- Lemmas of the proof; no condition. -/
import Derived.Test.YthnlhjalhflgfaaGreatS12a
set_option linter.all false
set_option maxRecDepth 10000
set_option maxHeartbeats 32000000
open List renaming length_cons → yaz, length_nil → yba, length_map → ybb, take_of_length_le → ybc, drop_append → ybd, take_append → ybe, drop_eq_nil_of_le → ybf, take_succ_cons → yaq, take_zero → yar, drop_succ_cons → yao, drop_zero → yap
open Go Go.AL Go.Proofs
namespace Go.AL
theorem H4:ti Tryz.prog 45=some ⟨.struct [(0,3,false),(1,9,false),(2,3,false)],3,32,.agg [.int .i64 0,.str [],.int .i64 0]⟩:=by kernel_rfl
theorem EM:ti Tryz.prog 25=some ⟨.slice 45,1,24,.slice .nil 1 []⟩:=by kernel_rfl
theorem DO:ti Tryz.prog 174=some ⟨.func,1,8,.nilf⟩:=by kernel_rfl
theorem GB:ti Tryz.prog 69=some ⟨.struct [(0,3,false),(1,9,false),(2,23,false)],3,48,.agg [.int .i64 0,.str [],.slice .nil 1 []]⟩:=by kernel_rfl
theorem Bj:ti Tryz.prog 26=some ⟨.slice 69,1,24,.slice .nil 1 []⟩:=by kernel_rfl
theorem A0:ti Tryz.prog 176=some ⟨.func,1,8,.nilf⟩:=by kernel_rfl
theorem HY:ti Tryz.prog 81=some ⟨.struct [(0,3,false),(1,3,false),(2,3,false),(3,79,false),(4,3,false)],5,56,.agg [.int .i64 0,.int .i64 0,.int .i64 0,.slice .nil 1 [],.int .i64 0]⟩:=by kernel_rfl
theorem EQ:ti Tryz.prog 27=some ⟨.slice 81,1,24,.slice .nil 1 []⟩:=by kernel_rfl
theorem ES:ti Tryz.prog 188=some ⟨.func,1,8,.nilf⟩:=by kernel_rfl
theorem Il:ti Tryz.prog 86=some ⟨.struct [(0,3,false),(1,9,false),(2,83,false),(3,84,false),(4,9,false)],5,88,.agg [.int .i64 0,.str [],.slice .nil 1 [],.slice .nil 1 [],.str []]⟩:=by kernel_rfl
theorem FH:ti Tryz.prog 28=some ⟨.slice 86,1,24,.slice .nil 1 []⟩:=by kernel_rfl
theorem DP:ti Tryz.prog 180=some ⟨.func,1,8,.nilf⟩:=by kernel_rfl
theorem Ir:ti Tryz.prog 114=some ⟨.struct [(0,9,false),(1,3,false)],2,24,.agg [.str [],.int .i64 0]⟩:=by kernel_rfl
theorem DE:ti Tryz.prog 83=some ⟨.slice 114,1,24,.slice .nil 1 []⟩:=by kernel_rfl
theorem Cm:ti Tryz.prog 179=some ⟨.func,1,8,.nilf⟩:=by kernel_rfl
theorem GW:ti Tryz.prog 57=some ⟨.struct [(0,3,false),(1,9,false),(2,54,false),(3,23,false),(4,3,false),(5,55,false),(6,3,false),(7,9,false)],8,128,.agg [.int .i64 0,.str [],.slice .nil 1 [],.slice .nil 1 [],.int .i64 0,.slice .nil 1 [],.int .i64 0,.str []]⟩:=by kernel_rfl
theorem Fx:ti Tryz.prog 29=some ⟨.slice 57,1,24,.slice .nil 1 []⟩:=by kernel_rfl
theorem AX:ti Tryz.prog 103=some ⟨.func,1,8,.nilf⟩:=by kernel_rfl
theorem Gu:ti Tryz.prog 53=some ⟨.struct [(0,9,false),(1,3,false),(2,3,false)],3,32,.agg [.str [],.int .i64 0,.int .i64 0]⟩:=by kernel_rfl
theorem BM:ti Tryz.prog 54=some ⟨.slice 53,1,24,.slice .nil 1 []⟩:=by kernel_rfl
theorem BS:ti Tryz.prog 183=some ⟨.func,1,8,.nilf⟩:=by kernel_rfl
theorem HX:ti Tryz.prog 48=some ⟨.struct [(0,3,false),(1,9,false),(2,46,false),(3,23,false),(4,3,false),(5,4,false)],6,88,.agg [.int .i64 0,.str [],.slice .nil 1 [],.slice .nil 1 [],.int .i64 0,.bool false]⟩:=by kernel_rfl
theorem BP:ti Tryz.prog 31=some ⟨.slice 48,1,24,.slice .nil 1 []⟩:=by kernel_rfl
theorem B0:ti Tryz.prog 185=some ⟨.func,1,8,.nilf⟩:=by kernel_rfl
theorem IL:ti Tryz.prog 112=some ⟨.struct [(0,3,false),(1,3,false),(2,110,false)],6,48,.agg [.int .i64 0,.int .i64 0,.int .i64 0,.int .i64 0,.int .u64 0,.int .u64 0]⟩:=by kernel_rfl
theorem Dh:ti Tryz.prog 84=some ⟨.slice 112,1,24,.slice .nil 1 []⟩:=by kernel_rfl
theorem AN:ti Tryz.prog 205=some ⟨.func,1,8,.nilf⟩:=by kernel_rfl
theorem GR:ti Tryz.prog 75=some ⟨.struct [(0,3,false),(1,3,false)],2,16,.agg [.int .i64 0,.int .i64 0]⟩:=by kernel_rfl
theorem A5:ti Tryz.prog 30=some ⟨.slice 75,1,24,.slice .nil 1 []⟩:=by kernel_rfl
theorem BN:ti Tryz.prog 211=some ⟨.func,1,8,.nilf⟩:=by kernel_rfl
theorem Iw:ti Tryz.prog 119=some ⟨.struct [(0,3,false),(1,4,false),(2,4,false),(3,117,false)],4,40,.agg [.int .i64 0,.bool false,.bool false,.slice .nil 1 []]⟩:=by kernel_rfl
theorem Eb:ti Tryz.prog 46=some ⟨.slice 119,1,24,.slice .nil 1 []⟩:=by kernel_rfl
theorem Cf:ti Tryz.prog 213=some ⟨.func,1,8,.nilf⟩:=by kernel_rfl
theorem GH:ti Tryz.prog 108=some ⟨.struct [(0,106,false),(2,106,false),(4,3,false)],5,40,.agg [.int .u64 0,.int .u64 0,.int .u64 0,.int .u64 0,.int .i64 0]⟩:=by kernel_rfl
theorem AM:ti Tryz.prog 79=some ⟨.slice 108,1,24,.slice .nil 1 []⟩:=by kernel_rfl
theorem FM:ti Tryz.prog 219=some ⟨.func,1,8,.nilf⟩:=by kernel_rfl
theorem Hz:ti Tryz.prog 50=some ⟨.struct [(0,3,false),(1,3,false),(2,3,false),(3,3,false),(4,3,false),(5,3,false)],6,48,.agg [.int .i64 0,.int .i64 0,.int .i64 0,.int .i64 0,.int .i64 0,.int .i64 0]⟩:=by kernel_rfl
theorem E9:ti Tryz.prog 32=some ⟨.slice 50,1,24,.slice .nil 1 []⟩:=by kernel_rfl
theorem AJ:ti Tryz.prog 99=some ⟨.func,1,8,.nilf⟩:=by kernel_rfl
theorem GL:ti Tryz.prog 3=some ⟨.int .i64,1,8,.int .i64 0⟩:=by kernel_rfl
theorem FE:ti Tryz.prog 23=some ⟨.slice 3,1,24,.slice .nil 1 []⟩:=by kernel_rfl
theorem AE:ti Tryz.prog 100=some ⟨.func,1,8,.nilf⟩:=by kernel_rfl
attribute [go_sem] H4 EM DO GB Bj A0 HY EQ ES Il FH DP Ir DE Cm GW Fx AX Gu BM BS HX BP B0 IL Dh AN GR A5 BN Iw Eb Cf GH AM FM Hz E9 AJ GL FE AE
def eX (P:Program) (F:FuncId):List AV→AHeap→(AV→Prop)→Prop:=fun args H K=>∃ x,K x∧ACalls P F args H (.ret x) H
theorem cg {P:Program} {F:FuncId}:EntOk P F (Ent.pure (eX P F)):=EntOk.pure fun _ _ _ h=>h
theorem dx {α:Type} {q:α→Bool}:∀ {l:List α} {k:Nat},decide (0≤ixP q l k)=l.any q
 |[],_=>rfl
 |x::l,k=>by
  unfold ixP
  rw [List.any_cons]
  cases h:q x
  ·rw [if_neg (by decide),dx,Bool.false_or]
  ·rw [if_pos rfl,Bool.true_or];exact dtq (Int.natCast_nonneg _)
theorem fj {α:Type} {q:α→Bool} {l:List α}:(!(l.any fun x=>!q x))=l.all q:=by
 induction l with
 |nil=>rfl
 |cons x l ih=>rw [List.any_cons,List.all_cons,← ih];cases q x<;>simp
theorem tfB:(∀ x,(true&&x)=x)∧(∀ x,(false&&x)=false)∧(∀ x,(x&&true)=x)∧(∀ x,(x&&false)=false)∧(∀ x,(true||x)=true)∧(∀ x,(false||x)=x)∧(∀ x,(x||true)=true)∧(∀ x,(x||false)=x)∧(!true)=false∧(!false)=true∧(false=true)=False∧(true=false)=False:=by decide +revert
theorem clB {P:Program} {f:FuncId} {p:List AV→AHeap→(AV→Prop)→Prop} {args:List AV} {H:AHeap} {b:AV} (h:EntOk P f (Ent.pure p)) (hp:p args H (fun v=>v=b)):ACalls P f args H (.ret b) H:=by
 obtain ⟨v,hv,hc⟩:=h.1 rfl _ _ _ hp
 subst hv
 exact hc
def AV.smk:AV→Mark
 |.slice m _ _=>m
 |_=>.any
def pIx {α:Type} (P:Program) (av:α→AV) (sz:Nat):List AV→AHeap→(AV→Prop)→Prop
 |[x,.func (.func F) fst caps],H,K=>∃ (ts:List α) (q:α→Bool),(x=.slice x.smk sz (ts.map av)∧ts.length≤1000000∧∀ x∈ts,ACalls P F (fst++[av x]++caps) H (.ret (.bool (q x))) H)∧K (.int .i64 (ixP q ts 0))
 |_,_,_=>False
theorem gQ {α:Type} {P:Program} {f:FuncId} {av:α→AV} {sz:Nat} (h:∀ (av':α→AV) (sz':Nat),av'=av→sz'=sz→∀ (m:Mark) (ts:List α) (q:α→Bool) (F:FuncId) (fst caps:List AV) (H:AHeap),ts.length≤1000000→(∀ x∈ts,ACalls P F (fst++[av' x]++caps) H (.ret (.bool (q x))) H)→ACalls P f [.slice m sz' (ts.map av'),.func (.func F) fst caps] H (.ret (.int .i64 (ixP q ts 0))) H):EntOk P f (Ent.pure (pIx P av sz)):=by
 refine EntOk.pure fun args H K hh=>?_
 unfold pIx at hh
 split at hh
 ·obtain ⟨ts,q,⟨h1,h2,h3⟩,h4⟩:=hh
  rw [h1]
  exact ⟨_,h4,h av sz rfl rfl _ ts q _ _ _ _ h2 h3⟩
 ·exact hh.elim
def pAn {α:Type} (P:Program) (av:α→AV) (sz:Nat):List AV→AHeap→(AV→Prop)→Prop
 |[x,.func (.func F) fst caps],H,K=>∃ (ts:List α) (q:α→Bool),(x=.slice x.smk sz (ts.map av)∧ts.length≤1000000∧∀ x∈ts,ACalls P F (fst++[av x]++caps) H (.ret (.bool (q x))) H)∧K (.bool (ts.any q))
 |_,_,_=>False
theorem gE {α:Type} {P:Program} {f:FuncId} {av:α→AV} {sz:Nat} (h:∀ (av':α→AV) (sz':Nat),av'=av→sz'=sz→∀ (m:Mark) (ts:List α) (q:α→Bool) (F:FuncId) (fst caps:List AV) (H:AHeap),ts.length≤1000000→(∀ x∈ts,ACalls P F (fst++[av' x]++caps) H (.ret (.bool (q x))) H)→ACalls P f [.slice m sz' (ts.map av'),.func (.func F) fst caps] H (.ret (.bool (ts.any q))) H):EntOk P f (Ent.pure (pAn P av sz)):=by
 refine EntOk.pure fun args H K hh=>?_
 unfold pAn at hh
 split at hh
 ·obtain ⟨ts,q,⟨h1,h2,h3⟩,h4⟩:=hh
  rw [h1]
  exact ⟨_,h4,h av sz rfl rfl _ ts q _ _ _ _ h2 h3⟩
 ·exact hh.elim
def pEv {α:Type} (P:Program) (av:α→AV) (sz:Nat):List AV→AHeap→(AV→Prop)→Prop
 |[x,.func (.func F) fst caps],H,K=>∃ (ts:List α) (q:α→Bool),(x=.slice x.smk sz (ts.map av)∧ts.length≤1000000∧∀ x∈ts,∀ H',H.Le H'→H'.Closed→ACalls P F (fst++[av x]++caps) H' (.ret (.bool (q x))) H')∧K (.bool (ts.all q))
 |_,_,_=>False
theorem gL {α:Type} {P:Program} {f:FuncId} {av:α→AV} {sz:Nat} (h:∀ (av':α→AV) (sz':Nat),av'=av→sz'=sz→∀ (m:Mark) (ts:List α) (q:α→Bool) (F:FuncId) (fst caps:List AV) (H:AHeap),ts.length≤1000000→(∀ x∈ts,∀ H',H.Le H'→H'.Closed→ACalls P F (fst++[av' x]++caps) H' (.ret (.bool (q x))) H')→ACalls P f [.slice m sz' (ts.map av'),.func (.func F) fst caps] H (.ret (.bool (ts.all q))) H):EntOk P f (Ent.pure (pEv P av sz)):=by
 refine EntOk.pure fun args H K hh=>?_
 unfold pEv at hh
 split at hh
 ·obtain ⟨ts,q,⟨h1,h2,h3⟩,h4⟩:=hh
  rw [h1]
  exact ⟨_,h4,h av sz rfl rfl _ ts q _ _ _ _ h2 h3⟩
 ·exact hh.elim
def pCl {α:Type} (P:Program) (av:α→AV):List AV→AHeap→(AV→Prop)→Prop
 |[x,.ptr c 0],H,K=>∃ (t:α) (b:Bool) (F:FuncId) (fst caps:List AV),(x=av t∧H.get c=some (.cells [.func (.func F) fst caps])∧∀ H',H.Le H'→H'.Closed→ACalls P F (fst++[av t]++caps) H' (.ret (.bool b)) H')∧K (.bool (!b))
 |_,_,_=>False
theorem gG {α:Type} {P:Program} {f:FuncId} {av:α→AV} (h:∀ (av':α→AV),av'=av→∀ (t:α) (c:Nat) (b:Bool) (F:FuncId) (fst caps:List AV) (H:AHeap),H.get c=some (.cells [.func (.func F) fst caps])→(∀ H',H.Le H'→H'.Closed→ACalls P F (fst++[av' t]++caps) H' (.ret (.bool b)) H')→ACalls P f [av' t,.ptr c 0] H (.ret (.bool (!b))) H):EntOk P f (Ent.pure (pCl P av)):=by
 refine EntOk.pure fun args H K hh=>?_
 unfold pCl at hh
 split at hh
 ·obtain ⟨t,b,F,fst,caps,⟨h1,h2,h3⟩,h4⟩:=hh
  rw [h1]
  exact ⟨_,h4,h av rfl t _ b _ _ _ _ h2 h3⟩
 ·exact hh.elim
attribute [go_sem] pIx pAn pEv pCl
abbrev I0:=@pIx SField Tryz.prog aV 3
abbrev IZ:=@pAn SField Tryz.prog aV 3
abbrev cE:=@pEv SField Tryz.prog aV 3
abbrev HZ:=@pCl SField Tryz.prog aV
theorem FQ:EntOk Tryz.prog 318 (Ent.pure I0):=gQ fun av sz ha hs m ts q F fst caps H hl hq=>by
 have hag:∀ x,∃ cs,av x=.agg cs∧cs.length=sz:=by subst ha hs;exact fun x=>⟨_,rfl,rfl⟩
 refine ACalls.fW ak (tCq (cg (F:=F)) tNq) Tryz.func318 [.tmp 4] (nrq _) (T:=aj []) (h:=fun hcl hlt=>?_)
 generalize hR:ixP q ts 0=R
 have hm:AV.lt H.nx (.slice m sz (ts.map av)):=hlt _ (by simp)
 have hf:AV.lt H.nx (.func (.func F) fst caps):=hlt _ (by simp)
 clear hlt
 simp only [go_sem,ybb]
 refine ay (A:=Nat) (fun k=>[(0,.slice m sz (ts.map av)),(1,.func (.func F) fst caps),(7,.int .i64 (ts.length:Int)),(8,.int .i64 (k:Int))]) (fun _=>H) (fun k=>k≤ts.length∧ixP q (ts.drop k) k=R) (fun k=>ts.length - k) 0 ⟨by omega,hR⟩ ?_ fun k hk=>?_
 ·exact ⟨nrq _,lRq _,hcl,by simp [ltF,znf,hm,hf],by simp [ba,wk2,wk1,wkM,Fr.get]⟩
 clear hR
 obtain ⟨hk,hR⟩:=hk
 simp only [go_sem]
 refine ah (fun hc=>?_) (fun hc=>?_)
 ·have hk':k<ts.length:=by simp at hc;omega
  obtain ⟨x,hx⟩:∃ x,x=ts[k]:=⟨_,rfl⟩
  have hd:ts.drop k=x::ts.drop (k+1):=by rw [hx];exact dcq hk'
  have hg':=aW (f:=av) (l:=ts) (k:=k) (x:=x) (by rw [gQq hk',hx])
  have e5:=Yk5 k
  rw [hd] at hR
  unfold ixP at hR
  have hqx:=hq x (by rw [hx];exact gMq hk')
  obtain ⟨cs,hcs,hcl3⟩:=hag x
  have hts:List.take sz cs=cs:=ybc (by omega)
  rw [hcs] at hqx
  clear ha hag
  subst hs
  simp only [go_sem,iNq,ybb,hg',hcs,hcl3,hts,eX]
  (repeat with_reducible refine Yq ?_)
  refine ⟨_,?_,hqx⟩
  try simp only [ag,go_sem]
  try (repeat with_reducible refine Yq ?_)
  refine ah (fun hq=>?_) (fun hq=>?_)
  ·rw [if_pos hq] at hR
   subst hR
   simp only [go_sem]
   exact Z1
  ·rw [if_neg (by rw [hq];decide)] at hR
   simp only [go_sem,e5]
   exact ⟨k+1,⟨by omega,hR⟩,by omega,nrq _,lRq _,hcl,by simp [ltF,znf,hm,hf],by simp [ba,wk2,wk1,wkM,Fr.get]⟩
 ·have hk':k=ts.length:=by simp at hc;omega
  subst hk'
  rw [List.drop_length] at hR
  unfold ixP at hR
  subst hR
  simp only [go_sem]
  exact Z1
theorem D1:EntOk Tryz.prog 233 (Ent.pure IZ):=gE fun av sz ha hs m ts q F fst caps H hl hq=>by
 refine ACalls.fW ak (tCq FQ tNq) Tryz.func233 [.tmp 4] (nrq _) (T:=aj []) (h:=fun hcl hlt=>?_)
 clear hlt
 have hR:=@dx _ q ts 0
 generalize ts.any q=R at *
 subst hs
 simp only [go_sem]
 refine ⟨ts,q,⟨by rw [ha];rfl,hl,by rw [← ha];exact hq⟩,?_⟩
 simp only [ag,go_sem,hR]
 exact Z1
theorem Be:EntOk Tryz.prog 234 (Ent.pure HZ):=gG fun av ha t c b F fst caps H hg hq=>by
 have hag:∀ x,∃ cs,av x=.agg cs∧cs.length=3:=by subst ha;exact fun x=>⟨_,rfl,rfl⟩
 refine ACalls.fW ak (tCq (cg (F:=F)) tNq) Tryz.func234 [.tmp 3] (nrq _) (T:=aj []) (h:=fun hcl hlt=>?_)
 have hcs:=aq hg
 have hl:=glq hg
 have hne:(c=H.nx)=False:=eq_false (by omega)
 obtain ⟨cs,hav,hcl3⟩:=hag t
 have hts:=ybc (Nat.le_of_eq hcl3)
 rw [hav] at hq hlt ⊢
 have hlx:=hlt _ (List.mem_cons_self)
 clear hlt
 simp only [go_sem,hcs,hne,hg,hcl3,hts,eX]
 refine ⟨_,?_,hq _ ((lRq _).push _) ?_⟩
 ·try simp only [ag,go_sem]
  exact Z1
 ·have h0:=AV.lt_mono (Nat.le_succ H.nx) _ hlx
  rw [znr] at h0
  exact ae hcl h0
theorem uP:EntOk Tryz.prog 75 (Ent.pure cE):=gL fun av sz ha hs m ts q F fst caps H hl hq=>by
 have hL:EntOk Tryz.prog 234 (Ent.pure (pCl Tryz.prog av)):=by rw [ha];exact Be
 refine ACalls.fW ak (tCq D1 tNq) Tryz.func75 [.tmp 4] (nrq _) (T:=aj []) (h:=fun hcl hlt=>?_)
 have hR:=@fj _ q ts
 generalize ts.all q=R at *
 have hfx:=hlt _ (List.mem_cons_of_mem _ List.mem_cons_self)
 clear hlt
 subst hs
 simp only [go_sem]
 refine ⟨ts,fun x=>!q x,⟨by rw [ha];rfl,hl,fun x hx=>?_⟩,?_⟩
 ·rw [← ha]
  exact clB hL ⟨x,q x,F,fst,caps,⟨rfl,by simp only [go_sem],fun H' h1 h2=>hq x hx H' (((lRq _).push _).trans h1) h2⟩,rfl⟩
 ·rw [hR]
  try simp only [ag,go_sem]
  exact Z1
abbrev GJ:=@pIx SHeader Tryz.prog aH 3
abbrev H8:=@pAn SHeader Tryz.prog aH 3
abbrev bh:=@pEv SHeader Tryz.prog aH 3
abbrev Jp:=@pCl SHeader Tryz.prog aH
theorem E7:EntOk Tryz.prog 319 (Ent.pure GJ):=gQ fun av sz ha hs m ts q F fst caps H hl hq=>by
 have hag:∀ x,∃ cs,av x=.agg cs∧cs.length=sz:=by subst ha hs;exact fun x=>⟨_,rfl,rfl⟩
 refine ACalls.fW ak (tCq (cg (F:=F)) tNq) Tryz.func319 [.tmp 4] (nrq _) (T:=aj []) (h:=fun hcl hlt=>?_)
 generalize hR:ixP q ts 0=R
 have hm:AV.lt H.nx (.slice m sz (ts.map av)):=hlt _ (by simp)
 have hf:AV.lt H.nx (.func (.func F) fst caps):=hlt _ (by simp)
 clear hlt
 simp only [go_sem,ybb]
 refine ay (A:=Nat) (fun k=>[(0,.slice m sz (ts.map av)),(1,.func (.func F) fst caps),(7,.int .i64 (ts.length:Int)),(8,.int .i64 (k:Int))]) (fun _=>H) (fun k=>k≤ts.length∧ixP q (ts.drop k) k=R) (fun k=>ts.length - k) 0 ⟨by omega,hR⟩ ?_ fun k hk=>?_
 ·exact ⟨nrq _,lRq _,hcl,by simp [ltF,znf,hm,hf],by simp [ba,wk2,wk1,wkM,Fr.get]⟩
 clear hR
 obtain ⟨hk,hR⟩:=hk
 simp only [go_sem]
 refine ah (fun hc=>?_) (fun hc=>?_)
 ·have hk':k<ts.length:=by simp at hc;omega
  obtain ⟨x,hx⟩:∃ x,x=ts[k]:=⟨_,rfl⟩
  have hd:ts.drop k=x::ts.drop (k+1):=by rw [hx];exact dcq hk'
  have hg':=aW (f:=av) (l:=ts) (k:=k) (x:=x) (by rw [gQq hk',hx])
  have e5:=Yk5 k
  rw [hd] at hR
  unfold ixP at hR
  have hqx:=hq x (by rw [hx];exact gMq hk')
  obtain ⟨cs,hcs,hcl3⟩:=hag x
  have hts:List.take sz cs=cs:=ybc (by omega)
  rw [hcs] at hqx
  clear ha hag
  subst hs
  simp only [go_sem,iNq,ybb,hg',hcs,hcl3,hts,eX]
  (repeat with_reducible refine Yq ?_)
  refine ⟨_,?_,hqx⟩
  try simp only [ag,go_sem]
  try (repeat with_reducible refine Yq ?_)
  refine ah (fun hq=>?_) (fun hq=>?_)
  ·rw [if_pos hq] at hR
   subst hR
   simp only [go_sem]
   exact Z1
  ·rw [if_neg (by rw [hq];decide)] at hR
   simp only [go_sem,e5]
   exact ⟨k+1,⟨by omega,hR⟩,by omega,nrq _,lRq _,hcl,by simp [ltF,znf,hm,hf],by simp [ba,wk2,wk1,wkM,Fr.get]⟩
 ·have hk':k=ts.length:=by simp at hc;omega
  subst hk'
  rw [List.drop_length] at hR
  unfold ixP at hR
  subst hR
  simp only [go_sem]
  exact Z1
theorem F5:EntOk Tryz.prog 235 (Ent.pure H8):=gE fun av sz ha hs m ts q F fst caps H hl hq=>by
 refine ACalls.fW ak (tCq E7 tNq) Tryz.func235 [.tmp 4] (nrq _) (T:=aj []) (h:=fun hcl hlt=>?_)
 clear hlt
 have hR:=@dx _ q ts 0
 generalize ts.any q=R at *
 subst hs
 simp only [go_sem]
 refine ⟨ts,q,⟨by rw [ha];rfl,hl,by rw [← ha];exact hq⟩,?_⟩
 simp only [ag,go_sem,hR]
 exact Z1
theorem C6:EntOk Tryz.prog 236 (Ent.pure Jp):=gG fun av ha t c b F fst caps H hg hq=>by
 have hag:∀ x,∃ cs,av x=.agg cs∧cs.length=3:=by subst ha;exact fun x=>⟨_,rfl,rfl⟩
 refine ACalls.fW ak (tCq (cg (F:=F)) tNq) Tryz.func236 [.tmp 3] (nrq _) (T:=aj []) (h:=fun hcl hlt=>?_)
 have hcs:=aq hg
 have hl:=glq hg
 have hne:(c=H.nx)=False:=eq_false (by omega)
 obtain ⟨cs,hav,hcl3⟩:=hag t
 have hts:=ybc (Nat.le_of_eq hcl3)
 rw [hav] at hq hlt ⊢
 have hlx:=hlt _ (List.mem_cons_self)
 clear hlt
 simp only [go_sem,hcs,hne,hg,hcl3,hts,eX]
 refine ⟨_,?_,hq _ ((lRq _).push _) ?_⟩
 ·try simp only [ag,go_sem]
  exact Z1
 ·have h0:=AV.lt_mono (Nat.le_succ H.nx) _ hlx
  rw [znr] at h0
  exact ae hcl h0
theorem mM:EntOk Tryz.prog 78 (Ent.pure bh):=gL fun av sz ha hs m ts q F fst caps H hl hq=>by
 have hL:EntOk Tryz.prog 236 (Ent.pure (pCl Tryz.prog av)):=by rw [ha];exact C6
 refine ACalls.fW ak (tCq F5 tNq) Tryz.func78 [.tmp 4] (nrq _) (T:=aj []) (h:=fun hcl hlt=>?_)
 have hR:=@fj _ q ts
 generalize ts.all q=R at *
 have hfx:=hlt _ (List.mem_cons_of_mem _ List.mem_cons_self)
 clear hlt
 subst hs
 simp only [go_sem]
 refine ⟨ts,fun x=>!q x,⟨by rw [ha];rfl,hl,fun x hx=>?_⟩,?_⟩
 ·rw [← ha]
  exact clB hL ⟨x,q x,F,fst,caps,⟨rfl,by simp only [go_sem],fun H' h1 h2=>hq x hx H' (((lRq _).push _).trans h1) h2⟩,rfl⟩
 ·rw [hR]
  try simp only [ag,go_sem]
  exact Z1
abbrev IW:=@pIx SState Tryz.prog aL 5
abbrev Jj:=@pAn SState Tryz.prog aL 5
abbrev bn:=@pEv SState Tryz.prog aL 5
abbrev GQ:=@pCl SState Tryz.prog aL
theorem Ck:EntOk Tryz.prog 323 (Ent.pure IW):=gQ fun av sz ha hs m ts q F fst caps H hl hq=>by
 have hag:∀ x,∃ cs,av x=.agg cs∧cs.length=sz:=by subst ha hs;exact fun x=>⟨_,rfl,rfl⟩
 refine ACalls.fW ak (tCq (cg (F:=F)) tNq) Tryz.func323 [.tmp 4] (nrq _) (T:=aj []) (h:=fun hcl hlt=>?_)
 generalize hR:ixP q ts 0=R
 have hm:AV.lt H.nx (.slice m sz (ts.map av)):=hlt _ (by simp)
 have hf:AV.lt H.nx (.func (.func F) fst caps):=hlt _ (by simp)
 clear hlt
 simp only [go_sem,ybb]
 refine ay (A:=Nat) (fun k=>[(0,.slice m sz (ts.map av)),(1,.func (.func F) fst caps),(7,.int .i64 (ts.length:Int)),(8,.int .i64 (k:Int))]) (fun _=>H) (fun k=>k≤ts.length∧ixP q (ts.drop k) k=R) (fun k=>ts.length - k) 0 ⟨by omega,hR⟩ ?_ fun k hk=>?_
 ·exact ⟨nrq _,lRq _,hcl,by simp [ltF,znf,hm,hf],by simp [ba,wk2,wk1,wkM,Fr.get]⟩
 clear hR
 obtain ⟨hk,hR⟩:=hk
 simp only [go_sem]
 refine ah (fun hc=>?_) (fun hc=>?_)
 ·have hk':k<ts.length:=by simp at hc;omega
  obtain ⟨x,hx⟩:∃ x,x=ts[k]:=⟨_,rfl⟩
  have hd:ts.drop k=x::ts.drop (k+1):=by rw [hx];exact dcq hk'
  have hg':=aW (f:=av) (l:=ts) (k:=k) (x:=x) (by rw [gQq hk',hx])
  have e5:=Yk5 k
  rw [hd] at hR
  unfold ixP at hR
  have hqx:=hq x (by rw [hx];exact gMq hk')
  obtain ⟨cs,hcs,hcl3⟩:=hag x
  have hts:List.take sz cs=cs:=ybc (by omega)
  rw [hcs] at hqx
  clear ha hag
  subst hs
  simp only [go_sem,iNq,ybb,hg',hcs,hcl3,hts,eX]
  (repeat with_reducible refine Yq ?_)
  refine ⟨_,?_,hqx⟩
  try simp only [ag,go_sem]
  try (repeat with_reducible refine Yq ?_)
  refine ah (fun hq=>?_) (fun hq=>?_)
  ·rw [if_pos hq] at hR
   subst hR
   simp only [go_sem]
   exact Z1
  ·rw [if_neg (by rw [hq];decide)] at hR
   simp only [go_sem,e5]
   exact ⟨k+1,⟨by omega,hR⟩,by omega,nrq _,lRq _,hcl,by simp [ltF,znf,hm,hf],by simp [ba,wk2,wk1,wkM,Fr.get]⟩
 ·have hk':k=ts.length:=by simp at hc;omega
  subst hk'
  rw [List.drop_length] at hR
  unfold ixP at hR
  subst hR
  simp only [go_sem]
  exact Z1
theorem CL:EntOk Tryz.prog 247 (Ent.pure Jj):=gE fun av sz ha hs m ts q F fst caps H hl hq=>by
 refine ACalls.fW ak (tCq Ck tNq) Tryz.func247 [.tmp 4] (nrq _) (T:=aj []) (h:=fun hcl hlt=>?_)
 clear hlt
 have hR:=@dx _ q ts 0
 generalize ts.any q=R at *
 subst hs
 simp only [go_sem]
 refine ⟨ts,q,⟨by rw [ha];rfl,hl,by rw [← ha];exact hq⟩,?_⟩
 simp only [ag,go_sem,hR]
 exact Z1
theorem Cu:EntOk Tryz.prog 248 (Ent.pure GQ):=gG fun av ha t c b F fst caps H hg hq=>by
 have hag:∀ x,∃ cs,av x=.agg cs∧cs.length=5:=by subst ha;exact fun x=>⟨_,rfl,rfl⟩
 refine ACalls.fW ak (tCq (cg (F:=F)) tNq) Tryz.func248 [.tmp 3] (nrq _) (T:=aj []) (h:=fun hcl hlt=>?_)
 have hcs:=aq hg
 have hl:=glq hg
 have hne:(c=H.nx)=False:=eq_false (by omega)
 obtain ⟨cs,hav,hcl3⟩:=hag t
 have hts:=ybc (Nat.le_of_eq hcl3)
 rw [hav] at hq hlt ⊢
 have hlx:=hlt _ (List.mem_cons_self)
 clear hlt
 simp only [go_sem,hcs,hne,hg,hcl3,hts,eX]
 refine ⟨_,?_,hq _ ((lRq _).push _) ?_⟩
 ·try simp only [ag,go_sem]
  exact Z1
 ·have h0:=AV.lt_mono (Nat.le_succ H.nx) _ hlx
  rw [znr] at h0
  exact ae hcl h0
theorem mG:EntOk Tryz.prog 96 (Ent.pure bn):=gL fun av sz ha hs m ts q F fst caps H hl hq=>by
 have hL:EntOk Tryz.prog 248 (Ent.pure (pCl Tryz.prog av)):=by rw [ha];exact Cu
 refine ACalls.fW ak (tCq CL tNq) Tryz.func96 [.tmp 4] (nrq _) (T:=aj []) (h:=fun hcl hlt=>?_)
 have hR:=@fj _ q ts
 generalize ts.all q=R at *
 have hfx:=hlt _ (List.mem_cons_of_mem _ List.mem_cons_self)
 clear hlt
 subst hs
 simp only [go_sem]
 refine ⟨ts,fun x=>!q x,⟨by rw [ha];rfl,hl,fun x hx=>?_⟩,?_⟩
 ·rw [← ha]
  exact clB hL ⟨x,q x,F,fst,caps,⟨rfl,by simp only [go_sem],fun H' h1 h2=>hq x hx H' (((lRq _).push _).trans h1) h2⟩,rfl⟩
 ·rw [hR]
  try simp only [ag,go_sem]
  exact Z1
abbrev Ht:=@pIx SAction Tryz.prog ax 5
abbrev G0:=@pAn SAction Tryz.prog ax 5
abbrev bf:=@pEv SAction Tryz.prog ax 5
abbrev Jw:=@pCl SAction Tryz.prog ax
theorem Fo:EntOk Tryz.prog 277 (Ent.pure Ht):=gQ fun av sz ha hs m ts q F fst caps H hl hq=>by
 have hag:∀ x,∃ cs,av x=.agg cs∧cs.length=sz:=by subst ha hs;exact fun x=>⟨_,rfl,rfl⟩
 refine ACalls.fW ak (tCq (cg (F:=F)) tNq) Tryz.func277 [.tmp 4] (nrq _) (T:=aj []) (h:=fun hcl hlt=>?_)
 generalize hR:ixP q ts 0=R
 have hm:AV.lt H.nx (.slice m sz (ts.map av)):=hlt _ (by simp)
 have hf:AV.lt H.nx (.func (.func F) fst caps):=hlt _ (by simp)
 clear hlt
 simp only [go_sem,ybb]
 refine ay (A:=Nat) (fun k=>[(0,.slice m sz (ts.map av)),(1,.func (.func F) fst caps),(7,.int .i64 (ts.length:Int)),(8,.int .i64 (k:Int))]) (fun _=>H) (fun k=>k≤ts.length∧ixP q (ts.drop k) k=R) (fun k=>ts.length - k) 0 ⟨by omega,hR⟩ ?_ fun k hk=>?_
 ·exact ⟨nrq _,lRq _,hcl,by simp [ltF,znf,hm,hf],by simp [ba,wk2,wk1,wkM,Fr.get]⟩
 clear hR
 obtain ⟨hk,hR⟩:=hk
 simp only [go_sem]
 refine ah (fun hc=>?_) (fun hc=>?_)
 ·have hk':k<ts.length:=by simp at hc;omega
  obtain ⟨x,hx⟩:∃ x,x=ts[k]:=⟨_,rfl⟩
  have hd:ts.drop k=x::ts.drop (k+1):=by rw [hx];exact dcq hk'
  have hg':=aW (f:=av) (l:=ts) (k:=k) (x:=x) (by rw [gQq hk',hx])
  have e5:=Yk5 k
  rw [hd] at hR
  unfold ixP at hR
  have hqx:=hq x (by rw [hx];exact gMq hk')
  obtain ⟨cs,hcs,hcl3⟩:=hag x
  have hts:List.take sz cs=cs:=ybc (by omega)
  rw [hcs] at hqx
  clear ha hag
  subst hs
  simp only [go_sem,iNq,ybb,hg',hcs,hcl3,hts,eX]
  (repeat with_reducible refine Yq ?_)
  refine ⟨_,?_,hqx⟩
  try simp only [ag,go_sem]
  try (repeat with_reducible refine Yq ?_)
  refine ah (fun hq=>?_) (fun hq=>?_)
  ·rw [if_pos hq] at hR
   subst hR
   simp only [go_sem]
   exact Z1
  ·rw [if_neg (by rw [hq];decide)] at hR
   simp only [go_sem,e5]
   exact ⟨k+1,⟨by omega,hR⟩,by omega,nrq _,lRq _,hcl,by simp [ltF,znf,hm,hf],by simp [ba,wk2,wk1,wkM,Fr.get]⟩
 ·have hk':k=ts.length:=by simp at hc;omega
  subst hk'
  rw [List.drop_length] at hR
  unfold ixP at hR
  subst hR
  simp only [go_sem]
  exact Z1
theorem Ch:EntOk Tryz.prog 237 (Ent.pure G0):=gE fun av sz ha hs m ts q F fst caps H hl hq=>by
 refine ACalls.fW ak (tCq Fo tNq) Tryz.func237 [.tmp 4] (nrq _) (T:=aj []) (h:=fun hcl hlt=>?_)
 clear hlt
 have hR:=@dx _ q ts 0
 generalize ts.any q=R at *
 subst hs
 simp only [go_sem]
 refine ⟨ts,q,⟨by rw [ha];rfl,hl,by rw [← ha];exact hq⟩,?_⟩
 simp only [ag,go_sem,hR]
 exact Z1
theorem FA:EntOk Tryz.prog 238 (Ent.pure Jw):=gG fun av ha t c b F fst caps H hg hq=>by
 have hag:∀ x,∃ cs,av x=.agg cs∧cs.length=5:=by subst ha;exact fun x=>⟨_,rfl,rfl⟩
 refine ACalls.fW ak (tCq (cg (F:=F)) tNq) Tryz.func238 [.tmp 3] (nrq _) (T:=aj []) (h:=fun hcl hlt=>?_)
 have hcs:=aq hg
 have hl:=glq hg
 have hne:(c=H.nx)=False:=eq_false (by omega)
 obtain ⟨cs,hav,hcl3⟩:=hag t
 have hts:=ybc (Nat.le_of_eq hcl3)
 rw [hav] at hq hlt ⊢
 have hlx:=hlt _ (List.mem_cons_self)
 clear hlt
 simp only [go_sem,hcs,hne,hg,hcl3,hts,eX]
 refine ⟨_,?_,hq _ ((lRq _).push _) ?_⟩
 ·try simp only [ag,go_sem]
  exact Z1
 ·have h0:=AV.lt_mono (Nat.le_succ H.nx) _ hlx
  rw [znr] at h0
  exact ae hcl h0
theorem lj:EntOk Tryz.prog 80 (Ent.pure bf):=gL fun av sz ha hs m ts q F fst caps H hl hq=>by
 have hL:EntOk Tryz.prog 238 (Ent.pure (pCl Tryz.prog av)):=by rw [ha];exact FA
 refine ACalls.fW ak (tCq Ch tNq) Tryz.func80 [.tmp 4] (nrq _) (T:=aj []) (h:=fun hcl hlt=>?_)
 have hR:=@fj _ q ts
 generalize ts.all q=R at *
 have hfx:=hlt _ (List.mem_cons_of_mem _ List.mem_cons_self)
 clear hlt
 subst hs
 simp only [go_sem]
 refine ⟨ts,fun x=>!q x,⟨by rw [ha];rfl,hl,fun x hx=>?_⟩,?_⟩
 ·rw [← ha]
  exact clB hL ⟨x,q x,F,fst,caps,⟨rfl,by simp only [go_sem],fun H' h1 h2=>hq x hx H' (((lRq _).push _).trans h1) h2⟩,rfl⟩
 ·rw [hR]
  try simp only [ag,go_sem]
  exact Z1
abbrev IA:=@pIx SParam Tryz.prog bv 2
abbrev G4:=@pAn SParam Tryz.prog bv 2
abbrev kr:=@pEv SParam Tryz.prog bv 2
abbrev GS:=@pCl SParam Tryz.prog bv
theorem Ed:EntOk Tryz.prog 320 (Ent.pure IA):=gQ fun av sz ha hs m ts q F fst caps H hl hq=>by
 have hag:∀ x,∃ cs,av x=.agg cs∧cs.length=sz:=by subst ha hs;exact fun x=>⟨_,rfl,rfl⟩
 refine ACalls.fW ak (tCq (cg (F:=F)) tNq) Tryz.func320 [.tmp 4] (nrq _) (T:=aj []) (h:=fun hcl hlt=>?_)
 generalize hR:ixP q ts 0=R
 have hm:AV.lt H.nx (.slice m sz (ts.map av)):=hlt _ (by simp)
 have hf:AV.lt H.nx (.func (.func F) fst caps):=hlt _ (by simp)
 clear hlt
 simp only [go_sem,ybb]
 refine ay (A:=Nat) (fun k=>[(0,.slice m sz (ts.map av)),(1,.func (.func F) fst caps),(7,.int .i64 (ts.length:Int)),(8,.int .i64 (k:Int))]) (fun _=>H) (fun k=>k≤ts.length∧ixP q (ts.drop k) k=R) (fun k=>ts.length - k) 0 ⟨by omega,hR⟩ ?_ fun k hk=>?_
 ·exact ⟨nrq _,lRq _,hcl,by simp [ltF,znf,hm,hf],by simp [ba,wk2,wk1,wkM,Fr.get]⟩
 clear hR
 obtain ⟨hk,hR⟩:=hk
 simp only [go_sem]
 refine ah (fun hc=>?_) (fun hc=>?_)
 ·have hk':k<ts.length:=by simp at hc;omega
  obtain ⟨x,hx⟩:∃ x,x=ts[k]:=⟨_,rfl⟩
  have hd:ts.drop k=x::ts.drop (k+1):=by rw [hx];exact dcq hk'
  have hg':=aW (f:=av) (l:=ts) (k:=k) (x:=x) (by rw [gQq hk',hx])
  have e5:=Yk5 k
  rw [hd] at hR
  unfold ixP at hR
  have hqx:=hq x (by rw [hx];exact gMq hk')
  obtain ⟨cs,hcs,hcl3⟩:=hag x
  have hts:List.take sz cs=cs:=ybc (by omega)
  rw [hcs] at hqx
  clear ha hag
  subst hs
  simp only [go_sem,iNq,ybb,hg',hcs,hcl3,hts,eX]
  (repeat with_reducible refine Yq ?_)
  refine ⟨_,?_,hqx⟩
  try simp only [ag,go_sem]
  try (repeat with_reducible refine Yq ?_)
  refine ah (fun hq=>?_) (fun hq=>?_)
  ·rw [if_pos hq] at hR
   subst hR
   simp only [go_sem]
   exact Z1
  ·rw [if_neg (by rw [hq];decide)] at hR
   simp only [go_sem,e5]
   exact ⟨k+1,⟨by omega,hR⟩,by omega,nrq _,lRq _,hcl,by simp [ltF,znf,hm,hf],by simp [ba,wk2,wk1,wkM,Fr.get]⟩
 ·have hk':k=ts.length:=by simp at hc;omega
  subst hk'
  rw [List.drop_length] at hR
  unfold ixP at hR
  subst hR
  simp only [go_sem]
  exact Z1
theorem Ej:EntOk Tryz.prog 239 (Ent.pure G4):=gE fun av sz ha hs m ts q F fst caps H hl hq=>by
 refine ACalls.fW ak (tCq Ed tNq) Tryz.func239 [.tmp 4] (nrq _) (T:=aj []) (h:=fun hcl hlt=>?_)
 clear hlt
 have hR:=@dx _ q ts 0
 generalize ts.any q=R at *
 subst hs
 simp only [go_sem]
 refine ⟨ts,q,⟨by rw [ha];rfl,hl,by rw [← ha];exact hq⟩,?_⟩
 simp only [ag,go_sem,hR]
 exact Z1
theorem Eg:EntOk Tryz.prog 240 (Ent.pure GS):=gG fun av ha t c b F fst caps H hg hq=>by
 have hag:∀ x,∃ cs,av x=.agg cs∧cs.length=2:=by subst ha;exact fun x=>⟨_,rfl,rfl⟩
 refine ACalls.fW ak (tCq (cg (F:=F)) tNq) Tryz.func240 [.tmp 3] (nrq _) (T:=aj []) (h:=fun hcl hlt=>?_)
 have hcs:=aq hg
 have hl:=glq hg
 have hne:(c=H.nx)=False:=eq_false (by omega)
 obtain ⟨cs,hav,hcl3⟩:=hag t
 have hts:=ybc (Nat.le_of_eq hcl3)
 rw [hav] at hq hlt ⊢
 have hlx:=hlt _ (List.mem_cons_self)
 clear hlt
 simp only [go_sem,hcs,hne,hg,hcl3,hts,eX]
 refine ⟨_,?_,hq _ ((lRq _).push _) ?_⟩
 ·try simp only [ag,go_sem]
  exact Z1
 ·have h0:=AV.lt_mono (Nat.le_succ H.nx) _ hlx
  rw [znr] at h0
  exact ae hcl h0
theorem tZ:EntOk Tryz.prog 82 (Ent.pure kr):=gL fun av sz ha hs m ts q F fst caps H hl hq=>by
 have hL:EntOk Tryz.prog 240 (Ent.pure (pCl Tryz.prog av)):=by rw [ha];exact Eg
 refine ACalls.fW ak (tCq Ej tNq) Tryz.func82 [.tmp 4] (nrq _) (T:=aj []) (h:=fun hcl hlt=>?_)
 have hR:=@fj _ q ts
 generalize ts.all q=R at *
 have hfx:=hlt _ (List.mem_cons_of_mem _ List.mem_cons_self)
 clear hlt
 subst hs
 simp only [go_sem]
 refine ⟨ts,fun x=>!q x,⟨by rw [ha];rfl,hl,fun x hx=>?_⟩,?_⟩
 ·rw [← ha]
  exact clB hL ⟨x,q x,F,fst,caps,⟨rfl,by simp only [go_sem],fun H' h1 h2=>hq x hx H' (((lRq _).push _).trans h1) h2⟩,rfl⟩
 ·rw [hR]
  try simp only [ag,go_sem]
  exact Z1
abbrev HQ:=@pIx STable Tryz.prog az 8
abbrev GD:=@pAn STable Tryz.prog az 8
abbrev bg:=@pEv STable Tryz.prog az 8
abbrev It:=@pCl STable Tryz.prog az
theorem Ds:EntOk Tryz.prog 56 (Ent.pure HQ):=gQ fun av sz ha hs m ts q F fst caps H hl hq=>by
 have hag:∀ x,∃ cs,av x=.agg cs∧cs.length=sz:=by subst ha hs;exact fun x=>⟨_,rfl,rfl⟩
 refine ACalls.fW ak (tCq (cg (F:=F)) tNq) Tryz.func56 [.tmp 4] (nrq _) (T:=aj []) (h:=fun hcl hlt=>?_)
 generalize hR:ixP q ts 0=R
 have hm:AV.lt H.nx (.slice m sz (ts.map av)):=hlt _ (by simp)
 have hf:AV.lt H.nx (.func (.func F) fst caps):=hlt _ (by simp)
 clear hlt
 simp only [go_sem,ybb]
 refine ay (A:=Nat) (fun k=>[(0,.slice m sz (ts.map av)),(1,.func (.func F) fst caps),(7,.int .i64 (ts.length:Int)),(8,.int .i64 (k:Int))]) (fun _=>H) (fun k=>k≤ts.length∧ixP q (ts.drop k) k=R) (fun k=>ts.length - k) 0 ⟨by omega,hR⟩ ?_ fun k hk=>?_
 ·exact ⟨nrq _,lRq _,hcl,by simp [ltF,znf,hm,hf],by simp [ba,wk2,wk1,wkM,Fr.get]⟩
 clear hR
 obtain ⟨hk,hR⟩:=hk
 simp only [go_sem]
 refine ah (fun hc=>?_) (fun hc=>?_)
 ·have hk':k<ts.length:=by simp at hc;omega
  obtain ⟨x,hx⟩:∃ x,x=ts[k]:=⟨_,rfl⟩
  have hd:ts.drop k=x::ts.drop (k+1):=by rw [hx];exact dcq hk'
  have hg':=aW (f:=av) (l:=ts) (k:=k) (x:=x) (by rw [gQq hk',hx])
  have e5:=Yk5 k
  rw [hd] at hR
  unfold ixP at hR
  have hqx:=hq x (by rw [hx];exact gMq hk')
  obtain ⟨cs,hcs,hcl3⟩:=hag x
  have hts:List.take sz cs=cs:=ybc (by omega)
  rw [hcs] at hqx
  clear ha hag
  subst hs
  simp only [go_sem,iNq,ybb,hg',hcs,hcl3,hts,eX]
  (repeat with_reducible refine Yq ?_)
  refine ⟨_,?_,hqx⟩
  try simp only [ag,go_sem]
  try (repeat with_reducible refine Yq ?_)
  refine ah (fun hq=>?_) (fun hq=>?_)
  ·rw [if_pos hq] at hR
   subst hR
   simp only [go_sem]
   exact Z1
  ·rw [if_neg (by rw [hq];decide)] at hR
   simp only [go_sem,e5]
   exact ⟨k+1,⟨by omega,hR⟩,by omega,nrq _,lRq _,hcl,by simp [ltF,znf,hm,hf],by simp [ba,wk2,wk1,wkM,Fr.get]⟩
 ·have hk':k=ts.length:=by simp at hc;omega
  subst hk'
  rw [List.drop_length] at hR
  unfold ixP at hR
  subst hR
  simp only [go_sem]
  exact Z1
theorem Eq:EntOk Tryz.prog 241 (Ent.pure GD):=gE fun av sz ha hs m ts q F fst caps H hl hq=>by
 refine ACalls.fW ak (tCq Ds tNq) Tryz.func241 [.tmp 4] (nrq _) (T:=aj []) (h:=fun hcl hlt=>?_)
 clear hlt
 have hR:=@dx _ q ts 0
 generalize ts.any q=R at *
 subst hs
 simp only [go_sem]
 refine ⟨ts,q,⟨by rw [ha];rfl,hl,by rw [← ha];exact hq⟩,?_⟩
 simp only [ag,go_sem,hR]
 exact Z1
theorem EK:EntOk Tryz.prog 242 (Ent.pure It):=gG fun av ha t c b F fst caps H hg hq=>by
 have hag:∀ x,∃ cs,av x=.agg cs∧cs.length=8:=by subst ha;exact fun x=>⟨_,rfl,rfl⟩
 refine ACalls.fW ak (tCq (cg (F:=F)) tNq) Tryz.func242 [.tmp 3] (nrq _) (T:=aj []) (h:=fun hcl hlt=>?_)
 have hcs:=aq hg
 have hl:=glq hg
 have hne:(c=H.nx)=False:=eq_false (by omega)
 obtain ⟨cs,hav,hcl3⟩:=hag t
 have hts:=ybc (Nat.le_of_eq hcl3)
 rw [hav] at hq hlt ⊢
 have hlx:=hlt _ (List.mem_cons_self)
 clear hlt
 simp only [go_sem,hcs,hne,hg,hcl3,hts,eX]
 refine ⟨_,?_,hq _ ((lRq _).push _) ?_⟩
 ·try simp only [ag,go_sem]
  exact Z1
 ·have h0:=AV.lt_mono (Nat.le_succ H.nx) _ hlx
  rw [znr] at h0
  exact ae hcl h0
theorem jH:EntOk Tryz.prog 85 (Ent.pure bg):=gL fun av sz ha hs m ts q F fst caps H hl hq=>by
 have hL:EntOk Tryz.prog 242 (Ent.pure (pCl Tryz.prog av)):=by rw [ha];exact EK
 refine ACalls.fW ak (tCq Eq tNq) Tryz.func85 [.tmp 4] (nrq _) (T:=aj []) (h:=fun hcl hlt=>?_)
 have hR:=@fj _ q ts
 generalize ts.all q=R at *
 have hfx:=hlt _ (List.mem_cons_of_mem _ List.mem_cons_self)
 clear hlt
 subst hs
 simp only [go_sem]
 refine ⟨ts,fun x=>!q x,⟨by rw [ha];rfl,hl,fun x hx=>?_⟩,?_⟩
 ·rw [← ha]
  exact clB hL ⟨x,q x,F,fst,caps,⟨rfl,by simp only [go_sem],fun H' h1 h2=>hq x hx H' (((lRq _).push _).trans h1) h2⟩,rfl⟩
 ·rw [hR]
  try simp only [ag,go_sem]
  exact Z1
abbrev Is:=@pIx SKey Tryz.prog bN 3
abbrev G8:=@pAn SKey Tryz.prog bN 3
abbrev gx:=@pEv SKey Tryz.prog bN 3
abbrev Iv:=@pCl SKey Tryz.prog bN
theorem CZ:EntOk Tryz.prog 321 (Ent.pure Is):=gQ fun av sz ha hs m ts q F fst caps H hl hq=>by
 have hag:∀ x,∃ cs,av x=.agg cs∧cs.length=sz:=by subst ha hs;exact fun x=>⟨_,rfl,rfl⟩
 refine ACalls.fW ak (tCq (cg (F:=F)) tNq) Tryz.func321 [.tmp 4] (nrq _) (T:=aj []) (h:=fun hcl hlt=>?_)
 generalize hR:ixP q ts 0=R
 have hm:AV.lt H.nx (.slice m sz (ts.map av)):=hlt _ (by simp)
 have hf:AV.lt H.nx (.func (.func F) fst caps):=hlt _ (by simp)
 clear hlt
 simp only [go_sem,ybb]
 refine ay (A:=Nat) (fun k=>[(0,.slice m sz (ts.map av)),(1,.func (.func F) fst caps),(7,.int .i64 (ts.length:Int)),(8,.int .i64 (k:Int))]) (fun _=>H) (fun k=>k≤ts.length∧ixP q (ts.drop k) k=R) (fun k=>ts.length - k) 0 ⟨by omega,hR⟩ ?_ fun k hk=>?_
 ·exact ⟨nrq _,lRq _,hcl,by simp [ltF,znf,hm,hf],by simp [ba,wk2,wk1,wkM,Fr.get]⟩
 clear hR
 obtain ⟨hk,hR⟩:=hk
 simp only [go_sem]
 refine ah (fun hc=>?_) (fun hc=>?_)
 ·have hk':k<ts.length:=by simp at hc;omega
  obtain ⟨x,hx⟩:∃ x,x=ts[k]:=⟨_,rfl⟩
  have hd:ts.drop k=x::ts.drop (k+1):=by rw [hx];exact dcq hk'
  have hg':=aW (f:=av) (l:=ts) (k:=k) (x:=x) (by rw [gQq hk',hx])
  have e5:=Yk5 k
  rw [hd] at hR
  unfold ixP at hR
  have hqx:=hq x (by rw [hx];exact gMq hk')
  obtain ⟨cs,hcs,hcl3⟩:=hag x
  have hts:List.take sz cs=cs:=ybc (by omega)
  rw [hcs] at hqx
  clear ha hag
  subst hs
  simp only [go_sem,iNq,ybb,hg',hcs,hcl3,hts,eX]
  (repeat with_reducible refine Yq ?_)
  refine ⟨_,?_,hqx⟩
  try simp only [ag,go_sem]
  try (repeat with_reducible refine Yq ?_)
  refine ah (fun hq=>?_) (fun hq=>?_)
  ·rw [if_pos hq] at hR
   subst hR
   simp only [go_sem]
   exact Z1
  ·rw [if_neg (by rw [hq];decide)] at hR
   simp only [go_sem,e5]
   exact ⟨k+1,⟨by omega,hR⟩,by omega,nrq _,lRq _,hcl,by simp [ltF,znf,hm,hf],by simp [ba,wk2,wk1,wkM,Fr.get]⟩
 ·have hk':k=ts.length:=by simp at hc;omega
  subst hk'
  rw [List.drop_length] at hR
  unfold ixP at hR
  subst hR
  simp only [go_sem]
  exact Z1
theorem BH:EntOk Tryz.prog 243 (Ent.pure G8):=gE fun av sz ha hs m ts q F fst caps H hl hq=>by
 refine ACalls.fW ak (tCq CZ tNq) Tryz.func243 [.tmp 4] (nrq _) (T:=aj []) (h:=fun hcl hlt=>?_)
 clear hlt
 have hR:=@dx _ q ts 0
 generalize ts.any q=R at *
 subst hs
 simp only [go_sem]
 refine ⟨ts,q,⟨by rw [ha];rfl,hl,by rw [← ha];exact hq⟩,?_⟩
 simp only [ag,go_sem,hR]
 exact Z1
theorem Em:EntOk Tryz.prog 244 (Ent.pure Iv):=gG fun av ha t c b F fst caps H hg hq=>by
 have hag:∀ x,∃ cs,av x=.agg cs∧cs.length=3:=by subst ha;exact fun x=>⟨_,rfl,rfl⟩
 refine ACalls.fW ak (tCq (cg (F:=F)) tNq) Tryz.func244 [.tmp 3] (nrq _) (T:=aj []) (h:=fun hcl hlt=>?_)
 have hcs:=aq hg
 have hl:=glq hg
 have hne:(c=H.nx)=False:=eq_false (by omega)
 obtain ⟨cs,hav,hcl3⟩:=hag t
 have hts:=ybc (Nat.le_of_eq hcl3)
 rw [hav] at hq hlt ⊢
 have hlx:=hlt _ (List.mem_cons_self)
 clear hlt
 simp only [go_sem,hcs,hne,hg,hcl3,hts,eX]
 refine ⟨_,?_,hq _ ((lRq _).push _) ?_⟩
 ·try simp only [ag,go_sem]
  exact Z1
 ·have h0:=AV.lt_mono (Nat.le_succ H.nx) _ hlx
  rw [znr] at h0
  exact ae hcl h0
theorem uQ:EntOk Tryz.prog 87 (Ent.pure gx):=gL fun av sz ha hs m ts q F fst caps H hl hq=>by
 have hL:EntOk Tryz.prog 244 (Ent.pure (pCl Tryz.prog av)):=by rw [ha];exact Em
 refine ACalls.fW ak (tCq BH tNq) Tryz.func87 [.tmp 4] (nrq _) (T:=aj []) (h:=fun hcl hlt=>?_)
 have hR:=@fj _ q ts
 generalize ts.all q=R at *
 have hfx:=hlt _ (List.mem_cons_of_mem _ List.mem_cons_self)
 clear hlt
 subst hs
 simp only [go_sem]
 refine ⟨ts,fun x=>!q x,⟨by rw [ha];rfl,hl,fun x hx=>?_⟩,?_⟩
 ·rw [← ha]
  exact clB hL ⟨x,q x,F,fst,caps,⟨rfl,by simp only [go_sem],fun H' h1 h2=>hq x hx H' (((lRq _).push _).trans h1) h2⟩,rfl⟩
 ·rw [hR]
  try simp only [ag,go_sem]
  exact Z1
abbrev Jn:=@pIx SRole Tryz.prog br 6
abbrev Hs:=@pAn SRole Tryz.prog br 6
abbrev bw:=@pEv SRole Tryz.prog br 6
abbrev HR:=@pCl SRole Tryz.prog br
theorem A9:EntOk Tryz.prog 322 (Ent.pure Jn):=gQ fun av sz ha hs m ts q F fst caps H hl hq=>by
 have hag:∀ x,∃ cs,av x=.agg cs∧cs.length=sz:=by subst ha hs;exact fun x=>⟨_,rfl,rfl⟩
 refine ACalls.fW ak (tCq (cg (F:=F)) tNq) Tryz.func322 [.tmp 4] (nrq _) (T:=aj []) (h:=fun hcl hlt=>?_)
 generalize hR:ixP q ts 0=R
 have hm:AV.lt H.nx (.slice m sz (ts.map av)):=hlt _ (by simp)
 have hf:AV.lt H.nx (.func (.func F) fst caps):=hlt _ (by simp)
 clear hlt
 simp only [go_sem,ybb]
 refine ay (A:=Nat) (fun k=>[(0,.slice m sz (ts.map av)),(1,.func (.func F) fst caps),(7,.int .i64 (ts.length:Int)),(8,.int .i64 (k:Int))]) (fun _=>H) (fun k=>k≤ts.length∧ixP q (ts.drop k) k=R) (fun k=>ts.length - k) 0 ⟨by omega,hR⟩ ?_ fun k hk=>?_
 ·exact ⟨nrq _,lRq _,hcl,by simp [ltF,znf,hm,hf],by simp [ba,wk2,wk1,wkM,Fr.get]⟩
 clear hR
 obtain ⟨hk,hR⟩:=hk
 simp only [go_sem]
 refine ah (fun hc=>?_) (fun hc=>?_)
 ·have hk':k<ts.length:=by simp at hc;omega
  obtain ⟨x,hx⟩:∃ x,x=ts[k]:=⟨_,rfl⟩
  have hd:ts.drop k=x::ts.drop (k+1):=by rw [hx];exact dcq hk'
  have hg':=aW (f:=av) (l:=ts) (k:=k) (x:=x) (by rw [gQq hk',hx])
  have e5:=Yk5 k
  rw [hd] at hR
  unfold ixP at hR
  have hqx:=hq x (by rw [hx];exact gMq hk')
  obtain ⟨cs,hcs,hcl3⟩:=hag x
  have hts:List.take sz cs=cs:=ybc (by omega)
  rw [hcs] at hqx
  clear ha hag
  subst hs
  simp only [go_sem,iNq,ybb,hg',hcs,hcl3,hts,eX]
  (repeat with_reducible refine Yq ?_)
  refine ⟨_,?_,hqx⟩
  try simp only [ag,go_sem]
  try (repeat with_reducible refine Yq ?_)
  refine ah (fun hq=>?_) (fun hq=>?_)
  ·rw [if_pos hq] at hR
   subst hR
   simp only [go_sem]
   exact Z1
  ·rw [if_neg (by rw [hq];decide)] at hR
   simp only [go_sem,e5]
   exact ⟨k+1,⟨by omega,hR⟩,by omega,nrq _,lRq _,hcl,by simp [ltF,znf,hm,hf],by simp [ba,wk2,wk1,wkM,Fr.get]⟩
 ·have hk':k=ts.length:=by simp at hc;omega
  subst hk'
  rw [List.drop_length] at hR
  unfold ixP at hR
  subst hR
  simp only [go_sem]
  exact Z1
theorem AF:EntOk Tryz.prog 245 (Ent.pure Hs):=gE fun av sz ha hs m ts q F fst caps H hl hq=>by
 refine ACalls.fW ak (tCq A9 tNq) Tryz.func245 [.tmp 4] (nrq _) (T:=aj []) (h:=fun hcl hlt=>?_)
 clear hlt
 have hR:=@dx _ q ts 0
 generalize ts.any q=R at *
 subst hs
 simp only [go_sem]
 refine ⟨ts,q,⟨by rw [ha];rfl,hl,by rw [← ha];exact hq⟩,?_⟩
 simp only [ag,go_sem,hR]
 exact Z1
theorem En:EntOk Tryz.prog 246 (Ent.pure HR):=gG fun av ha t c b F fst caps H hg hq=>by
 have hag:∀ x,∃ cs,av x=.agg cs∧cs.length=6:=by subst ha;exact fun x=>⟨_,rfl,rfl⟩
 refine ACalls.fW ak (tCq (cg (F:=F)) tNq) Tryz.func246 [.tmp 3] (nrq _) (T:=aj []) (h:=fun hcl hlt=>?_)
 have hcs:=aq hg
 have hl:=glq hg
 have hne:(c=H.nx)=False:=eq_false (by omega)
 obtain ⟨cs,hav,hcl3⟩:=hag t
 have hts:=ybc (Nat.le_of_eq hcl3)
 rw [hav] at hq hlt ⊢
 have hlx:=hlt _ (List.mem_cons_self)
 clear hlt
 simp only [go_sem,hcs,hne,hg,hcl3,hts,eX]
 refine ⟨_,?_,hq _ ((lRq _).push _) ?_⟩
 ·try simp only [ag,go_sem]
  exact Z1
 ·have h0:=AV.lt_mono (Nat.le_succ H.nx) _ hlx
  rw [znr] at h0
  exact ae hcl h0
theorem kO:EntOk Tryz.prog 89 (Ent.pure bw):=gL fun av sz ha hs m ts q F fst caps H hl hq=>by
 have hL:EntOk Tryz.prog 246 (Ent.pure (pCl Tryz.prog av)):=by rw [ha];exact En
 refine ACalls.fW ak (tCq AF tNq) Tryz.func89 [.tmp 4] (nrq _) (T:=aj []) (h:=fun hcl hlt=>?_)
 have hR:=@fj _ q ts
 generalize ts.all q=R at *
 have hfx:=hlt _ (List.mem_cons_of_mem _ List.mem_cons_self)
 clear hlt
 subst hs
 simp only [go_sem]
 refine ⟨ts,fun x=>!q x,⟨by rw [ha];rfl,hl,fun x hx=>?_⟩,?_⟩
 ·rw [← ha]
  exact clB hL ⟨x,q x,F,fst,caps,⟨rfl,by simp only [go_sem],fun H' h1 h2=>hq x hx H' (((lRq _).push _).trans h1) h2⟩,rfl⟩
 ·rw [hR]
  try simp only [ag,go_sem]
  exact Z1
abbrev HI:=@pIx SPrim Tryz.prog cl 6
abbrev Hq:=@pAn SPrim Tryz.prog cl 6
abbrev bS:=@pEv SPrim Tryz.prog cl 6
abbrev Hf:=@pCl SPrim Tryz.prog cl
theorem Cz:EntOk Tryz.prog 324 (Ent.pure HI):=gQ fun av sz ha hs m ts q F fst caps H hl hq=>by
 have hag:∀ x,∃ cs,av x=.agg cs∧cs.length=sz:=by subst ha hs;exact fun x=>⟨_,rfl,rfl⟩
 refine ACalls.fW ak (tCq (cg (F:=F)) tNq) Tryz.func324 [.tmp 4] (nrq _) (T:=aj []) (h:=fun hcl hlt=>?_)
 generalize hR:ixP q ts 0=R
 have hm:AV.lt H.nx (.slice m sz (ts.map av)):=hlt _ (by simp)
 have hf:AV.lt H.nx (.func (.func F) fst caps):=hlt _ (by simp)
 clear hlt
 simp only [go_sem,ybb]
 refine ay (A:=Nat) (fun k=>[(0,.slice m sz (ts.map av)),(1,.func (.func F) fst caps),(7,.int .i64 (ts.length:Int)),(8,.int .i64 (k:Int))]) (fun _=>H) (fun k=>k≤ts.length∧ixP q (ts.drop k) k=R) (fun k=>ts.length - k) 0 ⟨by omega,hR⟩ ?_ fun k hk=>?_
 ·exact ⟨nrq _,lRq _,hcl,by simp [ltF,znf,hm,hf],by simp [ba,wk2,wk1,wkM,Fr.get]⟩
 clear hR
 obtain ⟨hk,hR⟩:=hk
 simp only [go_sem]
 refine ah (fun hc=>?_) (fun hc=>?_)
 ·have hk':k<ts.length:=by simp at hc;omega
  obtain ⟨x,hx⟩:∃ x,x=ts[k]:=⟨_,rfl⟩
  have hd:ts.drop k=x::ts.drop (k+1):=by rw [hx];exact dcq hk'
  have hg':=aW (f:=av) (l:=ts) (k:=k) (x:=x) (by rw [gQq hk',hx])
  have e5:=Yk5 k
  rw [hd] at hR
  unfold ixP at hR
  have hqx:=hq x (by rw [hx];exact gMq hk')
  obtain ⟨cs,hcs,hcl3⟩:=hag x
  have hts:List.take sz cs=cs:=ybc (by omega)
  rw [hcs] at hqx
  clear ha hag
  subst hs
  simp only [go_sem,iNq,ybb,hg',hcs,hcl3,hts,eX]
  (repeat with_reducible refine Yq ?_)
  refine ⟨_,?_,hqx⟩
  try simp only [ag,go_sem]
  try (repeat with_reducible refine Yq ?_)
  refine ah (fun hq=>?_) (fun hq=>?_)
  ·rw [if_pos hq] at hR
   subst hR
   simp only [go_sem]
   exact Z1
  ·rw [if_neg (by rw [hq];decide)] at hR
   simp only [go_sem,e5]
   exact ⟨k+1,⟨by omega,hR⟩,by omega,nrq _,lRq _,hcl,by simp [ltF,znf,hm,hf],by simp [ba,wk2,wk1,wkM,Fr.get]⟩
 ·have hk':k=ts.length:=by simp at hc;omega
  subst hk'
  rw [List.drop_length] at hR
  unfold ixP at hR
  subst hR
  simp only [go_sem]
  exact Z1
theorem FC:EntOk Tryz.prog 259 (Ent.pure Hq):=gE fun av sz ha hs m ts q F fst caps H hl hq=>by
 refine ACalls.fW ak (tCq Cz tNq) Tryz.func259 [.tmp 4] (nrq _) (T:=aj []) (h:=fun hcl hlt=>?_)
 clear hlt
 have hR:=@dx _ q ts 0
 generalize ts.any q=R at *
 subst hs
 simp only [go_sem]
 refine ⟨ts,q,⟨by rw [ha];rfl,hl,by rw [← ha];exact hq⟩,?_⟩
 simp only [ag,go_sem,hR]
 exact Z1
theorem C8:EntOk Tryz.prog 260 (Ent.pure Hf):=gG fun av ha t c b F fst caps H hg hq=>by
 have hag:∀ x,∃ cs,av x=.agg cs∧cs.length=6:=by subst ha;exact fun x=>⟨_,rfl,rfl⟩
 refine ACalls.fW ak (tCq (cg (F:=F)) tNq) Tryz.func260 [.tmp 3] (nrq _) (T:=aj []) (h:=fun hcl hlt=>?_)
 have hcs:=aq hg
 have hl:=glq hg
 have hne:(c=H.nx)=False:=eq_false (by omega)
 obtain ⟨cs,hav,hcl3⟩:=hag t
 have hts:=ybc (Nat.le_of_eq hcl3)
 rw [hav] at hq hlt ⊢
 have hlx:=hlt _ (List.mem_cons_self)
 clear hlt
 simp only [go_sem,hcs,hne,hg,hcl3,hts,eX]
 refine ⟨_,?_,hq _ ((lRq _).push _) ?_⟩
 ·try simp only [ag,go_sem]
  exact Z1
 ·have h0:=AV.lt_mono (Nat.le_succ H.nx) _ hlx
  rw [znr] at h0
  exact ae hcl h0
theorem qz:EntOk Tryz.prog 122 (Ent.pure bS):=gL fun av sz ha hs m ts q F fst caps H hl hq=>by
 have hL:EntOk Tryz.prog 260 (Ent.pure (pCl Tryz.prog av)):=by rw [ha];exact C8
 refine ACalls.fW ak (tCq FC tNq) Tryz.func122 [.tmp 4] (nrq _) (T:=aj []) (h:=fun hcl hlt=>?_)
 have hR:=@fj _ q ts
 generalize ts.all q=R at *
 have hfx:=hlt _ (List.mem_cons_of_mem _ List.mem_cons_self)
 clear hlt
 subst hs
 simp only [go_sem]
 refine ⟨ts,fun x=>!q x,⟨by rw [ha];rfl,hl,fun x hx=>?_⟩,?_⟩
 ·rw [← ha]
  exact clB hL ⟨x,q x,F,fst,caps,⟨rfl,by simp only [go_sem],fun H' h1 h2=>hq x hx H' (((lRq _).push _).trans h1) h2⟩,rfl⟩
 ·rw [hR]
  try simp only [ag,go_sem]
  exact Z1
abbrev Jx:=@pIx SStage Tryz.prog cu 2
abbrev Ha:=@pAn SStage Tryz.prog cu 2
abbrev dw:=@pEv SStage Tryz.prog cu 2
abbrev Ge:=@pCl SStage Tryz.prog cu
theorem Da:EntOk Tryz.prog 328 (Ent.pure Jx):=gQ fun av sz ha hs m ts q F fst caps H hl hq=>by
 have hag:∀ x,∃ cs,av x=.agg cs∧cs.length=sz:=by subst ha hs;exact fun x=>⟨_,rfl,rfl⟩
 refine ACalls.fW ak (tCq (cg (F:=F)) tNq) Tryz.func328 [.tmp 4] (nrq _) (T:=aj []) (h:=fun hcl hlt=>?_)
 generalize hR:ixP q ts 0=R
 have hm:AV.lt H.nx (.slice m sz (ts.map av)):=hlt _ (by simp)
 have hf:AV.lt H.nx (.func (.func F) fst caps):=hlt _ (by simp)
 clear hlt
 simp only [go_sem,ybb]
 refine ay (A:=Nat) (fun k=>[(0,.slice m sz (ts.map av)),(1,.func (.func F) fst caps),(7,.int .i64 (ts.length:Int)),(8,.int .i64 (k:Int))]) (fun _=>H) (fun k=>k≤ts.length∧ixP q (ts.drop k) k=R) (fun k=>ts.length - k) 0 ⟨by omega,hR⟩ ?_ fun k hk=>?_
 ·exact ⟨nrq _,lRq _,hcl,by simp [ltF,znf,hm,hf],by simp [ba,wk2,wk1,wkM,Fr.get]⟩
 clear hR
 obtain ⟨hk,hR⟩:=hk
 simp only [go_sem]
 refine ah (fun hc=>?_) (fun hc=>?_)
 ·have hk':k<ts.length:=by simp at hc;omega
  obtain ⟨x,hx⟩:∃ x,x=ts[k]:=⟨_,rfl⟩
  have hd:ts.drop k=x::ts.drop (k+1):=by rw [hx];exact dcq hk'
  have hg':=aW (f:=av) (l:=ts) (k:=k) (x:=x) (by rw [gQq hk',hx])
  have e5:=Yk5 k
  rw [hd] at hR
  unfold ixP at hR
  have hqx:=hq x (by rw [hx];exact gMq hk')
  obtain ⟨cs,hcs,hcl3⟩:=hag x
  have hts:List.take sz cs=cs:=ybc (by omega)
  rw [hcs] at hqx
  clear ha hag
  subst hs
  simp only [go_sem,iNq,ybb,hg',hcs,hcl3,hts,eX]
  (repeat with_reducible refine Yq ?_)
  refine ⟨_,?_,hqx⟩
  try simp only [ag,go_sem]
  try (repeat with_reducible refine Yq ?_)
  refine ah (fun hq=>?_) (fun hq=>?_)
  ·rw [if_pos hq] at hR
   subst hR
   simp only [go_sem]
   exact Z1
  ·rw [if_neg (by rw [hq];decide)] at hR
   simp only [go_sem,e5]
   exact ⟨k+1,⟨by omega,hR⟩,by omega,nrq _,lRq _,hcl,by simp [ltF,znf,hm,hf],by simp [ba,wk2,wk1,wkM,Fr.get]⟩
 ·have hk':k=ts.length:=by simp at hc;omega
  subst hk'
  rw [List.drop_length] at hR
  unfold ixP at hR
  subst hR
  simp only [go_sem]
  exact Z1
theorem AC:EntOk Tryz.prog 268 (Ent.pure Ha):=gE fun av sz ha hs m ts q F fst caps H hl hq=>by
 refine ACalls.fW ak (tCq Da tNq) Tryz.func268 [.tmp 4] (nrq _) (T:=aj []) (h:=fun hcl hlt=>?_)
 clear hlt
 have hR:=@dx _ q ts 0
 generalize ts.any q=R at *
 subst hs
 simp only [go_sem]
 refine ⟨ts,q,⟨by rw [ha];rfl,hl,by rw [← ha];exact hq⟩,?_⟩
 simp only [ag,go_sem,hR]
 exact Z1
theorem DY:EntOk Tryz.prog 269 (Ent.pure Ge):=gG fun av ha t c b F fst caps H hg hq=>by
 have hag:∀ x,∃ cs,av x=.agg cs∧cs.length=2:=by subst ha;exact fun x=>⟨_,rfl,rfl⟩
 refine ACalls.fW ak (tCq (cg (F:=F)) tNq) Tryz.func269 [.tmp 3] (nrq _) (T:=aj []) (h:=fun hcl hlt=>?_)
 have hcs:=aq hg
 have hl:=glq hg
 have hne:(c=H.nx)=False:=eq_false (by omega)
 obtain ⟨cs,hav,hcl3⟩:=hag t
 have hts:=ybc (Nat.le_of_eq hcl3)
 rw [hav] at hq hlt ⊢
 have hlx:=hlt _ (List.mem_cons_self)
 clear hlt
 simp only [go_sem,hcs,hne,hg,hcl3,hts,eX]
 refine ⟨_,?_,hq _ ((lRq _).push _) ?_⟩
 ·try simp only [ag,go_sem]
  exact Z1
 ·have h0:=AV.lt_mono (Nat.le_succ H.nx) _ hlx
  rw [znr] at h0
  exact ae hcl h0
theorem Bz:EntOk Tryz.prog 135 (Ent.pure dw):=gL fun av sz ha hs m ts q F fst caps H hl hq=>by
 have hL:EntOk Tryz.prog 269 (Ent.pure (pCl Tryz.prog av)):=by rw [ha];exact DY
 refine ACalls.fW ak (tCq AC tNq) Tryz.func135 [.tmp 4] (nrq _) (T:=aj []) (h:=fun hcl hlt=>?_)
 have hR:=@fj _ q ts
 generalize ts.all q=R at *
 have hfx:=hlt _ (List.mem_cons_of_mem _ List.mem_cons_self)
 clear hlt
 subst hs
 simp only [go_sem]
 refine ⟨ts,fun x=>!q x,⟨by rw [ha];rfl,hl,fun x hx=>?_⟩,?_⟩
 ·rw [← ha]
  exact clB hL ⟨x,q x,F,fst,caps,⟨rfl,by simp only [go_sem],fun H' h1 h2=>hq x hx H' (((lRq _).push _).trans h1) h2⟩,rfl⟩
 ·rw [hR]
  try simp only [ag,go_sem]
  exact Z1
abbrev JF:=@pIx SGrant Tryz.prog bk 4
abbrev H7:=@pAn SGrant Tryz.prog bk 4
abbrev b6:=@pEv SGrant Tryz.prog bk 4
abbrev JD:=@pCl SGrant Tryz.prog bk
theorem B4:EntOk Tryz.prog 330 (Ent.pure JF):=gQ fun av sz ha hs m ts q F fst caps H hl hq=>by
 have hag:∀ x,∃ cs,av x=.agg cs∧cs.length=sz:=by subst ha hs;exact fun x=>⟨_,rfl,rfl⟩
 refine ACalls.fW ak (tCq (cg (F:=F)) tNq) Tryz.func330 [.tmp 4] (nrq _) (T:=aj []) (h:=fun hcl hlt=>?_)
 generalize hR:ixP q ts 0=R
 have hm:AV.lt H.nx (.slice m sz (ts.map av)):=hlt _ (by simp)
 have hf:AV.lt H.nx (.func (.func F) fst caps):=hlt _ (by simp)
 clear hlt
 simp only [go_sem,ybb]
 refine ay (A:=Nat) (fun k=>[(0,.slice m sz (ts.map av)),(1,.func (.func F) fst caps),(7,.int .i64 (ts.length:Int)),(8,.int .i64 (k:Int))]) (fun _=>H) (fun k=>k≤ts.length∧ixP q (ts.drop k) k=R) (fun k=>ts.length - k) 0 ⟨by omega,hR⟩ ?_ fun k hk=>?_
 ·exact ⟨nrq _,lRq _,hcl,by simp [ltF,znf,hm,hf],by simp [ba,wk2,wk1,wkM,Fr.get]⟩
 clear hR
 obtain ⟨hk,hR⟩:=hk
 simp only [go_sem]
 refine ah (fun hc=>?_) (fun hc=>?_)
 ·have hk':k<ts.length:=by simp at hc;omega
  obtain ⟨x,hx⟩:∃ x,x=ts[k]:=⟨_,rfl⟩
  have hd:ts.drop k=x::ts.drop (k+1):=by rw [hx];exact dcq hk'
  have hg':=aW (f:=av) (l:=ts) (k:=k) (x:=x) (by rw [gQq hk',hx])
  have e5:=Yk5 k
  rw [hd] at hR
  unfold ixP at hR
  have hqx:=hq x (by rw [hx];exact gMq hk')
  obtain ⟨cs,hcs,hcl3⟩:=hag x
  have hts:List.take sz cs=cs:=ybc (by omega)
  rw [hcs] at hqx
  clear ha hag
  subst hs
  simp only [go_sem,iNq,ybb,hg',hcs,hcl3,hts,eX]
  (repeat with_reducible refine Yq ?_)
  refine ⟨_,?_,hqx⟩
  try simp only [ag,go_sem]
  try (repeat with_reducible refine Yq ?_)
  refine ah (fun hq=>?_) (fun hq=>?_)
  ·rw [if_pos hq] at hR
   subst hR
   simp only [go_sem]
   exact Z1
  ·rw [if_neg (by rw [hq];decide)] at hR
   simp only [go_sem,e5]
   exact ⟨k+1,⟨by omega,hR⟩,by omega,nrq _,lRq _,hcl,by simp [ltF,znf,hm,hf],by simp [ba,wk2,wk1,wkM,Fr.get]⟩
 ·have hk':k=ts.length:=by simp at hc;omega
  subst hk'
  rw [List.drop_length] at hR
  unfold ixP at hR
  subst hR
  simp only [go_sem]
  exact Z1
theorem CR:EntOk Tryz.prog 271 (Ent.pure H7):=gE fun av sz ha hs m ts q F fst caps H hl hq=>by
 refine ACalls.fW ak (tCq B4 tNq) Tryz.func271 [.tmp 4] (nrq _) (T:=aj []) (h:=fun hcl hlt=>?_)
 clear hlt
 have hR:=@dx _ q ts 0
 generalize ts.any q=R at *
 subst hs
 simp only [go_sem]
 refine ⟨ts,q,⟨by rw [ha];rfl,hl,by rw [← ha];exact hq⟩,?_⟩
 simp only [ag,go_sem,hR]
 exact Z1
theorem CC:EntOk Tryz.prog 272 (Ent.pure JD):=gG fun av ha t c b F fst caps H hg hq=>by
 have hag:∀ x,∃ cs,av x=.agg cs∧cs.length=4:=by subst ha;exact fun x=>⟨_,rfl,rfl⟩
 refine ACalls.fW ak (tCq (cg (F:=F)) tNq) Tryz.func272 [.tmp 3] (nrq _) (T:=aj []) (h:=fun hcl hlt=>?_)
 have hcs:=aq hg
 have hl:=glq hg
 have hne:(c=H.nx)=False:=eq_false (by omega)
 obtain ⟨cs,hav,hcl3⟩:=hag t
 have hts:=ybc (Nat.le_of_eq hcl3)
 rw [hav] at hq hlt ⊢
 have hlx:=hlt _ (List.mem_cons_self)
 clear hlt
 simp only [go_sem,hcs,hne,hg,hcl3,hts,eX]
 refine ⟨_,?_,hq _ ((lRq _).push _) ?_⟩
 ·try simp only [ag,go_sem]
  exact Z1
 ·have h0:=AV.lt_mono (Nat.le_succ H.nx) _ hlx
  rw [znr] at h0
  exact ae hcl h0
theorem vr:EntOk Tryz.prog 140 (Ent.pure b6):=gL fun av sz ha hs m ts q F fst caps H hl hq=>by
 have hL:EntOk Tryz.prog 272 (Ent.pure (pCl Tryz.prog av)):=by rw [ha];exact CC
 refine ACalls.fW ak (tCq CR tNq) Tryz.func140 [.tmp 4] (nrq _) (T:=aj []) (h:=fun hcl hlt=>?_)
 have hR:=@fj _ q ts
 generalize ts.all q=R at *
 have hfx:=hlt _ (List.mem_cons_of_mem _ List.mem_cons_self)
 clear hlt
 subst hs
 simp only [go_sem]
 refine ⟨ts,fun x=>!q x,⟨by rw [ha];rfl,hl,fun x hx=>?_⟩,?_⟩
 ·rw [← ha]
  exact clB hL ⟨x,q x,F,fst,caps,⟨rfl,by simp only [go_sem],fun H' h1 h2=>hq x hx H' (((lRq _).push _).trans h1) h2⟩,rfl⟩
 ·rw [hR]
  try simp only [ag,go_sem]
  exact Z1
abbrev Hr:=@pIx SCase Tryz.prog cM 5
abbrev Gw:=@pAn SCase Tryz.prog cM 5
abbrev bI:=@pEv SCase Tryz.prog cM 5
abbrev Je:=@pCl SCase Tryz.prog cM
theorem B5:EntOk Tryz.prog 331 (Ent.pure Hr):=gQ fun av sz ha hs m ts q F fst caps H hl hq=>by
 have hag:∀ x,∃ cs,av x=.agg cs∧cs.length=sz:=by subst ha hs;exact fun x=>⟨_,rfl,rfl⟩
 refine ACalls.fW ak (tCq (cg (F:=F)) tNq) Tryz.func331 [.tmp 4] (nrq _) (T:=aj []) (h:=fun hcl hlt=>?_)
 generalize hR:ixP q ts 0=R
 have hm:AV.lt H.nx (.slice m sz (ts.map av)):=hlt _ (by simp)
 have hf:AV.lt H.nx (.func (.func F) fst caps):=hlt _ (by simp)
 clear hlt
 simp only [go_sem,ybb]
 refine ay (A:=Nat) (fun k=>[(0,.slice m sz (ts.map av)),(1,.func (.func F) fst caps),(7,.int .i64 (ts.length:Int)),(8,.int .i64 (k:Int))]) (fun _=>H) (fun k=>k≤ts.length∧ixP q (ts.drop k) k=R) (fun k=>ts.length - k) 0 ⟨by omega,hR⟩ ?_ fun k hk=>?_
 ·exact ⟨nrq _,lRq _,hcl,by simp [ltF,znf,hm,hf],by simp [ba,wk2,wk1,wkM,Fr.get]⟩
 clear hR
 obtain ⟨hk,hR⟩:=hk
 simp only [go_sem]
 refine ah (fun hc=>?_) (fun hc=>?_)
 ·have hk':k<ts.length:=by simp at hc;omega
  obtain ⟨x,hx⟩:∃ x,x=ts[k]:=⟨_,rfl⟩
  have hd:ts.drop k=x::ts.drop (k+1):=by rw [hx];exact dcq hk'
  have hg':=aW (f:=av) (l:=ts) (k:=k) (x:=x) (by rw [gQq hk',hx])
  have e5:=Yk5 k
  rw [hd] at hR
  unfold ixP at hR
  have hqx:=hq x (by rw [hx];exact gMq hk')
  obtain ⟨cs,hcs,hcl3⟩:=hag x
  have hts:List.take sz cs=cs:=ybc (by omega)
  rw [hcs] at hqx
  clear ha hag
  subst hs
  simp only [go_sem,iNq,ybb,hg',hcs,hcl3,hts,eX]
  (repeat with_reducible refine Yq ?_)
  refine ⟨_,?_,hqx⟩
  try simp only [ag,go_sem]
  try (repeat with_reducible refine Yq ?_)
  refine ah (fun hq=>?_) (fun hq=>?_)
  ·rw [if_pos hq] at hR
   subst hR
   simp only [go_sem]
   exact Z1
  ·rw [if_neg (by rw [hq];decide)] at hR
   simp only [go_sem,e5]
   exact ⟨k+1,⟨by omega,hR⟩,by omega,nrq _,lRq _,hcl,by simp [ltF,znf,hm,hf],by simp [ba,wk2,wk1,wkM,Fr.get]⟩
 ·have hk':k=ts.length:=by simp at hc;omega
  subst hk'
  rw [List.drop_length] at hR
  unfold ixP at hR
  subst hR
  simp only [go_sem]
  exact Z1
theorem BU:EntOk Tryz.prog 273 (Ent.pure Gw):=gE fun av sz ha hs m ts q F fst caps H hl hq=>by
 refine ACalls.fW ak (tCq B5 tNq) Tryz.func273 [.tmp 4] (nrq _) (T:=aj []) (h:=fun hcl hlt=>?_)
 clear hlt
 have hR:=@dx _ q ts 0
 generalize ts.any q=R at *
 subst hs
 simp only [go_sem]
 refine ⟨ts,q,⟨by rw [ha];rfl,hl,by rw [← ha];exact hq⟩,?_⟩
 simp only [ag,go_sem,hR]
 exact Z1
theorem Br:EntOk Tryz.prog 274 (Ent.pure Je):=gG fun av ha t c b F fst caps H hg hq=>by
 have hag:∀ x,∃ cs,av x=.agg cs∧cs.length=5:=by subst ha;exact fun x=>⟨_,rfl,rfl⟩
 refine ACalls.fW ak (tCq (cg (F:=F)) tNq) Tryz.func274 [.tmp 3] (nrq _) (T:=aj []) (h:=fun hcl hlt=>?_)
 have hcs:=aq hg
 have hl:=glq hg
 have hne:(c=H.nx)=False:=eq_false (by omega)
 obtain ⟨cs,hav,hcl3⟩:=hag t
 have hts:=ybc (Nat.le_of_eq hcl3)
 rw [hav] at hq hlt ⊢
 have hlx:=hlt _ (List.mem_cons_self)
 clear hlt
 simp only [go_sem,hcs,hne,hg,hcl3,hts,eX]
 refine ⟨_,?_,hq _ ((lRq _).push _) ?_⟩
 ·try simp only [ag,go_sem]
  exact Z1
 ·have h0:=AV.lt_mono (Nat.le_succ H.nx) _ hlx
  rw [znr] at h0
  exact ae hcl h0
theorem uS:EntOk Tryz.prog 150 (Ent.pure bI):=gL fun av sz ha hs m ts q F fst caps H hl hq=>by
 have hL:EntOk Tryz.prog 274 (Ent.pure (pCl Tryz.prog av)):=by rw [ha];exact Br
 refine ACalls.fW ak (tCq BU tNq) Tryz.func150 [.tmp 4] (nrq _) (T:=aj []) (h:=fun hcl hlt=>?_)
 have hR:=@fj _ q ts
 generalize ts.all q=R at *
 have hfx:=hlt _ (List.mem_cons_of_mem _ List.mem_cons_self)
 clear hlt
 subst hs
 simp only [go_sem]
 refine ⟨ts,fun x=>!q x,⟨by rw [ha];rfl,hl,fun x hx=>?_⟩,?_⟩
 ·rw [← ha]
  exact clB hL ⟨x,q x,F,fst,caps,⟨rfl,by simp only [go_sem],fun H' h1 h2=>hq x hx H' (((lRq _).push _).trans h1) h2⟩,rfl⟩
 ·rw [hR]
  try simp only [ag,go_sem]
  exact Z1
abbrev G7:=@pIx SRef Tryz.prog bZ 6
abbrev IB:=@pAn SRef Tryz.prog bZ 6
abbrev bA:=@pEv SRef Tryz.prog bZ 6
abbrev G6:=@pCl SRef Tryz.prog bZ
theorem DF:EntOk Tryz.prog 288 (Ent.pure G7):=gQ fun av sz ha hs m ts q F fst caps H hl hq=>by
 have hag:∀ x,∃ cs,av x=.agg cs∧cs.length=sz:=by subst ha hs;exact fun x=>⟨_,rfl,rfl⟩
 refine ACalls.fW ak (tCq (cg (F:=F)) tNq) Tryz.func288 [.tmp 4] (nrq _) (T:=aj []) (h:=fun hcl hlt=>?_)
 generalize hR:ixP q ts 0=R
 have hm:AV.lt H.nx (.slice m sz (ts.map av)):=hlt _ (by simp)
 have hf:AV.lt H.nx (.func (.func F) fst caps):=hlt _ (by simp)
 clear hlt
 simp only [go_sem,ybb]
 refine ay (A:=Nat) (fun k=>[(0,.slice m sz (ts.map av)),(1,.func (.func F) fst caps),(7,.int .i64 (ts.length:Int)),(8,.int .i64 (k:Int))]) (fun _=>H) (fun k=>k≤ts.length∧ixP q (ts.drop k) k=R) (fun k=>ts.length - k) 0 ⟨by omega,hR⟩ ?_ fun k hk=>?_
 ·exact ⟨nrq _,lRq _,hcl,by simp [ltF,znf,hm,hf],by simp [ba,wk2,wk1,wkM,Fr.get]⟩
 clear hR
 obtain ⟨hk,hR⟩:=hk
 simp only [go_sem]
 refine ah (fun hc=>?_) (fun hc=>?_)
 ·have hk':k<ts.length:=by simp at hc;omega
  obtain ⟨x,hx⟩:∃ x,x=ts[k]:=⟨_,rfl⟩
  have hd:ts.drop k=x::ts.drop (k+1):=by rw [hx];exact dcq hk'
  have hg':=aW (f:=av) (l:=ts) (k:=k) (x:=x) (by rw [gQq hk',hx])
  have e5:=Yk5 k
  rw [hd] at hR
  unfold ixP at hR
  have hqx:=hq x (by rw [hx];exact gMq hk')
  obtain ⟨cs,hcs,hcl3⟩:=hag x
  have hts:List.take sz cs=cs:=ybc (by omega)
  rw [hcs] at hqx
  clear ha hag
  subst hs
  simp only [go_sem,iNq,ybb,hg',hcs,hcl3,hts,eX]
  (repeat with_reducible refine Yq ?_)
  refine ⟨_,?_,hqx⟩
  try simp only [ag,go_sem]
  try (repeat with_reducible refine Yq ?_)
  refine ah (fun hq=>?_) (fun hq=>?_)
  ·rw [if_pos hq] at hR
   subst hR
   simp only [go_sem]
   exact Z1
  ·rw [if_neg (by rw [hq];decide)] at hR
   simp only [go_sem,e5]
   exact ⟨k+1,⟨by omega,hR⟩,by omega,nrq _,lRq _,hcl,by simp [ltF,znf,hm,hf],by simp [ba,wk2,wk1,wkM,Fr.get]⟩
 ·have hk':k=ts.length:=by simp at hc;omega
  subst hk'
  rw [List.drop_length] at hR
  unfold ixP at hR
  subst hR
  simp only [go_sem]
  exact Z1
theorem Bf:EntOk Tryz.prog 188 (Ent.pure IB):=gE fun av sz ha hs m ts q F fst caps H hl hq=>by
 refine ACalls.fW ak (tCq DF tNq) Tryz.func188 [.tmp 4] (nrq _) (T:=aj []) (h:=fun hcl hlt=>?_)
 clear hlt
 have hR:=@dx _ q ts 0
 generalize ts.any q=R at *
 subst hs
 simp only [go_sem]
 refine ⟨ts,q,⟨by rw [ha];rfl,hl,by rw [← ha];exact hq⟩,?_⟩
 simp only [ag,go_sem,hR]
 exact Z1
theorem Dz:EntOk Tryz.prog 189 (Ent.pure G6):=gG fun av ha t c b F fst caps H hg hq=>by
 have hag:∀ x,∃ cs,av x=.agg cs∧cs.length=6:=by subst ha;exact fun x=>⟨_,rfl,rfl⟩
 refine ACalls.fW ak (tCq (cg (F:=F)) tNq) Tryz.func189 [.tmp 3] (nrq _) (T:=aj []) (h:=fun hcl hlt=>?_)
 have hcs:=aq hg
 have hl:=glq hg
 have hne:(c=H.nx)=False:=eq_false (by omega)
 obtain ⟨cs,hav,hcl3⟩:=hag t
 have hts:=ybc (Nat.le_of_eq hcl3)
 rw [hav] at hq hlt ⊢
 have hlx:=hlt _ (List.mem_cons_self)
 clear hlt
 simp only [go_sem,hcs,hne,hg,hcl3,hts,eX]
 refine ⟨_,?_,hq _ ((lRq _).push _) ?_⟩
 ·try simp only [ag,go_sem]
  exact Z1
 ·have h0:=AV.lt_mono (Nat.le_succ H.nx) _ hlx
  rw [znr] at h0
  exact ae hcl h0
theorem ns:EntOk Tryz.prog 52 (Ent.pure bA):=gL fun av sz ha hs m ts q F fst caps H hl hq=>by
 have hL:EntOk Tryz.prog 189 (Ent.pure (pCl Tryz.prog av)):=by rw [ha];exact Dz
 refine ACalls.fW ak (tCq Bf tNq) Tryz.func52 [.tmp 4] (nrq _) (T:=aj []) (h:=fun hcl hlt=>?_)
 have hR:=@fj _ q ts
 generalize ts.all q=R at *
 have hfx:=hlt _ (List.mem_cons_of_mem _ List.mem_cons_self)
 clear hlt
 subst hs
 simp only [go_sem]
 refine ⟨ts,fun x=>!q x,⟨by rw [ha];rfl,hl,fun x hx=>?_⟩,?_⟩
 ·rw [← ha]
  exact clB hL ⟨x,q x,F,fst,caps,⟨rfl,by simp only [go_sem],fun H' h1 h2=>hq x hx H' (((lRq _).push _).trans h1) h2⟩,rfl⟩
 ·rw [hR]
  try simp only [ag,go_sem]
  exact Z1
abbrev GO:=@pIx Int Tryz.prog (AV.int .i64) 1
abbrev HG:=@pAn Int Tryz.prog (AV.int .i64) 1
abbrev cm:=@pEv Int Tryz.prog (AV.int .i64) 1
abbrev G3:=@pCl Int Tryz.prog (AV.int .i64)
theorem Bi:EntOk Tryz.prog 326 (Ent.pure GO):=gQ fun av sz ha hs m ts q F fst caps H hl hq=>by
 refine ACalls.fW ak (tCq (cg (F:=F)) tNq) Tryz.func326 [.tmp 4] (nrq _) (T:=aj []) (h:=fun hcl hlt=>?_)
 subst ha hs
 generalize hR:ixP q ts 0=R
 have hm:AV.lt H.nx (.slice m 1 (ts.map (AV.int .i64))):=hlt _ (by simp)
 have hf:AV.lt H.nx (.func (.func F) fst caps):=hlt _ (by simp)
 clear hlt
 simp only [go_sem,ybb]
 refine ay (A:=Nat) (fun k=>[(0,.slice m 1 (ts.map (AV.int .i64))),(1,.func (.func F) fst caps),(7,.int .i64 (ts.length:Int)),(8,.int .i64 (k:Int))]) (fun _=>H) (fun k=>k≤ts.length∧ixP q (ts.drop k) k=R) (fun k=>ts.length - k) 0 ⟨by omega,hR⟩ ?_ fun k hk=>?_
 ·exact ⟨nrq _,lRq _,hcl,by simp [ltF,znf,hm,hf],by simp [ba,wk2,wk1,wkM,Fr.get]⟩
 clear hR
 obtain ⟨hk,hR⟩:=hk
 simp only [go_sem]
 refine ah (fun hc=>?_) (fun hc=>?_)
 ·have hk':k<ts.length:=by simp at hc;omega
  obtain ⟨x,hx⟩:∃ x,x=ts[k]:=⟨_,rfl⟩
  have hd:ts.drop k=x::ts.drop (k+1):=by rw [hx];exact dcq hk'
  have hg':=aW (f:=(AV.int .i64)) (l:=ts) (k:=k) (x:=x) (by rw [gQq hk',hx])
  have e5:=Yk5 k
  rw [hd] at hR
  unfold ixP at hR
  have hqx:=hq x (by rw [hx];exact gMq hk')
  simp only [go_sem,iNq,ybb,hg',eX]
  (repeat with_reducible refine Yq ?_)
  refine ⟨_,?_,hqx⟩
  try simp only [ag,go_sem]
  try (repeat with_reducible refine Yq ?_)
  refine ah (fun hq=>?_) (fun hq=>?_)
  ·rw [if_pos hq] at hR
   subst hR
   simp only [go_sem]
   exact Z1
  ·rw [if_neg (by rw [hq];decide)] at hR
   simp only [go_sem,e5]
   exact ⟨k+1,⟨by omega,hR⟩,by omega,nrq _,lRq _,hcl,by simp [ltF,znf,hm,hf],by simp [ba,wk2,wk1,wkM,Fr.get]⟩
 ·have hk':k=ts.length:=by simp at hc;omega
  subst hk'
  rw [List.drop_length] at hR
  unfold ixP at hR
  subst hR
  simp only [go_sem]
  exact Z1
theorem DS:EntOk Tryz.prog 263 (Ent.pure HG):=gE fun av sz ha hs m ts q F fst caps H hl hq=>by
 refine ACalls.fW ak (tCq Bi tNq) Tryz.func263 [.tmp 4] (nrq _) (T:=aj []) (h:=fun hcl hlt=>?_)
 clear hlt
 have hR:=@dx _ q ts 0
 generalize ts.any q=R at *
 subst hs
 simp only [go_sem]
 refine ⟨ts,q,⟨by rw [ha];rfl,hl,by rw [← ha];exact hq⟩,?_⟩
 simp only [ag,go_sem,hR]
 exact Z1
theorem Fc:EntOk Tryz.prog 264 (Ent.pure G3):=gG fun av ha t c b F fst caps H hg hq=>by
 subst ha
 refine ACalls.fW ak (tCq (cg (F:=F)) tNq) Tryz.func264 [.tmp 3] (nrq _) (T:=aj []) (h:=fun hcl hlt=>?_)
 have hcs:=aq hg
 have hl:=glq hg
 have hne:(c=H.nx)=False:=eq_false (by omega)
 have hlx:=hlt _ (List.mem_cons_self)
 clear hlt
 simp only [go_sem,hcs,hne,hg,eX]
 refine ⟨_,?_,hq _ (lRq _) hcl⟩
 try simp only [ag,go_sem]
 exact Z1
theorem pt:EntOk Tryz.prog 129 (Ent.pure cm):=gL fun av sz ha hs m ts q F fst caps H hl hq=>by
 have hL:EntOk Tryz.prog 264 (Ent.pure (pCl Tryz.prog av)):=by rw [ha];exact Fc
 refine ACalls.fW ak (tCq DS tNq) Tryz.func129 [.tmp 4] (nrq _) (T:=aj []) (h:=fun hcl hlt=>?_)
 have hR:=@fj _ q ts
 generalize ts.all q=R at *
 have hfx:=hlt _ (List.mem_cons_of_mem _ List.mem_cons_self)
 clear hlt
 subst hs
 simp only [go_sem]
 refine ⟨ts,fun x=>!q x,⟨by rw [ha];rfl,hl,fun x hx=>?_⟩,?_⟩
 ·rw [← ha]
  exact clB hL ⟨x,q x,F,fst,caps,⟨rfl,by simp only [go_sem],fun H' h1 h2=>hq x hx H' (((lRq _).push _).trans h1) h2⟩,rfl⟩
 ·rw [hR]
  try simp only [ag,go_sem]
  exact Z1
theorem zT:ti Tryz.prog 22=some ⟨.slice 5,1,24,.slice .nil 1 []⟩:=by kernel_rfl
attribute [go_sem] zT
def xf (c:UInt8):Bool:=decide (97≤c.toNat)&&decide (c.toNat≤122)
def io (c:UInt8):Bool:=(decide (48≤c.toNat)&&decide (c.toNat≤57))||decide (c.toNat=95)
def nV:List UInt8→Nat→Bool
 |[],_=>true
 |c::r,i=>(xf c||(!decide (i=0)&&io c))&&nV r (i+1)
def dd (s:List UInt8):Bool:=nV s 0&&decide (s≠[])
def iT (s:List UInt8):Bool:=dd s&&decide (s≠[112,114,105,111,114,105,116,121])&&decide (s≠[116,114,117,101])&&decide (s≠[102,97,108,115,101])
def cx:List AV→AHeap→(AV→Prop)→Prop
 |[.str s],_,K=>s.length≤140737488355328∧K (.bool (dd s))
 |_,_,_=>False
theorem iP:EntOk Tryz.prog 77 (Ent.pure cx):=by
 refine Ype fun _ H K h=>?_
 unfold cx at h
 split at h
 rotate_left
 ·exact h.elim
 rename_i s
 obtain ⟨hl,hK⟩:=h
 refine ⟨_,hK,?_⟩
 clear hK
 generalize hR:dd s=R
 unfold dd at hR
 obtain ⟨Q,hQ⟩:∃ Q,nV s 0=Q:=⟨_,rfl⟩
 rw [hQ] at hR
 have dn1:(!true)=false:=rfl
 have dn2:(!false)=true:=rfl
 have lt_bys:∀ n,AV.lt n (.slice .any 1 (s.map bo)):=fun n=>aU fun x=>by simp only [bo,znf]
 refine ACalls.fW ak tNq Tryz.func77 [.tmp 2] (nrq _) (T:=aj []) (h:=fun hcl hlt=>?_)
 clear hlt
 simp only [go_sem]
 refine ⟨by omega,?_⟩
 refine ay (A:=Nat) (fun k=>[(0,.str s),(7,.slice .any 1 (s.map bo)),(8,.int .i64 (s.length:Int)),(9,.int .i64 (k:Int))]) (fun _=>H) (fun k=>k≤s.length∧nV (s.drop k) k=Q) (fun k=>s.length - k) 0 ⟨by omega,hQ⟩ ?_ fun k hk=>?_
 ·refine ⟨by (try simp only [zkq,zkv,zle]);omega,by repeat first|exact .refl _|refine .push ?_ _,hcl,?_,?_⟩
  ·simp [ltF,zle,znn,znf,znh,lt_bys]
   try omega
  ·simp [ba,wk2,wk1,wkM,Fr.get]
 clear hQ
 obtain ⟨hk,hQ⟩:=hk
 simp only [go_sem]
 refine ah (fun hc=>?_) (fun hc=>?_)
 ·have hk':k<s.length:=by simp at hc;omega
  obtain ⟨c,hcx⟩:∃ c,c=s[k]:=⟨_,rfl⟩
  have hd:s.drop k=c::s.drop (k+1):=by rw [hcx];exact dcq hk'
  have hg':=aW (f:=bo) (l:=s) (k:=k) (x:=c) (by rw [gQq hk',hcx])
  have hgs:s.getD k 0=c:=by rw [gEq,gQq hk',hcx];rfl
  have e5:=Yk5 k
  rw [hd] at hQ
  unfold nV at hQ
  by_cases h1:97≤c.toNat
  ·have d1:decide ((c.toNat:Int) ≥ 97)=true:=dtq (by omega)
   by_cases h2:c.toNat≤122
   ·have d2:decide ((c.toNat:Int)≤122)=true:=dtq (by omega)
    have hb:xf c=true:=by unfold xf;rw [dtq h1,dtq h2];rfl
    rw [hb,Bool.true_or,Bool.true_and] at hQ
    simp only [go_sem,iNq,ybb,hg',bo,e5,d1,d2,dn1,dn2]
    try (repeat with_reducible refine Yq ?_)
    refine ⟨k+1,⟨by omega,hQ⟩,by omega,?_⟩
    refine ⟨by (try simp only [zkq,zkv,zle]);omega,by repeat first|exact .refl _|refine .push ?_ _,hcl,?_,?_⟩
    ·simp [ltF,zle,znn,znf,znh,lt_bys]
     try omega
    ·simp [ba,wk2,wk1,wkM,Fr.get]
   ·have d2:decide ((c.toNat:Int)≤122)=false:=dfq (by omega)
    have hb:xf c=false:=by unfold xf;rw [dfq h2,Bool.and_false]
    rw [hb,Bool.false_or] at hQ
    by_cases h0:k=0
    ·have d0:((k:Int)==0)=true:=by rw [h0];rfl
     rw [dtq h0,Bool.not_true,Bool.false_and,Bool.false_and] at hQ
     rw [← hQ,Bool.false_and] at hR
     subst hR
     simp only [go_sem,iNq,ybb,hg',bo,e5,d1,d2,d0,dn1,dn2]
     try (repeat with_reducible refine Yq ?_)
     exact Z1
    have d0:((k:Int)==0)=false:=by simp;omega
    rw [dfq h0,Bool.not_false,Bool.true_and] at hQ
    by_cases h95:c.toNat=95
    ·have d95:((c.toNat:Int) != 95)=false:=by simp;omega
     have d3:decide ((c.toNat:Int)<48)=false:=dfq (by omega)
     have d4:decide ((c.toNat:Int) > 57)=true:=dtq (by omega)
     have hp:io c=true:=by unfold io;rw [dtq h95,Bool.or_true]
     rw [hp,Bool.true_and] at hQ
     simp only [go_sem,iNq,ybb,hg',bo,e5,d1,d2,d0,d95,d3,d4,dn1,dn2]
     try (repeat with_reducible refine Yq ?_)
     refine ⟨k+1,⟨by omega,hQ⟩,by omega,?_⟩
     refine ⟨by (try simp only [zkq,zkv,zle]);omega,by repeat first|exact .refl _|refine .push ?_ _,hcl,?_,?_⟩
     ·simp [ltF,zle,znn,znf,znh,lt_bys]
      try omega
     ·simp [ba,wk2,wk1,wkM,Fr.get]
    have d95:((c.toNat:Int) != 95)=true:=by simp;omega
    by_cases h3:c.toNat<48
    ·have d3:decide ((c.toNat:Int)<48)=true:=dtq (by omega)
     have hp:io c=false:=by unfold io;rw [dfq h95,dfq (by omega),Bool.false_and,Bool.or_false]
     rw [hp,Bool.false_and] at hQ
     rw [← hQ,Bool.false_and] at hR
     subst hR
     simp only [go_sem,iNq,ybb,hg',bo,e5,d1,d2,d0,d95,d3,dn1,dn2]
     try (repeat with_reducible refine Yq ?_)
     exact Z1
    have d3:decide ((c.toNat:Int)<48)=false:=dfq (by omega)
    by_cases h4:57<c.toNat
    ·have d4:decide ((c.toNat:Int) > 57)=true:=dtq (by omega)
     have hp:io c=false:=by unfold io;rw [dfq h95,dfq (show ¬ c.toNat≤57 by omega),Bool.and_false,Bool.or_false]
     rw [hp,Bool.false_and] at hQ
     rw [← hQ,Bool.false_and] at hR
     subst hR
     simp only [go_sem,iNq,ybb,hg',bo,e5,d1,d2,d0,d95,d3,d4,dn1,dn2]
     try (repeat with_reducible refine Yq ?_)
     exact Z1
    have d4:decide ((c.toNat:Int) > 57)=false:=dfq (by omega)
    have hp:io c=true:=by unfold io;rw [dtq (show 48≤c.toNat by omega),dtq (show c.toNat≤57 by omega)];rfl
    rw [hp,Bool.true_and] at hQ
    simp only [go_sem,iNq,ybb,hg',bo,e5,d1,d2,d0,d95,d3,d4,dn1,dn2]
    try (repeat with_reducible refine Yq ?_)
    refine ⟨k+1,⟨by omega,hQ⟩,by omega,?_⟩
    refine ⟨by (try simp only [zkq,zkv,zle]);omega,by repeat first|exact .refl _|refine .push ?_ _,hcl,?_,?_⟩
    ·simp [ltF,zle,znn,znf,znh,lt_bys]
     try omega
    ·simp [ba,wk2,wk1,wkM,Fr.get]
  ·have d1:decide ((c.toNat:Int) ≥ 97)=false:=dfq (by omega)
   have hb:xf c=false:=by unfold xf;rw [dfq h1,Bool.false_and]
   rw [hb,Bool.false_or] at hQ
   by_cases h0:k=0
   ·have d0:((k:Int)==0)=true:=by rw [h0];rfl
    rw [dtq h0,Bool.not_true,Bool.false_and,Bool.false_and] at hQ
    rw [← hQ,Bool.false_and] at hR
    subst hR
    simp only [go_sem,iNq,ybb,hg',bo,e5,d1,d0,dn1,dn2]
    try (repeat with_reducible refine Yq ?_)
    exact Z1
   have d0:((k:Int)==0)=false:=by simp;omega
   rw [dfq h0,Bool.not_false,Bool.true_and] at hQ
   by_cases h95:c.toNat=95
   ·have d95:((c.toNat:Int) != 95)=false:=by simp;omega
    have d3:decide ((c.toNat:Int)<48)=false:=dfq (by omega)
    have d4:decide ((c.toNat:Int) > 57)=true:=dtq (by omega)
    have hp:io c=true:=by unfold io;rw [dtq h95,Bool.or_true]
    rw [hp,Bool.true_and] at hQ
    simp only [go_sem,iNq,ybb,hg',bo,e5,d1,d0,d95,d3,d4,dn1,dn2]
    try (repeat with_reducible refine Yq ?_)
    refine ⟨k+1,⟨by omega,hQ⟩,by omega,?_⟩
    refine ⟨by (try simp only [zkq,zkv,zle]);omega,by repeat first|exact .refl _|refine .push ?_ _,hcl,?_,?_⟩
    ·simp [ltF,zle,znn,znf,znh,lt_bys]
     try omega
    ·simp [ba,wk2,wk1,wkM,Fr.get]
   have d95:((c.toNat:Int) != 95)=true:=by simp;omega
   by_cases h3:c.toNat<48
   ·have d3:decide ((c.toNat:Int)<48)=true:=dtq (by omega)
    have hp:io c=false:=by unfold io;rw [dfq h95,dfq (by omega),Bool.false_and,Bool.or_false]
    rw [hp,Bool.false_and] at hQ
    rw [← hQ,Bool.false_and] at hR
    subst hR
    simp only [go_sem,iNq,ybb,hg',bo,e5,d1,d0,d95,d3,dn1,dn2]
    try (repeat with_reducible refine Yq ?_)
    exact Z1
   have d3:decide ((c.toNat:Int)<48)=false:=dfq (by omega)
   by_cases h4:57<c.toNat
   ·have d4:decide ((c.toNat:Int) > 57)=true:=dtq (by omega)
    have hp:io c=false:=by unfold io;rw [dfq h95,dfq (show ¬ c.toNat≤57 by omega),Bool.and_false,Bool.or_false]
    rw [hp,Bool.false_and] at hQ
    rw [← hQ,Bool.false_and] at hR
    subst hR
    simp only [go_sem,iNq,ybb,hg',bo,e5,d1,d0,d95,d3,d4,dn1,dn2]
    try (repeat with_reducible refine Yq ?_)
    exact Z1
   have d4:decide ((c.toNat:Int) > 57)=false:=dfq (by omega)
   have hp:io c=true:=by unfold io;rw [dtq (show 48≤c.toNat by omega),dtq (show c.toNat≤57 by omega)];rfl
   rw [hp,Bool.true_and] at hQ
   simp only [go_sem,iNq,ybb,hg',bo,e5,d1,d0,d95,d3,d4,dn1,dn2]
   try (repeat with_reducible refine Yq ?_)
   refine ⟨k+1,⟨by omega,hQ⟩,by omega,?_⟩
   refine ⟨by (try simp only [zkq,zkv,zle]);omega,by repeat first|exact .refl _|refine .push ?_ _,hcl,?_,?_⟩
   ·simp [ltF,zle,znn,znf,znh,lt_bys]
    try omega
   ·simp [ba,wk2,wk1,wkM,Fr.get]
 ·have hk':k=s.length:=by simp at hc;omega
  subst hk'
  rw [List.drop_length] at hQ
  unfold nV at hQ
  rw [← hQ,Bool.true_and] at hR
  cases s with
  |nil =>
   have hR':R=false:=by rw [← hR];rfl
   subst hR'
   simp only [go_sem]
   exact Z1
  |cons c r =>
   have hR':R=true:=by rw [← hR];rfl
   subst hR'
   have hne:((c::r) != [])=true:=rfl
   simp only [go_sem,hne]
   exact Z1
def je:List AV→AHeap→(AV→Prop)→Prop
 |[.str s],_,K=>s.length≤140737488355328∧K (.bool (iT s))
 |_,_,_=>False
theorem ux:EntOk Tryz.prog 84 (Ent.pure je):=by
 refine Ype fun _ H K h=>?_
 unfold je at h
 split at h
 rotate_left
 ·exact h.elim
 rename_i s
 obtain ⟨hl,hK⟩:=h
 refine ⟨_,hK,?_⟩
 clear hK
 generalize hR:iT s=R
 unfold iT at hR
 have d1:(s==[112,114,105,111,114,105,116,121])=!decide (s≠[112,114,105,111,114,105,116,121]):=by rw [Bool.eq_iff_iff];simp
 have d2:(s==[116,114,117,101])=!decide (s≠[116,114,117,101]):=by rw [Bool.eq_iff_iff];simp
 have d3:(s==[102,97,108,115,101])=!decide (s≠[102,97,108,115,101]):=by rw [Bool.eq_iff_iff];simp
 generalize decide (s≠[112,114,105,111,114,105,116,121])=b1 at *
 generalize decide (s≠[116,114,117,101])=b2 at *
 generalize decide (s≠[102,97,108,115,101])=b3 at *
 refine ACalls.fW ak (tCq iP tNq) Tryz.func84 [.tmp 2] (nrq _) (T:=aj []) (h:=fun hcl hlt=>?_)
 clear hlt
 simp only [go_sem,cx]
 refine ⟨hl,?_⟩
 generalize dd s=b0 at *
 subst hR
 cases b0<;>cases b1<;>cases b2<;>cases b3<;>(simp only [ag,go_sem,d1,d2,d3,Bool.not_not,Bool.not_true,Bool.not_false,Bool.and_self,Bool.and_true,Bool.true_and,Bool.and_false,Bool.false_and];try simp (disch:=first|exact Zd|omega) [↓zmo,beq,ybc,ybd,ybe,aa,wk,wk2,wk1,wkM,wkL,af,ybf,hcl])
structure SB (S:Sch):Prop where
 sl:SLen S
 gl:S.stages.length≤1000000
 xl:S.refs.length≤1000000
 fn:∀ x∈S.fields,x.name.length≤140737488355328
 hn:∀ x∈S.headers,x.name.length≤140737488355328∧x.fields.length≤1000000
 sn:∀ x∈S.states,x.cases.length≤1000000
 an:∀ x∈S.actions,x.name.length≤140737488355328∧x.params.length≤1000000∧x.body.length≤1000000∧∀ p∈x.params,p.name.length≤140737488355328
 tn:∀ x∈S.tables,x.name.length≤140737488355328∧x.keys.length≤1000000∧x.actions.length≤1000000∧x.dargs.length≤1000000∧∀ k∈x.keys,k.name.length≤140737488355328
 rn:∀ x∈S.roles,x.name.length≤140737488355328∧x.grants.length≤1000000∧x.actions.length≤1000000∧∀ g∈x.grants,g.keys.length≤1000000
def wB (n lo hi:Int):Bool:=decide (lo≤n)&&decide (n≤hi)
def aM:List AV→AHeap→(AV→Prop)→Prop
 |[.int .i64 n,.int .i64 lo,.int .i64 hi],_,K=>K (.bool (wB n lo hi))
 |_,_,_=>False
theorem hG:EntOk Tryz.prog 91 (Ent.pure aM):=by
 refine Ype fun _ H K h=>?_
 unfold aM at h
 split at h
 rotate_left
 ·exact h.elim
 rename_i n lo hi
 refine ⟨_,h,?_⟩
 clear h
 generalize hR:wB n lo hi=R
 unfold wB at hR
 refine ACalls.fW ak tNq Tryz.func91 [.tmp 6] (nrq _) (T:=aj []) (h:=fun hcl hlt=>?_)
 clear hlt
 obtain ⟨b0,e0⟩:∃ b:Bool,(decide (lo≤n))=b:=⟨_,rfl⟩
 have d0:decide (n ≥ lo)=b0:=(show decide (n ≥ lo)=(decide (lo≤n)) from rfl).trans e0
 rw [e0] at hR
 cases b0 with
 |false =>
  rw [Bool.false_and] at hR
  subst hR
  try simp only [aJ,ag,bhq,Nat.reduceMod,Nat.reduceDiv,aC,aB,aD,aT,aE,aS,aP,aQ,aR,yaq,yar,yao,yap,go_sem,d0]
  try (repeat with_reducible refine Yq ?_)
  exact Z1
 |true =>
 rw [Bool.true_and] at hR
 obtain ⟨b1,e1⟩:∃ b:Bool,(decide (n≤hi))=b:=⟨_,rfl⟩
 have d1:decide (n≤hi)=b1:=(show decide (n≤hi)=(decide (n≤hi)) from rfl).trans e1
 rw [e1] at hR
 cases b1 with
 |false =>
  subst hR
  try simp only [aJ,ag,bhq,Nat.reduceMod,Nat.reduceDiv,aC,aB,aD,aT,aE,aS,aP,aQ,aR,yaq,yar,yao,yap,go_sem,d0,d1]
  try (repeat with_reducible refine Yq ?_)
  exact Z1
 |true =>
 subst hR
 try simp only [aJ,ag,bhq,Nat.reduceMod,Nat.reduceDiv,aC,aB,aD,aT,aE,aS,aP,aQ,aR,yaq,yar,yao,yap,go_sem,d0,d1]
 try (repeat with_reducible refine Yq ?_)
 exact Z1
def eQ:List AV→AHeap→(AV→Prop)→Prop
 |[.int .i64 n],_,K=>K (.bool (wB n 1 65534))
 |_,_,_=>False
theorem nY:EntOk Tryz.prog 93 (Ent.pure eQ):=by
 refine Ype fun _ H K h=>?_
 unfold eQ at h
 split at h
 rotate_left
 ·exact h.elim
 rename_i n
 refine ⟨_,h,?_⟩
 clear h
 refine ACalls.fW ak (tCq hG tNq) Tryz.func93 [.tmp 2] (nrq _) (T:=aj []) (h:=fun hcl hlt=>?_)
 clear hlt
 simp only [aJ,ag,bhq,Nat.reduceMod,Nat.reduceDiv,aC,aB,aD,aT,aE,aS,aP,aQ,aR,yaq,yar,yao,yap,go_sem,aM]
 exact Z1
def lA:List AV→AHeap→(AV→Prop)→Prop
 |[.int .i64 n],_,K=>K (.bool (wB n 1 128))
 |_,_,_=>False
theorem t4:EntOk Tryz.prog 94 (Ent.pure lA):=by
 refine Ype fun _ H K h=>?_
 unfold lA at h
 split at h
 rotate_left
 ·exact h.elim
 rename_i n
 refine ⟨_,h,?_⟩
 clear h
 refine ACalls.fW ak (tCq hG tNq) Tryz.func94 [.tmp 2] (nrq _) (T:=aj []) (h:=fun hcl hlt=>?_)
 clear hlt
 simp only [aJ,ag,bhq,Nat.reduceMod,Nat.reduceDiv,aC,aB,aD,aT,aE,aS,aP,aQ,aR,yaq,yar,yao,yap,go_sem,aM]
 exact Z1
def rM:List AV→AHeap→(AV→Prop)→Prop
 |[x],H,K=>∃ t:SField,(x=aV t∧t.name.length≤140737488355328)∧K (.bool (dd t.name))
 |_,_,_=>False
theorem wH:EntOk Tryz.prog 76 (Ent.pure rM):=by
 refine Ype fun _ H K h=>?_
 unfold rM at h
 split at h
 rotate_left
 ·exact h.elim
 rename_i x
 obtain ⟨t,⟨rfl,hc⟩,hK⟩:=h
 refine ⟨_,hK,?_⟩
 clear hK
 generalize hR:(dd t.name)=R
 unfold aV
 refine ACalls.fW ak (tCq iP tNq) Tryz.func76 [.tmp 2] (nrq _) (T:=aj []) (h:=fun hcl hlt=>?_)
 clear hlt
 simp only [aJ,ag,bhq,Nat.reduceMod,Nat.reduceDiv,aC,aB,aD,aT,aE,aS,aP,aQ,aR,yaq,yar,yao,yap,go_sem,cx]
 refine ⟨hc,?_⟩
 cases c0:dd t.name with
 |false =>
  rw [c0] at hR
  subst hR
  try simp only [aJ,ag,bhq,Nat.reduceMod,Nat.reduceDiv,aC,aB,aD,aT,aE,aS,aP,aQ,aR,yaq,yar,yao,yap,go_sem,cx,c0]
  try (repeat with_reducible refine Yq ?_)
  exact Z1
 |true =>
 rw [c0] at hR
 subst hR
 try simp only [aJ,ag,bhq,Nat.reduceMod,Nat.reduceDiv,aC,aB,aD,aT,aE,aS,aP,aQ,aR,yaq,yar,yao,yap,go_sem,cx,c0]
 try (repeat with_reducible refine Yq ?_)
 exact Z1
def rF:List AV→AHeap→(AV→Prop)→Prop
 |[x],H,K=>∃ t:SHeader,(x=aH t∧t.name.length≤140737488355328)∧K (.bool (dd t.name))
 |_,_,_=>False
theorem wd:EntOk Tryz.prog 79 (Ent.pure rF):=by
 refine Ype fun _ H K h=>?_
 unfold rF at h
 split at h
 rotate_left
 ·exact h.elim
 rename_i x
 obtain ⟨t,⟨rfl,hc⟩,hK⟩:=h
 refine ⟨_,hK,?_⟩
 clear hK
 generalize hR:(dd t.name)=R
 unfold aH
 refine ACalls.fW ak (tCq iP tNq) Tryz.func79 [.tmp 2] (nrq _) (T:=aj []) (h:=fun hcl hlt=>?_)
 clear hlt
 simp only [aJ,ag,bhq,Nat.reduceMod,Nat.reduceDiv,aC,aB,aD,aT,aE,aS,aP,aQ,aR,yaq,yar,yao,yap,go_sem,cx]
 refine ⟨hc,?_⟩
 cases c0:dd t.name with
 |false =>
  rw [c0] at hR
  subst hR
  try simp only [aJ,ag,bhq,Nat.reduceMod,Nat.reduceDiv,aC,aB,aD,aT,aE,aS,aP,aQ,aR,yaq,yar,yao,yap,go_sem,cx,c0]
  try (repeat with_reducible refine Yq ?_)
  exact Z1
 |true =>
 rw [c0] at hR
 subst hR
 try simp only [aJ,ag,bhq,Nat.reduceMod,Nat.reduceDiv,aC,aB,aD,aT,aE,aS,aP,aQ,aR,yaq,yar,yao,yap,go_sem,cx,c0]
 try (repeat with_reducible refine Yq ?_)
 exact Z1
def o9:List AV→AHeap→(AV→Prop)→Prop
 |[x],H,K=>∃ t:SParam,(x=bv t∧t.name.length≤140737488355328)∧K (.bool (iT t.name))
 |_,_,_=>False
theorem uA:EntOk Tryz.prog 83 (Ent.pure o9):=by
 refine Ype fun _ H K h=>?_
 unfold o9 at h
 split at h
 rotate_left
 ·exact h.elim
 rename_i x
 obtain ⟨t,⟨rfl,hc⟩,hK⟩:=h
 refine ⟨_,hK,?_⟩
 clear hK
 generalize hR:(iT t.name)=R
 unfold bv
 refine ACalls.fW ak (tCq ux tNq) Tryz.func83 [.tmp 2] (nrq _) (T:=aj []) (h:=fun hcl hlt=>?_)
 clear hlt
 simp only [aJ,ag,bhq,Nat.reduceMod,Nat.reduceDiv,aC,aB,aD,aT,aE,aS,aP,aQ,aR,yaq,yar,yao,yap,go_sem,je]
 refine ⟨hc,?_⟩
 cases c0:iT t.name with
 |false =>
  rw [c0] at hR
  subst hR
  try simp only [aJ,ag,bhq,Nat.reduceMod,Nat.reduceDiv,aC,aB,aD,aT,aE,aS,aP,aQ,aR,yaq,yar,yao,yap,go_sem,je,c0]
  try (repeat with_reducible refine Yq ?_)
  exact Z1
 |true =>
 rw [c0] at hR
 subst hR
 try simp only [aJ,ag,bhq,Nat.reduceMod,Nat.reduceDiv,aC,aB,aD,aT,aE,aS,aP,aQ,aR,yaq,yar,yao,yap,go_sem,je,c0]
 try (repeat with_reducible refine Yq ?_)
 exact Z1
def qv:List AV→AHeap→(AV→Prop)→Prop
 |[x],H,K=>∃ t:SKey,(x=bN t∧t.name.length≤140737488355328)∧K (.bool (iT t.name))
 |_,_,_=>False
theorem uM:EntOk Tryz.prog 88 (Ent.pure qv):=by
 refine Ype fun _ H K h=>?_
 unfold qv at h
 split at h
 rotate_left
 ·exact h.elim
 rename_i x
 obtain ⟨t,⟨rfl,hc⟩,hK⟩:=h
 refine ⟨_,hK,?_⟩
 clear hK
 generalize hR:(iT t.name)=R
 unfold bN
 refine ACalls.fW ak (tCq ux tNq) Tryz.func88 [.tmp 2] (nrq _) (T:=aj []) (h:=fun hcl hlt=>?_)
 clear hlt
 simp only [aJ,ag,bhq,Nat.reduceMod,Nat.reduceDiv,aC,aB,aD,aT,aE,aS,aP,aQ,aR,yaq,yar,yao,yap,go_sem,je]
 refine ⟨hc,?_⟩
 cases c0:iT t.name with
 |false =>
  rw [c0] at hR
  subst hR
  try simp only [aJ,ag,bhq,Nat.reduceMod,Nat.reduceDiv,aC,aB,aD,aT,aE,aS,aP,aQ,aR,yaq,yar,yao,yap,go_sem,je,c0]
  try (repeat with_reducible refine Yq ?_)
  exact Z1
 |true =>
 rw [c0] at hR
 subst hR
 try simp only [aJ,ag,bhq,Nat.reduceMod,Nat.reduceDiv,aC,aB,aD,aT,aE,aS,aP,aQ,aR,yaq,yar,yao,yap,go_sem,je,c0]
 try (repeat with_reducible refine Yq ?_)
 exact Z1
def r4:List AV→AHeap→(AV→Prop)→Prop
 |[x],H,K=>∃ t:SRole,(x=br t∧t.name.length≤140737488355328)∧K (.bool (dd t.name))
 |_,_,_=>False
theorem wY:EntOk Tryz.prog 90 (Ent.pure r4):=by
 refine Ype fun _ H K h=>?_
 unfold r4 at h
 split at h
 rotate_left
 ·exact h.elim
 rename_i x
 obtain ⟨t,⟨rfl,hc⟩,hK⟩:=h
 refine ⟨_,hK,?_⟩
 clear hK
 generalize hR:(dd t.name)=R
 unfold br
 refine ACalls.fW ak (tCq iP tNq) Tryz.func90 [.tmp 2] (nrq _) (T:=aj []) (h:=fun hcl hlt=>?_)
 clear hlt
 simp only [aJ,ag,bhq,Nat.reduceMod,Nat.reduceDiv,aC,aB,aD,aT,aE,aS,aP,aQ,aR,yaq,yar,yao,yap,go_sem,cx]
 refine ⟨hc,?_⟩
 cases c0:dd t.name with
 |false =>
  rw [c0] at hR
  subst hR
  try simp only [aJ,ag,bhq,Nat.reduceMod,Nat.reduceDiv,aC,aB,aD,aT,aE,aS,aP,aQ,aR,yaq,yar,yao,yap,go_sem,cx,c0]
  try (repeat with_reducible refine Yq ?_)
  exact Z1
 |true =>
 rw [c0] at hR
 subst hR
 try simp only [aJ,ag,bhq,Nat.reduceMod,Nat.reduceDiv,aC,aB,aD,aT,aE,aS,aP,aQ,aR,yaq,yar,yao,yap,go_sem,cx,c0]
 try (repeat with_reducible refine Yq ?_)
 exact Z1
def z6 (t:SAction):Bool:=dd t.name&&t.params.all fun p=>iT p.name
def Af (t:STable):Bool:=dd t.name&&t.keys.all fun k=>iT k.name
def rh:List AV→AHeap→(AV→Prop)→Prop
 |[x],H,K=>∃ t:SAction,(x=ax t∧(t.name.length≤140737488355328∧t.params.length≤1000000∧∀ p∈t.params,p.name.length≤140737488355328))∧K (.bool (z6 t))
 |_,_,_=>False
theorem vz:EntOk Tryz.prog 81 (Ent.pure rh):=by
 refine Ype fun _ H K h=>?_
 unfold rh at h
 split at h
 rotate_left
 ·exact h.elim
 rename_i x
 obtain ⟨t,⟨rfl,hc⟩,hK⟩:=h
 refine ⟨_,hK,?_⟩
 clear hK
 generalize hR:(z6 t)=R
 unfold ax
 refine ACalls.fW ak (tCq iP (tCq tZ tNq)) Tryz.func81 [.tmp 2] (nrq _) (T:=aj []) (h:=fun hcl hlt=>?_)
 clear hlt
 unfold z6 at hR
 simp only [aJ,ag,bhq,Nat.reduceMod,Nat.reduceDiv,aC,aB,aD,aT,aE,aS,aP,aQ,aR,yaq,yar,yao,yap,go_sem,cx]
 refine ⟨hc.1,?_⟩
 cases c0:dd t.name with
 |false =>
  rw [c0,Bool.false_and] at hR
  subst hR
  try simp only [aJ,ag,bhq,Nat.reduceMod,Nat.reduceDiv,aC,aB,aD,aT,aE,aS,aP,aQ,aR,yaq,yar,yao,yap,go_sem,cx,c0]
  try (repeat with_reducible refine Yq ?_)
  exact Z1
 |true =>
 rw [c0,Bool.true_and] at hR
 try simp only [aJ,ag,bhq,Nat.reduceMod,Nat.reduceDiv,aC,aB,aD,aT,aE,aS,aP,aQ,aR,yaq,yar,yao,yap,go_sem,cx,kr,c0]
 refine ⟨t.params,(fun p=>iT p.name),⟨rfl,hc.2.1,fun x hx H' hle' hcl'=>clB uA ⟨x,⟨rfl,hc.2.2 x hx⟩,rfl⟩⟩,?_⟩
 cases c1:t.params.all fun p=>iT p.name with
 |false =>
  rw [c1] at hR
  subst hR
  try simp only [aJ,ag,bhq,Nat.reduceMod,Nat.reduceDiv,aC,aB,aD,aT,aE,aS,aP,aQ,aR,yaq,yar,yao,yap,go_sem,cx,kr,c0,c1]
  try (repeat with_reducible refine Yq ?_)
  exact Z1
 |true =>
 rw [c1] at hR
 subst hR
 try simp only [aJ,ag,bhq,Nat.reduceMod,Nat.reduceDiv,aC,aB,aD,aT,aE,aS,aP,aQ,aR,yaq,yar,yao,yap,go_sem,cx,kr,c0,c1]
 try (repeat with_reducible refine Yq ?_)
 exact Z1
def rX:List AV→AHeap→(AV→Prop)→Prop
 |[x],H,K=>∃ t:STable,(x=az t∧(t.name.length≤140737488355328∧t.keys.length≤1000000∧∀ p∈t.keys,p.name.length≤140737488355328))∧K (.bool (Af t))
 |_,_,_=>False
theorem wq:EntOk Tryz.prog 86 (Ent.pure rX):=by
 refine Ype fun _ H K h=>?_
 unfold rX at h
 split at h
 rotate_left
 ·exact h.elim
 rename_i x
 obtain ⟨t,⟨rfl,hc⟩,hK⟩:=h
 refine ⟨_,hK,?_⟩
 clear hK
 generalize hR:(Af t)=R
 unfold az
 refine ACalls.fW ak (tCq iP (tCq uQ tNq)) Tryz.func86 [.tmp 2] (nrq _) (T:=aj []) (h:=fun hcl hlt=>?_)
 clear hlt
 unfold Af at hR
 simp only [aJ,ag,bhq,Nat.reduceMod,Nat.reduceDiv,aC,aB,aD,aT,aE,aS,aP,aQ,aR,yaq,yar,yao,yap,go_sem,cx]
 refine ⟨hc.1,?_⟩
 cases c0:dd t.name with
 |false =>
  rw [c0,Bool.false_and] at hR
  subst hR
  try simp only [aJ,ag,bhq,Nat.reduceMod,Nat.reduceDiv,aC,aB,aD,aT,aE,aS,aP,aQ,aR,yaq,yar,yao,yap,go_sem,cx,c0]
  try (repeat with_reducible refine Yq ?_)
  exact Z1
 |true =>
 rw [c0,Bool.true_and] at hR
 try simp only [aJ,ag,bhq,Nat.reduceMod,Nat.reduceDiv,aC,aB,aD,aT,aE,aS,aP,aQ,aR,yaq,yar,yao,yap,go_sem,cx,gx,c0]
 refine ⟨t.keys,(fun k=>iT k.name),⟨rfl,hc.2.1,fun x hx H' hle' hcl'=>clB uM ⟨x,⟨rfl,hc.2.2 x hx⟩,rfl⟩⟩,?_⟩
 cases c1:t.keys.all fun k=>iT k.name with
 |false =>
  rw [c1] at hR
  subst hR
  try simp only [aJ,ag,bhq,Nat.reduceMod,Nat.reduceDiv,aC,aB,aD,aT,aE,aS,aP,aQ,aR,yaq,yar,yao,yap,go_sem,cx,gx,c0,c1]
  try (repeat with_reducible refine Yq ?_)
  exact Z1
 |true =>
 rw [c1] at hR
 subst hR
 try simp only [aJ,ag,bhq,Nat.reduceMod,Nat.reduceDiv,aC,aB,aD,aT,aE,aS,aP,aQ,aR,yaq,yar,yao,yap,go_sem,cx,gx,c0,c1]
 try (repeat with_reducible refine Yq ?_)
 exact Z1
def mc (S:Sch):Bool:=(S.fields.all fun t=>dd t.name)&&((S.headers.all fun t=>dd t.name)&&(S.actions.all z6&&(S.tables.all Af&&S.roles.all fun t=>dd t.name)))
def fL:List AV→AHeap→(AV→Prop)→Prop
 |[.agg l],_,K=>∃ S:Sch,(l=aO S∧SB S)∧K (.bool (mc S))
 |_,_,_=>False
theorem zK:EntOk Tryz.prog 31 (Ent.pure fL):=by
 refine Ype fun _ H K h=>?_
 unfold fL at h
 split at h
 rotate_left
 ·exact h.elim
 rename_i l
 obtain ⟨S,⟨rfl,hS⟩,hK⟩:=h
 refine ⟨_,hK,?_⟩
 clear hK
 generalize hR:mc S=R
 unfold mc at hR
 refine ACalls.fW ak (tCq uP (tCq mM (tCq lj (tCq jH (tCq kO tNq))))) Tryz.func31 [.tmp 2] (nrq _) (T:=aj []) (h:=fun hcl hlt=>?_)
 clear hlt
 simp only [aJ,ag,bhq,Nat.reduceMod,Nat.reduceDiv,aC,aB,aD,aT,aE,aS,aP,aQ,aR,yaq,yar,yao,yap,go_sem,aO,cE]
 refine ⟨S.fields,(fun t=>dd t.name),⟨rfl,hS.sl.fl,fun x hx H' hle' hcl'=>clB wH ⟨x,⟨rfl,hS.fn x hx⟩,rfl⟩⟩,?_⟩
 cases c0:S.fields.all fun t=>dd t.name with
 |false =>
  rw [c0,Bool.false_and] at hR
  subst hR
  try simp only [aJ,ag,bhq,Nat.reduceMod,Nat.reduceDiv,aC,aB,aD,aT,aE,aS,aP,aQ,aR,yaq,yar,yao,yap,go_sem,aO,cE,c0]
  try (repeat with_reducible refine Yq ?_)
  exact Z1
 |true =>
 rw [c0,Bool.true_and] at hR
 try simp only [aJ,ag,bhq,Nat.reduceMod,Nat.reduceDiv,aC,aB,aD,aT,aE,aS,aP,aQ,aR,yaq,yar,yao,yap,go_sem,aO,cE,bh,c0]
 refine ⟨S.headers,(fun t=>dd t.name),⟨rfl,hS.sl.hl,fun x hx H' hle' hcl'=>clB wd ⟨x,⟨rfl,(hS.hn x hx).1⟩,rfl⟩⟩,?_⟩
 cases c1:S.headers.all fun t=>dd t.name with
 |false =>
  rw [c1,Bool.false_and] at hR
  subst hR
  try simp only [aJ,ag,bhq,Nat.reduceMod,Nat.reduceDiv,aC,aB,aD,aT,aE,aS,aP,aQ,aR,yaq,yar,yao,yap,go_sem,aO,cE,bh,c0,c1]
  try (repeat with_reducible refine Yq ?_)
  exact Z1
 |true =>
 rw [c1,Bool.true_and] at hR
 try simp only [aJ,ag,bhq,Nat.reduceMod,Nat.reduceDiv,aC,aB,aD,aT,aE,aS,aP,aQ,aR,yaq,yar,yao,yap,go_sem,aO,cE,bh,bf,c0,c1]
 refine ⟨S.actions,z6,⟨rfl,hS.sl.al,fun x hx H' hle' hcl'=>clB vz ⟨x,⟨rfl,⟨(hS.an x hx).1,(hS.an x hx).2.1,(hS.an x hx).2.2.2⟩⟩,rfl⟩⟩,?_⟩
 cases c2:S.actions.all z6 with
 |false =>
  rw [c2,Bool.false_and] at hR
  subst hR
  try simp only [aJ,ag,bhq,Nat.reduceMod,Nat.reduceDiv,aC,aB,aD,aT,aE,aS,aP,aQ,aR,yaq,yar,yao,yap,go_sem,aO,cE,bh,bf,c0,c1,c2]
  try (repeat with_reducible refine Yq ?_)
  exact Z1
 |true =>
 rw [c2,Bool.true_and] at hR
 try simp only [aJ,ag,bhq,Nat.reduceMod,Nat.reduceDiv,aC,aB,aD,aT,aE,aS,aP,aQ,aR,yaq,yar,yao,yap,go_sem,aO,cE,bh,bf,bg,c0,c1,c2]
 refine ⟨S.tables,Af,⟨rfl,hS.sl.tl,fun x hx H' hle' hcl'=>clB wq ⟨x,⟨rfl,⟨(hS.tn x hx).1,(hS.tn x hx).2.1,(hS.tn x hx).2.2.2.2⟩⟩,rfl⟩⟩,?_⟩
 cases c3:S.tables.all Af with
 |false =>
  rw [c3,Bool.false_and] at hR
  subst hR
  try simp only [aJ,ag,bhq,Nat.reduceMod,Nat.reduceDiv,aC,aB,aD,aT,aE,aS,aP,aQ,aR,yaq,yar,yao,yap,go_sem,aO,cE,bh,bf,bg,c0,c1,c2,c3]
  try (repeat with_reducible refine Yq ?_)
  exact Z1
 |true =>
 rw [c3,Bool.true_and] at hR
 try simp only [aJ,ag,bhq,Nat.reduceMod,Nat.reduceDiv,aC,aB,aD,aT,aE,aS,aP,aQ,aR,yaq,yar,yao,yap,go_sem,aO,cE,bh,bf,bg,bw,c0,c1,c2,c3]
 refine ⟨S.roles,(fun t=>dd t.name),⟨rfl,hS.sl.rl,fun x hx H' hle' hcl'=>clB wY ⟨x,⟨rfl,(hS.rn x hx).1⟩,rfl⟩⟩,?_⟩
 cases c4:S.roles.all fun t=>dd t.name with
 |false =>
  rw [c4] at hR
  subst hR
  try simp only [aJ,ag,bhq,Nat.reduceMod,Nat.reduceDiv,aC,aB,aD,aT,aE,aS,aP,aQ,aR,yaq,yar,yao,yap,go_sem,aO,cE,bh,bf,bg,bw,c0,c1,c2,c3,c4]
  try (repeat with_reducible refine Yq ?_)
  exact Z1
 |true =>
 rw [c4] at hR
 subst hR
 try simp only [aJ,ag,bhq,Nat.reduceMod,Nat.reduceDiv,aC,aB,aD,aT,aE,aS,aP,aQ,aR,yaq,yar,yao,yap,go_sem,aO,cE,bh,bf,bg,bw,c0,c1,c2,c3,c4]
 try (repeat with_reducible refine Yq ?_)
 exact Z1
theorem kg {n:Nat}:decide ((n:Int) > 0)=decide (0<n):=by simp
def nm1 (t:SField):Bool:=wB t.id 1 65534&&wB t.bits 1 128
def nm2 (t:SHeader):Bool:=wB t.id 1 65534&&decide (0<t.fields.length)
def nm4 (t:SAction):Bool:=wB t.id 1 65534&&t.params.all fun p=>wB p.bits 1 128
def nm5 (t:STable):Bool:=wB t.id 1 65534&&(wB t.size 1 64&&decide (0<t.keys.length))
def nm6 (t:SRole):Bool:=wB t.id 1 65534&&decide (t.quota≤512)
def sY (S:Sch):Bool:=wB S.maxBatch 1 32&&(wB S.budget 1 200&&(S.fields.all nm1&&(S.headers.all nm2&&((S.states.all fun t=>wB t.id 1 65534)&&(S.actions.all nm4&&(S.tables.all nm5&&S.roles.all nm6))))))
def xW:List AV→AHeap→(AV→Prop)→Prop
 |[x],H,K=>∃ t:SField,(x=aV t)∧K (.bool (nm1 t))
 |_,_,_=>False
theorem DT:EntOk Tryz.prog 92 (Ent.pure xW):=by
 refine Ype fun _ H K h=>?_
 unfold xW at h
 split at h
 rotate_left
 ·exact h.elim
 rename_i x
 obtain ⟨t,rfl,hK⟩:=h
 refine ⟨_,hK,?_⟩
 clear hK
 generalize hR:(nm1 t)=R
 unfold aV
 refine ACalls.fW ak (tCq nY (tCq t4 tNq)) Tryz.func92 [.tmp 2] (nrq _) (T:=aj []) (h:=fun hcl hlt=>?_)
 clear hlt
 unfold nm1 at hR
 cases c0:wB t.id 1 65534 with
 |false =>
  rw [c0,Bool.false_and] at hR
  subst hR
  try simp only [aJ,ag,bhq,Nat.reduceMod,Nat.reduceDiv,aC,aB,aD,aT,aE,aS,aP,aQ,aR,yaq,yar,yao,yap,go_sem,eQ,c0]
  try (repeat with_reducible refine Yq ?_)
  exact Z1
 |true =>
 rw [c0,Bool.true_and] at hR
 cases c1:wB t.bits 1 128 with
 |false =>
  rw [c1] at hR
  subst hR
  try simp only [aJ,ag,bhq,Nat.reduceMod,Nat.reduceDiv,aC,aB,aD,aT,aE,aS,aP,aQ,aR,yaq,yar,yao,yap,go_sem,eQ,lA,c0,c1]
  try (repeat with_reducible refine Yq ?_)
  exact Z1
 |true =>
 rw [c1] at hR
 subst hR
 try simp only [aJ,ag,bhq,Nat.reduceMod,Nat.reduceDiv,aC,aB,aD,aT,aE,aS,aP,aQ,aR,yaq,yar,yao,yap,go_sem,eQ,lA,c0,c1]
 try (repeat with_reducible refine Yq ?_)
 exact Z1
def xK:List AV→AHeap→(AV→Prop)→Prop
 |[x],H,K=>∃ t:SHeader,(x=aH t)∧K (.bool (nm2 t))
 |_,_,_=>False
theorem Fj:EntOk Tryz.prog 95 (Ent.pure xK):=by
 refine Ype fun _ H K h=>?_
 unfold xK at h
 split at h
 rotate_left
 ·exact h.elim
 rename_i x
 obtain ⟨t,rfl,hK⟩:=h
 refine ⟨_,hK,?_⟩
 clear hK
 generalize hR:(nm2 t)=R
 unfold aH
 refine ACalls.fW ak (tCq nY tNq) Tryz.func95 [.tmp 2] (nrq _) (T:=aj []) (h:=fun hcl hlt=>?_)
 clear hlt
 unfold nm2 at hR
 cases c0:wB t.id 1 65534 with
 |false =>
  rw [c0,Bool.false_and] at hR
  subst hR
  try simp only [aJ,ag,bhq,Nat.reduceMod,Nat.reduceDiv,aC,aB,aD,aT,aE,aS,aP,aQ,aR,yaq,yar,yao,yap,go_sem,ybb,kg,inL,eQ,c0]
  try (repeat with_reducible refine Yq ?_)
  exact Z1
 |true =>
 rw [c0,Bool.true_and] at hR
 cases c1:decide (0<t.fields.length) with
 |false =>
  rw [c1] at hR
  subst hR
  try simp only [aJ,ag,bhq,Nat.reduceMod,Nat.reduceDiv,aC,aB,aD,aT,aE,aS,aP,aQ,aR,yaq,yar,yao,yap,go_sem,ybb,kg,inL,eQ,eQ,c0,c1]
  try (repeat with_reducible refine Yq ?_)
  exact Z1
 |true =>
 rw [c1] at hR
 subst hR
 try simp only [aJ,ag,bhq,Nat.reduceMod,Nat.reduceDiv,aC,aB,aD,aT,aE,aS,aP,aQ,aR,yaq,yar,yao,yap,go_sem,ybb,kg,inL,eQ,eQ,c0,c1]
 try (repeat with_reducible refine Yq ?_)
 exact Z1
def yy:List AV→AHeap→(AV→Prop)→Prop
 |[x],H,K=>∃ t:SState,(x=aL t)∧K (.bool (wB t.id 1 65534))
 |_,_,_=>False
theorem Cc:EntOk Tryz.prog 97 (Ent.pure yy):=by
 refine Ype fun _ H K h=>?_
 unfold yy at h
 split at h
 rotate_left
 ·exact h.elim
 rename_i x
 obtain ⟨t,rfl,hK⟩:=h
 refine ⟨_,hK,?_⟩
 clear hK
 generalize hR:(wB t.id 1 65534)=R
 unfold aL
 refine ACalls.fW ak (tCq nY tNq) Tryz.func97 [.tmp 2] (nrq _) (T:=aj []) (h:=fun hcl hlt=>?_)
 clear hlt
 cases c0:wB t.id 1 65534 with
 |false =>
  rw [c0] at hR
  subst hR
  try simp only [aJ,ag,bhq,Nat.reduceMod,Nat.reduceDiv,aC,aB,aD,aT,aE,aS,aP,aQ,aR,yaq,yar,yao,yap,go_sem,eQ,c0]
  try (repeat with_reducible refine Yq ?_)
  exact Z1
 |true =>
 rw [c0] at hR
 subst hR
 try simp only [aJ,ag,bhq,Nat.reduceMod,Nat.reduceDiv,aC,aB,aD,aT,aE,aS,aP,aQ,aR,yaq,yar,yao,yap,go_sem,eQ,c0]
 try (repeat with_reducible refine Yq ?_)
 exact Z1
def t7:List AV→AHeap→(AV→Prop)→Prop
 |[x],H,K=>∃ t:SParam,(x=bv t)∧K (.bool (wB t.bits 1 128))
 |_,_,_=>False
theorem Az:EntOk Tryz.prog 99 (Ent.pure t7):=by
 refine Ype fun _ H K h=>?_
 unfold t7 at h
 split at h
 rotate_left
 ·exact h.elim
 rename_i x
 obtain ⟨t,rfl,hK⟩:=h
 refine ⟨_,hK,?_⟩
 clear hK
 generalize hR:(wB t.bits 1 128)=R
 unfold bv
 refine ACalls.fW ak (tCq t4 tNq) Tryz.func99 [.tmp 2] (nrq _) (T:=aj []) (h:=fun hcl hlt=>?_)
 clear hlt
 cases c0:wB t.bits 1 128 with
 |false =>
  rw [c0] at hR
  subst hR
  try simp only [aJ,ag,bhq,Nat.reduceMod,Nat.reduceDiv,aC,aB,aD,aT,aE,aS,aP,aQ,aR,yaq,yar,yao,yap,go_sem,lA,c0]
  try (repeat with_reducible refine Yq ?_)
  exact Z1
 |true =>
 rw [c0] at hR
 subst hR
 try simp only [aJ,ag,bhq,Nat.reduceMod,Nat.reduceDiv,aC,aB,aD,aT,aE,aS,aP,aQ,aR,yaq,yar,yao,yap,go_sem,lA,c0]
 try (repeat with_reducible refine Yq ?_)
 exact Z1
def yv:List AV→AHeap→(AV→Prop)→Prop
 |[x],H,K=>∃ t:SAction,(x=ax t∧t.params.length≤1000000)∧K (.bool (nm4 t))
 |_,_,_=>False
theorem CM:EntOk Tryz.prog 98 (Ent.pure yv):=by
 refine Ype fun _ H K h=>?_
 unfold yv at h
 split at h
 rotate_left
 ·exact h.elim
 rename_i x
 obtain ⟨t,⟨rfl,hc⟩,hK⟩:=h
 refine ⟨_,hK,?_⟩
 clear hK
 generalize hR:(nm4 t)=R
 unfold ax
 refine ACalls.fW ak (tCq nY (tCq tZ tNq)) Tryz.func98 [.tmp 2] (nrq _) (T:=aj []) (h:=fun hcl hlt=>?_)
 clear hlt
 unfold nm4 at hR
 cases c0:wB t.id 1 65534 with
 |false =>
  rw [c0,Bool.false_and] at hR
  subst hR
  try simp only [aJ,ag,bhq,Nat.reduceMod,Nat.reduceDiv,aC,aB,aD,aT,aE,aS,aP,aQ,aR,yaq,yar,yao,yap,go_sem,eQ,c0]
  try (repeat with_reducible refine Yq ?_)
  exact Z1
 |true =>
 rw [c0,Bool.true_and] at hR
 simp only [aJ,ag,bhq,Nat.reduceMod,Nat.reduceDiv,aC,aB,aD,aT,aE,aS,aP,aQ,aR,yaq,yar,yao,yap,go_sem,eQ,kr,c0]
 refine ⟨t.params,(fun p=>wB p.bits 1 128),⟨rfl,hc,fun x hx H' hle' hcl'=>clB Az ⟨x,rfl,rfl⟩⟩,?_⟩
 cases c1:t.params.all fun p=>wB p.bits 1 128 with
 |false =>
  rw [c1] at hR
  subst hR
  try simp only [aJ,ag,bhq,Nat.reduceMod,Nat.reduceDiv,aC,aB,aD,aT,aE,aS,aP,aQ,aR,yaq,yar,yao,yap,go_sem,eQ,kr,c0,c1]
  try (repeat with_reducible refine Yq ?_)
  exact Z1
 |true =>
 rw [c1] at hR
 subst hR
 try simp only [aJ,ag,bhq,Nat.reduceMod,Nat.reduceDiv,aC,aB,aD,aT,aE,aS,aP,aQ,aR,yaq,yar,yao,yap,go_sem,eQ,kr,c0,c1]
 try (repeat with_reducible refine Yq ?_)
 exact Z1
def xV:List AV→AHeap→(AV→Prop)→Prop
 |[x],H,K=>∃ t:STable,(x=az t)∧K (.bool (nm5 t))
 |_,_,_=>False
theorem CQ:EntOk Tryz.prog 100 (Ent.pure xV):=by
 refine Ype fun _ H K h=>?_
 unfold xV at h
 split at h
 rotate_left
 ·exact h.elim
 rename_i x
 obtain ⟨t,rfl,hK⟩:=h
 refine ⟨_,hK,?_⟩
 clear hK
 generalize hR:(nm5 t)=R
 unfold az
 refine ACalls.fW ak (tCq nY (tCq hG tNq)) Tryz.func100 [.tmp 2] (nrq _) (T:=aj []) (h:=fun hcl hlt=>?_)
 clear hlt
 unfold nm5 at hR
 cases c0:wB t.id 1 65534 with
 |false =>
  rw [c0,Bool.false_and] at hR
  subst hR
  try simp only [aJ,ag,bhq,Nat.reduceMod,Nat.reduceDiv,aC,aB,aD,aT,aE,aS,aP,aQ,aR,yaq,yar,yao,yap,go_sem,ybb,kg,inL,eQ,c0]
  try (repeat with_reducible refine Yq ?_)
  exact Z1
 |true =>
 rw [c0,Bool.true_and] at hR
 cases c1:wB t.size 1 64 with
 |false =>
  rw [c1,Bool.false_and] at hR
  subst hR
  try simp only [aJ,ag,bhq,Nat.reduceMod,Nat.reduceDiv,aC,aB,aD,aT,aE,aS,aP,aQ,aR,yaq,yar,yao,yap,go_sem,ybb,kg,inL,eQ,aM,c0,c1]
  try (repeat with_reducible refine Yq ?_)
  exact Z1
 |true =>
 rw [c1,Bool.true_and] at hR
 cases c2:decide (0<t.keys.length) with
 |false =>
  rw [c2] at hR
  subst hR
  try simp only [aJ,ag,bhq,Nat.reduceMod,Nat.reduceDiv,aC,aB,aD,aT,aE,aS,aP,aQ,aR,yaq,yar,yao,yap,go_sem,ybb,kg,inL,eQ,aM,eQ,c0,c1,c2]
  try (repeat with_reducible refine Yq ?_)
  exact Z1
 |true =>
 rw [c2] at hR
 subst hR
 try simp only [aJ,ag,bhq,Nat.reduceMod,Nat.reduceDiv,aC,aB,aD,aT,aE,aS,aP,aQ,aR,yaq,yar,yao,yap,go_sem,ybb,kg,inL,eQ,aM,eQ,c0,c1,c2]
 try (repeat with_reducible refine Yq ?_)
 exact Z1
def yr:List AV→AHeap→(AV→Prop)→Prop
 |[x],H,K=>∃ t:SRole,(x=br t)∧K (.bool (nm6 t))
 |_,_,_=>False
theorem Bl:EntOk Tryz.prog 101 (Ent.pure yr):=by
 refine Ype fun _ H K h=>?_
 unfold yr at h
 split at h
 rotate_left
 ·exact h.elim
 rename_i x
 obtain ⟨t,rfl,hK⟩:=h
 refine ⟨_,hK,?_⟩
 clear hK
 generalize hR:(nm6 t)=R
 unfold br
 refine ACalls.fW ak (tCq nY tNq) Tryz.func101 [.tmp 2] (nrq _) (T:=aj []) (h:=fun hcl hlt=>?_)
 clear hlt
 unfold nm6 at hR
 cases c0:wB t.id 1 65534 with
 |false =>
  rw [c0,Bool.false_and] at hR
  subst hR
  try simp only [aJ,ag,bhq,Nat.reduceMod,Nat.reduceDiv,aC,aB,aD,aT,aE,aS,aP,aQ,aR,yaq,yar,yao,yap,go_sem,eQ,c0]
  try (repeat with_reducible refine Yq ?_)
  exact Z1
 |true =>
 rw [c0,Bool.true_and] at hR
 cases c1:decide (t.quota≤512) with
 |false =>
  rw [c1] at hR
  subst hR
  try simp only [aJ,ag,bhq,Nat.reduceMod,Nat.reduceDiv,aC,aB,aD,aT,aE,aS,aP,aQ,aR,yaq,yar,yao,yap,go_sem,eQ,eQ,c0,c1]
  try (repeat with_reducible refine Yq ?_)
  exact Z1
 |true =>
 rw [c1] at hR
 subst hR
 try simp only [aJ,ag,bhq,Nat.reduceMod,Nat.reduceDiv,aC,aB,aD,aT,aE,aS,aP,aQ,aR,yaq,yar,yao,yap,go_sem,eQ,eQ,c0,c1]
 try (repeat with_reducible refine Yq ?_)
 exact Z1
def j3:List AV→AHeap→(AV→Prop)→Prop
 |[.agg l],_,K=>∃ S:Sch,(l=aO S∧SB S)∧K (.bool (sY S))
 |_,_,_=>False
theorem Hg:EntOk Tryz.prog 32 (Ent.pure j3):=by
 refine Ype fun _ H K h=>?_
 unfold j3 at h
 split at h
 rotate_left
 ·exact h.elim
 rename_i l
 obtain ⟨S,⟨rfl,hS⟩,hK⟩:=h
 refine ⟨_,hK,?_⟩
 clear hK
 generalize hR:sY S=R
 unfold sY at hR
 refine ACalls.fW ak (tCq hG (tCq uP (tCq mM (tCq mG (tCq lj (tCq jH (tCq kO tNq))))))) Tryz.func32 [.tmp 2] (nrq _) (T:=aj []) (h:=fun hcl hlt=>?_)
 clear hlt
 cases c0:wB S.maxBatch 1 32 with
 |false =>
  rw [c0,Bool.false_and] at hR
  subst hR
  try simp only [aJ,ag,bhq,Nat.reduceMod,Nat.reduceDiv,aC,aB,aD,aT,aE,aS,aP,aQ,aR,yaq,yar,yao,yap,go_sem,aO,aM,c0]
  try (repeat with_reducible refine Yq ?_)
  exact Z1
 |true =>
 rw [c0,Bool.true_and] at hR
 cases c1:wB S.budget 1 200 with
 |false =>
  rw [c1,Bool.false_and] at hR
  subst hR
  try simp only [aJ,ag,bhq,Nat.reduceMod,Nat.reduceDiv,aC,aB,aD,aT,aE,aS,aP,aQ,aR,yaq,yar,yao,yap,go_sem,aO,aM,aM,c0,c1]
  try (repeat with_reducible refine Yq ?_)
  exact Z1
 |true =>
 rw [c1,Bool.true_and] at hR
 simp only [aJ,ag,bhq,Nat.reduceMod,Nat.reduceDiv,aC,aB,aD,aT,aE,aS,aP,aQ,aR,yaq,yar,yao,yap,go_sem,aO,aM,aM,cE,c0,c1]
 refine ⟨S.fields,nm1,⟨rfl,hS.sl.fl,fun x hx H' hle' hcl'=>clB DT ⟨x,rfl,rfl⟩⟩,?_⟩
 cases c2:S.fields.all nm1 with
 |false =>
  rw [c2,Bool.false_and] at hR
  subst hR
  try simp only [aJ,ag,bhq,Nat.reduceMod,Nat.reduceDiv,aC,aB,aD,aT,aE,aS,aP,aQ,aR,yaq,yar,yao,yap,go_sem,aO,aM,aM,cE,c0,c1,c2]
  try (repeat with_reducible refine Yq ?_)
  exact Z1
 |true =>
 rw [c2,Bool.true_and] at hR
 try simp only [aJ,ag,bhq,Nat.reduceMod,Nat.reduceDiv,aC,aB,aD,aT,aE,aS,aP,aQ,aR,yaq,yar,yao,yap,go_sem,aO,aM,aM,cE,bh,c0,c1,c2]
 refine ⟨S.headers,nm2,⟨rfl,hS.sl.hl,fun x hx H' hle' hcl'=>clB Fj ⟨x,rfl,rfl⟩⟩,?_⟩
 cases c3:S.headers.all nm2 with
 |false =>
  rw [c3,Bool.false_and] at hR
  subst hR
  try simp only [aJ,ag,bhq,Nat.reduceMod,Nat.reduceDiv,aC,aB,aD,aT,aE,aS,aP,aQ,aR,yaq,yar,yao,yap,go_sem,aO,aM,aM,cE,bh,c0,c1,c2,c3]
  try (repeat with_reducible refine Yq ?_)
  exact Z1
 |true =>
 rw [c3,Bool.true_and] at hR
 try simp only [aJ,ag,bhq,Nat.reduceMod,Nat.reduceDiv,aC,aB,aD,aT,aE,aS,aP,aQ,aR,yaq,yar,yao,yap,go_sem,aO,aM,aM,cE,bh,bn,c0,c1,c2,c3]
 refine ⟨S.states,(fun t=>wB t.id 1 65534),⟨rfl,hS.sl.sl,fun x hx H' hle' hcl'=>clB Cc ⟨x,rfl,rfl⟩⟩,?_⟩
 cases c4:S.states.all fun t=>wB t.id 1 65534 with
 |false =>
  rw [c4,Bool.false_and] at hR
  subst hR
  try simp only [aJ,ag,bhq,Nat.reduceMod,Nat.reduceDiv,aC,aB,aD,aT,aE,aS,aP,aQ,aR,yaq,yar,yao,yap,go_sem,aO,aM,aM,cE,bh,bn,c0,c1,c2,c3,c4]
  try (repeat with_reducible refine Yq ?_)
  exact Z1
 |true =>
 rw [c4,Bool.true_and] at hR
 try simp only [aJ,ag,bhq,Nat.reduceMod,Nat.reduceDiv,aC,aB,aD,aT,aE,aS,aP,aQ,aR,yaq,yar,yao,yap,go_sem,aO,aM,aM,cE,bh,bn,bf,c0,c1,c2,c3,c4]
 refine ⟨S.actions,nm4,⟨rfl,hS.sl.al,fun x hx H' hle' hcl'=>clB CM ⟨x,⟨rfl,(hS.an x hx).2.1⟩,rfl⟩⟩,?_⟩
 cases c5:S.actions.all nm4 with
 |false =>
  rw [c5,Bool.false_and] at hR
  subst hR
  try simp only [aJ,ag,bhq,Nat.reduceMod,Nat.reduceDiv,aC,aB,aD,aT,aE,aS,aP,aQ,aR,yaq,yar,yao,yap,go_sem,aO,aM,aM,cE,bh,bn,bf,c0,c1,c2,c3,c4,c5]
  try (repeat with_reducible refine Yq ?_)
  exact Z1
 |true =>
 rw [c5,Bool.true_and] at hR
 try simp only [aJ,ag,bhq,Nat.reduceMod,Nat.reduceDiv,aC,aB,aD,aT,aE,aS,aP,aQ,aR,yaq,yar,yao,yap,go_sem,aO,aM,aM,cE,bh,bn,bf,bg,c0,c1,c2,c3,c4,c5]
 refine ⟨S.tables,nm5,⟨rfl,hS.sl.tl,fun x hx H' hle' hcl'=>clB CQ ⟨x,rfl,rfl⟩⟩,?_⟩
 cases c6:S.tables.all nm5 with
 |false =>
  rw [c6,Bool.false_and] at hR
  subst hR
  try simp only [aJ,ag,bhq,Nat.reduceMod,Nat.reduceDiv,aC,aB,aD,aT,aE,aS,aP,aQ,aR,yaq,yar,yao,yap,go_sem,aO,aM,aM,cE,bh,bn,bf,bg,c0,c1,c2,c3,c4,c5,c6]
  try (repeat with_reducible refine Yq ?_)
  exact Z1
 |true =>
 rw [c6,Bool.true_and] at hR
 try simp only [aJ,ag,bhq,Nat.reduceMod,Nat.reduceDiv,aC,aB,aD,aT,aE,aS,aP,aQ,aR,yaq,yar,yao,yap,go_sem,aO,aM,aM,cE,bh,bn,bf,bg,bw,c0,c1,c2,c3,c4,c5,c6]
 refine ⟨S.roles,nm6,⟨rfl,hS.sl.rl,fun x hx H' hle' hcl'=>clB Bl ⟨x,rfl,rfl⟩⟩,?_⟩
 cases c7:S.roles.all nm6 with
 |false =>
  rw [c7] at hR
  subst hR
  try simp only [aJ,ag,bhq,Nat.reduceMod,Nat.reduceDiv,aC,aB,aD,aT,aE,aS,aP,aQ,aR,yaq,yar,yao,yap,go_sem,aO,aM,aM,cE,bh,bn,bf,bg,bw,c0,c1,c2,c3,c4,c5,c6,c7]
  try (repeat with_reducible refine Yq ?_)
  exact Z1
 |true =>
 rw [c7] at hR
 subst hR
 try simp only [aJ,ag,bhq,Nat.reduceMod,Nat.reduceDiv,aC,aB,aD,aT,aE,aS,aP,aQ,aR,yaq,yar,yao,yap,go_sem,aO,aM,aM,cE,bh,bn,bf,bg,bw,c0,c1,c2,c3,c4,c5,c6,c7]
 try (repeat with_reducible refine Yq ?_)
 exact Z1
end Go.AL
