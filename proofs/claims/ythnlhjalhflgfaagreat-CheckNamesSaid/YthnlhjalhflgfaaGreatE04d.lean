/- Lemmas of the proof; no condition. -/
import Derived.Test.YthnlhjalhflgfaaGreatS12a
set_option linter.all false
set_option maxRecDepth 10000
set_option maxHeartbeats 32000000
open List renaming length_cons → yaz, length_nil → yba, length_map → ybb, take_of_length_le → ybc, drop_append → ybd, take_append → ybe, drop_eq_nil_of_le → ybf, take_succ_cons → yaq, take_zero → yar, drop_succ_cons → yao, drop_zero → yap
open Go Go.AL Go.Proofs
namespace Go.AL
theorem Lg:ti Tryz.prog 45=some ⟨.struct [(0,3,false),(1,9,false),(2,3,false)],3,32,.agg [.int .i64 0,.str [],.int .i64 0]⟩:=by kernel_rfl
theorem Gn:ti Tryz.prog 25=some ⟨.slice 45,1,24,.slice .nil 1 []⟩:=by kernel_rfl
theorem DL:ti Tryz.prog 174=some ⟨.func,1,8,.nilf⟩:=by kernel_rfl
theorem Ll:ti Tryz.prog 69=some ⟨.struct [(0,3,false),(1,9,false),(2,23,false)],3,48,.agg [.int .i64 0,.str [],.slice .nil 1 []]⟩:=by kernel_rfl
theorem Hq:ti Tryz.prog 26=some ⟨.slice 69,1,24,.slice .nil 1 []⟩:=by kernel_rfl
theorem E8:ti Tryz.prog 176=some ⟨.func,1,8,.nilf⟩:=by kernel_rfl
theorem I2:ti Tryz.prog 81=some ⟨.struct [(0,3,false),(1,3,false),(2,3,false),(3,79,false),(4,3,false)],5,56,.agg [.int .i64 0,.int .i64 0,.int .i64 0,.slice .nil 1 [],.int .i64 0]⟩:=by kernel_rfl
theorem Fb:ti Tryz.prog 27=some ⟨.slice 81,1,24,.slice .nil 1 []⟩:=by kernel_rfl
theorem Ep:ti Tryz.prog 188=some ⟨.func,1,8,.nilf⟩:=by kernel_rfl
theorem Ly:ti Tryz.prog 86=some ⟨.struct [(0,3,false),(1,9,false),(2,83,false),(3,84,false),(4,9,false)],5,88,.agg [.int .i64 0,.str [],.slice .nil 1 [],.slice .nil 1 [],.str []]⟩:=by kernel_rfl
theorem G1:ti Tryz.prog 28=some ⟨.slice 86,1,24,.slice .nil 1 []⟩:=by kernel_rfl
theorem GQ:ti Tryz.prog 180=some ⟨.func,1,8,.nilf⟩:=by kernel_rfl
theorem J8:ti Tryz.prog 114=some ⟨.struct [(0,9,false),(1,3,false)],2,24,.agg [.str [],.int .i64 0]⟩:=by kernel_rfl
theorem CN:ti Tryz.prog 83=some ⟨.slice 114,1,24,.slice .nil 1 []⟩:=by kernel_rfl
theorem EW:ti Tryz.prog 179=some ⟨.func,1,8,.nilf⟩:=by kernel_rfl
theorem Lo:ti Tryz.prog 57=some ⟨.struct [(0,3,false),(1,9,false),(2,54,false),(3,23,false),(4,3,false),(5,55,false),(6,3,false),(7,9,false)],8,128,.agg [.int .i64 0,.str [],.slice .nil 1 [],.slice .nil 1 [],.int .i64 0,.slice .nil 1 [],.int .i64 0,.str []]⟩:=by kernel_rfl
theorem Hj:ti Tryz.prog 29=some ⟨.slice 57,1,24,.slice .nil 1 []⟩:=by kernel_rfl
theorem F3:ti Tryz.prog 103=some ⟨.func,1,8,.nilf⟩:=by kernel_rfl
theorem Jf:ti Tryz.prog 53=some ⟨.struct [(0,9,false),(1,3,false),(2,3,false)],3,32,.agg [.str [],.int .i64 0,.int .i64 0]⟩:=by kernel_rfl
theorem DQ:ti Tryz.prog 54=some ⟨.slice 53,1,24,.slice .nil 1 []⟩:=by kernel_rfl
theorem EV:ti Tryz.prog 183=some ⟨.func,1,8,.nilf⟩:=by kernel_rfl
theorem Ir:ti Tryz.prog 48=some ⟨.struct [(0,3,false),(1,9,false),(2,46,false),(3,23,false),(4,3,false),(5,4,false)],6,88,.agg [.int .i64 0,.str [],.slice .nil 1 [],.slice .nil 1 [],.int .i64 0,.bool false]⟩:=by kernel_rfl
theorem FX:ti Tryz.prog 31=some ⟨.slice 48,1,24,.slice .nil 1 []⟩:=by kernel_rfl
theorem DC:ti Tryz.prog 185=some ⟨.func,1,8,.nilf⟩:=by kernel_rfl
theorem JL:ti Tryz.prog 112=some ⟨.struct [(0,3,false),(1,3,false),(2,110,false)],6,48,.agg [.int .i64 0,.int .i64 0,.int .i64 0,.int .i64 0,.int .u64 0,.int .u64 0]⟩:=by kernel_rfl
theorem HV:ti Tryz.prog 84=some ⟨.slice 112,1,24,.slice .nil 1 []⟩:=by kernel_rfl
theorem DF:ti Tryz.prog 205=some ⟨.func,1,8,.nilf⟩:=by kernel_rfl
theorem JG:ti Tryz.prog 75=some ⟨.struct [(0,3,false),(1,3,false)],2,16,.agg [.int .i64 0,.int .i64 0]⟩:=by kernel_rfl
theorem Hy:ti Tryz.prog 30=some ⟨.slice 75,1,24,.slice .nil 1 []⟩:=by kernel_rfl
theorem EA:ti Tryz.prog 211=some ⟨.func,1,8,.nilf⟩:=by kernel_rfl
theorem I8:ti Tryz.prog 119=some ⟨.struct [(0,3,false),(1,4,false),(2,4,false),(3,117,false)],4,40,.agg [.int .i64 0,.bool false,.bool false,.slice .nil 1 []]⟩:=by kernel_rfl
theorem F4:ti Tryz.prog 46=some ⟨.slice 119,1,24,.slice .nil 1 []⟩:=by kernel_rfl
theorem FN:ti Tryz.prog 213=some ⟨.func,1,8,.nilf⟩:=by kernel_rfl
theorem JY:ti Tryz.prog 108=some ⟨.struct [(0,106,false),(2,106,false),(4,3,false)],5,40,.agg [.int .u64 0,.int .u64 0,.int .u64 0,.int .u64 0,.int .i64 0]⟩:=by kernel_rfl
theorem D3:ti Tryz.prog 79=some ⟨.slice 108,1,24,.slice .nil 1 []⟩:=by kernel_rfl
theorem F1:ti Tryz.prog 219=some ⟨.func,1,8,.nilf⟩:=by kernel_rfl
theorem Km:ti Tryz.prog 50=some ⟨.struct [(0,3,false),(1,3,false),(2,3,false),(3,3,false),(4,3,false),(5,3,false)],6,48,.agg [.int .i64 0,.int .i64 0,.int .i64 0,.int .i64 0,.int .i64 0,.int .i64 0]⟩:=by kernel_rfl
theorem Hm:ti Tryz.prog 32=some ⟨.slice 50,1,24,.slice .nil 1 []⟩:=by kernel_rfl
theorem FM:ti Tryz.prog 99=some ⟨.func,1,8,.nilf⟩:=by kernel_rfl
theorem J0:ti Tryz.prog 3=some ⟨.int .i64,1,8,.int .i64 0⟩:=by kernel_rfl
theorem FI:ti Tryz.prog 23=some ⟨.slice 3,1,24,.slice .nil 1 []⟩:=by kernel_rfl
theorem Fw:ti Tryz.prog 100=some ⟨.func,1,8,.nilf⟩:=by kernel_rfl
attribute [go_sem] Lg Gn DL Ll Hq E8 I2 Fb Ep Ly G1 GQ J8 CN EW Lo Hj F3 Jf DQ EV Ir FX DC JL HV DF JG Hy EA I8 F4 FN JY D3 F1 Km Hm FM J0 FI Fw
def fT (P:Program) (F:FuncId):List AV→AHeap→(AV→Prop)→Prop:=fun args H K=>∃ x,K x∧ACalls P F args H (.ret x) H
theorem cK {P:Program} {F:FuncId}:EntOk P F (Ent.pure (fT P F)):=EntOk.pure fun _ _ _ h=>h
theorem ep {α:Type} {q:α→Bool}:∀ {l:List α} {k:Nat},decide (0≤ixP q l k)=l.any q
 |[],_=>rfl
 |x::l,k=>by
  unfold ixP
  rw [List.any_cons]
  cases h:q x
  ·rw [if_neg (by decide),ep,Bool.false_or]
  ·rw [if_pos rfl,Bool.true_or];exact dtq (Int.natCast_nonneg _)
theorem gt {α:Type} {q:α→Bool} {l:List α}:(!(l.any fun x=>!q x))=l.all q:=by
 induction l with
 |nil=>rfl
 |cons x l ih=>rw [List.any_cons,List.all_cons,← ih];cases q x<;>simp
theorem tfB:(∀ x,(true&&x)=x)∧(∀ x,(false&&x)=false)∧(∀ x,(x&&true)=x)∧(∀ x,(x&&false)=false)∧(∀ x,(true||x)=true)∧(∀ x,(false||x)=x)∧(∀ x,(x||true)=true)∧(∀ x,(x||false)=x)∧(!true)=false∧(!false)=true∧(false=true)=False∧(true=false)=False:=by decide +revert
theorem clB {P:Program} {f:FuncId} {p:List AV→AHeap→(AV→Prop)→Prop} {args:List AV} {H:AHeap} {b:AV} (h:EntOk P f (Ent.pure p)) (hp:p args H (fun v=>v=b)):ACalls P f args H (.ret b) H:=by
 obtain ⟨v,hv,hc⟩:=h.1 rfl _ _ _ hp
 subst hv
 exact hc
def AV.smk:AV→Mark
 |.slice m _ _=>m
 |_=>.any
def pIx {α:Type} (P:Program) (av:α→AV) (sz:Nat):List AV→AHeap→(AV→Prop)→Prop
 |[x,.func (.func F) fst caps],H,K=>∃ (ts:List α) (q:α→Bool),(x=.slice x.smk sz (ts.map av)∧ts.length≤1000000∧∀ x∈ts,ACalls P F (fst++[av x]++caps) H (.ret (.bool (q x))) H)∧K (.int .i64 (ixP q ts 0))
 |_,_,_=>False
theorem iM {α:Type} {P:Program} {f:FuncId} {av:α→AV} {sz:Nat} (h:∀ (av':α→AV) (sz':Nat),av'=av→sz'=sz→∀ (m:Mark) (ts:List α) (q:α→Bool) (F:FuncId) (fst caps:List AV) (H:AHeap),ts.length≤1000000→(∀ x∈ts,ACalls P F (fst++[av' x]++caps) H (.ret (.bool (q x))) H)→ACalls P f [.slice m sz' (ts.map av'),.func (.func F) fst caps] H (.ret (.int .i64 (ixP q ts 0))) H):EntOk P f (Ent.pure (pIx P av sz)):=by
 refine EntOk.pure fun args H K hh=>?_
 unfold pIx at hh
 split at hh
 ·obtain ⟨ts,q,⟨h1,h2,h3⟩,h4⟩:=hh
  rw [h1]
  exact ⟨_,h4,h av sz rfl rfl _ ts q _ _ _ _ h2 h3⟩
 ·exact hh.elim
def pAn {α:Type} (P:Program) (av:α→AV) (sz:Nat):List AV→AHeap→(AV→Prop)→Prop
 |[x,.func (.func F) fst caps],H,K=>∃ (ts:List α) (q:α→Bool),(x=.slice x.smk sz (ts.map av)∧ts.length≤1000000∧∀ x∈ts,ACalls P F (fst++[av x]++caps) H (.ret (.bool (q x))) H)∧K (.bool (ts.any q))
 |_,_,_=>False
theorem iu {α:Type} {P:Program} {f:FuncId} {av:α→AV} {sz:Nat} (h:∀ (av':α→AV) (sz':Nat),av'=av→sz'=sz→∀ (m:Mark) (ts:List α) (q:α→Bool) (F:FuncId) (fst caps:List AV) (H:AHeap),ts.length≤1000000→(∀ x∈ts,ACalls P F (fst++[av' x]++caps) H (.ret (.bool (q x))) H)→ACalls P f [.slice m sz' (ts.map av'),.func (.func F) fst caps] H (.ret (.bool (ts.any q))) H):EntOk P f (Ent.pure (pAn P av sz)):=by
 refine EntOk.pure fun args H K hh=>?_
 unfold pAn at hh
 split at hh
 ·obtain ⟨ts,q,⟨h1,h2,h3⟩,h4⟩:=hh
  rw [h1]
  exact ⟨_,h4,h av sz rfl rfl _ ts q _ _ _ _ h2 h3⟩
 ·exact hh.elim
def pEv {α:Type} (P:Program) (av:α→AV) (sz:Nat):List AV→AHeap→(AV→Prop)→Prop
 |[x,.func (.func F) fst caps],H,K=>∃ (ts:List α) (q:α→Bool),(x=.slice x.smk sz (ts.map av)∧ts.length≤1000000∧∀ x∈ts,∀ H',H.Le H'→H'.Closed→ACalls P F (fst++[av x]++caps) H' (.ret (.bool (q x))) H')∧K (.bool (ts.all q))
 |_,_,_=>False
theorem iK {α:Type} {P:Program} {f:FuncId} {av:α→AV} {sz:Nat} (h:∀ (av':α→AV) (sz':Nat),av'=av→sz'=sz→∀ (m:Mark) (ts:List α) (q:α→Bool) (F:FuncId) (fst caps:List AV) (H:AHeap),ts.length≤1000000→(∀ x∈ts,∀ H',H.Le H'→H'.Closed→ACalls P F (fst++[av' x]++caps) H' (.ret (.bool (q x))) H')→ACalls P f [.slice m sz' (ts.map av'),.func (.func F) fst caps] H (.ret (.bool (ts.all q))) H):EntOk P f (Ent.pure (pEv P av sz)):=by
 refine EntOk.pure fun args H K hh=>?_
 unfold pEv at hh
 split at hh
 ·obtain ⟨ts,q,⟨h1,h2,h3⟩,h4⟩:=hh
  rw [h1]
  exact ⟨_,h4,h av sz rfl rfl _ ts q _ _ _ _ h2 h3⟩
 ·exact hh.elim
def pCl {α:Type} (P:Program) (av:α→AV):List AV→AHeap→(AV→Prop)→Prop
 |[x,.ptr c 0],H,K=>∃ (t:α) (b:Bool) (F:FuncId) (fst caps:List AV),(x=av t∧H.get c=some (.cells [.func (.func F) fst caps])∧∀ H',H.Le H'→H'.Closed→ACalls P F (fst++[av t]++caps) H' (.ret (.bool b)) H')∧K (.bool (!b))
 |_,_,_=>False
theorem iG {α:Type} {P:Program} {f:FuncId} {av:α→AV} (h:∀ (av':α→AV),av'=av→∀ (t:α) (c:Nat) (b:Bool) (F:FuncId) (fst caps:List AV) (H:AHeap),H.get c=some (.cells [.func (.func F) fst caps])→(∀ H',H.Le H'→H'.Closed→ACalls P F (fst++[av' t]++caps) H' (.ret (.bool b)) H')→ACalls P f [av' t,.ptr c 0] H (.ret (.bool (!b))) H):EntOk P f (Ent.pure (pCl P av)):=by
 refine EntOk.pure fun args H K hh=>?_
 unfold pCl at hh
 split at hh
 ·obtain ⟨t,b,F,fst,caps,⟨h1,h2,h3⟩,h4⟩:=hh
  rw [h1]
  exact ⟨_,h4,h av rfl t _ b _ _ _ _ h2 h3⟩
 ·exact hh.elim
attribute [go_sem] pIx pAn pEv pCl
abbrev JA:=@pIx SField Tryz.prog aX 3
abbrev Kh:=@pAn SField Tryz.prog aX 3
abbrev dj:=@pEv SField Tryz.prog aX 3
abbrev I3:=@pCl SField Tryz.prog aX
theorem FZ:EntOk Tryz.prog 318 (Ent.pure JA):=iM fun av sz ha hs m ts q F fst caps H hl hq=>by
 have hag:∀ x,∃ cs,av x=.agg cs∧cs.length=sz:=by subst ha hs;exact fun x=>⟨_,rfl,rfl⟩
 refine ACalls.fW ap (tCq (cK (F:=F)) tNq) Tryz.func318 [.tmp 4] (nrq _) (T:=aj []) (h:=fun hcl hlt=>?_)
 generalize hR:ixP q ts 0=R
 have hm:AV.lt H.nx (.slice m sz (ts.map av)):=hlt _ (by simp)
 have hf:AV.lt H.nx (.func (.func F) fst caps):=hlt _ (by simp)
 clear hlt
 simp only [go_sem,ybb]
 refine aD (A:=Nat) (fun k=>[(0,.slice m sz (ts.map av)),(1,.func (.func F) fst caps),(7,.int .i64 (ts.length:Int)),(8,.int .i64 (k:Int))]) (fun _=>H) (fun k=>k≤ts.length∧ixP q (ts.drop k) k=R) (fun k=>ts.length - k) 0 ⟨by omega,hR⟩ ?_ fun k hk=>?_
 ·exact ⟨nrq _,lRq _,hcl,by simp [ltF,znf,hm,hf],by simp [bk,wk2,wk1,wkM,Fr.get]⟩
 clear hR
 obtain ⟨hk,hR⟩:=hk
 simp only [go_sem]
 refine ak (fun hc=>?_) (fun hc=>?_)
 ·have hk':k<ts.length:=by simp at hc;omega
  obtain ⟨x,hx⟩:∃ x,x=ts[k]:=⟨_,rfl⟩
  have hd:ts.drop k=x::ts.drop (k+1):=by rw [hx];exact dcq hk'
  have hg':=a0 (f:=av) (l:=ts) (k:=k) (x:=x) (by rw [gQq hk',hx])
  have e5:=Yk5 k
  rw [hd] at hR
  unfold ixP at hR
  have hqx:=hq x (by rw [hx];exact gMq hk')
  obtain ⟨cs,hcs,hcl3⟩:=hag x
  have hts:List.take sz cs=cs:=ybc (by omega)
  rw [hcs] at hqx
  clear ha hag
  subst hs
  simp only [go_sem,iNq,ybb,hg',hcs,hcl3,hts,fT]
  (repeat with_reducible refine Yq ?_)
  refine ⟨_,?_,hqx⟩
  try simp only [ah,go_sem]
  try (repeat with_reducible refine Yq ?_)
  refine ak (fun hq=>?_) (fun hq=>?_)
  ·rw [if_pos hq] at hR
   subst hR
   simp only [go_sem]
   exact Z1
  ·rw [if_neg (by rw [hq];decide)] at hR
   simp only [go_sem,e5]
   exact ⟨k+1,⟨by omega,hR⟩,by omega,nrq _,lRq _,hcl,by simp [ltF,znf,hm,hf],by simp [bk,wk2,wk1,wkM,Fr.get]⟩
 ·have hk':k=ts.length:=by simp at hc;omega
  subst hk'
  rw [List.drop_length] at hR
  unfold ixP at hR
  subst hR
  simp only [go_sem]
  exact Z1
theorem Hv:EntOk Tryz.prog 233 (Ent.pure Kh):=iu fun av sz ha hs m ts q F fst caps H hl hq=>by
 refine ACalls.fW ap (tCq FZ tNq) Tryz.func233 [.tmp 4] (nrq _) (T:=aj []) (h:=fun hcl hlt=>?_)
 clear hlt
 have hR:=@ep _ q ts 0
 generalize ts.any q=R at *
 subst hs
 simp only [go_sem]
 refine ⟨ts,q,⟨by rw [ha];rfl,hl,by rw [← ha];exact hq⟩,?_⟩
 simp only [ah,go_sem,hR]
 exact Z1
theorem EM:EntOk Tryz.prog 234 (Ent.pure I3):=iG fun av ha t c b F fst caps H hg hq=>by
 have hag:∀ x,∃ cs,av x=.agg cs∧cs.length=3:=by subst ha;exact fun x=>⟨_,rfl,rfl⟩
 refine ACalls.fW ap (tCq (cK (F:=F)) tNq) Tryz.func234 [.tmp 3] (nrq _) (T:=aj []) (h:=fun hcl hlt=>?_)
 have hcs:=ag hg
 have hl:=glq hg
 have hne:(c=H.nx)=False:=eq_false (by omega)
 obtain ⟨cs,hav,hcl3⟩:=hag t
 have hts:=ybc (Nat.le_of_eq hcl3)
 rw [hav] at hq hlt ⊢
 have hlx:=hlt _ (List.mem_cons_self)
 clear hlt
 simp only [go_sem,hcs,hne,hg,hcl3,hts,fT]
 refine ⟨_,?_,hq _ ((lRq _).push _) ?_⟩
 ·try simp only [ah,go_sem]
  exact Z1
 ·have h0:=AV.lt_mono (Nat.le_succ H.nx) _ hlx
  rw [znr] at h0
  exact af hcl h0
theorem wI:EntOk Tryz.prog 75 (Ent.pure dj):=iK fun av sz ha hs m ts q F fst caps H hl hq=>by
 have hL:EntOk Tryz.prog 234 (Ent.pure (pCl Tryz.prog av)):=by rw [ha];exact EM
 refine ACalls.fW ap (tCq Hv tNq) Tryz.func75 [.tmp 4] (nrq _) (T:=aj []) (h:=fun hcl hlt=>?_)
 have hR:=@gt _ q ts
 generalize ts.all q=R at *
 have hfx:=hlt _ (List.mem_cons_of_mem _ List.mem_cons_self)
 clear hlt
 subst hs
 simp only [go_sem]
 refine ⟨ts,fun x=>!q x,⟨by rw [ha];rfl,hl,fun x hx=>?_⟩,?_⟩
 ·rw [← ha]
  exact clB hL ⟨x,q x,F,fst,caps,⟨rfl,by simp only [go_sem],fun H' h1 h2=>hq x hx H' (((lRq _).push _).trans h1) h2⟩,rfl⟩
 ·rw [hR]
  try simp only [ah,go_sem]
  exact Z1
abbrev KH:=@pIx SHeader Tryz.prog aH 3
abbrev KW:=@pAn SHeader Tryz.prog aH 3
abbrev bp:=@pEv SHeader Tryz.prog aH 3
abbrev Jq:=@pCl SHeader Tryz.prog aH
theorem DM:EntOk Tryz.prog 319 (Ent.pure KH):=iM fun av sz ha hs m ts q F fst caps H hl hq=>by
 have hag:∀ x,∃ cs,av x=.agg cs∧cs.length=sz:=by subst ha hs;exact fun x=>⟨_,rfl,rfl⟩
 refine ACalls.fW ap (tCq (cK (F:=F)) tNq) Tryz.func319 [.tmp 4] (nrq _) (T:=aj []) (h:=fun hcl hlt=>?_)
 generalize hR:ixP q ts 0=R
 have hm:AV.lt H.nx (.slice m sz (ts.map av)):=hlt _ (by simp)
 have hf:AV.lt H.nx (.func (.func F) fst caps):=hlt _ (by simp)
 clear hlt
 simp only [go_sem,ybb]
 refine aD (A:=Nat) (fun k=>[(0,.slice m sz (ts.map av)),(1,.func (.func F) fst caps),(7,.int .i64 (ts.length:Int)),(8,.int .i64 (k:Int))]) (fun _=>H) (fun k=>k≤ts.length∧ixP q (ts.drop k) k=R) (fun k=>ts.length - k) 0 ⟨by omega,hR⟩ ?_ fun k hk=>?_
 ·exact ⟨nrq _,lRq _,hcl,by simp [ltF,znf,hm,hf],by simp [bk,wk2,wk1,wkM,Fr.get]⟩
 clear hR
 obtain ⟨hk,hR⟩:=hk
 simp only [go_sem]
 refine ak (fun hc=>?_) (fun hc=>?_)
 ·have hk':k<ts.length:=by simp at hc;omega
  obtain ⟨x,hx⟩:∃ x,x=ts[k]:=⟨_,rfl⟩
  have hd:ts.drop k=x::ts.drop (k+1):=by rw [hx];exact dcq hk'
  have hg':=a0 (f:=av) (l:=ts) (k:=k) (x:=x) (by rw [gQq hk',hx])
  have e5:=Yk5 k
  rw [hd] at hR
  unfold ixP at hR
  have hqx:=hq x (by rw [hx];exact gMq hk')
  obtain ⟨cs,hcs,hcl3⟩:=hag x
  have hts:List.take sz cs=cs:=ybc (by omega)
  rw [hcs] at hqx
  clear ha hag
  subst hs
  simp only [go_sem,iNq,ybb,hg',hcs,hcl3,hts,fT]
  (repeat with_reducible refine Yq ?_)
  refine ⟨_,?_,hqx⟩
  try simp only [ah,go_sem]
  try (repeat with_reducible refine Yq ?_)
  refine ak (fun hq=>?_) (fun hq=>?_)
  ·rw [if_pos hq] at hR
   subst hR
   simp only [go_sem]
   exact Z1
  ·rw [if_neg (by rw [hq];decide)] at hR
   simp only [go_sem,e5]
   exact ⟨k+1,⟨by omega,hR⟩,by omega,nrq _,lRq _,hcl,by simp [ltF,znf,hm,hf],by simp [bk,wk2,wk1,wkM,Fr.get]⟩
 ·have hk':k=ts.length:=by simp at hc;omega
  subst hk'
  rw [List.drop_length] at hR
  unfold ixP at hR
  subst hR
  simp only [go_sem]
  exact Z1
theorem GJ:EntOk Tryz.prog 235 (Ent.pure KW):=iu fun av sz ha hs m ts q F fst caps H hl hq=>by
 refine ACalls.fW ap (tCq DM tNq) Tryz.func235 [.tmp 4] (nrq _) (T:=aj []) (h:=fun hcl hlt=>?_)
 clear hlt
 have hR:=@ep _ q ts 0
 generalize ts.any q=R at *
 subst hs
 simp only [go_sem]
 refine ⟨ts,q,⟨by rw [ha];rfl,hl,by rw [← ha];exact hq⟩,?_⟩
 simp only [ah,go_sem,hR]
 exact Z1
theorem EY:EntOk Tryz.prog 236 (Ent.pure Jq):=iG fun av ha t c b F fst caps H hg hq=>by
 have hag:∀ x,∃ cs,av x=.agg cs∧cs.length=3:=by subst ha;exact fun x=>⟨_,rfl,rfl⟩
 refine ACalls.fW ap (tCq (cK (F:=F)) tNq) Tryz.func236 [.tmp 3] (nrq _) (T:=aj []) (h:=fun hcl hlt=>?_)
 have hcs:=ag hg
 have hl:=glq hg
 have hne:(c=H.nx)=False:=eq_false (by omega)
 obtain ⟨cs,hav,hcl3⟩:=hag t
 have hts:=ybc (Nat.le_of_eq hcl3)
 rw [hav] at hq hlt ⊢
 have hlx:=hlt _ (List.mem_cons_self)
 clear hlt
 simp only [go_sem,hcs,hne,hg,hcl3,hts,fT]
 refine ⟨_,?_,hq _ ((lRq _).push _) ?_⟩
 ·try simp only [ah,go_sem]
  exact Z1
 ·have h0:=AV.lt_mono (Nat.le_succ H.nx) _ hlx
  rw [znr] at h0
  exact af hcl h0
theorem oy:EntOk Tryz.prog 78 (Ent.pure bp):=iK fun av sz ha hs m ts q F fst caps H hl hq=>by
 have hL:EntOk Tryz.prog 236 (Ent.pure (pCl Tryz.prog av)):=by rw [ha];exact EY
 refine ACalls.fW ap (tCq GJ tNq) Tryz.func78 [.tmp 4] (nrq _) (T:=aj []) (h:=fun hcl hlt=>?_)
 have hR:=@gt _ q ts
 generalize ts.all q=R at *
 have hfx:=hlt _ (List.mem_cons_of_mem _ List.mem_cons_self)
 clear hlt
 subst hs
 simp only [go_sem]
 refine ⟨ts,fun x=>!q x,⟨by rw [ha];rfl,hl,fun x hx=>?_⟩,?_⟩
 ·rw [← ha]
  exact clB hL ⟨x,q x,F,fst,caps,⟨rfl,by simp only [go_sem],fun H' h1 h2=>hq x hx H' (((lRq _).push _).trans h1) h2⟩,rfl⟩
 ·rw [hR]
  try simp only [ah,go_sem]
  exact Z1
abbrev JO:=@pIx SState Tryz.prog aO 5
abbrev Kn:=@pAn SState Tryz.prog aO 5
abbrev bz:=@pEv SState Tryz.prog aO 5
abbrev I9:=@pCl SState Tryz.prog aO
theorem D6:EntOk Tryz.prog 323 (Ent.pure JO):=iM fun av sz ha hs m ts q F fst caps H hl hq=>by
 have hag:∀ x,∃ cs,av x=.agg cs∧cs.length=sz:=by subst ha hs;exact fun x=>⟨_,rfl,rfl⟩
 refine ACalls.fW ap (tCq (cK (F:=F)) tNq) Tryz.func323 [.tmp 4] (nrq _) (T:=aj []) (h:=fun hcl hlt=>?_)
 generalize hR:ixP q ts 0=R
 have hm:AV.lt H.nx (.slice m sz (ts.map av)):=hlt _ (by simp)
 have hf:AV.lt H.nx (.func (.func F) fst caps):=hlt _ (by simp)
 clear hlt
 simp only [go_sem,ybb]
 refine aD (A:=Nat) (fun k=>[(0,.slice m sz (ts.map av)),(1,.func (.func F) fst caps),(7,.int .i64 (ts.length:Int)),(8,.int .i64 (k:Int))]) (fun _=>H) (fun k=>k≤ts.length∧ixP q (ts.drop k) k=R) (fun k=>ts.length - k) 0 ⟨by omega,hR⟩ ?_ fun k hk=>?_
 ·exact ⟨nrq _,lRq _,hcl,by simp [ltF,znf,hm,hf],by simp [bk,wk2,wk1,wkM,Fr.get]⟩
 clear hR
 obtain ⟨hk,hR⟩:=hk
 simp only [go_sem]
 refine ak (fun hc=>?_) (fun hc=>?_)
 ·have hk':k<ts.length:=by simp at hc;omega
  obtain ⟨x,hx⟩:∃ x,x=ts[k]:=⟨_,rfl⟩
  have hd:ts.drop k=x::ts.drop (k+1):=by rw [hx];exact dcq hk'
  have hg':=a0 (f:=av) (l:=ts) (k:=k) (x:=x) (by rw [gQq hk',hx])
  have e5:=Yk5 k
  rw [hd] at hR
  unfold ixP at hR
  have hqx:=hq x (by rw [hx];exact gMq hk')
  obtain ⟨cs,hcs,hcl3⟩:=hag x
  have hts:List.take sz cs=cs:=ybc (by omega)
  rw [hcs] at hqx
  clear ha hag
  subst hs
  simp only [go_sem,iNq,ybb,hg',hcs,hcl3,hts,fT]
  (repeat with_reducible refine Yq ?_)
  refine ⟨_,?_,hqx⟩
  try simp only [ah,go_sem]
  try (repeat with_reducible refine Yq ?_)
  refine ak (fun hq=>?_) (fun hq=>?_)
  ·rw [if_pos hq] at hR
   subst hR
   simp only [go_sem]
   exact Z1
  ·rw [if_neg (by rw [hq];decide)] at hR
   simp only [go_sem,e5]
   exact ⟨k+1,⟨by omega,hR⟩,by omega,nrq _,lRq _,hcl,by simp [ltF,znf,hm,hf],by simp [bk,wk2,wk1,wkM,Fr.get]⟩
 ·have hk':k=ts.length:=by simp at hc;omega
  subst hk'
  rw [List.drop_length] at hR
  unfold ixP at hR
  subst hR
  simp only [go_sem]
  exact Z1
theorem Gl:EntOk Tryz.prog 247 (Ent.pure Kn):=iu fun av sz ha hs m ts q F fst caps H hl hq=>by
 refine ACalls.fW ap (tCq D6 tNq) Tryz.func247 [.tmp 4] (nrq _) (T:=aj []) (h:=fun hcl hlt=>?_)
 clear hlt
 have hR:=@ep _ q ts 0
 generalize ts.any q=R at *
 subst hs
 simp only [go_sem]
 refine ⟨ts,q,⟨by rw [ha];rfl,hl,by rw [← ha];exact hq⟩,?_⟩
 simp only [ah,go_sem,hR]
 exact Z1
theorem Dz:EntOk Tryz.prog 248 (Ent.pure I9):=iG fun av ha t c b F fst caps H hg hq=>by
 have hag:∀ x,∃ cs,av x=.agg cs∧cs.length=5:=by subst ha;exact fun x=>⟨_,rfl,rfl⟩
 refine ACalls.fW ap (tCq (cK (F:=F)) tNq) Tryz.func248 [.tmp 3] (nrq _) (T:=aj []) (h:=fun hcl hlt=>?_)
 have hcs:=ag hg
 have hl:=glq hg
 have hne:(c=H.nx)=False:=eq_false (by omega)
 obtain ⟨cs,hav,hcl3⟩:=hag t
 have hts:=ybc (Nat.le_of_eq hcl3)
 rw [hav] at hq hlt ⊢
 have hlx:=hlt _ (List.mem_cons_self)
 clear hlt
 simp only [go_sem,hcs,hne,hg,hcl3,hts,fT]
 refine ⟨_,?_,hq _ ((lRq _).push _) ?_⟩
 ·try simp only [ah,go_sem]
  exact Z1
 ·have h0:=AV.lt_mono (Nat.le_succ H.nx) _ hlx
  rw [znr] at h0
  exact af hcl h0
theorem oZ:EntOk Tryz.prog 96 (Ent.pure bz):=iK fun av sz ha hs m ts q F fst caps H hl hq=>by
 have hL:EntOk Tryz.prog 248 (Ent.pure (pCl Tryz.prog av)):=by rw [ha];exact Dz
 refine ACalls.fW ap (tCq Gl tNq) Tryz.func96 [.tmp 4] (nrq _) (T:=aj []) (h:=fun hcl hlt=>?_)
 have hR:=@gt _ q ts
 generalize ts.all q=R at *
 have hfx:=hlt _ (List.mem_cons_of_mem _ List.mem_cons_self)
 clear hlt
 subst hs
 simp only [go_sem]
 refine ⟨ts,fun x=>!q x,⟨by rw [ha];rfl,hl,fun x hx=>?_⟩,?_⟩
 ·rw [← ha]
  exact clB hL ⟨x,q x,F,fst,caps,⟨rfl,by simp only [go_sem],fun H' h1 h2=>hq x hx H' (((lRq _).push _).trans h1) h2⟩,rfl⟩
 ·rw [hR]
  try simp only [ah,go_sem]
  exact Z1
abbrev JD:=@pIx SAction Tryz.prog aA 5
abbrev Ik:=@pAn SAction Tryz.prog aA 5
abbrev bm:=@pEv SAction Tryz.prog aA 5
abbrev KD:=@pCl SAction Tryz.prog aA
theorem FD:EntOk Tryz.prog 277 (Ent.pure JD):=iM fun av sz ha hs m ts q F fst caps H hl hq=>by
 have hag:∀ x,∃ cs,av x=.agg cs∧cs.length=sz:=by subst ha hs;exact fun x=>⟨_,rfl,rfl⟩
 refine ACalls.fW ap (tCq (cK (F:=F)) tNq) Tryz.func277 [.tmp 4] (nrq _) (T:=aj []) (h:=fun hcl hlt=>?_)
 generalize hR:ixP q ts 0=R
 have hm:AV.lt H.nx (.slice m sz (ts.map av)):=hlt _ (by simp)
 have hf:AV.lt H.nx (.func (.func F) fst caps):=hlt _ (by simp)
 clear hlt
 simp only [go_sem,ybb]
 refine aD (A:=Nat) (fun k=>[(0,.slice m sz (ts.map av)),(1,.func (.func F) fst caps),(7,.int .i64 (ts.length:Int)),(8,.int .i64 (k:Int))]) (fun _=>H) (fun k=>k≤ts.length∧ixP q (ts.drop k) k=R) (fun k=>ts.length - k) 0 ⟨by omega,hR⟩ ?_ fun k hk=>?_
 ·exact ⟨nrq _,lRq _,hcl,by simp [ltF,znf,hm,hf],by simp [bk,wk2,wk1,wkM,Fr.get]⟩
 clear hR
 obtain ⟨hk,hR⟩:=hk
 simp only [go_sem]
 refine ak (fun hc=>?_) (fun hc=>?_)
 ·have hk':k<ts.length:=by simp at hc;omega
  obtain ⟨x,hx⟩:∃ x,x=ts[k]:=⟨_,rfl⟩
  have hd:ts.drop k=x::ts.drop (k+1):=by rw [hx];exact dcq hk'
  have hg':=a0 (f:=av) (l:=ts) (k:=k) (x:=x) (by rw [gQq hk',hx])
  have e5:=Yk5 k
  rw [hd] at hR
  unfold ixP at hR
  have hqx:=hq x (by rw [hx];exact gMq hk')
  obtain ⟨cs,hcs,hcl3⟩:=hag x
  have hts:List.take sz cs=cs:=ybc (by omega)
  rw [hcs] at hqx
  clear ha hag
  subst hs
  simp only [go_sem,iNq,ybb,hg',hcs,hcl3,hts,fT]
  (repeat with_reducible refine Yq ?_)
  refine ⟨_,?_,hqx⟩
  try simp only [ah,go_sem]
  try (repeat with_reducible refine Yq ?_)
  refine ak (fun hq=>?_) (fun hq=>?_)
  ·rw [if_pos hq] at hR
   subst hR
   simp only [go_sem]
   exact Z1
  ·rw [if_neg (by rw [hq];decide)] at hR
   simp only [go_sem,e5]
   exact ⟨k+1,⟨by omega,hR⟩,by omega,nrq _,lRq _,hcl,by simp [ltF,znf,hm,hf],by simp [bk,wk2,wk1,wkM,Fr.get]⟩
 ·have hk':k=ts.length:=by simp at hc;omega
  subst hk'
  rw [List.drop_length] at hR
  unfold ixP at hR
  subst hR
  simp only [go_sem]
  exact Z1
theorem HP:EntOk Tryz.prog 237 (Ent.pure Ik):=iu fun av sz ha hs m ts q F fst caps H hl hq=>by
 refine ACalls.fW ap (tCq FD tNq) Tryz.func237 [.tmp 4] (nrq _) (T:=aj []) (h:=fun hcl hlt=>?_)
 clear hlt
 have hR:=@ep _ q ts 0
 generalize ts.any q=R at *
 subst hs
 simp only [go_sem]
 refine ⟨ts,q,⟨by rw [ha];rfl,hl,by rw [← ha];exact hq⟩,?_⟩
 simp only [ah,go_sem,hR]
 exact Z1
theorem FV:EntOk Tryz.prog 238 (Ent.pure KD):=iG fun av ha t c b F fst caps H hg hq=>by
 have hag:∀ x,∃ cs,av x=.agg cs∧cs.length=5:=by subst ha;exact fun x=>⟨_,rfl,rfl⟩
 refine ACalls.fW ap (tCq (cK (F:=F)) tNq) Tryz.func238 [.tmp 3] (nrq _) (T:=aj []) (h:=fun hcl hlt=>?_)
 have hcs:=ag hg
 have hl:=glq hg
 have hne:(c=H.nx)=False:=eq_false (by omega)
 obtain ⟨cs,hav,hcl3⟩:=hag t
 have hts:=ybc (Nat.le_of_eq hcl3)
 rw [hav] at hq hlt ⊢
 have hlx:=hlt _ (List.mem_cons_self)
 clear hlt
 simp only [go_sem,hcs,hne,hg,hcl3,hts,fT]
 refine ⟨_,?_,hq _ ((lRq _).push _) ?_⟩
 ·try simp only [ah,go_sem]
  exact Z1
 ·have h0:=AV.lt_mono (Nat.le_succ H.nx) _ hlx
  rw [znr] at h0
  exact af hcl h0
theorem mB:EntOk Tryz.prog 80 (Ent.pure bm):=iK fun av sz ha hs m ts q F fst caps H hl hq=>by
 have hL:EntOk Tryz.prog 238 (Ent.pure (pCl Tryz.prog av)):=by rw [ha];exact FV
 refine ACalls.fW ap (tCq HP tNq) Tryz.func80 [.tmp 4] (nrq _) (T:=aj []) (h:=fun hcl hlt=>?_)
 have hR:=@gt _ q ts
 generalize ts.all q=R at *
 have hfx:=hlt _ (List.mem_cons_of_mem _ List.mem_cons_self)
 clear hlt
 subst hs
 simp only [go_sem]
 refine ⟨ts,fun x=>!q x,⟨by rw [ha];rfl,hl,fun x hx=>?_⟩,?_⟩
 ·rw [← ha]
  exact clB hL ⟨x,q x,F,fst,caps,⟨rfl,by simp only [go_sem],fun H' h1 h2=>hq x hx H' (((lRq _).push _).trans h1) h2⟩,rfl⟩
 ·rw [hR]
  try simp only [ah,go_sem]
  exact Z1
abbrev JX:=@pIx SParam Tryz.prog bv 2
abbrev JW:=@pAn SParam Tryz.prog bv 2
abbrev lx:=@pEv SParam Tryz.prog bv 2
abbrev Ih:=@pCl SParam Tryz.prog bv
theorem CX:EntOk Tryz.prog 320 (Ent.pure JX):=iM fun av sz ha hs m ts q F fst caps H hl hq=>by
 have hag:∀ x,∃ cs,av x=.agg cs∧cs.length=sz:=by subst ha hs;exact fun x=>⟨_,rfl,rfl⟩
 refine ACalls.fW ap (tCq (cK (F:=F)) tNq) Tryz.func320 [.tmp 4] (nrq _) (T:=aj []) (h:=fun hcl hlt=>?_)
 generalize hR:ixP q ts 0=R
 have hm:AV.lt H.nx (.slice m sz (ts.map av)):=hlt _ (by simp)
 have hf:AV.lt H.nx (.func (.func F) fst caps):=hlt _ (by simp)
 clear hlt
 simp only [go_sem,ybb]
 refine aD (A:=Nat) (fun k=>[(0,.slice m sz (ts.map av)),(1,.func (.func F) fst caps),(7,.int .i64 (ts.length:Int)),(8,.int .i64 (k:Int))]) (fun _=>H) (fun k=>k≤ts.length∧ixP q (ts.drop k) k=R) (fun k=>ts.length - k) 0 ⟨by omega,hR⟩ ?_ fun k hk=>?_
 ·exact ⟨nrq _,lRq _,hcl,by simp [ltF,znf,hm,hf],by simp [bk,wk2,wk1,wkM,Fr.get]⟩
 clear hR
 obtain ⟨hk,hR⟩:=hk
 simp only [go_sem]
 refine ak (fun hc=>?_) (fun hc=>?_)
 ·have hk':k<ts.length:=by simp at hc;omega
  obtain ⟨x,hx⟩:∃ x,x=ts[k]:=⟨_,rfl⟩
  have hd:ts.drop k=x::ts.drop (k+1):=by rw [hx];exact dcq hk'
  have hg':=a0 (f:=av) (l:=ts) (k:=k) (x:=x) (by rw [gQq hk',hx])
  have e5:=Yk5 k
  rw [hd] at hR
  unfold ixP at hR
  have hqx:=hq x (by rw [hx];exact gMq hk')
  obtain ⟨cs,hcs,hcl3⟩:=hag x
  have hts:List.take sz cs=cs:=ybc (by omega)
  rw [hcs] at hqx
  clear ha hag
  subst hs
  simp only [go_sem,iNq,ybb,hg',hcs,hcl3,hts,fT]
  (repeat with_reducible refine Yq ?_)
  refine ⟨_,?_,hqx⟩
  try simp only [ah,go_sem]
  try (repeat with_reducible refine Yq ?_)
  refine ak (fun hq=>?_) (fun hq=>?_)
  ·rw [if_pos hq] at hR
   subst hR
   simp only [go_sem]
   exact Z1
  ·rw [if_neg (by rw [hq];decide)] at hR
   simp only [go_sem,e5]
   exact ⟨k+1,⟨by omega,hR⟩,by omega,nrq _,lRq _,hcl,by simp [ltF,znf,hm,hf],by simp [bk,wk2,wk1,wkM,Fr.get]⟩
 ·have hk':k=ts.length:=by simp at hc;omega
  subst hk'
  rw [List.drop_length] at hR
  unfold ixP at hR
  subst hR
  simp only [go_sem]
  exact Z1
theorem HO:EntOk Tryz.prog 239 (Ent.pure JW):=iu fun av sz ha hs m ts q F fst caps H hl hq=>by
 refine ACalls.fW ap (tCq CX tNq) Tryz.func239 [.tmp 4] (nrq _) (T:=aj []) (h:=fun hcl hlt=>?_)
 clear hlt
 have hR:=@ep _ q ts 0
 generalize ts.any q=R at *
 subst hs
 simp only [go_sem]
 refine ⟨ts,q,⟨by rw [ha];rfl,hl,by rw [← ha];exact hq⟩,?_⟩
 simp only [ah,go_sem,hR]
 exact Z1
theorem GW:EntOk Tryz.prog 240 (Ent.pure Ih):=iG fun av ha t c b F fst caps H hg hq=>by
 have hag:∀ x,∃ cs,av x=.agg cs∧cs.length=2:=by subst ha;exact fun x=>⟨_,rfl,rfl⟩
 refine ACalls.fW ap (tCq (cK (F:=F)) tNq) Tryz.func240 [.tmp 3] (nrq _) (T:=aj []) (h:=fun hcl hlt=>?_)
 have hcs:=ag hg
 have hl:=glq hg
 have hne:(c=H.nx)=False:=eq_false (by omega)
 obtain ⟨cs,hav,hcl3⟩:=hag t
 have hts:=ybc (Nat.le_of_eq hcl3)
 rw [hav] at hq hlt ⊢
 have hlx:=hlt _ (List.mem_cons_self)
 clear hlt
 simp only [go_sem,hcs,hne,hg,hcl3,hts,fT]
 refine ⟨_,?_,hq _ ((lRq _).push _) ?_⟩
 ·try simp only [ah,go_sem]
  exact Z1
 ·have h0:=AV.lt_mono (Nat.le_succ H.nx) _ hlx
  rw [znr] at h0
  exact af hcl h0
theorem wN:EntOk Tryz.prog 82 (Ent.pure lx):=iK fun av sz ha hs m ts q F fst caps H hl hq=>by
 have hL:EntOk Tryz.prog 240 (Ent.pure (pCl Tryz.prog av)):=by rw [ha];exact GW
 refine ACalls.fW ap (tCq HO tNq) Tryz.func82 [.tmp 4] (nrq _) (T:=aj []) (h:=fun hcl hlt=>?_)
 have hR:=@gt _ q ts
 generalize ts.all q=R at *
 have hfx:=hlt _ (List.mem_cons_of_mem _ List.mem_cons_self)
 clear hlt
 subst hs
 simp only [go_sem]
 refine ⟨ts,fun x=>!q x,⟨by rw [ha];rfl,hl,fun x hx=>?_⟩,?_⟩
 ·rw [← ha]
  exact clB hL ⟨x,q x,F,fst,caps,⟨rfl,by simp only [go_sem],fun H' h1 h2=>hq x hx H' (((lRq _).push _).trans h1) h2⟩,rfl⟩
 ·rw [hR]
  try simp only [ah,go_sem]
  exact Z1
abbrev Jm:=@pIx STable Tryz.prog aC 8
abbrev Ix:=@pAn STable Tryz.prog aC 8
abbrev bn:=@pEv STable Tryz.prog aC 8
abbrev IM:=@pCl STable Tryz.prog aC
theorem HI:EntOk Tryz.prog 56 (Ent.pure Jm):=iM fun av sz ha hs m ts q F fst caps H hl hq=>by
 have hag:∀ x,∃ cs,av x=.agg cs∧cs.length=sz:=by subst ha hs;exact fun x=>⟨_,rfl,rfl⟩
 refine ACalls.fW ap (tCq (cK (F:=F)) tNq) Tryz.func56 [.tmp 4] (nrq _) (T:=aj []) (h:=fun hcl hlt=>?_)
 generalize hR:ixP q ts 0=R
 have hm:AV.lt H.nx (.slice m sz (ts.map av)):=hlt _ (by simp)
 have hf:AV.lt H.nx (.func (.func F) fst caps):=hlt _ (by simp)
 clear hlt
 simp only [go_sem,ybb]
 refine aD (A:=Nat) (fun k=>[(0,.slice m sz (ts.map av)),(1,.func (.func F) fst caps),(7,.int .i64 (ts.length:Int)),(8,.int .i64 (k:Int))]) (fun _=>H) (fun k=>k≤ts.length∧ixP q (ts.drop k) k=R) (fun k=>ts.length - k) 0 ⟨by omega,hR⟩ ?_ fun k hk=>?_
 ·exact ⟨nrq _,lRq _,hcl,by simp [ltF,znf,hm,hf],by simp [bk,wk2,wk1,wkM,Fr.get]⟩
 clear hR
 obtain ⟨hk,hR⟩:=hk
 simp only [go_sem]
 refine ak (fun hc=>?_) (fun hc=>?_)
 ·have hk':k<ts.length:=by simp at hc;omega
  obtain ⟨x,hx⟩:∃ x,x=ts[k]:=⟨_,rfl⟩
  have hd:ts.drop k=x::ts.drop (k+1):=by rw [hx];exact dcq hk'
  have hg':=a0 (f:=av) (l:=ts) (k:=k) (x:=x) (by rw [gQq hk',hx])
  have e5:=Yk5 k
  rw [hd] at hR
  unfold ixP at hR
  have hqx:=hq x (by rw [hx];exact gMq hk')
  obtain ⟨cs,hcs,hcl3⟩:=hag x
  have hts:List.take sz cs=cs:=ybc (by omega)
  rw [hcs] at hqx
  clear ha hag
  subst hs
  simp only [go_sem,iNq,ybb,hg',hcs,hcl3,hts,fT]
  (repeat with_reducible refine Yq ?_)
  refine ⟨_,?_,hqx⟩
  try simp only [ah,go_sem]
  try (repeat with_reducible refine Yq ?_)
  refine ak (fun hq=>?_) (fun hq=>?_)
  ·rw [if_pos hq] at hR
   subst hR
   simp only [go_sem]
   exact Z1
  ·rw [if_neg (by rw [hq];decide)] at hR
   simp only [go_sem,e5]
   exact ⟨k+1,⟨by omega,hR⟩,by omega,nrq _,lRq _,hcl,by simp [ltF,znf,hm,hf],by simp [bk,wk2,wk1,wkM,Fr.get]⟩
 ·have hk':k=ts.length:=by simp at hc;omega
  subst hk'
  rw [List.drop_length] at hR
  unfold ixP at hR
  subst hR
  simp only [go_sem]
  exact Z1
theorem CQ:EntOk Tryz.prog 241 (Ent.pure Ix):=iu fun av sz ha hs m ts q F fst caps H hl hq=>by
 refine ACalls.fW ap (tCq HI tNq) Tryz.func241 [.tmp 4] (nrq _) (T:=aj []) (h:=fun hcl hlt=>?_)
 clear hlt
 have hR:=@ep _ q ts 0
 generalize ts.any q=R at *
 subst hs
 simp only [go_sem]
 refine ⟨ts,q,⟨by rw [ha];rfl,hl,by rw [← ha];exact hq⟩,?_⟩
 simp only [ah,go_sem,hR]
 exact Z1
theorem E7:EntOk Tryz.prog 242 (Ent.pure IM):=iG fun av ha t c b F fst caps H hg hq=>by
 have hag:∀ x,∃ cs,av x=.agg cs∧cs.length=8:=by subst ha;exact fun x=>⟨_,rfl,rfl⟩
 refine ACalls.fW ap (tCq (cK (F:=F)) tNq) Tryz.func242 [.tmp 3] (nrq _) (T:=aj []) (h:=fun hcl hlt=>?_)
 have hcs:=ag hg
 have hl:=glq hg
 have hne:(c=H.nx)=False:=eq_false (by omega)
 obtain ⟨cs,hav,hcl3⟩:=hag t
 have hts:=ybc (Nat.le_of_eq hcl3)
 rw [hav] at hq hlt ⊢
 have hlx:=hlt _ (List.mem_cons_self)
 clear hlt
 simp only [go_sem,hcs,hne,hg,hcl3,hts,fT]
 refine ⟨_,?_,hq _ ((lRq _).push _) ?_⟩
 ·try simp only [ah,go_sem]
  exact Z1
 ·have h0:=AV.lt_mono (Nat.le_succ H.nx) _ hlx
  rw [znr] at h0
  exact af hcl h0
theorem kT:EntOk Tryz.prog 85 (Ent.pure bn):=iK fun av sz ha hs m ts q F fst caps H hl hq=>by
 have hL:EntOk Tryz.prog 242 (Ent.pure (pCl Tryz.prog av)):=by rw [ha];exact E7
 refine ACalls.fW ap (tCq CQ tNq) Tryz.func85 [.tmp 4] (nrq _) (T:=aj []) (h:=fun hcl hlt=>?_)
 have hR:=@gt _ q ts
 generalize ts.all q=R at *
 have hfx:=hlt _ (List.mem_cons_of_mem _ List.mem_cons_self)
 clear hlt
 subst hs
 simp only [go_sem]
 refine ⟨ts,fun x=>!q x,⟨by rw [ha];rfl,hl,fun x hx=>?_⟩,?_⟩
 ·rw [← ha]
  exact clB hL ⟨x,q x,F,fst,caps,⟨rfl,by simp only [go_sem],fun H' h1 h2=>hq x hx H' (((lRq _).push _).trans h1) h2⟩,rfl⟩
 ·rw [hR]
  try simp only [ah,go_sem]
  exact Z1
abbrev Iq:=@pIx SKey Tryz.prog bE 3
abbrev Iy:=@pAn SKey Tryz.prog bE 3
abbrev iH:=@pEv SKey Tryz.prog bE 3
abbrev Jn:=@pCl SKey Tryz.prog bE
theorem Dm:EntOk Tryz.prog 321 (Ent.pure Iq):=iM fun av sz ha hs m ts q F fst caps H hl hq=>by
 have hag:∀ x,∃ cs,av x=.agg cs∧cs.length=sz:=by subst ha hs;exact fun x=>⟨_,rfl,rfl⟩
 refine ACalls.fW ap (tCq (cK (F:=F)) tNq) Tryz.func321 [.tmp 4] (nrq _) (T:=aj []) (h:=fun hcl hlt=>?_)
 generalize hR:ixP q ts 0=R
 have hm:AV.lt H.nx (.slice m sz (ts.map av)):=hlt _ (by simp)
 have hf:AV.lt H.nx (.func (.func F) fst caps):=hlt _ (by simp)
 clear hlt
 simp only [go_sem,ybb]
 refine aD (A:=Nat) (fun k=>[(0,.slice m sz (ts.map av)),(1,.func (.func F) fst caps),(7,.int .i64 (ts.length:Int)),(8,.int .i64 (k:Int))]) (fun _=>H) (fun k=>k≤ts.length∧ixP q (ts.drop k) k=R) (fun k=>ts.length - k) 0 ⟨by omega,hR⟩ ?_ fun k hk=>?_
 ·exact ⟨nrq _,lRq _,hcl,by simp [ltF,znf,hm,hf],by simp [bk,wk2,wk1,wkM,Fr.get]⟩
 clear hR
 obtain ⟨hk,hR⟩:=hk
 simp only [go_sem]
 refine ak (fun hc=>?_) (fun hc=>?_)
 ·have hk':k<ts.length:=by simp at hc;omega
  obtain ⟨x,hx⟩:∃ x,x=ts[k]:=⟨_,rfl⟩
  have hd:ts.drop k=x::ts.drop (k+1):=by rw [hx];exact dcq hk'
  have hg':=a0 (f:=av) (l:=ts) (k:=k) (x:=x) (by rw [gQq hk',hx])
  have e5:=Yk5 k
  rw [hd] at hR
  unfold ixP at hR
  have hqx:=hq x (by rw [hx];exact gMq hk')
  obtain ⟨cs,hcs,hcl3⟩:=hag x
  have hts:List.take sz cs=cs:=ybc (by omega)
  rw [hcs] at hqx
  clear ha hag
  subst hs
  simp only [go_sem,iNq,ybb,hg',hcs,hcl3,hts,fT]
  (repeat with_reducible refine Yq ?_)
  refine ⟨_,?_,hqx⟩
  try simp only [ah,go_sem]
  try (repeat with_reducible refine Yq ?_)
  refine ak (fun hq=>?_) (fun hq=>?_)
  ·rw [if_pos hq] at hR
   subst hR
   simp only [go_sem]
   exact Z1
  ·rw [if_neg (by rw [hq];decide)] at hR
   simp only [go_sem,e5]
   exact ⟨k+1,⟨by omega,hR⟩,by omega,nrq _,lRq _,hcl,by simp [ltF,znf,hm,hf],by simp [bk,wk2,wk1,wkM,Fr.get]⟩
 ·have hk':k=ts.length:=by simp at hc;omega
  subst hk'
  rw [List.drop_length] at hR
  unfold ixP at hR
  subst hR
  simp only [go_sem]
  exact Z1
theorem GC:EntOk Tryz.prog 243 (Ent.pure Iy):=iu fun av sz ha hs m ts q F fst caps H hl hq=>by
 refine ACalls.fW ap (tCq Dm tNq) Tryz.func243 [.tmp 4] (nrq _) (T:=aj []) (h:=fun hcl hlt=>?_)
 clear hlt
 have hR:=@ep _ q ts 0
 generalize ts.any q=R at *
 subst hs
 simp only [go_sem]
 refine ⟨ts,q,⟨by rw [ha];rfl,hl,by rw [← ha];exact hq⟩,?_⟩
 simp only [ah,go_sem,hR]
 exact Z1
theorem Cv:EntOk Tryz.prog 244 (Ent.pure Jn):=iG fun av ha t c b F fst caps H hg hq=>by
 have hag:∀ x,∃ cs,av x=.agg cs∧cs.length=3:=by subst ha;exact fun x=>⟨_,rfl,rfl⟩
 refine ACalls.fW ap (tCq (cK (F:=F)) tNq) Tryz.func244 [.tmp 3] (nrq _) (T:=aj []) (h:=fun hcl hlt=>?_)
 have hcs:=ag hg
 have hl:=glq hg
 have hne:(c=H.nx)=False:=eq_false (by omega)
 obtain ⟨cs,hav,hcl3⟩:=hag t
 have hts:=ybc (Nat.le_of_eq hcl3)
 rw [hav] at hq hlt ⊢
 have hlx:=hlt _ (List.mem_cons_self)
 clear hlt
 simp only [go_sem,hcs,hne,hg,hcl3,hts,fT]
 refine ⟨_,?_,hq _ ((lRq _).push _) ?_⟩
 ·try simp only [ah,go_sem]
  exact Z1
 ·have h0:=AV.lt_mono (Nat.le_succ H.nx) _ hlx
  rw [znr] at h0
  exact af hcl h0
theorem wH:EntOk Tryz.prog 87 (Ent.pure iH):=iK fun av sz ha hs m ts q F fst caps H hl hq=>by
 have hL:EntOk Tryz.prog 244 (Ent.pure (pCl Tryz.prog av)):=by rw [ha];exact Cv
 refine ACalls.fW ap (tCq GC tNq) Tryz.func87 [.tmp 4] (nrq _) (T:=aj []) (h:=fun hcl hlt=>?_)
 have hR:=@gt _ q ts
 generalize ts.all q=R at *
 have hfx:=hlt _ (List.mem_cons_of_mem _ List.mem_cons_self)
 clear hlt
 subst hs
 simp only [go_sem]
 refine ⟨ts,fun x=>!q x,⟨by rw [ha];rfl,hl,fun x hx=>?_⟩,?_⟩
 ·rw [← ha]
  exact clB hL ⟨x,q x,F,fst,caps,⟨rfl,by simp only [go_sem],fun H' h1 h2=>hq x hx H' (((lRq _).push _).trans h1) h2⟩,rfl⟩
 ·rw [hR]
  try simp only [ah,go_sem]
  exact Z1
abbrev IV:=@pIx SRole Tryz.prog bc 6
abbrev KF:=@pAn SRole Tryz.prog bc 6
abbrev bD:=@pEv SRole Tryz.prog bc 6
abbrev JM:=@pCl SRole Tryz.prog bc
theorem DV:EntOk Tryz.prog 322 (Ent.pure IV):=iM fun av sz ha hs m ts q F fst caps H hl hq=>by
 have hag:∀ x,∃ cs,av x=.agg cs∧cs.length=sz:=by subst ha hs;exact fun x=>⟨_,rfl,rfl⟩
 refine ACalls.fW ap (tCq (cK (F:=F)) tNq) Tryz.func322 [.tmp 4] (nrq _) (T:=aj []) (h:=fun hcl hlt=>?_)
 generalize hR:ixP q ts 0=R
 have hm:AV.lt H.nx (.slice m sz (ts.map av)):=hlt _ (by simp)
 have hf:AV.lt H.nx (.func (.func F) fst caps):=hlt _ (by simp)
 clear hlt
 simp only [go_sem,ybb]
 refine aD (A:=Nat) (fun k=>[(0,.slice m sz (ts.map av)),(1,.func (.func F) fst caps),(7,.int .i64 (ts.length:Int)),(8,.int .i64 (k:Int))]) (fun _=>H) (fun k=>k≤ts.length∧ixP q (ts.drop k) k=R) (fun k=>ts.length - k) 0 ⟨by omega,hR⟩ ?_ fun k hk=>?_
 ·exact ⟨nrq _,lRq _,hcl,by simp [ltF,znf,hm,hf],by simp [bk,wk2,wk1,wkM,Fr.get]⟩
 clear hR
 obtain ⟨hk,hR⟩:=hk
 simp only [go_sem]
 refine ak (fun hc=>?_) (fun hc=>?_)
 ·have hk':k<ts.length:=by simp at hc;omega
  obtain ⟨x,hx⟩:∃ x,x=ts[k]:=⟨_,rfl⟩
  have hd:ts.drop k=x::ts.drop (k+1):=by rw [hx];exact dcq hk'
  have hg':=a0 (f:=av) (l:=ts) (k:=k) (x:=x) (by rw [gQq hk',hx])
  have e5:=Yk5 k
  rw [hd] at hR
  unfold ixP at hR
  have hqx:=hq x (by rw [hx];exact gMq hk')
  obtain ⟨cs,hcs,hcl3⟩:=hag x
  have hts:List.take sz cs=cs:=ybc (by omega)
  rw [hcs] at hqx
  clear ha hag
  subst hs
  simp only [go_sem,iNq,ybb,hg',hcs,hcl3,hts,fT]
  (repeat with_reducible refine Yq ?_)
  refine ⟨_,?_,hqx⟩
  try simp only [ah,go_sem]
  try (repeat with_reducible refine Yq ?_)
  refine ak (fun hq=>?_) (fun hq=>?_)
  ·rw [if_pos hq] at hR
   subst hR
   simp only [go_sem]
   exact Z1
  ·rw [if_neg (by rw [hq];decide)] at hR
   simp only [go_sem,e5]
   exact ⟨k+1,⟨by omega,hR⟩,by omega,nrq _,lRq _,hcl,by simp [ltF,znf,hm,hf],by simp [bk,wk2,wk1,wkM,Fr.get]⟩
 ·have hk':k=ts.length:=by simp at hc;omega
  subst hk'
  rw [List.drop_length] at hR
  unfold ixP at hR
  subst hR
  simp only [go_sem]
  exact Z1
theorem EE:EntOk Tryz.prog 245 (Ent.pure KF):=iu fun av sz ha hs m ts q F fst caps H hl hq=>by
 refine ACalls.fW ap (tCq DV tNq) Tryz.func245 [.tmp 4] (nrq _) (T:=aj []) (h:=fun hcl hlt=>?_)
 clear hlt
 have hR:=@ep _ q ts 0
 generalize ts.any q=R at *
 subst hs
 simp only [go_sem]
 refine ⟨ts,q,⟨by rw [ha];rfl,hl,by rw [← ha];exact hq⟩,?_⟩
 simp only [ah,go_sem,hR]
 exact Z1
theorem EL:EntOk Tryz.prog 246 (Ent.pure JM):=iG fun av ha t c b F fst caps H hg hq=>by
 have hag:∀ x,∃ cs,av x=.agg cs∧cs.length=6:=by subst ha;exact fun x=>⟨_,rfl,rfl⟩
 refine ACalls.fW ap (tCq (cK (F:=F)) tNq) Tryz.func246 [.tmp 3] (nrq _) (T:=aj []) (h:=fun hcl hlt=>?_)
 have hcs:=ag hg
 have hl:=glq hg
 have hne:(c=H.nx)=False:=eq_false (by omega)
 obtain ⟨cs,hav,hcl3⟩:=hag t
 have hts:=ybc (Nat.le_of_eq hcl3)
 rw [hav] at hq hlt ⊢
 have hlx:=hlt _ (List.mem_cons_self)
 clear hlt
 simp only [go_sem,hcs,hne,hg,hcl3,hts,fT]
 refine ⟨_,?_,hq _ ((lRq _).push _) ?_⟩
 ·try simp only [ah,go_sem]
  exact Z1
 ·have h0:=AV.lt_mono (Nat.le_succ H.nx) _ hlx
  rw [znr] at h0
  exact af hcl h0
theorem mD:EntOk Tryz.prog 89 (Ent.pure bD):=iK fun av sz ha hs m ts q F fst caps H hl hq=>by
 have hL:EntOk Tryz.prog 246 (Ent.pure (pCl Tryz.prog av)):=by rw [ha];exact EL
 refine ACalls.fW ap (tCq EE tNq) Tryz.func89 [.tmp 4] (nrq _) (T:=aj []) (h:=fun hcl hlt=>?_)
 have hR:=@gt _ q ts
 generalize ts.all q=R at *
 have hfx:=hlt _ (List.mem_cons_of_mem _ List.mem_cons_self)
 clear hlt
 subst hs
 simp only [go_sem]
 refine ⟨ts,fun x=>!q x,⟨by rw [ha];rfl,hl,fun x hx=>?_⟩,?_⟩
 ·rw [← ha]
  exact clB hL ⟨x,q x,F,fst,caps,⟨rfl,by simp only [go_sem],fun H' h1 h2=>hq x hx H' (((lRq _).push _).trans h1) h2⟩,rfl⟩
 ·rw [hR]
  try simp only [ah,go_sem]
  exact Z1
abbrev JI:=@pIx SPrim Tryz.prog bV 6
abbrev K0:=@pAn SPrim Tryz.prog bV 6
abbrev cm:=@pEv SPrim Tryz.prog bV 6
abbrev Lv:=@pCl SPrim Tryz.prog bV
theorem Cy:EntOk Tryz.prog 324 (Ent.pure JI):=iM fun av sz ha hs m ts q F fst caps H hl hq=>by
 have hag:∀ x,∃ cs,av x=.agg cs∧cs.length=sz:=by subst ha hs;exact fun x=>⟨_,rfl,rfl⟩
 refine ACalls.fW ap (tCq (cK (F:=F)) tNq) Tryz.func324 [.tmp 4] (nrq _) (T:=aj []) (h:=fun hcl hlt=>?_)
 generalize hR:ixP q ts 0=R
 have hm:AV.lt H.nx (.slice m sz (ts.map av)):=hlt _ (by simp)
 have hf:AV.lt H.nx (.func (.func F) fst caps):=hlt _ (by simp)
 clear hlt
 simp only [go_sem,ybb]
 refine aD (A:=Nat) (fun k=>[(0,.slice m sz (ts.map av)),(1,.func (.func F) fst caps),(7,.int .i64 (ts.length:Int)),(8,.int .i64 (k:Int))]) (fun _=>H) (fun k=>k≤ts.length∧ixP q (ts.drop k) k=R) (fun k=>ts.length - k) 0 ⟨by omega,hR⟩ ?_ fun k hk=>?_
 ·exact ⟨nrq _,lRq _,hcl,by simp [ltF,znf,hm,hf],by simp [bk,wk2,wk1,wkM,Fr.get]⟩
 clear hR
 obtain ⟨hk,hR⟩:=hk
 simp only [go_sem]
 refine ak (fun hc=>?_) (fun hc=>?_)
 ·have hk':k<ts.length:=by simp at hc;omega
  obtain ⟨x,hx⟩:∃ x,x=ts[k]:=⟨_,rfl⟩
  have hd:ts.drop k=x::ts.drop (k+1):=by rw [hx];exact dcq hk'
  have hg':=a0 (f:=av) (l:=ts) (k:=k) (x:=x) (by rw [gQq hk',hx])
  have e5:=Yk5 k
  rw [hd] at hR
  unfold ixP at hR
  have hqx:=hq x (by rw [hx];exact gMq hk')
  obtain ⟨cs,hcs,hcl3⟩:=hag x
  have hts:List.take sz cs=cs:=ybc (by omega)
  rw [hcs] at hqx
  clear ha hag
  subst hs
  simp only [go_sem,iNq,ybb,hg',hcs,hcl3,hts,fT]
  (repeat with_reducible refine Yq ?_)
  refine ⟨_,?_,hqx⟩
  try simp only [ah,go_sem]
  try (repeat with_reducible refine Yq ?_)
  refine ak (fun hq=>?_) (fun hq=>?_)
  ·rw [if_pos hq] at hR
   subst hR
   simp only [go_sem]
   exact Z1
  ·rw [if_neg (by rw [hq];decide)] at hR
   simp only [go_sem,e5]
   exact ⟨k+1,⟨by omega,hR⟩,by omega,nrq _,lRq _,hcl,by simp [ltF,znf,hm,hf],by simp [bk,wk2,wk1,wkM,Fr.get]⟩
 ·have hk':k=ts.length:=by simp at hc;omega
  subst hk'
  rw [List.drop_length] at hR
  unfold ixP at hR
  subst hR
  simp only [go_sem]
  exact Z1
theorem Gd:EntOk Tryz.prog 259 (Ent.pure K0):=iu fun av sz ha hs m ts q F fst caps H hl hq=>by
 refine ACalls.fW ap (tCq Cy tNq) Tryz.func259 [.tmp 4] (nrq _) (T:=aj []) (h:=fun hcl hlt=>?_)
 clear hlt
 have hR:=@ep _ q ts 0
 generalize ts.any q=R at *
 subst hs
 simp only [go_sem]
 refine ⟨ts,q,⟨by rw [ha];rfl,hl,by rw [← ha];exact hq⟩,?_⟩
 simp only [ah,go_sem,hR]
 exact Z1
theorem Ej:EntOk Tryz.prog 260 (Ent.pure Lv):=iG fun av ha t c b F fst caps H hg hq=>by
 have hag:∀ x,∃ cs,av x=.agg cs∧cs.length=6:=by subst ha;exact fun x=>⟨_,rfl,rfl⟩
 refine ACalls.fW ap (tCq (cK (F:=F)) tNq) Tryz.func260 [.tmp 3] (nrq _) (T:=aj []) (h:=fun hcl hlt=>?_)
 have hcs:=ag hg
 have hl:=glq hg
 have hne:(c=H.nx)=False:=eq_false (by omega)
 obtain ⟨cs,hav,hcl3⟩:=hag t
 have hts:=ybc (Nat.le_of_eq hcl3)
 rw [hav] at hq hlt ⊢
 have hlx:=hlt _ (List.mem_cons_self)
 clear hlt
 simp only [go_sem,hcs,hne,hg,hcl3,hts,fT]
 refine ⟨_,?_,hq _ ((lRq _).push _) ?_⟩
 ·try simp only [ah,go_sem]
  exact Z1
 ·have h0:=AV.lt_mono (Nat.le_succ H.nx) _ hlx
  rw [znr] at h0
  exact af hcl h0
theorem rp:EntOk Tryz.prog 122 (Ent.pure cm):=iK fun av sz ha hs m ts q F fst caps H hl hq=>by
 have hL:EntOk Tryz.prog 260 (Ent.pure (pCl Tryz.prog av)):=by rw [ha];exact Ej
 refine ACalls.fW ap (tCq Gd tNq) Tryz.func122 [.tmp 4] (nrq _) (T:=aj []) (h:=fun hcl hlt=>?_)
 have hR:=@gt _ q ts
 generalize ts.all q=R at *
 have hfx:=hlt _ (List.mem_cons_of_mem _ List.mem_cons_self)
 clear hlt
 subst hs
 simp only [go_sem]
 refine ⟨ts,fun x=>!q x,⟨by rw [ha];rfl,hl,fun x hx=>?_⟩,?_⟩
 ·rw [← ha]
  exact clB hL ⟨x,q x,F,fst,caps,⟨rfl,by simp only [go_sem],fun H' h1 h2=>hq x hx H' (((lRq _).push _).trans h1) h2⟩,rfl⟩
 ·rw [hR]
  try simp only [ah,go_sem]
  exact Z1
abbrev Ji:=@pIx SStage Tryz.prog bx 2
abbrev JR:=@pAn SStage Tryz.prog bx 2
abbrev eu:=@pEv SStage Tryz.prog bx 2
abbrev Jd:=@pCl SStage Tryz.prog bx
theorem F6:EntOk Tryz.prog 328 (Ent.pure Ji):=iM fun av sz ha hs m ts q F fst caps H hl hq=>by
 have hag:∀ x,∃ cs,av x=.agg cs∧cs.length=sz:=by subst ha hs;exact fun x=>⟨_,rfl,rfl⟩
 refine ACalls.fW ap (tCq (cK (F:=F)) tNq) Tryz.func328 [.tmp 4] (nrq _) (T:=aj []) (h:=fun hcl hlt=>?_)
 generalize hR:ixP q ts 0=R
 have hm:AV.lt H.nx (.slice m sz (ts.map av)):=hlt _ (by simp)
 have hf:AV.lt H.nx (.func (.func F) fst caps):=hlt _ (by simp)
 clear hlt
 simp only [go_sem,ybb]
 refine aD (A:=Nat) (fun k=>[(0,.slice m sz (ts.map av)),(1,.func (.func F) fst caps),(7,.int .i64 (ts.length:Int)),(8,.int .i64 (k:Int))]) (fun _=>H) (fun k=>k≤ts.length∧ixP q (ts.drop k) k=R) (fun k=>ts.length - k) 0 ⟨by omega,hR⟩ ?_ fun k hk=>?_
 ·exact ⟨nrq _,lRq _,hcl,by simp [ltF,znf,hm,hf],by simp [bk,wk2,wk1,wkM,Fr.get]⟩
 clear hR
 obtain ⟨hk,hR⟩:=hk
 simp only [go_sem]
 refine ak (fun hc=>?_) (fun hc=>?_)
 ·have hk':k<ts.length:=by simp at hc;omega
  obtain ⟨x,hx⟩:∃ x,x=ts[k]:=⟨_,rfl⟩
  have hd:ts.drop k=x::ts.drop (k+1):=by rw [hx];exact dcq hk'
  have hg':=a0 (f:=av) (l:=ts) (k:=k) (x:=x) (by rw [gQq hk',hx])
  have e5:=Yk5 k
  rw [hd] at hR
  unfold ixP at hR
  have hqx:=hq x (by rw [hx];exact gMq hk')
  obtain ⟨cs,hcs,hcl3⟩:=hag x
  have hts:List.take sz cs=cs:=ybc (by omega)
  rw [hcs] at hqx
  clear ha hag
  subst hs
  simp only [go_sem,iNq,ybb,hg',hcs,hcl3,hts,fT]
  (repeat with_reducible refine Yq ?_)
  refine ⟨_,?_,hqx⟩
  try simp only [ah,go_sem]
  try (repeat with_reducible refine Yq ?_)
  refine ak (fun hq=>?_) (fun hq=>?_)
  ·rw [if_pos hq] at hR
   subst hR
   simp only [go_sem]
   exact Z1
  ·rw [if_neg (by rw [hq];decide)] at hR
   simp only [go_sem,e5]
   exact ⟨k+1,⟨by omega,hR⟩,by omega,nrq _,lRq _,hcl,by simp [ltF,znf,hm,hf],by simp [bk,wk2,wk1,wkM,Fr.get]⟩
 ·have hk':k=ts.length:=by simp at hc;omega
  subst hk'
  rw [List.drop_length] at hR
  unfold ixP at hR
  subst hR
  simp only [go_sem]
  exact Z1
theorem C7:EntOk Tryz.prog 268 (Ent.pure JR):=iu fun av sz ha hs m ts q F fst caps H hl hq=>by
 refine ACalls.fW ap (tCq F6 tNq) Tryz.func268 [.tmp 4] (nrq _) (T:=aj []) (h:=fun hcl hlt=>?_)
 clear hlt
 have hR:=@ep _ q ts 0
 generalize ts.any q=R at *
 subst hs
 simp only [go_sem]
 refine ⟨ts,q,⟨by rw [ha];rfl,hl,by rw [← ha];exact hq⟩,?_⟩
 simp only [ah,go_sem,hR]
 exact Z1
theorem DI:EntOk Tryz.prog 269 (Ent.pure Jd):=iG fun av ha t c b F fst caps H hg hq=>by
 have hag:∀ x,∃ cs,av x=.agg cs∧cs.length=2:=by subst ha;exact fun x=>⟨_,rfl,rfl⟩
 refine ACalls.fW ap (tCq (cK (F:=F)) tNq) Tryz.func269 [.tmp 3] (nrq _) (T:=aj []) (h:=fun hcl hlt=>?_)
 have hcs:=ag hg
 have hl:=glq hg
 have hne:(c=H.nx)=False:=eq_false (by omega)
 obtain ⟨cs,hav,hcl3⟩:=hag t
 have hts:=ybc (Nat.le_of_eq hcl3)
 rw [hav] at hq hlt ⊢
 have hlx:=hlt _ (List.mem_cons_self)
 clear hlt
 simp only [go_sem,hcs,hne,hg,hcl3,hts,fT]
 refine ⟨_,?_,hq _ ((lRq _).push _) ?_⟩
 ·try simp only [ah,go_sem]
  exact Z1
 ·have h0:=AV.lt_mono (Nat.le_succ H.nx) _ hlx
  rw [znr] at h0
  exact af hcl h0
theorem Ia:EntOk Tryz.prog 135 (Ent.pure eu):=iK fun av sz ha hs m ts q F fst caps H hl hq=>by
 have hL:EntOk Tryz.prog 269 (Ent.pure (pCl Tryz.prog av)):=by rw [ha];exact DI
 refine ACalls.fW ap (tCq C7 tNq) Tryz.func135 [.tmp 4] (nrq _) (T:=aj []) (h:=fun hcl hlt=>?_)
 have hR:=@gt _ q ts
 generalize ts.all q=R at *
 have hfx:=hlt _ (List.mem_cons_of_mem _ List.mem_cons_self)
 clear hlt
 subst hs
 simp only [go_sem]
 refine ⟨ts,fun x=>!q x,⟨by rw [ha];rfl,hl,fun x hx=>?_⟩,?_⟩
 ·rw [← ha]
  exact clB hL ⟨x,q x,F,fst,caps,⟨rfl,by simp only [go_sem],fun H' h1 h2=>hq x hx H' (((lRq _).push _).trans h1) h2⟩,rfl⟩
 ·rw [hR]
  try simp only [ah,go_sem]
  exact Z1
abbrev Ki:=@pIx SGrant Tryz.prog bj 4
abbrev JC:=@pAn SGrant Tryz.prog bj 4
abbrev cx:=@pEv SGrant Tryz.prog bj 4
abbrev J1:=@pCl SGrant Tryz.prog bj
theorem Gs:EntOk Tryz.prog 330 (Ent.pure Ki):=iM fun av sz ha hs m ts q F fst caps H hl hq=>by
 have hag:∀ x,∃ cs,av x=.agg cs∧cs.length=sz:=by subst ha hs;exact fun x=>⟨_,rfl,rfl⟩
 refine ACalls.fW ap (tCq (cK (F:=F)) tNq) Tryz.func330 [.tmp 4] (nrq _) (T:=aj []) (h:=fun hcl hlt=>?_)
 generalize hR:ixP q ts 0=R
 have hm:AV.lt H.nx (.slice m sz (ts.map av)):=hlt _ (by simp)
 have hf:AV.lt H.nx (.func (.func F) fst caps):=hlt _ (by simp)
 clear hlt
 simp only [go_sem,ybb]
 refine aD (A:=Nat) (fun k=>[(0,.slice m sz (ts.map av)),(1,.func (.func F) fst caps),(7,.int .i64 (ts.length:Int)),(8,.int .i64 (k:Int))]) (fun _=>H) (fun k=>k≤ts.length∧ixP q (ts.drop k) k=R) (fun k=>ts.length - k) 0 ⟨by omega,hR⟩ ?_ fun k hk=>?_
 ·exact ⟨nrq _,lRq _,hcl,by simp [ltF,znf,hm,hf],by simp [bk,wk2,wk1,wkM,Fr.get]⟩
 clear hR
 obtain ⟨hk,hR⟩:=hk
 simp only [go_sem]
 refine ak (fun hc=>?_) (fun hc=>?_)
 ·have hk':k<ts.length:=by simp at hc;omega
  obtain ⟨x,hx⟩:∃ x,x=ts[k]:=⟨_,rfl⟩
  have hd:ts.drop k=x::ts.drop (k+1):=by rw [hx];exact dcq hk'
  have hg':=a0 (f:=av) (l:=ts) (k:=k) (x:=x) (by rw [gQq hk',hx])
  have e5:=Yk5 k
  rw [hd] at hR
  unfold ixP at hR
  have hqx:=hq x (by rw [hx];exact gMq hk')
  obtain ⟨cs,hcs,hcl3⟩:=hag x
  have hts:List.take sz cs=cs:=ybc (by omega)
  rw [hcs] at hqx
  clear ha hag
  subst hs
  simp only [go_sem,iNq,ybb,hg',hcs,hcl3,hts,fT]
  (repeat with_reducible refine Yq ?_)
  refine ⟨_,?_,hqx⟩
  try simp only [ah,go_sem]
  try (repeat with_reducible refine Yq ?_)
  refine ak (fun hq=>?_) (fun hq=>?_)
  ·rw [if_pos hq] at hR
   subst hR
   simp only [go_sem]
   exact Z1
  ·rw [if_neg (by rw [hq];decide)] at hR
   simp only [go_sem,e5]
   exact ⟨k+1,⟨by omega,hR⟩,by omega,nrq _,lRq _,hcl,by simp [ltF,znf,hm,hf],by simp [bk,wk2,wk1,wkM,Fr.get]⟩
 ·have hk':k=ts.length:=by simp at hc;omega
  subst hk'
  rw [List.drop_length] at hR
  unfold ixP at hR
  subst hR
  simp only [go_sem]
  exact Z1
theorem GS:EntOk Tryz.prog 271 (Ent.pure JC):=iu fun av sz ha hs m ts q F fst caps H hl hq=>by
 refine ACalls.fW ap (tCq Gs tNq) Tryz.func271 [.tmp 4] (nrq _) (T:=aj []) (h:=fun hcl hlt=>?_)
 clear hlt
 have hR:=@ep _ q ts 0
 generalize ts.any q=R at *
 subst hs
 simp only [go_sem]
 refine ⟨ts,q,⟨by rw [ha];rfl,hl,by rw [← ha];exact hq⟩,?_⟩
 simp only [ah,go_sem,hR]
 exact Z1
theorem DG:EntOk Tryz.prog 272 (Ent.pure J1):=iG fun av ha t c b F fst caps H hg hq=>by
 have hag:∀ x,∃ cs,av x=.agg cs∧cs.length=4:=by subst ha;exact fun x=>⟨_,rfl,rfl⟩
 refine ACalls.fW ap (tCq (cK (F:=F)) tNq) Tryz.func272 [.tmp 3] (nrq _) (T:=aj []) (h:=fun hcl hlt=>?_)
 have hcs:=ag hg
 have hl:=glq hg
 have hne:(c=H.nx)=False:=eq_false (by omega)
 obtain ⟨cs,hav,hcl3⟩:=hag t
 have hts:=ybc (Nat.le_of_eq hcl3)
 rw [hav] at hq hlt ⊢
 have hlx:=hlt _ (List.mem_cons_self)
 clear hlt
 simp only [go_sem,hcs,hne,hg,hcl3,hts,fT]
 refine ⟨_,?_,hq _ ((lRq _).push _) ?_⟩
 ·try simp only [ah,go_sem]
  exact Z1
 ·have h0:=AV.lt_mono (Nat.le_succ H.nx) _ hlx
  rw [znr] at h0
  exact af hcl h0
theorem wL:EntOk Tryz.prog 140 (Ent.pure cx):=iK fun av sz ha hs m ts q F fst caps H hl hq=>by
 have hL:EntOk Tryz.prog 272 (Ent.pure (pCl Tryz.prog av)):=by rw [ha];exact DG
 refine ACalls.fW ap (tCq GS tNq) Tryz.func140 [.tmp 4] (nrq _) (T:=aj []) (h:=fun hcl hlt=>?_)
 have hR:=@gt _ q ts
 generalize ts.all q=R at *
 have hfx:=hlt _ (List.mem_cons_of_mem _ List.mem_cons_self)
 clear hlt
 subst hs
 simp only [go_sem]
 refine ⟨ts,fun x=>!q x,⟨by rw [ha];rfl,hl,fun x hx=>?_⟩,?_⟩
 ·rw [← ha]
  exact clB hL ⟨x,q x,F,fst,caps,⟨rfl,by simp only [go_sem],fun H' h1 h2=>hq x hx H' (((lRq _).push _).trans h1) h2⟩,rfl⟩
 ·rw [hR]
  try simp only [ah,go_sem]
  exact Z1
abbrev KX:=@pIx SCase Tryz.prog cI 5
abbrev Kb:=@pAn SCase Tryz.prog cI 5
abbrev bX:=@pEv SCase Tryz.prog cI 5
abbrev KK:=@pCl SCase Tryz.prog cI
theorem Fp:EntOk Tryz.prog 331 (Ent.pure KX):=iM fun av sz ha hs m ts q F fst caps H hl hq=>by
 have hag:∀ x,∃ cs,av x=.agg cs∧cs.length=sz:=by subst ha hs;exact fun x=>⟨_,rfl,rfl⟩
 refine ACalls.fW ap (tCq (cK (F:=F)) tNq) Tryz.func331 [.tmp 4] (nrq _) (T:=aj []) (h:=fun hcl hlt=>?_)
 generalize hR:ixP q ts 0=R
 have hm:AV.lt H.nx (.slice m sz (ts.map av)):=hlt _ (by simp)
 have hf:AV.lt H.nx (.func (.func F) fst caps):=hlt _ (by simp)
 clear hlt
 simp only [go_sem,ybb]
 refine aD (A:=Nat) (fun k=>[(0,.slice m sz (ts.map av)),(1,.func (.func F) fst caps),(7,.int .i64 (ts.length:Int)),(8,.int .i64 (k:Int))]) (fun _=>H) (fun k=>k≤ts.length∧ixP q (ts.drop k) k=R) (fun k=>ts.length - k) 0 ⟨by omega,hR⟩ ?_ fun k hk=>?_
 ·exact ⟨nrq _,lRq _,hcl,by simp [ltF,znf,hm,hf],by simp [bk,wk2,wk1,wkM,Fr.get]⟩
 clear hR
 obtain ⟨hk,hR⟩:=hk
 simp only [go_sem]
 refine ak (fun hc=>?_) (fun hc=>?_)
 ·have hk':k<ts.length:=by simp at hc;omega
  obtain ⟨x,hx⟩:∃ x,x=ts[k]:=⟨_,rfl⟩
  have hd:ts.drop k=x::ts.drop (k+1):=by rw [hx];exact dcq hk'
  have hg':=a0 (f:=av) (l:=ts) (k:=k) (x:=x) (by rw [gQq hk',hx])
  have e5:=Yk5 k
  rw [hd] at hR
  unfold ixP at hR
  have hqx:=hq x (by rw [hx];exact gMq hk')
  obtain ⟨cs,hcs,hcl3⟩:=hag x
  have hts:List.take sz cs=cs:=ybc (by omega)
  rw [hcs] at hqx
  clear ha hag
  subst hs
  simp only [go_sem,iNq,ybb,hg',hcs,hcl3,hts,fT]
  (repeat with_reducible refine Yq ?_)
  refine ⟨_,?_,hqx⟩
  try simp only [ah,go_sem]
  try (repeat with_reducible refine Yq ?_)
  refine ak (fun hq=>?_) (fun hq=>?_)
  ·rw [if_pos hq] at hR
   subst hR
   simp only [go_sem]
   exact Z1
  ·rw [if_neg (by rw [hq];decide)] at hR
   simp only [go_sem,e5]
   exact ⟨k+1,⟨by omega,hR⟩,by omega,nrq _,lRq _,hcl,by simp [ltF,znf,hm,hf],by simp [bk,wk2,wk1,wkM,Fr.get]⟩
 ·have hk':k=ts.length:=by simp at hc;omega
  subst hk'
  rw [List.drop_length] at hR
  unfold ixP at hR
  subst hR
  simp only [go_sem]
  exact Z1
theorem Gh:EntOk Tryz.prog 273 (Ent.pure Kb):=iu fun av sz ha hs m ts q F fst caps H hl hq=>by
 refine ACalls.fW ap (tCq Fp tNq) Tryz.func273 [.tmp 4] (nrq _) (T:=aj []) (h:=fun hcl hlt=>?_)
 clear hlt
 have hR:=@ep _ q ts 0
 generalize ts.any q=R at *
 subst hs
 simp only [go_sem]
 refine ⟨ts,q,⟨by rw [ha];rfl,hl,by rw [← ha];exact hq⟩,?_⟩
 simp only [ah,go_sem,hR]
 exact Z1
theorem Fq:EntOk Tryz.prog 274 (Ent.pure KK):=iG fun av ha t c b F fst caps H hg hq=>by
 have hag:∀ x,∃ cs,av x=.agg cs∧cs.length=5:=by subst ha;exact fun x=>⟨_,rfl,rfl⟩
 refine ACalls.fW ap (tCq (cK (F:=F)) tNq) Tryz.func274 [.tmp 3] (nrq _) (T:=aj []) (h:=fun hcl hlt=>?_)
 have hcs:=ag hg
 have hl:=glq hg
 have hne:(c=H.nx)=False:=eq_false (by omega)
 obtain ⟨cs,hav,hcl3⟩:=hag t
 have hts:=ybc (Nat.le_of_eq hcl3)
 rw [hav] at hq hlt ⊢
 have hlx:=hlt _ (List.mem_cons_self)
 clear hlt
 simp only [go_sem,hcs,hne,hg,hcl3,hts,fT]
 refine ⟨_,?_,hq _ ((lRq _).push _) ?_⟩
 ·try simp only [ah,go_sem]
  exact Z1
 ·have h0:=AV.lt_mono (Nat.le_succ H.nx) _ hlx
  rw [znr] at h0
  exact af hcl h0
theorem wg:EntOk Tryz.prog 150 (Ent.pure bX):=iK fun av sz ha hs m ts q F fst caps H hl hq=>by
 have hL:EntOk Tryz.prog 274 (Ent.pure (pCl Tryz.prog av)):=by rw [ha];exact Fq
 refine ACalls.fW ap (tCq Gh tNq) Tryz.func150 [.tmp 4] (nrq _) (T:=aj []) (h:=fun hcl hlt=>?_)
 have hR:=@gt _ q ts
 generalize ts.all q=R at *
 have hfx:=hlt _ (List.mem_cons_of_mem _ List.mem_cons_self)
 clear hlt
 subst hs
 simp only [go_sem]
 refine ⟨ts,fun x=>!q x,⟨by rw [ha];rfl,hl,fun x hx=>?_⟩,?_⟩
 ·rw [← ha]
  exact clB hL ⟨x,q x,F,fst,caps,⟨rfl,by simp only [go_sem],fun H' h1 h2=>hq x hx H' (((lRq _).push _).trans h1) h2⟩,rfl⟩
 ·rw [hR]
  try simp only [ah,go_sem]
  exact Z1
abbrev Ii:=@pIx SRef Tryz.prog bU 6
abbrev Jy:=@pAn SRef Tryz.prog bU 6
abbrev bM:=@pEv SRef Tryz.prog bU 6
abbrev Kt:=@pCl SRef Tryz.prog bU
theorem HX:EntOk Tryz.prog 288 (Ent.pure Ii):=iM fun av sz ha hs m ts q F fst caps H hl hq=>by
 have hag:∀ x,∃ cs,av x=.agg cs∧cs.length=sz:=by subst ha hs;exact fun x=>⟨_,rfl,rfl⟩
 refine ACalls.fW ap (tCq (cK (F:=F)) tNq) Tryz.func288 [.tmp 4] (nrq _) (T:=aj []) (h:=fun hcl hlt=>?_)
 generalize hR:ixP q ts 0=R
 have hm:AV.lt H.nx (.slice m sz (ts.map av)):=hlt _ (by simp)
 have hf:AV.lt H.nx (.func (.func F) fst caps):=hlt _ (by simp)
 clear hlt
 simp only [go_sem,ybb]
 refine aD (A:=Nat) (fun k=>[(0,.slice m sz (ts.map av)),(1,.func (.func F) fst caps),(7,.int .i64 (ts.length:Int)),(8,.int .i64 (k:Int))]) (fun _=>H) (fun k=>k≤ts.length∧ixP q (ts.drop k) k=R) (fun k=>ts.length - k) 0 ⟨by omega,hR⟩ ?_ fun k hk=>?_
 ·exact ⟨nrq _,lRq _,hcl,by simp [ltF,znf,hm,hf],by simp [bk,wk2,wk1,wkM,Fr.get]⟩
 clear hR
 obtain ⟨hk,hR⟩:=hk
 simp only [go_sem]
 refine ak (fun hc=>?_) (fun hc=>?_)
 ·have hk':k<ts.length:=by simp at hc;omega
  obtain ⟨x,hx⟩:∃ x,x=ts[k]:=⟨_,rfl⟩
  have hd:ts.drop k=x::ts.drop (k+1):=by rw [hx];exact dcq hk'
  have hg':=a0 (f:=av) (l:=ts) (k:=k) (x:=x) (by rw [gQq hk',hx])
  have e5:=Yk5 k
  rw [hd] at hR
  unfold ixP at hR
  have hqx:=hq x (by rw [hx];exact gMq hk')
  obtain ⟨cs,hcs,hcl3⟩:=hag x
  have hts:List.take sz cs=cs:=ybc (by omega)
  rw [hcs] at hqx
  clear ha hag
  subst hs
  simp only [go_sem,iNq,ybb,hg',hcs,hcl3,hts,fT]
  (repeat with_reducible refine Yq ?_)
  refine ⟨_,?_,hqx⟩
  try simp only [ah,go_sem]
  try (repeat with_reducible refine Yq ?_)
  refine ak (fun hq=>?_) (fun hq=>?_)
  ·rw [if_pos hq] at hR
   subst hR
   simp only [go_sem]
   exact Z1
  ·rw [if_neg (by rw [hq];decide)] at hR
   simp only [go_sem,e5]
   exact ⟨k+1,⟨by omega,hR⟩,by omega,nrq _,lRq _,hcl,by simp [ltF,znf,hm,hf],by simp [bk,wk2,wk1,wkM,Fr.get]⟩
 ·have hk':k=ts.length:=by simp at hc;omega
  subst hk'
  rw [List.drop_length] at hR
  unfold ixP at hR
  subst hR
  simp only [go_sem]
  exact Z1
theorem Cz:EntOk Tryz.prog 188 (Ent.pure Jy):=iu fun av sz ha hs m ts q F fst caps H hl hq=>by
 refine ACalls.fW ap (tCq HX tNq) Tryz.func188 [.tmp 4] (nrq _) (T:=aj []) (h:=fun hcl hlt=>?_)
 clear hlt
 have hR:=@ep _ q ts 0
 generalize ts.any q=R at *
 subst hs
 simp only [go_sem]
 refine ⟨ts,q,⟨by rw [ha];rfl,hl,by rw [← ha];exact hq⟩,?_⟩
 simp only [ah,go_sem,hR]
 exact Z1
theorem Hu:EntOk Tryz.prog 189 (Ent.pure Kt):=iG fun av ha t c b F fst caps H hg hq=>by
 have hag:∀ x,∃ cs,av x=.agg cs∧cs.length=6:=by subst ha;exact fun x=>⟨_,rfl,rfl⟩
 refine ACalls.fW ap (tCq (cK (F:=F)) tNq) Tryz.func189 [.tmp 3] (nrq _) (T:=aj []) (h:=fun hcl hlt=>?_)
 have hcs:=ag hg
 have hl:=glq hg
 have hne:(c=H.nx)=False:=eq_false (by omega)
 obtain ⟨cs,hav,hcl3⟩:=hag t
 have hts:=ybc (Nat.le_of_eq hcl3)
 rw [hav] at hq hlt ⊢
 have hlx:=hlt _ (List.mem_cons_self)
 clear hlt
 simp only [go_sem,hcs,hne,hg,hcl3,hts,fT]
 refine ⟨_,?_,hq _ ((lRq _).push _) ?_⟩
 ·try simp only [ah,go_sem]
  exact Z1
 ·have h0:=AV.lt_mono (Nat.le_succ H.nx) _ hlx
  rw [znr] at h0
  exact af hcl h0
theorem ou:EntOk Tryz.prog 52 (Ent.pure bM):=iK fun av sz ha hs m ts q F fst caps H hl hq=>by
 have hL:EntOk Tryz.prog 189 (Ent.pure (pCl Tryz.prog av)):=by rw [ha];exact Hu
 refine ACalls.fW ap (tCq Cz tNq) Tryz.func52 [.tmp 4] (nrq _) (T:=aj []) (h:=fun hcl hlt=>?_)
 have hR:=@gt _ q ts
 generalize ts.all q=R at *
 have hfx:=hlt _ (List.mem_cons_of_mem _ List.mem_cons_self)
 clear hlt
 subst hs
 simp only [go_sem]
 refine ⟨ts,fun x=>!q x,⟨by rw [ha];rfl,hl,fun x hx=>?_⟩,?_⟩
 ·rw [← ha]
  exact clB hL ⟨x,q x,F,fst,caps,⟨rfl,by simp only [go_sem],fun H' h1 h2=>hq x hx H' (((lRq _).push _).trans h1) h2⟩,rfl⟩
 ·rw [hR]
  try simp only [ah,go_sem]
  exact Z1
abbrev K6:=@pIx Int Tryz.prog (AV.int .i64) 1
abbrev IB:=@pAn Int Tryz.prog (AV.int .i64) 1
abbrev cS:=@pEv Int Tryz.prog (AV.int .i64) 1
abbrev Lz:=@pCl Int Tryz.prog (AV.int .i64)
theorem FO:EntOk Tryz.prog 326 (Ent.pure K6):=iM fun av sz ha hs m ts q F fst caps H hl hq=>by
 refine ACalls.fW ap (tCq (cK (F:=F)) tNq) Tryz.func326 [.tmp 4] (nrq _) (T:=aj []) (h:=fun hcl hlt=>?_)
 subst ha hs
 generalize hR:ixP q ts 0=R
 have hm:AV.lt H.nx (.slice m 1 (ts.map (AV.int .i64))):=hlt _ (by simp)
 have hf:AV.lt H.nx (.func (.func F) fst caps):=hlt _ (by simp)
 clear hlt
 simp only [go_sem,ybb]
 refine aD (A:=Nat) (fun k=>[(0,.slice m 1 (ts.map (AV.int .i64))),(1,.func (.func F) fst caps),(7,.int .i64 (ts.length:Int)),(8,.int .i64 (k:Int))]) (fun _=>H) (fun k=>k≤ts.length∧ixP q (ts.drop k) k=R) (fun k=>ts.length - k) 0 ⟨by omega,hR⟩ ?_ fun k hk=>?_
 ·exact ⟨nrq _,lRq _,hcl,by simp [ltF,znf,hm,hf],by simp [bk,wk2,wk1,wkM,Fr.get]⟩
 clear hR
 obtain ⟨hk,hR⟩:=hk
 simp only [go_sem]
 refine ak (fun hc=>?_) (fun hc=>?_)
 ·have hk':k<ts.length:=by simp at hc;omega
  obtain ⟨x,hx⟩:∃ x,x=ts[k]:=⟨_,rfl⟩
  have hd:ts.drop k=x::ts.drop (k+1):=by rw [hx];exact dcq hk'
  have hg':=a0 (f:=(AV.int .i64)) (l:=ts) (k:=k) (x:=x) (by rw [gQq hk',hx])
  have e5:=Yk5 k
  rw [hd] at hR
  unfold ixP at hR
  have hqx:=hq x (by rw [hx];exact gMq hk')
  simp only [go_sem,iNq,ybb,hg',fT]
  (repeat with_reducible refine Yq ?_)
  refine ⟨_,?_,hqx⟩
  try simp only [ah,go_sem]
  try (repeat with_reducible refine Yq ?_)
  refine ak (fun hq=>?_) (fun hq=>?_)
  ·rw [if_pos hq] at hR
   subst hR
   simp only [go_sem]
   exact Z1
  ·rw [if_neg (by rw [hq];decide)] at hR
   simp only [go_sem,e5]
   exact ⟨k+1,⟨by omega,hR⟩,by omega,nrq _,lRq _,hcl,by simp [ltF,znf,hm,hf],by simp [bk,wk2,wk1,wkM,Fr.get]⟩
 ·have hk':k=ts.length:=by simp at hc;omega
  subst hk'
  rw [List.drop_length] at hR
  unfold ixP at hR
  subst hR
  simp only [go_sem]
  exact Z1
theorem Fc:EntOk Tryz.prog 263 (Ent.pure IB):=iu fun av sz ha hs m ts q F fst caps H hl hq=>by
 refine ACalls.fW ap (tCq FO tNq) Tryz.func263 [.tmp 4] (nrq _) (T:=aj []) (h:=fun hcl hlt=>?_)
 clear hlt
 have hR:=@ep _ q ts 0
 generalize ts.any q=R at *
 subst hs
 simp only [go_sem]
 refine ⟨ts,q,⟨by rw [ha];rfl,hl,by rw [← ha];exact hq⟩,?_⟩
 simp only [ah,go_sem,hR]
 exact Z1
theorem Ht:EntOk Tryz.prog 264 (Ent.pure Lz):=iG fun av ha t c b F fst caps H hg hq=>by
 subst ha
 refine ACalls.fW ap (tCq (cK (F:=F)) tNq) Tryz.func264 [.tmp 3] (nrq _) (T:=aj []) (h:=fun hcl hlt=>?_)
 have hcs:=ag hg
 have hl:=glq hg
 have hne:(c=H.nx)=False:=eq_false (by omega)
 have hlx:=hlt _ (List.mem_cons_self)
 clear hlt
 simp only [go_sem,hcs,hne,hg,fT]
 refine ⟨_,?_,hq _ (lRq _) hcl⟩
 try simp only [ah,go_sem]
 exact Z1
theorem sI:EntOk Tryz.prog 129 (Ent.pure cS):=iK fun av sz ha hs m ts q F fst caps H hl hq=>by
 have hL:EntOk Tryz.prog 264 (Ent.pure (pCl Tryz.prog av)):=by rw [ha];exact Ht
 refine ACalls.fW ap (tCq Fc tNq) Tryz.func129 [.tmp 4] (nrq _) (T:=aj []) (h:=fun hcl hlt=>?_)
 have hR:=@gt _ q ts
 generalize ts.all q=R at *
 have hfx:=hlt _ (List.mem_cons_of_mem _ List.mem_cons_self)
 clear hlt
 subst hs
 simp only [go_sem]
 refine ⟨ts,fun x=>!q x,⟨by rw [ha];rfl,hl,fun x hx=>?_⟩,?_⟩
 ·rw [← ha]
  exact clB hL ⟨x,q x,F,fst,caps,⟨rfl,by simp only [go_sem],fun H' h1 h2=>hq x hx H' (((lRq _).push _).trans h1) h2⟩,rfl⟩
 ·rw [hR]
  try simp only [ah,go_sem]
  exact Z1
theorem Cb:ti Tryz.prog 22=some ⟨.slice 5,1,24,.slice .nil 1 []⟩:=by kernel_rfl
attribute [go_sem] Cb
def xW (c:UInt8):Bool:=decide (97≤c.toNat)&&decide (c.toNat≤122)
def jr (c:UInt8):Bool:=(decide (48≤c.toNat)&&decide (c.toNat≤57))||decide (c.toNat=95)
def pP:List UInt8→Nat→Bool
 |[],_=>true
 |c::r,i=>(xW c||(!decide (i=0)&&jr c))&&pP r (i+1)
def dx (s:List UInt8):Bool:=pP s 0&&decide (s≠[])
def j2 (s:List UInt8):Bool:=dx s&&decide (s≠[112,114,105,111,114,105,116,121])&&decide (s≠[116,114,117,101])&&decide (s≠[102,97,108,115,101])
def cW:List AV→AHeap→(AV→Prop)→Prop
 |[.str s],_,K=>s.length≤140737488355328∧K (.bool (dx s))
 |_,_,_=>False
theorem jO:EntOk Tryz.prog 77 (Ent.pure cW):=by
 refine Ype fun _ H K h=>?_
 unfold cW at h
 split at h
 rotate_left
 ·exact h.elim
 rename_i s
 obtain ⟨hl,hK⟩:=h
 refine ⟨_,hK,?_⟩
 clear hK
 generalize hR:dx s=R
 unfold dx at hR
 obtain ⟨Q,hQ⟩:∃ Q,pP s 0=Q:=⟨_,rfl⟩
 rw [hQ] at hR
 have dn1:(!true)=false:=rfl
 have dn2:(!false)=true:=rfl
 have lt_bys:∀ n,AV.lt n (.slice .any 1 (s.map bC)):=fun n=>aZ fun x=>by simp only [bC,znf]
 refine ACalls.fW ap tNq Tryz.func77 [.tmp 2] (nrq _) (T:=aj []) (h:=fun hcl hlt=>?_)
 clear hlt
 simp only [go_sem]
 refine ⟨by omega,?_⟩
 refine aD (A:=Nat) (fun k=>[(0,.str s),(7,.slice .any 1 (s.map bC)),(8,.int .i64 (s.length:Int)),(9,.int .i64 (k:Int))]) (fun _=>H) (fun k=>k≤s.length∧pP (s.drop k) k=Q) (fun k=>s.length - k) 0 ⟨by omega,hQ⟩ ?_ fun k hk=>?_
 ·refine ⟨by (try simp only [zkq,zkv,zle]);omega,by repeat first|exact .refl _|refine .push ?_ _,hcl,?_,?_⟩
  ·simp [ltF,zle,znn,znf,znh,lt_bys]
   try omega
  ·simp [bk,wk2,wk1,wkM,Fr.get]
 clear hQ
 obtain ⟨hk,hQ⟩:=hk
 simp only [go_sem]
 refine ak (fun hc=>?_) (fun hc=>?_)
 ·have hk':k<s.length:=by simp at hc;omega
  obtain ⟨c,hcx⟩:∃ c,c=s[k]:=⟨_,rfl⟩
  have hd:s.drop k=c::s.drop (k+1):=by rw [hcx];exact dcq hk'
  have hg':=a0 (f:=bC) (l:=s) (k:=k) (x:=c) (by rw [gQq hk',hcx])
  have hgs:s.getD k 0=c:=by rw [gEq,gQq hk',hcx];rfl
  have e5:=Yk5 k
  rw [hd] at hQ
  unfold pP at hQ
  by_cases h1:97≤c.toNat
  ·have d1:decide ((c.toNat:Int) ≥ 97)=true:=dtq (by omega)
   by_cases h2:c.toNat≤122
   ·have d2:decide ((c.toNat:Int)≤122)=true:=dtq (by omega)
    have hb:xW c=true:=by unfold xW;rw [dtq h1,dtq h2];rfl
    rw [hb,Bool.true_or,Bool.true_and] at hQ
    simp only [go_sem,iNq,ybb,hg',bC,e5,d1,d2,dn1,dn2]
    try (repeat with_reducible refine Yq ?_)
    refine ⟨k+1,⟨by omega,hQ⟩,by omega,?_⟩
    refine ⟨by (try simp only [zkq,zkv,zle]);omega,by repeat first|exact .refl _|refine .push ?_ _,hcl,?_,?_⟩
    ·simp [ltF,zle,znn,znf,znh,lt_bys]
     try omega
    ·simp [bk,wk2,wk1,wkM,Fr.get]
   ·have d2:decide ((c.toNat:Int)≤122)=false:=dfq (by omega)
    have hb:xW c=false:=by unfold xW;rw [dfq h2,Bool.and_false]
    rw [hb,Bool.false_or] at hQ
    by_cases h0:k=0
    ·have d0:((k:Int)==0)=true:=by rw [h0];rfl
     rw [dtq h0,Bool.not_true,Bool.false_and,Bool.false_and] at hQ
     rw [← hQ,Bool.false_and] at hR
     subst hR
     simp only [go_sem,iNq,ybb,hg',bC,e5,d1,d2,d0,dn1,dn2]
     try (repeat with_reducible refine Yq ?_)
     exact Z1
    have d0:((k:Int)==0)=false:=by simp;omega
    rw [dfq h0,Bool.not_false,Bool.true_and] at hQ
    by_cases h95:c.toNat=95
    ·have d95:((c.toNat:Int) != 95)=false:=by simp;omega
     have d3:decide ((c.toNat:Int)<48)=false:=dfq (by omega)
     have d4:decide ((c.toNat:Int) > 57)=true:=dtq (by omega)
     have hp:jr c=true:=by unfold jr;rw [dtq h95,Bool.or_true]
     rw [hp,Bool.true_and] at hQ
     simp only [go_sem,iNq,ybb,hg',bC,e5,d1,d2,d0,d95,d3,d4,dn1,dn2]
     try (repeat with_reducible refine Yq ?_)
     refine ⟨k+1,⟨by omega,hQ⟩,by omega,?_⟩
     refine ⟨by (try simp only [zkq,zkv,zle]);omega,by repeat first|exact .refl _|refine .push ?_ _,hcl,?_,?_⟩
     ·simp [ltF,zle,znn,znf,znh,lt_bys]
      try omega
     ·simp [bk,wk2,wk1,wkM,Fr.get]
    have d95:((c.toNat:Int) != 95)=true:=by simp;omega
    by_cases h3:c.toNat<48
    ·have d3:decide ((c.toNat:Int)<48)=true:=dtq (by omega)
     have hp:jr c=false:=by unfold jr;rw [dfq h95,dfq (by omega),Bool.false_and,Bool.or_false]
     rw [hp,Bool.false_and] at hQ
     rw [← hQ,Bool.false_and] at hR
     subst hR
     simp only [go_sem,iNq,ybb,hg',bC,e5,d1,d2,d0,d95,d3,dn1,dn2]
     try (repeat with_reducible refine Yq ?_)
     exact Z1
    have d3:decide ((c.toNat:Int)<48)=false:=dfq (by omega)
    by_cases h4:57<c.toNat
    ·have d4:decide ((c.toNat:Int) > 57)=true:=dtq (by omega)
     have hp:jr c=false:=by unfold jr;rw [dfq h95,dfq (show ¬ c.toNat≤57 by omega),Bool.and_false,Bool.or_false]
     rw [hp,Bool.false_and] at hQ
     rw [← hQ,Bool.false_and] at hR
     subst hR
     simp only [go_sem,iNq,ybb,hg',bC,e5,d1,d2,d0,d95,d3,d4,dn1,dn2]
     try (repeat with_reducible refine Yq ?_)
     exact Z1
    have d4:decide ((c.toNat:Int) > 57)=false:=dfq (by omega)
    have hp:jr c=true:=by unfold jr;rw [dtq (show 48≤c.toNat by omega),dtq (show c.toNat≤57 by omega)];rfl
    rw [hp,Bool.true_and] at hQ
    simp only [go_sem,iNq,ybb,hg',bC,e5,d1,d2,d0,d95,d3,d4,dn1,dn2]
    try (repeat with_reducible refine Yq ?_)
    refine ⟨k+1,⟨by omega,hQ⟩,by omega,?_⟩
    refine ⟨by (try simp only [zkq,zkv,zle]);omega,by repeat first|exact .refl _|refine .push ?_ _,hcl,?_,?_⟩
    ·simp [ltF,zle,znn,znf,znh,lt_bys]
     try omega
    ·simp [bk,wk2,wk1,wkM,Fr.get]
  ·have d1:decide ((c.toNat:Int) ≥ 97)=false:=dfq (by omega)
   have hb:xW c=false:=by unfold xW;rw [dfq h1,Bool.false_and]
   rw [hb,Bool.false_or] at hQ
   by_cases h0:k=0
   ·have d0:((k:Int)==0)=true:=by rw [h0];rfl
    rw [dtq h0,Bool.not_true,Bool.false_and,Bool.false_and] at hQ
    rw [← hQ,Bool.false_and] at hR
    subst hR
    simp only [go_sem,iNq,ybb,hg',bC,e5,d1,d0,dn1,dn2]
    try (repeat with_reducible refine Yq ?_)
    exact Z1
   have d0:((k:Int)==0)=false:=by simp;omega
   rw [dfq h0,Bool.not_false,Bool.true_and] at hQ
   by_cases h95:c.toNat=95
   ·have d95:((c.toNat:Int) != 95)=false:=by simp;omega
    have d3:decide ((c.toNat:Int)<48)=false:=dfq (by omega)
    have d4:decide ((c.toNat:Int) > 57)=true:=dtq (by omega)
    have hp:jr c=true:=by unfold jr;rw [dtq h95,Bool.or_true]
    rw [hp,Bool.true_and] at hQ
    simp only [go_sem,iNq,ybb,hg',bC,e5,d1,d0,d95,d3,d4,dn1,dn2]
    try (repeat with_reducible refine Yq ?_)
    refine ⟨k+1,⟨by omega,hQ⟩,by omega,?_⟩
    refine ⟨by (try simp only [zkq,zkv,zle]);omega,by repeat first|exact .refl _|refine .push ?_ _,hcl,?_,?_⟩
    ·simp [ltF,zle,znn,znf,znh,lt_bys]
     try omega
    ·simp [bk,wk2,wk1,wkM,Fr.get]
   have d95:((c.toNat:Int) != 95)=true:=by simp;omega
   by_cases h3:c.toNat<48
   ·have d3:decide ((c.toNat:Int)<48)=true:=dtq (by omega)
    have hp:jr c=false:=by unfold jr;rw [dfq h95,dfq (by omega),Bool.false_and,Bool.or_false]
    rw [hp,Bool.false_and] at hQ
    rw [← hQ,Bool.false_and] at hR
    subst hR
    simp only [go_sem,iNq,ybb,hg',bC,e5,d1,d0,d95,d3,dn1,dn2]
    try (repeat with_reducible refine Yq ?_)
    exact Z1
   have d3:decide ((c.toNat:Int)<48)=false:=dfq (by omega)
   by_cases h4:57<c.toNat
   ·have d4:decide ((c.toNat:Int) > 57)=true:=dtq (by omega)
    have hp:jr c=false:=by unfold jr;rw [dfq h95,dfq (show ¬ c.toNat≤57 by omega),Bool.and_false,Bool.or_false]
    rw [hp,Bool.false_and] at hQ
    rw [← hQ,Bool.false_and] at hR
    subst hR
    simp only [go_sem,iNq,ybb,hg',bC,e5,d1,d0,d95,d3,d4,dn1,dn2]
    try (repeat with_reducible refine Yq ?_)
    exact Z1
   have d4:decide ((c.toNat:Int) > 57)=false:=dfq (by omega)
   have hp:jr c=true:=by unfold jr;rw [dtq (show 48≤c.toNat by omega),dtq (show c.toNat≤57 by omega)];rfl
   rw [hp,Bool.true_and] at hQ
   simp only [go_sem,iNq,ybb,hg',bC,e5,d1,d0,d95,d3,d4,dn1,dn2]
   try (repeat with_reducible refine Yq ?_)
   refine ⟨k+1,⟨by omega,hQ⟩,by omega,?_⟩
   refine ⟨by (try simp only [zkq,zkv,zle]);omega,by repeat first|exact .refl _|refine .push ?_ _,hcl,?_,?_⟩
   ·simp [ltF,zle,znn,znf,znh,lt_bys]
    try omega
   ·simp [bk,wk2,wk1,wkM,Fr.get]
 ·have hk':k=s.length:=by simp at hc;omega
  subst hk'
  rw [List.drop_length] at hQ
  unfold pP at hQ
  rw [← hQ,Bool.true_and] at hR
  cases s with
  |nil =>
   have hR':R=false:=by rw [← hR];rfl
   subst hR'
   simp only [go_sem]
   exact Z1
  |cons c r =>
   have hR':R=true:=by rw [← hR];rfl
   subst hR'
   have hne:((c::r) != [])=true:=rfl
   simp only [go_sem,hne]
   exact Z1
def kr:List AV→AHeap→(AV→Prop)→Prop
 |[.str s],_,K=>s.length≤140737488355328∧K (.bool (j2 s))
 |_,_,_=>False
theorem vM:EntOk Tryz.prog 84 (Ent.pure kr):=by
 refine Ype fun _ H K h=>?_
 unfold kr at h
 split at h
 rotate_left
 ·exact h.elim
 rename_i s
 obtain ⟨hl,hK⟩:=h
 refine ⟨_,hK,?_⟩
 clear hK
 generalize hR:j2 s=R
 unfold j2 at hR
 have d1:(s==[112,114,105,111,114,105,116,121])=!decide (s≠[112,114,105,111,114,105,116,121]):=by rw [Bool.eq_iff_iff];simp
 have d2:(s==[116,114,117,101])=!decide (s≠[116,114,117,101]):=by rw [Bool.eq_iff_iff];simp
 have d3:(s==[102,97,108,115,101])=!decide (s≠[102,97,108,115,101]):=by rw [Bool.eq_iff_iff];simp
 generalize decide (s≠[112,114,105,111,114,105,116,121])=b1 at *
 generalize decide (s≠[116,114,117,101])=b2 at *
 generalize decide (s≠[102,97,108,115,101])=b3 at *
 refine ACalls.fW ap (tCq jO tNq) Tryz.func84 [.tmp 2] (nrq _) (T:=aj []) (h:=fun hcl hlt=>?_)
 clear hlt
 simp only [go_sem,cW]
 refine ⟨hl,?_⟩
 generalize dx s=b0 at *
 subst hR
 cases b0<;>cases b1<;>cases b2<;>cases b3<;>(simp only [ah,go_sem,d1,d2,d3,Bool.not_not,Bool.not_true,Bool.not_false,Bool.and_self,Bool.and_true,Bool.true_and,Bool.and_false,Bool.false_and];try simp (disch:=first|exact Zd|omega) [↓zmo,beq,ybc,ybd,ybe,aa,wk,wk2,wk1,wkM,wkL,ae,ybf,hcl])
structure SB (S:Sch):Prop where
 sl:SLen S
 gl:S.stages.length≤1000000
 xl:S.refs.length≤1000000
 fn:∀ x∈S.fields,x.name.length≤140737488355328
 hn:∀ x∈S.headers,x.name.length≤140737488355328∧x.fields.length≤1000000
 sn:∀ x∈S.states,x.cases.length≤1000000
 an:∀ x∈S.actions,x.name.length≤140737488355328∧x.params.length≤1000000∧x.body.length≤1000000∧∀ p∈x.params,p.name.length≤140737488355328
 tn:∀ x∈S.tables,x.name.length≤140737488355328∧x.keys.length≤1000000∧x.actions.length≤1000000∧x.dargs.length≤1000000∧∀ k∈x.keys,k.name.length≤140737488355328
 rn:∀ x∈S.roles,x.name.length≤140737488355328∧x.grants.length≤1000000∧x.actions.length≤1000000∧∀ g∈x.grants,g.keys.length≤1000000
def wB (n lo hi:Int):Bool:=decide (lo≤n)&&decide (n≤hi)
def aV:List AV→AHeap→(AV→Prop)→Prop
 |[.int .i64 n,.int .i64 lo,.int .i64 hi],_,K=>K (.bool (wB n lo hi))
 |_,_,_=>False
theorem i7:EntOk Tryz.prog 91 (Ent.pure aV):=by
 refine Ype fun _ H K h=>?_
 unfold aV at h
 split at h
 rotate_left
 ·exact h.elim
 rename_i n lo hi
 refine ⟨_,h,?_⟩
 clear h
 generalize hR:wB n lo hi=R
 unfold wB at hR
 refine ACalls.fW ap tNq Tryz.func91 [.tmp 6] (nrq _) (T:=aj []) (h:=fun hcl hlt=>?_)
 clear hlt
 obtain ⟨b0,e0⟩:∃ b:Bool,(decide (lo≤n))=b:=⟨_,rfl⟩
 have d0:decide (n ≥ lo)=b0:=(show decide (n ≥ lo)=(decide (lo≤n)) from rfl).trans e0
 rw [e0] at hR
 cases b0 with
 |false =>
  rw [Bool.false_and] at hR
  subst hR
  try simp only [aE,ah,bhq,Nat.reduceMod,Nat.reduceDiv,au,aq,ay,aN,ax,aM,aJ,aK,aL,yaq,yar,yao,yap,go_sem,d0]
  try (repeat with_reducible refine Yq ?_)
  exact Z1
 |true =>
 rw [Bool.true_and] at hR
 obtain ⟨b1,e1⟩:∃ b:Bool,(decide (n≤hi))=b:=⟨_,rfl⟩
 have d1:decide (n≤hi)=b1:=(show decide (n≤hi)=(decide (n≤hi)) from rfl).trans e1
 rw [e1] at hR
 cases b1 with
 |false =>
  subst hR
  try simp only [aE,ah,bhq,Nat.reduceMod,Nat.reduceDiv,au,aq,ay,aN,ax,aM,aJ,aK,aL,yaq,yar,yao,yap,go_sem,d0,d1]
  try (repeat with_reducible refine Yq ?_)
  exact Z1
 |true =>
 subst hR
 try simp only [aE,ah,bhq,Nat.reduceMod,Nat.reduceDiv,au,aq,ay,aN,ax,aM,aJ,aK,aL,yaq,yar,yao,yap,go_sem,d0,d1]
 try (repeat with_reducible refine Yq ?_)
 exact Z1
def fG:List AV→AHeap→(AV→Prop)→Prop
 |[.int .i64 n],_,K=>K (.bool (wB n 1 65534))
 |_,_,_=>False
theorem pV:EntOk Tryz.prog 93 (Ent.pure fG):=by
 refine Ype fun _ H K h=>?_
 unfold fG at h
 split at h
 rotate_left
 ·exact h.elim
 rename_i n
 refine ⟨_,h,?_⟩
 clear h
 refine ACalls.fW ap (tCq i7 tNq) Tryz.func93 [.tmp 2] (nrq _) (T:=aj []) (h:=fun hcl hlt=>?_)
 clear hlt
 simp only [aE,ah,bhq,Nat.reduceMod,Nat.reduceDiv,au,aq,ay,aN,ax,aM,aJ,aK,aL,yaq,yar,yao,yap,go_sem,aV]
 exact Z1
def ni:List AV→AHeap→(AV→Prop)→Prop
 |[.int .i64 n],_,K=>K (.bool (wB n 1 128))
 |_,_,_=>False
theorem wz:EntOk Tryz.prog 94 (Ent.pure ni):=by
 refine Ype fun _ H K h=>?_
 unfold ni at h
 split at h
 rotate_left
 ·exact h.elim
 rename_i n
 refine ⟨_,h,?_⟩
 clear h
 refine ACalls.fW ap (tCq i7 tNq) Tryz.func94 [.tmp 2] (nrq _) (T:=aj []) (h:=fun hcl hlt=>?_)
 clear hlt
 simp only [aE,ah,bhq,Nat.reduceMod,Nat.reduceDiv,au,aq,ay,aN,ax,aM,aJ,aK,aL,yaq,yar,yao,yap,go_sem,aV]
 exact Z1
def tx:List AV→AHeap→(AV→Prop)→Prop
 |[x],H,K=>∃ t:SField,(x=aX t∧t.name.length≤140737488355328)∧K (.bool (dx t.name))
 |_,_,_=>False
theorem yx:EntOk Tryz.prog 76 (Ent.pure tx):=by
 refine Ype fun _ H K h=>?_
 unfold tx at h
 split at h
 rotate_left
 ·exact h.elim
 rename_i x
 obtain ⟨t,⟨rfl,hc⟩,hK⟩:=h
 refine ⟨_,hK,?_⟩
 clear hK
 generalize hR:(dx t.name)=R
 unfold aX
 refine ACalls.fW ap (tCq jO tNq) Tryz.func76 [.tmp 2] (nrq _) (T:=aj []) (h:=fun hcl hlt=>?_)
 clear hlt
 simp only [aE,ah,bhq,Nat.reduceMod,Nat.reduceDiv,au,aq,ay,aN,ax,aM,aJ,aK,aL,yaq,yar,yao,yap,go_sem,cW]
 refine ⟨hc,?_⟩
 cases c0:dx t.name with
 |false =>
  rw [c0] at hR
  subst hR
  try simp only [aE,ah,bhq,Nat.reduceMod,Nat.reduceDiv,au,aq,ay,aN,ax,aM,aJ,aK,aL,yaq,yar,yao,yap,go_sem,cW,c0]
  try (repeat with_reducible refine Yq ?_)
  exact Z1
 |true =>
 rw [c0] at hR
 subst hR
 try simp only [aE,ah,bhq,Nat.reduceMod,Nat.reduceDiv,au,aq,ay,aN,ax,aM,aJ,aK,aL,yaq,yar,yao,yap,go_sem,cW,c0]
 try (repeat with_reducible refine Yq ?_)
 exact Z1
def tv:List AV→AHeap→(AV→Prop)→Prop
 |[x],H,K=>∃ t:SHeader,(x=aH t∧t.name.length≤140737488355328)∧K (.bool (dx t.name))
 |_,_,_=>False
theorem yt:EntOk Tryz.prog 79 (Ent.pure tv):=by
 refine Ype fun _ H K h=>?_
 unfold tv at h
 split at h
 rotate_left
 ·exact h.elim
 rename_i x
 obtain ⟨t,⟨rfl,hc⟩,hK⟩:=h
 refine ⟨_,hK,?_⟩
 clear hK
 generalize hR:(dx t.name)=R
 unfold aH
 refine ACalls.fW ap (tCq jO tNq) Tryz.func79 [.tmp 2] (nrq _) (T:=aj []) (h:=fun hcl hlt=>?_)
 clear hlt
 simp only [aE,ah,bhq,Nat.reduceMod,Nat.reduceDiv,au,aq,ay,aN,ax,aM,aJ,aK,aL,yaq,yar,yao,yap,go_sem,cW]
 refine ⟨hc,?_⟩
 cases c0:dx t.name with
 |false =>
  rw [c0] at hR
  subst hR
  try simp only [aE,ah,bhq,Nat.reduceMod,Nat.reduceDiv,au,aq,ay,aN,ax,aM,aJ,aK,aL,yaq,yar,yao,yap,go_sem,cW,c0]
  try (repeat with_reducible refine Yq ?_)
  exact Z1
 |true =>
 rw [c0] at hR
 subst hR
 try simp only [aE,ah,bhq,Nat.reduceMod,Nat.reduceDiv,au,aq,ay,aN,ax,aM,aJ,aK,aL,yaq,yar,yao,yap,go_sem,cW,c0]
 try (repeat with_reducible refine Yq ?_)
 exact Z1
def sR:List AV→AHeap→(AV→Prop)→Prop
 |[x],H,K=>∃ t:SParam,(x=bv t∧t.name.length≤140737488355328)∧K (.bool (j2 t.name))
 |_,_,_=>False
theorem wR:EntOk Tryz.prog 83 (Ent.pure sR):=by
 refine Ype fun _ H K h=>?_
 unfold sR at h
 split at h
 rotate_left
 ·exact h.elim
 rename_i x
 obtain ⟨t,⟨rfl,hc⟩,hK⟩:=h
 refine ⟨_,hK,?_⟩
 clear hK
 generalize hR:(j2 t.name)=R
 unfold bv
 refine ACalls.fW ap (tCq vM tNq) Tryz.func83 [.tmp 2] (nrq _) (T:=aj []) (h:=fun hcl hlt=>?_)
 clear hlt
 simp only [aE,ah,bhq,Nat.reduceMod,Nat.reduceDiv,au,aq,ay,aN,ax,aM,aJ,aK,aL,yaq,yar,yao,yap,go_sem,kr]
 refine ⟨hc,?_⟩
 cases c0:j2 t.name with
 |false =>
  rw [c0] at hR
  subst hR
  try simp only [aE,ah,bhq,Nat.reduceMod,Nat.reduceDiv,au,aq,ay,aN,ax,aM,aJ,aK,aL,yaq,yar,yao,yap,go_sem,kr,c0]
  try (repeat with_reducible refine Yq ?_)
  exact Z1
 |true =>
 rw [c0] at hR
 subst hR
 try simp only [aE,ah,bhq,Nat.reduceMod,Nat.reduceDiv,au,aq,ay,aN,ax,aM,aJ,aK,aL,yaq,yar,yao,yap,go_sem,kr,c0]
 try (repeat with_reducible refine Yq ?_)
 exact Z1
def rV:List AV→AHeap→(AV→Prop)→Prop
 |[x],H,K=>∃ t:SKey,(x=bE t∧t.name.length≤140737488355328)∧K (.bool (j2 t.name))
 |_,_,_=>False
theorem wd:EntOk Tryz.prog 88 (Ent.pure rV):=by
 refine Ype fun _ H K h=>?_
 unfold rV at h
 split at h
 rotate_left
 ·exact h.elim
 rename_i x
 obtain ⟨t,⟨rfl,hc⟩,hK⟩:=h
 refine ⟨_,hK,?_⟩
 clear hK
 generalize hR:(j2 t.name)=R
 unfold bE
 refine ACalls.fW ap (tCq vM tNq) Tryz.func88 [.tmp 2] (nrq _) (T:=aj []) (h:=fun hcl hlt=>?_)
 clear hlt
 simp only [aE,ah,bhq,Nat.reduceMod,Nat.reduceDiv,au,aq,ay,aN,ax,aM,aJ,aK,aL,yaq,yar,yao,yap,go_sem,kr]
 refine ⟨hc,?_⟩
 cases c0:j2 t.name with
 |false =>
  rw [c0] at hR
  subst hR
  try simp only [aE,ah,bhq,Nat.reduceMod,Nat.reduceDiv,au,aq,ay,aN,ax,aM,aJ,aK,aL,yaq,yar,yao,yap,go_sem,kr,c0]
  try (repeat with_reducible refine Yq ?_)
  exact Z1
 |true =>
 rw [c0] at hR
 subst hR
 try simp only [aE,ah,bhq,Nat.reduceMod,Nat.reduceDiv,au,aq,ay,aN,ax,aM,aJ,aK,aL,yaq,yar,yao,yap,go_sem,kr,c0]
 try (repeat with_reducible refine Yq ?_)
 exact Z1
def tO:List AV→AHeap→(AV→Prop)→Prop
 |[x],H,K=>∃ t:SRole,(x=bc t∧t.name.length≤140737488355328)∧K (.bool (dx t.name))
 |_,_,_=>False
theorem x9:EntOk Tryz.prog 90 (Ent.pure tO):=by
 refine Ype fun _ H K h=>?_
 unfold tO at h
 split at h
 rotate_left
 ·exact h.elim
 rename_i x
 obtain ⟨t,⟨rfl,hc⟩,hK⟩:=h
 refine ⟨_,hK,?_⟩
 clear hK
 generalize hR:(dx t.name)=R
 unfold bc
 refine ACalls.fW ap (tCq jO tNq) Tryz.func90 [.tmp 2] (nrq _) (T:=aj []) (h:=fun hcl hlt=>?_)
 clear hlt
 simp only [aE,ah,bhq,Nat.reduceMod,Nat.reduceDiv,au,aq,ay,aN,ax,aM,aJ,aK,aL,yaq,yar,yao,yap,go_sem,cW]
 refine ⟨hc,?_⟩
 cases c0:dx t.name with
 |false =>
  rw [c0] at hR
  subst hR
  try simp only [aE,ah,bhq,Nat.reduceMod,Nat.reduceDiv,au,aq,ay,aN,ax,aM,aJ,aK,aL,yaq,yar,yao,yap,go_sem,cW,c0]
  try (repeat with_reducible refine Yq ?_)
  exact Z1
 |true =>
 rw [c0] at hR
 subst hR
 try simp only [aE,ah,bhq,Nat.reduceMod,Nat.reduceDiv,au,aq,ay,aN,ax,aM,aJ,aK,aL,yaq,yar,yao,yap,go_sem,cW,c0]
 try (repeat with_reducible refine Yq ?_)
 exact Z1
def BG (t:SAction):Bool:=dx t.name&&t.params.all fun p=>j2 p.name
def AZ (t:STable):Bool:=dx t.name&&t.keys.all fun k=>j2 k.name
def uc:List AV→AHeap→(AV→Prop)→Prop
 |[x],H,K=>∃ t:SAction,(x=aA t∧(t.name.length≤140737488355328∧t.params.length≤1000000∧∀ p∈t.params,p.name.length≤140737488355328))∧K (.bool (BG t))
 |_,_,_=>False
theorem xr:EntOk Tryz.prog 81 (Ent.pure uc):=by
 refine Ype fun _ H K h=>?_
 unfold uc at h
 split at h
 rotate_left
 ·exact h.elim
 rename_i x
 obtain ⟨t,⟨rfl,hc⟩,hK⟩:=h
 refine ⟨_,hK,?_⟩
 clear hK
 generalize hR:(BG t)=R
 unfold aA
 refine ACalls.fW ap (tCq jO (tCq wN tNq)) Tryz.func81 [.tmp 2] (nrq _) (T:=aj []) (h:=fun hcl hlt=>?_)
 clear hlt
 unfold BG at hR
 simp only [aE,ah,bhq,Nat.reduceMod,Nat.reduceDiv,au,aq,ay,aN,ax,aM,aJ,aK,aL,yaq,yar,yao,yap,go_sem,cW]
 refine ⟨hc.1,?_⟩
 cases c0:dx t.name with
 |false =>
  rw [c0,Bool.false_and] at hR
  subst hR
  try simp only [aE,ah,bhq,Nat.reduceMod,Nat.reduceDiv,au,aq,ay,aN,ax,aM,aJ,aK,aL,yaq,yar,yao,yap,go_sem,cW,c0]
  try (repeat with_reducible refine Yq ?_)
  exact Z1
 |true =>
 rw [c0,Bool.true_and] at hR
 try simp only [aE,ah,bhq,Nat.reduceMod,Nat.reduceDiv,au,aq,ay,aN,ax,aM,aJ,aK,aL,yaq,yar,yao,yap,go_sem,cW,lx,c0]
 refine ⟨t.params,(fun p=>j2 p.name),⟨rfl,hc.2.1,fun x hx H' hle' hcl'=>clB wR ⟨x,⟨rfl,hc.2.2 x hx⟩,rfl⟩⟩,?_⟩
 cases c1:t.params.all fun p=>j2 p.name with
 |false =>
  rw [c1] at hR
  subst hR
  try simp only [aE,ah,bhq,Nat.reduceMod,Nat.reduceDiv,au,aq,ay,aN,ax,aM,aJ,aK,aL,yaq,yar,yao,yap,go_sem,cW,lx,c0,c1]
  try (repeat with_reducible refine Yq ?_)
  exact Z1
 |true =>
 rw [c1] at hR
 subst hR
 try simp only [aE,ah,bhq,Nat.reduceMod,Nat.reduceDiv,au,aq,ay,aN,ax,aM,aJ,aK,aL,yaq,yar,yao,yap,go_sem,cW,lx,c0,c1]
 try (repeat with_reducible refine Yq ?_)
 exact Z1
def tU:List AV→AHeap→(AV→Prop)→Prop
 |[x],H,K=>∃ t:STable,(x=aC t∧(t.name.length≤140737488355328∧t.keys.length≤1000000∧∀ p∈t.keys,p.name.length≤140737488355328))∧K (.bool (AZ t))
 |_,_,_=>False
theorem yL:EntOk Tryz.prog 86 (Ent.pure tU):=by
 refine Ype fun _ H K h=>?_
 unfold tU at h
 split at h
 rotate_left
 ·exact h.elim
 rename_i x
 obtain ⟨t,⟨rfl,hc⟩,hK⟩:=h
 refine ⟨_,hK,?_⟩
 clear hK
 generalize hR:(AZ t)=R
 unfold aC
 refine ACalls.fW ap (tCq jO (tCq wH tNq)) Tryz.func86 [.tmp 2] (nrq _) (T:=aj []) (h:=fun hcl hlt=>?_)
 clear hlt
 unfold AZ at hR
 simp only [aE,ah,bhq,Nat.reduceMod,Nat.reduceDiv,au,aq,ay,aN,ax,aM,aJ,aK,aL,yaq,yar,yao,yap,go_sem,cW]
 refine ⟨hc.1,?_⟩
 cases c0:dx t.name with
 |false =>
  rw [c0,Bool.false_and] at hR
  subst hR
  try simp only [aE,ah,bhq,Nat.reduceMod,Nat.reduceDiv,au,aq,ay,aN,ax,aM,aJ,aK,aL,yaq,yar,yao,yap,go_sem,cW,c0]
  try (repeat with_reducible refine Yq ?_)
  exact Z1
 |true =>
 rw [c0,Bool.true_and] at hR
 try simp only [aE,ah,bhq,Nat.reduceMod,Nat.reduceDiv,au,aq,ay,aN,ax,aM,aJ,aK,aL,yaq,yar,yao,yap,go_sem,cW,iH,c0]
 refine ⟨t.keys,(fun k=>j2 k.name),⟨rfl,hc.2.1,fun x hx H' hle' hcl'=>clB wd ⟨x,⟨rfl,hc.2.2 x hx⟩,rfl⟩⟩,?_⟩
 cases c1:t.keys.all fun k=>j2 k.name with
 |false =>
  rw [c1] at hR
  subst hR
  try simp only [aE,ah,bhq,Nat.reduceMod,Nat.reduceDiv,au,aq,ay,aN,ax,aM,aJ,aK,aL,yaq,yar,yao,yap,go_sem,cW,iH,c0,c1]
  try (repeat with_reducible refine Yq ?_)
  exact Z1
 |true =>
 rw [c1] at hR
 subst hR
 try simp only [aE,ah,bhq,Nat.reduceMod,Nat.reduceDiv,au,aq,ay,aN,ax,aM,aJ,aK,aL,yaq,yar,yao,yap,go_sem,cW,iH,c0,c1]
 try (repeat with_reducible refine Yq ?_)
 exact Z1
def kD (S:Sch):Bool:=(S.fields.all fun t=>dx t.name)&&((S.headers.all fun t=>dx t.name)&&(S.actions.all BG&&(S.tables.all AZ&&S.roles.all fun t=>dx t.name)))
def gS:List AV→AHeap→(AV→Prop)→Prop
 |[.agg l],_,K=>∃ S:Sch,(l=aS S∧SB S)∧K (.bool (kD S))
 |_,_,_=>False
theorem BP:EntOk Tryz.prog 31 (Ent.pure gS):=by
 refine Ype fun _ H K h=>?_
 unfold gS at h
 split at h
 rotate_left
 ·exact h.elim
 rename_i l
 obtain ⟨S,⟨rfl,hS⟩,hK⟩:=h
 refine ⟨_,hK,?_⟩
 clear hK
 generalize hR:kD S=R
 unfold kD at hR
 refine ACalls.fW ap (tCq wI (tCq oy (tCq mB (tCq kT (tCq mD tNq))))) Tryz.func31 [.tmp 2] (nrq _) (T:=aj []) (h:=fun hcl hlt=>?_)
 clear hlt
 simp only [aE,ah,bhq,Nat.reduceMod,Nat.reduceDiv,au,aq,ay,aN,ax,aM,aJ,aK,aL,yaq,yar,yao,yap,go_sem,aS,dj]
 refine ⟨S.fields,(fun t=>dx t.name),⟨rfl,hS.sl.fl,fun x hx H' hle' hcl'=>clB yx ⟨x,⟨rfl,hS.fn x hx⟩,rfl⟩⟩,?_⟩
 cases c0:S.fields.all fun t=>dx t.name with
 |false =>
  rw [c0,Bool.false_and] at hR
  subst hR
  try simp only [aE,ah,bhq,Nat.reduceMod,Nat.reduceDiv,au,aq,ay,aN,ax,aM,aJ,aK,aL,yaq,yar,yao,yap,go_sem,aS,dj,c0]
  try (repeat with_reducible refine Yq ?_)
  exact Z1
 |true =>
 rw [c0,Bool.true_and] at hR
 try simp only [aE,ah,bhq,Nat.reduceMod,Nat.reduceDiv,au,aq,ay,aN,ax,aM,aJ,aK,aL,yaq,yar,yao,yap,go_sem,aS,dj,bp,c0]
 refine ⟨S.headers,(fun t=>dx t.name),⟨rfl,hS.sl.hl,fun x hx H' hle' hcl'=>clB yt ⟨x,⟨rfl,(hS.hn x hx).1⟩,rfl⟩⟩,?_⟩
 cases c1:S.headers.all fun t=>dx t.name with
 |false =>
  rw [c1,Bool.false_and] at hR
  subst hR
  try simp only [aE,ah,bhq,Nat.reduceMod,Nat.reduceDiv,au,aq,ay,aN,ax,aM,aJ,aK,aL,yaq,yar,yao,yap,go_sem,aS,dj,bp,c0,c1]
  try (repeat with_reducible refine Yq ?_)
  exact Z1
 |true =>
 rw [c1,Bool.true_and] at hR
 try simp only [aE,ah,bhq,Nat.reduceMod,Nat.reduceDiv,au,aq,ay,aN,ax,aM,aJ,aK,aL,yaq,yar,yao,yap,go_sem,aS,dj,bp,bm,c0,c1]
 refine ⟨S.actions,BG,⟨rfl,hS.sl.al,fun x hx H' hle' hcl'=>clB xr ⟨x,⟨rfl,⟨(hS.an x hx).1,(hS.an x hx).2.1,(hS.an x hx).2.2.2⟩⟩,rfl⟩⟩,?_⟩
 cases c2:S.actions.all BG with
 |false =>
  rw [c2,Bool.false_and] at hR
  subst hR
  try simp only [aE,ah,bhq,Nat.reduceMod,Nat.reduceDiv,au,aq,ay,aN,ax,aM,aJ,aK,aL,yaq,yar,yao,yap,go_sem,aS,dj,bp,bm,c0,c1,c2]
  try (repeat with_reducible refine Yq ?_)
  exact Z1
 |true =>
 rw [c2,Bool.true_and] at hR
 try simp only [aE,ah,bhq,Nat.reduceMod,Nat.reduceDiv,au,aq,ay,aN,ax,aM,aJ,aK,aL,yaq,yar,yao,yap,go_sem,aS,dj,bp,bm,bn,c0,c1,c2]
 refine ⟨S.tables,AZ,⟨rfl,hS.sl.tl,fun x hx H' hle' hcl'=>clB yL ⟨x,⟨rfl,⟨(hS.tn x hx).1,(hS.tn x hx).2.1,(hS.tn x hx).2.2.2.2⟩⟩,rfl⟩⟩,?_⟩
 cases c3:S.tables.all AZ with
 |false =>
  rw [c3,Bool.false_and] at hR
  subst hR
  try simp only [aE,ah,bhq,Nat.reduceMod,Nat.reduceDiv,au,aq,ay,aN,ax,aM,aJ,aK,aL,yaq,yar,yao,yap,go_sem,aS,dj,bp,bm,bn,c0,c1,c2,c3]
  try (repeat with_reducible refine Yq ?_)
  exact Z1
 |true =>
 rw [c3,Bool.true_and] at hR
 try simp only [aE,ah,bhq,Nat.reduceMod,Nat.reduceDiv,au,aq,ay,aN,ax,aM,aJ,aK,aL,yaq,yar,yao,yap,go_sem,aS,dj,bp,bm,bn,bD,c0,c1,c2,c3]
 refine ⟨S.roles,(fun t=>dx t.name),⟨rfl,hS.sl.rl,fun x hx H' hle' hcl'=>clB x9 ⟨x,⟨rfl,(hS.rn x hx).1⟩,rfl⟩⟩,?_⟩
 cases c4:S.roles.all fun t=>dx t.name with
 |false =>
  rw [c4] at hR
  subst hR
  try simp only [aE,ah,bhq,Nat.reduceMod,Nat.reduceDiv,au,aq,ay,aN,ax,aM,aJ,aK,aL,yaq,yar,yao,yap,go_sem,aS,dj,bp,bm,bn,bD,c0,c1,c2,c3,c4]
  try (repeat with_reducible refine Yq ?_)
  exact Z1
 |true =>
 rw [c4] at hR
 subst hR
 try simp only [aE,ah,bhq,Nat.reduceMod,Nat.reduceDiv,au,aq,ay,aN,ax,aM,aJ,aK,aL,yaq,yar,yao,yap,go_sem,aS,dj,bp,bm,bn,bD,c0,c1,c2,c3,c4]
 try (repeat with_reducible refine Yq ?_)
 exact Z1
theorem lK {n:Nat}:decide ((n:Int) > 0)=decide (0<n):=by simp
def nm1 (t:SField):Bool:=wB t.id 1 65534&&wB t.bits 1 128
def nm2 (t:SHeader):Bool:=wB t.id 1 65534&&decide (0<t.fields.length)
def nm4 (t:SAction):Bool:=wB t.id 1 65534&&t.params.all fun p=>wB p.bits 1 128
def nm5 (t:STable):Bool:=wB t.id 1 65534&&(wB t.size 1 64&&decide (0<t.keys.length))
def nm6 (t:SRole):Bool:=wB t.id 1 65534&&decide (t.quota≤512)
def r8 (S:Sch):Bool:=wB S.maxBatch 1 32&&(wB S.budget 1 200&&(S.fields.all nm1&&(S.headers.all nm2&&((S.states.all fun t=>wB t.id 1 65534)&&(S.actions.all nm4&&(S.tables.all nm5&&S.roles.all nm6))))))
def zD:List AV→AHeap→(AV→Prop)→Prop
 |[x],H,K=>∃ t:SField,(x=aX t)∧K (.bool (nm1 t))
 |_,_,_=>False
theorem Fz:EntOk Tryz.prog 92 (Ent.pure zD):=by
 refine Ype fun _ H K h=>?_
 unfold zD at h
 split at h
 rotate_left
 ·exact h.elim
 rename_i x
 obtain ⟨t,rfl,hK⟩:=h
 refine ⟨_,hK,?_⟩
 clear hK
 generalize hR:(nm1 t)=R
 unfold aX
 refine ACalls.fW ap (tCq pV (tCq wz tNq)) Tryz.func92 [.tmp 2] (nrq _) (T:=aj []) (h:=fun hcl hlt=>?_)
 clear hlt
 unfold nm1 at hR
 cases c0:wB t.id 1 65534 with
 |false =>
  rw [c0,Bool.false_and] at hR
  subst hR
  try simp only [aE,ah,bhq,Nat.reduceMod,Nat.reduceDiv,au,aq,ay,aN,ax,aM,aJ,aK,aL,yaq,yar,yao,yap,go_sem,fG,c0]
  try (repeat with_reducible refine Yq ?_)
  exact Z1
 |true =>
 rw [c0,Bool.true_and] at hR
 cases c1:wB t.bits 1 128 with
 |false =>
  rw [c1] at hR
  subst hR
  try simp only [aE,ah,bhq,Nat.reduceMod,Nat.reduceDiv,au,aq,ay,aN,ax,aM,aJ,aK,aL,yaq,yar,yao,yap,go_sem,fG,ni,c0,c1]
  try (repeat with_reducible refine Yq ?_)
  exact Z1
 |true =>
 rw [c1] at hR
 subst hR
 try simp only [aE,ah,bhq,Nat.reduceMod,Nat.reduceDiv,au,aq,ay,aN,ax,aM,aJ,aK,aL,yaq,yar,yao,yap,go_sem,fG,ni,c0,c1]
 try (repeat with_reducible refine Yq ?_)
 exact Z1
def zv:List AV→AHeap→(AV→Prop)→Prop
 |[x],H,K=>∃ t:SHeader,(x=aH t)∧K (.bool (nm2 t))
 |_,_,_=>False
theorem Hh:EntOk Tryz.prog 95 (Ent.pure zv):=by
 refine Ype fun _ H K h=>?_
 unfold zv at h
 split at h
 rotate_left
 ·exact h.elim
 rename_i x
 obtain ⟨t,rfl,hK⟩:=h
 refine ⟨_,hK,?_⟩
 clear hK
 generalize hR:(nm2 t)=R
 unfold aH
 refine ACalls.fW ap (tCq pV tNq) Tryz.func95 [.tmp 2] (nrq _) (T:=aj []) (h:=fun hcl hlt=>?_)
 clear hlt
 unfold nm2 at hR
 cases c0:wB t.id 1 65534 with
 |false =>
  rw [c0,Bool.false_and] at hR
  subst hR
  try simp only [aE,ah,bhq,Nat.reduceMod,Nat.reduceDiv,au,aq,ay,aN,ax,aM,aJ,aK,aL,yaq,yar,yao,yap,go_sem,ybb,lK,inL,fG,c0]
  try (repeat with_reducible refine Yq ?_)
  exact Z1
 |true =>
 rw [c0,Bool.true_and] at hR
 cases c1:decide (0<t.fields.length) with
 |false =>
  rw [c1] at hR
  subst hR
  try simp only [aE,ah,bhq,Nat.reduceMod,Nat.reduceDiv,au,aq,ay,aN,ax,aM,aJ,aK,aL,yaq,yar,yao,yap,go_sem,ybb,lK,inL,fG,fG,c0,c1]
  try (repeat with_reducible refine Yq ?_)
  exact Z1
 |true =>
 rw [c1] at hR
 subst hR
 try simp only [aE,ah,bhq,Nat.reduceMod,Nat.reduceDiv,au,aq,ay,aN,ax,aM,aJ,aK,aL,yaq,yar,yao,yap,go_sem,ybb,lK,inL,fG,fG,c0,c1]
 try (repeat with_reducible refine Yq ?_)
 exact Z1
def z7:List AV→AHeap→(AV→Prop)→Prop
 |[x],H,K=>∃ t:SState,(x=aO t)∧K (.bool (wB t.id 1 65534))
 |_,_,_=>False
theorem Gp:EntOk Tryz.prog 97 (Ent.pure z7):=by
 refine Ype fun _ H K h=>?_
 unfold z7 at h
 split at h
 rotate_left
 ·exact h.elim
 rename_i x
 obtain ⟨t,rfl,hK⟩:=h
 refine ⟨_,hK,?_⟩
 clear hK
 generalize hR:(wB t.id 1 65534)=R
 unfold aO
 refine ACalls.fW ap (tCq pV tNq) Tryz.func97 [.tmp 2] (nrq _) (T:=aj []) (h:=fun hcl hlt=>?_)
 clear hlt
 cases c0:wB t.id 1 65534 with
 |false =>
  rw [c0] at hR
  subst hR
  try simp only [aE,ah,bhq,Nat.reduceMod,Nat.reduceDiv,au,aq,ay,aN,ax,aM,aJ,aK,aL,yaq,yar,yao,yap,go_sem,fG,c0]
  try (repeat with_reducible refine Yq ?_)
  exact Z1
 |true =>
 rw [c0] at hR
 subst hR
 try simp only [aE,ah,bhq,Nat.reduceMod,Nat.reduceDiv,au,aq,ay,aN,ax,aM,aJ,aK,aL,yaq,yar,yao,yap,go_sem,fG,c0]
 try (repeat with_reducible refine Yq ?_)
 exact Z1
def xh:List AV→AHeap→(AV→Prop)→Prop
 |[x],H,K=>∃ t:SParam,(x=bv t)∧K (.bool (wB t.bits 1 128))
 |_,_,_=>False
theorem Av:EntOk Tryz.prog 99 (Ent.pure xh):=by
 refine Ype fun _ H K h=>?_
 unfold xh at h
 split at h
 rotate_left
 ·exact h.elim
 rename_i x
 obtain ⟨t,rfl,hK⟩:=h
 refine ⟨_,hK,?_⟩
 clear hK
 generalize hR:(wB t.bits 1 128)=R
 unfold bv
 refine ACalls.fW ap (tCq wz tNq) Tryz.func99 [.tmp 2] (nrq _) (T:=aj []) (h:=fun hcl hlt=>?_)
 clear hlt
 cases c0:wB t.bits 1 128 with
 |false =>
  rw [c0] at hR
  subst hR
  try simp only [aE,ah,bhq,Nat.reduceMod,Nat.reduceDiv,au,aq,ay,aN,ax,aM,aJ,aK,aL,yaq,yar,yao,yap,go_sem,ni,c0]
  try (repeat with_reducible refine Yq ?_)
  exact Z1
 |true =>
 rw [c0] at hR
 subst hR
 try simp only [aE,ah,bhq,Nat.reduceMod,Nat.reduceDiv,au,aq,ay,aN,ax,aM,aJ,aK,aL,yaq,yar,yao,yap,go_sem,ni,c0]
 try (repeat with_reducible refine Yq ?_)
 exact Z1
def zx:List AV→AHeap→(AV→Prop)→Prop
 |[x],H,K=>∃ t:SAction,(x=aA t∧t.params.length≤1000000)∧K (.bool (nm4 t))
 |_,_,_=>False
theorem F7:EntOk Tryz.prog 98 (Ent.pure zx):=by
 refine Ype fun _ H K h=>?_
 unfold zx at h
 split at h
 rotate_left
 ·exact h.elim
 rename_i x
 obtain ⟨t,⟨rfl,hc⟩,hK⟩:=h
 refine ⟨_,hK,?_⟩
 clear hK
 generalize hR:(nm4 t)=R
 unfold aA
 refine ACalls.fW ap (tCq pV (tCq wN tNq)) Tryz.func98 [.tmp 2] (nrq _) (T:=aj []) (h:=fun hcl hlt=>?_)
 clear hlt
 unfold nm4 at hR
 cases c0:wB t.id 1 65534 with
 |false =>
  rw [c0,Bool.false_and] at hR
  subst hR
  try simp only [aE,ah,bhq,Nat.reduceMod,Nat.reduceDiv,au,aq,ay,aN,ax,aM,aJ,aK,aL,yaq,yar,yao,yap,go_sem,fG,c0]
  try (repeat with_reducible refine Yq ?_)
  exact Z1
 |true =>
 rw [c0,Bool.true_and] at hR
 simp only [aE,ah,bhq,Nat.reduceMod,Nat.reduceDiv,au,aq,ay,aN,ax,aM,aJ,aK,aL,yaq,yar,yao,yap,go_sem,fG,lx,c0]
 refine ⟨t.params,(fun p=>wB p.bits 1 128),⟨rfl,hc,fun x hx H' hle' hcl'=>clB Av ⟨x,rfl,rfl⟩⟩,?_⟩
 cases c1:t.params.all fun p=>wB p.bits 1 128 with
 |false =>
  rw [c1] at hR
  subst hR
  try simp only [aE,ah,bhq,Nat.reduceMod,Nat.reduceDiv,au,aq,ay,aN,ax,aM,aJ,aK,aL,yaq,yar,yao,yap,go_sem,fG,lx,c0,c1]
  try (repeat with_reducible refine Yq ?_)
  exact Z1
 |true =>
 rw [c1] at hR
 subst hR
 try simp only [aE,ah,bhq,Nat.reduceMod,Nat.reduceDiv,au,aq,ay,aN,ax,aM,aJ,aK,aL,yaq,yar,yao,yap,go_sem,fG,lx,c0,c1]
 try (repeat with_reducible refine Yq ?_)
 exact Z1
def zU:List AV→AHeap→(AV→Prop)→Prop
 |[x],H,K=>∃ t:STable,(x=aC t)∧K (.bool (nm5 t))
 |_,_,_=>False
theorem CV:EntOk Tryz.prog 100 (Ent.pure zU):=by
 refine Ype fun _ H K h=>?_
 unfold zU at h
 split at h
 rotate_left
 ·exact h.elim
 rename_i x
 obtain ⟨t,rfl,hK⟩:=h
 refine ⟨_,hK,?_⟩
 clear hK
 generalize hR:(nm5 t)=R
 unfold aC
 refine ACalls.fW ap (tCq pV (tCq i7 tNq)) Tryz.func100 [.tmp 2] (nrq _) (T:=aj []) (h:=fun hcl hlt=>?_)
 clear hlt
 unfold nm5 at hR
 cases c0:wB t.id 1 65534 with
 |false =>
  rw [c0,Bool.false_and] at hR
  subst hR
  try simp only [aE,ah,bhq,Nat.reduceMod,Nat.reduceDiv,au,aq,ay,aN,ax,aM,aJ,aK,aL,yaq,yar,yao,yap,go_sem,ybb,lK,inL,fG,c0]
  try (repeat with_reducible refine Yq ?_)
  exact Z1
 |true =>
 rw [c0,Bool.true_and] at hR
 cases c1:wB t.size 1 64 with
 |false =>
  rw [c1,Bool.false_and] at hR
  subst hR
  try simp only [aE,ah,bhq,Nat.reduceMod,Nat.reduceDiv,au,aq,ay,aN,ax,aM,aJ,aK,aL,yaq,yar,yao,yap,go_sem,ybb,lK,inL,fG,aV,c0,c1]
  try (repeat with_reducible refine Yq ?_)
  exact Z1
 |true =>
 rw [c1,Bool.true_and] at hR
 cases c2:decide (0<t.keys.length) with
 |false =>
  rw [c2] at hR
  subst hR
  try simp only [aE,ah,bhq,Nat.reduceMod,Nat.reduceDiv,au,aq,ay,aN,ax,aM,aJ,aK,aL,yaq,yar,yao,yap,go_sem,ybb,lK,inL,fG,aV,fG,c0,c1,c2]
  try (repeat with_reducible refine Yq ?_)
  exact Z1
 |true =>
 rw [c2] at hR
 subst hR
 try simp only [aE,ah,bhq,Nat.reduceMod,Nat.reduceDiv,au,aq,ay,aN,ax,aM,aJ,aK,aL,yaq,yar,yao,yap,go_sem,ybb,lK,inL,fG,aV,fG,c0,c1,c2]
 try (repeat with_reducible refine Yq ?_)
 exact Z1
def y0:List AV→AHeap→(AV→Prop)→Prop
 |[x],H,K=>∃ t:SRole,(x=bc t)∧K (.bool (nm6 t))
 |_,_,_=>False
theorem Dh:EntOk Tryz.prog 101 (Ent.pure y0):=by
 refine Ype fun _ H K h=>?_
 unfold y0 at h
 split at h
 rotate_left
 ·exact h.elim
 rename_i x
 obtain ⟨t,rfl,hK⟩:=h
 refine ⟨_,hK,?_⟩
 clear hK
 generalize hR:(nm6 t)=R
 unfold bc
 refine ACalls.fW ap (tCq pV tNq) Tryz.func101 [.tmp 2] (nrq _) (T:=aj []) (h:=fun hcl hlt=>?_)
 clear hlt
 unfold nm6 at hR
 cases c0:wB t.id 1 65534 with
 |false =>
  rw [c0,Bool.false_and] at hR
  subst hR
  try simp only [aE,ah,bhq,Nat.reduceMod,Nat.reduceDiv,au,aq,ay,aN,ax,aM,aJ,aK,aL,yaq,yar,yao,yap,go_sem,fG,c0]
  try (repeat with_reducible refine Yq ?_)
  exact Z1
 |true =>
 rw [c0,Bool.true_and] at hR
 cases c1:decide (t.quota≤512) with
 |false =>
  rw [c1] at hR
  subst hR
  try simp only [aE,ah,bhq,Nat.reduceMod,Nat.reduceDiv,au,aq,ay,aN,ax,aM,aJ,aK,aL,yaq,yar,yao,yap,go_sem,fG,fG,c0,c1]
  try (repeat with_reducible refine Yq ?_)
  exact Z1
 |true =>
 rw [c1] at hR
 subst hR
 try simp only [aE,ah,bhq,Nat.reduceMod,Nat.reduceDiv,au,aq,ay,aN,ax,aM,aJ,aK,aL,yaq,yar,yao,yap,go_sem,fG,fG,c0,c1]
 try (repeat with_reducible refine Yq ?_)
 exact Z1
def lP:List AV→AHeap→(AV→Prop)→Prop
 |[.agg l],_,K=>∃ S:Sch,(l=aS S∧SB S)∧K (.bool (r8 S))
 |_,_,_=>False
theorem Jw:EntOk Tryz.prog 32 (Ent.pure lP):=by
 refine Ype fun _ H K h=>?_
 unfold lP at h
 split at h
 rotate_left
 ·exact h.elim
 rename_i l
 obtain ⟨S,⟨rfl,hS⟩,hK⟩:=h
 refine ⟨_,hK,?_⟩
 clear hK
 generalize hR:r8 S=R
 unfold r8 at hR
 refine ACalls.fW ap (tCq i7 (tCq wI (tCq oy (tCq oZ (tCq mB (tCq kT (tCq mD tNq))))))) Tryz.func32 [.tmp 2] (nrq _) (T:=aj []) (h:=fun hcl hlt=>?_)
 clear hlt
 cases c0:wB S.maxBatch 1 32 with
 |false =>
  rw [c0,Bool.false_and] at hR
  subst hR
  try simp only [aE,ah,bhq,Nat.reduceMod,Nat.reduceDiv,au,aq,ay,aN,ax,aM,aJ,aK,aL,yaq,yar,yao,yap,go_sem,aS,aV,c0]
  try (repeat with_reducible refine Yq ?_)
  exact Z1
 |true =>
 rw [c0,Bool.true_and] at hR
 cases c1:wB S.budget 1 200 with
 |false =>
  rw [c1,Bool.false_and] at hR
  subst hR
  try simp only [aE,ah,bhq,Nat.reduceMod,Nat.reduceDiv,au,aq,ay,aN,ax,aM,aJ,aK,aL,yaq,yar,yao,yap,go_sem,aS,aV,aV,c0,c1]
  try (repeat with_reducible refine Yq ?_)
  exact Z1
 |true =>
 rw [c1,Bool.true_and] at hR
 simp only [aE,ah,bhq,Nat.reduceMod,Nat.reduceDiv,au,aq,ay,aN,ax,aM,aJ,aK,aL,yaq,yar,yao,yap,go_sem,aS,aV,aV,dj,c0,c1]
 refine ⟨S.fields,nm1,⟨rfl,hS.sl.fl,fun x hx H' hle' hcl'=>clB Fz ⟨x,rfl,rfl⟩⟩,?_⟩
 cases c2:S.fields.all nm1 with
 |false =>
  rw [c2,Bool.false_and] at hR
  subst hR
  try simp only [aE,ah,bhq,Nat.reduceMod,Nat.reduceDiv,au,aq,ay,aN,ax,aM,aJ,aK,aL,yaq,yar,yao,yap,go_sem,aS,aV,aV,dj,c0,c1,c2]
  try (repeat with_reducible refine Yq ?_)
  exact Z1
 |true =>
 rw [c2,Bool.true_and] at hR
 try simp only [aE,ah,bhq,Nat.reduceMod,Nat.reduceDiv,au,aq,ay,aN,ax,aM,aJ,aK,aL,yaq,yar,yao,yap,go_sem,aS,aV,aV,dj,bp,c0,c1,c2]
 refine ⟨S.headers,nm2,⟨rfl,hS.sl.hl,fun x hx H' hle' hcl'=>clB Hh ⟨x,rfl,rfl⟩⟩,?_⟩
 cases c3:S.headers.all nm2 with
 |false =>
  rw [c3,Bool.false_and] at hR
  subst hR
  try simp only [aE,ah,bhq,Nat.reduceMod,Nat.reduceDiv,au,aq,ay,aN,ax,aM,aJ,aK,aL,yaq,yar,yao,yap,go_sem,aS,aV,aV,dj,bp,c0,c1,c2,c3]
  try (repeat with_reducible refine Yq ?_)
  exact Z1
 |true =>
 rw [c3,Bool.true_and] at hR
 try simp only [aE,ah,bhq,Nat.reduceMod,Nat.reduceDiv,au,aq,ay,aN,ax,aM,aJ,aK,aL,yaq,yar,yao,yap,go_sem,aS,aV,aV,dj,bp,bz,c0,c1,c2,c3]
 refine ⟨S.states,(fun t=>wB t.id 1 65534),⟨rfl,hS.sl.sl,fun x hx H' hle' hcl'=>clB Gp ⟨x,rfl,rfl⟩⟩,?_⟩
 cases c4:S.states.all fun t=>wB t.id 1 65534 with
 |false =>
  rw [c4,Bool.false_and] at hR
  subst hR
  try simp only [aE,ah,bhq,Nat.reduceMod,Nat.reduceDiv,au,aq,ay,aN,ax,aM,aJ,aK,aL,yaq,yar,yao,yap,go_sem,aS,aV,aV,dj,bp,bz,c0,c1,c2,c3,c4]
  try (repeat with_reducible refine Yq ?_)
  exact Z1
 |true =>
 rw [c4,Bool.true_and] at hR
 try simp only [aE,ah,bhq,Nat.reduceMod,Nat.reduceDiv,au,aq,ay,aN,ax,aM,aJ,aK,aL,yaq,yar,yao,yap,go_sem,aS,aV,aV,dj,bp,bz,bm,c0,c1,c2,c3,c4]
 refine ⟨S.actions,nm4,⟨rfl,hS.sl.al,fun x hx H' hle' hcl'=>clB F7 ⟨x,⟨rfl,(hS.an x hx).2.1⟩,rfl⟩⟩,?_⟩
 cases c5:S.actions.all nm4 with
 |false =>
  rw [c5,Bool.false_and] at hR
  subst hR
  try simp only [aE,ah,bhq,Nat.reduceMod,Nat.reduceDiv,au,aq,ay,aN,ax,aM,aJ,aK,aL,yaq,yar,yao,yap,go_sem,aS,aV,aV,dj,bp,bz,bm,c0,c1,c2,c3,c4,c5]
  try (repeat with_reducible refine Yq ?_)
  exact Z1
 |true =>
 rw [c5,Bool.true_and] at hR
 try simp only [aE,ah,bhq,Nat.reduceMod,Nat.reduceDiv,au,aq,ay,aN,ax,aM,aJ,aK,aL,yaq,yar,yao,yap,go_sem,aS,aV,aV,dj,bp,bz,bm,bn,c0,c1,c2,c3,c4,c5]
 refine ⟨S.tables,nm5,⟨rfl,hS.sl.tl,fun x hx H' hle' hcl'=>clB CV ⟨x,rfl,rfl⟩⟩,?_⟩
 cases c6:S.tables.all nm5 with
 |false =>
  rw [c6,Bool.false_and] at hR
  subst hR
  try simp only [aE,ah,bhq,Nat.reduceMod,Nat.reduceDiv,au,aq,ay,aN,ax,aM,aJ,aK,aL,yaq,yar,yao,yap,go_sem,aS,aV,aV,dj,bp,bz,bm,bn,c0,c1,c2,c3,c4,c5,c6]
  try (repeat with_reducible refine Yq ?_)
  exact Z1
 |true =>
 rw [c6,Bool.true_and] at hR
 try simp only [aE,ah,bhq,Nat.reduceMod,Nat.reduceDiv,au,aq,ay,aN,ax,aM,aJ,aK,aL,yaq,yar,yao,yap,go_sem,aS,aV,aV,dj,bp,bz,bm,bn,bD,c0,c1,c2,c3,c4,c5,c6]
 refine ⟨S.roles,nm6,⟨rfl,hS.sl.rl,fun x hx H' hle' hcl'=>clB Dh ⟨x,rfl,rfl⟩⟩,?_⟩
 cases c7:S.roles.all nm6 with
 |false =>
  rw [c7] at hR
  subst hR
  try simp only [aE,ah,bhq,Nat.reduceMod,Nat.reduceDiv,au,aq,ay,aN,ax,aM,aJ,aK,aL,yaq,yar,yao,yap,go_sem,aS,aV,aV,dj,bp,bz,bm,bn,bD,c0,c1,c2,c3,c4,c5,c6,c7]
  try (repeat with_reducible refine Yq ?_)
  exact Z1
 |true =>
 rw [c7] at hR
 subst hR
 try simp only [aE,ah,bhq,Nat.reduceMod,Nat.reduceDiv,au,aq,ay,aN,ax,aM,aJ,aK,aL,yaq,yar,yao,yap,go_sem,aS,aV,aV,dj,bp,bz,bm,bn,bD,c0,c1,c2,c3,c4,c5,c6,c7]
 try (repeat with_reducible refine Yq ?_)
 exact Z1
end Go.AL
