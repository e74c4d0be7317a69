/- Lemmas of the proof; no condition. -/
import Derived.Test.YthhmookokgiemaaGreatS12a
set_option linter.all false
set_option maxRecDepth 10000
set_option maxHeartbeats 32000000
open List renaming length_cons → yaz, length_nil → yba, length_map → ybb, take_of_length_le → ybc, drop_append → ybd, take_append → ybe, drop_eq_nil_of_le → ybf, take_succ_cons → yaq, take_zero → yar, drop_succ_cons → yao, drop_zero → yap
open Go Go.AL Go.Proofs
namespace Go.AL
theorem I7:ti Tryz.prog 45=some ⟨.struct [(0,3,false),(1,9,false),(2,3,false)],3,32,.agg [.int .i64 0,.str [],.int .i64 0]⟩:=by kernel_rfl
theorem FO:ti Tryz.prog 25=some ⟨.slice 45,1,24,.slice .nil 1 []⟩:=by kernel_rfl
theorem Dy:ti Tryz.prog 104=some ⟨.func,1,8,.nilf⟩:=by kernel_rfl
theorem HH:ti Tryz.prog 70=some ⟨.struct [(0,3,false),(1,9,false),(2,23,false)],3,48,.agg [.int .i64 0,.str [],.slice .nil 1 []]⟩:=by kernel_rfl
theorem FN:ti Tryz.prog 26=some ⟨.slice 70,1,24,.slice .nil 1 []⟩:=by kernel_rfl
theorem Dt:ti Tryz.prog 106=some ⟨.func,1,8,.nilf⟩:=by kernel_rfl
theorem HZ:ti Tryz.prog 82=some ⟨.struct [(0,3,false),(1,3,false),(2,3,false),(3,80,false),(4,3,false)],5,56,.agg [.int .i64 0,.int .i64 0,.int .i64 0,.slice .nil 1 [],.int .i64 0]⟩:=by kernel_rfl
theorem Fq:ti Tryz.prog 27=some ⟨.slice 82,1,24,.slice .nil 1 []⟩:=by kernel_rfl
theorem Et:ti Tryz.prog 108=some ⟨.func,1,8,.nilf⟩:=by kernel_rfl
theorem H5:ti Tryz.prog 87=some ⟨.struct [(0,3,false),(1,9,false),(2,84,false),(3,85,false),(4,9,false)],5,88,.agg [.int .i64 0,.str [],.slice .nil 1 [],.slice .nil 1 [],.str []]⟩:=by kernel_rfl
theorem E2:ti Tryz.prog 28=some ⟨.slice 87,1,24,.slice .nil 1 []⟩:=by kernel_rfl
theorem EA:ti Tryz.prog 110=some ⟨.func,1,8,.nilf⟩:=by kernel_rfl
theorem I1:ti Tryz.prog 127=some ⟨.struct [(0,9,false),(1,3,false)],2,24,.agg [.str [],.int .i64 0]⟩:=by kernel_rfl
theorem Gt:ti Tryz.prog 84=some ⟨.slice 127,1,24,.slice .nil 1 []⟩:=by kernel_rfl
theorem GJ:ti Tryz.prog 190=some ⟨.func,1,8,.nilf⟩:=by kernel_rfl
theorem IB:ti Tryz.prog 57=some ⟨.struct [(0,3,false),(1,9,false),(2,54,false),(3,23,false),(4,3,false),(5,55,false),(6,3,false),(7,9,false)],8,128,.agg [.int .i64 0,.str [],.slice .nil 1 [],.slice .nil 1 [],.int .i64 0,.slice .nil 1 [],.int .i64 0,.str []]⟩:=by kernel_rfl
theorem D8:ti Tryz.prog 29=some ⟨.slice 57,1,24,.slice .nil 1 []⟩:=by kernel_rfl
theorem GW:ti Tryz.prog 99=some ⟨.func,1,8,.nilf⟩:=by kernel_rfl
theorem Iw:ti Tryz.prog 53=some ⟨.struct [(0,9,false),(1,3,false),(2,3,false)],3,32,.agg [.str [],.int .i64 0,.int .i64 0]⟩:=by kernel_rfl
theorem EW:ti Tryz.prog 54=some ⟨.slice 53,1,24,.slice .nil 1 []⟩:=by kernel_rfl
theorem FD:ti Tryz.prog 193=some ⟨.func,1,8,.nilf⟩:=by kernel_rfl
theorem Ji:ti Tryz.prog 48=some ⟨.struct [(0,3,false),(1,9,false),(2,46,false),(3,23,false),(4,3,false),(5,4,false)],6,88,.agg [.int .i64 0,.str [],.slice .nil 1 [],.slice .nil 1 [],.int .i64 0,.bool false]⟩:=by kernel_rfl
theorem Hs:ti Tryz.prog 31=some ⟨.slice 48,1,24,.slice .nil 1 []⟩:=by kernel_rfl
theorem Hr:ti Tryz.prog 112=some ⟨.func,1,8,.nilf⟩:=by kernel_rfl
theorem HG:ti Tryz.prog 125=some ⟨.struct [(0,3,false),(1,3,false),(2,123,false)],6,48,.agg [.int .i64 0,.int .i64 0,.int .i64 0,.int .i64 0,.int .u64 0,.int .u64 0]⟩:=by kernel_rfl
theorem EC:ti Tryz.prog 85=some ⟨.slice 125,1,24,.slice .nil 1 []⟩:=by kernel_rfl
theorem DF:ti Tryz.prog 213=some ⟨.func,1,8,.nilf⟩:=by kernel_rfl
theorem Hy:ti Tryz.prog 76=some ⟨.struct [(0,3,false),(1,3,false)],2,16,.agg [.int .i64 0,.int .i64 0]⟩:=by kernel_rfl
theorem Fo:ti Tryz.prog 30=some ⟨.slice 76,1,24,.slice .nil 1 []⟩:=by kernel_rfl
theorem EJ:ti Tryz.prog 219=some ⟨.func,1,8,.nilf⟩:=by kernel_rfl
theorem IZ:ti Tryz.prog 132=some ⟨.struct [(0,3,false),(1,4,false),(2,4,false),(3,130,false)],4,40,.agg [.int .i64 0,.bool false,.bool false,.slice .nil 1 []]⟩:=by kernel_rfl
theorem GT:ti Tryz.prog 46=some ⟨.slice 132,1,24,.slice .nil 1 []⟩:=by kernel_rfl
theorem C9:ti Tryz.prog 221=some ⟨.func,1,8,.nilf⟩:=by kernel_rfl
theorem Ip:ti Tryz.prog 121=some ⟨.struct [(0,119,false),(2,119,false),(4,3,false)],5,40,.agg [.int .u64 0,.int .u64 0,.int .u64 0,.int .u64 0,.int .i64 0]⟩:=by kernel_rfl
theorem GK:ti Tryz.prog 80=some ⟨.slice 121,1,24,.slice .nil 1 []⟩:=by kernel_rfl
theorem FY:ti Tryz.prog 227=some ⟨.func,1,8,.nilf⟩:=by kernel_rfl
theorem Ih:ti Tryz.prog 50=some ⟨.struct [(0,3,false),(1,3,false),(2,3,false),(3,3,false),(4,3,false),(5,3,false)],6,48,.agg [.int .i64 0,.int .i64 0,.int .i64 0,.int .i64 0,.int .i64 0,.int .i64 0]⟩:=by kernel_rfl
theorem F8:ti Tryz.prog 32=some ⟨.slice 50,1,24,.slice .nil 1 []⟩:=by kernel_rfl
theorem Gl:ti Tryz.prog 115=some ⟨.func,1,8,.nilf⟩:=by kernel_rfl
theorem HT:ti Tryz.prog 3=some ⟨.int .i64,1,8,.int .i64 0⟩:=by kernel_rfl
theorem DN:ti Tryz.prog 23=some ⟨.slice 3,1,24,.slice .nil 1 []⟩:=by kernel_rfl
theorem Fx:ti Tryz.prog 116=some ⟨.func,1,8,.nilf⟩:=by kernel_rfl
attribute [go_sem] I7 FO Dy HH FN Dt HZ Fq Et H5 E2 EA I1 Gt GJ IB D8 GW Iw EW FD Ji Hs Hr HG EC DF Hy Fo EJ IZ GT C9 Ip GK FY Ih F8 Gl HT DN Fx
def bD (P:Program) (F:FuncId):List AV→AHeap→(AV→Prop)→Prop:=fun args H K=>∃ x,K x∧ACalls P F args H (.ret x) H
theorem cy {P:Program} {F:FuncId}:EntOk P F (Ent.pure (bD P F)):=EntOk.pure fun _ _ _ h=>h
theorem eg {α:Type} {q:α→Bool}:∀ {l:List α} {k:Nat},decide (0≤ixP q l k)=l.any q
 |[],_=>rfl
 |x::l,k=>by
  unfold ixP
  rw [List.any_cons]
  cases h:q x
  ·rw [if_neg (by decide),eg,Bool.false_or]
  ·rw [if_pos rfl,Bool.true_or];exact dtq (Int.natCast_nonneg _)
theorem fP {α:Type} {q:α→Bool} {l:List α}:(!(l.any fun x=>!q x))=l.all q:=by
 induction l with
 |nil=>rfl
 |cons x l ih=>rw [List.any_cons,List.all_cons,← ih];cases q x<;>simp
def vh:List AV→AHeap→(AV→Prop)→Prop
 |[.slice _ 3 l,.func (.func F) fst caps],H,K=>∃ (ts:List SField) (q:SField→Bool),(l=ts.map aI∧ts.length≤1000000∧∀ x∈ts,ACalls Tryz.prog F (fst++[aI x]++caps) H (.ret (.bool (q x))) H)∧K (.int .i64 (ixP q ts 0))
 |_,_,_=>False
theorem Es:EntOk Tryz.prog 66 (Ent.pure vh):=by
 refine Ype fun _ H K h=>?_
 unfold vh at h
 split at h
 rotate_left
 ·exact h.elim
 rename_i m l F fst caps
 obtain ⟨ts,q,⟨rfl,hl,hq⟩,hK⟩:=h
 refine ⟨_,hK,?_⟩
 clear hK
 generalize hR:ixP q ts 0=R
 refine ACalls.of_aw (Ω:=[(F,Ent.pure (bD Tryz.prog F))]) (T:=ag []) ak (tCq cy tNq) Tryz.func66 (by kernel_rfl) (by rfl) (rs:=[.tmp 4]) (by rfl) (by kernel_rfl) (by simp only [Tryz.ntmps66,yaz,yba];decide) (nrq _) fun hcl hlt=>?_
 change aw _ _ _ (KI Tryz.prog [(F,Ent.pure (bD Tryz.prog F))] (dh Tryz.prog [.tmp 4] H.nx _ _ (ag [])) []) _ _
 have hm:AV.lt H.nx (.slice m 3 (ts.map aI)):=hlt _ (by simp)
 have hf:AV.lt H.nx (.func (.func F) fst caps):=hlt _ (by simp)
 clear hlt
 simp only [go_sem,ybb]
 refine ay (A:=Nat) (fun k=>[(0,.slice m 3 (ts.map aI)),(1,.func (.func F) fst caps),(7,.int .i64 (ts.length:Int)),(8,.int .i64 (k:Int))]) (fun _=>H) (fun k=>k≤ts.length∧ixP q (ts.drop k) k=R) (fun k=>ts.length - k) 0 ⟨by omega,hR⟩ ?_ fun k hk=>?_
 ·refine ⟨nrq _,lRq _,hcl,?_,?_⟩
  ·simp [ltF,znf,hm,hf]
  ·simp [aS,wk2,wk1,wkM,Fr.get]
 clear hR
 obtain ⟨hk,hR⟩:=hk
 simp only [go_sem]
 refine ah (fun hc=>?_) (fun hc=>?_)
 ·have hk':k<ts.length:=by simp at hc;omega
  obtain ⟨x,hx⟩:∃ x,x=ts[k]:=⟨_,rfl⟩
  have hd:ts.drop k=x::ts.drop (k+1):=by rw [hx];exact dcq hk'
  have hg':=aO (f:=aI) (l:=ts) (k:=k) (x:=x) (by rw [gQq hk',hx])
  have e5:=Yk5 k
  rw [hd] at hR
  unfold ixP at hR
  have hqx:=hq x (by rw [hx];exact gMq hk')
  have hag:∃ cs,aI x=.agg cs∧cs.length=3:=⟨_,rfl,rfl⟩
  obtain ⟨cs,hcs,hcl3⟩:=hag
  have hts:List.take 3 cs=cs:=ybc (by omega)
  rw [hcs] at hqx
  simp only [go_sem,iNq,ybb,hg',hcs,hcl3,hts,bD]
  (repeat with_reducible refine Yq ?_)
  refine ⟨_,?_,hqx⟩
  try simp only [aj,go_sem]
  try (repeat with_reducible refine Yq ?_)
  refine ah (fun hq=>?_) (fun hq=>?_)
  ·rw [if_pos hq] at hR
   subst hR
   simp only [go_sem]
   exact Z1
  ·rw [if_neg (by rw [hq];decide)] at hR
   simp only [go_sem,e5]
   refine ⟨k+1,⟨by omega,hR⟩,by omega,nrq _,lRq _,hcl,?_,?_⟩
   ·simp [ltF,znf,hm,hf]
   ·simp [aS,wk2,wk1,wkM,Fr.get]
 ·have hk':k=ts.length:=by simp at hc;omega
  subst hk'
  rw [List.drop_length] at hR
  unfold ixP at hR
  subst hR
  simp only [go_sem]
  exact Z1
def tz:List AV→AHeap→(AV→Prop)→Prop
 |[.slice _ 3 l,.func (.func F) fst caps],H,K=>∃ (ts:List SField) (q:SField→Bool),(l=ts.map aI∧ts.length≤1000000∧∀ x∈ts,ACalls Tryz.prog F (fst++[aI x]++caps) H (.ret (.bool (q x))) H)∧K (.bool (ts.any q))
 |_,_,_=>False
theorem Ey:EntOk Tryz.prog 250 (Ent.pure tz):=by
 refine Ype fun _ H K h=>?_
 unfold tz at h
 split at h
 rotate_left
 ·exact h.elim
 rename_i m l F fst caps
 obtain ⟨ts,q,⟨rfl,hl,hq⟩,hK⟩:=h
 refine ⟨_,hK,?_⟩
 clear hK
 have hR:=@eg _ q ts 0
 generalize ts.any q=R at *
 refine ACalls.fW ak (tCq Es tNq) Tryz.func250 [.tmp 4] (nrq _) (T:=ag []) (h:=fun hcl hlt=>?_)
 clear hlt
 simp only [go_sem,vh]
 refine ⟨ts,q,⟨rfl,hl,hq⟩,?_⟩
 simp only [aj,go_sem,hR]
 exact Z1
def A2:List AV→AHeap→(AV→Prop)→Prop
 |[x,.ptr c 0],H,K=>∃ (t:SField) (b:Bool) (F:FuncId) (fst caps:List AV),(x=aI t∧H.get c=some (.cells [.func (.func F) fst caps])∧∀ H',H.Le H'→H'.Closed→ACalls Tryz.prog F (fst++[aI t]++caps) H' (.ret (.bool b)) H')∧K (.bool (!b))
 |_,_,_=>False
theorem ok_gLFld:EntOk Tryz.prog 251 (Ent.pure A2):=by
 refine Ype fun _ H K h=>?_
 unfold A2 at h
 split at h
 rotate_left
 ·exact h.elim
 rename_i x c
 obtain ⟨t,b,F,fst,caps,⟨rfl,hg,hq⟩,hK⟩:=h
 refine ⟨_,hK,?_⟩
 clear hK
 have hcs:=au hg
 have hl:=glq hg
 have hne:(c=H.nx)=False:=eq_false (by omega)
 obtain ⟨cs,hav,hcl3⟩:∃ cs,aI t=.agg cs∧cs.length=3:=⟨_,rfl,rfl⟩
 have hts:List.take 3 cs=cs:=ybc (by omega)
 rw [hav] at hq
 rw [hav]
 refine ACalls.of_aw (Ω:=[(F,Ent.pure (bD Tryz.prog F))]) (T:=ag []) ak (tCq cy tNq) Tryz.func251 (by kernel_rfl) (by rfl) (rs:=[.tmp 3]) (by rfl) (by kernel_rfl) (by simp only [Tryz.ntmps251,yaz,yba];decide) (nrq _) fun hcl hlt=>?_
 change aw _ _ _ (KI Tryz.prog [(F,Ent.pure (bD Tryz.prog F))] (dh Tryz.prog [.tmp 3] H.nx _ _ (ag [])) []) _ _
 have hlx:=hlt _ (List.mem_cons_self)
 clear hlt
 simp only [go_sem,hcs,hne,hg,hcl3,hts,bD]
 refine ⟨_,?_,hq _ ((lRq _).push _) ?_⟩
 ·try simp only [aj,go_sem]
  exact Z1
 ·have h0:=AV.lt_mono (Nat.le_succ H.nx) _ hlx
  rw [znr] at h0
  exact ae hcl h0
def cZ:List AV→AHeap→(AV→Prop)→Prop
 |[.slice _ 3 l,.func (.func F) fst caps],H,K=>∃ (ts:List SField) (q:SField→Bool),(l=ts.map aI∧ts.length≤1000000∧∀ x∈ts,∀ H',H.Le H'→H'.Closed→ACalls Tryz.prog F (fst++[aI x]++caps) H' (.ret (.bool (q x))) H')∧K (.bool (ts.all q))
 |_,_,_=>False
theorem xm:EntOk Tryz.prog 97 (Ent.pure cZ):=by
 refine Ype fun _ H K h=>?_
 unfold cZ at h
 split at h
 rotate_left
 ·exact h.elim
 rename_i m l F fst caps
 obtain ⟨ts,q,⟨rfl,hl,hq⟩,hK⟩:=h
 refine ⟨_,hK,?_⟩
 clear hK
 have hR:=@fP _ q ts
 generalize ts.all q=R at *
 refine ACalls.fW ak (tCq Ey tNq) Tryz.func97 [.tmp 4] (nrq _) (T:=ag []) (h:=fun hcl hlt=>?_)
 have hfx:=hlt _ (List.mem_cons_of_mem _ List.mem_cons_self)
 clear hlt
 simp only [go_sem,tz]
 refine ⟨ts,fun x=>!q x,⟨rfl,hl,fun x hx=>?_⟩,?_⟩
 ·obtain ⟨v,hv,hc⟩:=ok_gLFld.1 rfl [aI x,.ptr H.nx 0] (H.push (.cells [.func (.func F) fst caps])) (fun v=>v=.bool (!q x)) ⟨x,q x,F,fst,caps,⟨rfl,by simp only [go_sem],fun H' h1 h2=>hq x hx H' (((lRq _).push _).trans h1) h2⟩,rfl⟩
  subst hv
  exact hc
 ·rw [hR]
  try simp only [aj,go_sem]
  exact Z1
def uB:List AV→AHeap→(AV→Prop)→Prop
 |[.slice _ 3 l,.func (.func F) fst caps],H,K=>∃ (ts:List SHeader) (q:SHeader→Bool),(l=ts.map az∧ts.length≤1000000∧∀ x∈ts,ACalls Tryz.prog F (fst++[az x]++caps) H (.ret (.bool (q x))) H)∧K (.int .i64 (ixP q ts 0))
 |_,_,_=>False
theorem Di:EntOk Tryz.prog 68 (Ent.pure uB):=by
 refine Ype fun _ H K h=>?_
 unfold uB at h
 split at h
 rotate_left
 ·exact h.elim
 rename_i m l F fst caps
 obtain ⟨ts,q,⟨rfl,hl,hq⟩,hK⟩:=h
 refine ⟨_,hK,?_⟩
 clear hK
 generalize hR:ixP q ts 0=R
 refine ACalls.of_aw (Ω:=[(F,Ent.pure (bD Tryz.prog F))]) (T:=ag []) ak (tCq cy tNq) Tryz.func68 (by kernel_rfl) (by rfl) (rs:=[.tmp 4]) (by rfl) (by kernel_rfl) (by simp only [Tryz.ntmps68,yaz,yba];decide) (nrq _) fun hcl hlt=>?_
 change aw _ _ _ (KI Tryz.prog [(F,Ent.pure (bD Tryz.prog F))] (dh Tryz.prog [.tmp 4] H.nx _ _ (ag [])) []) _ _
 have hm:AV.lt H.nx (.slice m 3 (ts.map az)):=hlt _ (by simp)
 have hf:AV.lt H.nx (.func (.func F) fst caps):=hlt _ (by simp)
 clear hlt
 simp only [go_sem,ybb]
 refine ay (A:=Nat) (fun k=>[(0,.slice m 3 (ts.map az)),(1,.func (.func F) fst caps),(7,.int .i64 (ts.length:Int)),(8,.int .i64 (k:Int))]) (fun _=>H) (fun k=>k≤ts.length∧ixP q (ts.drop k) k=R) (fun k=>ts.length - k) 0 ⟨by omega,hR⟩ ?_ fun k hk=>?_
 ·refine ⟨nrq _,lRq _,hcl,?_,?_⟩
  ·simp [ltF,znf,hm,hf]
  ·simp [aS,wk2,wk1,wkM,Fr.get]
 clear hR
 obtain ⟨hk,hR⟩:=hk
 simp only [go_sem]
 refine ah (fun hc=>?_) (fun hc=>?_)
 ·have hk':k<ts.length:=by simp at hc;omega
  obtain ⟨x,hx⟩:∃ x,x=ts[k]:=⟨_,rfl⟩
  have hd:ts.drop k=x::ts.drop (k+1):=by rw [hx];exact dcq hk'
  have hg':=aO (f:=az) (l:=ts) (k:=k) (x:=x) (by rw [gQq hk',hx])
  have e5:=Yk5 k
  rw [hd] at hR
  unfold ixP at hR
  have hqx:=hq x (by rw [hx];exact gMq hk')
  have hag:∃ cs,az x=.agg cs∧cs.length=3:=⟨_,rfl,rfl⟩
  obtain ⟨cs,hcs,hcl3⟩:=hag
  have hts:List.take 3 cs=cs:=ybc (by omega)
  rw [hcs] at hqx
  simp only [go_sem,iNq,ybb,hg',hcs,hcl3,hts,bD]
  (repeat with_reducible refine Yq ?_)
  refine ⟨_,?_,hqx⟩
  try simp only [aj,go_sem]
  try (repeat with_reducible refine Yq ?_)
  refine ah (fun hq=>?_) (fun hq=>?_)
  ·rw [if_pos hq] at hR
   subst hR
   simp only [go_sem]
   exact Z1
  ·rw [if_neg (by rw [hq];decide)] at hR
   simp only [go_sem,e5]
   refine ⟨k+1,⟨by omega,hR⟩,by omega,nrq _,lRq _,hcl,?_,?_⟩
   ·simp [ltF,znf,hm,hf]
   ·simp [aS,wk2,wk1,wkM,Fr.get]
 ·have hk':k=ts.length:=by simp at hc;omega
  subst hk'
  rw [List.drop_length] at hR
  unfold ixP at hR
  subst hR
  simp only [go_sem]
  exact Z1
def uH:List AV→AHeap→(AV→Prop)→Prop
 |[.slice _ 3 l,.func (.func F) fst caps],H,K=>∃ (ts:List SHeader) (q:SHeader→Bool),(l=ts.map az∧ts.length≤1000000∧∀ x∈ts,ACalls Tryz.prog F (fst++[az x]++caps) H (.ret (.bool (q x))) H)∧K (.bool (ts.any q))
 |_,_,_=>False
theorem FP:EntOk Tryz.prog 252 (Ent.pure uH):=by
 refine Ype fun _ H K h=>?_
 unfold uH at h
 split at h
 rotate_left
 ·exact h.elim
 rename_i m l F fst caps
 obtain ⟨ts,q,⟨rfl,hl,hq⟩,hK⟩:=h
 refine ⟨_,hK,?_⟩
 clear hK
 have hR:=@eg _ q ts 0
 generalize ts.any q=R at *
 refine ACalls.fW ak (tCq Di tNq) Tryz.func252 [.tmp 4] (nrq _) (T:=ag []) (h:=fun hcl hlt=>?_)
 clear hlt
 simp only [go_sem,uB]
 refine ⟨ts,q,⟨rfl,hl,hq⟩,?_⟩
 simp only [aj,go_sem,hR]
 exact Z1
def zZ:List AV→AHeap→(AV→Prop)→Prop
 |[x,.ptr c 0],H,K=>∃ (t:SHeader) (b:Bool) (F:FuncId) (fst caps:List AV),(x=az t∧H.get c=some (.cells [.func (.func F) fst caps])∧∀ H',H.Le H'→H'.Closed→ACalls Tryz.prog F (fst++[az t]++caps) H' (.ret (.bool b)) H')∧K (.bool (!b))
 |_,_,_=>False
theorem ok_gLHdr:EntOk Tryz.prog 253 (Ent.pure zZ):=by
 refine Ype fun _ H K h=>?_
 unfold zZ at h
 split at h
 rotate_left
 ·exact h.elim
 rename_i x c
 obtain ⟨t,b,F,fst,caps,⟨rfl,hg,hq⟩,hK⟩:=h
 refine ⟨_,hK,?_⟩
 clear hK
 have hcs:=au hg
 have hl:=glq hg
 have hne:(c=H.nx)=False:=eq_false (by omega)
 obtain ⟨cs,hav,hcl3⟩:∃ cs,az t=.agg cs∧cs.length=3:=⟨_,rfl,rfl⟩
 have hts:List.take 3 cs=cs:=ybc (by omega)
 rw [hav] at hq
 rw [hav]
 refine ACalls.of_aw (Ω:=[(F,Ent.pure (bD Tryz.prog F))]) (T:=ag []) ak (tCq cy tNq) Tryz.func253 (by kernel_rfl) (by rfl) (rs:=[.tmp 3]) (by rfl) (by kernel_rfl) (by simp only [Tryz.ntmps253,yaz,yba];decide) (nrq _) fun hcl hlt=>?_
 change aw _ _ _ (KI Tryz.prog [(F,Ent.pure (bD Tryz.prog F))] (dh Tryz.prog [.tmp 3] H.nx _ _ (ag [])) []) _ _
 have hlx:=hlt _ (List.mem_cons_self)
 clear hlt
 simp only [go_sem,hcs,hne,hg,hcl3,hts,bD]
 refine ⟨_,?_,hq _ ((lRq _).push _) ?_⟩
 ·try simp only [aj,go_sem]
  exact Z1
 ·have h0:=AV.lt_mono (Nat.le_succ H.nx) _ hlx
  rw [znr] at h0
  exact ae hcl h0
def bn:List AV→AHeap→(AV→Prop)→Prop
 |[.slice _ 3 l,.func (.func F) fst caps],H,K=>∃ (ts:List SHeader) (q:SHeader→Bool),(l=ts.map az∧ts.length≤1000000∧∀ x∈ts,∀ H',H.Le H'→H'.Closed→ACalls Tryz.prog F (fst++[az x]++caps) H' (.ret (.bool (q x))) H')∧K (.bool (ts.all q))
 |_,_,_=>False
theorem nJ:EntOk Tryz.prog 100 (Ent.pure bn):=by
 refine Ype fun _ H K h=>?_
 unfold bn at h
 split at h
 rotate_left
 ·exact h.elim
 rename_i m l F fst caps
 obtain ⟨ts,q,⟨rfl,hl,hq⟩,hK⟩:=h
 refine ⟨_,hK,?_⟩
 clear hK
 have hR:=@fP _ q ts
 generalize ts.all q=R at *
 refine ACalls.fW ak (tCq FP tNq) Tryz.func100 [.tmp 4] (nrq _) (T:=ag []) (h:=fun hcl hlt=>?_)
 have hfx:=hlt _ (List.mem_cons_of_mem _ List.mem_cons_self)
 clear hlt
 simp only [go_sem,uH]
 refine ⟨ts,fun x=>!q x,⟨rfl,hl,fun x hx=>?_⟩,?_⟩
 ·obtain ⟨v,hv,hc⟩:=ok_gLHdr.1 rfl [az x,.ptr H.nx 0] (H.push (.cells [.func (.func F) fst caps])) (fun v=>v=.bool (!q x)) ⟨x,q x,F,fst,caps,⟨rfl,by simp only [go_sem],fun H' h1 h2=>hq x hx H' (((lRq _).push _).trans h1) h2⟩,rfl⟩
  subst hv
  exact hc
 ·rw [hR]
  try simp only [aj,go_sem]
  exact Z1
def uw:List AV→AHeap→(AV→Prop)→Prop
 |[.slice _ 5 l,.func (.func F) fst caps],H,K=>∃ (ts:List SState) (q:SState→Bool),(l=ts.map aH∧ts.length≤1000000∧∀ x∈ts,ACalls Tryz.prog F (fst++[aH x]++caps) H (.ret (.bool (q x))) H)∧K (.int .i64 (ixP q ts 0))
 |_,_,_=>False
theorem Hj:EntOk Tryz.prog 70 (Ent.pure uw):=by
 refine Ype fun _ H K h=>?_
 unfold uw at h
 split at h
 rotate_left
 ·exact h.elim
 rename_i m l F fst caps
 obtain ⟨ts,q,⟨rfl,hl,hq⟩,hK⟩:=h
 refine ⟨_,hK,?_⟩
 clear hK
 generalize hR:ixP q ts 0=R
 refine ACalls.of_aw (Ω:=[(F,Ent.pure (bD Tryz.prog F))]) (T:=ag []) ak (tCq cy tNq) Tryz.func70 (by kernel_rfl) (by rfl) (rs:=[.tmp 4]) (by rfl) (by kernel_rfl) (by simp only [Tryz.ntmps70,yaz,yba];decide) (nrq _) fun hcl hlt=>?_
 change aw _ _ _ (KI Tryz.prog [(F,Ent.pure (bD Tryz.prog F))] (dh Tryz.prog [.tmp 4] H.nx _ _ (ag [])) []) _ _
 have hm:AV.lt H.nx (.slice m 5 (ts.map aH)):=hlt _ (by simp)
 have hf:AV.lt H.nx (.func (.func F) fst caps):=hlt _ (by simp)
 clear hlt
 simp only [go_sem,ybb]
 refine ay (A:=Nat) (fun k=>[(0,.slice m 5 (ts.map aH)),(1,.func (.func F) fst caps),(7,.int .i64 (ts.length:Int)),(8,.int .i64 (k:Int))]) (fun _=>H) (fun k=>k≤ts.length∧ixP q (ts.drop k) k=R) (fun k=>ts.length - k) 0 ⟨by omega,hR⟩ ?_ fun k hk=>?_
 ·refine ⟨nrq _,lRq _,hcl,?_,?_⟩
  ·simp [ltF,znf,hm,hf]
  ·simp [aS,wk2,wk1,wkM,Fr.get]
 clear hR
 obtain ⟨hk,hR⟩:=hk
 simp only [go_sem]
 refine ah (fun hc=>?_) (fun hc=>?_)
 ·have hk':k<ts.length:=by simp at hc;omega
  obtain ⟨x,hx⟩:∃ x,x=ts[k]:=⟨_,rfl⟩
  have hd:ts.drop k=x::ts.drop (k+1):=by rw [hx];exact dcq hk'
  have hg':=aO (f:=aH) (l:=ts) (k:=k) (x:=x) (by rw [gQq hk',hx])
  have e5:=Yk5 k
  rw [hd] at hR
  unfold ixP at hR
  have hqx:=hq x (by rw [hx];exact gMq hk')
  have hag:∃ cs,aH x=.agg cs∧cs.length=5:=⟨_,rfl,rfl⟩
  obtain ⟨cs,hcs,hcl3⟩:=hag
  have hts:List.take 5 cs=cs:=ybc (by omega)
  rw [hcs] at hqx
  simp only [go_sem,iNq,ybb,hg',hcs,hcl3,hts,bD]
  (repeat with_reducible refine Yq ?_)
  refine ⟨_,?_,hqx⟩
  try simp only [aj,go_sem]
  try (repeat with_reducible refine Yq ?_)
  refine ah (fun hq=>?_) (fun hq=>?_)
  ·rw [if_pos hq] at hR
   subst hR
   simp only [go_sem]
   exact Z1
  ·rw [if_neg (by rw [hq];decide)] at hR
   simp only [go_sem,e5]
   refine ⟨k+1,⟨by omega,hR⟩,by omega,nrq _,lRq _,hcl,?_,?_⟩
   ·simp [ltF,znf,hm,hf]
   ·simp [aS,wk2,wk1,wkM,Fr.get]
 ·have hk':k=ts.length:=by simp at hc;omega
  subst hk'
  rw [List.drop_length] at hR
  unfold ixP at hR
  subst hR
  simp only [go_sem]
  exact Z1
def uj:List AV→AHeap→(AV→Prop)→Prop
 |[.slice _ 5 l,.func (.func F) fst caps],H,K=>∃ (ts:List SState) (q:SState→Bool),(l=ts.map aH∧ts.length≤1000000∧∀ x∈ts,ACalls Tryz.prog F (fst++[aH x]++caps) H (.ret (.bool (q x))) H)∧K (.bool (ts.any q))
 |_,_,_=>False
theorem Ex:EntOk Tryz.prog 264 (Ent.pure uj):=by
 refine Ype fun _ H K h=>?_
 unfold uj at h
 split at h
 rotate_left
 ·exact h.elim
 rename_i m l F fst caps
 obtain ⟨ts,q,⟨rfl,hl,hq⟩,hK⟩:=h
 refine ⟨_,hK,?_⟩
 clear hK
 have hR:=@eg _ q ts 0
 generalize ts.any q=R at *
 refine ACalls.fW ak (tCq Hj tNq) Tryz.func264 [.tmp 4] (nrq _) (T:=ag []) (h:=fun hcl hlt=>?_)
 clear hlt
 simp only [go_sem,uw]
 refine ⟨ts,q,⟨rfl,hl,hq⟩,?_⟩
 simp only [aj,go_sem,hR]
 exact Z1
def Al:List AV→AHeap→(AV→Prop)→Prop
 |[x,.ptr c 0],H,K=>∃ (t:SState) (b:Bool) (F:FuncId) (fst caps:List AV),(x=aH t∧H.get c=some (.cells [.func (.func F) fst caps])∧∀ H',H.Le H'→H'.Closed→ACalls Tryz.prog F (fst++[aH t]++caps) H' (.ret (.bool b)) H')∧K (.bool (!b))
 |_,_,_=>False
theorem ok_gLSta:EntOk Tryz.prog 265 (Ent.pure Al):=by
 refine Ype fun _ H K h=>?_
 unfold Al at h
 split at h
 rotate_left
 ·exact h.elim
 rename_i x c
 obtain ⟨t,b,F,fst,caps,⟨rfl,hg,hq⟩,hK⟩:=h
 refine ⟨_,hK,?_⟩
 clear hK
 have hcs:=au hg
 have hl:=glq hg
 have hne:(c=H.nx)=False:=eq_false (by omega)
 obtain ⟨cs,hav,hcl3⟩:∃ cs,aH t=.agg cs∧cs.length=5:=⟨_,rfl,rfl⟩
 have hts:List.take 5 cs=cs:=ybc (by omega)
 rw [hav] at hq
 rw [hav]
 refine ACalls.of_aw (Ω:=[(F,Ent.pure (bD Tryz.prog F))]) (T:=ag []) ak (tCq cy tNq) Tryz.func265 (by kernel_rfl) (by rfl) (rs:=[.tmp 3]) (by rfl) (by kernel_rfl) (by simp only [Tryz.ntmps265,yaz,yba];decide) (nrq _) fun hcl hlt=>?_
 change aw _ _ _ (KI Tryz.prog [(F,Ent.pure (bD Tryz.prog F))] (dh Tryz.prog [.tmp 3] H.nx _ _ (ag [])) []) _ _
 have hlx:=hlt _ (List.mem_cons_self)
 clear hlt
 simp only [go_sem,hcs,hne,hg,hcl3,hts,bD]
 refine ⟨_,?_,hq _ ((lRq _).push _) ?_⟩
 ·try simp only [aj,go_sem]
  exact Z1
 ·have h0:=AV.lt_mono (Nat.le_succ H.nx) _ hlx
  rw [znr] at h0
  exact ae hcl h0
def bq:List AV→AHeap→(AV→Prop)→Prop
 |[.slice _ 5 l,.func (.func F) fst caps],H,K=>∃ (ts:List SState) (q:SState→Bool),(l=ts.map aH∧ts.length≤1000000∧∀ x∈ts,∀ H',H.Le H'→H'.Closed→ACalls Tryz.prog F (fst++[aH x]++caps) H' (.ret (.bool (q x))) H')∧K (.bool (ts.all q))
 |_,_,_=>False
theorem nV:EntOk Tryz.prog 118 (Ent.pure bq):=by
 refine Ype fun _ H K h=>?_
 unfold bq at h
 split at h
 rotate_left
 ·exact h.elim
 rename_i m l F fst caps
 obtain ⟨ts,q,⟨rfl,hl,hq⟩,hK⟩:=h
 refine ⟨_,hK,?_⟩
 clear hK
 have hR:=@fP _ q ts
 generalize ts.all q=R at *
 refine ACalls.fW ak (tCq Ex tNq) Tryz.func118 [.tmp 4] (nrq _) (T:=ag []) (h:=fun hcl hlt=>?_)
 have hfx:=hlt _ (List.mem_cons_of_mem _ List.mem_cons_self)
 clear hlt
 simp only [go_sem,uj]
 refine ⟨ts,fun x=>!q x,⟨rfl,hl,fun x hx=>?_⟩,?_⟩
 ·obtain ⟨v,hv,hc⟩:=ok_gLSta.1 rfl [aH x,.ptr H.nx 0] (H.push (.cells [.func (.func F) fst caps])) (fun v=>v=.bool (!q x)) ⟨x,q x,F,fst,caps,⟨rfl,by simp only [go_sem],fun H' h1 h2=>hq x hx H' (((lRq _).push _).trans h1) h2⟩,rfl⟩
  subst hv
  exact hc
 ·rw [hR]
  try simp only [aj,go_sem]
  exact Z1
def t9:List AV→AHeap→(AV→Prop)→Prop
 |[.slice _ 5 l,.func (.func F) fst caps],H,K=>∃ (ts:List SAction) (q:SAction→Bool),(l=ts.map ap∧ts.length≤1000000∧∀ x∈ts,ACalls Tryz.prog F (fst++[ap x]++caps) H (.ret (.bool (q x))) H)∧K (.int .i64 (ixP q ts 0))
 |_,_,_=>False
theorem G0:EntOk Tryz.prog 72 (Ent.pure t9):=by
 refine Ype fun _ H K h=>?_
 unfold t9 at h
 split at h
 rotate_left
 ·exact h.elim
 rename_i m l F fst caps
 obtain ⟨ts,q,⟨rfl,hl,hq⟩,hK⟩:=h
 refine ⟨_,hK,?_⟩
 clear hK
 generalize hR:ixP q ts 0=R
 refine ACalls.of_aw (Ω:=[(F,Ent.pure (bD Tryz.prog F))]) (T:=ag []) ak (tCq cy tNq) Tryz.func72 (by kernel_rfl) (by rfl) (rs:=[.tmp 4]) (by rfl) (by kernel_rfl) (by simp only [Tryz.ntmps72,yaz,yba];decide) (nrq _) fun hcl hlt=>?_
 change aw _ _ _ (KI Tryz.prog [(F,Ent.pure (bD Tryz.prog F))] (dh Tryz.prog [.tmp 4] H.nx _ _ (ag [])) []) _ _
 have hm:AV.lt H.nx (.slice m 5 (ts.map ap)):=hlt _ (by simp)
 have hf:AV.lt H.nx (.func (.func F) fst caps):=hlt _ (by simp)
 clear hlt
 simp only [go_sem,ybb]
 refine ay (A:=Nat) (fun k=>[(0,.slice m 5 (ts.map ap)),(1,.func (.func F) fst caps),(7,.int .i64 (ts.length:Int)),(8,.int .i64 (k:Int))]) (fun _=>H) (fun k=>k≤ts.length∧ixP q (ts.drop k) k=R) (fun k=>ts.length - k) 0 ⟨by omega,hR⟩ ?_ fun k hk=>?_
 ·refine ⟨nrq _,lRq _,hcl,?_,?_⟩
  ·simp [ltF,znf,hm,hf]
  ·simp [aS,wk2,wk1,wkM,Fr.get]
 clear hR
 obtain ⟨hk,hR⟩:=hk
 simp only [go_sem]
 refine ah (fun hc=>?_) (fun hc=>?_)
 ·have hk':k<ts.length:=by simp at hc;omega
  obtain ⟨x,hx⟩:∃ x,x=ts[k]:=⟨_,rfl⟩
  have hd:ts.drop k=x::ts.drop (k+1):=by rw [hx];exact dcq hk'
  have hg':=aO (f:=ap) (l:=ts) (k:=k) (x:=x) (by rw [gQq hk',hx])
  have e5:=Yk5 k
  rw [hd] at hR
  unfold ixP at hR
  have hqx:=hq x (by rw [hx];exact gMq hk')
  have hag:∃ cs,ap x=.agg cs∧cs.length=5:=⟨_,rfl,rfl⟩
  obtain ⟨cs,hcs,hcl3⟩:=hag
  have hts:List.take 5 cs=cs:=ybc (by omega)
  rw [hcs] at hqx
  simp only [go_sem,iNq,ybb,hg',hcs,hcl3,hts,bD]
  (repeat with_reducible refine Yq ?_)
  refine ⟨_,?_,hqx⟩
  try simp only [aj,go_sem]
  try (repeat with_reducible refine Yq ?_)
  refine ah (fun hq=>?_) (fun hq=>?_)
  ·rw [if_pos hq] at hR
   subst hR
   simp only [go_sem]
   exact Z1
  ·rw [if_neg (by rw [hq];decide)] at hR
   simp only [go_sem,e5]
   refine ⟨k+1,⟨by omega,hR⟩,by omega,nrq _,lRq _,hcl,?_,?_⟩
   ·simp [ltF,znf,hm,hf]
   ·simp [aS,wk2,wk1,wkM,Fr.get]
 ·have hk':k=ts.length:=by simp at hc;omega
  subst hk'
  rw [List.drop_length] at hR
  unfold ixP at hR
  subst hR
  simp only [go_sem]
  exact Z1
def u5:List AV→AHeap→(AV→Prop)→Prop
 |[.slice _ 5 l,.func (.func F) fst caps],H,K=>∃ (ts:List SAction) (q:SAction→Bool),(l=ts.map ap∧ts.length≤1000000∧∀ x∈ts,ACalls Tryz.prog F (fst++[ap x]++caps) H (.ret (.bool (q x))) H)∧K (.bool (ts.any q))
 |_,_,_=>False
theorem DQ:EntOk Tryz.prog 254 (Ent.pure u5):=by
 refine Ype fun _ H K h=>?_
 unfold u5 at h
 split at h
 rotate_left
 ·exact h.elim
 rename_i m l F fst caps
 obtain ⟨ts,q,⟨rfl,hl,hq⟩,hK⟩:=h
 refine ⟨_,hK,?_⟩
 clear hK
 have hR:=@eg _ q ts 0
 generalize ts.any q=R at *
 refine ACalls.fW ak (tCq G0 tNq) Tryz.func254 [.tmp 4] (nrq _) (T:=ag []) (h:=fun hcl hlt=>?_)
 clear hlt
 simp only [go_sem,t9]
 refine ⟨ts,q,⟨rfl,hl,hq⟩,?_⟩
 simp only [aj,go_sem,hR]
 exact Z1
def AA:List AV→AHeap→(AV→Prop)→Prop
 |[x,.ptr c 0],H,K=>∃ (t:SAction) (b:Bool) (F:FuncId) (fst caps:List AV),(x=ap t∧H.get c=some (.cells [.func (.func F) fst caps])∧∀ H',H.Le H'→H'.Closed→ACalls Tryz.prog F (fst++[ap t]++caps) H' (.ret (.bool b)) H')∧K (.bool (!b))
 |_,_,_=>False
theorem ok_gLAct:EntOk Tryz.prog 255 (Ent.pure AA):=by
 refine Ype fun _ H K h=>?_
 unfold AA at h
 split at h
 rotate_left
 ·exact h.elim
 rename_i x c
 obtain ⟨t,b,F,fst,caps,⟨rfl,hg,hq⟩,hK⟩:=h
 refine ⟨_,hK,?_⟩
 clear hK
 have hcs:=au hg
 have hl:=glq hg
 have hne:(c=H.nx)=False:=eq_false (by omega)
 obtain ⟨cs,hav,hcl3⟩:∃ cs,ap t=.agg cs∧cs.length=5:=⟨_,rfl,rfl⟩
 have hts:List.take 5 cs=cs:=ybc (by omega)
 rw [hav] at hq
 rw [hav]
 refine ACalls.of_aw (Ω:=[(F,Ent.pure (bD Tryz.prog F))]) (T:=ag []) ak (tCq cy tNq) Tryz.func255 (by kernel_rfl) (by rfl) (rs:=[.tmp 3]) (by rfl) (by kernel_rfl) (by simp only [Tryz.ntmps255,yaz,yba];decide) (nrq _) fun hcl hlt=>?_
 change aw _ _ _ (KI Tryz.prog [(F,Ent.pure (bD Tryz.prog F))] (dh Tryz.prog [.tmp 3] H.nx _ _ (ag [])) []) _ _
 have hlx:=hlt _ (List.mem_cons_self)
 clear hlt
 simp only [go_sem,hcs,hne,hg,hcl3,hts,bD]
 refine ⟨_,?_,hq _ ((lRq _).push _) ?_⟩
 ·try simp only [aj,go_sem]
  exact Z1
 ·have h0:=AV.lt_mono (Nat.le_succ H.nx) _ hlx
  rw [znr] at h0
  exact ae hcl h0
def bk:List AV→AHeap→(AV→Prop)→Prop
 |[.slice _ 5 l,.func (.func F) fst caps],H,K=>∃ (ts:List SAction) (q:SAction→Bool),(l=ts.map ap∧ts.length≤1000000∧∀ x∈ts,∀ H',H.Le H'→H'.Closed→ACalls Tryz.prog F (fst++[ap x]++caps) H' (.ret (.bool (q x))) H')∧K (.bool (ts.all q))
 |_,_,_=>False
theorem lR:EntOk Tryz.prog 102 (Ent.pure bk):=by
 refine Ype fun _ H K h=>?_
 unfold bk at h
 split at h
 rotate_left
 ·exact h.elim
 rename_i m l F fst caps
 obtain ⟨ts,q,⟨rfl,hl,hq⟩,hK⟩:=h
 refine ⟨_,hK,?_⟩
 clear hK
 have hR:=@fP _ q ts
 generalize ts.all q=R at *
 refine ACalls.fW ak (tCq DQ tNq) Tryz.func102 [.tmp 4] (nrq _) (T:=ag []) (h:=fun hcl hlt=>?_)
 have hfx:=hlt _ (List.mem_cons_of_mem _ List.mem_cons_self)
 clear hlt
 simp only [go_sem,u5]
 refine ⟨ts,fun x=>!q x,⟨rfl,hl,fun x hx=>?_⟩,?_⟩
 ·obtain ⟨v,hv,hc⟩:=ok_gLAct.1 rfl [ap x,.ptr H.nx 0] (H.push (.cells [.func (.func F) fst caps])) (fun v=>v=.bool (!q x)) ⟨x,q x,F,fst,caps,⟨rfl,by simp only [go_sem],fun H' h1 h2=>hq x hx H' (((lRq _).push _).trans h1) h2⟩,rfl⟩
  subst hv
  exact hc
 ·rw [hR]
  try simp only [aj,go_sem]
  exact Z1
def vy:List AV→AHeap→(AV→Prop)→Prop
 |[.slice _ 2 l,.func (.func F) fst caps],H,K=>∃ (ts:List SParam) (q:SParam→Bool),(l=ts.map bb∧ts.length≤1000000∧∀ x∈ts,ACalls Tryz.prog F (fst++[bb x]++caps) H (.ret (.bool (q x))) H)∧K (.int .i64 (ixP q ts 0))
 |_,_,_=>False
theorem EG:EntOk Tryz.prog 330 (Ent.pure vy):=by
 refine Ype fun _ H K h=>?_
 unfold vy at h
 split at h
 rotate_left
 ·exact h.elim
 rename_i m l F fst caps
 obtain ⟨ts,q,⟨rfl,hl,hq⟩,hK⟩:=h
 refine ⟨_,hK,?_⟩
 clear hK
 generalize hR:ixP q ts 0=R
 refine ACalls.of_aw (Ω:=[(F,Ent.pure (bD Tryz.prog F))]) (T:=ag []) ak (tCq cy tNq) Tryz.func330 (by kernel_rfl) (by rfl) (rs:=[.tmp 4]) (by rfl) (by kernel_rfl) (by simp only [Tryz.ntmps330,yaz,yba];decide) (nrq _) fun hcl hlt=>?_
 change aw _ _ _ (KI Tryz.prog [(F,Ent.pure (bD Tryz.prog F))] (dh Tryz.prog [.tmp 4] H.nx _ _ (ag [])) []) _ _
 have hm:AV.lt H.nx (.slice m 2 (ts.map bb)):=hlt _ (by simp)
 have hf:AV.lt H.nx (.func (.func F) fst caps):=hlt _ (by simp)
 clear hlt
 simp only [go_sem,ybb]
 refine ay (A:=Nat) (fun k=>[(0,.slice m 2 (ts.map bb)),(1,.func (.func F) fst caps),(7,.int .i64 (ts.length:Int)),(8,.int .i64 (k:Int))]) (fun _=>H) (fun k=>k≤ts.length∧ixP q (ts.drop k) k=R) (fun k=>ts.length - k) 0 ⟨by omega,hR⟩ ?_ fun k hk=>?_
 ·refine ⟨nrq _,lRq _,hcl,?_,?_⟩
  ·simp [ltF,znf,hm,hf]
  ·simp [aS,wk2,wk1,wkM,Fr.get]
 clear hR
 obtain ⟨hk,hR⟩:=hk
 simp only [go_sem]
 refine ah (fun hc=>?_) (fun hc=>?_)
 ·have hk':k<ts.length:=by simp at hc;omega
  obtain ⟨x,hx⟩:∃ x,x=ts[k]:=⟨_,rfl⟩
  have hd:ts.drop k=x::ts.drop (k+1):=by rw [hx];exact dcq hk'
  have hg':=aO (f:=bb) (l:=ts) (k:=k) (x:=x) (by rw [gQq hk',hx])
  have e5:=Yk5 k
  rw [hd] at hR
  unfold ixP at hR
  have hqx:=hq x (by rw [hx];exact gMq hk')
  have hag:∃ cs,bb x=.agg cs∧cs.length=2:=⟨_,rfl,rfl⟩
  obtain ⟨cs,hcs,hcl3⟩:=hag
  have hts:List.take 2 cs=cs:=ybc (by omega)
  rw [hcs] at hqx
  simp only [go_sem,iNq,ybb,hg',hcs,hcl3,hts,bD]
  (repeat with_reducible refine Yq ?_)
  refine ⟨_,?_,hqx⟩
  try simp only [aj,go_sem]
  try (repeat with_reducible refine Yq ?_)
  refine ah (fun hq=>?_) (fun hq=>?_)
  ·rw [if_pos hq] at hR
   subst hR
   simp only [go_sem]
   exact Z1
  ·rw [if_neg (by rw [hq];decide)] at hR
   simp only [go_sem,e5]
   refine ⟨k+1,⟨by omega,hR⟩,by omega,nrq _,lRq _,hcl,?_,?_⟩
   ·simp [ltF,znf,hm,hf]
   ·simp [aS,wk2,wk1,wkM,Fr.get]
 ·have hk':k=ts.length:=by simp at hc;omega
  subst hk'
  rw [List.drop_length] at hR
  unfold ixP at hR
  subst hR
  simp only [go_sem]
  exact Z1
def uM:List AV→AHeap→(AV→Prop)→Prop
 |[.slice _ 2 l,.func (.func F) fst caps],H,K=>∃ (ts:List SParam) (q:SParam→Bool),(l=ts.map bb∧ts.length≤1000000∧∀ x∈ts,ACalls Tryz.prog F (fst++[bb x]++caps) H (.ret (.bool (q x))) H)∧K (.bool (ts.any q))
 |_,_,_=>False
theorem DK:EntOk Tryz.prog 256 (Ent.pure uM):=by
 refine Ype fun _ H K h=>?_
 unfold uM at h
 split at h
 rotate_left
 ·exact h.elim
 rename_i m l F fst caps
 obtain ⟨ts,q,⟨rfl,hl,hq⟩,hK⟩:=h
 refine ⟨_,hK,?_⟩
 clear hK
 have hR:=@eg _ q ts 0
 generalize ts.any q=R at *
 refine ACalls.fW ak (tCq EG tNq) Tryz.func256 [.tmp 4] (nrq _) (T:=ag []) (h:=fun hcl hlt=>?_)
 clear hlt
 simp only [go_sem,vy]
 refine ⟨ts,q,⟨rfl,hl,hq⟩,?_⟩
 simp only [aj,go_sem,hR]
 exact Z1
def z9:List AV→AHeap→(AV→Prop)→Prop
 |[x,.ptr c 0],H,K=>∃ (t:SParam) (b:Bool) (F:FuncId) (fst caps:List AV),(x=bb t∧H.get c=some (.cells [.func (.func F) fst caps])∧∀ H',H.Le H'→H'.Closed→ACalls Tryz.prog F (fst++[bb t]++caps) H' (.ret (.bool b)) H')∧K (.bool (!b))
 |_,_,_=>False
theorem ok_gLPar:EntOk Tryz.prog 257 (Ent.pure z9):=by
 refine Ype fun _ H K h=>?_
 unfold z9 at h
 split at h
 rotate_left
 ·exact h.elim
 rename_i x c
 obtain ⟨t,b,F,fst,caps,⟨rfl,hg,hq⟩,hK⟩:=h
 refine ⟨_,hK,?_⟩
 clear hK
 have hcs:=au hg
 have hl:=glq hg
 have hne:(c=H.nx)=False:=eq_false (by omega)
 obtain ⟨cs,hav,hcl3⟩:∃ cs,bb t=.agg cs∧cs.length=2:=⟨_,rfl,rfl⟩
 have hts:List.take 2 cs=cs:=ybc (by omega)
 rw [hav] at hq
 rw [hav]
 refine ACalls.of_aw (Ω:=[(F,Ent.pure (bD Tryz.prog F))]) (T:=ag []) ak (tCq cy tNq) Tryz.func257 (by kernel_rfl) (by rfl) (rs:=[.tmp 3]) (by rfl) (by kernel_rfl) (by simp only [Tryz.ntmps257,yaz,yba];decide) (nrq _) fun hcl hlt=>?_
 change aw _ _ _ (KI Tryz.prog [(F,Ent.pure (bD Tryz.prog F))] (dh Tryz.prog [.tmp 3] H.nx _ _ (ag [])) []) _ _
 have hlx:=hlt _ (List.mem_cons_self)
 clear hlt
 simp only [go_sem,hcs,hne,hg,hcl3,hts,bD]
 refine ⟨_,?_,hq _ ((lRq _).push _) ?_⟩
 ·try simp only [aj,go_sem]
  exact Z1
 ·have h0:=AV.lt_mono (Nat.le_succ H.nx) _ hlx
  rw [znr] at h0
  exact ae hcl h0
def jP:List AV→AHeap→(AV→Prop)→Prop
 |[.slice _ 2 l,.func (.func F) fst caps],H,K=>∃ (ts:List SParam) (q:SParam→Bool),(l=ts.map bb∧ts.length≤1000000∧∀ x∈ts,∀ H',H.Le H'→H'.Closed→ACalls Tryz.prog F (fst++[bb x]++caps) H' (.ret (.bool (q x))) H')∧K (.bool (ts.all q))
 |_,_,_=>False
theorem xr:EntOk Tryz.prog 104 (Ent.pure jP):=by
 refine Ype fun _ H K h=>?_
 unfold jP at h
 split at h
 rotate_left
 ·exact h.elim
 rename_i m l F fst caps
 obtain ⟨ts,q,⟨rfl,hl,hq⟩,hK⟩:=h
 refine ⟨_,hK,?_⟩
 clear hK
 have hR:=@fP _ q ts
 generalize ts.all q=R at *
 refine ACalls.fW ak (tCq DK tNq) Tryz.func104 [.tmp 4] (nrq _) (T:=ag []) (h:=fun hcl hlt=>?_)
 have hfx:=hlt _ (List.mem_cons_of_mem _ List.mem_cons_self)
 clear hlt
 simp only [go_sem,uM]
 refine ⟨ts,fun x=>!q x,⟨rfl,hl,fun x hx=>?_⟩,?_⟩
 ·obtain ⟨v,hv,hc⟩:=ok_gLPar.1 rfl [bb x,.ptr H.nx 0] (H.push (.cells [.func (.func F) fst caps])) (fun v=>v=.bool (!q x)) ⟨x,q x,F,fst,caps,⟨rfl,by simp only [go_sem],fun H' h1 h2=>hq x hx H' (((lRq _).push _).trans h1) h2⟩,rfl⟩
  subst hv
  exact hc
 ·rw [hR]
  try simp only [aj,go_sem]
  exact Z1
def tG:List AV→AHeap→(AV→Prop)→Prop
 |[.slice _ 8 l,.func (.func F) fst caps],H,K=>∃ (ts:List STable) (q:STable→Bool),(l=ts.map aq∧ts.length≤1000000∧∀ x∈ts,ACalls Tryz.prog F (fst++[aq x]++caps) H (.ret (.bool (q x))) H)∧K (.int .i64 (ixP q ts 0))
 |_,_,_=>False
theorem EY:EntOk Tryz.prog 62 (Ent.pure tG):=by
 refine Ype fun _ H K h=>?_
 unfold tG at h
 split at h
 rotate_left
 ·exact h.elim
 rename_i m l F fst caps
 obtain ⟨ts,q,⟨rfl,hl,hq⟩,hK⟩:=h
 refine ⟨_,hK,?_⟩
 clear hK
 generalize hR:ixP q ts 0=R
 refine ACalls.of_aw (Ω:=[(F,Ent.pure (bD Tryz.prog F))]) (T:=ag []) ak (tCq cy tNq) Tryz.func62 (by kernel_rfl) (by rfl) (rs:=[.tmp 4]) (by rfl) (by kernel_rfl) (by simp only [Tryz.ntmps62,yaz,yba];decide) (nrq _) fun hcl hlt=>?_
 change aw _ _ _ (KI Tryz.prog [(F,Ent.pure (bD Tryz.prog F))] (dh Tryz.prog [.tmp 4] H.nx _ _ (ag [])) []) _ _
 have hm:AV.lt H.nx (.slice m 8 (ts.map aq)):=hlt _ (by simp)
 have hf:AV.lt H.nx (.func (.func F) fst caps):=hlt _ (by simp)
 clear hlt
 simp only [go_sem,ybb]
 refine ay (A:=Nat) (fun k=>[(0,.slice m 8 (ts.map aq)),(1,.func (.func F) fst caps),(7,.int .i64 (ts.length:Int)),(8,.int .i64 (k:Int))]) (fun _=>H) (fun k=>k≤ts.length∧ixP q (ts.drop k) k=R) (fun k=>ts.length - k) 0 ⟨by omega,hR⟩ ?_ fun k hk=>?_
 ·refine ⟨nrq _,lRq _,hcl,?_,?_⟩
  ·simp [ltF,znf,hm,hf]
  ·simp [aS,wk2,wk1,wkM,Fr.get]
 clear hR
 obtain ⟨hk,hR⟩:=hk
 simp only [go_sem]
 refine ah (fun hc=>?_) (fun hc=>?_)
 ·have hk':k<ts.length:=by simp at hc;omega
  obtain ⟨x,hx⟩:∃ x,x=ts[k]:=⟨_,rfl⟩
  have hd:ts.drop k=x::ts.drop (k+1):=by rw [hx];exact dcq hk'
  have hg':=aO (f:=aq) (l:=ts) (k:=k) (x:=x) (by rw [gQq hk',hx])
  have e5:=Yk5 k
  rw [hd] at hR
  unfold ixP at hR
  have hqx:=hq x (by rw [hx];exact gMq hk')
  have hag:∃ cs,aq x=.agg cs∧cs.length=8:=⟨_,rfl,rfl⟩
  obtain ⟨cs,hcs,hcl3⟩:=hag
  have hts:List.take 8 cs=cs:=ybc (by omega)
  rw [hcs] at hqx
  simp only [go_sem,iNq,ybb,hg',hcs,hcl3,hts,bD]
  (repeat with_reducible refine Yq ?_)
  refine ⟨_,?_,hqx⟩
  try simp only [aj,go_sem]
  try (repeat with_reducible refine Yq ?_)
  refine ah (fun hq=>?_) (fun hq=>?_)
  ·rw [if_pos hq] at hR
   subst hR
   simp only [go_sem]
   exact Z1
  ·rw [if_neg (by rw [hq];decide)] at hR
   simp only [go_sem,e5]
   refine ⟨k+1,⟨by omega,hR⟩,by omega,nrq _,lRq _,hcl,?_,?_⟩
   ·simp [ltF,znf,hm,hf]
   ·simp [aS,wk2,wk1,wkM,Fr.get]
 ·have hk':k=ts.length:=by simp at hc;omega
  subst hk'
  rw [List.drop_length] at hR
  unfold ixP at hR
  subst hR
  simp only [go_sem]
  exact Z1
def tP:List AV→AHeap→(AV→Prop)→Prop
 |[.slice _ 8 l,.func (.func F) fst caps],H,K=>∃ (ts:List STable) (q:STable→Bool),(l=ts.map aq∧ts.length≤1000000∧∀ x∈ts,ACalls Tryz.prog F (fst++[aq x]++caps) H (.ret (.bool (q x))) H)∧K (.bool (ts.any q))
 |_,_,_=>False
theorem D3:EntOk Tryz.prog 258 (Ent.pure tP):=by
 refine Ype fun _ H K h=>?_
 unfold tP at h
 split at h
 rotate_left
 ·exact h.elim
 rename_i m l F fst caps
 obtain ⟨ts,q,⟨rfl,hl,hq⟩,hK⟩:=h
 refine ⟨_,hK,?_⟩
 clear hK
 have hR:=@eg _ q ts 0
 generalize ts.any q=R at *
 refine ACalls.fW ak (tCq EY tNq) Tryz.func258 [.tmp 4] (nrq _) (T:=ag []) (h:=fun hcl hlt=>?_)
 clear hlt
 simp only [go_sem,tG]
 refine ⟨ts,q,⟨rfl,hl,hq⟩,?_⟩
 simp only [aj,go_sem,hR]
 exact Z1
def Ac:List AV→AHeap→(AV→Prop)→Prop
 |[x,.ptr c 0],H,K=>∃ (t:STable) (b:Bool) (F:FuncId) (fst caps:List AV),(x=aq t∧H.get c=some (.cells [.func (.func F) fst caps])∧∀ H',H.Le H'→H'.Closed→ACalls Tryz.prog F (fst++[aq t]++caps) H' (.ret (.bool b)) H')∧K (.bool (!b))
 |_,_,_=>False
theorem ok_gLTab:EntOk Tryz.prog 259 (Ent.pure Ac):=by
 refine Ype fun _ H K h=>?_
 unfold Ac at h
 split at h
 rotate_left
 ·exact h.elim
 rename_i x c
 obtain ⟨t,b,F,fst,caps,⟨rfl,hg,hq⟩,hK⟩:=h
 refine ⟨_,hK,?_⟩
 clear hK
 have hcs:=au hg
 have hl:=glq hg
 have hne:(c=H.nx)=False:=eq_false (by omega)
 obtain ⟨cs,hav,hcl3⟩:∃ cs,aq t=.agg cs∧cs.length=8:=⟨_,rfl,rfl⟩
 have hts:List.take 8 cs=cs:=ybc (by omega)
 rw [hav] at hq
 rw [hav]
 refine ACalls.of_aw (Ω:=[(F,Ent.pure (bD Tryz.prog F))]) (T:=ag []) ak (tCq cy tNq) Tryz.func259 (by kernel_rfl) (by rfl) (rs:=[.tmp 3]) (by rfl) (by kernel_rfl) (by simp only [Tryz.ntmps259,yaz,yba];decide) (nrq _) fun hcl hlt=>?_
 change aw _ _ _ (KI Tryz.prog [(F,Ent.pure (bD Tryz.prog F))] (dh Tryz.prog [.tmp 3] H.nx _ _ (ag [])) []) _ _
 have hlx:=hlt _ (List.mem_cons_self)
 clear hlt
 simp only [go_sem,hcs,hne,hg,hcl3,hts,bD]
 refine ⟨_,?_,hq _ ((lRq _).push _) ?_⟩
 ·try simp only [aj,go_sem]
  exact Z1
 ·have h0:=AV.lt_mono (Nat.le_succ H.nx) _ hlx
  rw [znr] at h0
  exact ae hcl h0
def bm:List AV→AHeap→(AV→Prop)→Prop
 |[.slice _ 8 l,.func (.func F) fst caps],H,K=>∃ (ts:List STable) (q:STable→Bool),(l=ts.map aq∧ts.length≤1000000∧∀ x∈ts,∀ H',H.Le H'→H'.Closed→ACalls Tryz.prog F (fst++[aq x]++caps) H' (.ret (.bool (q x))) H')∧K (.bool (ts.all q))
 |_,_,_=>False
theorem ky:EntOk Tryz.prog 107 (Ent.pure bm):=by
 refine Ype fun _ H K h=>?_
 unfold bm at h
 split at h
 rotate_left
 ·exact h.elim
 rename_i m l F fst caps
 obtain ⟨ts,q,⟨rfl,hl,hq⟩,hK⟩:=h
 refine ⟨_,hK,?_⟩
 clear hK
 have hR:=@fP _ q ts
 generalize ts.all q=R at *
 refine ACalls.fW ak (tCq D3 tNq) Tryz.func107 [.tmp 4] (nrq _) (T:=ag []) (h:=fun hcl hlt=>?_)
 have hfx:=hlt _ (List.mem_cons_of_mem _ List.mem_cons_self)
 clear hlt
 simp only [go_sem,tP]
 refine ⟨ts,fun x=>!q x,⟨rfl,hl,fun x hx=>?_⟩,?_⟩
 ·obtain ⟨v,hv,hc⟩:=ok_gLTab.1 rfl [aq x,.ptr H.nx 0] (H.push (.cells [.func (.func F) fst caps])) (fun v=>v=.bool (!q x)) ⟨x,q x,F,fst,caps,⟨rfl,by simp only [go_sem],fun H' h1 h2=>hq x hx H' (((lRq _).push _).trans h1) h2⟩,rfl⟩
  subst hv
  exact hc
 ·rw [hR]
  try simp only [aj,go_sem]
  exact Z1
def vp:List AV→AHeap→(AV→Prop)→Prop
 |[.slice _ 3 l,.func (.func F) fst caps],H,K=>∃ (ts:List SKey) (q:SKey→Bool),(l=ts.map br∧ts.length≤1000000∧∀ x∈ts,ACalls Tryz.prog F (fst++[br x]++caps) H (.ret (.bool (q x))) H)∧K (.int .i64 (ixP q ts 0))
 |_,_,_=>False
theorem G9:EntOk Tryz.prog 331 (Ent.pure vp):=by
 refine Ype fun _ H K h=>?_
 unfold vp at h
 split at h
 rotate_left
 ·exact h.elim
 rename_i m l F fst caps
 obtain ⟨ts,q,⟨rfl,hl,hq⟩,hK⟩:=h
 refine ⟨_,hK,?_⟩
 clear hK
 generalize hR:ixP q ts 0=R
 refine ACalls.of_aw (Ω:=[(F,Ent.pure (bD Tryz.prog F))]) (T:=ag []) ak (tCq cy tNq) Tryz.func331 (by kernel_rfl) (by rfl) (rs:=[.tmp 4]) (by rfl) (by kernel_rfl) (by simp only [Tryz.ntmps331,yaz,yba];decide) (nrq _) fun hcl hlt=>?_
 change aw _ _ _ (KI Tryz.prog [(F,Ent.pure (bD Tryz.prog F))] (dh Tryz.prog [.tmp 4] H.nx _ _ (ag [])) []) _ _
 have hm:AV.lt H.nx (.slice m 3 (ts.map br)):=hlt _ (by simp)
 have hf:AV.lt H.nx (.func (.func F) fst caps):=hlt _ (by simp)
 clear hlt
 simp only [go_sem,ybb]
 refine ay (A:=Nat) (fun k=>[(0,.slice m 3 (ts.map br)),(1,.func (.func F) fst caps),(7,.int .i64 (ts.length:Int)),(8,.int .i64 (k:Int))]) (fun _=>H) (fun k=>k≤ts.length∧ixP q (ts.drop k) k=R) (fun k=>ts.length - k) 0 ⟨by omega,hR⟩ ?_ fun k hk=>?_
 ·refine ⟨nrq _,lRq _,hcl,?_,?_⟩
  ·simp [ltF,znf,hm,hf]
  ·simp [aS,wk2,wk1,wkM,Fr.get]
 clear hR
 obtain ⟨hk,hR⟩:=hk
 simp only [go_sem]
 refine ah (fun hc=>?_) (fun hc=>?_)
 ·have hk':k<ts.length:=by simp at hc;omega
  obtain ⟨x,hx⟩:∃ x,x=ts[k]:=⟨_,rfl⟩
  have hd:ts.drop k=x::ts.drop (k+1):=by rw [hx];exact dcq hk'
  have hg':=aO (f:=br) (l:=ts) (k:=k) (x:=x) (by rw [gQq hk',hx])
  have e5:=Yk5 k
  rw [hd] at hR
  unfold ixP at hR
  have hqx:=hq x (by rw [hx];exact gMq hk')
  have hag:∃ cs,br x=.agg cs∧cs.length=3:=⟨_,rfl,rfl⟩
  obtain ⟨cs,hcs,hcl3⟩:=hag
  have hts:List.take 3 cs=cs:=ybc (by omega)
  rw [hcs] at hqx
  simp only [go_sem,iNq,ybb,hg',hcs,hcl3,hts,bD]
  (repeat with_reducible refine Yq ?_)
  refine ⟨_,?_,hqx⟩
  try simp only [aj,go_sem]
  try (repeat with_reducible refine Yq ?_)
  refine ah (fun hq=>?_) (fun hq=>?_)
  ·rw [if_pos hq] at hR
   subst hR
   simp only [go_sem]
   exact Z1
  ·rw [if_neg (by rw [hq];decide)] at hR
   simp only [go_sem,e5]
   refine ⟨k+1,⟨by omega,hR⟩,by omega,nrq _,lRq _,hcl,?_,?_⟩
   ·simp [ltF,znf,hm,hf]
   ·simp [aS,wk2,wk1,wkM,Fr.get]
 ·have hk':k=ts.length:=by simp at hc;omega
  subst hk'
  rw [List.drop_length] at hR
  unfold ixP at hR
  subst hR
  simp only [go_sem]
  exact Z1
def tE:List AV→AHeap→(AV→Prop)→Prop
 |[.slice _ 3 l,.func (.func F) fst caps],H,K=>∃ (ts:List SKey) (q:SKey→Bool),(l=ts.map br∧ts.length≤1000000∧∀ x∈ts,ACalls Tryz.prog F (fst++[br x]++caps) H (.ret (.bool (q x))) H)∧K (.bool (ts.any q))
 |_,_,_=>False
theorem Hf:EntOk Tryz.prog 260 (Ent.pure tE):=by
 refine Ype fun _ H K h=>?_
 unfold tE at h
 split at h
 rotate_left
 ·exact h.elim
 rename_i m l F fst caps
 obtain ⟨ts,q,⟨rfl,hl,hq⟩,hK⟩:=h
 refine ⟨_,hK,?_⟩
 clear hK
 have hR:=@eg _ q ts 0
 generalize ts.any q=R at *
 refine ACalls.fW ak (tCq G9 tNq) Tryz.func260 [.tmp 4] (nrq _) (T:=ag []) (h:=fun hcl hlt=>?_)
 clear hlt
 simp only [go_sem,vp]
 refine ⟨ts,q,⟨rfl,hl,hq⟩,?_⟩
 simp only [aj,go_sem,hR]
 exact Z1
def zY:List AV→AHeap→(AV→Prop)→Prop
 |[x,.ptr c 0],H,K=>∃ (t:SKey) (b:Bool) (F:FuncId) (fst caps:List AV),(x=br t∧H.get c=some (.cells [.func (.func F) fst caps])∧∀ H',H.Le H'→H'.Closed→ACalls Tryz.prog F (fst++[br t]++caps) H' (.ret (.bool b)) H')∧K (.bool (!b))
 |_,_,_=>False
theorem ok_gLKey:EntOk Tryz.prog 261 (Ent.pure zY):=by
 refine Ype fun _ H K h=>?_
 unfold zY at h
 split at h
 rotate_left
 ·exact h.elim
 rename_i x c
 obtain ⟨t,b,F,fst,caps,⟨rfl,hg,hq⟩,hK⟩:=h
 refine ⟨_,hK,?_⟩
 clear hK
 have hcs:=au hg
 have hl:=glq hg
 have hne:(c=H.nx)=False:=eq_false (by omega)
 obtain ⟨cs,hav,hcl3⟩:∃ cs,br t=.agg cs∧cs.length=3:=⟨_,rfl,rfl⟩
 have hts:List.take 3 cs=cs:=ybc (by omega)
 rw [hav] at hq
 rw [hav]
 refine ACalls.of_aw (Ω:=[(F,Ent.pure (bD Tryz.prog F))]) (T:=ag []) ak (tCq cy tNq) Tryz.func261 (by kernel_rfl) (by rfl) (rs:=[.tmp 3]) (by rfl) (by kernel_rfl) (by simp only [Tryz.ntmps261,yaz,yba];decide) (nrq _) fun hcl hlt=>?_
 change aw _ _ _ (KI Tryz.prog [(F,Ent.pure (bD Tryz.prog F))] (dh Tryz.prog [.tmp 3] H.nx _ _ (ag [])) []) _ _
 have hlx:=hlt _ (List.mem_cons_self)
 clear hlt
 simp only [go_sem,hcs,hne,hg,hcl3,hts,bD]
 refine ⟨_,?_,hq _ ((lRq _).push _) ?_⟩
 ·try simp only [aj,go_sem]
  exact Z1
 ·have h0:=AV.lt_mono (Nat.le_succ H.nx) _ hlx
  rw [znr] at h0
  exact ae hcl h0
def gJ:List AV→AHeap→(AV→Prop)→Prop
 |[.slice _ 3 l,.func (.func F) fst caps],H,K=>∃ (ts:List SKey) (q:SKey→Bool),(l=ts.map br∧ts.length≤1000000∧∀ x∈ts,∀ H',H.Le H'→H'.Closed→ACalls Tryz.prog F (fst++[br x]++caps) H' (.ret (.bool (q x))) H')∧K (.bool (ts.all q))
 |_,_,_=>False
theorem wV:EntOk Tryz.prog 109 (Ent.pure gJ):=by
 refine Ype fun _ H K h=>?_
 unfold gJ at h
 split at h
 rotate_left
 ·exact h.elim
 rename_i m l F fst caps
 obtain ⟨ts,q,⟨rfl,hl,hq⟩,hK⟩:=h
 refine ⟨_,hK,?_⟩
 clear hK
 have hR:=@fP _ q ts
 generalize ts.all q=R at *
 refine ACalls.fW ak (tCq Hf tNq) Tryz.func109 [.tmp 4] (nrq _) (T:=ag []) (h:=fun hcl hlt=>?_)
 have hfx:=hlt _ (List.mem_cons_of_mem _ List.mem_cons_self)
 clear hlt
 simp only [go_sem,tE]
 refine ⟨ts,fun x=>!q x,⟨rfl,hl,fun x hx=>?_⟩,?_⟩
 ·obtain ⟨v,hv,hc⟩:=ok_gLKey.1 rfl [br x,.ptr H.nx 0] (H.push (.cells [.func (.func F) fst caps])) (fun v=>v=.bool (!q x)) ⟨x,q x,F,fst,caps,⟨rfl,by simp only [go_sem],fun H' h1 h2=>hq x hx H' (((lRq _).push _).trans h1) h2⟩,rfl⟩
  subst hv
  exact hc
 ·rw [hR]
  try simp only [aj,go_sem]
  exact Z1
def uO:List AV→AHeap→(AV→Prop)→Prop
 |[.slice _ 6 l,.func (.func F) fst caps],H,K=>∃ (ts:List SRole) (q:SRole→Bool),(l=ts.map aN∧ts.length≤1000000∧∀ x∈ts,ACalls Tryz.prog F (fst++[aN x]++caps) H (.ret (.bool (q x))) H)∧K (.int .i64 (ixP q ts 0))
 |_,_,_=>False
theorem Eq:EntOk Tryz.prog 74 (Ent.pure uO):=by
 refine Ype fun _ H K h=>?_
 unfold uO at h
 split at h
 rotate_left
 ·exact h.elim
 rename_i m l F fst caps
 obtain ⟨ts,q,⟨rfl,hl,hq⟩,hK⟩:=h
 refine ⟨_,hK,?_⟩
 clear hK
 generalize hR:ixP q ts 0=R
 refine ACalls.of_aw (Ω:=[(F,Ent.pure (bD Tryz.prog F))]) (T:=ag []) ak (tCq cy tNq) Tryz.func74 (by kernel_rfl) (by rfl) (rs:=[.tmp 4]) (by rfl) (by kernel_rfl) (by simp only [Tryz.ntmps74,yaz,yba];decide) (nrq _) fun hcl hlt=>?_
 change aw _ _ _ (KI Tryz.prog [(F,Ent.pure (bD Tryz.prog F))] (dh Tryz.prog [.tmp 4] H.nx _ _ (ag [])) []) _ _
 have hm:AV.lt H.nx (.slice m 6 (ts.map aN)):=hlt _ (by simp)
 have hf:AV.lt H.nx (.func (.func F) fst caps):=hlt _ (by simp)
 clear hlt
 simp only [go_sem,ybb]
 refine ay (A:=Nat) (fun k=>[(0,.slice m 6 (ts.map aN)),(1,.func (.func F) fst caps),(7,.int .i64 (ts.length:Int)),(8,.int .i64 (k:Int))]) (fun _=>H) (fun k=>k≤ts.length∧ixP q (ts.drop k) k=R) (fun k=>ts.length - k) 0 ⟨by omega,hR⟩ ?_ fun k hk=>?_
 ·refine ⟨nrq _,lRq _,hcl,?_,?_⟩
  ·simp [ltF,znf,hm,hf]
  ·simp [aS,wk2,wk1,wkM,Fr.get]
 clear hR
 obtain ⟨hk,hR⟩:=hk
 simp only [go_sem]
 refine ah (fun hc=>?_) (fun hc=>?_)
 ·have hk':k<ts.length:=by simp at hc;omega
  obtain ⟨x,hx⟩:∃ x,x=ts[k]:=⟨_,rfl⟩
  have hd:ts.drop k=x::ts.drop (k+1):=by rw [hx];exact dcq hk'
  have hg':=aO (f:=aN) (l:=ts) (k:=k) (x:=x) (by rw [gQq hk',hx])
  have e5:=Yk5 k
  rw [hd] at hR
  unfold ixP at hR
  have hqx:=hq x (by rw [hx];exact gMq hk')
  have hag:∃ cs,aN x=.agg cs∧cs.length=6:=⟨_,rfl,rfl⟩
  obtain ⟨cs,hcs,hcl3⟩:=hag
  have hts:List.take 6 cs=cs:=ybc (by omega)
  rw [hcs] at hqx
  simp only [go_sem,iNq,ybb,hg',hcs,hcl3,hts,bD]
  (repeat with_reducible refine Yq ?_)
  refine ⟨_,?_,hqx⟩
  try simp only [aj,go_sem]
  try (repeat with_reducible refine Yq ?_)
  refine ah (fun hq=>?_) (fun hq=>?_)
  ·rw [if_pos hq] at hR
   subst hR
   simp only [go_sem]
   exact Z1
  ·rw [if_neg (by rw [hq];decide)] at hR
   simp only [go_sem,e5]
   refine ⟨k+1,⟨by omega,hR⟩,by omega,nrq _,lRq _,hcl,?_,?_⟩
   ·simp [ltF,znf,hm,hf]
   ·simp [aS,wk2,wk1,wkM,Fr.get]
 ·have hk':k=ts.length:=by simp at hc;omega
  subst hk'
  rw [List.drop_length] at hR
  unfold ixP at hR
  subst hR
  simp only [go_sem]
  exact Z1
def tJ:List AV→AHeap→(AV→Prop)→Prop
 |[.slice _ 6 l,.func (.func F) fst caps],H,K=>∃ (ts:List SRole) (q:SRole→Bool),(l=ts.map aN∧ts.length≤1000000∧∀ x∈ts,ACalls Tryz.prog F (fst++[aN x]++caps) H (.ret (.bool (q x))) H)∧K (.bool (ts.any q))
 |_,_,_=>False
theorem Fj:EntOk Tryz.prog 262 (Ent.pure tJ):=by
 refine Ype fun _ H K h=>?_
 unfold tJ at h
 split at h
 rotate_left
 ·exact h.elim
 rename_i m l F fst caps
 obtain ⟨ts,q,⟨rfl,hl,hq⟩,hK⟩:=h
 refine ⟨_,hK,?_⟩
 clear hK
 have hR:=@eg _ q ts 0
 generalize ts.any q=R at *
 refine ACalls.fW ak (tCq Eq tNq) Tryz.func262 [.tmp 4] (nrq _) (T:=ag []) (h:=fun hcl hlt=>?_)
 clear hlt
 simp only [go_sem,uO]
 refine ⟨ts,q,⟨rfl,hl,hq⟩,?_⟩
 simp only [aj,go_sem,hR]
 exact Z1
def AH:List AV→AHeap→(AV→Prop)→Prop
 |[x,.ptr c 0],H,K=>∃ (t:SRole) (b:Bool) (F:FuncId) (fst caps:List AV),(x=aN t∧H.get c=some (.cells [.func (.func F) fst caps])∧∀ H',H.Le H'→H'.Closed→ACalls Tryz.prog F (fst++[aN t]++caps) H' (.ret (.bool b)) H')∧K (.bool (!b))
 |_,_,_=>False
theorem ok_gLRol:EntOk Tryz.prog 263 (Ent.pure AH):=by
 refine Ype fun _ H K h=>?_
 unfold AH at h
 split at h
 rotate_left
 ·exact h.elim
 rename_i x c
 obtain ⟨t,b,F,fst,caps,⟨rfl,hg,hq⟩,hK⟩:=h
 refine ⟨_,hK,?_⟩
 clear hK
 have hcs:=au hg
 have hl:=glq hg
 have hne:(c=H.nx)=False:=eq_false (by omega)
 obtain ⟨cs,hav,hcl3⟩:∃ cs,aN t=.agg cs∧cs.length=6:=⟨_,rfl,rfl⟩
 have hts:List.take 6 cs=cs:=ybc (by omega)
 rw [hav] at hq
 rw [hav]
 refine ACalls.of_aw (Ω:=[(F,Ent.pure (bD Tryz.prog F))]) (T:=ag []) ak (tCq cy tNq) Tryz.func263 (by kernel_rfl) (by rfl) (rs:=[.tmp 3]) (by rfl) (by kernel_rfl) (by simp only [Tryz.ntmps263,yaz,yba];decide) (nrq _) fun hcl hlt=>?_
 change aw _ _ _ (KI Tryz.prog [(F,Ent.pure (bD Tryz.prog F))] (dh Tryz.prog [.tmp 3] H.nx _ _ (ag [])) []) _ _
 have hlx:=hlt _ (List.mem_cons_self)
 clear hlt
 simp only [go_sem,hcs,hne,hg,hcl3,hts,bD]
 refine ⟨_,?_,hq _ ((lRq _).push _) ?_⟩
 ·try simp only [aj,go_sem]
  exact Z1
 ·have h0:=AV.lt_mono (Nat.le_succ H.nx) _ hlx
  rw [znr] at h0
  exact ae hcl h0
def bC:List AV→AHeap→(AV→Prop)→Prop
 |[.slice _ 6 l,.func (.func F) fst caps],H,K=>∃ (ts:List SRole) (q:SRole→Bool),(l=ts.map aN∧ts.length≤1000000∧∀ x∈ts,∀ H',H.Le H'→H'.Closed→ACalls Tryz.prog F (fst++[aN x]++caps) H' (.ret (.bool (q x))) H')∧K (.bool (ts.all q))
 |_,_,_=>False
theorem ly:EntOk Tryz.prog 111 (Ent.pure bC):=by
 refine Ype fun _ H K h=>?_
 unfold bC at h
 split at h
 rotate_left
 ·exact h.elim
 rename_i m l F fst caps
 obtain ⟨ts,q,⟨rfl,hl,hq⟩,hK⟩:=h
 refine ⟨_,hK,?_⟩
 clear hK
 have hR:=@fP _ q ts
 generalize ts.all q=R at *
 refine ACalls.fW ak (tCq Fj tNq) Tryz.func111 [.tmp 4] (nrq _) (T:=ag []) (h:=fun hcl hlt=>?_)
 have hfx:=hlt _ (List.mem_cons_of_mem _ List.mem_cons_self)
 clear hlt
 simp only [go_sem,tJ]
 refine ⟨ts,fun x=>!q x,⟨rfl,hl,fun x hx=>?_⟩,?_⟩
 ·obtain ⟨v,hv,hc⟩:=ok_gLRol.1 rfl [aN x,.ptr H.nx 0] (H.push (.cells [.func (.func F) fst caps])) (fun v=>v=.bool (!q x)) ⟨x,q x,F,fst,caps,⟨rfl,by simp only [go_sem],fun H' h1 h2=>hq x hx H' (((lRq _).push _).trans h1) h2⟩,rfl⟩
  subst hv
  exact hc
 ·rw [hR]
  try simp only [aj,go_sem]
  exact Z1
def vr:List AV→AHeap→(AV→Prop)→Prop
 |[.slice _ 6 l,.func (.func F) fst caps],H,K=>∃ (ts:List SPrim) (q:SPrim→Bool),(l=ts.map bv∧ts.length≤1000000∧∀ x∈ts,ACalls Tryz.prog F (fst++[bv x]++caps) H (.ret (.bool (q x))) H)∧K (.int .i64 (ixP q ts 0))
 |_,_,_=>False
theorem Gd:EntOk Tryz.prog 332 (Ent.pure vr):=by
 refine Ype fun _ H K h=>?_
 unfold vr at h
 split at h
 rotate_left
 ·exact h.elim
 rename_i m l F fst caps
 obtain ⟨ts,q,⟨rfl,hl,hq⟩,hK⟩:=h
 refine ⟨_,hK,?_⟩
 clear hK
 generalize hR:ixP q ts 0=R
 refine ACalls.of_aw (Ω:=[(F,Ent.pure (bD Tryz.prog F))]) (T:=ag []) ak (tCq cy tNq) Tryz.func332 (by kernel_rfl) (by rfl) (rs:=[.tmp 4]) (by rfl) (by kernel_rfl) (by simp only [Tryz.ntmps332,yaz,yba];decide) (nrq _) fun hcl hlt=>?_
 change aw _ _ _ (KI Tryz.prog [(F,Ent.pure (bD Tryz.prog F))] (dh Tryz.prog [.tmp 4] H.nx _ _ (ag [])) []) _ _
 have hm:AV.lt H.nx (.slice m 6 (ts.map bv)):=hlt _ (by simp)
 have hf:AV.lt H.nx (.func (.func F) fst caps):=hlt _ (by simp)
 clear hlt
 simp only [go_sem,ybb]
 refine ay (A:=Nat) (fun k=>[(0,.slice m 6 (ts.map bv)),(1,.func (.func F) fst caps),(7,.int .i64 (ts.length:Int)),(8,.int .i64 (k:Int))]) (fun _=>H) (fun k=>k≤ts.length∧ixP q (ts.drop k) k=R) (fun k=>ts.length - k) 0 ⟨by omega,hR⟩ ?_ fun k hk=>?_
 ·refine ⟨nrq _,lRq _,hcl,?_,?_⟩
  ·simp [ltF,znf,hm,hf]
  ·simp [aS,wk2,wk1,wkM,Fr.get]
 clear hR
 obtain ⟨hk,hR⟩:=hk
 simp only [go_sem]
 refine ah (fun hc=>?_) (fun hc=>?_)
 ·have hk':k<ts.length:=by simp at hc;omega
  obtain ⟨x,hx⟩:∃ x,x=ts[k]:=⟨_,rfl⟩
  have hd:ts.drop k=x::ts.drop (k+1):=by rw [hx];exact dcq hk'
  have hg':=aO (f:=bv) (l:=ts) (k:=k) (x:=x) (by rw [gQq hk',hx])
  have e5:=Yk5 k
  rw [hd] at hR
  unfold ixP at hR
  have hqx:=hq x (by rw [hx];exact gMq hk')
  have hag:∃ cs,bv x=.agg cs∧cs.length=6:=⟨_,rfl,rfl⟩
  obtain ⟨cs,hcs,hcl3⟩:=hag
  have hts:List.take 6 cs=cs:=ybc (by omega)
  rw [hcs] at hqx
  simp only [go_sem,iNq,ybb,hg',hcs,hcl3,hts,bD]
  (repeat with_reducible refine Yq ?_)
  refine ⟨_,?_,hqx⟩
  try simp only [aj,go_sem]
  try (repeat with_reducible refine Yq ?_)
  refine ah (fun hq=>?_) (fun hq=>?_)
  ·rw [if_pos hq] at hR
   subst hR
   simp only [go_sem]
   exact Z1
  ·rw [if_neg (by rw [hq];decide)] at hR
   simp only [go_sem,e5]
   refine ⟨k+1,⟨by omega,hR⟩,by omega,nrq _,lRq _,hcl,?_,?_⟩
   ·simp [ltF,znf,hm,hf]
   ·simp [aS,wk2,wk1,wkM,Fr.get]
 ·have hk':k=ts.length:=by simp at hc;omega
  subst hk'
  rw [List.drop_length] at hR
  unfold ixP at hR
  subst hR
  simp only [go_sem]
  exact Z1
def vt:List AV→AHeap→(AV→Prop)→Prop
 |[.slice _ 6 l,.func (.func F) fst caps],H,K=>∃ (ts:List SPrim) (q:SPrim→Bool),(l=ts.map bv∧ts.length≤1000000∧∀ x∈ts,ACalls Tryz.prog F (fst++[bv x]++caps) H (.ret (.bool (q x))) H)∧K (.bool (ts.any q))
 |_,_,_=>False
theorem GB:EntOk Tryz.prog 276 (Ent.pure vt):=by
 refine Ype fun _ H K h=>?_
 unfold vt at h
 split at h
 rotate_left
 ·exact h.elim
 rename_i m l F fst caps
 obtain ⟨ts,q,⟨rfl,hl,hq⟩,hK⟩:=h
 refine ⟨_,hK,?_⟩
 clear hK
 have hR:=@eg _ q ts 0
 generalize ts.any q=R at *
 refine ACalls.fW ak (tCq Gd tNq) Tryz.func276 [.tmp 4] (nrq _) (T:=ag []) (h:=fun hcl hlt=>?_)
 clear hlt
 simp only [go_sem,vr]
 refine ⟨ts,q,⟨rfl,hl,hq⟩,?_⟩
 simp only [aj,go_sem,hR]
 exact Z1
def Aq:List AV→AHeap→(AV→Prop)→Prop
 |[x,.ptr c 0],H,K=>∃ (t:SPrim) (b:Bool) (F:FuncId) (fst caps:List AV),(x=bv t∧H.get c=some (.cells [.func (.func F) fst caps])∧∀ H',H.Le H'→H'.Closed→ACalls Tryz.prog F (fst++[bv t]++caps) H' (.ret (.bool b)) H')∧K (.bool (!b))
 |_,_,_=>False
theorem ok_gLPrm:EntOk Tryz.prog 277 (Ent.pure Aq):=by
 refine Ype fun _ H K h=>?_
 unfold Aq at h
 split at h
 rotate_left
 ·exact h.elim
 rename_i x c
 obtain ⟨t,b,F,fst,caps,⟨rfl,hg,hq⟩,hK⟩:=h
 refine ⟨_,hK,?_⟩
 clear hK
 have hcs:=au hg
 have hl:=glq hg
 have hne:(c=H.nx)=False:=eq_false (by omega)
 obtain ⟨cs,hav,hcl3⟩:∃ cs,bv t=.agg cs∧cs.length=6:=⟨_,rfl,rfl⟩
 have hts:List.take 6 cs=cs:=ybc (by omega)
 rw [hav] at hq
 rw [hav]
 refine ACalls.of_aw (Ω:=[(F,Ent.pure (bD Tryz.prog F))]) (T:=ag []) ak (tCq cy tNq) Tryz.func277 (by kernel_rfl) (by rfl) (rs:=[.tmp 3]) (by rfl) (by kernel_rfl) (by simp only [Tryz.ntmps277,yaz,yba];decide) (nrq _) fun hcl hlt=>?_
 change aw _ _ _ (KI Tryz.prog [(F,Ent.pure (bD Tryz.prog F))] (dh Tryz.prog [.tmp 3] H.nx _ _ (ag [])) []) _ _
 have hlx:=hlt _ (List.mem_cons_self)
 clear hlt
 simp only [go_sem,hcs,hne,hg,hcl3,hts,bD]
 refine ⟨_,?_,hq _ ((lRq _).push _) ?_⟩
 ·try simp only [aj,go_sem]
  exact Z1
 ·have h0:=AV.lt_mono (Nat.le_succ H.nx) _ hlx
  rw [znr] at h0
  exact ae hcl h0
def bV:List AV→AHeap→(AV→Prop)→Prop
 |[.slice _ 6 l,.func (.func F) fst caps],H,K=>∃ (ts:List SPrim) (q:SPrim→Bool),(l=ts.map bv∧ts.length≤1000000∧∀ x∈ts,∀ H',H.Le H'→H'.Closed→ACalls Tryz.prog F (fst++[bv x]++caps) H' (.ret (.bool (q x))) H')∧K (.bool (ts.all q))
 |_,_,_=>False
theorem qt:EntOk Tryz.prog 144 (Ent.pure bV):=by
 refine Ype fun _ H K h=>?_
 unfold bV at h
 split at h
 rotate_left
 ·exact h.elim
 rename_i m l F fst caps
 obtain ⟨ts,q,⟨rfl,hl,hq⟩,hK⟩:=h
 refine ⟨_,hK,?_⟩
 clear hK
 have hR:=@fP _ q ts
 generalize ts.all q=R at *
 refine ACalls.fW ak (tCq GB tNq) Tryz.func144 [.tmp 4] (nrq _) (T:=ag []) (h:=fun hcl hlt=>?_)
 have hfx:=hlt _ (List.mem_cons_of_mem _ List.mem_cons_self)
 clear hlt
 simp only [go_sem,vt]
 refine ⟨ts,fun x=>!q x,⟨rfl,hl,fun x hx=>?_⟩,?_⟩
 ·obtain ⟨v,hv,hc⟩:=ok_gLPrm.1 rfl [bv x,.ptr H.nx 0] (H.push (.cells [.func (.func F) fst caps])) (fun v=>v=.bool (!q x)) ⟨x,q x,F,fst,caps,⟨rfl,by simp only [go_sem],fun H' h1 h2=>hq x hx H' (((lRq _).push _).trans h1) h2⟩,rfl⟩
  subst hv
  exact hc
 ·rw [hR]
  try simp only [aj,go_sem]
  exact Z1
def uq:List AV→AHeap→(AV→Prop)→Prop
 |[.slice _ 2 l,.func (.func F) fst caps],H,K=>∃ (ts:List SStage) (q:SStage→Bool),(l=ts.map bB∧ts.length≤1000000∧∀ x∈ts,ACalls Tryz.prog F (fst++[bB x]++caps) H (.ret (.bool (q x))) H)∧K (.int .i64 (ixP q ts 0))
 |_,_,_=>False
theorem Db:EntOk Tryz.prog 334 (Ent.pure uq):=by
 refine Ype fun _ H K h=>?_
 unfold uq at h
 split at h
 rotate_left
 ·exact h.elim
 rename_i m l F fst caps
 obtain ⟨ts,q,⟨rfl,hl,hq⟩,hK⟩:=h
 refine ⟨_,hK,?_⟩
 clear hK
 generalize hR:ixP q ts 0=R
 refine ACalls.of_aw (Ω:=[(F,Ent.pure (bD Tryz.prog F))]) (T:=ag []) ak (tCq cy tNq) Tryz.func334 (by kernel_rfl) (by rfl) (rs:=[.tmp 4]) (by rfl) (by kernel_rfl) (by simp only [Tryz.ntmps334,yaz,yba];decide) (nrq _) fun hcl hlt=>?_
 change aw _ _ _ (KI Tryz.prog [(F,Ent.pure (bD Tryz.prog F))] (dh Tryz.prog [.tmp 4] H.nx _ _ (ag [])) []) _ _
 have hm:AV.lt H.nx (.slice m 2 (ts.map bB)):=hlt _ (by simp)
 have hf:AV.lt H.nx (.func (.func F) fst caps):=hlt _ (by simp)
 clear hlt
 simp only [go_sem,ybb]
 refine ay (A:=Nat) (fun k=>[(0,.slice m 2 (ts.map bB)),(1,.func (.func F) fst caps),(7,.int .i64 (ts.length:Int)),(8,.int .i64 (k:Int))]) (fun _=>H) (fun k=>k≤ts.length∧ixP q (ts.drop k) k=R) (fun k=>ts.length - k) 0 ⟨by omega,hR⟩ ?_ fun k hk=>?_
 ·refine ⟨nrq _,lRq _,hcl,?_,?_⟩
  ·simp [ltF,znf,hm,hf]
  ·simp [aS,wk2,wk1,wkM,Fr.get]
 clear hR
 obtain ⟨hk,hR⟩:=hk
 simp only [go_sem]
 refine ah (fun hc=>?_) (fun hc=>?_)
 ·have hk':k<ts.length:=by simp at hc;omega
  obtain ⟨x,hx⟩:∃ x,x=ts[k]:=⟨_,rfl⟩
  have hd:ts.drop k=x::ts.drop (k+1):=by rw [hx];exact dcq hk'
  have hg':=aO (f:=bB) (l:=ts) (k:=k) (x:=x) (by rw [gQq hk',hx])
  have e5:=Yk5 k
  rw [hd] at hR
  unfold ixP at hR
  have hqx:=hq x (by rw [hx];exact gMq hk')
  have hag:∃ cs,bB x=.agg cs∧cs.length=2:=⟨_,rfl,rfl⟩
  obtain ⟨cs,hcs,hcl3⟩:=hag
  have hts:List.take 2 cs=cs:=ybc (by omega)
  rw [hcs] at hqx
  simp only [go_sem,iNq,ybb,hg',hcs,hcl3,hts,bD]
  (repeat with_reducible refine Yq ?_)
  refine ⟨_,?_,hqx⟩
  try simp only [aj,go_sem]
  try (repeat with_reducible refine Yq ?_)
  refine ah (fun hq=>?_) (fun hq=>?_)
  ·rw [if_pos hq] at hR
   subst hR
   simp only [go_sem]
   exact Z1
  ·rw [if_neg (by rw [hq];decide)] at hR
   simp only [go_sem,e5]
   refine ⟨k+1,⟨by omega,hR⟩,by omega,nrq _,lRq _,hcl,?_,?_⟩
   ·simp [ltF,znf,hm,hf]
   ·simp [aS,wk2,wk1,wkM,Fr.get]
 ·have hk':k=ts.length:=by simp at hc;omega
  subst hk'
  rw [List.drop_length] at hR
  unfold ixP at hR
  subst hR
  simp only [go_sem]
  exact Z1
def ux:List AV→AHeap→(AV→Prop)→Prop
 |[.slice _ 2 l,.func (.func F) fst caps],H,K=>∃ (ts:List SStage) (q:SStage→Bool),(l=ts.map bB∧ts.length≤1000000∧∀ x∈ts,ACalls Tryz.prog F (fst++[bB x]++caps) H (.ret (.bool (q x))) H)∧K (.bool (ts.any q))
 |_,_,_=>False
theorem DW:EntOk Tryz.prog 284 (Ent.pure ux):=by
 refine Ype fun _ H K h=>?_
 unfold ux at h
 split at h
 rotate_left
 ·exact h.elim
 rename_i m l F fst caps
 obtain ⟨ts,q,⟨rfl,hl,hq⟩,hK⟩:=h
 refine ⟨_,hK,?_⟩
 clear hK
 have hR:=@eg _ q ts 0
 generalize ts.any q=R at *
 refine ACalls.fW ak (tCq Db tNq) Tryz.func284 [.tmp 4] (nrq _) (T:=ag []) (h:=fun hcl hlt=>?_)
 clear hlt
 simp only [go_sem,uq]
 refine ⟨ts,q,⟨rfl,hl,hq⟩,?_⟩
 simp only [aj,go_sem,hR]
 exact Z1
def AS:List AV→AHeap→(AV→Prop)→Prop
 |[x,.ptr c 0],H,K=>∃ (t:SStage) (b:Bool) (F:FuncId) (fst caps:List AV),(x=bB t∧H.get c=some (.cells [.func (.func F) fst caps])∧∀ H',H.Le H'→H'.Closed→ACalls Tryz.prog F (fst++[bB t]++caps) H' (.ret (.bool b)) H')∧K (.bool (!b))
 |_,_,_=>False
theorem ok_gLStg:EntOk Tryz.prog 285 (Ent.pure AS):=by
 refine Ype fun _ H K h=>?_
 unfold AS at h
 split at h
 rotate_left
 ·exact h.elim
 rename_i x c
 obtain ⟨t,b,F,fst,caps,⟨rfl,hg,hq⟩,hK⟩:=h
 refine ⟨_,hK,?_⟩
 clear hK
 have hcs:=au hg
 have hl:=glq hg
 have hne:(c=H.nx)=False:=eq_false (by omega)
 obtain ⟨cs,hav,hcl3⟩:∃ cs,bB t=.agg cs∧cs.length=2:=⟨_,rfl,rfl⟩
 have hts:List.take 2 cs=cs:=ybc (by omega)
 rw [hav] at hq
 rw [hav]
 refine ACalls.of_aw (Ω:=[(F,Ent.pure (bD Tryz.prog F))]) (T:=ag []) ak (tCq cy tNq) Tryz.func285 (by kernel_rfl) (by rfl) (rs:=[.tmp 3]) (by rfl) (by kernel_rfl) (by simp only [Tryz.ntmps285,yaz,yba];decide) (nrq _) fun hcl hlt=>?_
 change aw _ _ _ (KI Tryz.prog [(F,Ent.pure (bD Tryz.prog F))] (dh Tryz.prog [.tmp 3] H.nx _ _ (ag [])) []) _ _
 have hlx:=hlt _ (List.mem_cons_self)
 clear hlt
 simp only [go_sem,hcs,hne,hg,hcl3,hts,bD]
 refine ⟨_,?_,hq _ ((lRq _).push _) ?_⟩
 ·try simp only [aj,go_sem]
  exact Z1
 ·have h0:=AV.lt_mono (Nat.le_succ H.nx) _ hlx
  rw [znr] at h0
  exact ae hcl h0
def dV:List AV→AHeap→(AV→Prop)→Prop
 |[.slice _ 2 l,.func (.func F) fst caps],H,K=>∃ (ts:List SStage) (q:SStage→Bool),(l=ts.map bB∧ts.length≤1000000∧∀ x∈ts,∀ H',H.Le H'→H'.Closed→ACalls Tryz.prog F (fst++[bB x]++caps) H' (.ret (.bool (q x))) H')∧K (.bool (ts.all q))
 |_,_,_=>False
theorem EF:EntOk Tryz.prog 157 (Ent.pure dV):=by
 refine Ype fun _ H K h=>?_
 unfold dV at h
 split at h
 rotate_left
 ·exact h.elim
 rename_i m l F fst caps
 obtain ⟨ts,q,⟨rfl,hl,hq⟩,hK⟩:=h
 refine ⟨_,hK,?_⟩
 clear hK
 have hR:=@fP _ q ts
 generalize ts.all q=R at *
 refine ACalls.fW ak (tCq DW tNq) Tryz.func157 [.tmp 4] (nrq _) (T:=ag []) (h:=fun hcl hlt=>?_)
 have hfx:=hlt _ (List.mem_cons_of_mem _ List.mem_cons_self)
 clear hlt
 simp only [go_sem,ux]
 refine ⟨ts,fun x=>!q x,⟨rfl,hl,fun x hx=>?_⟩,?_⟩
 ·obtain ⟨v,hv,hc⟩:=ok_gLStg.1 rfl [bB x,.ptr H.nx 0] (H.push (.cells [.func (.func F) fst caps])) (fun v=>v=.bool (!q x)) ⟨x,q x,F,fst,caps,⟨rfl,by simp only [go_sem],fun H' h1 h2=>hq x hx H' (((lRq _).push _).trans h1) h2⟩,rfl⟩
  subst hv
  exact hc
 ·rw [hR]
  try simp only [aj,go_sem]
  exact Z1
def uZ:List AV→AHeap→(AV→Prop)→Prop
 |[.slice _ 4 l,.func (.func F) fst caps],H,K=>∃ (ts:List SGrant) (q:SGrant→Bool),(l=ts.map aR∧ts.length≤1000000∧∀ x∈ts,ACalls Tryz.prog F (fst++[aR x]++caps) H (.ret (.bool (q x))) H)∧K (.int .i64 (ixP q ts 0))
 |_,_,_=>False
theorem Gf:EntOk Tryz.prog 335 (Ent.pure uZ):=by
 refine Ype fun _ H K h=>?_
 unfold uZ at h
 split at h
 rotate_left
 ·exact h.elim
 rename_i m l F fst caps
 obtain ⟨ts,q,⟨rfl,hl,hq⟩,hK⟩:=h
 refine ⟨_,hK,?_⟩
 clear hK
 generalize hR:ixP q ts 0=R
 refine ACalls.of_aw (Ω:=[(F,Ent.pure (bD Tryz.prog F))]) (T:=ag []) ak (tCq cy tNq) Tryz.func335 (by kernel_rfl) (by rfl) (rs:=[.tmp 4]) (by rfl) (by kernel_rfl) (by simp only [Tryz.ntmps335,yaz,yba];decide) (nrq _) fun hcl hlt=>?_
 change aw _ _ _ (KI Tryz.prog [(F,Ent.pure (bD Tryz.prog F))] (dh Tryz.prog [.tmp 4] H.nx _ _ (ag [])) []) _ _
 have hm:AV.lt H.nx (.slice m 4 (ts.map aR)):=hlt _ (by simp)
 have hf:AV.lt H.nx (.func (.func F) fst caps):=hlt _ (by simp)
 clear hlt
 simp only [go_sem,ybb]
 refine ay (A:=Nat) (fun k=>[(0,.slice m 4 (ts.map aR)),(1,.func (.func F) fst caps),(7,.int .i64 (ts.length:Int)),(8,.int .i64 (k:Int))]) (fun _=>H) (fun k=>k≤ts.length∧ixP q (ts.drop k) k=R) (fun k=>ts.length - k) 0 ⟨by omega,hR⟩ ?_ fun k hk=>?_
 ·refine ⟨nrq _,lRq _,hcl,?_,?_⟩
  ·simp [ltF,znf,hm,hf]
  ·simp [aS,wk2,wk1,wkM,Fr.get]
 clear hR
 obtain ⟨hk,hR⟩:=hk
 simp only [go_sem]
 refine ah (fun hc=>?_) (fun hc=>?_)
 ·have hk':k<ts.length:=by simp at hc;omega
  obtain ⟨x,hx⟩:∃ x,x=ts[k]:=⟨_,rfl⟩
  have hd:ts.drop k=x::ts.drop (k+1):=by rw [hx];exact dcq hk'
  have hg':=aO (f:=aR) (l:=ts) (k:=k) (x:=x) (by rw [gQq hk',hx])
  have e5:=Yk5 k
  rw [hd] at hR
  unfold ixP at hR
  have hqx:=hq x (by rw [hx];exact gMq hk')
  have hag:∃ cs,aR x=.agg cs∧cs.length=4:=⟨_,rfl,rfl⟩
  obtain ⟨cs,hcs,hcl3⟩:=hag
  have hts:List.take 4 cs=cs:=ybc (by omega)
  rw [hcs] at hqx
  simp only [go_sem,iNq,ybb,hg',hcs,hcl3,hts,bD]
  (repeat with_reducible refine Yq ?_)
  refine ⟨_,?_,hqx⟩
  try simp only [aj,go_sem]
  try (repeat with_reducible refine Yq ?_)
  refine ah (fun hq=>?_) (fun hq=>?_)
  ·rw [if_pos hq] at hR
   subst hR
   simp only [go_sem]
   exact Z1
  ·rw [if_neg (by rw [hq];decide)] at hR
   simp only [go_sem,e5]
   refine ⟨k+1,⟨by omega,hR⟩,by omega,nrq _,lRq _,hcl,?_,?_⟩
   ·simp [ltF,znf,hm,hf]
   ·simp [aS,wk2,wk1,wkM,Fr.get]
 ·have hk':k=ts.length:=by simp at hc;omega
  subst hk'
  rw [List.drop_length] at hR
  unfold ixP at hR
  subst hR
  simp only [go_sem]
  exact Z1
def u6:List AV→AHeap→(AV→Prop)→Prop
 |[.slice _ 4 l,.func (.func F) fst caps],H,K=>∃ (ts:List SGrant) (q:SGrant→Bool),(l=ts.map aR∧ts.length≤1000000∧∀ x∈ts,ACalls Tryz.prog F (fst++[aR x]++caps) H (.ret (.bool (q x))) H)∧K (.bool (ts.any q))
 |_,_,_=>False
theorem Fz:EntOk Tryz.prog 286 (Ent.pure u6):=by
 refine Ype fun _ H K h=>?_
 unfold u6 at h
 split at h
 rotate_left
 ·exact h.elim
 rename_i m l F fst caps
 obtain ⟨ts,q,⟨rfl,hl,hq⟩,hK⟩:=h
 refine ⟨_,hK,?_⟩
 clear hK
 have hR:=@eg _ q ts 0
 generalize ts.any q=R at *
 refine ACalls.fW ak (tCq Gf tNq) Tryz.func286 [.tmp 4] (nrq _) (T:=ag []) (h:=fun hcl hlt=>?_)
 clear hlt
 simp only [go_sem,uZ]
 refine ⟨ts,q,⟨rfl,hl,hq⟩,?_⟩
 simp only [aj,go_sem,hR]
 exact Z1
def zJ:List AV→AHeap→(AV→Prop)→Prop
 |[x,.ptr c 0],H,K=>∃ (t:SGrant) (b:Bool) (F:FuncId) (fst caps:List AV),(x=aR t∧H.get c=some (.cells [.func (.func F) fst caps])∧∀ H',H.Le H'→H'.Closed→ACalls Tryz.prog F (fst++[aR t]++caps) H' (.ret (.bool b)) H')∧K (.bool (!b))
 |_,_,_=>False
theorem ok_gLGrt:EntOk Tryz.prog 287 (Ent.pure zJ):=by
 refine Ype fun _ H K h=>?_
 unfold zJ at h
 split at h
 rotate_left
 ·exact h.elim
 rename_i x c
 obtain ⟨t,b,F,fst,caps,⟨rfl,hg,hq⟩,hK⟩:=h
 refine ⟨_,hK,?_⟩
 clear hK
 have hcs:=au hg
 have hl:=glq hg
 have hne:(c=H.nx)=False:=eq_false (by omega)
 obtain ⟨cs,hav,hcl3⟩:∃ cs,aR t=.agg cs∧cs.length=4:=⟨_,rfl,rfl⟩
 have hts:List.take 4 cs=cs:=ybc (by omega)
 rw [hav] at hq
 rw [hav]
 refine ACalls.of_aw (Ω:=[(F,Ent.pure (bD Tryz.prog F))]) (T:=ag []) ak (tCq cy tNq) Tryz.func287 (by kernel_rfl) (by rfl) (rs:=[.tmp 3]) (by rfl) (by kernel_rfl) (by simp only [Tryz.ntmps287,yaz,yba];decide) (nrq _) fun hcl hlt=>?_
 change aw _ _ _ (KI Tryz.prog [(F,Ent.pure (bD Tryz.prog F))] (dh Tryz.prog [.tmp 3] H.nx _ _ (ag [])) []) _ _
 have hlx:=hlt _ (List.mem_cons_self)
 clear hlt
 simp only [go_sem,hcs,hne,hg,hcl3,hts,bD]
 refine ⟨_,?_,hq _ ((lRq _).push _) ?_⟩
 ·try simp only [aj,go_sem]
  exact Z1
 ·have h0:=AV.lt_mono (Nat.le_succ H.nx) _ hlx
  rw [znr] at h0
  exact ae hcl h0
def b9:List AV→AHeap→(AV→Prop)→Prop
 |[.slice _ 4 l,.func (.func F) fst caps],H,K=>∃ (ts:List SGrant) (q:SGrant→Bool),(l=ts.map aR∧ts.length≤1000000∧∀ x∈ts,∀ H',H.Le H'→H'.Closed→ACalls Tryz.prog F (fst++[aR x]++caps) H' (.ret (.bool (q x))) H')∧K (.bool (ts.all q))
 |_,_,_=>False
theorem xA:EntOk Tryz.prog 162 (Ent.pure b9):=by
 refine Ype fun _ H K h=>?_
 unfold b9 at h
 split at h
 rotate_left
 ·exact h.elim
 rename_i m l F fst caps
 obtain ⟨ts,q,⟨rfl,hl,hq⟩,hK⟩:=h
 refine ⟨_,hK,?_⟩
 clear hK
 have hR:=@fP _ q ts
 generalize ts.all q=R at *
 refine ACalls.fW ak (tCq Fz tNq) Tryz.func162 [.tmp 4] (nrq _) (T:=ag []) (h:=fun hcl hlt=>?_)
 have hfx:=hlt _ (List.mem_cons_of_mem _ List.mem_cons_self)
 clear hlt
 simp only [go_sem,u6]
 refine ⟨ts,fun x=>!q x,⟨rfl,hl,fun x hx=>?_⟩,?_⟩
 ·obtain ⟨v,hv,hc⟩:=ok_gLGrt.1 rfl [aR x,.ptr H.nx 0] (H.push (.cells [.func (.func F) fst caps])) (fun v=>v=.bool (!q x)) ⟨x,q x,F,fst,caps,⟨rfl,by simp only [go_sem],fun H' h1 h2=>hq x hx H' (((lRq _).push _).trans h1) h2⟩,rfl⟩
  subst hv
  exact hc
 ·rw [hR]
  try simp only [aj,go_sem]
  exact Z1
def vB:List AV→AHeap→(AV→Prop)→Prop
 |[.slice _ 5 l,.func (.func F) fst caps],H,K=>∃ (ts:List SCase) (q:SCase→Bool),(l=ts.map bH∧ts.length≤1000000∧∀ x∈ts,ACalls Tryz.prog F (fst++[bH x]++caps) H (.ret (.bool (q x))) H)∧K (.int .i64 (ixP q ts 0))
 |_,_,_=>False
theorem FB:EntOk Tryz.prog 336 (Ent.pure vB):=by
 refine Ype fun _ H K h=>?_
 unfold vB at h
 split at h
 rotate_left
 ·exact h.elim
 rename_i m l F fst caps
 obtain ⟨ts,q,⟨rfl,hl,hq⟩,hK⟩:=h
 refine ⟨_,hK,?_⟩
 clear hK
 generalize hR:ixP q ts 0=R
 refine ACalls.of_aw (Ω:=[(F,Ent.pure (bD Tryz.prog F))]) (T:=ag []) ak (tCq cy tNq) Tryz.func336 (by kernel_rfl) (by rfl) (rs:=[.tmp 4]) (by rfl) (by kernel_rfl) (by simp only [Tryz.ntmps336,yaz,yba];decide) (nrq _) fun hcl hlt=>?_
 change aw _ _ _ (KI Tryz.prog [(F,Ent.pure (bD Tryz.prog F))] (dh Tryz.prog [.tmp 4] H.nx _ _ (ag [])) []) _ _
 have hm:AV.lt H.nx (.slice m 5 (ts.map bH)):=hlt _ (by simp)
 have hf:AV.lt H.nx (.func (.func F) fst caps):=hlt _ (by simp)
 clear hlt
 simp only [go_sem,ybb]
 refine ay (A:=Nat) (fun k=>[(0,.slice m 5 (ts.map bH)),(1,.func (.func F) fst caps),(7,.int .i64 (ts.length:Int)),(8,.int .i64 (k:Int))]) (fun _=>H) (fun k=>k≤ts.length∧ixP q (ts.drop k) k=R) (fun k=>ts.length - k) 0 ⟨by omega,hR⟩ ?_ fun k hk=>?_
 ·refine ⟨nrq _,lRq _,hcl,?_,?_⟩
  ·simp [ltF,znf,hm,hf]
  ·simp [aS,wk2,wk1,wkM,Fr.get]
 clear hR
 obtain ⟨hk,hR⟩:=hk
 simp only [go_sem]
 refine ah (fun hc=>?_) (fun hc=>?_)
 ·have hk':k<ts.length:=by simp at hc;omega
  obtain ⟨x,hx⟩:∃ x,x=ts[k]:=⟨_,rfl⟩
  have hd:ts.drop k=x::ts.drop (k+1):=by rw [hx];exact dcq hk'
  have hg':=aO (f:=bH) (l:=ts) (k:=k) (x:=x) (by rw [gQq hk',hx])
  have e5:=Yk5 k
  rw [hd] at hR
  unfold ixP at hR
  have hqx:=hq x (by rw [hx];exact gMq hk')
  have hag:∃ cs,bH x=.agg cs∧cs.length=5:=⟨_,rfl,rfl⟩
  obtain ⟨cs,hcs,hcl3⟩:=hag
  have hts:List.take 5 cs=cs:=ybc (by omega)
  rw [hcs] at hqx
  simp only [go_sem,iNq,ybb,hg',hcs,hcl3,hts,bD]
  (repeat with_reducible refine Yq ?_)
  refine ⟨_,?_,hqx⟩
  try simp only [aj,go_sem]
  try (repeat with_reducible refine Yq ?_)
  refine ah (fun hq=>?_) (fun hq=>?_)
  ·rw [if_pos hq] at hR
   subst hR
   simp only [go_sem]
   exact Z1
  ·rw [if_neg (by rw [hq];decide)] at hR
   simp only [go_sem,e5]
   refine ⟨k+1,⟨by omega,hR⟩,by omega,nrq _,lRq _,hcl,?_,?_⟩
   ·simp [ltF,znf,hm,hf]
   ·simp [aS,wk2,wk1,wkM,Fr.get]
 ·have hk':k=ts.length:=by simp at hc;omega
  subst hk'
  rw [List.drop_length] at hR
  unfold ixP at hR
  subst hR
  simp only [go_sem]
  exact Z1
def t8:List AV→AHeap→(AV→Prop)→Prop
 |[.slice _ 5 l,.func (.func F) fst caps],H,K=>∃ (ts:List SCase) (q:SCase→Bool),(l=ts.map bH∧ts.length≤1000000∧∀ x∈ts,ACalls Tryz.prog F (fst++[bH x]++caps) H (.ret (.bool (q x))) H)∧K (.bool (ts.any q))
 |_,_,_=>False
theorem ED:EntOk Tryz.prog 288 (Ent.pure t8):=by
 refine Ype fun _ H K h=>?_
 unfold t8 at h
 split at h
 rotate_left
 ·exact h.elim
 rename_i m l F fst caps
 obtain ⟨ts,q,⟨rfl,hl,hq⟩,hK⟩:=h
 refine ⟨_,hK,?_⟩
 clear hK
 have hR:=@eg _ q ts 0
 generalize ts.any q=R at *
 refine ACalls.fW ak (tCq FB tNq) Tryz.func288 [.tmp 4] (nrq _) (T:=ag []) (h:=fun hcl hlt=>?_)
 clear hlt
 simp only [go_sem,vB]
 refine ⟨ts,q,⟨rfl,hl,hq⟩,?_⟩
 simp only [aj,go_sem,hR]
 exact Z1
def zT:List AV→AHeap→(AV→Prop)→Prop
 |[x,.ptr c 0],H,K=>∃ (t:SCase) (b:Bool) (F:FuncId) (fst caps:List AV),(x=bH t∧H.get c=some (.cells [.func (.func F) fst caps])∧∀ H',H.Le H'→H'.Closed→ACalls Tryz.prog F (fst++[bH t]++caps) H' (.ret (.bool b)) H')∧K (.bool (!b))
 |_,_,_=>False
theorem ok_gLCas:EntOk Tryz.prog 289 (Ent.pure zT):=by
 refine Ype fun _ H K h=>?_
 unfold zT at h
 split at h
 rotate_left
 ·exact h.elim
 rename_i x c
 obtain ⟨t,b,F,fst,caps,⟨rfl,hg,hq⟩,hK⟩:=h
 refine ⟨_,hK,?_⟩
 clear hK
 have hcs:=au hg
 have hl:=glq hg
 have hne:(c=H.nx)=False:=eq_false (by omega)
 obtain ⟨cs,hav,hcl3⟩:∃ cs,bH t=.agg cs∧cs.length=5:=⟨_,rfl,rfl⟩
 have hts:List.take 5 cs=cs:=ybc (by omega)
 rw [hav] at hq
 rw [hav]
 refine ACalls.of_aw (Ω:=[(F,Ent.pure (bD Tryz.prog F))]) (T:=ag []) ak (tCq cy tNq) Tryz.func289 (by kernel_rfl) (by rfl) (rs:=[.tmp 3]) (by rfl) (by kernel_rfl) (by simp only [Tryz.ntmps289,yaz,yba];decide) (nrq _) fun hcl hlt=>?_
 change aw _ _ _ (KI Tryz.prog [(F,Ent.pure (bD Tryz.prog F))] (dh Tryz.prog [.tmp 3] H.nx _ _ (ag [])) []) _ _
 have hlx:=hlt _ (List.mem_cons_self)
 clear hlt
 simp only [go_sem,hcs,hne,hg,hcl3,hts,bD]
 refine ⟨_,?_,hq _ ((lRq _).push _) ?_⟩
 ·try simp only [aj,go_sem]
  exact Z1
 ·have h0:=AV.lt_mono (Nat.le_succ H.nx) _ hlx
  rw [znr] at h0
  exact ae hcl h0
def bK:List AV→AHeap→(AV→Prop)→Prop
 |[.slice _ 5 l,.func (.func F) fst caps],H,K=>∃ (ts:List SCase) (q:SCase→Bool),(l=ts.map bH∧ts.length≤1000000∧∀ x∈ts,∀ H',H.Le H'→H'.Closed→ACalls Tryz.prog F (fst++[bH x]++caps) H' (.ret (.bool (q x))) H')∧K (.bool (ts.all q))
 |_,_,_=>False
theorem wK:EntOk Tryz.prog 172 (Ent.pure bK):=by
 refine Ype fun _ H K h=>?_
 unfold bK at h
 split at h
 rotate_left
 ·exact h.elim
 rename_i m l F fst caps
 obtain ⟨ts,q,⟨rfl,hl,hq⟩,hK⟩:=h
 refine ⟨_,hK,?_⟩
 clear hK
 have hR:=@fP _ q ts
 generalize ts.all q=R at *
 refine ACalls.fW ak (tCq ED tNq) Tryz.func172 [.tmp 4] (nrq _) (T:=ag []) (h:=fun hcl hlt=>?_)
 have hfx:=hlt _ (List.mem_cons_of_mem _ List.mem_cons_self)
 clear hlt
 simp only [go_sem,t8]
 refine ⟨ts,fun x=>!q x,⟨rfl,hl,fun x hx=>?_⟩,?_⟩
 ·obtain ⟨v,hv,hc⟩:=ok_gLCas.1 rfl [bH x,.ptr H.nx 0] (H.push (.cells [.func (.func F) fst caps])) (fun v=>v=.bool (!q x)) ⟨x,q x,F,fst,caps,⟨rfl,by simp only [go_sem],fun H' h1 h2=>hq x hx H' (((lRq _).push _).trans h1) h2⟩,rfl⟩
  subst hv
  exact hc
 ·rw [hR]
  try simp only [aj,go_sem]
  exact Z1
def tD:List AV→AHeap→(AV→Prop)→Prop
 |[.slice _ 6 l,.func (.func F) fst caps],H,K=>∃ (ts:List SRef) (q:SRef→Bool),(l=ts.map bL∧ts.length≤1000000∧∀ x∈ts,ACalls Tryz.prog F (fst++[bL x]++caps) H (.ret (.bool (q x))) H)∧K (.int .i64 (ixP q ts 0))
 |_,_,_=>False
theorem FW:EntOk Tryz.prog 300 (Ent.pure tD):=by
 refine Ype fun _ H K h=>?_
 unfold tD at h
 split at h
 rotate_left
 ·exact h.elim
 rename_i m l F fst caps
 obtain ⟨ts,q,⟨rfl,hl,hq⟩,hK⟩:=h
 refine ⟨_,hK,?_⟩
 clear hK
 generalize hR:ixP q ts 0=R
 refine ACalls.of_aw (Ω:=[(F,Ent.pure (bD Tryz.prog F))]) (T:=ag []) ak (tCq cy tNq) Tryz.func300 (by kernel_rfl) (by rfl) (rs:=[.tmp 4]) (by rfl) (by kernel_rfl) (by simp only [Tryz.ntmps300,yaz,yba];decide) (nrq _) fun hcl hlt=>?_
 change aw _ _ _ (KI Tryz.prog [(F,Ent.pure (bD Tryz.prog F))] (dh Tryz.prog [.tmp 4] H.nx _ _ (ag [])) []) _ _
 have hm:AV.lt H.nx (.slice m 6 (ts.map bL)):=hlt _ (by simp)
 have hf:AV.lt H.nx (.func (.func F) fst caps):=hlt _ (by simp)
 clear hlt
 simp only [go_sem,ybb]
 refine ay (A:=Nat) (fun k=>[(0,.slice m 6 (ts.map bL)),(1,.func (.func F) fst caps),(7,.int .i64 (ts.length:Int)),(8,.int .i64 (k:Int))]) (fun _=>H) (fun k=>k≤ts.length∧ixP q (ts.drop k) k=R) (fun k=>ts.length - k) 0 ⟨by omega,hR⟩ ?_ fun k hk=>?_
 ·refine ⟨nrq _,lRq _,hcl,?_,?_⟩
  ·simp [ltF,znf,hm,hf]
  ·simp [aS,wk2,wk1,wkM,Fr.get]
 clear hR
 obtain ⟨hk,hR⟩:=hk
 simp only [go_sem]
 refine ah (fun hc=>?_) (fun hc=>?_)
 ·have hk':k<ts.length:=by simp at hc;omega
  obtain ⟨x,hx⟩:∃ x,x=ts[k]:=⟨_,rfl⟩
  have hd:ts.drop k=x::ts.drop (k+1):=by rw [hx];exact dcq hk'
  have hg':=aO (f:=bL) (l:=ts) (k:=k) (x:=x) (by rw [gQq hk',hx])
  have e5:=Yk5 k
  rw [hd] at hR
  unfold ixP at hR
  have hqx:=hq x (by rw [hx];exact gMq hk')
  have hag:∃ cs,bL x=.agg cs∧cs.length=6:=⟨_,rfl,rfl⟩
  obtain ⟨cs,hcs,hcl3⟩:=hag
  have hts:List.take 6 cs=cs:=ybc (by omega)
  rw [hcs] at hqx
  simp only [go_sem,iNq,ybb,hg',hcs,hcl3,hts,bD]
  (repeat with_reducible refine Yq ?_)
  refine ⟨_,?_,hqx⟩
  try simp only [aj,go_sem]
  try (repeat with_reducible refine Yq ?_)
  refine ah (fun hq=>?_) (fun hq=>?_)
  ·rw [if_pos hq] at hR
   subst hR
   simp only [go_sem]
   exact Z1
  ·rw [if_neg (by rw [hq];decide)] at hR
   simp only [go_sem,e5]
   refine ⟨k+1,⟨by omega,hR⟩,by omega,nrq _,lRq _,hcl,?_,?_⟩
   ·simp [ltF,znf,hm,hf]
   ·simp [aS,wk2,wk1,wkM,Fr.get]
 ·have hk':k=ts.length:=by simp at hc;omega
  subst hk'
  rw [List.drop_length] at hR
  unfold ixP at hR
  subst hR
  simp only [go_sem]
  exact Z1
def vw:List AV→AHeap→(AV→Prop)→Prop
 |[.slice _ 6 l,.func (.func F) fst caps],H,K=>∃ (ts:List SRef) (q:SRef→Bool),(l=ts.map bL∧ts.length≤1000000∧∀ x∈ts,ACalls Tryz.prog F (fst++[bL x]++caps) H (.ret (.bool (q x))) H)∧K (.bool (ts.any q))
 |_,_,_=>False
theorem CW:EntOk Tryz.prog 205 (Ent.pure vw):=by
 refine Ype fun _ H K h=>?_
 unfold vw at h
 split at h
 rotate_left
 ·exact h.elim
 rename_i m l F fst caps
 obtain ⟨ts,q,⟨rfl,hl,hq⟩,hK⟩:=h
 refine ⟨_,hK,?_⟩
 clear hK
 have hR:=@eg _ q ts 0
 generalize ts.any q=R at *
 refine ACalls.fW ak (tCq FW tNq) Tryz.func205 [.tmp 4] (nrq _) (T:=ag []) (h:=fun hcl hlt=>?_)
 clear hlt
 simp only [go_sem,tD]
 refine ⟨ts,q,⟨rfl,hl,hq⟩,?_⟩
 simp only [aj,go_sem,hR]
 exact Z1
def As:List AV→AHeap→(AV→Prop)→Prop
 |[x,.ptr c 0],H,K=>∃ (t:SRef) (b:Bool) (F:FuncId) (fst caps:List AV),(x=bL t∧H.get c=some (.cells [.func (.func F) fst caps])∧∀ H',H.Le H'→H'.Closed→ACalls Tryz.prog F (fst++[bL t]++caps) H' (.ret (.bool b)) H')∧K (.bool (!b))
 |_,_,_=>False
theorem ok_gLRef:EntOk Tryz.prog 206 (Ent.pure As):=by
 refine Ype fun _ H K h=>?_
 unfold As at h
 split at h
 rotate_left
 ·exact h.elim
 rename_i x c
 obtain ⟨t,b,F,fst,caps,⟨rfl,hg,hq⟩,hK⟩:=h
 refine ⟨_,hK,?_⟩
 clear hK
 have hcs:=au hg
 have hl:=glq hg
 have hne:(c=H.nx)=False:=eq_false (by omega)
 obtain ⟨cs,hav,hcl3⟩:∃ cs,bL t=.agg cs∧cs.length=6:=⟨_,rfl,rfl⟩
 have hts:List.take 6 cs=cs:=ybc (by omega)
 rw [hav] at hq
 rw [hav]
 refine ACalls.of_aw (Ω:=[(F,Ent.pure (bD Tryz.prog F))]) (T:=ag []) ak (tCq cy tNq) Tryz.func206 (by kernel_rfl) (by rfl) (rs:=[.tmp 3]) (by rfl) (by kernel_rfl) (by simp only [Tryz.ntmps206,yaz,yba];decide) (nrq _) fun hcl hlt=>?_
 change aw _ _ _ (KI Tryz.prog [(F,Ent.pure (bD Tryz.prog F))] (dh Tryz.prog [.tmp 3] H.nx _ _ (ag [])) []) _ _
 have hlx:=hlt _ (List.mem_cons_self)
 clear hlt
 simp only [go_sem,hcs,hne,hg,hcl3,hts,bD]
 refine ⟨_,?_,hq _ ((lRq _).push _) ?_⟩
 ·try simp only [aj,go_sem]
  exact Z1
 ·have h0:=AV.lt_mono (Nat.le_succ H.nx) _ hlx
  rw [znr] at h0
  exact ae hcl h0
def bF:List AV→AHeap→(AV→Prop)→Prop
 |[.slice _ 6 l,.func (.func F) fst caps],H,K=>∃ (ts:List SRef) (q:SRef→Bool),(l=ts.map bL∧ts.length≤1000000∧∀ x∈ts,∀ H',H.Le H'→H'.Closed→ACalls Tryz.prog F (fst++[bL x]++caps) H' (.ret (.bool (q x))) H')∧K (.bool (ts.all q))
 |_,_,_=>False
theorem nD:EntOk Tryz.prog 78 (Ent.pure bF):=by
 refine Ype fun _ H K h=>?_
 unfold bF at h
 split at h
 rotate_left
 ·exact h.elim
 rename_i m l F fst caps
 obtain ⟨ts,q,⟨rfl,hl,hq⟩,hK⟩:=h
 refine ⟨_,hK,?_⟩
 clear hK
 have hR:=@fP _ q ts
 generalize ts.all q=R at *
 refine ACalls.fW ak (tCq CW tNq) Tryz.func78 [.tmp 4] (nrq _) (T:=ag []) (h:=fun hcl hlt=>?_)
 have hfx:=hlt _ (List.mem_cons_of_mem _ List.mem_cons_self)
 clear hlt
 simp only [go_sem,vw]
 refine ⟨ts,fun x=>!q x,⟨rfl,hl,fun x hx=>?_⟩,?_⟩
 ·obtain ⟨v,hv,hc⟩:=ok_gLRef.1 rfl [bL x,.ptr H.nx 0] (H.push (.cells [.func (.func F) fst caps])) (fun v=>v=.bool (!q x)) ⟨x,q x,F,fst,caps,⟨rfl,by simp only [go_sem],fun H' h1 h2=>hq x hx H' (((lRq _).push _).trans h1) h2⟩,rfl⟩
  subst hv
  exact hc
 ·rw [hR]
  try simp only [aj,go_sem]
  exact Z1
def uL:List AV→AHeap→(AV→Prop)→Prop
 |[.slice _ 1 l,.func (.func F) fst caps],H,K=>∃ (ts:List Int) (q:Int→Bool),(l=ts.map (AV.int .i64)∧ts.length≤1000000∧∀ x∈ts,ACalls Tryz.prog F (fst++[(AV.int .i64) x]++caps) H (.ret (.bool (q x))) H)∧K (.int .i64 (ixP q ts 0))
 |_,_,_=>False
theorem C7:EntOk Tryz.prog 333 (Ent.pure uL):=by
 refine Ype fun _ H K h=>?_
 unfold uL at h
 split at h
 rotate_left
 ·exact h.elim
 rename_i m l F fst caps
 obtain ⟨ts,q,⟨rfl,hl,hq⟩,hK⟩:=h
 refine ⟨_,hK,?_⟩
 clear hK
 generalize hR:ixP q ts 0=R
 refine ACalls.of_aw (Ω:=[(F,Ent.pure (bD Tryz.prog F))]) (T:=ag []) ak (tCq cy tNq) Tryz.func333 (by kernel_rfl) (by rfl) (rs:=[.tmp 4]) (by rfl) (by kernel_rfl) (by simp only [Tryz.ntmps333,yaz,yba];decide) (nrq _) fun hcl hlt=>?_
 change aw _ _ _ (KI Tryz.prog [(F,Ent.pure (bD Tryz.prog F))] (dh Tryz.prog [.tmp 4] H.nx _ _ (ag [])) []) _ _
 have hm:AV.lt H.nx (.slice m 1 (ts.map (AV.int .i64))):=hlt _ (by simp)
 have hf:AV.lt H.nx (.func (.func F) fst caps):=hlt _ (by simp)
 clear hlt
 simp only [go_sem,ybb]
 refine ay (A:=Nat) (fun k=>[(0,.slice m 1 (ts.map (AV.int .i64))),(1,.func (.func F) fst caps),(7,.int .i64 (ts.length:Int)),(8,.int .i64 (k:Int))]) (fun _=>H) (fun k=>k≤ts.length∧ixP q (ts.drop k) k=R) (fun k=>ts.length - k) 0 ⟨by omega,hR⟩ ?_ fun k hk=>?_
 ·refine ⟨nrq _,lRq _,hcl,?_,?_⟩
  ·simp [ltF,znf,hm,hf]
  ·simp [aS,wk2,wk1,wkM,Fr.get]
 clear hR
 obtain ⟨hk,hR⟩:=hk
 simp only [go_sem]
 refine ah (fun hc=>?_) (fun hc=>?_)
 ·have hk':k<ts.length:=by simp at hc;omega
  obtain ⟨x,hx⟩:∃ x,x=ts[k]:=⟨_,rfl⟩
  have hd:ts.drop k=x::ts.drop (k+1):=by rw [hx];exact dcq hk'
  have hg':=aO (f:=(AV.int .i64)) (l:=ts) (k:=k) (x:=x) (by rw [gQq hk',hx])
  have e5:=Yk5 k
  rw [hd] at hR
  unfold ixP at hR
  have hqx:=hq x (by rw [hx];exact gMq hk')
  simp only [go_sem,iNq,ybb,hg',bD]
  (repeat with_reducible refine Yq ?_)
  refine ⟨_,?_,hqx⟩
  try simp only [aj,go_sem]
  try (repeat with_reducible refine Yq ?_)
  refine ah (fun hq=>?_) (fun hq=>?_)
  ·rw [if_pos hq] at hR
   subst hR
   simp only [go_sem]
   exact Z1
  ·rw [if_neg (by rw [hq];decide)] at hR
   simp only [go_sem,e5]
   refine ⟨k+1,⟨by omega,hR⟩,by omega,nrq _,lRq _,hcl,?_,?_⟩
   ·simp [ltF,znf,hm,hf]
   ·simp [aS,wk2,wk1,wkM,Fr.get]
 ·have hk':k=ts.length:=by simp at hc;omega
  subst hk'
  rw [List.drop_length] at hR
  unfold ixP at hR
  subst hR
  simp only [go_sem]
  exact Z1
def uK:List AV→AHeap→(AV→Prop)→Prop
 |[.slice _ 1 l,.func (.func F) fst caps],H,K=>∃ (ts:List Int) (q:Int→Bool),(l=ts.map (AV.int .i64)∧ts.length≤1000000∧∀ x∈ts,ACalls Tryz.prog F (fst++[(AV.int .i64) x]++caps) H (.ret (.bool (q x))) H)∧K (.bool (ts.any q))
 |_,_,_=>False
theorem Dg:EntOk Tryz.prog 279 (Ent.pure uK):=by
 refine Ype fun _ H K h=>?_
 unfold uK at h
 split at h
 rotate_left
 ·exact h.elim
 rename_i m l F fst caps
 obtain ⟨ts,q,⟨rfl,hl,hq⟩,hK⟩:=h
 refine ⟨_,hK,?_⟩
 clear hK
 have hR:=@eg _ q ts 0
 generalize ts.any q=R at *
 refine ACalls.fW ak (tCq C7 tNq) Tryz.func279 [.tmp 4] (nrq _) (T:=ag []) (h:=fun hcl hlt=>?_)
 clear hlt
 simp only [go_sem,uL]
 refine ⟨ts,q,⟨rfl,hl,hq⟩,?_⟩
 simp only [aj,go_sem,hR]
 exact Z1
def zO:List AV→AHeap→(AV→Prop)→Prop
 |[x,.ptr c 0],H,K=>∃ (t:Int) (b:Bool) (F:FuncId) (fst caps:List AV),(x=(AV.int .i64) t∧H.get c=some (.cells [.func (.func F) fst caps])∧∀ H',H.Le H'→H'.Closed→ACalls Tryz.prog F (fst++[(AV.int .i64) t]++caps) H' (.ret (.bool b)) H')∧K (.bool (!b))
 |_,_,_=>False
theorem ok_gLInt:EntOk Tryz.prog 280 (Ent.pure zO):=by
 refine Ype fun _ H K h=>?_
 unfold zO at h
 split at h
 rotate_left
 ·exact h.elim
 rename_i x c
 obtain ⟨t,b,F,fst,caps,⟨rfl,hg,hq⟩,hK⟩:=h
 refine ⟨_,hK,?_⟩
 clear hK
 have hcs:=au hg
 have hl:=glq hg
 have hne:(c=H.nx)=False:=eq_false (by omega)
 refine ACalls.of_aw (Ω:=[(F,Ent.pure (bD Tryz.prog F))]) (T:=ag []) ak (tCq cy tNq) Tryz.func280 (by kernel_rfl) (by rfl) (rs:=[.tmp 3]) (by rfl) (by kernel_rfl) (by simp only [Tryz.ntmps280,yaz,yba];decide) (nrq _) fun hcl hlt=>?_
 change aw _ _ _ (KI Tryz.prog [(F,Ent.pure (bD Tryz.prog F))] (dh Tryz.prog [.tmp 3] H.nx _ _ (ag [])) []) _ _
 have hlx:=hlt _ (List.mem_cons_self)
 clear hlt
 simp only [go_sem,hcs,hne,hg,bD]
 refine ⟨_,?_,hq _ (lRq _) hcl⟩
 try simp only [aj,go_sem]
 exact Z1
def cD:List AV→AHeap→(AV→Prop)→Prop
 |[.slice _ 1 l,.func (.func F) fst caps],H,K=>∃ (ts:List Int) (q:Int→Bool),(l=ts.map (AV.int .i64)∧ts.length≤1000000∧∀ x∈ts,∀ H',H.Le H'→H'.Closed→ACalls Tryz.prog F (fst++[(AV.int .i64) x]++caps) H' (.ret (.bool (q x))) H')∧K (.bool (ts.all q))
 |_,_,_=>False
theorem qq:EntOk Tryz.prog 151 (Ent.pure cD):=by
 refine Ype fun _ H K h=>?_
 unfold cD at h
 split at h
 rotate_left
 ·exact h.elim
 rename_i m l F fst caps
 obtain ⟨ts,q,⟨rfl,hl,hq⟩,hK⟩:=h
 refine ⟨_,hK,?_⟩
 clear hK
 have hR:=@fP _ q ts
 generalize ts.all q=R at *
 refine ACalls.fW ak (tCq Dg tNq) Tryz.func151 [.tmp 4] (nrq _) (T:=ag []) (h:=fun hcl hlt=>?_)
 have hfx:=hlt _ (List.mem_cons_of_mem _ List.mem_cons_self)
 clear hlt
 simp only [go_sem,uK]
 refine ⟨ts,fun x=>!q x,⟨rfl,hl,fun x hx=>?_⟩,?_⟩
 ·obtain ⟨v,hv,hc⟩:=ok_gLInt.1 rfl [(AV.int .i64) x,.ptr H.nx 0] (H.push (.cells [.func (.func F) fst caps])) (fun v=>v=.bool (!q x)) ⟨x,q x,F,fst,caps,⟨rfl,by simp only [go_sem],fun H' h1 h2=>hq x hx H' (((lRq _).push _).trans h1) h2⟩,rfl⟩
  subst hv
  exact hc
 ·rw [hR]
  try simp only [aj,go_sem]
  exact Z1
theorem BO:ti Tryz.prog 22=some ⟨.slice 5,1,24,.slice .nil 1 []⟩:=by kernel_rfl
attribute [go_sem] BO
def yh (c:UInt8):Bool:=decide (97≤c.toNat)&&decide (c.toNat≤122)
def i5 (c:UInt8):Bool:=(decide (48≤c.toNat)&&decide (c.toNat≤57))||decide (c.toNat=95)
def oD:List UInt8→Nat→Bool
 |[],_=>true
 |c::r,i=>(yh c||(!decide (i=0)&&i5 c))&&oD r (i+1)
def dk (s:List UInt8):Bool:=oD s 0&&decide (s≠[])
def iX (s:List UInt8):Bool:=dk s&&decide (s≠[112,114,105,111,114,105,116,121])&&decide (s≠[116,114,117,101])&&decide (s≠[102,97,108,115,101])
def cV:List AV→AHeap→(AV→Prop)→Prop
 |[.str s],_,K=>s.length≤140737488355328∧K (.bool (dk s))
 |_,_,_=>False
theorem jp:EntOk Tryz.prog 99 (Ent.pure cV):=by
 refine Ype fun _ H K h=>?_
 unfold cV at h
 split at h
 rotate_left
 ·exact h.elim
 rename_i s
 obtain ⟨hl,hK⟩:=h
 refine ⟨_,hK,?_⟩
 clear hK
 generalize hR:dk s=R
 unfold dk at hR
 obtain ⟨Q,hQ⟩:∃ Q,oD s 0=Q:=⟨_,rfl⟩
 rw [hQ] at hR
 have dn1:(!true)=false:=rfl
 have dn2:(!false)=true:=rfl
 have lt_bys:∀ n,AV.lt n (.slice .any 1 (s.map bz)):=fun n=>aL fun x=>by simp only [bz,znf]
 refine ACalls.fW ak tNq Tryz.func99 [.tmp 2] (nrq _) (T:=ag []) (h:=fun hcl hlt=>?_)
 clear hlt
 simp only [go_sem]
 refine ⟨by omega,?_⟩
 refine ay (A:=Nat) (fun k=>[(0,.str s),(7,.slice .any 1 (s.map bz)),(8,.int .i64 (s.length:Int)),(9,.int .i64 (k:Int))]) (fun _=>H) (fun k=>k≤s.length∧oD (s.drop k) k=Q) (fun k=>s.length - k) 0 ⟨by omega,hQ⟩ ?_ fun k hk=>?_
 ·refine ⟨by (try simp only [zkq,zkv,zle]);omega,by repeat first|exact .refl _|refine .push ?_ _,hcl,?_,?_⟩
  ·simp [ltF,zle,znn,znf,znh,lt_bys]
   try omega
  ·simp [aS,wk2,wk1,wkM,Fr.get]
 clear hQ
 obtain ⟨hk,hQ⟩:=hk
 simp only [go_sem]
 refine ah (fun hc=>?_) (fun hc=>?_)
 ·have hk':k<s.length:=by simp at hc;omega
  obtain ⟨c,hcx⟩:∃ c,c=s[k]:=⟨_,rfl⟩
  have hd:s.drop k=c::s.drop (k+1):=by rw [hcx];exact dcq hk'
  have hg':=aO (f:=bz) (l:=s) (k:=k) (x:=c) (by rw [gQq hk',hcx])
  have hgs:s.getD k 0=c:=by rw [gEq,gQq hk',hcx];rfl
  have e5:=Yk5 k
  rw [hd] at hQ
  unfold oD at hQ
  by_cases h1:97≤c.toNat
  ·have d1:decide ((c.toNat:Int) ≥ 97)=true:=dtq (by omega)
   by_cases h2:c.toNat≤122
   ·have d2:decide ((c.toNat:Int)≤122)=true:=dtq (by omega)
    have hb:yh c=true:=by unfold yh;rw [dtq h1,dtq h2];rfl
    rw [hb,Bool.true_or,Bool.true_and] at hQ
    simp only [go_sem,iNq,ybb,hg',bz,e5,d1,d2,dn1,dn2]
    try (repeat with_reducible refine Yq ?_)
    refine ⟨k+1,⟨by omega,hQ⟩,by omega,?_⟩
    refine ⟨by (try simp only [zkq,zkv,zle]);omega,by repeat first|exact .refl _|refine .push ?_ _,hcl,?_,?_⟩
    ·simp [ltF,zle,znn,znf,znh,lt_bys]
     try omega
    ·simp [aS,wk2,wk1,wkM,Fr.get]
   ·have d2:decide ((c.toNat:Int)≤122)=false:=dfq (by omega)
    have hb:yh c=false:=by unfold yh;rw [dfq h2,Bool.and_false]
    rw [hb,Bool.false_or] at hQ
    by_cases h0:k=0
    ·have d0:((k:Int)==0)=true:=by rw [h0];rfl
     rw [dtq h0,Bool.not_true,Bool.false_and,Bool.false_and] at hQ
     rw [← hQ,Bool.false_and] at hR
     subst hR
     simp only [go_sem,iNq,ybb,hg',bz,e5,d1,d2,d0,dn1,dn2]
     try (repeat with_reducible refine Yq ?_)
     exact Z1
    have d0:((k:Int)==0)=false:=by simp;omega
    rw [dfq h0,Bool.not_false,Bool.true_and] at hQ
    by_cases h95:c.toNat=95
    ·have d95:((c.toNat:Int) != 95)=false:=by simp;omega
     have d3:decide ((c.toNat:Int)<48)=false:=dfq (by omega)
     have d4:decide ((c.toNat:Int) > 57)=true:=dtq (by omega)
     have hp:i5 c=true:=by unfold i5;rw [dtq h95,Bool.or_true]
     rw [hp,Bool.true_and] at hQ
     simp only [go_sem,iNq,ybb,hg',bz,e5,d1,d2,d0,d95,d3,d4,dn1,dn2]
     try (repeat with_reducible refine Yq ?_)
     refine ⟨k+1,⟨by omega,hQ⟩,by omega,?_⟩
     refine ⟨by (try simp only [zkq,zkv,zle]);omega,by repeat first|exact .refl _|refine .push ?_ _,hcl,?_,?_⟩
     ·simp [ltF,zle,znn,znf,znh,lt_bys]
      try omega
     ·simp [aS,wk2,wk1,wkM,Fr.get]
    have d95:((c.toNat:Int) != 95)=true:=by simp;omega
    by_cases h3:c.toNat<48
    ·have d3:decide ((c.toNat:Int)<48)=true:=dtq (by omega)
     have hp:i5 c=false:=by unfold i5;rw [dfq h95,dfq (by omega),Bool.false_and,Bool.or_false]
     rw [hp,Bool.false_and] at hQ
     rw [← hQ,Bool.false_and] at hR
     subst hR
     simp only [go_sem,iNq,ybb,hg',bz,e5,d1,d2,d0,d95,d3,dn1,dn2]
     try (repeat with_reducible refine Yq ?_)
     exact Z1
    have d3:decide ((c.toNat:Int)<48)=false:=dfq (by omega)
    by_cases h4:57<c.toNat
    ·have d4:decide ((c.toNat:Int) > 57)=true:=dtq (by omega)
     have hp:i5 c=false:=by unfold i5;rw [dfq h95,dfq (show ¬ c.toNat≤57 by omega),Bool.and_false,Bool.or_false]
     rw [hp,Bool.false_and] at hQ
     rw [← hQ,Bool.false_and] at hR
     subst hR
     simp only [go_sem,iNq,ybb,hg',bz,e5,d1,d2,d0,d95,d3,d4,dn1,dn2]
     try (repeat with_reducible refine Yq ?_)
     exact Z1
    have d4:decide ((c.toNat:Int) > 57)=false:=dfq (by omega)
    have hp:i5 c=true:=by unfold i5;rw [dtq (show 48≤c.toNat by omega),dtq (show c.toNat≤57 by omega)];rfl
    rw [hp,Bool.true_and] at hQ
    simp only [go_sem,iNq,ybb,hg',bz,e5,d1,d2,d0,d95,d3,d4,dn1,dn2]
    try (repeat with_reducible refine Yq ?_)
    refine ⟨k+1,⟨by omega,hQ⟩,by omega,?_⟩
    refine ⟨by (try simp only [zkq,zkv,zle]);omega,by repeat first|exact .refl _|refine .push ?_ _,hcl,?_,?_⟩
    ·simp [ltF,zle,znn,znf,znh,lt_bys]
     try omega
    ·simp [aS,wk2,wk1,wkM,Fr.get]
  ·have d1:decide ((c.toNat:Int) ≥ 97)=false:=dfq (by omega)
   have hb:yh c=false:=by unfold yh;rw [dfq h1,Bool.false_and]
   rw [hb,Bool.false_or] at hQ
   by_cases h0:k=0
   ·have d0:((k:Int)==0)=true:=by rw [h0];rfl
    rw [dtq h0,Bool.not_true,Bool.false_and,Bool.false_and] at hQ
    rw [← hQ,Bool.false_and] at hR
    subst hR
    simp only [go_sem,iNq,ybb,hg',bz,e5,d1,d0,dn1,dn2]
    try (repeat with_reducible refine Yq ?_)
    exact Z1
   have d0:((k:Int)==0)=false:=by simp;omega
   rw [dfq h0,Bool.not_false,Bool.true_and] at hQ
   by_cases h95:c.toNat=95
   ·have d95:((c.toNat:Int) != 95)=false:=by simp;omega
    have d3:decide ((c.toNat:Int)<48)=false:=dfq (by omega)
    have d4:decide ((c.toNat:Int) > 57)=true:=dtq (by omega)
    have hp:i5 c=true:=by unfold i5;rw [dtq h95,Bool.or_true]
    rw [hp,Bool.true_and] at hQ
    simp only [go_sem,iNq,ybb,hg',bz,e5,d1,d0,d95,d3,d4,dn1,dn2]
    try (repeat with_reducible refine Yq ?_)
    refine ⟨k+1,⟨by omega,hQ⟩,by omega,?_⟩
    refine ⟨by (try simp only [zkq,zkv,zle]);omega,by repeat first|exact .refl _|refine .push ?_ _,hcl,?_,?_⟩
    ·simp [ltF,zle,znn,znf,znh,lt_bys]
     try omega
    ·simp [aS,wk2,wk1,wkM,Fr.get]
   have d95:((c.toNat:Int) != 95)=true:=by simp;omega
   by_cases h3:c.toNat<48
   ·have d3:decide ((c.toNat:Int)<48)=true:=dtq (by omega)
    have hp:i5 c=false:=by unfold i5;rw [dfq h95,dfq (by omega),Bool.false_and,Bool.or_false]
    rw [hp,Bool.false_and] at hQ
    rw [← hQ,Bool.false_and] at hR
    subst hR
    simp only [go_sem,iNq,ybb,hg',bz,e5,d1,d0,d95,d3,dn1,dn2]
    try (repeat with_reducible refine Yq ?_)
    exact Z1
   have d3:decide ((c.toNat:Int)<48)=false:=dfq (by omega)
   by_cases h4:57<c.toNat
   ·have d4:decide ((c.toNat:Int) > 57)=true:=dtq (by omega)
    have hp:i5 c=false:=by unfold i5;rw [dfq h95,dfq (show ¬ c.toNat≤57 by omega),Bool.and_false,Bool.or_false]
    rw [hp,Bool.false_and] at hQ
    rw [← hQ,Bool.false_and] at hR
    subst hR
    simp only [go_sem,iNq,ybb,hg',bz,e5,d1,d0,d95,d3,d4,dn1,dn2]
    try (repeat with_reducible refine Yq ?_)
    exact Z1
   have d4:decide ((c.toNat:Int) > 57)=false:=dfq (by omega)
   have hp:i5 c=true:=by unfold i5;rw [dtq (show 48≤c.toNat by omega),dtq (show c.toNat≤57 by omega)];rfl
   rw [hp,Bool.true_and] at hQ
   simp only [go_sem,iNq,ybb,hg',bz,e5,d1,d0,d95,d3,d4,dn1,dn2]
   try (repeat with_reducible refine Yq ?_)
   refine ⟨k+1,⟨by omega,hQ⟩,by omega,?_⟩
   refine ⟨by (try simp only [zkq,zkv,zle]);omega,by repeat first|exact .refl _|refine .push ?_ _,hcl,?_,?_⟩
   ·simp [ltF,zle,znn,znf,znh,lt_bys]
    try omega
   ·simp [aS,wk2,wk1,wkM,Fr.get]
 ·have hk':k=s.length:=by simp at hc;omega
  subst hk'
  rw [List.drop_length] at hQ
  unfold oD at hQ
  rw [← hQ,Bool.true_and] at hR
  cases s with
  |nil =>
   have hR':R=false:=by rw [← hR];rfl
   subst hR'
   simp only [go_sem]
   exact Z1
  |cons c r =>
   have hR':R=true:=by rw [← hR];rfl
   subst hR'
   have hne:((c::r) != [])=true:=rfl
   simp only [go_sem,hne]
   exact Z1
def jW:List AV→AHeap→(AV→Prop)→Prop
 |[.str s],_,K=>s.length≤140737488355328∧K (.bool (iX s))
 |_,_,_=>False
theorem xk:EntOk Tryz.prog 106 (Ent.pure jW):=by
 refine Ype fun _ H K h=>?_
 unfold jW at h
 split at h
 rotate_left
 ·exact h.elim
 rename_i s
 obtain ⟨hl,hK⟩:=h
 refine ⟨_,hK,?_⟩
 clear hK
 generalize hR:iX s=R
 unfold iX at hR
 have d1:(s==[112,114,105,111,114,105,116,121])=!decide (s≠[112,114,105,111,114,105,116,121]):=by rw [Bool.eq_iff_iff];simp
 have d2:(s==[116,114,117,101])=!decide (s≠[116,114,117,101]):=by rw [Bool.eq_iff_iff];simp
 have d3:(s==[102,97,108,115,101])=!decide (s≠[102,97,108,115,101]):=by rw [Bool.eq_iff_iff];simp
 generalize decide (s≠[112,114,105,111,114,105,116,121])=b1 at *
 generalize decide (s≠[116,114,117,101])=b2 at *
 generalize decide (s≠[102,97,108,115,101])=b3 at *
 refine ACalls.fW ak (tCq jp tNq) Tryz.func106 [.tmp 2] (nrq _) (T:=ag []) (h:=fun hcl hlt=>?_)
 clear hlt
 simp only [go_sem,cV]
 refine ⟨hl,?_⟩
 generalize dk s=b0 at *
 subst hR
 cases b0<;>cases b1<;>cases b2<;>cases b3<;>(simp only [aj,go_sem,d1,d2,d3,Bool.not_not,Bool.not_true,Bool.not_false,Bool.and_self,Bool.and_true,Bool.true_and,Bool.and_false,Bool.false_and];try simp (disch:=first|exact Zd|omega) [↓zmo,beq,ybc,ybd,ybe,aa,wk,wk2,wk1,wkM,wkL,af,ybf,hcl])
structure SB (S:Sch):Prop where
 sl:SLen S
 gl:S.stages.length≤1000000
 xl:S.refs.length≤1000000
 fn:∀ x∈S.fields,x.name.length≤140737488355328
 hn:∀ x∈S.headers,x.name.length≤140737488355328∧x.fields.length≤1000000
 sn:∀ x∈S.states,x.cases.length≤1000000
 an:∀ x∈S.actions,x.name.length≤140737488355328∧x.params.length≤1000000∧x.body.length≤1000000∧∀ p∈x.params,p.name.length≤140737488355328
 tn:∀ x∈S.tables,x.name.length≤140737488355328∧x.keys.length≤1000000∧x.actions.length≤1000000∧x.dargs.length≤1000000∧∀ k∈x.keys,k.name.length≤140737488355328
 rn:∀ x∈S.roles,x.name.length≤140737488355328∧x.grants.length≤1000000∧x.actions.length≤1000000∧∀ g∈x.grants,g.keys.length≤1000000
def wB (n lo hi:Int):Bool:=decide (lo≤n)&&decide (n≤hi)
def aT:List AV→AHeap→(AV→Prop)→Prop
 |[.int .i64 n,.int .i64 lo,.int .i64 hi],_,K=>K (.bool (wB n lo hi))
 |_,_,_=>False
theorem iL:EntOk Tryz.prog 113 (Ent.pure aT):=by
 refine Ype fun _ H K h=>?_
 unfold aT at h
 split at h
 rotate_left
 ·exact h.elim
 rename_i n lo hi
 refine ⟨_,h,?_⟩
 clear h
 generalize hR:wB n lo hi=R
 unfold wB at hR
 refine ACalls.fW ak tNq Tryz.func113 [.tmp 6] (nrq _) (T:=ag []) (h:=fun hcl hlt=>?_)
 clear hlt
 obtain ⟨b0,e0⟩:∃ b:Bool,(decide (lo≤n))=b:=⟨_,rfl⟩
 have d0:decide (n ≥ lo)=b0:=(show decide (n ≥ lo)=(decide (lo≤n)) from rfl).trans e0
 rw [e0] at hR
 cases b0 with
 |false =>
  rw [Bool.false_and] at hR
  subst hR
  try simp only [aM,aj,bhq,Nat.reduceMod,Nat.reduceDiv,aB,aC,aD,ba,aE,aZ,aV,aX,aW,yaq,yar,yao,yap,go_sem,d0]
  try (repeat with_reducible refine Yq ?_)
  exact Z1
 |true =>
 rw [Bool.true_and] at hR
 obtain ⟨b1,e1⟩:∃ b:Bool,(decide (n≤hi))=b:=⟨_,rfl⟩
 have d1:decide (n≤hi)=b1:=(show decide (n≤hi)=(decide (n≤hi)) from rfl).trans e1
 rw [e1] at hR
 cases b1 with
 |false =>
  subst hR
  try simp only [aM,aj,bhq,Nat.reduceMod,Nat.reduceDiv,aB,aC,aD,ba,aE,aZ,aV,aX,aW,yaq,yar,yao,yap,go_sem,d0,d1]
  try (repeat with_reducible refine Yq ?_)
  exact Z1
 |true =>
 subst hR
 try simp only [aM,aj,bhq,Nat.reduceMod,Nat.reduceDiv,aB,aC,aD,ba,aE,aZ,aV,aX,aW,yaq,yar,yao,yap,go_sem,d0,d1]
 try (repeat with_reducible refine Yq ?_)
 exact Z1
def fp:List AV→AHeap→(AV→Prop)→Prop
 |[.int .i64 n],_,K=>K (.bool (wB n 1 65534))
 |_,_,_=>False
theorem oQ:EntOk Tryz.prog 115 (Ent.pure fp):=by
 refine Ype fun _ H K h=>?_
 unfold fp at h
 split at h
 rotate_left
 ·exact h.elim
 rename_i n
 refine ⟨_,h,?_⟩
 clear h
 refine ACalls.fW ak (tCq iL tNq) Tryz.func115 [.tmp 2] (nrq _) (T:=ag []) (h:=fun hcl hlt=>?_)
 clear hlt
 simp only [aM,aj,bhq,Nat.reduceMod,Nat.reduceDiv,aB,aC,aD,ba,aE,aZ,aV,aX,aW,yaq,yar,yao,yap,go_sem,aT]
 exact Z1
def mf:List AV→AHeap→(AV→Prop)→Prop
 |[.int .i64 n],_,K=>K (.bool (wB n 1 128))
 |_,_,_=>False
theorem xB:EntOk Tryz.prog 116 (Ent.pure mf):=by
 refine Ype fun _ H K h=>?_
 unfold mf at h
 split at h
 rotate_left
 ·exact h.elim
 rename_i n
 refine ⟨_,h,?_⟩
 clear h
 refine ACalls.fW ak (tCq iL tNq) Tryz.func116 [.tmp 2] (nrq _) (T:=ag []) (h:=fun hcl hlt=>?_)
 clear hlt
 simp only [aM,aj,bhq,Nat.reduceMod,Nat.reduceDiv,aB,aC,aD,ba,aE,aZ,aV,aX,aW,yaq,yar,yao,yap,go_sem,aT]
 exact Z1
def sS:List AV→AHeap→(AV→Prop)→Prop
 |[x],H,K=>∃ t:SField,(x=aI t∧t.name.length≤140737488355328)∧K (.bool (dk t.name))
 |_,_,_=>False
theorem ok_eNamed1:EntOk Tryz.prog 98 (Ent.pure sS):=by
 refine Ype fun _ H K h=>?_
 unfold sS at h
 split at h
 rotate_left
 ·exact h.elim
 rename_i x
 obtain ⟨t,⟨rfl,hc⟩,hK⟩:=h
 refine ⟨_,hK,?_⟩
 clear hK
 generalize hR:(dk t.name)=R
 unfold aI
 refine ACalls.fW ak (tCq jp tNq) Tryz.func98 [.tmp 2] (nrq _) (T:=ag []) (h:=fun hcl hlt=>?_)
 clear hlt
 simp only [aM,aj,bhq,Nat.reduceMod,Nat.reduceDiv,aB,aC,aD,ba,aE,aZ,aV,aX,aW,yaq,yar,yao,yap,go_sem,cV]
 refine ⟨hc,?_⟩
 cases c0:dk t.name with
 |false =>
  rw [c0] at hR
  subst hR
  try simp only [aM,aj,bhq,Nat.reduceMod,Nat.reduceDiv,aB,aC,aD,ba,aE,aZ,aV,aX,aW,yaq,yar,yao,yap,go_sem,cV,c0]
  try (repeat with_reducible refine Yq ?_)
  exact Z1
 |true =>
 rw [c0] at hR
 subst hR
 try simp only [aM,aj,bhq,Nat.reduceMod,Nat.reduceDiv,aB,aC,aD,ba,aE,aZ,aV,aX,aW,yaq,yar,yao,yap,go_sem,cV,c0]
 try (repeat with_reducible refine Yq ?_)
 exact Z1
def sP:List AV→AHeap→(AV→Prop)→Prop
 |[x],H,K=>∃ t:SHeader,(x=az t∧t.name.length≤140737488355328)∧K (.bool (dk t.name))
 |_,_,_=>False
theorem ok_eNamed2:EntOk Tryz.prog 101 (Ent.pure sP):=by
 refine Ype fun _ H K h=>?_
 unfold sP at h
 split at h
 rotate_left
 ·exact h.elim
 rename_i x
 obtain ⟨t,⟨rfl,hc⟩,hK⟩:=h
 refine ⟨_,hK,?_⟩
 clear hK
 generalize hR:(dk t.name)=R
 unfold az
 refine ACalls.fW ak (tCq jp tNq) Tryz.func101 [.tmp 2] (nrq _) (T:=ag []) (h:=fun hcl hlt=>?_)
 clear hlt
 simp only [aM,aj,bhq,Nat.reduceMod,Nat.reduceDiv,aB,aC,aD,ba,aE,aZ,aV,aX,aW,yaq,yar,yao,yap,go_sem,cV]
 refine ⟨hc,?_⟩
 cases c0:dk t.name with
 |false =>
  rw [c0] at hR
  subst hR
  try simp only [aM,aj,bhq,Nat.reduceMod,Nat.reduceDiv,aB,aC,aD,ba,aE,aZ,aV,aX,aW,yaq,yar,yao,yap,go_sem,cV,c0]
  try (repeat with_reducible refine Yq ?_)
  exact Z1
 |true =>
 rw [c0] at hR
 subst hR
 try simp only [aM,aj,bhq,Nat.reduceMod,Nat.reduceDiv,aB,aC,aD,ba,aE,aZ,aV,aX,aW,yaq,yar,yao,yap,go_sem,cV,c0]
 try (repeat with_reducible refine Yq ?_)
 exact Z1
def rp:List AV→AHeap→(AV→Prop)→Prop
 |[x],H,K=>∃ t:SParam,(x=bb t∧t.name.length≤140737488355328)∧K (.bool (iX t.name))
 |_,_,_=>False
theorem ok_eNamed31:EntOk Tryz.prog 105 (Ent.pure rp):=by
 refine Ype fun _ H K h=>?_
 unfold rp at h
 split at h
 rotate_left
 ·exact h.elim
 rename_i x
 obtain ⟨t,⟨rfl,hc⟩,hK⟩:=h
 refine ⟨_,hK,?_⟩
 clear hK
 generalize hR:(iX t.name)=R
 unfold bb
 refine ACalls.fW ak (tCq xk tNq) Tryz.func105 [.tmp 2] (nrq _) (T:=ag []) (h:=fun hcl hlt=>?_)
 clear hlt
 simp only [aM,aj,bhq,Nat.reduceMod,Nat.reduceDiv,aB,aC,aD,ba,aE,aZ,aV,aX,aW,yaq,yar,yao,yap,go_sem,jW]
 refine ⟨hc,?_⟩
 cases c0:iX t.name with
 |false =>
  rw [c0] at hR
  subst hR
  try simp only [aM,aj,bhq,Nat.reduceMod,Nat.reduceDiv,aB,aC,aD,ba,aE,aZ,aV,aX,aW,yaq,yar,yao,yap,go_sem,jW,c0]
  try (repeat with_reducible refine Yq ?_)
  exact Z1
 |true =>
 rw [c0] at hR
 subst hR
 try simp only [aM,aj,bhq,Nat.reduceMod,Nat.reduceDiv,aB,aC,aD,ba,aE,aZ,aV,aX,aW,yaq,yar,yao,yap,go_sem,jW,c0]
 try (repeat with_reducible refine Yq ?_)
 exact Z1
def rq:List AV→AHeap→(AV→Prop)→Prop
 |[x],H,K=>∃ t:SKey,(x=br t∧t.name.length≤140737488355328)∧K (.bool (iX t.name))
 |_,_,_=>False
theorem ok_eNamed41:EntOk Tryz.prog 110 (Ent.pure rq):=by
 refine Ype fun _ H K h=>?_
 unfold rq at h
 split at h
 rotate_left
 ·exact h.elim
 rename_i x
 obtain ⟨t,⟨rfl,hc⟩,hK⟩:=h
 refine ⟨_,hK,?_⟩
 clear hK
 generalize hR:(iX t.name)=R
 unfold br
 refine ACalls.fW ak (tCq xk tNq) Tryz.func110 [.tmp 2] (nrq _) (T:=ag []) (h:=fun hcl hlt=>?_)
 clear hlt
 simp only [aM,aj,bhq,Nat.reduceMod,Nat.reduceDiv,aB,aC,aD,ba,aE,aZ,aV,aX,aW,yaq,yar,yao,yap,go_sem,jW]
 refine ⟨hc,?_⟩
 cases c0:iX t.name with
 |false =>
  rw [c0] at hR
  subst hR
  try simp only [aM,aj,bhq,Nat.reduceMod,Nat.reduceDiv,aB,aC,aD,ba,aE,aZ,aV,aX,aW,yaq,yar,yao,yap,go_sem,jW,c0]
  try (repeat with_reducible refine Yq ?_)
  exact Z1
 |true =>
 rw [c0] at hR
 subst hR
 try simp only [aM,aj,bhq,Nat.reduceMod,Nat.reduceDiv,aB,aC,aD,ba,aE,aZ,aV,aX,aW,yaq,yar,yao,yap,go_sem,jW,c0]
 try (repeat with_reducible refine Yq ?_)
 exact Z1
def sI:List AV→AHeap→(AV→Prop)→Prop
 |[x],H,K=>∃ t:SRole,(x=aN t∧t.name.length≤140737488355328)∧K (.bool (dk t.name))
 |_,_,_=>False
theorem ok_eNamed5:EntOk Tryz.prog 112 (Ent.pure sI):=by
 refine Ype fun _ H K h=>?_
 unfold sI at h
 split at h
 rotate_left
 ·exact h.elim
 rename_i x
 obtain ⟨t,⟨rfl,hc⟩,hK⟩:=h
 refine ⟨_,hK,?_⟩
 clear hK
 generalize hR:(dk t.name)=R
 unfold aN
 refine ACalls.fW ak (tCq jp tNq) Tryz.func112 [.tmp 2] (nrq _) (T:=ag []) (h:=fun hcl hlt=>?_)
 clear hlt
 simp only [aM,aj,bhq,Nat.reduceMod,Nat.reduceDiv,aB,aC,aD,ba,aE,aZ,aV,aX,aW,yaq,yar,yao,yap,go_sem,cV]
 refine ⟨hc,?_⟩
 cases c0:dk t.name with
 |false =>
  rw [c0] at hR
  subst hR
  try simp only [aM,aj,bhq,Nat.reduceMod,Nat.reduceDiv,aB,aC,aD,ba,aE,aZ,aV,aX,aW,yaq,yar,yao,yap,go_sem,cV,c0]
  try (repeat with_reducible refine Yq ?_)
  exact Z1
 |true =>
 rw [c0] at hR
 subst hR
 try simp only [aM,aj,bhq,Nat.reduceMod,Nat.reduceDiv,aB,aC,aD,ba,aE,aZ,aV,aX,aW,yaq,yar,yao,yap,go_sem,cV,c0]
 try (repeat with_reducible refine Yq ?_)
 exact Z1
def yT (t:SAction):Bool:=dk t.name&&t.params.all fun p=>iX p.name
def zu (t:STable):Bool:=dk t.name&&t.keys.all fun k=>iX k.name
def th:List AV→AHeap→(AV→Prop)→Prop
 |[x],H,K=>∃ t:SAction,(x=ap t∧(t.name.length≤140737488355328∧t.params.length≤1000000∧∀ p∈t.params,p.name.length≤140737488355328))∧K (.bool (yT t))
 |_,_,_=>False
theorem ok_eNamed3:EntOk Tryz.prog 103 (Ent.pure th):=by
 refine Ype fun _ H K h=>?_
 unfold th at h
 split at h
 rotate_left
 ·exact h.elim
 rename_i x
 obtain ⟨t,⟨rfl,hc⟩,hK⟩:=h
 refine ⟨_,hK,?_⟩
 clear hK
 generalize hR:(yT t)=R
 unfold ap
 refine ACalls.fW ak (tCq jp (tCq xr tNq)) Tryz.func103 [.tmp 2] (nrq _) (T:=ag []) (h:=fun hcl hlt=>?_)
 clear hlt
 unfold yT at hR
 simp only [aM,aj,bhq,Nat.reduceMod,Nat.reduceDiv,aB,aC,aD,ba,aE,aZ,aV,aX,aW,yaq,yar,yao,yap,go_sem,cV]
 refine ⟨hc.1,?_⟩
 cases c0:dk t.name with
 |false =>
  rw [c0,Bool.false_and] at hR
  subst hR
  try simp only [aM,aj,bhq,Nat.reduceMod,Nat.reduceDiv,aB,aC,aD,ba,aE,aZ,aV,aX,aW,yaq,yar,yao,yap,go_sem,cV,c0]
  try (repeat with_reducible refine Yq ?_)
  exact Z1
 |true =>
 rw [c0,Bool.true_and] at hR
 try simp only [aM,aj,bhq,Nat.reduceMod,Nat.reduceDiv,aB,aC,aD,ba,aE,aZ,aV,aX,aW,yaq,yar,yao,yap,go_sem,cV,jP,c0]
 refine ⟨t.params,(fun p=>iX p.name),⟨rfl,hc.2.1,fun x hx H' hle' hcl'=>by
  obtain ⟨v,hv,hc'⟩:=ok_eNamed31.1 rfl [bb x] H' (fun v=>v=.bool ((fun p=>iX p.name) x)) ⟨x,⟨rfl,hc.2.2 x hx⟩,rfl⟩
  subst hv
  exact hc'⟩,?_⟩
 cases c1:t.params.all fun p=>iX p.name with
 |false =>
  rw [c1] at hR
  subst hR
  try simp only [aM,aj,bhq,Nat.reduceMod,Nat.reduceDiv,aB,aC,aD,ba,aE,aZ,aV,aX,aW,yaq,yar,yao,yap,go_sem,cV,jP,c0,c1]
  try (repeat with_reducible refine Yq ?_)
  exact Z1
 |true =>
 rw [c1] at hR
 subst hR
 try simp only [aM,aj,bhq,Nat.reduceMod,Nat.reduceDiv,aB,aC,aD,ba,aE,aZ,aV,aX,aW,yaq,yar,yao,yap,go_sem,cV,jP,c0,c1]
 try (repeat with_reducible refine Yq ?_)
 exact Z1
def sg:List AV→AHeap→(AV→Prop)→Prop
 |[x],H,K=>∃ t:STable,(x=aq t∧(t.name.length≤140737488355328∧t.keys.length≤1000000∧∀ p∈t.keys,p.name.length≤140737488355328))∧K (.bool (zu t))
 |_,_,_=>False
theorem ok_eNamed4:EntOk Tryz.prog 108 (Ent.pure sg):=by
 refine Ype fun _ H K h=>?_
 unfold sg at h
 split at h
 rotate_left
 ·exact h.elim
 rename_i x
 obtain ⟨t,⟨rfl,hc⟩,hK⟩:=h
 refine ⟨_,hK,?_⟩
 clear hK
 generalize hR:(zu t)=R
 unfold aq
 refine ACalls.fW ak (tCq jp (tCq wV tNq)) Tryz.func108 [.tmp 2] (nrq _) (T:=ag []) (h:=fun hcl hlt=>?_)
 clear hlt
 unfold zu at hR
 simp only [aM,aj,bhq,Nat.reduceMod,Nat.reduceDiv,aB,aC,aD,ba,aE,aZ,aV,aX,aW,yaq,yar,yao,yap,go_sem,cV]
 refine ⟨hc.1,?_⟩
 cases c0:dk t.name with
 |false =>
  rw [c0,Bool.false_and] at hR
  subst hR
  try simp only [aM,aj,bhq,Nat.reduceMod,Nat.reduceDiv,aB,aC,aD,ba,aE,aZ,aV,aX,aW,yaq,yar,yao,yap,go_sem,cV,c0]
  try (repeat with_reducible refine Yq ?_)
  exact Z1
 |true =>
 rw [c0,Bool.true_and] at hR
 try simp only [aM,aj,bhq,Nat.reduceMod,Nat.reduceDiv,aB,aC,aD,ba,aE,aZ,aV,aX,aW,yaq,yar,yao,yap,go_sem,cV,gJ,c0]
 refine ⟨t.keys,(fun k=>iX k.name),⟨rfl,hc.2.1,fun x hx H' hle' hcl'=>by
  obtain ⟨v,hv,hc'⟩:=ok_eNamed41.1 rfl [br x] H' (fun v=>v=.bool ((fun k=>iX k.name) x)) ⟨x,⟨rfl,hc.2.2 x hx⟩,rfl⟩
  subst hv
  exact hc'⟩,?_⟩
 cases c1:t.keys.all fun k=>iX k.name with
 |false =>
  rw [c1] at hR
  subst hR
  try simp only [aM,aj,bhq,Nat.reduceMod,Nat.reduceDiv,aB,aC,aD,ba,aE,aZ,aV,aX,aW,yaq,yar,yao,yap,go_sem,cV,gJ,c0,c1]
  try (repeat with_reducible refine Yq ?_)
  exact Z1
 |true =>
 rw [c1] at hR
 subst hR
 try simp only [aM,aj,bhq,Nat.reduceMod,Nat.reduceDiv,aB,aC,aD,ba,aE,aZ,aV,aX,aW,yaq,yar,yao,yap,go_sem,cV,gJ,c0,c1]
 try (repeat with_reducible refine Yq ?_)
 exact Z1
def qo (S:Sch):Bool:=(S.fields.all fun t=>dk t.name)&&((S.headers.all fun t=>dk t.name)&&(S.actions.all yT&&(S.tables.all zu&&S.roles.all fun t=>dk t.name)))
def gx:List AV→AHeap→(AV→Prop)→Prop
 |[.agg l],_,K=>∃ S:Sch,(l=aG S∧SB S)∧K (.bool (qo S))
 |_,_,_=>False
theorem Cl:EntOk Tryz.prog 43 (Ent.pure gx):=by
 refine Ype fun _ H K h=>?_
 unfold gx at h
 split at h
 rotate_left
 ·exact h.elim
 rename_i l
 obtain ⟨S,⟨rfl,hS⟩,hK⟩:=h
 refine ⟨_,hK,?_⟩
 clear hK
 generalize hR:qo S=R
 unfold qo at hR
 refine ACalls.fW ak (tCq xm (tCq nJ (tCq lR (tCq ky (tCq ly tNq))))) Tryz.func43 [.tmp 2] (nrq _) (T:=ag []) (h:=fun hcl hlt=>?_)
 clear hlt
 simp only [aM,aj,bhq,Nat.reduceMod,Nat.reduceDiv,aB,aC,aD,ba,aE,aZ,aV,aX,aW,yaq,yar,yao,yap,go_sem,aG,cZ]
 refine ⟨S.fields,(fun t=>dk t.name),⟨rfl,hS.sl.fl,fun x hx H' hle' hcl'=>by
  obtain ⟨v,hv,hc'⟩:=ok_eNamed1.1 rfl [aI x] H' (fun v=>v=.bool ((fun t=>dk t.name) x)) ⟨x,⟨rfl,hS.fn x hx⟩,rfl⟩
  subst hv
  exact hc'⟩,?_⟩
 cases c0:S.fields.all fun t=>dk t.name with
 |false =>
  rw [c0,Bool.false_and] at hR
  subst hR
  try simp only [aM,aj,bhq,Nat.reduceMod,Nat.reduceDiv,aB,aC,aD,ba,aE,aZ,aV,aX,aW,yaq,yar,yao,yap,go_sem,aG,cZ,c0]
  try (repeat with_reducible refine Yq ?_)
  exact Z1
 |true =>
 rw [c0,Bool.true_and] at hR
 try simp only [aM,aj,bhq,Nat.reduceMod,Nat.reduceDiv,aB,aC,aD,ba,aE,aZ,aV,aX,aW,yaq,yar,yao,yap,go_sem,aG,cZ,bn,c0]
 refine ⟨S.headers,(fun t=>dk t.name),⟨rfl,hS.sl.hl,fun x hx H' hle' hcl'=>by
  obtain ⟨v,hv,hc'⟩:=ok_eNamed2.1 rfl [az x] H' (fun v=>v=.bool ((fun t=>dk t.name) x)) ⟨x,⟨rfl,(hS.hn x hx).1⟩,rfl⟩
  subst hv
  exact hc'⟩,?_⟩
 cases c1:S.headers.all fun t=>dk t.name with
 |false =>
  rw [c1,Bool.false_and] at hR
  subst hR
  try simp only [aM,aj,bhq,Nat.reduceMod,Nat.reduceDiv,aB,aC,aD,ba,aE,aZ,aV,aX,aW,yaq,yar,yao,yap,go_sem,aG,cZ,bn,c0,c1]
  try (repeat with_reducible refine Yq ?_)
  exact Z1
 |true =>
 rw [c1,Bool.true_and] at hR
 try simp only [aM,aj,bhq,Nat.reduceMod,Nat.reduceDiv,aB,aC,aD,ba,aE,aZ,aV,aX,aW,yaq,yar,yao,yap,go_sem,aG,cZ,bn,bk,c0,c1]
 refine ⟨S.actions,yT,⟨rfl,hS.sl.al,fun x hx H' hle' hcl'=>by
  obtain ⟨v,hv,hc'⟩:=ok_eNamed3.1 rfl [ap x] H' (fun v=>v=.bool (yT x)) ⟨x,⟨rfl,⟨(hS.an x hx).1,(hS.an x hx).2.1,(hS.an x hx).2.2.2⟩⟩,rfl⟩
  subst hv
  exact hc'⟩,?_⟩
 cases c2:S.actions.all yT with
 |false =>
  rw [c2,Bool.false_and] at hR
  subst hR
  try simp only [aM,aj,bhq,Nat.reduceMod,Nat.reduceDiv,aB,aC,aD,ba,aE,aZ,aV,aX,aW,yaq,yar,yao,yap,go_sem,aG,cZ,bn,bk,c0,c1,c2]
  try (repeat with_reducible refine Yq ?_)
  exact Z1
 |true =>
 rw [c2,Bool.true_and] at hR
 try simp only [aM,aj,bhq,Nat.reduceMod,Nat.reduceDiv,aB,aC,aD,ba,aE,aZ,aV,aX,aW,yaq,yar,yao,yap,go_sem,aG,cZ,bn,bk,bm,c0,c1,c2]
 refine ⟨S.tables,zu,⟨rfl,hS.sl.tl,fun x hx H' hle' hcl'=>by
  obtain ⟨v,hv,hc'⟩:=ok_eNamed4.1 rfl [aq x] H' (fun v=>v=.bool (zu x)) ⟨x,⟨rfl,⟨(hS.tn x hx).1,(hS.tn x hx).2.1,(hS.tn x hx).2.2.2.2⟩⟩,rfl⟩
  subst hv
  exact hc'⟩,?_⟩
 cases c3:S.tables.all zu with
 |false =>
  rw [c3,Bool.false_and] at hR
  subst hR
  try simp only [aM,aj,bhq,Nat.reduceMod,Nat.reduceDiv,aB,aC,aD,ba,aE,aZ,aV,aX,aW,yaq,yar,yao,yap,go_sem,aG,cZ,bn,bk,bm,c0,c1,c2,c3]
  try (repeat with_reducible refine Yq ?_)
  exact Z1
 |true =>
 rw [c3,Bool.true_and] at hR
 try simp only [aM,aj,bhq,Nat.reduceMod,Nat.reduceDiv,aB,aC,aD,ba,aE,aZ,aV,aX,aW,yaq,yar,yao,yap,go_sem,aG,cZ,bn,bk,bm,bC,c0,c1,c2,c3]
 refine ⟨S.roles,(fun t=>dk t.name),⟨rfl,hS.sl.rl,fun x hx H' hle' hcl'=>by
  obtain ⟨v,hv,hc'⟩:=ok_eNamed5.1 rfl [aN x] H' (fun v=>v=.bool ((fun t=>dk t.name) x)) ⟨x,⟨rfl,(hS.rn x hx).1⟩,rfl⟩
  subst hv
  exact hc'⟩,?_⟩
 cases c4:S.roles.all fun t=>dk t.name with
 |false =>
  rw [c4] at hR
  subst hR
  try simp only [aM,aj,bhq,Nat.reduceMod,Nat.reduceDiv,aB,aC,aD,ba,aE,aZ,aV,aX,aW,yaq,yar,yao,yap,go_sem,aG,cZ,bn,bk,bm,bC,c0,c1,c2,c3,c4]
  try (repeat with_reducible refine Yq ?_)
  exact Z1
 |true =>
 rw [c4] at hR
 subst hR
 try simp only [aM,aj,bhq,Nat.reduceMod,Nat.reduceDiv,aB,aC,aD,ba,aE,aZ,aV,aX,aW,yaq,yar,yao,yap,go_sem,aG,cZ,bn,bk,bm,bC,c0,c1,c2,c3,c4]
 try (repeat with_reducible refine Yq ?_)
 exact Z1
theorem kJ {n:Nat}:decide ((n:Int) > 0)=decide (0<n):=by simp
def nm1 (t:SField):Bool:=wB t.id 1 65534&&wB t.bits 1 128
def nm2 (t:SHeader):Bool:=wB t.id 1 65534&&decide (0<t.fields.length)
def nm4 (t:SAction):Bool:=wB t.id 1 65534&&t.params.all fun p=>wB p.bits 1 128
def nm5 (t:STable):Bool:=wB t.id 1 65534&&(wB t.size 1 64&&decide (0<t.keys.length))
def nm6 (t:SRole):Bool:=wB t.id 1 65534&&decide (t.quota≤512)
def yk (S:Sch):Bool:=wB S.maxBatch 1 32&&(wB S.budget 1 200&&(S.fields.all nm1&&(S.headers.all nm2&&((S.states.all fun t=>wB t.id 1 65534)&&(S.actions.all nm4&&(S.tables.all nm5&&S.roles.all nm6))))))
def zX:List AV→AHeap→(AV→Prop)→Prop
 |[x],H,K=>∃ t:SField,(x=aI t)∧K (.bool (nm1 t))
 |_,_,_=>False
theorem ok_eNum1:EntOk Tryz.prog 114 (Ent.pure zX):=by
 refine Ype fun _ H K h=>?_
 unfold zX at h
 split at h
 rotate_left
 ·exact h.elim
 rename_i x
 obtain ⟨t,rfl,hK⟩:=h
 refine ⟨_,hK,?_⟩
 clear hK
 generalize hR:(nm1 t)=R
 unfold aI
 refine ACalls.fW ak (tCq oQ (tCq xB tNq)) Tryz.func114 [.tmp 2] (nrq _) (T:=ag []) (h:=fun hcl hlt=>?_)
 clear hlt
 unfold nm1 at hR
 cases c0:wB t.id 1 65534 with
 |false =>
  rw [c0,Bool.false_and] at hR
  subst hR
  try simp only [aM,aj,bhq,Nat.reduceMod,Nat.reduceDiv,aB,aC,aD,ba,aE,aZ,aV,aX,aW,yaq,yar,yao,yap,go_sem,fp,c0]
  try (repeat with_reducible refine Yq ?_)
  exact Z1
 |true =>
 rw [c0,Bool.true_and] at hR
 cases c1:wB t.bits 1 128 with
 |false =>
  rw [c1] at hR
  subst hR
  try simp only [aM,aj,bhq,Nat.reduceMod,Nat.reduceDiv,aB,aC,aD,ba,aE,aZ,aV,aX,aW,yaq,yar,yao,yap,go_sem,fp,mf,c0,c1]
  try (repeat with_reducible refine Yq ?_)
  exact Z1
 |true =>
 rw [c1] at hR
 subst hR
 try simp only [aM,aj,bhq,Nat.reduceMod,Nat.reduceDiv,aB,aC,aD,ba,aE,aZ,aV,aX,aW,yaq,yar,yao,yap,go_sem,fp,mf,c0,c1]
 try (repeat with_reducible refine Yq ?_)
 exact Z1
def z8:List AV→AHeap→(AV→Prop)→Prop
 |[x],H,K=>∃ t:SHeader,(x=az t)∧K (.bool (nm2 t))
 |_,_,_=>False
theorem ok_eNum2:EntOk Tryz.prog 117 (Ent.pure z8):=by
 refine Ype fun _ H K h=>?_
 unfold z8 at h
 split at h
 rotate_left
 ·exact h.elim
 rename_i x
 obtain ⟨t,rfl,hK⟩:=h
 refine ⟨_,hK,?_⟩
 clear hK
 generalize hR:(nm2 t)=R
 unfold az
 refine ACalls.fW ak (tCq oQ tNq) Tryz.func117 [.tmp 2] (nrq _) (T:=ag []) (h:=fun hcl hlt=>?_)
 clear hlt
 unfold nm2 at hR
 cases c0:wB t.id 1 65534 with
 |false =>
  rw [c0,Bool.false_and] at hR
  subst hR
  try simp only [aM,aj,bhq,Nat.reduceMod,Nat.reduceDiv,aB,aC,aD,ba,aE,aZ,aV,aX,aW,yaq,yar,yao,yap,go_sem,ybb,kJ,inL,fp,c0]
  try (repeat with_reducible refine Yq ?_)
  exact Z1
 |true =>
 rw [c0,Bool.true_and] at hR
 cases c1:decide (0<t.fields.length) with
 |false =>
  rw [c1] at hR
  subst hR
  try simp only [aM,aj,bhq,Nat.reduceMod,Nat.reduceDiv,aB,aC,aD,ba,aE,aZ,aV,aX,aW,yaq,yar,yao,yap,go_sem,ybb,kJ,inL,fp,fp,c0,c1]
  try (repeat with_reducible refine Yq ?_)
  exact Z1
 |true =>
 rw [c1] at hR
 subst hR
 try simp only [aM,aj,bhq,Nat.reduceMod,Nat.reduceDiv,aB,aC,aD,ba,aE,aZ,aV,aX,aW,yaq,yar,yao,yap,go_sem,ybb,kJ,inL,fp,fp,c0,c1]
 try (repeat with_reducible refine Yq ?_)
 exact Z1
def Aa:List AV→AHeap→(AV→Prop)→Prop
 |[x],H,K=>∃ t:SState,(x=aH t)∧K (.bool (wB t.id 1 65534))
 |_,_,_=>False
theorem ok_eNum3:EntOk Tryz.prog 119 (Ent.pure Aa):=by
 refine Ype fun _ H K h=>?_
 unfold Aa at h
 split at h
 rotate_left
 ·exact h.elim
 rename_i x
 obtain ⟨t,rfl,hK⟩:=h
 refine ⟨_,hK,?_⟩
 clear hK
 generalize hR:(wB t.id 1 65534)=R
 unfold aH
 refine ACalls.fW ak (tCq oQ tNq) Tryz.func119 [.tmp 2] (nrq _) (T:=ag []) (h:=fun hcl hlt=>?_)
 clear hlt
 cases c0:wB t.id 1 65534 with
 |false =>
  rw [c0] at hR
  subst hR
  try simp only [aM,aj,bhq,Nat.reduceMod,Nat.reduceDiv,aB,aC,aD,ba,aE,aZ,aV,aX,aW,yaq,yar,yao,yap,go_sem,fp,c0]
  try (repeat with_reducible refine Yq ?_)
  exact Z1
 |true =>
 rw [c0] at hR
 subst hR
 try simp only [aM,aj,bhq,Nat.reduceMod,Nat.reduceDiv,aB,aC,aD,ba,aE,aZ,aV,aX,aW,yaq,yar,yao,yap,go_sem,fp,c0]
 try (repeat with_reducible refine Yq ?_)
 exact Z1
def xp:List AV→AHeap→(AV→Prop)→Prop
 |[x],H,K=>∃ t:SParam,(x=bb t)∧K (.bool (wB t.bits 1 128))
 |_,_,_=>False
theorem ok_eNum41:EntOk Tryz.prog 121 (Ent.pure xp):=by
 refine Ype fun _ H K h=>?_
 unfold xp at h
 split at h
 rotate_left
 ·exact h.elim
 rename_i x
 obtain ⟨t,rfl,hK⟩:=h
 refine ⟨_,hK,?_⟩
 clear hK
 generalize hR:(wB t.bits 1 128)=R
 unfold bb
 refine ACalls.fW ak (tCq xB tNq) Tryz.func121 [.tmp 2] (nrq _) (T:=ag []) (h:=fun hcl hlt=>?_)
 clear hlt
 cases c0:wB t.bits 1 128 with
 |false =>
  rw [c0] at hR
  subst hR
  try simp only [aM,aj,bhq,Nat.reduceMod,Nat.reduceDiv,aB,aC,aD,ba,aE,aZ,aV,aX,aW,yaq,yar,yao,yap,go_sem,mf,c0]
  try (repeat with_reducible refine Yq ?_)
  exact Z1
 |true =>
 rw [c0] at hR
 subst hR
 try simp only [aM,aj,bhq,Nat.reduceMod,Nat.reduceDiv,aB,aC,aD,ba,aE,aZ,aV,aX,aW,yaq,yar,yao,yap,go_sem,mf,c0]
 try (repeat with_reducible refine Yq ?_)
 exact Z1
def z5:List AV→AHeap→(AV→Prop)→Prop
 |[x],H,K=>∃ t:SAction,(x=ap t∧t.params.length≤1000000)∧K (.bool (nm4 t))
 |_,_,_=>False
theorem ok_eNum4:EntOk Tryz.prog 120 (Ent.pure z5):=by
 refine Ype fun _ H K h=>?_
 unfold z5 at h
 split at h
 rotate_left
 ·exact h.elim
 rename_i x
 obtain ⟨t,⟨rfl,hc⟩,hK⟩:=h
 refine ⟨_,hK,?_⟩
 clear hK
 generalize hR:(nm4 t)=R
 unfold ap
 refine ACalls.fW ak (tCq oQ (tCq xr tNq)) Tryz.func120 [.tmp 2] (nrq _) (T:=ag []) (h:=fun hcl hlt=>?_)
 clear hlt
 unfold nm4 at hR
 cases c0:wB t.id 1 65534 with
 |false =>
  rw [c0,Bool.false_and] at hR
  subst hR
  try simp only [aM,aj,bhq,Nat.reduceMod,Nat.reduceDiv,aB,aC,aD,ba,aE,aZ,aV,aX,aW,yaq,yar,yao,yap,go_sem,fp,c0]
  try (repeat with_reducible refine Yq ?_)
  exact Z1
 |true =>
 rw [c0,Bool.true_and] at hR
 simp only [aM,aj,bhq,Nat.reduceMod,Nat.reduceDiv,aB,aC,aD,ba,aE,aZ,aV,aX,aW,yaq,yar,yao,yap,go_sem,fp,jP,c0]
 refine ⟨t.params,(fun p=>wB p.bits 1 128),⟨rfl,hc,fun x hx H' hle' hcl'=>by
  obtain ⟨v,hv,hc'⟩:=ok_eNum41.1 rfl [bb x] H' (fun v=>v=.bool ((fun p=>wB p.bits 1 128) x)) ⟨x,rfl,rfl⟩
  subst hv
  exact hc'⟩,?_⟩
 cases c1:t.params.all fun p=>wB p.bits 1 128 with
 |false =>
  rw [c1] at hR
  subst hR
  try simp only [aM,aj,bhq,Nat.reduceMod,Nat.reduceDiv,aB,aC,aD,ba,aE,aZ,aV,aX,aW,yaq,yar,yao,yap,go_sem,fp,jP,c0,c1]
  try (repeat with_reducible refine Yq ?_)
  exact Z1
 |true =>
 rw [c1] at hR
 subst hR
 try simp only [aM,aj,bhq,Nat.reduceMod,Nat.reduceDiv,aB,aC,aD,ba,aE,aZ,aV,aX,aW,yaq,yar,yao,yap,go_sem,fp,jP,c0,c1]
 try (repeat with_reducible refine Yq ?_)
 exact Z1
def zU:List AV→AHeap→(AV→Prop)→Prop
 |[x],H,K=>∃ t:STable,(x=aq t)∧K (.bool (nm5 t))
 |_,_,_=>False
theorem ok_eNum5:EntOk Tryz.prog 122 (Ent.pure zU):=by
 refine Ype fun _ H K h=>?_
 unfold zU at h
 split at h
 rotate_left
 ·exact h.elim
 rename_i x
 obtain ⟨t,rfl,hK⟩:=h
 refine ⟨_,hK,?_⟩
 clear hK
 generalize hR:(nm5 t)=R
 unfold aq
 refine ACalls.fW ak (tCq oQ (tCq iL tNq)) Tryz.func122 [.tmp 2] (nrq _) (T:=ag []) (h:=fun hcl hlt=>?_)
 clear hlt
 unfold nm5 at hR
 cases c0:wB t.id 1 65534 with
 |false =>
  rw [c0,Bool.false_and] at hR
  subst hR
  try simp only [aM,aj,bhq,Nat.reduceMod,Nat.reduceDiv,aB,aC,aD,ba,aE,aZ,aV,aX,aW,yaq,yar,yao,yap,go_sem,ybb,kJ,inL,fp,c0]
  try (repeat with_reducible refine Yq ?_)
  exact Z1
 |true =>
 rw [c0,Bool.true_and] at hR
 cases c1:wB t.size 1 64 with
 |false =>
  rw [c1,Bool.false_and] at hR
  subst hR
  try simp only [aM,aj,bhq,Nat.reduceMod,Nat.reduceDiv,aB,aC,aD,ba,aE,aZ,aV,aX,aW,yaq,yar,yao,yap,go_sem,ybb,kJ,inL,fp,aT,c0,c1]
  try (repeat with_reducible refine Yq ?_)
  exact Z1
 |true =>
 rw [c1,Bool.true_and] at hR
 cases c2:decide (0<t.keys.length) with
 |false =>
  rw [c2] at hR
  subst hR
  try simp only [aM,aj,bhq,Nat.reduceMod,Nat.reduceDiv,aB,aC,aD,ba,aE,aZ,aV,aX,aW,yaq,yar,yao,yap,go_sem,ybb,kJ,inL,fp,aT,fp,c0,c1,c2]
  try (repeat with_reducible refine Yq ?_)
  exact Z1
 |true =>
 rw [c2] at hR
 subst hR
 try simp only [aM,aj,bhq,Nat.reduceMod,Nat.reduceDiv,aB,aC,aD,ba,aE,aZ,aV,aX,aW,yaq,yar,yao,yap,go_sem,ybb,kJ,inL,fp,aT,fp,c0,c1,c2]
 try (repeat with_reducible refine Yq ?_)
 exact Z1
def z0:List AV→AHeap→(AV→Prop)→Prop
 |[x],H,K=>∃ t:SRole,(x=aN t)∧K (.bool (nm6 t))
 |_,_,_=>False
theorem ok_eNum6:EntOk Tryz.prog 123 (Ent.pure z0):=by
 refine Ype fun _ H K h=>?_
 unfold z0 at h
 split at h
 rotate_left
 ·exact h.elim
 rename_i x
 obtain ⟨t,rfl,hK⟩:=h
 refine ⟨_,hK,?_⟩
 clear hK
 generalize hR:(nm6 t)=R
 unfold aN
 refine ACalls.fW ak (tCq oQ tNq) Tryz.func123 [.tmp 2] (nrq _) (T:=ag []) (h:=fun hcl hlt=>?_)
 clear hlt
 unfold nm6 at hR
 cases c0:wB t.id 1 65534 with
 |false =>
  rw [c0,Bool.false_and] at hR
  subst hR
  try simp only [aM,aj,bhq,Nat.reduceMod,Nat.reduceDiv,aB,aC,aD,ba,aE,aZ,aV,aX,aW,yaq,yar,yao,yap,go_sem,fp,c0]
  try (repeat with_reducible refine Yq ?_)
  exact Z1
 |true =>
 rw [c0,Bool.true_and] at hR
 cases c1:decide (t.quota≤512) with
 |false =>
  rw [c1] at hR
  subst hR
  try simp only [aM,aj,bhq,Nat.reduceMod,Nat.reduceDiv,aB,aC,aD,ba,aE,aZ,aV,aX,aW,yaq,yar,yao,yap,go_sem,fp,fp,c0,c1]
  try (repeat with_reducible refine Yq ?_)
  exact Z1
 |true =>
 rw [c1] at hR
 subst hR
 try simp only [aM,aj,bhq,Nat.reduceMod,Nat.reduceDiv,aB,aC,aD,ba,aE,aZ,aV,aX,aW,yaq,yar,yao,yap,go_sem,fp,fp,c0,c1]
 try (repeat with_reducible refine Yq ?_)
 exact Z1
def kW:List AV→AHeap→(AV→Prop)→Prop
 |[.agg l],_,K=>∃ S:Sch,(l=aG S∧SB S)∧K (.bool (yk S))
 |_,_,_=>False
theorem I4:EntOk Tryz.prog 44 (Ent.pure kW):=by
 refine Ype fun _ H K h=>?_
 unfold kW at h
 split at h
 rotate_left
 ·exact h.elim
 rename_i l
 obtain ⟨S,⟨rfl,hS⟩,hK⟩:=h
 refine ⟨_,hK,?_⟩
 clear hK
 generalize hR:yk S=R
 unfold yk at hR
 refine ACalls.fW ak (tCq iL (tCq xm (tCq nJ (tCq nV (tCq lR (tCq ky (tCq ly tNq))))))) Tryz.func44 [.tmp 2] (nrq _) (T:=ag []) (h:=fun hcl hlt=>?_)
 clear hlt
 cases c0:wB S.maxBatch 1 32 with
 |false =>
  rw [c0,Bool.false_and] at hR
  subst hR
  try simp only [aM,aj,bhq,Nat.reduceMod,Nat.reduceDiv,aB,aC,aD,ba,aE,aZ,aV,aX,aW,yaq,yar,yao,yap,go_sem,aG,aT,c0]
  try (repeat with_reducible refine Yq ?_)
  exact Z1
 |true =>
 rw [c0,Bool.true_and] at hR
 cases c1:wB S.budget 1 200 with
 |false =>
  rw [c1,Bool.false_and] at hR
  subst hR
  try simp only [aM,aj,bhq,Nat.reduceMod,Nat.reduceDiv,aB,aC,aD,ba,aE,aZ,aV,aX,aW,yaq,yar,yao,yap,go_sem,aG,aT,aT,c0,c1]
  try (repeat with_reducible refine Yq ?_)
  exact Z1
 |true =>
 rw [c1,Bool.true_and] at hR
 simp only [aM,aj,bhq,Nat.reduceMod,Nat.reduceDiv,aB,aC,aD,ba,aE,aZ,aV,aX,aW,yaq,yar,yao,yap,go_sem,aG,aT,aT,cZ,c0,c1]
 refine ⟨S.fields,nm1,⟨rfl,hS.sl.fl,fun x hx H' hle' hcl'=>by
  obtain ⟨v,hv,hc'⟩:=ok_eNum1.1 rfl [aI x] H' (fun v=>v=.bool (nm1 x)) ⟨x,rfl,rfl⟩
  subst hv
  exact hc'⟩,?_⟩
 cases c2:S.fields.all nm1 with
 |false =>
  rw [c2,Bool.false_and] at hR
  subst hR
  try simp only [aM,aj,bhq,Nat.reduceMod,Nat.reduceDiv,aB,aC,aD,ba,aE,aZ,aV,aX,aW,yaq,yar,yao,yap,go_sem,aG,aT,aT,cZ,c0,c1,c2]
  try (repeat with_reducible refine Yq ?_)
  exact Z1
 |true =>
 rw [c2,Bool.true_and] at hR
 try simp only [aM,aj,bhq,Nat.reduceMod,Nat.reduceDiv,aB,aC,aD,ba,aE,aZ,aV,aX,aW,yaq,yar,yao,yap,go_sem,aG,aT,aT,cZ,bn,c0,c1,c2]
 refine ⟨S.headers,nm2,⟨rfl,hS.sl.hl,fun x hx H' hle' hcl'=>by
  obtain ⟨v,hv,hc'⟩:=ok_eNum2.1 rfl [az x] H' (fun v=>v=.bool (nm2 x)) ⟨x,rfl,rfl⟩
  subst hv
  exact hc'⟩,?_⟩
 cases c3:S.headers.all nm2 with
 |false =>
  rw [c3,Bool.false_and] at hR
  subst hR
  try simp only [aM,aj,bhq,Nat.reduceMod,Nat.reduceDiv,aB,aC,aD,ba,aE,aZ,aV,aX,aW,yaq,yar,yao,yap,go_sem,aG,aT,aT,cZ,bn,c0,c1,c2,c3]
  try (repeat with_reducible refine Yq ?_)
  exact Z1
 |true =>
 rw [c3,Bool.true_and] at hR
 try simp only [aM,aj,bhq,Nat.reduceMod,Nat.reduceDiv,aB,aC,aD,ba,aE,aZ,aV,aX,aW,yaq,yar,yao,yap,go_sem,aG,aT,aT,cZ,bn,bq,c0,c1,c2,c3]
 refine ⟨S.states,(fun t=>wB t.id 1 65534),⟨rfl,hS.sl.sl,fun x hx H' hle' hcl'=>by
  obtain ⟨v,hv,hc'⟩:=ok_eNum3.1 rfl [aH x] H' (fun v=>v=.bool ((fun t=>wB t.id 1 65534) x)) ⟨x,rfl,rfl⟩
  subst hv
  exact hc'⟩,?_⟩
 cases c4:S.states.all fun t=>wB t.id 1 65534 with
 |false =>
  rw [c4,Bool.false_and] at hR
  subst hR
  try simp only [aM,aj,bhq,Nat.reduceMod,Nat.reduceDiv,aB,aC,aD,ba,aE,aZ,aV,aX,aW,yaq,yar,yao,yap,go_sem,aG,aT,aT,cZ,bn,bq,c0,c1,c2,c3,c4]
  try (repeat with_reducible refine Yq ?_)
  exact Z1
 |true =>
 rw [c4,Bool.true_and] at hR
 try simp only [aM,aj,bhq,Nat.reduceMod,Nat.reduceDiv,aB,aC,aD,ba,aE,aZ,aV,aX,aW,yaq,yar,yao,yap,go_sem,aG,aT,aT,cZ,bn,bq,bk,c0,c1,c2,c3,c4]
 refine ⟨S.actions,nm4,⟨rfl,hS.sl.al,fun x hx H' hle' hcl'=>by
  obtain ⟨v,hv,hc'⟩:=ok_eNum4.1 rfl [ap x] H' (fun v=>v=.bool (nm4 x)) ⟨x,⟨rfl,(hS.an x hx).2.1⟩,rfl⟩
  subst hv
  exact hc'⟩,?_⟩
 cases c5:S.actions.all nm4 with
 |false =>
  rw [c5,Bool.false_and] at hR
  subst hR
  try simp only [aM,aj,bhq,Nat.reduceMod,Nat.reduceDiv,aB,aC,aD,ba,aE,aZ,aV,aX,aW,yaq,yar,yao,yap,go_sem,aG,aT,aT,cZ,bn,bq,bk,c0,c1,c2,c3,c4,c5]
  try (repeat with_reducible refine Yq ?_)
  exact Z1
 |true =>
 rw [c5,Bool.true_and] at hR
 try simp only [aM,aj,bhq,Nat.reduceMod,Nat.reduceDiv,aB,aC,aD,ba,aE,aZ,aV,aX,aW,yaq,yar,yao,yap,go_sem,aG,aT,aT,cZ,bn,bq,bk,bm,c0,c1,c2,c3,c4,c5]
 refine ⟨S.tables,nm5,⟨rfl,hS.sl.tl,fun x hx H' hle' hcl'=>by
  obtain ⟨v,hv,hc'⟩:=ok_eNum5.1 rfl [aq x] H' (fun v=>v=.bool (nm5 x)) ⟨x,rfl,rfl⟩
  subst hv
  exact hc'⟩,?_⟩
 cases c6:S.tables.all nm5 with
 |false =>
  rw [c6,Bool.false_and] at hR
  subst hR
  try simp only [aM,aj,bhq,Nat.reduceMod,Nat.reduceDiv,aB,aC,aD,ba,aE,aZ,aV,aX,aW,yaq,yar,yao,yap,go_sem,aG,aT,aT,cZ,bn,bq,bk,bm,c0,c1,c2,c3,c4,c5,c6]
  try (repeat with_reducible refine Yq ?_)
  exact Z1
 |true =>
 rw [c6,Bool.true_and] at hR
 try simp only [aM,aj,bhq,Nat.reduceMod,Nat.reduceDiv,aB,aC,aD,ba,aE,aZ,aV,aX,aW,yaq,yar,yao,yap,go_sem,aG,aT,aT,cZ,bn,bq,bk,bm,bC,c0,c1,c2,c3,c4,c5,c6]
 refine ⟨S.roles,nm6,⟨rfl,hS.sl.rl,fun x hx H' hle' hcl'=>by
  obtain ⟨v,hv,hc'⟩:=ok_eNum6.1 rfl [aN x] H' (fun v=>v=.bool (nm6 x)) ⟨x,rfl,rfl⟩
  subst hv
  exact hc'⟩,?_⟩
 cases c7:S.roles.all nm6 with
 |false =>
  rw [c7] at hR
  subst hR
  try simp only [aM,aj,bhq,Nat.reduceMod,Nat.reduceDiv,aB,aC,aD,ba,aE,aZ,aV,aX,aW,yaq,yar,yao,yap,go_sem,aG,aT,aT,cZ,bn,bq,bk,bm,bC,c0,c1,c2,c3,c4,c5,c6,c7]
  try (repeat with_reducible refine Yq ?_)
  exact Z1
 |true =>
 rw [c7] at hR
 subst hR
 try simp only [aM,aj,bhq,Nat.reduceMod,Nat.reduceDiv,aB,aC,aD,ba,aE,aZ,aV,aX,aW,yaq,yar,yao,yap,go_sem,aG,aT,aT,cZ,bn,bq,bk,bm,bC,c0,c1,c2,c3,c4,c5,c6,c7]
 try (repeat with_reducible refine Yq ?_)
 exact Z1
end Go.AL
