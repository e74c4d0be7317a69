/- Lemmas of the proof; no condition. -/
import Derived.Test.YthhmookokgiemaaGreatE04d
import Derived.Test.YthhmookokgiemaaGreatAlMap
set_option linter.all false
set_option maxRecDepth 10000
set_option maxHeartbeats 32000000
open List renaming map_cons → yae, length_cons → yaz, length_nil → yba, length_map → ybb, take_of_length_le → ybc, drop_append → ybd, take_append → ybe, drop_eq_nil_of_le → ybf
open Go Go.AL Go.Proofs
namespace Go.AL
theorem FT:ti Tryz.prog 233=some ⟨.map 3 4,1,8,.nilm⟩:=by kernel_rfl
theorem Fc:ti Tryz.prog 346=some ⟨.map 9 4,1,8,.nilm⟩:=by kernel_rfl
theorem II:ti Tryz.prog 3=some ⟨.int .i64,1,8,.int .i64 0⟩:=by kernel_rfl
theorem At:ti Tryz.prog 9=some ⟨.string,1,16,.str []⟩:=by kernel_rfl
attribute [go_sem] FT Fc II At
def dsF {α:Type} [BEq α]:List α→List α→Bool
 |_,[]=>true
 |s,x::l=>!s.contains x&&dsF (x::s) l
def cj {α:Type} (key:α→AV) (l:List α):List (AV × AV):=l.map fun v=>(key v,.bool true)
def i64 (n:Int):Prop := -9223372036854775808≤n∧n≤9223372036854775807
def Gh (s:List UInt8):Prop:=s.length≤140737488355328
theorem fu {α:Type} {P:Program} {t:TypeId} {key:α→AV} {l:List α} {g:α→Prop} (hg:∀ v,g v→fk P t (key v)) (h:∀ v∈l,g v):∀ p∈cj key l,fk P t p.1:=by
 intro p hp
 obtain ⟨v,hv,rfl⟩:=List.mem_map.1 hp
 exact hg v (h v hv)
theorem gZ (l:List Int) (x:Int):gu (cj (AV.int .i64) l) (.int .i64 x)=if l.contains x then some (.bool true) else none:=by
 induction l with
 |nil=>rfl
 |cons v l ih =>
  unfold cj at ih ⊢
  rw [yae,gu,ih,List.contains_cons]
  by_cases h:v=x
  ·subst h;simp [feq,mB]
  ·have h':(x==v)=false:=by simp;exact fun e=>h e.symm
   rw [h',Bool.false_or]
   simp [feq,mB,h]
theorem tj (l:List (List UInt8)) (x:List UInt8):gu (cj AV.str l) (.str x)=if l.contains x then some (.bool true) else none:=by
 induction l with
 |nil=>rfl
 |cons v l ih =>
  unfold cj at ih ⊢
  rw [yae,gu,ih,List.contains_cons]
  by_cases h:v=x
  ·subst h;simp [feq,mB]
  ·have h':(x==v)=false:=by simp;exact fun e=>h e.symm
   rw [h',Bool.false_or]
   simp [feq,mB,h]
theorem AQ:(Tryz.prog).underlying 3=some (.int .i64):=by kernel_rfl
theorem AP:(Tryz.prog).underlying 9=some .string:=by kernel_rfl
theorem da:Maps.Keyed Tryz.prog 3:=Maps.int_keyed AQ
theorem oG:Maps.Keyed Tryz.prog 9:=Maps.string_keyed AP
theorem bJ (n:Int) (h:i64 n):fk Tryz.prog 3 (.int .i64 n):=by
 have h1:=h.1
 have h2:=h.2
 refine ⟨.int .i64 n,?_⟩
 show keyOf _ _ (Value.int .i64 n)=_
 unfold keyOf mapKey
 simp only [AQ]
 rw [if_pos]
 refine ⟨trivial,?_⟩
 simp [Lit.wf]
 exact ⟨h1,h2⟩
theorem i6 (s:List UInt8) (h:Gh s):fk Tryz.prog 9 (.str s):=by
 refine ⟨.string s,?_⟩
 show keyOf _ _ (Value.string ⟨s.toArray⟩)=_
 unfold keyOf mapKey
 simp only [AP]
 have hm:(140737488355328:Nat)≤maxLen:=by decide
 have h1:s.length≤140737488355328:=h
 rw [if_pos (by simp only [ByteArray.size,List.size_toArray];omega)]
def dw:List AV→AHeap→(AV→Prop)→Prop
 |[.slice _ 3 l,.func (.func F) fst caps],H,K=>∃ (ts:List SField) (f:SField→Int),(l=ts.map aI∧ts.length≤1000000∧∀ x∈ts,i64 (f x)∧∀ H',H.Le H'→H'.Closed→ACalls Tryz.prog F (fst++[aI x]++caps) H' (.ret ((AV.int .i64) (f x))) H')∧K (.bool (dsF [] (ts.map f)))
 |_,_,_=>False
theorem GH:EntOk Tryz.prog 124 (Ent.pure dw):=by
 refine Ype fun _ H K h=>?_
 unfold dw at h
 split at h
 rotate_left
 ·exact h.elim
 rename_i m l F fst caps
 obtain ⟨ts,f,⟨rfl,hl,hq⟩,hK⟩:=h
 refine ⟨_,hK,?_⟩
 clear hK
 generalize hR:dsF [] (ts.map f)=R
 refine ACalls.of_aw (Ω:=[(F,Ent.pure (bD Tryz.prog F))]) (T:=ag []) ak (tCq cy tNq) Tryz.func124 (by kernel_rfl) (by rfl) (rs:=[.tmp 4]) (by rfl) (by kernel_rfl) (by simp only [Tryz.ntmps124,yaz,yba];decide) (nrq _) fun hcl hlt=>?_
 change aw _ _ _ (KI Tryz.prog [(F,Ent.pure (bD Tryz.prog F))] (dh Tryz.prog [.tmp 4] H.nx _ _ (ag [])) []) _ _
 have hm:∀ n',H.nx≤n'→AV.lt n' (.slice m 3 (ts.map aI)):=fun n' hn=>AV.lt_mono hn _ (hlt (.slice m 3 (ts.map aI)) (by simp))
 have hf:∀ n',H.nx≤n'→AV.lt n' (.func (.func F) fst caps):=fun n' hn=>AV.lt_mono hn _ (hlt (.func (.func F) fst caps) (by simp))
 clear hlt
 simp only [go_sem,ziw,ybb]
 refine ay (A:=Nat × List (Int) × AHeap) (fun a=>[(1,.func (.func F) fst caps),(5,.mapv H.nx),(10,.slice m 3 (ts.map aI)),(11,.int .i64 (ts.length:Int)),(12,.int .i64 (a.1:Int))]) (fun a=>a.2.2)
  (fun a=>a.1≤ts.length∧dsF a.2.1 ((ts.drop a.1).map f)=R∧(∀ v∈a.2.1,i64 v)∧H.Le a.2.2∧a.2.2.Closed∧a.2.2.get H.nx=some (.mapo (cj (AV.int .i64) a.2.1))) (fun a=>ts.length - a.1) (0,[],H.push (.mapo [])) ⟨Nat.zero_le _,hR,(fun v hv=>by cases hv),(lRq _).push _,bY hcl,AHeap.get_push_new _ _⟩ ?_ fun a ha=>?_
 ·(simp only [bkq,enterW,aS,ltF,ne_eq,Nat.reduceEqDiff,reduceCtorEq,hm,hf];try simp (disch:=first|exact Zd|omega) [↓zmo,beq,ybc,ybd,ybe,aa,wk,wk2,wk1,wkM,wkL,af,ybf,byq,biq,cn,hcl,hm,hf];try (repeat' (first|assumption|omega|exact True.intro|refine And.intro ?_ ?_|refine aU ?_|refine bh ?_|refine ae ?_ ?_|refine bj ?_ ?_|refine bU ?_|exact lRq _|refine lPq ?_ _|refine AHeap.Le.del ?_ ?_|(simp only [bt,and_true,true_and,hm,hf];first|done|omega|(simp;done)))))
  exact bY hcl
 obtain ⟨k,sn,Hc⟩:=a
 clear hR
 obtain ⟨hk,hR,hsn,hle,hcc,hid⟩:=ha
 dsimp only at hk hR hsn hle hcc hid ⊢
 have hnx:H.nx<Hc.nx:=glq hid
 have hne:(H.nx=Hc.nx)=False:=eq_false (by omega)
 have hne2:(Hc.nx=H.nx)=False:=eq_false (by omega)
 simp only [go_sem]
 refine ah (fun hc=>?_) (fun hc=>?_)
 ·have hk':k<ts.length:=by simp at hc;omega
  obtain ⟨x,hx⟩:∃ x,x=ts[k]:=⟨_,rfl⟩
  have hd:ts.drop k=x::ts.drop (k+1):=by rw [hx];exact dcq hk'
  have hg':=aO (f:=aI) (l:=ts) (k:=k) (x:=x) (by rw [gQq hk',hx])
  have e5:=Yk5 k
  rw [hd,yae] at hR
  unfold dsF at hR
  obtain ⟨hgx,hqx⟩:=hq x (by rw [hx];exact gMq hk')
  have hcs:aI x=.agg [.int .i64 x.id,.str x.name,.int .i64 x.bits]:=rfl
  have hel:AV.lt (Hc.nx+1) (aI x):=by
   have h1:=hm (Hc.nx+1) (by have:=hle.nx;omega)
   rw [AV.lt] at h1
   have h2:=h1.2 k (by rw [ybb];exact hk')
   rw [List.getElem_map] at h2
   rwa [← hx] at h2
  rw [hcs] at hqx hel hg'
  rw [znr] at hel
  have hcp:(Hc.push (.cells [.int .i64 x.id,.str x.name,.int .i64 x.bits])).Closed:=ae hcc hel
  have hlp:H.Le (Hc.push (.cells [.int .i64 x.id,.str x.name,.int .i64 x.bits])):=hle.push _
  have hgp:(Hc.push (.cells [.int .i64 x.id,.str x.name,.int .i64 x.bits])).get H.nx=some (.mapo (cj (AV.int .i64) sn)):=by rw [zlh,if_neg (by omega)];exact hid
  simp only [go_sem,iNq,ybb,hg',hne2,bD]
  (repeat with_reducible refine Yq ?_)
  refine ⟨_,?_,hqx _ hlp hcp⟩
  have hmg:=gZ sn (f x)
  have hmu:=@aA _ H.nx (((AV.int .i64) (f x),.bool true)::cj (AV.int .i64) sn) hcc
  have hsn':=fu bJ hsn
  cases hb:sn.contains (f x) with
  |true =>
   rw [hb,if_pos rfl] at hmg
   rw [hb,Bool.not_true,Bool.false_and] at hR
   subst hR
   simp only [aj,go_sem,zix,hne,hid,hmg]
   refine ⟨⟨da,hsn',bJ _ hgx,rfl⟩,?_⟩
   try simp only [go_sem,hmg]
   exact Z4
  |false =>
   rw [hb,if_neg Bool.false_ne_true] at hmg
   rw [hb,Bool.not_false,Bool.true_and] at hR
   simp only [aj,go_sem,zix,ziy,hne,hid,hmg,e5]
   refine ⟨⟨da,hsn',bJ _ hgx,rfl⟩,?_⟩
   try simp only [go_sem,hmg,hid,hne,ziy,e5]
   refine ⟨⟨da,hsn',bJ _ hgx,rfl,rfl⟩,(k+1,f x::sn,Hc.set H.nx (.mapo (cj (AV.int .i64) (f x::sn)))),⟨by dsimp only;omega,hR,?_,dN hle (nrq _),aA hcc,?_⟩,by dsimp only;omega,?_⟩
   ·intro v hv
    rcases List.mem_cons.1 hv with rfl|hv
    ·exact hgx
    ·exact hsn v hv
   ·dsimp only
    rw [aK,if_pos rfl,if_pos (glq hid)]
   ·have hmu':(Hc.set H.nx (.mapo (cj (AV.int .i64) (f x::sn)))).Closed:=hmu
    have hrow:(((AV.int .i64) (f x),AV.bool true)::cj (AV.int .i64) sn)=cj (AV.int .i64) (f x::sn):=rfl
    try rw [hrow]
    try simp only [hrow]
    exact Z5
 ·have hk':k=ts.length:=by simp at hc;omega
  subst hk'
  rw [List.drop_length] at hR
  have hR':true=R:=hR
  subst hR'
  simp only [go_sem]
  exact Z6
def dW:List AV→AHeap→(AV→Prop)→Prop
 |[.slice _ 3 l,.func (.func F) fst caps],H,K=>∃ (ts:List SHeader) (f:SHeader→Int),(l=ts.map az∧ts.length≤1000000∧∀ x∈ts,i64 (f x)∧∀ H',H.Le H'→H'.Closed→ACalls Tryz.prog F (fst++[az x]++caps) H' (.ret ((AV.int .i64) (f x))) H')∧K (.bool (dsF [] (ts.map f)))
 |_,_,_=>False
theorem Ek:EntOk Tryz.prog 126 (Ent.pure dW):=by
 refine Ype fun _ H K h=>?_
 unfold dW at h
 split at h
 rotate_left
 ·exact h.elim
 rename_i m l F fst caps
 obtain ⟨ts,f,⟨rfl,hl,hq⟩,hK⟩:=h
 refine ⟨_,hK,?_⟩
 clear hK
 generalize hR:dsF [] (ts.map f)=R
 refine ACalls.of_aw (Ω:=[(F,Ent.pure (bD Tryz.prog F))]) (T:=ag []) ak (tCq cy tNq) Tryz.func126 (by kernel_rfl) (by rfl) (rs:=[.tmp 4]) (by rfl) (by kernel_rfl) (by simp only [Tryz.ntmps126,yaz,yba];decide) (nrq _) fun hcl hlt=>?_
 change aw _ _ _ (KI Tryz.prog [(F,Ent.pure (bD Tryz.prog F))] (dh Tryz.prog [.tmp 4] H.nx _ _ (ag [])) []) _ _
 have hm:∀ n',H.nx≤n'→AV.lt n' (.slice m 3 (ts.map az)):=fun n' hn=>AV.lt_mono hn _ (hlt (.slice m 3 (ts.map az)) (by simp))
 have hf:∀ n',H.nx≤n'→AV.lt n' (.func (.func F) fst caps):=fun n' hn=>AV.lt_mono hn _ (hlt (.func (.func F) fst caps) (by simp))
 clear hlt
 simp only [go_sem,ziw,ybb]
 refine ay (A:=Nat × List (Int) × AHeap) (fun a=>[(1,.func (.func F) fst caps),(5,.mapv H.nx),(10,.slice m 3 (ts.map az)),(11,.int .i64 (ts.length:Int)),(12,.int .i64 (a.1:Int))]) (fun a=>a.2.2)
  (fun a=>a.1≤ts.length∧dsF a.2.1 ((ts.drop a.1).map f)=R∧(∀ v∈a.2.1,i64 v)∧H.Le a.2.2∧a.2.2.Closed∧a.2.2.get H.nx=some (.mapo (cj (AV.int .i64) a.2.1))) (fun a=>ts.length - a.1) (0,[],H.push (.mapo [])) ⟨Nat.zero_le _,hR,(fun v hv=>by cases hv),(lRq _).push _,bY hcl,AHeap.get_push_new _ _⟩ ?_ fun a ha=>?_
 ·(simp only [bkq,enterW,aS,ltF,ne_eq,Nat.reduceEqDiff,reduceCtorEq,hm,hf];try simp (disch:=first|exact Zd|omega) [↓zmo,beq,ybc,ybd,ybe,aa,wk,wk2,wk1,wkM,wkL,af,ybf,byq,biq,cn,hcl,hm,hf];try (repeat' (first|assumption|omega|exact True.intro|refine And.intro ?_ ?_|refine aU ?_|refine bh ?_|refine ae ?_ ?_|refine bj ?_ ?_|refine bU ?_|exact lRq _|refine lPq ?_ _|refine AHeap.Le.del ?_ ?_|(simp only [bt,and_true,true_and,hm,hf];first|done|omega|(simp;done)))))
  exact bY hcl
 obtain ⟨k,sn,Hc⟩:=a
 clear hR
 obtain ⟨hk,hR,hsn,hle,hcc,hid⟩:=ha
 dsimp only at hk hR hsn hle hcc hid ⊢
 have hnx:H.nx<Hc.nx:=glq hid
 have hne:(H.nx=Hc.nx)=False:=eq_false (by omega)
 have hne2:(Hc.nx=H.nx)=False:=eq_false (by omega)
 simp only [go_sem]
 refine ah (fun hc=>?_) (fun hc=>?_)
 ·have hk':k<ts.length:=by simp at hc;omega
  obtain ⟨x,hx⟩:∃ x,x=ts[k]:=⟨_,rfl⟩
  have hd:ts.drop k=x::ts.drop (k+1):=by rw [hx];exact dcq hk'
  have hg':=aO (f:=az) (l:=ts) (k:=k) (x:=x) (by rw [gQq hk',hx])
  have e5:=Yk5 k
  rw [hd,yae] at hR
  unfold dsF at hR
  obtain ⟨hgx,hqx⟩:=hq x (by rw [hx];exact gMq hk')
  have hcs:az x=.agg [.int .i64 x.id,.str x.name,.slice .any 1 (inL x.fields)]:=rfl
  have hel:AV.lt (Hc.nx+1) (az x):=by
   have h1:=hm (Hc.nx+1) (by have:=hle.nx;omega)
   rw [AV.lt] at h1
   have h2:=h1.2 k (by rw [ybb];exact hk')
   rw [List.getElem_map] at h2
   rwa [← hx] at h2
  rw [hcs] at hqx hel hg'
  rw [znr] at hel
  have hcp:(Hc.push (.cells [.int .i64 x.id,.str x.name,.slice .any 1 (inL x.fields)])).Closed:=ae hcc hel
  have hlp:H.Le (Hc.push (.cells [.int .i64 x.id,.str x.name,.slice .any 1 (inL x.fields)])):=hle.push _
  have hgp:(Hc.push (.cells [.int .i64 x.id,.str x.name,.slice .any 1 (inL x.fields)])).get H.nx=some (.mapo (cj (AV.int .i64) sn)):=by rw [zlh,if_neg (by omega)];exact hid
  simp only [go_sem,iNq,ybb,hg',hne2,bD]
  (repeat with_reducible refine Yq ?_)
  refine ⟨_,?_,hqx _ hlp hcp⟩
  have hmg:=gZ sn (f x)
  have hmu:=@aA _ H.nx (((AV.int .i64) (f x),.bool true)::cj (AV.int .i64) sn) hcc
  have hsn':=fu bJ hsn
  cases hb:sn.contains (f x) with
  |true =>
   rw [hb,if_pos rfl] at hmg
   rw [hb,Bool.not_true,Bool.false_and] at hR
   subst hR
   simp only [aj,go_sem,zix,hne,hid,hmg]
   refine ⟨⟨da,hsn',bJ _ hgx,rfl⟩,?_⟩
   try simp only [go_sem,hmg]
   exact Z4
  |false =>
   rw [hb,if_neg Bool.false_ne_true] at hmg
   rw [hb,Bool.not_false,Bool.true_and] at hR
   simp only [aj,go_sem,zix,ziy,hne,hid,hmg,e5]
   refine ⟨⟨da,hsn',bJ _ hgx,rfl⟩,?_⟩
   try simp only [go_sem,hmg,hid,hne,ziy,e5]
   refine ⟨⟨da,hsn',bJ _ hgx,rfl,rfl⟩,(k+1,f x::sn,Hc.set H.nx (.mapo (cj (AV.int .i64) (f x::sn)))),⟨by dsimp only;omega,hR,?_,dN hle (nrq _),aA hcc,?_⟩,by dsimp only;omega,?_⟩
   ·intro v hv
    rcases List.mem_cons.1 hv with rfl|hv
    ·exact hgx
    ·exact hsn v hv
   ·dsimp only
    rw [aK,if_pos rfl,if_pos (glq hid)]
   ·have hmu':(Hc.set H.nx (.mapo (cj (AV.int .i64) (f x::sn)))).Closed:=hmu
    have hrow:(((AV.int .i64) (f x),AV.bool true)::cj (AV.int .i64) sn)=cj (AV.int .i64) (f x::sn):=rfl
    try rw [hrow]
    try simp only [hrow]
    exact Z5
 ·have hk':k=ts.length:=by simp at hc;omega
  subst hk'
  rw [List.drop_length] at hR
  have hR':true=R:=hR
  subst hR'
  simp only [go_sem]
  exact Z6
def eC:List AV→AHeap→(AV→Prop)→Prop
 |[.slice _ 5 l,.func (.func F) fst caps],H,K=>∃ (ts:List SState) (f:SState→Int),(l=ts.map aH∧ts.length≤1000000∧∀ x∈ts,i64 (f x)∧∀ H',H.Le H'→H'.Closed→ACalls Tryz.prog F (fst++[aH x]++caps) H' (.ret ((AV.int .i64) (f x))) H')∧K (.bool (dsF [] (ts.map f)))
 |_,_,_=>False
theorem Ha:EntOk Tryz.prog 128 (Ent.pure eC):=by
 refine Ype fun _ H K h=>?_
 unfold eC at h
 split at h
 rotate_left
 ·exact h.elim
 rename_i m l F fst caps
 obtain ⟨ts,f,⟨rfl,hl,hq⟩,hK⟩:=h
 refine ⟨_,hK,?_⟩
 clear hK
 generalize hR:dsF [] (ts.map f)=R
 refine ACalls.of_aw (Ω:=[(F,Ent.pure (bD Tryz.prog F))]) (T:=ag []) ak (tCq cy tNq) Tryz.func128 (by kernel_rfl) (by rfl) (rs:=[.tmp 4]) (by rfl) (by kernel_rfl) (by simp only [Tryz.ntmps128,yaz,yba];decide) (nrq _) fun hcl hlt=>?_
 change aw _ _ _ (KI Tryz.prog [(F,Ent.pure (bD Tryz.prog F))] (dh Tryz.prog [.tmp 4] H.nx _ _ (ag [])) []) _ _
 have hm:∀ n',H.nx≤n'→AV.lt n' (.slice m 5 (ts.map aH)):=fun n' hn=>AV.lt_mono hn _ (hlt (.slice m 5 (ts.map aH)) (by simp))
 have hf:∀ n',H.nx≤n'→AV.lt n' (.func (.func F) fst caps):=fun n' hn=>AV.lt_mono hn _ (hlt (.func (.func F) fst caps) (by simp))
 clear hlt
 simp only [go_sem,ziw,ybb]
 refine ay (A:=Nat × List (Int) × AHeap) (fun a=>[(1,.func (.func F) fst caps),(5,.mapv H.nx),(10,.slice m 5 (ts.map aH)),(11,.int .i64 (ts.length:Int)),(12,.int .i64 (a.1:Int))]) (fun a=>a.2.2)
  (fun a=>a.1≤ts.length∧dsF a.2.1 ((ts.drop a.1).map f)=R∧(∀ v∈a.2.1,i64 v)∧H.Le a.2.2∧a.2.2.Closed∧a.2.2.get H.nx=some (.mapo (cj (AV.int .i64) a.2.1))) (fun a=>ts.length - a.1) (0,[],H.push (.mapo [])) ⟨Nat.zero_le _,hR,(fun v hv=>by cases hv),(lRq _).push _,bY hcl,AHeap.get_push_new _ _⟩ ?_ fun a ha=>?_
 ·(simp only [bkq,enterW,aS,ltF,ne_eq,Nat.reduceEqDiff,reduceCtorEq,hm,hf];try simp (disch:=first|exact Zd|omega) [↓zmo,beq,ybc,ybd,ybe,aa,wk,wk2,wk1,wkM,wkL,af,ybf,byq,biq,cn,hcl,hm,hf];try (repeat' (first|assumption|omega|exact True.intro|refine And.intro ?_ ?_|refine aU ?_|refine bh ?_|refine ae ?_ ?_|refine bj ?_ ?_|refine bU ?_|exact lRq _|refine lPq ?_ _|refine AHeap.Le.del ?_ ?_|(simp only [bt,and_true,true_and,hm,hf];first|done|omega|(simp;done)))))
  exact bY hcl
 obtain ⟨k,sn,Hc⟩:=a
 clear hR
 obtain ⟨hk,hR,hsn,hle,hcc,hid⟩:=ha
 dsimp only at hk hR hsn hle hcc hid ⊢
 have hnx:H.nx<Hc.nx:=glq hid
 have hne:(H.nx=Hc.nx)=False:=eq_false (by omega)
 have hne2:(Hc.nx=H.nx)=False:=eq_false (by omega)
 simp only [go_sem]
 refine ah (fun hc=>?_) (fun hc=>?_)
 ·have hk':k<ts.length:=by simp at hc;omega
  obtain ⟨x,hx⟩:∃ x,x=ts[k]:=⟨_,rfl⟩
  have hd:ts.drop k=x::ts.drop (k+1):=by rw [hx];exact dcq hk'
  have hg':=aO (f:=aH) (l:=ts) (k:=k) (x:=x) (by rw [gQq hk',hx])
  have e5:=Yk5 k
  rw [hd,yae] at hR
  unfold dsF at hR
  obtain ⟨hgx,hqx⟩:=hq x (by rw [hx];exact gMq hk')
  have hcs:aH x=.agg [.int .i64 x.id,.int .i64 x.header,.int .i64 x.select,.slice .any 5 (x.cases.map bH),.int .i64 x.dflt]:=rfl
  have hel:AV.lt (Hc.nx+1) (aH x):=by
   have h1:=hm (Hc.nx+1) (by have:=hle.nx;omega)
   rw [AV.lt] at h1
   have h2:=h1.2 k (by rw [ybb];exact hk')
   rw [List.getElem_map] at h2
   rwa [← hx] at h2
  rw [hcs] at hqx hel hg'
  rw [znr] at hel
  have hcp:(Hc.push (.cells [.int .i64 x.id,.int .i64 x.header,.int .i64 x.select,.slice .any 5 (x.cases.map bH),.int .i64 x.dflt])).Closed:=ae hcc hel
  have hlp:H.Le (Hc.push (.cells [.int .i64 x.id,.int .i64 x.header,.int .i64 x.select,.slice .any 5 (x.cases.map bH),.int .i64 x.dflt])):=hle.push _
  have hgp:(Hc.push (.cells [.int .i64 x.id,.int .i64 x.header,.int .i64 x.select,.slice .any 5 (x.cases.map bH),.int .i64 x.dflt])).get H.nx=some (.mapo (cj (AV.int .i64) sn)):=by rw [zlh,if_neg (by omega)];exact hid
  simp only [go_sem,iNq,ybb,hg',hne2,bD]
  (repeat with_reducible refine Yq ?_)
  refine ⟨_,?_,hqx _ hlp hcp⟩
  have hmg:=gZ sn (f x)
  have hmu:=@aA _ H.nx (((AV.int .i64) (f x),.bool true)::cj (AV.int .i64) sn) hcc
  have hsn':=fu bJ hsn
  cases hb:sn.contains (f x) with
  |true =>
   rw [hb,if_pos rfl] at hmg
   rw [hb,Bool.not_true,Bool.false_and] at hR
   subst hR
   simp only [aj,go_sem,zix,hne,hid,hmg]
   refine ⟨⟨da,hsn',bJ _ hgx,rfl⟩,?_⟩
   try simp only [go_sem,hmg]
   exact Z4
  |false =>
   rw [hb,if_neg Bool.false_ne_true] at hmg
   rw [hb,Bool.not_false,Bool.true_and] at hR
   simp only [aj,go_sem,zix,ziy,hne,hid,hmg,e5]
   refine ⟨⟨da,hsn',bJ _ hgx,rfl⟩,?_⟩
   try simp only [go_sem,hmg,hid,hne,ziy,e5]
   refine ⟨⟨da,hsn',bJ _ hgx,rfl,rfl⟩,(k+1,f x::sn,Hc.set H.nx (.mapo (cj (AV.int .i64) (f x::sn)))),⟨by dsimp only;omega,hR,?_,dN hle (nrq _),aA hcc,?_⟩,by dsimp only;omega,?_⟩
   ·intro v hv
    rcases List.mem_cons.1 hv with rfl|hv
    ·exact hgx
    ·exact hsn v hv
   ·dsimp only
    rw [aK,if_pos rfl,if_pos (glq hid)]
   ·have hmu':(Hc.set H.nx (.mapo (cj (AV.int .i64) (f x::sn)))).Closed:=hmu
    have hrow:(((AV.int .i64) (f x),AV.bool true)::cj (AV.int .i64) sn)=cj (AV.int .i64) (f x::sn):=rfl
    try rw [hrow]
    try simp only [hrow]
    exact Z5
 ·have hk':k=ts.length:=by simp at hc;omega
  subst hk'
  rw [List.drop_length] at hR
  have hR':true=R:=hR
  subst hR'
  simp only [go_sem]
  exact Z6
def eV:List AV→AHeap→(AV→Prop)→Prop
 |[.slice _ 5 l,.func (.func F) fst caps],H,K=>∃ (ts:List SAction) (f:SAction→Int),(l=ts.map ap∧ts.length≤1000000∧∀ x∈ts,i64 (f x)∧∀ H',H.Le H'→H'.Closed→ACalls Tryz.prog F (fst++[ap x]++caps) H' (.ret ((AV.int .i64) (f x))) H')∧K (.bool (dsF [] (ts.map f)))
 |_,_,_=>False
theorem F9:EntOk Tryz.prog 130 (Ent.pure eV):=by
 refine Ype fun _ H K h=>?_
 unfold eV at h
 split at h
 rotate_left
 ·exact h.elim
 rename_i m l F fst caps
 obtain ⟨ts,f,⟨rfl,hl,hq⟩,hK⟩:=h
 refine ⟨_,hK,?_⟩
 clear hK
 generalize hR:dsF [] (ts.map f)=R
 refine ACalls.of_aw (Ω:=[(F,Ent.pure (bD Tryz.prog F))]) (T:=ag []) ak (tCq cy tNq) Tryz.func130 (by kernel_rfl) (by rfl) (rs:=[.tmp 4]) (by rfl) (by kernel_rfl) (by simp only [Tryz.ntmps130,yaz,yba];decide) (nrq _) fun hcl hlt=>?_
 change aw _ _ _ (KI Tryz.prog [(F,Ent.pure (bD Tryz.prog F))] (dh Tryz.prog [.tmp 4] H.nx _ _ (ag [])) []) _ _
 have hm:∀ n',H.nx≤n'→AV.lt n' (.slice m 5 (ts.map ap)):=fun n' hn=>AV.lt_mono hn _ (hlt (.slice m 5 (ts.map ap)) (by simp))
 have hf:∀ n',H.nx≤n'→AV.lt n' (.func (.func F) fst caps):=fun n' hn=>AV.lt_mono hn _ (hlt (.func (.func F) fst caps) (by simp))
 clear hlt
 simp only [go_sem,ziw,ybb]
 refine ay (A:=Nat × List (Int) × AHeap) (fun a=>[(1,.func (.func F) fst caps),(5,.mapv H.nx),(10,.slice m 5 (ts.map ap)),(11,.int .i64 (ts.length:Int)),(12,.int .i64 (a.1:Int))]) (fun a=>a.2.2)
  (fun a=>a.1≤ts.length∧dsF a.2.1 ((ts.drop a.1).map f)=R∧(∀ v∈a.2.1,i64 v)∧H.Le a.2.2∧a.2.2.Closed∧a.2.2.get H.nx=some (.mapo (cj (AV.int .i64) a.2.1))) (fun a=>ts.length - a.1) (0,[],H.push (.mapo [])) ⟨Nat.zero_le _,hR,(fun v hv=>by cases hv),(lRq _).push _,bY hcl,AHeap.get_push_new _ _⟩ ?_ fun a ha=>?_
 ·(simp only [bkq,enterW,aS,ltF,ne_eq,Nat.reduceEqDiff,reduceCtorEq,hm,hf];try simp (disch:=first|exact Zd|omega) [↓zmo,beq,ybc,ybd,ybe,aa,wk,wk2,wk1,wkM,wkL,af,ybf,byq,biq,cn,hcl,hm,hf];try (repeat' (first|assumption|omega|exact True.intro|refine And.intro ?_ ?_|refine aU ?_|refine bh ?_|refine ae ?_ ?_|refine bj ?_ ?_|refine bU ?_|exact lRq _|refine lPq ?_ _|refine AHeap.Le.del ?_ ?_|(simp only [bt,and_true,true_and,hm,hf];first|done|omega|(simp;done)))))
  exact bY hcl
 obtain ⟨k,sn,Hc⟩:=a
 clear hR
 obtain ⟨hk,hR,hsn,hle,hcc,hid⟩:=ha
 dsimp only at hk hR hsn hle hcc hid ⊢
 have hnx:H.nx<Hc.nx:=glq hid
 have hne:(H.nx=Hc.nx)=False:=eq_false (by omega)
 have hne2:(Hc.nx=H.nx)=False:=eq_false (by omega)
 simp only [go_sem]
 refine ah (fun hc=>?_) (fun hc=>?_)
 ·have hk':k<ts.length:=by simp at hc;omega
  obtain ⟨x,hx⟩:∃ x,x=ts[k]:=⟨_,rfl⟩
  have hd:ts.drop k=x::ts.drop (k+1):=by rw [hx];exact dcq hk'
  have hg':=aO (f:=ap) (l:=ts) (k:=k) (x:=x) (by rw [gQq hk',hx])
  have e5:=Yk5 k
  rw [hd,yae] at hR
  unfold dsF at hR
  obtain ⟨hgx,hqx⟩:=hq x (by rw [hx];exact gMq hk')
  have hcs:ap x=.agg [.int .i64 x.id,.str x.name,.slice .any 2 (x.params.map bb),.slice .any 6 (x.body.map bv),.str x.restr]:=rfl
  have hel:AV.lt (Hc.nx+1) (ap x):=by
   have h1:=hm (Hc.nx+1) (by have:=hle.nx;omega)
   rw [AV.lt] at h1
   have h2:=h1.2 k (by rw [ybb];exact hk')
   rw [List.getElem_map] at h2
   rwa [← hx] at h2
  rw [hcs] at hqx hel hg'
  rw [znr] at hel
  have hcp:(Hc.push (.cells [.int .i64 x.id,.str x.name,.slice .any 2 (x.params.map bb),.slice .any 6 (x.body.map bv),.str x.restr])).Closed:=ae hcc hel
  have hlp:H.Le (Hc.push (.cells [.int .i64 x.id,.str x.name,.slice .any 2 (x.params.map bb),.slice .any 6 (x.body.map bv),.str x.restr])):=hle.push _
  have hgp:(Hc.push (.cells [.int .i64 x.id,.str x.name,.slice .any 2 (x.params.map bb),.slice .any 6 (x.body.map bv),.str x.restr])).get H.nx=some (.mapo (cj (AV.int .i64) sn)):=by rw [zlh,if_neg (by omega)];exact hid
  simp only [go_sem,iNq,ybb,hg',hne2,bD]
  (repeat with_reducible refine Yq ?_)
  refine ⟨_,?_,hqx _ hlp hcp⟩
  have hmg:=gZ sn (f x)
  have hmu:=@aA _ H.nx (((AV.int .i64) (f x),.bool true)::cj (AV.int .i64) sn) hcc
  have hsn':=fu bJ hsn
  cases hb:sn.contains (f x) with
  |true =>
   rw [hb,if_pos rfl] at hmg
   rw [hb,Bool.not_true,Bool.false_and] at hR
   subst hR
   simp only [aj,go_sem,zix,hne,hid,hmg]
   refine ⟨⟨da,hsn',bJ _ hgx,rfl⟩,?_⟩
   try simp only [go_sem,hmg]
   exact Z4
  |false =>
   rw [hb,if_neg Bool.false_ne_true] at hmg
   rw [hb,Bool.not_false,Bool.true_and] at hR
   simp only [aj,go_sem,zix,ziy,hne,hid,hmg,e5]
   refine ⟨⟨da,hsn',bJ _ hgx,rfl⟩,?_⟩
   try simp only [go_sem,hmg,hid,hne,ziy,e5]
   refine ⟨⟨da,hsn',bJ _ hgx,rfl,rfl⟩,(k+1,f x::sn,Hc.set H.nx (.mapo (cj (AV.int .i64) (f x::sn)))),⟨by dsimp only;omega,hR,?_,dN hle (nrq _),aA hcc,?_⟩,by dsimp only;omega,?_⟩
   ·intro v hv
    rcases List.mem_cons.1 hv with rfl|hv
    ·exact hgx
    ·exact hsn v hv
   ·dsimp only
    rw [aK,if_pos rfl,if_pos (glq hid)]
   ·have hmu':(Hc.set H.nx (.mapo (cj (AV.int .i64) (f x::sn)))).Closed:=hmu
    have hrow:(((AV.int .i64) (f x),AV.bool true)::cj (AV.int .i64) sn)=cj (AV.int .i64) (f x::sn):=rfl
    try rw [hrow]
    try simp only [hrow]
    exact Z5
 ·have hk':k=ts.length:=by simp at hc;omega
  subst hk'
  rw [List.drop_length] at hR
  have hR':true=R:=hR
  subst hR'
  simp only [go_sem]
  exact Z6
def fE:List AV→AHeap→(AV→Prop)→Prop
 |[.slice _ 8 l,.func (.func F) fst caps],H,K=>∃ (ts:List STable) (f:STable→Int),(l=ts.map aq∧ts.length≤1000000∧∀ x∈ts,i64 (f x)∧∀ H',H.Le H'→H'.Closed→ACalls Tryz.prog F (fst++[aq x]++caps) H' (.ret ((AV.int .i64) (f x))) H')∧K (.bool (dsF [] (ts.map f)))
 |_,_,_=>False
theorem Ds:EntOk Tryz.prog 132 (Ent.pure fE):=by
 refine Ype fun _ H K h=>?_
 unfold fE at h
 split at h
 rotate_left
 ·exact h.elim
 rename_i m l F fst caps
 obtain ⟨ts,f,⟨rfl,hl,hq⟩,hK⟩:=h
 refine ⟨_,hK,?_⟩
 clear hK
 generalize hR:dsF [] (ts.map f)=R
 refine ACalls.of_aw (Ω:=[(F,Ent.pure (bD Tryz.prog F))]) (T:=ag []) ak (tCq cy tNq) Tryz.func132 (by kernel_rfl) (by rfl) (rs:=[.tmp 4]) (by rfl) (by kernel_rfl) (by simp only [Tryz.ntmps132,yaz,yba];decide) (nrq _) fun hcl hlt=>?_
 change aw _ _ _ (KI Tryz.prog [(F,Ent.pure (bD Tryz.prog F))] (dh Tryz.prog [.tmp 4] H.nx _ _ (ag [])) []) _ _
 have hm:∀ n',H.nx≤n'→AV.lt n' (.slice m 8 (ts.map aq)):=fun n' hn=>AV.lt_mono hn _ (hlt (.slice m 8 (ts.map aq)) (by simp))
 have hf:∀ n',H.nx≤n'→AV.lt n' (.func (.func F) fst caps):=fun n' hn=>AV.lt_mono hn _ (hlt (.func (.func F) fst caps) (by simp))
 clear hlt
 simp only [go_sem,ziw,ybb]
 refine ay (A:=Nat × List (Int) × AHeap) (fun a=>[(1,.func (.func F) fst caps),(5,.mapv H.nx),(10,.slice m 8 (ts.map aq)),(11,.int .i64 (ts.length:Int)),(12,.int .i64 (a.1:Int))]) (fun a=>a.2.2)
  (fun a=>a.1≤ts.length∧dsF a.2.1 ((ts.drop a.1).map f)=R∧(∀ v∈a.2.1,i64 v)∧H.Le a.2.2∧a.2.2.Closed∧a.2.2.get H.nx=some (.mapo (cj (AV.int .i64) a.2.1))) (fun a=>ts.length - a.1) (0,[],H.push (.mapo [])) ⟨Nat.zero_le _,hR,(fun v hv=>by cases hv),(lRq _).push _,bY hcl,AHeap.get_push_new _ _⟩ ?_ fun a ha=>?_
 ·(simp only [bkq,enterW,aS,ltF,ne_eq,Nat.reduceEqDiff,reduceCtorEq,hm,hf];try simp (disch:=first|exact Zd|omega) [↓zmo,beq,ybc,ybd,ybe,aa,wk,wk2,wk1,wkM,wkL,af,ybf,byq,biq,cn,hcl,hm,hf];try (repeat' (first|assumption|omega|exact True.intro|refine And.intro ?_ ?_|refine aU ?_|refine bh ?_|refine ae ?_ ?_|refine bj ?_ ?_|refine bU ?_|exact lRq _|refine lPq ?_ _|refine AHeap.Le.del ?_ ?_|(simp only [bt,and_true,true_and,hm,hf];first|done|omega|(simp;done)))))
  exact bY hcl
 obtain ⟨k,sn,Hc⟩:=a
 clear hR
 obtain ⟨hk,hR,hsn,hle,hcc,hid⟩:=ha
 dsimp only at hk hR hsn hle hcc hid ⊢
 have hnx:H.nx<Hc.nx:=glq hid
 have hne:(H.nx=Hc.nx)=False:=eq_false (by omega)
 have hne2:(Hc.nx=H.nx)=False:=eq_false (by omega)
 simp only [go_sem]
 refine ah (fun hc=>?_) (fun hc=>?_)
 ·have hk':k<ts.length:=by simp at hc;omega
  obtain ⟨x,hx⟩:∃ x,x=ts[k]:=⟨_,rfl⟩
  have hd:ts.drop k=x::ts.drop (k+1):=by rw [hx];exact dcq hk'
  have hg':=aO (f:=aq) (l:=ts) (k:=k) (x:=x) (by rw [gQq hk',hx])
  have e5:=Yk5 k
  rw [hd,yae] at hR
  unfold dsF at hR
  obtain ⟨hgx,hqx⟩:=hq x (by rw [hx];exact gMq hk')
  have hcs:aq x=.agg [.int .i64 x.id,.str x.name,.slice .any 3 (x.keys.map br),.slice .any 1 (inL x.actions),.int .i64 x.dflt,.slice .any 2 (x.dargs.map vv),.int .i64 x.size,.str x.restr]:=rfl
  have hel:AV.lt (Hc.nx+1) (aq x):=by
   have h1:=hm (Hc.nx+1) (by have:=hle.nx;omega)
   rw [AV.lt] at h1
   have h2:=h1.2 k (by rw [ybb];exact hk')
   rw [List.getElem_map] at h2
   rwa [← hx] at h2
  rw [hcs] at hqx hel hg'
  rw [znr] at hel
  have hcp:(Hc.push (.cells [.int .i64 x.id,.str x.name,.slice .any 3 (x.keys.map br),.slice .any 1 (inL x.actions),.int .i64 x.dflt,.slice .any 2 (x.dargs.map vv),.int .i64 x.size,.str x.restr])).Closed:=ae hcc hel
  have hlp:H.Le (Hc.push (.cells [.int .i64 x.id,.str x.name,.slice .any 3 (x.keys.map br),.slice .any 1 (inL x.actions),.int .i64 x.dflt,.slice .any 2 (x.dargs.map vv),.int .i64 x.size,.str x.restr])):=hle.push _
  have hgp:(Hc.push (.cells [.int .i64 x.id,.str x.name,.slice .any 3 (x.keys.map br),.slice .any 1 (inL x.actions),.int .i64 x.dflt,.slice .any 2 (x.dargs.map vv),.int .i64 x.size,.str x.restr])).get H.nx=some (.mapo (cj (AV.int .i64) sn)):=by rw [zlh,if_neg (by omega)];exact hid
  simp only [go_sem,iNq,ybb,hg',hne2,bD]
  (repeat with_reducible refine Yq ?_)
  refine ⟨_,?_,hqx _ hlp hcp⟩
  have hmg:=gZ sn (f x)
  have hmu:=@aA _ H.nx (((AV.int .i64) (f x),.bool true)::cj (AV.int .i64) sn) hcc
  have hsn':=fu bJ hsn
  cases hb:sn.contains (f x) with
  |true =>
   rw [hb,if_pos rfl] at hmg
   rw [hb,Bool.not_true,Bool.false_and] at hR
   subst hR
   simp only [aj,go_sem,zix,hne,hid,hmg]
   refine ⟨⟨da,hsn',bJ _ hgx,rfl⟩,?_⟩
   try simp only [go_sem,hmg]
   exact Z4
  |false =>
   rw [hb,if_neg Bool.false_ne_true] at hmg
   rw [hb,Bool.not_false,Bool.true_and] at hR
   simp only [aj,go_sem,zix,ziy,hne,hid,hmg,e5]
   refine ⟨⟨da,hsn',bJ _ hgx,rfl⟩,?_⟩
   try simp only [go_sem,hmg,hid,hne,ziy,e5]
   refine ⟨⟨da,hsn',bJ _ hgx,rfl,rfl⟩,(k+1,f x::sn,Hc.set H.nx (.mapo (cj (AV.int .i64) (f x::sn)))),⟨by dsimp only;omega,hR,?_,dN hle (nrq _),aA hcc,?_⟩,by dsimp only;omega,?_⟩
   ·intro v hv
    rcases List.mem_cons.1 hv with rfl|hv
    ·exact hgx
    ·exact hsn v hv
   ·dsimp only
    rw [aK,if_pos rfl,if_pos (glq hid)]
   ·have hmu':(Hc.set H.nx (.mapo (cj (AV.int .i64) (f x::sn)))).Closed:=hmu
    have hrow:(((AV.int .i64) (f x),AV.bool true)::cj (AV.int .i64) sn)=cj (AV.int .i64) (f x::sn):=rfl
    try rw [hrow]
    try simp only [hrow]
    exact Z5
 ·have hk':k=ts.length:=by simp at hc;omega
  subst hk'
  rw [List.drop_length] at hR
  have hR':true=R:=hR
  subst hR'
  simp only [go_sem]
  exact Z6
def gh:List AV→AHeap→(AV→Prop)→Prop
 |[.slice _ 6 l,.func (.func F) fst caps],H,K=>∃ (ts:List SRole) (f:SRole→Int),(l=ts.map aN∧ts.length≤1000000∧∀ x∈ts,i64 (f x)∧∀ H',H.Le H'→H'.Closed→ACalls Tryz.prog F (fst++[aN x]++caps) H' (.ret ((AV.int .i64) (f x))) H')∧K (.bool (dsF [] (ts.map f)))
 |_,_,_=>False
theorem D7:EntOk Tryz.prog 134 (Ent.pure gh):=by
 refine Ype fun _ H K h=>?_
 unfold gh at h
 split at h
 rotate_left
 ·exact h.elim
 rename_i m l F fst caps
 obtain ⟨ts,f,⟨rfl,hl,hq⟩,hK⟩:=h
 refine ⟨_,hK,?_⟩
 clear hK
 generalize hR:dsF [] (ts.map f)=R
 refine ACalls.of_aw (Ω:=[(F,Ent.pure (bD Tryz.prog F))]) (T:=ag []) ak (tCq cy tNq) Tryz.func134 (by kernel_rfl) (by rfl) (rs:=[.tmp 4]) (by rfl) (by kernel_rfl) (by simp only [Tryz.ntmps134,yaz,yba];decide) (nrq _) fun hcl hlt=>?_
 change aw _ _ _ (KI Tryz.prog [(F,Ent.pure (bD Tryz.prog F))] (dh Tryz.prog [.tmp 4] H.nx _ _ (ag [])) []) _ _
 have hm:∀ n',H.nx≤n'→AV.lt n' (.slice m 6 (ts.map aN)):=fun n' hn=>AV.lt_mono hn _ (hlt (.slice m 6 (ts.map aN)) (by simp))
 have hf:∀ n',H.nx≤n'→AV.lt n' (.func (.func F) fst caps):=fun n' hn=>AV.lt_mono hn _ (hlt (.func (.func F) fst caps) (by simp))
 clear hlt
 simp only [go_sem,ziw,ybb]
 refine ay (A:=Nat × List (Int) × AHeap) (fun a=>[(1,.func (.func F) fst caps),(5,.mapv H.nx),(10,.slice m 6 (ts.map aN)),(11,.int .i64 (ts.length:Int)),(12,.int .i64 (a.1:Int))]) (fun a=>a.2.2)
  (fun a=>a.1≤ts.length∧dsF a.2.1 ((ts.drop a.1).map f)=R∧(∀ v∈a.2.1,i64 v)∧H.Le a.2.2∧a.2.2.Closed∧a.2.2.get H.nx=some (.mapo (cj (AV.int .i64) a.2.1))) (fun a=>ts.length - a.1) (0,[],H.push (.mapo [])) ⟨Nat.zero_le _,hR,(fun v hv=>by cases hv),(lRq _).push _,bY hcl,AHeap.get_push_new _ _⟩ ?_ fun a ha=>?_
 ·(simp only [bkq,enterW,aS,ltF,ne_eq,Nat.reduceEqDiff,reduceCtorEq,hm,hf];try simp (disch:=first|exact Zd|omega) [↓zmo,beq,ybc,ybd,ybe,aa,wk,wk2,wk1,wkM,wkL,af,ybf,byq,biq,cn,hcl,hm,hf];try (repeat' (first|assumption|omega|exact True.intro|refine And.intro ?_ ?_|refine aU ?_|refine bh ?_|refine ae ?_ ?_|refine bj ?_ ?_|refine bU ?_|exact lRq _|refine lPq ?_ _|refine AHeap.Le.del ?_ ?_|(simp only [bt,and_true,true_and,hm,hf];first|done|omega|(simp;done)))))
  exact bY hcl
 obtain ⟨k,sn,Hc⟩:=a
 clear hR
 obtain ⟨hk,hR,hsn,hle,hcc,hid⟩:=ha
 dsimp only at hk hR hsn hle hcc hid ⊢
 have hnx:H.nx<Hc.nx:=glq hid
 have hne:(H.nx=Hc.nx)=False:=eq_false (by omega)
 have hne2:(Hc.nx=H.nx)=False:=eq_false (by omega)
 simp only [go_sem]
 refine ah (fun hc=>?_) (fun hc=>?_)
 ·have hk':k<ts.length:=by simp at hc;omega
  obtain ⟨x,hx⟩:∃ x,x=ts[k]:=⟨_,rfl⟩
  have hd:ts.drop k=x::ts.drop (k+1):=by rw [hx];exact dcq hk'
  have hg':=aO (f:=aN) (l:=ts) (k:=k) (x:=x) (by rw [gQq hk',hx])
  have e5:=Yk5 k
  rw [hd,yae] at hR
  unfold dsF at hR
  obtain ⟨hgx,hqx⟩:=hq x (by rw [hx];exact gMq hk')
  have hcs:aN x=.agg [.int .i64 x.id,.str x.name,.slice .any 4 (x.grants.map aR),.slice .any 1 (inL x.actions),.int .i64 x.quota,.bool x.audit]:=rfl
  have hel:AV.lt (Hc.nx+1) (aN x):=by
   have h1:=hm (Hc.nx+1) (by have:=hle.nx;omega)
   rw [AV.lt] at h1
   have h2:=h1.2 k (by rw [ybb];exact hk')
   rw [List.getElem_map] at h2
   rwa [← hx] at h2
  rw [hcs] at hqx hel hg'
  rw [znr] at hel
  have hcp:(Hc.push (.cells [.int .i64 x.id,.str x.name,.slice .any 4 (x.grants.map aR),.slice .any 1 (inL x.actions),.int .i64 x.quota,.bool x.audit])).Closed:=ae hcc hel
  have hlp:H.Le (Hc.push (.cells [.int .i64 x.id,.str x.name,.slice .any 4 (x.grants.map aR),.slice .any 1 (inL x.actions),.int .i64 x.quota,.bool x.audit])):=hle.push _
  have hgp:(Hc.push (.cells [.int .i64 x.id,.str x.name,.slice .any 4 (x.grants.map aR),.slice .any 1 (inL x.actions),.int .i64 x.quota,.bool x.audit])).get H.nx=some (.mapo (cj (AV.int .i64) sn)):=by rw [zlh,if_neg (by omega)];exact hid
  simp only [go_sem,iNq,ybb,hg',hne2,bD]
  (repeat with_reducible refine Yq ?_)
  refine ⟨_,?_,hqx _ hlp hcp⟩
  have hmg:=gZ sn (f x)
  have hmu:=@aA _ H.nx (((AV.int .i64) (f x),.bool true)::cj (AV.int .i64) sn) hcc
  have hsn':=fu bJ hsn
  cases hb:sn.contains (f x) with
  |true =>
   rw [hb,if_pos rfl] at hmg
   rw [hb,Bool.not_true,Bool.false_and] at hR
   subst hR
   simp only [aj,go_sem,zix,hne,hid,hmg]
   refine ⟨⟨da,hsn',bJ _ hgx,rfl⟩,?_⟩
   try simp only [go_sem,hmg]
   exact Z4
  |false =>
   rw [hb,if_neg Bool.false_ne_true] at hmg
   rw [hb,Bool.not_false,Bool.true_and] at hR
   simp only [aj,go_sem,zix,ziy,hne,hid,hmg,e5]
   refine ⟨⟨da,hsn',bJ _ hgx,rfl⟩,?_⟩
   try simp only [go_sem,hmg,hid,hne,ziy,e5]
   refine ⟨⟨da,hsn',bJ _ hgx,rfl,rfl⟩,(k+1,f x::sn,Hc.set H.nx (.mapo (cj (AV.int .i64) (f x::sn)))),⟨by dsimp only;omega,hR,?_,dN hle (nrq _),aA hcc,?_⟩,by dsimp only;omega,?_⟩
   ·intro v hv
    rcases List.mem_cons.1 hv with rfl|hv
    ·exact hgx
    ·exact hsn v hv
   ·dsimp only
    rw [aK,if_pos rfl,if_pos (glq hid)]
   ·have hmu':(Hc.set H.nx (.mapo (cj (AV.int .i64) (f x::sn)))).Closed:=hmu
    have hrow:(((AV.int .i64) (f x),AV.bool true)::cj (AV.int .i64) sn)=cj (AV.int .i64) (f x::sn):=rfl
    try rw [hrow]
    try simp only [hrow]
    exact Z5
 ·have hk':k=ts.length:=by simp at hc;omega
  subst hk'
  rw [List.drop_length] at hR
  have hR':true=R:=hR
  subst hR'
  simp only [go_sem]
  exact Z6
def nY:List AV→AHeap→(AV→Prop)→Prop
 |[.slice _ 4 l,.func (.func F) fst caps],H,K=>∃ (ts:List SGrant) (f:SGrant→Int),(l=ts.map aR∧ts.length≤1000000∧∀ x∈ts,i64 (f x)∧∀ H',H.Le H'→H'.Closed→ACalls Tryz.prog F (fst++[aR x]++caps) H' (.ret ((AV.int .i64) (f x))) H')∧K (.bool (dsF [] (ts.map f)))
 |_,_,_=>False
theorem F2:EntOk Tryz.prog 141 (Ent.pure nY):=by
 refine Ype fun _ H K h=>?_
 unfold nY at h
 split at h
 rotate_left
 ·exact h.elim
 rename_i m l F fst caps
 obtain ⟨ts,f,⟨rfl,hl,hq⟩,hK⟩:=h
 refine ⟨_,hK,?_⟩
 clear hK
 generalize hR:dsF [] (ts.map f)=R
 refine ACalls.of_aw (Ω:=[(F,Ent.pure (bD Tryz.prog F))]) (T:=ag []) ak (tCq cy tNq) Tryz.func141 (by kernel_rfl) (by rfl) (rs:=[.tmp 4]) (by rfl) (by kernel_rfl) (by simp only [Tryz.ntmps141,yaz,yba];decide) (nrq _) fun hcl hlt=>?_
 change aw _ _ _ (KI Tryz.prog [(F,Ent.pure (bD Tryz.prog F))] (dh Tryz.prog [.tmp 4] H.nx _ _ (ag [])) []) _ _
 have hm:∀ n',H.nx≤n'→AV.lt n' (.slice m 4 (ts.map aR)):=fun n' hn=>AV.lt_mono hn _ (hlt (.slice m 4 (ts.map aR)) (by simp))
 have hf:∀ n',H.nx≤n'→AV.lt n' (.func (.func F) fst caps):=fun n' hn=>AV.lt_mono hn _ (hlt (.func (.func F) fst caps) (by simp))
 clear hlt
 simp only [go_sem,ziw,ybb]
 refine ay (A:=Nat × List (Int) × AHeap) (fun a=>[(1,.func (.func F) fst caps),(5,.mapv H.nx),(10,.slice m 4 (ts.map aR)),(11,.int .i64 (ts.length:Int)),(12,.int .i64 (a.1:Int))]) (fun a=>a.2.2)
  (fun a=>a.1≤ts.length∧dsF a.2.1 ((ts.drop a.1).map f)=R∧(∀ v∈a.2.1,i64 v)∧H.Le a.2.2∧a.2.2.Closed∧a.2.2.get H.nx=some (.mapo (cj (AV.int .i64) a.2.1))) (fun a=>ts.length - a.1) (0,[],H.push (.mapo [])) ⟨Nat.zero_le _,hR,(fun v hv=>by cases hv),(lRq _).push _,bY hcl,AHeap.get_push_new _ _⟩ ?_ fun a ha=>?_
 ·(simp only [bkq,enterW,aS,ltF,ne_eq,Nat.reduceEqDiff,reduceCtorEq,hm,hf];try simp (disch:=first|exact Zd|omega) [↓zmo,beq,ybc,ybd,ybe,aa,wk,wk2,wk1,wkM,wkL,af,ybf,byq,biq,cn,hcl,hm,hf];try (repeat' (first|assumption|omega|exact True.intro|refine And.intro ?_ ?_|refine aU ?_|refine bh ?_|refine ae ?_ ?_|refine bj ?_ ?_|refine bU ?_|exact lRq _|refine lPq ?_ _|refine AHeap.Le.del ?_ ?_|(simp only [bt,and_true,true_and,hm,hf];first|done|omega|(simp;done)))))
  exact bY hcl
 obtain ⟨k,sn,Hc⟩:=a
 clear hR
 obtain ⟨hk,hR,hsn,hle,hcc,hid⟩:=ha
 dsimp only at hk hR hsn hle hcc hid ⊢
 have hnx:H.nx<Hc.nx:=glq hid
 have hne:(H.nx=Hc.nx)=False:=eq_false (by omega)
 have hne2:(Hc.nx=H.nx)=False:=eq_false (by omega)
 simp only [go_sem]
 refine ah (fun hc=>?_) (fun hc=>?_)
 ·have hk':k<ts.length:=by simp at hc;omega
  obtain ⟨x,hx⟩:∃ x,x=ts[k]:=⟨_,rfl⟩
  have hd:ts.drop k=x::ts.drop (k+1):=by rw [hx];exact dcq hk'
  have hg':=aO (f:=aR) (l:=ts) (k:=k) (x:=x) (by rw [gQq hk',hx])
  have e5:=Yk5 k
  rw [hd,yae] at hR
  unfold dsF at hR
  obtain ⟨hgx,hqx⟩:=hq x (by rw [hx];exact gMq hk')
  have hcs:aR x=.agg [.int .i64 x.table,.bool x.read,.bool x.write,.slice .any 1 (boL x.keys)]:=rfl
  have hel:AV.lt (Hc.nx+1) (aR x):=by
   have h1:=hm (Hc.nx+1) (by have:=hle.nx;omega)
   rw [AV.lt] at h1
   have h2:=h1.2 k (by rw [ybb];exact hk')
   rw [List.getElem_map] at h2
   rwa [← hx] at h2
  rw [hcs] at hqx hel hg'
  rw [znr] at hel
  have hcp:(Hc.push (.cells [.int .i64 x.table,.bool x.read,.bool x.write,.slice .any 1 (boL x.keys)])).Closed:=ae hcc hel
  have hlp:H.Le (Hc.push (.cells [.int .i64 x.table,.bool x.read,.bool x.write,.slice .any 1 (boL x.keys)])):=hle.push _
  have hgp:(Hc.push (.cells [.int .i64 x.table,.bool x.read,.bool x.write,.slice .any 1 (boL x.keys)])).get H.nx=some (.mapo (cj (AV.int .i64) sn)):=by rw [zlh,if_neg (by omega)];exact hid
  simp only [go_sem,iNq,ybb,hg',hne2,bD]
  (repeat with_reducible refine Yq ?_)
  refine ⟨_,?_,hqx _ hlp hcp⟩
  have hmg:=gZ sn (f x)
  have hmu:=@aA _ H.nx (((AV.int .i64) (f x),.bool true)::cj (AV.int .i64) sn) hcc
  have hsn':=fu bJ hsn
  cases hb:sn.contains (f x) with
  |true =>
   rw [hb,if_pos rfl] at hmg
   rw [hb,Bool.not_true,Bool.false_and] at hR
   subst hR
   simp only [aj,go_sem,zix,hne,hid,hmg]
   refine ⟨⟨da,hsn',bJ _ hgx,rfl⟩,?_⟩
   try simp only [go_sem,hmg]
   exact Z4
  |false =>
   rw [hb,if_neg Bool.false_ne_true] at hmg
   rw [hb,Bool.not_false,Bool.true_and] at hR
   simp only [aj,go_sem,zix,ziy,hne,hid,hmg,e5]
   refine ⟨⟨da,hsn',bJ _ hgx,rfl⟩,?_⟩
   try simp only [go_sem,hmg,hid,hne,ziy,e5]
   refine ⟨⟨da,hsn',bJ _ hgx,rfl,rfl⟩,(k+1,f x::sn,Hc.set H.nx (.mapo (cj (AV.int .i64) (f x::sn)))),⟨by dsimp only;omega,hR,?_,dN hle (nrq _),aA hcc,?_⟩,by dsimp only;omega,?_⟩
   ·intro v hv
    rcases List.mem_cons.1 hv with rfl|hv
    ·exact hgx
    ·exact hsn v hv
   ·dsimp only
    rw [aK,if_pos rfl,if_pos (glq hid)]
   ·have hmu':(Hc.set H.nx (.mapo (cj (AV.int .i64) (f x::sn)))).Closed:=hmu
    have hrow:(((AV.int .i64) (f x),AV.bool true)::cj (AV.int .i64) sn)=cj (AV.int .i64) (f x::sn):=rfl
    try rw [hrow]
    try simp only [hrow]
    exact Z5
 ·have hk':k=ts.length:=by simp at hc;omega
  subst hk'
  rw [List.drop_length] at hR
  have hR':true=R:=hR
  subst hR'
  simp only [go_sem]
  exact Z6
def eX:List AV→AHeap→(AV→Prop)→Prop
 |[.slice _ 1 l,.func (.func F) fst caps],H,K=>∃ (ts:List Int) (f:Int→Int),(l=ts.map (AV.int .i64)∧ts.length≤1000000∧∀ x∈ts,i64 (f x)∧∀ H',H.Le H'→H'.Closed→ACalls Tryz.prog F (fst++[(AV.int .i64) x]++caps) H' (.ret ((AV.int .i64) (f x))) H')∧K (.bool (dsF [] (ts.map f)))
 |_,_,_=>False
theorem qS:EntOk Tryz.prog 137 (Ent.pure eX):=by
 refine Ype fun _ H K h=>?_
 unfold eX at h
 split at h
 rotate_left
 ·exact h.elim
 rename_i m l F fst caps
 obtain ⟨ts,f,⟨rfl,hl,hq⟩,hK⟩:=h
 refine ⟨_,hK,?_⟩
 clear hK
 generalize hR:dsF [] (ts.map f)=R
 refine ACalls.of_aw (Ω:=[(F,Ent.pure (bD Tryz.prog F))]) (T:=ag []) ak (tCq cy tNq) Tryz.func137 (by kernel_rfl) (by rfl) (rs:=[.tmp 4]) (by rfl) (by kernel_rfl) (by simp only [Tryz.ntmps137,yaz,yba];decide) (nrq _) fun hcl hlt=>?_
 change aw _ _ _ (KI Tryz.prog [(F,Ent.pure (bD Tryz.prog F))] (dh Tryz.prog [.tmp 4] H.nx _ _ (ag [])) []) _ _
 have hm:∀ n',H.nx≤n'→AV.lt n' (.slice m 1 (ts.map (AV.int .i64))):=fun n' hn=>AV.lt_mono hn _ (hlt (.slice m 1 (ts.map (AV.int .i64))) (by simp))
 have hf:∀ n',H.nx≤n'→AV.lt n' (.func (.func F) fst caps):=fun n' hn=>AV.lt_mono hn _ (hlt (.func (.func F) fst caps) (by simp))
 clear hlt
 simp only [go_sem,ziw,ybb]
 refine ay (A:=Nat × List (Int) × AHeap) (fun a=>[(1,.func (.func F) fst caps),(5,.mapv H.nx),(10,.slice m 1 (ts.map (AV.int .i64))),(11,.int .i64 (ts.length:Int)),(12,.int .i64 (a.1:Int))]) (fun a=>a.2.2)
  (fun a=>a.1≤ts.length∧dsF a.2.1 ((ts.drop a.1).map f)=R∧(∀ v∈a.2.1,i64 v)∧H.Le a.2.2∧a.2.2.Closed∧a.2.2.get H.nx=some (.mapo (cj (AV.int .i64) a.2.1))) (fun a=>ts.length - a.1) (0,[],H.push (.mapo [])) ⟨Nat.zero_le _,hR,(fun v hv=>by cases hv),(lRq _).push _,bY hcl,AHeap.get_push_new _ _⟩ ?_ fun a ha=>?_
 ·(simp only [bkq,enterW,aS,ltF,ne_eq,Nat.reduceEqDiff,reduceCtorEq,hm,hf];try simp (disch:=first|exact Zd|omega) [↓zmo,beq,ybc,ybd,ybe,aa,wk,wk2,wk1,wkM,wkL,af,ybf,byq,biq,cn,hcl,hm,hf];try (repeat' (first|assumption|omega|exact True.intro|refine And.intro ?_ ?_|refine aU ?_|refine bh ?_|refine ae ?_ ?_|refine bj ?_ ?_|refine bU ?_|exact lRq _|refine lPq ?_ _|refine AHeap.Le.del ?_ ?_|(simp only [bt,and_true,true_and,hm,hf];first|done|omega|(simp;done)))))
  exact bY hcl
 obtain ⟨k,sn,Hc⟩:=a
 clear hR
 obtain ⟨hk,hR,hsn,hle,hcc,hid⟩:=ha
 dsimp only at hk hR hsn hle hcc hid ⊢
 have hnx:H.nx<Hc.nx:=glq hid
 have hne:(H.nx=Hc.nx)=False:=eq_false (by omega)
 have hne2:(Hc.nx=H.nx)=False:=eq_false (by omega)
 simp only [go_sem]
 refine ah (fun hc=>?_) (fun hc=>?_)
 ·have hk':k<ts.length:=by simp at hc;omega
  obtain ⟨x,hx⟩:∃ x,x=ts[k]:=⟨_,rfl⟩
  have hd:ts.drop k=x::ts.drop (k+1):=by rw [hx];exact dcq hk'
  have hg':=aO (f:=(AV.int .i64)) (l:=ts) (k:=k) (x:=x) (by rw [gQq hk',hx])
  have e5:=Yk5 k
  rw [hd,yae] at hR
  unfold dsF at hR
  obtain ⟨hgx,hqx⟩:=hq x (by rw [hx];exact gMq hk')
  have hcp:Hc.Closed:=hcc
  have hlp:H.Le Hc:=hle
  have hgp:=hid
  simp only [go_sem,iNq,ybb,hg',hne2,bD]
  (repeat with_reducible refine Yq ?_)
  refine ⟨_,?_,hqx _ hlp hcp⟩
  have hmg:=gZ sn (f x)
  have hmu:=@aA _ H.nx (((AV.int .i64) (f x),.bool true)::cj (AV.int .i64) sn) hcc
  have hsn':=fu bJ hsn
  cases hb:sn.contains (f x) with
  |true =>
   rw [hb,if_pos rfl] at hmg
   rw [hb,Bool.not_true,Bool.false_and] at hR
   subst hR
   simp only [aj,go_sem,zix,hne,hid,hmg]
   refine ⟨⟨da,hsn',bJ _ hgx,rfl⟩,?_⟩
   try simp only [go_sem,hmg]
   exact Z4
  |false =>
   rw [hb,if_neg Bool.false_ne_true] at hmg
   rw [hb,Bool.not_false,Bool.true_and] at hR
   simp only [aj,go_sem,zix,ziy,hne,hid,hmg,e5]
   refine ⟨⟨da,hsn',bJ _ hgx,rfl⟩,?_⟩
   try simp only [go_sem,hmg,hid,hne,ziy,e5]
   refine ⟨⟨da,hsn',bJ _ hgx,rfl,rfl⟩,(k+1,f x::sn,Hc.set H.nx (.mapo (cj (AV.int .i64) (f x::sn)))),⟨by dsimp only;omega,hR,?_,dN hle (nrq _),aA hcc,?_⟩,by dsimp only;omega,?_⟩
   ·intro v hv
    rcases List.mem_cons.1 hv with rfl|hv
    ·exact hgx
    ·exact hsn v hv
   ·dsimp only
    rw [aK,if_pos rfl,if_pos (glq hid)]
   ·have hmu':(Hc.set H.nx (.mapo (cj (AV.int .i64) (f x::sn)))).Closed:=hmu
    have hrow:(((AV.int .i64) (f x),AV.bool true)::cj (AV.int .i64) sn)=cj (AV.int .i64) (f x::sn):=rfl
    try rw [hrow]
    try simp only [hrow]
    exact Z5
 ·have hk':k=ts.length:=by simp at hc;omega
  subst hk'
  rw [List.drop_length] at hR
  have hR':true=R:=hR
  subst hR'
  simp only [go_sem]
  exact Z6
def uh:List AV→AHeap→(AV→Prop)→Prop
 |[.slice _ 2 l,.func (.func F) fst caps],H,K=>∃ (ts:List SParam) (f:SParam→List UInt8),(l=ts.map bb∧ts.length≤1000000∧∀ x∈ts,Gh (f x)∧∀ H',H.Le H'→H'.Closed→ACalls Tryz.prog F (fst++[bb x]++caps) H' (.ret (AV.str (f x))) H')∧K (.bool (dsF [] (ts.map f)))
 |_,_,_=>False
theorem Fl:EntOk Tryz.prog 270 (Ent.pure uh):=by
 refine Ype fun _ H K h=>?_
 unfold uh at h
 split at h
 rotate_left
 ·exact h.elim
 rename_i m l F fst caps
 obtain ⟨ts,f,⟨rfl,hl,hq⟩,hK⟩:=h
 refine ⟨_,hK,?_⟩
 clear hK
 generalize hR:dsF [] (ts.map f)=R
 refine ACalls.of_aw (Ω:=[(F,Ent.pure (bD Tryz.prog F))]) (T:=ag []) ak (tCq cy tNq) Tryz.func270 (by kernel_rfl) (by rfl) (rs:=[.tmp 4]) (by rfl) (by kernel_rfl) (by simp only [Tryz.ntmps270,yaz,yba];decide) (nrq _) fun hcl hlt=>?_
 change aw _ _ _ (KI Tryz.prog [(F,Ent.pure (bD Tryz.prog F))] (dh Tryz.prog [.tmp 4] H.nx _ _ (ag [])) []) _ _
 have hm:∀ n',H.nx≤n'→AV.lt n' (.slice m 2 (ts.map bb)):=fun n' hn=>AV.lt_mono hn _ (hlt (.slice m 2 (ts.map bb)) (by simp))
 have hf:∀ n',H.nx≤n'→AV.lt n' (.func (.func F) fst caps):=fun n' hn=>AV.lt_mono hn _ (hlt (.func (.func F) fst caps) (by simp))
 clear hlt
 simp only [go_sem,ziw,ybb]
 refine ay (A:=Nat × List (List UInt8) × AHeap) (fun a=>[(1,.func (.func F) fst caps),(5,.mapv H.nx),(10,.slice m 2 (ts.map bb)),(11,.int .i64 (ts.length:Int)),(12,.int .i64 (a.1:Int))]) (fun a=>a.2.2)
  (fun a=>a.1≤ts.length∧dsF a.2.1 ((ts.drop a.1).map f)=R∧(∀ v∈a.2.1,Gh v)∧H.Le a.2.2∧a.2.2.Closed∧a.2.2.get H.nx=some (.mapo (cj AV.str a.2.1))) (fun a=>ts.length - a.1) (0,[],H.push (.mapo [])) ⟨Nat.zero_le _,hR,(fun v hv=>by cases hv),(lRq _).push _,bY hcl,AHeap.get_push_new _ _⟩ ?_ fun a ha=>?_
 ·(simp only [bkq,enterW,aS,ltF,ne_eq,Nat.reduceEqDiff,reduceCtorEq,hm,hf];try simp (disch:=first|exact Zd|omega) [↓zmo,beq,ybc,ybd,ybe,aa,wk,wk2,wk1,wkM,wkL,af,ybf,byq,biq,cn,hcl,hm,hf];try (repeat' (first|assumption|omega|exact True.intro|refine And.intro ?_ ?_|refine aU ?_|refine bh ?_|refine ae ?_ ?_|refine bj ?_ ?_|refine bU ?_|exact lRq _|refine lPq ?_ _|refine AHeap.Le.del ?_ ?_|(simp only [bt,and_true,true_and,hm,hf];first|done|omega|(simp;done)))))
  exact bY hcl
 obtain ⟨k,sn,Hc⟩:=a
 clear hR
 obtain ⟨hk,hR,hsn,hle,hcc,hid⟩:=ha
 dsimp only at hk hR hsn hle hcc hid ⊢
 have hnx:H.nx<Hc.nx:=glq hid
 have hne:(H.nx=Hc.nx)=False:=eq_false (by omega)
 have hne2:(Hc.nx=H.nx)=False:=eq_false (by omega)
 simp only [go_sem]
 refine ah (fun hc=>?_) (fun hc=>?_)
 ·have hk':k<ts.length:=by simp at hc;omega
  obtain ⟨x,hx⟩:∃ x,x=ts[k]:=⟨_,rfl⟩
  have hd:ts.drop k=x::ts.drop (k+1):=by rw [hx];exact dcq hk'
  have hg':=aO (f:=bb) (l:=ts) (k:=k) (x:=x) (by rw [gQq hk',hx])
  have e5:=Yk5 k
  rw [hd,yae] at hR
  unfold dsF at hR
  obtain ⟨hgx,hqx⟩:=hq x (by rw [hx];exact gMq hk')
  have hcs:bb x=.agg [.str x.name,.int .i64 x.bits]:=rfl
  have hel:AV.lt (Hc.nx+1) (bb x):=by
   have h1:=hm (Hc.nx+1) (by have:=hle.nx;omega)
   rw [AV.lt] at h1
   have h2:=h1.2 k (by rw [ybb];exact hk')
   rw [List.getElem_map] at h2
   rwa [← hx] at h2
  rw [hcs] at hqx hel hg'
  rw [znr] at hel
  have hcp:(Hc.push (.cells [.str x.name,.int .i64 x.bits])).Closed:=ae hcc hel
  have hlp:H.Le (Hc.push (.cells [.str x.name,.int .i64 x.bits])):=hle.push _
  have hgp:(Hc.push (.cells [.str x.name,.int .i64 x.bits])).get H.nx=some (.mapo (cj AV.str sn)):=by rw [zlh,if_neg (by omega)];exact hid
  simp only [go_sem,iNq,ybb,hg',hne2,bD]
  (repeat with_reducible refine Yq ?_)
  refine ⟨_,?_,hqx _ hlp hcp⟩
  have hmg:=tj sn (f x)
  have hmu:=@aA _ H.nx ((AV.str (f x),.bool true)::cj AV.str sn) hcc
  have hsn':=fu i6 hsn
  cases hb:sn.contains (f x) with
  |true =>
   rw [hb,if_pos rfl] at hmg
   rw [hb,Bool.not_true,Bool.false_and] at hR
   subst hR
   simp only [aj,go_sem,zix,hne,hid,hmg]
   refine ⟨⟨oG,hsn',i6 _ hgx,rfl⟩,?_⟩
   try simp only [go_sem,hmg]
   exact Z4
  |false =>
   rw [hb,if_neg Bool.false_ne_true] at hmg
   rw [hb,Bool.not_false,Bool.true_and] at hR
   simp only [aj,go_sem,zix,ziy,hne,hid,hmg,e5]
   refine ⟨⟨oG,hsn',i6 _ hgx,rfl⟩,?_⟩
   try simp only [go_sem,hmg,hid,hne,ziy,e5]
   refine ⟨⟨oG,hsn',i6 _ hgx,rfl,rfl⟩,(k+1,f x::sn,Hc.set H.nx (.mapo (cj AV.str (f x::sn)))),⟨by dsimp only;omega,hR,?_,dN hle (nrq _),aA hcc,?_⟩,by dsimp only;omega,?_⟩
   ·intro v hv
    rcases List.mem_cons.1 hv with rfl|hv
    ·exact hgx
    ·exact hsn v hv
   ·dsimp only
    rw [aK,if_pos rfl,if_pos (glq hid)]
   ·have hmu':(Hc.set H.nx (.mapo (cj AV.str (f x::sn)))).Closed:=hmu
    have hrow:((AV.str (f x),AV.bool true)::cj AV.str sn)=cj AV.str (f x::sn):=rfl
    try rw [hrow]
    try simp only [hrow]
    exact Z5
 ·have hk':k=ts.length:=by simp at hc;omega
  subst hk'
  rw [List.drop_length] at hR
  have hR':true=R:=hR
  subst hR'
  simp only [go_sem]
  exact Z6
def uN:List AV→AHeap→(AV→Prop)→Prop
 |[.slice _ 3 l,.func (.func F) fst caps],H,K=>∃ (ts:List SKey) (f:SKey→List UInt8),(l=ts.map br∧ts.length≤1000000∧∀ x∈ts,Gh (f x)∧∀ H',H.Le H'→H'.Closed→ACalls Tryz.prog F (fst++[br x]++caps) H' (.ret (AV.str (f x))) H')∧K (.bool (dsF [] (ts.map f)))
 |_,_,_=>False
theorem Gk:EntOk Tryz.prog 273 (Ent.pure uN):=by
 refine Ype fun _ H K h=>?_
 unfold uN at h
 split at h
 rotate_left
 ·exact h.elim
 rename_i m l F fst caps
 obtain ⟨ts,f,⟨rfl,hl,hq⟩,hK⟩:=h
 refine ⟨_,hK,?_⟩
 clear hK
 generalize hR:dsF [] (ts.map f)=R
 refine ACalls.of_aw (Ω:=[(F,Ent.pure (bD Tryz.prog F))]) (T:=ag []) ak (tCq cy tNq) Tryz.func273 (by kernel_rfl) (by rfl) (rs:=[.tmp 4]) (by rfl) (by kernel_rfl) (by simp only [Tryz.ntmps273,yaz,yba];decide) (nrq _) fun hcl hlt=>?_
 change aw _ _ _ (KI Tryz.prog [(F,Ent.pure (bD Tryz.prog F))] (dh Tryz.prog [.tmp 4] H.nx _ _ (ag [])) []) _ _
 have hm:∀ n',H.nx≤n'→AV.lt n' (.slice m 3 (ts.map br)):=fun n' hn=>AV.lt_mono hn _ (hlt (.slice m 3 (ts.map br)) (by simp))
 have hf:∀ n',H.nx≤n'→AV.lt n' (.func (.func F) fst caps):=fun n' hn=>AV.lt_mono hn _ (hlt (.func (.func F) fst caps) (by simp))
 clear hlt
 simp only [go_sem,ziw,ybb]
 refine ay (A:=Nat × List (List UInt8) × AHeap) (fun a=>[(1,.func (.func F) fst caps),(5,.mapv H.nx),(10,.slice m 3 (ts.map br)),(11,.int .i64 (ts.length:Int)),(12,.int .i64 (a.1:Int))]) (fun a=>a.2.2)
  (fun a=>a.1≤ts.length∧dsF a.2.1 ((ts.drop a.1).map f)=R∧(∀ v∈a.2.1,Gh v)∧H.Le a.2.2∧a.2.2.Closed∧a.2.2.get H.nx=some (.mapo (cj AV.str a.2.1))) (fun a=>ts.length - a.1) (0,[],H.push (.mapo [])) ⟨Nat.zero_le _,hR,(fun v hv=>by cases hv),(lRq _).push _,bY hcl,AHeap.get_push_new _ _⟩ ?_ fun a ha=>?_
 ·(simp only [bkq,enterW,aS,ltF,ne_eq,Nat.reduceEqDiff,reduceCtorEq,hm,hf];try simp (disch:=first|exact Zd|omega) [↓zmo,beq,ybc,ybd,ybe,aa,wk,wk2,wk1,wkM,wkL,af,ybf,byq,biq,cn,hcl,hm,hf];try (repeat' (first|assumption|omega|exact True.intro|refine And.intro ?_ ?_|refine aU ?_|refine bh ?_|refine ae ?_ ?_|refine bj ?_ ?_|refine bU ?_|exact lRq _|refine lPq ?_ _|refine AHeap.Le.del ?_ ?_|(simp only [bt,and_true,true_and,hm,hf];first|done|omega|(simp;done)))))
  exact bY hcl
 obtain ⟨k,sn,Hc⟩:=a
 clear hR
 obtain ⟨hk,hR,hsn,hle,hcc,hid⟩:=ha
 dsimp only at hk hR hsn hle hcc hid ⊢
 have hnx:H.nx<Hc.nx:=glq hid
 have hne:(H.nx=Hc.nx)=False:=eq_false (by omega)
 have hne2:(Hc.nx=H.nx)=False:=eq_false (by omega)
 simp only [go_sem]
 refine ah (fun hc=>?_) (fun hc=>?_)
 ·have hk':k<ts.length:=by simp at hc;omega
  obtain ⟨x,hx⟩:∃ x,x=ts[k]:=⟨_,rfl⟩
  have hd:ts.drop k=x::ts.drop (k+1):=by rw [hx];exact dcq hk'
  have hg':=aO (f:=br) (l:=ts) (k:=k) (x:=x) (by rw [gQq hk',hx])
  have e5:=Yk5 k
  rw [hd,yae] at hR
  unfold dsF at hR
  obtain ⟨hgx,hqx⟩:=hq x (by rw [hx];exact gMq hk')
  have hcs:br x=.agg [.str x.name,.int .i64 x.field,.int .i64 x.kind]:=rfl
  have hel:AV.lt (Hc.nx+1) (br x):=by
   have h1:=hm (Hc.nx+1) (by have:=hle.nx;omega)
   rw [AV.lt] at h1
   have h2:=h1.2 k (by rw [ybb];exact hk')
   rw [List.getElem_map] at h2
   rwa [← hx] at h2
  rw [hcs] at hqx hel hg'
  rw [znr] at hel
  have hcp:(Hc.push (.cells [.str x.name,.int .i64 x.field,.int .i64 x.kind])).Closed:=ae hcc hel
  have hlp:H.Le (Hc.push (.cells [.str x.name,.int .i64 x.field,.int .i64 x.kind])):=hle.push _
  have hgp:(Hc.push (.cells [.str x.name,.int .i64 x.field,.int .i64 x.kind])).get H.nx=some (.mapo (cj AV.str sn)):=by rw [zlh,if_neg (by omega)];exact hid
  simp only [go_sem,iNq,ybb,hg',hne2,bD]
  (repeat with_reducible refine Yq ?_)
  refine ⟨_,?_,hqx _ hlp hcp⟩
  have hmg:=tj sn (f x)
  have hmu:=@aA _ H.nx ((AV.str (f x),.bool true)::cj AV.str sn) hcc
  have hsn':=fu i6 hsn
  cases hb:sn.contains (f x) with
  |true =>
   rw [hb,if_pos rfl] at hmg
   rw [hb,Bool.not_true,Bool.false_and] at hR
   subst hR
   simp only [aj,go_sem,zix,hne,hid,hmg]
   refine ⟨⟨oG,hsn',i6 _ hgx,rfl⟩,?_⟩
   try simp only [go_sem,hmg]
   exact Z4
  |false =>
   rw [hb,if_neg Bool.false_ne_true] at hmg
   rw [hb,Bool.not_false,Bool.true_and] at hR
   simp only [aj,go_sem,zix,ziy,hne,hid,hmg,e5]
   refine ⟨⟨oG,hsn',i6 _ hgx,rfl⟩,?_⟩
   try simp only [go_sem,hmg,hid,hne,ziy,e5]
   refine ⟨⟨oG,hsn',i6 _ hgx,rfl,rfl⟩,(k+1,f x::sn,Hc.set H.nx (.mapo (cj AV.str (f x::sn)))),⟨by dsimp only;omega,hR,?_,dN hle (nrq _),aA hcc,?_⟩,by dsimp only;omega,?_⟩
   ·intro v hv
    rcases List.mem_cons.1 hv with rfl|hv
    ·exact hgx
    ·exact hsn v hv
   ·dsimp only
    rw [aK,if_pos rfl,if_pos (glq hid)]
   ·have hmu':(Hc.set H.nx (.mapo (cj AV.str (f x::sn)))).Closed:=hmu
    have hrow:((AV.str (f x),AV.bool true)::cj AV.str sn)=cj AV.str (f x::sn):=rfl
    try rw [hrow]
    try simp only [hrow]
    exact Z5
 ·have hk':k=ts.length:=by simp at hc;omega
  subst hk'
  rw [List.drop_length] at hR
  have hR':true=R:=hR
  subst hR'
  simp only [go_sem]
  exact Z6
def gQ (P:Program) (F:FuncId):List AV→AHeap→(AEnd→AHeap→Prop)→Prop:=fun args H K=>∃ x H1,K x H1∧ACalls P F args H x H1
theorem iT {P:Program} {F:FuncId}:EntOk P F (Ent.effect (gQ P F)):=EntOk.effect fun _ _ _ h=>h
def ixS {α σ:Type} (st:α→σ→Bool × σ):List α→σ→Nat→Int × σ
 |[],s,_=>(-1,s)
 |x::l,s,k=>if (st x s).1 then ((k:Int),(st x s).2) else ixS st l (st x s).2 (k+1)
def evS {α σ:Type} (st:α→σ→Bool × σ):List α→σ→Bool × σ
 |[],s=>(true,s)
 |x::l,s=>if (st x s).1 then evS st l (st x s).2 else (false,(st x s).2)
theorem mg {α σ:Type} {st:α→σ→Bool × σ}:∀ {l:List α} {s:σ} {k:Nat},(decide (0≤(ixS (fun x s=>(!(st x s).1,(st x s).2)) l s k).1),(ixS (fun x s=>(!(st x s).1,(st x s).2)) l s k).2)=(!(evS st l s).1,(evS st l s).2)
 |[],s,k=>rfl
 |x::l,s,k=>by
  unfold ixS evS
  dsimp only
  cases h:(st x s).1
  ·rw [Bool.not_false,if_pos rfl,if_neg (by decide)]
   dsimp only
   rw [dtq (Int.natCast_nonneg _)];rfl
  ·rw [Bool.not_true,if_neg (by decide),if_pos rfl,mg]
abbrev mpV (s:List VN):AObj:=.mapo (cj iB s)
def Stp {α:Type} (P:Program) (av:α→AV) (F:FuncId) (fst caps:List AV) (H:AHeap) (id:Nat) (g:List VN→Prop) (st:α→List VN→Bool × List VN) (x:α):Prop :=
 ∀ s,g s→g (st x s).2∧∀ H',(H.set id (mpV s)).Le H'→H'.Closed→ACalls P F (fst++[av x]++caps) H' (.ret (.bool (st x s).1)) (H'.set id (mpV (st x s).2))
theorem jv {H H':AHeap} {i:Nat} {a b:AObj} (h:(H.set i a).Le H'):(H.set i b).Le (H'.set i b):=by
 have hn:=h.nx
 rw [zlf] at hn
 refine ⟨by rw [zlf,zlf];exact hn,fun j o hj=>?_⟩
 have hjl:=glq hj
 rw [zlf] at hjl
 rw [aK] at hj ⊢
 by_cases e:j=i
 ·subst e
  rw [if_pos rfl,if_pos hjl] at hj
  rw [if_pos rfl,if_pos (by omega)]
  exact hj
 ·rw [if_neg e] at hj ⊢
  refine h.get j o ?_
  rw [aK,if_neg e]
  exact hj
def tL:List AV→AHeap→(AEnd→AHeap→Prop)→Prop
 |[.slice _ 3 l,.func (.func F) fst caps],H,K=>∃ (ts:List SField) (id:Nat) (sn:List VN) (st:SField→List VN→Bool × List VN) (g:List VN→Prop),(l=ts.map aI∧ts.length≤1000000∧H.get id=some (mpV sn)∧g sn∧∀ x∈ts,Stp Tryz.prog aI F fst caps H id g st x)∧K (.ret (.int .i64 (ixS st ts sn 0).1)) (H.set id (mpV (ixS st ts sn 0).2))
 |_,_,_=>False
theorem Gr:EntOk Tryz.prog 66 (Ent.effect tL):=by
 refine EntOk.effect fun args H K h=>?_
 unfold tL at h
 split at h
 rotate_left
 ·exact h.elim
 rename_i m l F fst caps
 obtain ⟨ts,id,sn,st,g,⟨rfl,hl,hid,hg,hq⟩,hK⟩:=h
 refine ⟨_,_,hK,?_⟩
 clear hK
 generalize hR:ixS st ts sn 0=R
 have hnx:id<H.nx:=glq hid
 have hss:=dp hid
 refine ACalls.of_aw (Ω:=[(F,Ent.effect (gQ Tryz.prog F))]) (T:=ag []) ak (tCq iT tNq) Tryz.func66 (by kernel_rfl) (by rfl) (rs:=[.tmp 4]) (by rfl) (by kernel_rfl) (by simp only [Tryz.ntmps66,yaz,yba];decide) (nrq _) fun hcl hlt=>?_
 change aw _ _ _ (KI Tryz.prog [(F,Ent.effect (gQ Tryz.prog F))] (dh Tryz.prog [.tmp 4] H.nx _ _ (ag [])) []) _ _
 have hm:AV.lt H.nx (.slice m 3 (ts.map aI)):=hlt _ (by simp)
 have hf:AV.lt H.nx (.func (.func F) fst caps):=hlt _ (by simp)
 clear hlt
 simp only [go_sem,ybb]
 refine ay (A:=Nat × List VN) (fun a=>[(0,.slice m 3 (ts.map aI)),(1,.func (.func F) fst caps),(7,.int .i64 (ts.length:Int)),(8,.int .i64 (a.1:Int))]) (fun a=>H.set id (mpV a.2)) (fun a=>a.1≤ts.length∧g a.2∧ixS st (ts.drop a.1) a.2 a.1=R) (fun a=>ts.length - a.1) (0,sn) ⟨by dsimp only;omega,hg,hR⟩ ?_ fun a hk=>?_
 ·dsimp only
  rw [hss]
  refine ⟨nrq _,lRq _,hcl,?_,?_⟩
  ·simp [ltF,znf,hm,hf]
  ·simp [aS,wk2,wk1,wkM,Fr.get]
 clear hR
 obtain ⟨k,s⟩:=a
 obtain ⟨hk,hgs,hR⟩:=hk
 dsimp only at hk hgs hR ⊢
 have hcc:(H.set id (mpV s)).Closed:=aA hcl
 simp only [go_sem]
 refine ah (fun hc=>?_) (fun hc=>?_)
 ·have hk':k<ts.length:=by simp at hc;omega
  obtain ⟨x,hx⟩:∃ x,x=ts[k]:=⟨_,rfl⟩
  have hd:ts.drop k=x::ts.drop (k+1):=by rw [hx];exact dcq hk'
  have hg':=aO (f:=aI) (l:=ts) (k:=k) (x:=x) (by rw [gQq hk',hx])
  have e5:=Yk5 k
  rw [hd] at hR
  unfold ixS at hR
  obtain ⟨hg2,hqx⟩:=hq x (by rw [hx];exact gMq hk') s hgs
  have hqx:=hqx _ (lRq _) hcc
  have hcs:aI x=.agg [.int .i64 x.id,.str x.name,.int .i64 x.bits]:=rfl
  have hc2:(H.set id (mpV (st x s).2)).Closed:=aA hcl
  rw [hcs] at hqx hg'
  simp only [go_sem,iNq,ybb,hg',gQ]
  (repeat with_reducible refine Yq ?_)
  refine ⟨_,_,?_,hqx⟩
  try simp only [aM,go_sem]
  refine ah (fun hq=>?_) (fun hq=>?_)
  ·rw [if_pos hq] at hR
   subst hR
   simp only [go_sem]
   exact Z7
  ·rw [if_neg (by rw [hq];decide)] at hR
   simp only [go_sem,e5]
   refine ⟨(k+1,(st x s).2),⟨by dsimp only;omega,hg2,hR⟩,by dsimp only;omega,nrq _,lRq _,hc2,?_,?_⟩
   ·simp [ltF,znf,hm,hf,zlf]
   ·simp [aS,wk2,wk1,wkM,Fr.get]
 ·have hk':k=ts.length:=by simp at hc;omega
  subst hk'
  rw [List.drop_length] at hR
  unfold ixS at hR
  subst hR
  simp only [go_sem]
  exact Z8
def tq:List AV→AHeap→(AEnd→AHeap→Prop)→Prop
 |[.slice _ 3 l,.func (.func F) fst caps],H,K=>∃ (ts:List SField) (id:Nat) (sn:List VN) (st:SField→List VN→Bool × List VN) (g:List VN→Prop),(l=ts.map aI∧ts.length≤1000000∧H.get id=some (mpV sn)∧g sn∧∀ x∈ts,Stp Tryz.prog aI F fst caps H id g st x)∧K (.ret (.bool (decide (0≤(ixS st ts sn 0).1)))) (H.set id (mpV (ixS st ts sn 0).2))
 |_,_,_=>False
theorem DP:EntOk Tryz.prog 250 (Ent.effect tq):=by
 refine EntOk.effect fun args H K h=>?_
 unfold tq at h
 split at h
 rotate_left
 ·exact h.elim
 rename_i m l F fst caps
 obtain ⟨ts,id,sn,st,g,⟨rfl,hl,hid,hg,hq⟩,hK⟩:=h
 refine ⟨_,_,hK,?_⟩
 clear hK
 have hc2:(H.Closed→(H.set id (mpV (ixS st ts sn 0).2)).Closed):=fun h=>aA h
 refine ACalls.fW ak (tCq Gr tNq) Tryz.func250 [.tmp 4] (nrq _) (T:=ag []) (h:=fun hcl hlt=>?_)
 have hcc:=hc2 hcl
 clear hlt hc2
 simp only [go_sem,tL]
 refine ⟨ts,id,sn,st,g,⟨rfl,hl,hid,hg,hq⟩,?_⟩
 generalize ixS st ts sn 0=R at *
 try simp only [aM,go_sem]
 exact Z9
def Ag:List AV→AHeap→(AEnd→AHeap→Prop)→Prop
 |[x,.ptr c 0],H,K=>∃ (t:SField) (id:Nat) (sn:List VN) (st:SField→List VN→Bool × List VN) (g:List VN→Prop) (F:FuncId) (fst caps:List AV),(x=aI t∧H.get c=some (.cells [.func (.func F) fst caps])∧H.get id=some (mpV sn)∧g sn∧Stp Tryz.prog aI F fst caps H id g st t)∧K (.ret (.bool (!(st t sn).1))) (H.set id (mpV (st t sn).2))
 |_,_,_=>False
theorem ok_hLFld:EntOk Tryz.prog 251 (Ent.effect Ag):=by
 refine EntOk.effect fun args H K h=>?_
 unfold Ag at h
 split at h
 rotate_left
 ·exact h.elim
 rename_i x c
 obtain ⟨x,id,sn,st,g,F,fst,caps,⟨rfl,hg,hid,hgs,hq⟩,hK⟩:=h
 refine ⟨_,_,hK,?_⟩
 clear hK
 have hcs:=au hg
 have hl:=glq hg
 have hl2:=glq hid
 have hne:(c=H.nx)=False:=eq_false (by omega)
 have hne2:(id=H.nx)=False:=eq_false (by omega)
 have hss:=dp hid
 obtain ⟨hg2,hqx⟩:=hq sn hgs
 have hav:aI x=.agg [.int .i64 x.id,.str x.name,.int .i64 x.bits]:=rfl
 rw [hav] at hqx
 rw [hav]
 refine ACalls.of_aw (Ω:=[(F,Ent.effect (gQ Tryz.prog F))]) (T:=ag []) ak (tCq iT tNq) Tryz.func251 (by kernel_rfl) (by rfl) (rs:=[.tmp 3]) (by rfl) (by kernel_rfl) (by simp only [Tryz.ntmps251,yaz,yba];decide) (nrq _) fun hcl hlt=>?_
 change aw _ _ _ (KI Tryz.prog [(F,Ent.effect (gQ Tryz.prog F))] (dh Tryz.prog [.tmp 3] H.nx _ _ (ag [])) []) _ _
 have hlx:=hlt _ (List.mem_cons_self)
 clear hlt
 have h0:=AV.lt_mono (Nat.le_succ H.nx) _ hlx
 rw [znr] at h0
 have hcp:(H.push (.cells [.int .i64 x.id,.str x.name,.int .i64 x.bits])).Closed:=ae hcl h0
 have hc2:(H.set id (mpV (st x sn).2)).Closed:=aA hcl
 have hq1:=hqx (H.push (.cells [.int .i64 x.id,.str x.name,.int .i64 x.bits])) (by rw [hss];exact (lRq _).push _) hcp
 rw [zli,if_neg (by omega)] at hq1
 simp only [go_sem,hcs,hne,hg,gQ]
 refine ⟨_,_,?_,hq1⟩
 try simp only [aM,go_sem]
 exact Z7
def uQ:List AV→AHeap→(AEnd→AHeap→Prop)→Prop
 |[.slice _ 3 l,.func (.func F) fst caps],H,K=>∃ (ts:List SField) (id:Nat) (sn:List VN) (st:SField→List VN→Bool × List VN) (g:List VN→Prop),(l=ts.map aI∧ts.length≤1000000∧H.get id=some (mpV sn)∧g sn∧∀ x∈ts,Stp Tryz.prog aI F fst caps H id g st x)∧K (.ret (.bool (evS st ts sn).1)) (H.set id (mpV (evS st ts sn).2))
 |_,_,_=>False
theorem Ge:EntOk Tryz.prog 97 (Ent.effect uQ):=by
 refine EntOk.effect fun args H K h=>?_
 unfold uQ at h
 split at h
 rotate_left
 ·exact h.elim
 rename_i m l F fst caps
 obtain ⟨ts,id,sn,st,g,⟨rfl,hl,hid,hg,hq⟩,hK⟩:=h
 refine ⟨_,_,hK,?_⟩
 clear hK
 have hR:=@mg _ _ st ts sn 0
 have hR1:=congrArg Prod.fst hR
 have hR2:=congrArg Prod.snd hR
 dsimp only at hR1 hR2
 clear hR
 rw [← hR2]
 generalize hX:evS st ts sn=X at *
 have hl2:=glq hid
 have hne2:(id=H.nx)=False:=eq_false (by omega)
 refine ACalls.fW ak (tCq DP tNq) Tryz.func97 [.tmp 4] (nrq _) (T:=ag []) (h:=fun hcl hlt=>?_)
 have hfx:=hlt _ (List.mem_cons_of_mem _ List.mem_cons_self)
 clear hlt
 have hcp:(H.push (.cells [.func (.func F) fst caps])).Closed:=ae hcl (by simp only [znu,znv,and_true];exact AV.lt_mono (Nat.le_succ H.nx) _ hfx)
 simp only [go_sem,tq]
 refine ⟨ts,id,sn,fun x s=>(!(st x s).1,(st x s).2),g,⟨rfl,hl,?_,hg,fun x hx s hs=>?_⟩,?_⟩
 ·rw [if_neg (by omega)];exact hid
 ·obtain ⟨h1,h2⟩:=hq x hx s hs
  refine ⟨h1,fun H' hle hcl'=>?_⟩
  rw [zli,if_neg (by omega)] at hle
  have hle0:(H.set id (mpV s)).Le H':=((lRq _).push _).trans hle
  have hg0:H'.get H.nx=some (.cells [.func (.func F) fst caps]):=hle.get _ _ (AHeap.get_push_new _ _)
  have hid':H'.get id=some (mpV s):=by
   refine hle.get _ _ ?_
   rw [zlh,if_neg (by rw [zlf];omega),aK,if_pos rfl,if_pos hl2]
  obtain ⟨v,H1,⟨hv,hH⟩,hc⟩:=ok_hLFld.2.1 rfl [aI x,.ptr H.nx 0] H' (fun v H1=>v=.ret (.bool (!(st x s).1))∧H1=H'.set id (mpV (st x s).2)) ⟨x,id,s,st,g,F,fst,caps,⟨rfl,hg0,hid',hs,fun s' hs'=>⟨(hq x hx s' hs').1,fun H2 h3 h4=>(hq x hx s' hs').2 H2 ((jv hle0).trans h3) h4⟩⟩,rfl,rfl⟩
  subst hv hH
  exact hc
 ·rw [hR1]
  try simp only [aM,go_sem]
  have hc2:=@aA _ id (cj iB (ixS (fun x s=>(!(st x s).1,(st x s).2)) ts sn 0).2) hcl
  exact Z10
def ub:List AV→AHeap→(AEnd→AHeap→Prop)→Prop
 |[.slice _ 3 l,.func (.func F) fst caps],H,K=>∃ (ts:List SHeader) (id:Nat) (sn:List VN) (st:SHeader→List VN→Bool × List VN) (g:List VN→Prop),(l=ts.map az∧ts.length≤1000000∧H.get id=some (mpV sn)∧g sn∧∀ x∈ts,Stp Tryz.prog az F fst caps H id g st x)∧K (.ret (.int .i64 (ixS st ts sn 0).1)) (H.set id (mpV (ixS st ts sn 0).2))
 |_,_,_=>False
theorem CV:EntOk Tryz.prog 68 (Ent.effect ub):=by
 refine EntOk.effect fun args H K h=>?_
 unfold ub at h
 split at h
 rotate_left
 ·exact h.elim
 rename_i m l F fst caps
 obtain ⟨ts,id,sn,st,g,⟨rfl,hl,hid,hg,hq⟩,hK⟩:=h
 refine ⟨_,_,hK,?_⟩
 clear hK
 generalize hR:ixS st ts sn 0=R
 have hnx:id<H.nx:=glq hid
 have hss:=dp hid
 refine ACalls.of_aw (Ω:=[(F,Ent.effect (gQ Tryz.prog F))]) (T:=ag []) ak (tCq iT tNq) Tryz.func68 (by kernel_rfl) (by rfl) (rs:=[.tmp 4]) (by rfl) (by kernel_rfl) (by simp only [Tryz.ntmps68,yaz,yba];decide) (nrq _) fun hcl hlt=>?_
 change aw _ _ _ (KI Tryz.prog [(F,Ent.effect (gQ Tryz.prog F))] (dh Tryz.prog [.tmp 4] H.nx _ _ (ag [])) []) _ _
 have hm:AV.lt H.nx (.slice m 3 (ts.map az)):=hlt _ (by simp)
 have hf:AV.lt H.nx (.func (.func F) fst caps):=hlt _ (by simp)
 clear hlt
 simp only [go_sem,ybb]
 refine ay (A:=Nat × List VN) (fun a=>[(0,.slice m 3 (ts.map az)),(1,.func (.func F) fst caps),(7,.int .i64 (ts.length:Int)),(8,.int .i64 (a.1:Int))]) (fun a=>H.set id (mpV a.2)) (fun a=>a.1≤ts.length∧g a.2∧ixS st (ts.drop a.1) a.2 a.1=R) (fun a=>ts.length - a.1) (0,sn) ⟨by dsimp only;omega,hg,hR⟩ ?_ fun a hk=>?_
 ·dsimp only
  rw [hss]
  refine ⟨nrq _,lRq _,hcl,?_,?_⟩
  ·simp [ltF,znf,hm,hf]
  ·simp [aS,wk2,wk1,wkM,Fr.get]
 clear hR
 obtain ⟨k,s⟩:=a
 obtain ⟨hk,hgs,hR⟩:=hk
 dsimp only at hk hgs hR ⊢
 have hcc:(H.set id (mpV s)).Closed:=aA hcl
 simp only [go_sem]
 refine ah (fun hc=>?_) (fun hc=>?_)
 ·have hk':k<ts.length:=by simp at hc;omega
  obtain ⟨x,hx⟩:∃ x,x=ts[k]:=⟨_,rfl⟩
  have hd:ts.drop k=x::ts.drop (k+1):=by rw [hx];exact dcq hk'
  have hg':=aO (f:=az) (l:=ts) (k:=k) (x:=x) (by rw [gQq hk',hx])
  have e5:=Yk5 k
  rw [hd] at hR
  unfold ixS at hR
  obtain ⟨hg2,hqx⟩:=hq x (by rw [hx];exact gMq hk') s hgs
  have hqx:=hqx _ (lRq _) hcc
  have hcs:az x=.agg [.int .i64 x.id,.str x.name,.slice .any 1 (inL x.fields)]:=rfl
  have hc2:(H.set id (mpV (st x s).2)).Closed:=aA hcl
  rw [hcs] at hqx hg'
  simp only [go_sem,iNq,ybb,hg',gQ]
  (repeat with_reducible refine Yq ?_)
  refine ⟨_,_,?_,hqx⟩
  try simp only [aM,go_sem]
  refine ah (fun hq=>?_) (fun hq=>?_)
  ·rw [if_pos hq] at hR
   subst hR
   simp only [go_sem]
   exact Z7
  ·rw [if_neg (by rw [hq];decide)] at hR
   simp only [go_sem,e5]
   refine ⟨(k+1,(st x s).2),⟨by dsimp only;omega,hg2,hR⟩,by dsimp only;omega,nrq _,lRq _,hc2,?_,?_⟩
   ·simp [ltF,znf,hm,hf,zlf]
   ·simp [aS,wk2,wk1,wkM,Fr.get]
 ·have hk':k=ts.length:=by simp at hc;omega
  subst hk'
  rw [List.drop_length] at hR
  unfold ixS at hR
  subst hR
  simp only [go_sem]
  exact Z8
def tr:List AV→AHeap→(AEnd→AHeap→Prop)→Prop
 |[.slice _ 3 l,.func (.func F) fst caps],H,K=>∃ (ts:List SHeader) (id:Nat) (sn:List VN) (st:SHeader→List VN→Bool × List VN) (g:List VN→Prop),(l=ts.map az∧ts.length≤1000000∧H.get id=some (mpV sn)∧g sn∧∀ x∈ts,Stp Tryz.prog az F fst caps H id g st x)∧K (.ret (.bool (decide (0≤(ixS st ts sn 0).1)))) (H.set id (mpV (ixS st ts sn 0).2))
 |_,_,_=>False
theorem Dk:EntOk Tryz.prog 252 (Ent.effect tr):=by
 refine EntOk.effect fun args H K h=>?_
 unfold tr at h
 split at h
 rotate_left
 ·exact h.elim
 rename_i m l F fst caps
 obtain ⟨ts,id,sn,st,g,⟨rfl,hl,hid,hg,hq⟩,hK⟩:=h
 refine ⟨_,_,hK,?_⟩
 clear hK
 have hc2:(H.Closed→(H.set id (mpV (ixS st ts sn 0).2)).Closed):=fun h=>aA h
 refine ACalls.fW ak (tCq CV tNq) Tryz.func252 [.tmp 4] (nrq _) (T:=ag []) (h:=fun hcl hlt=>?_)
 have hcc:=hc2 hcl
 clear hlt hc2
 simp only [go_sem,ub]
 refine ⟨ts,id,sn,st,g,⟨rfl,hl,hid,hg,hq⟩,?_⟩
 generalize ixS st ts sn 0=R at *
 try simp only [aM,go_sem]
 exact Z9
def Ad:List AV→AHeap→(AEnd→AHeap→Prop)→Prop
 |[x,.ptr c 0],H,K=>∃ (t:SHeader) (id:Nat) (sn:List VN) (st:SHeader→List VN→Bool × List VN) (g:List VN→Prop) (F:FuncId) (fst caps:List AV),(x=az t∧H.get c=some (.cells [.func (.func F) fst caps])∧H.get id=some (mpV sn)∧g sn∧Stp Tryz.prog az F fst caps H id g st t)∧K (.ret (.bool (!(st t sn).1))) (H.set id (mpV (st t sn).2))
 |_,_,_=>False
theorem ok_hLHdr:EntOk Tryz.prog 253 (Ent.effect Ad):=by
 refine EntOk.effect fun args H K h=>?_
 unfold Ad at h
 split at h
 rotate_left
 ·exact h.elim
 rename_i x c
 obtain ⟨x,id,sn,st,g,F,fst,caps,⟨rfl,hg,hid,hgs,hq⟩,hK⟩:=h
 refine ⟨_,_,hK,?_⟩
 clear hK
 have hcs:=au hg
 have hl:=glq hg
 have hl2:=glq hid
 have hne:(c=H.nx)=False:=eq_false (by omega)
 have hne2:(id=H.nx)=False:=eq_false (by omega)
 have hss:=dp hid
 obtain ⟨hg2,hqx⟩:=hq sn hgs
 have hav:az x=.agg [.int .i64 x.id,.str x.name,.slice .any 1 (inL x.fields)]:=rfl
 rw [hav] at hqx
 rw [hav]
 refine ACalls.of_aw (Ω:=[(F,Ent.effect (gQ Tryz.prog F))]) (T:=ag []) ak (tCq iT tNq) Tryz.func253 (by kernel_rfl) (by rfl) (rs:=[.tmp 3]) (by rfl) (by kernel_rfl) (by simp only [Tryz.ntmps253,yaz,yba];decide) (nrq _) fun hcl hlt=>?_
 change aw _ _ _ (KI Tryz.prog [(F,Ent.effect (gQ Tryz.prog F))] (dh Tryz.prog [.tmp 3] H.nx _ _ (ag [])) []) _ _
 have hlx:=hlt _ (List.mem_cons_self)
 clear hlt
 have h0:=AV.lt_mono (Nat.le_succ H.nx) _ hlx
 rw [znr] at h0
 have hcp:(H.push (.cells [.int .i64 x.id,.str x.name,.slice .any 1 (inL x.fields)])).Closed:=ae hcl h0
 have hc2:(H.set id (mpV (st x sn).2)).Closed:=aA hcl
 have hq1:=hqx (H.push (.cells [.int .i64 x.id,.str x.name,.slice .any 1 (inL x.fields)])) (by rw [hss];exact (lRq _).push _) hcp
 rw [zli,if_neg (by omega)] at hq1
 simp only [go_sem,hcs,hne,hg,gQ]
 refine ⟨_,_,?_,hq1⟩
 try simp only [aM,go_sem]
 exact Z7
def tx:List AV→AHeap→(AEnd→AHeap→Prop)→Prop
 |[.slice _ 3 l,.func (.func F) fst caps],H,K=>∃ (ts:List SHeader) (id:Nat) (sn:List VN) (st:SHeader→List VN→Bool × List VN) (g:List VN→Prop),(l=ts.map az∧ts.length≤1000000∧H.get id=some (mpV sn)∧g sn∧∀ x∈ts,Stp Tryz.prog az F fst caps H id g st x)∧K (.ret (.bool (evS st ts sn).1)) (H.set id (mpV (evS st ts sn).2))
 |_,_,_=>False
theorem Dj:EntOk Tryz.prog 100 (Ent.effect tx):=by
 refine EntOk.effect fun args H K h=>?_
 unfold tx at h
 split at h
 rotate_left
 ·exact h.elim
 rename_i m l F fst caps
 obtain ⟨ts,id,sn,st,g,⟨rfl,hl,hid,hg,hq⟩,hK⟩:=h
 refine ⟨_,_,hK,?_⟩
 clear hK
 have hR:=@mg _ _ st ts sn 0
 have hR1:=congrArg Prod.fst hR
 have hR2:=congrArg Prod.snd hR
 dsimp only at hR1 hR2
 clear hR
 rw [← hR2]
 generalize hX:evS st ts sn=X at *
 have hl2:=glq hid
 have hne2:(id=H.nx)=False:=eq_false (by omega)
 refine ACalls.fW ak (tCq Dk tNq) Tryz.func100 [.tmp 4] (nrq _) (T:=ag []) (h:=fun hcl hlt=>?_)
 have hfx:=hlt _ (List.mem_cons_of_mem _ List.mem_cons_self)
 clear hlt
 have hcp:(H.push (.cells [.func (.func F) fst caps])).Closed:=ae hcl (by simp only [znu,znv,and_true];exact AV.lt_mono (Nat.le_succ H.nx) _ hfx)
 simp only [go_sem,tr]
 refine ⟨ts,id,sn,fun x s=>(!(st x s).1,(st x s).2),g,⟨rfl,hl,?_,hg,fun x hx s hs=>?_⟩,?_⟩
 ·rw [if_neg (by omega)];exact hid
 ·obtain ⟨h1,h2⟩:=hq x hx s hs
  refine ⟨h1,fun H' hle hcl'=>?_⟩
  rw [zli,if_neg (by omega)] at hle
  have hle0:(H.set id (mpV s)).Le H':=((lRq _).push _).trans hle
  have hg0:H'.get H.nx=some (.cells [.func (.func F) fst caps]):=hle.get _ _ (AHeap.get_push_new _ _)
  have hid':H'.get id=some (mpV s):=by
   refine hle.get _ _ ?_
   rw [zlh,if_neg (by rw [zlf];omega),aK,if_pos rfl,if_pos hl2]
  obtain ⟨v,H1,⟨hv,hH⟩,hc⟩:=ok_hLHdr.2.1 rfl [az x,.ptr H.nx 0] H' (fun v H1=>v=.ret (.bool (!(st x s).1))∧H1=H'.set id (mpV (st x s).2)) ⟨x,id,s,st,g,F,fst,caps,⟨rfl,hg0,hid',hs,fun s' hs'=>⟨(hq x hx s' hs').1,fun H2 h3 h4=>(hq x hx s' hs').2 H2 ((jv hle0).trans h3) h4⟩⟩,rfl,rfl⟩
  subst hv hH
  exact hc
 ·rw [hR1]
  try simp only [aM,go_sem]
  have hc2:=@aA _ id (cj iB (ixS (fun x s=>(!(st x s).1,(st x s).2)) ts sn 0).2) hcl
  exact Z10
def uI:List AV→AHeap→(AEnd→AHeap→Prop)→Prop
 |[.slice _ 5 l,.func (.func F) fst caps],H,K=>∃ (ts:List SAction) (id:Nat) (sn:List VN) (st:SAction→List VN→Bool × List VN) (g:List VN→Prop),(l=ts.map ap∧ts.length≤1000000∧H.get id=some (mpV sn)∧g sn∧∀ x∈ts,Stp Tryz.prog ap F fst caps H id g st x)∧K (.ret (.int .i64 (ixS st ts sn 0).1)) (H.set id (mpV (ixS st ts sn 0).2))
 |_,_,_=>False
theorem G3:EntOk Tryz.prog 72 (Ent.effect uI):=by
 refine EntOk.effect fun args H K h=>?_
 unfold uI at h
 split at h
 rotate_left
 ·exact h.elim
 rename_i m l F fst caps
 obtain ⟨ts,id,sn,st,g,⟨rfl,hl,hid,hg,hq⟩,hK⟩:=h
 refine ⟨_,_,hK,?_⟩
 clear hK
 generalize hR:ixS st ts sn 0=R
 have hnx:id<H.nx:=glq hid
 have hss:=dp hid
 refine ACalls.of_aw (Ω:=[(F,Ent.effect (gQ Tryz.prog F))]) (T:=ag []) ak (tCq iT tNq) Tryz.func72 (by kernel_rfl) (by rfl) (rs:=[.tmp 4]) (by rfl) (by kernel_rfl) (by simp only [Tryz.ntmps72,yaz,yba];decide) (nrq _) fun hcl hlt=>?_
 change aw _ _ _ (KI Tryz.prog [(F,Ent.effect (gQ Tryz.prog F))] (dh Tryz.prog [.tmp 4] H.nx _ _ (ag [])) []) _ _
 have hm:AV.lt H.nx (.slice m 5 (ts.map ap)):=hlt _ (by simp)
 have hf:AV.lt H.nx (.func (.func F) fst caps):=hlt _ (by simp)
 clear hlt
 simp only [go_sem,ybb]
 refine ay (A:=Nat × List VN) (fun a=>[(0,.slice m 5 (ts.map ap)),(1,.func (.func F) fst caps),(7,.int .i64 (ts.length:Int)),(8,.int .i64 (a.1:Int))]) (fun a=>H.set id (mpV a.2)) (fun a=>a.1≤ts.length∧g a.2∧ixS st (ts.drop a.1) a.2 a.1=R) (fun a=>ts.length - a.1) (0,sn) ⟨by dsimp only;omega,hg,hR⟩ ?_ fun a hk=>?_
 ·dsimp only
  rw [hss]
  refine ⟨nrq _,lRq _,hcl,?_,?_⟩
  ·simp [ltF,znf,hm,hf]
  ·simp [aS,wk2,wk1,wkM,Fr.get]
 clear hR
 obtain ⟨k,s⟩:=a
 obtain ⟨hk,hgs,hR⟩:=hk
 dsimp only at hk hgs hR ⊢
 have hcc:(H.set id (mpV s)).Closed:=aA hcl
 simp only [go_sem]
 refine ah (fun hc=>?_) (fun hc=>?_)
 ·have hk':k<ts.length:=by simp at hc;omega
  obtain ⟨x,hx⟩:∃ x,x=ts[k]:=⟨_,rfl⟩
  have hd:ts.drop k=x::ts.drop (k+1):=by rw [hx];exact dcq hk'
  have hg':=aO (f:=ap) (l:=ts) (k:=k) (x:=x) (by rw [gQq hk',hx])
  have e5:=Yk5 k
  rw [hd] at hR
  unfold ixS at hR
  obtain ⟨hg2,hqx⟩:=hq x (by rw [hx];exact gMq hk') s hgs
  have hqx:=hqx _ (lRq _) hcc
  have hcs:ap x=.agg [.int .i64 x.id,.str x.name,.slice .any 2 (x.params.map bb),.slice .any 6 (x.body.map bv),.str x.restr]:=rfl
  have hc2:(H.set id (mpV (st x s).2)).Closed:=aA hcl
  rw [hcs] at hqx hg'
  simp only [go_sem,iNq,ybb,hg',gQ]
  (repeat with_reducible refine Yq ?_)
  refine ⟨_,_,?_,hqx⟩
  try simp only [aM,go_sem]
  refine ah (fun hq=>?_) (fun hq=>?_)
  ·rw [if_pos hq] at hR
   subst hR
   simp only [go_sem]
   exact Z7
  ·rw [if_neg (by rw [hq];decide)] at hR
   simp only [go_sem,e5]
   refine ⟨(k+1,(st x s).2),⟨by dsimp only;omega,hg2,hR⟩,by dsimp only;omega,nrq _,lRq _,hc2,?_,?_⟩
   ·simp [ltF,znf,hm,hf,zlf]
   ·simp [aS,wk2,wk1,wkM,Fr.get]
 ·have hk':k=ts.length:=by simp at hc;omega
  subst hk'
  rw [List.drop_length] at hR
  unfold ixS at hR
  subst hR
  simp only [go_sem]
  exact Z8
def tZ:List AV→AHeap→(AEnd→AHeap→Prop)→Prop
 |[.slice _ 5 l,.func (.func F) fst caps],H,K=>∃ (ts:List SAction) (id:Nat) (sn:List VN) (st:SAction→List VN→Bool × List VN) (g:List VN→Prop),(l=ts.map ap∧ts.length≤1000000∧H.get id=some (mpV sn)∧g sn∧∀ x∈ts,Stp Tryz.prog ap F fst caps H id g st x)∧K (.ret (.bool (decide (0≤(ixS st ts sn 0).1)))) (H.set id (mpV (ixS st ts sn 0).2))
 |_,_,_=>False
theorem D2:EntOk Tryz.prog 254 (Ent.effect tZ):=by
 refine EntOk.effect fun args H K h=>?_
 unfold tZ at h
 split at h
 rotate_left
 ·exact h.elim
 rename_i m l F fst caps
 obtain ⟨ts,id,sn,st,g,⟨rfl,hl,hid,hg,hq⟩,hK⟩:=h
 refine ⟨_,_,hK,?_⟩
 clear hK
 have hc2:(H.Closed→(H.set id (mpV (ixS st ts sn 0).2)).Closed):=fun h=>aA h
 refine ACalls.fW ak (tCq G3 tNq) Tryz.func254 [.tmp 4] (nrq _) (T:=ag []) (h:=fun hcl hlt=>?_)
 have hcc:=hc2 hcl
 clear hlt hc2
 simp only [go_sem,uI]
 refine ⟨ts,id,sn,st,g,⟨rfl,hl,hid,hg,hq⟩,?_⟩
 generalize ixS st ts sn 0=R at *
 try simp only [aM,go_sem]
 exact Z9
def zC:List AV→AHeap→(AEnd→AHeap→Prop)→Prop
 |[x,.ptr c 0],H,K=>∃ (t:SAction) (id:Nat) (sn:List VN) (st:SAction→List VN→Bool × List VN) (g:List VN→Prop) (F:FuncId) (fst caps:List AV),(x=ap t∧H.get c=some (.cells [.func (.func F) fst caps])∧H.get id=some (mpV sn)∧g sn∧Stp Tryz.prog ap F fst caps H id g st t)∧K (.ret (.bool (!(st t sn).1))) (H.set id (mpV (st t sn).2))
 |_,_,_=>False
theorem ok_hLAct:EntOk Tryz.prog 255 (Ent.effect zC):=by
 refine EntOk.effect fun args H K h=>?_
 unfold zC at h
 split at h
 rotate_left
 ·exact h.elim
 rename_i x c
 obtain ⟨x,id,sn,st,g,F,fst,caps,⟨rfl,hg,hid,hgs,hq⟩,hK⟩:=h
 refine ⟨_,_,hK,?_⟩
 clear hK
 have hcs:=au hg
 have hl:=glq hg
 have hl2:=glq hid
 have hne:(c=H.nx)=False:=eq_false (by omega)
 have hne2:(id=H.nx)=False:=eq_false (by omega)
 have hss:=dp hid
 obtain ⟨hg2,hqx⟩:=hq sn hgs
 have hav:ap x=.agg [.int .i64 x.id,.str x.name,.slice .any 2 (x.params.map bb),.slice .any 6 (x.body.map bv),.str x.restr]:=rfl
 rw [hav] at hqx
 rw [hav]
 refine ACalls.of_aw (Ω:=[(F,Ent.effect (gQ Tryz.prog F))]) (T:=ag []) ak (tCq iT tNq) Tryz.func255 (by kernel_rfl) (by rfl) (rs:=[.tmp 3]) (by rfl) (by kernel_rfl) (by simp only [Tryz.ntmps255,yaz,yba];decide) (nrq _) fun hcl hlt=>?_
 change aw _ _ _ (KI Tryz.prog [(F,Ent.effect (gQ Tryz.prog F))] (dh Tryz.prog [.tmp 3] H.nx _ _ (ag [])) []) _ _
 have hlx:=hlt _ (List.mem_cons_self)
 clear hlt
 have h0:=AV.lt_mono (Nat.le_succ H.nx) _ hlx
 rw [znr] at h0
 have hcp:(H.push (.cells [.int .i64 x.id,.str x.name,.slice .any 2 (x.params.map bb),.slice .any 6 (x.body.map bv),.str x.restr])).Closed:=ae hcl h0
 have hc2:(H.set id (mpV (st x sn).2)).Closed:=aA hcl
 have hq1:=hqx (H.push (.cells [.int .i64 x.id,.str x.name,.slice .any 2 (x.params.map bb),.slice .any 6 (x.body.map bv),.str x.restr])) (by rw [hss];exact (lRq _).push _) hcp
 rw [zli,if_neg (by omega)] at hq1
 simp only [go_sem,hcs,hne,hg,gQ]
 refine ⟨_,_,?_,hq1⟩
 try simp only [aM,go_sem]
 exact Z7
def tQ:List AV→AHeap→(AEnd→AHeap→Prop)→Prop
 |[.slice _ 5 l,.func (.func F) fst caps],H,K=>∃ (ts:List SAction) (id:Nat) (sn:List VN) (st:SAction→List VN→Bool × List VN) (g:List VN→Prop),(l=ts.map ap∧ts.length≤1000000∧H.get id=some (mpV sn)∧g sn∧∀ x∈ts,Stp Tryz.prog ap F fst caps H id g st x)∧K (.ret (.bool (evS st ts sn).1)) (H.set id (mpV (evS st ts sn).2))
 |_,_,_=>False
theorem ER:EntOk Tryz.prog 102 (Ent.effect tQ):=by
 refine EntOk.effect fun args H K h=>?_
 unfold tQ at h
 split at h
 rotate_left
 ·exact h.elim
 rename_i m l F fst caps
 obtain ⟨ts,id,sn,st,g,⟨rfl,hl,hid,hg,hq⟩,hK⟩:=h
 refine ⟨_,_,hK,?_⟩
 clear hK
 have hR:=@mg _ _ st ts sn 0
 have hR1:=congrArg Prod.fst hR
 have hR2:=congrArg Prod.snd hR
 dsimp only at hR1 hR2
 clear hR
 rw [← hR2]
 generalize hX:evS st ts sn=X at *
 have hl2:=glq hid
 have hne2:(id=H.nx)=False:=eq_false (by omega)
 refine ACalls.fW ak (tCq D2 tNq) Tryz.func102 [.tmp 4] (nrq _) (T:=ag []) (h:=fun hcl hlt=>?_)
 have hfx:=hlt _ (List.mem_cons_of_mem _ List.mem_cons_self)
 clear hlt
 have hcp:(H.push (.cells [.func (.func F) fst caps])).Closed:=ae hcl (by simp only [znu,znv,and_true];exact AV.lt_mono (Nat.le_succ H.nx) _ hfx)
 simp only [go_sem,tZ]
 refine ⟨ts,id,sn,fun x s=>(!(st x s).1,(st x s).2),g,⟨rfl,hl,?_,hg,fun x hx s hs=>?_⟩,?_⟩
 ·rw [if_neg (by omega)];exact hid
 ·obtain ⟨h1,h2⟩:=hq x hx s hs
  refine ⟨h1,fun H' hle hcl'=>?_⟩
  rw [zli,if_neg (by omega)] at hle
  have hle0:(H.set id (mpV s)).Le H':=((lRq _).push _).trans hle
  have hg0:H'.get H.nx=some (.cells [.func (.func F) fst caps]):=hle.get _ _ (AHeap.get_push_new _ _)
  have hid':H'.get id=some (mpV s):=by
   refine hle.get _ _ ?_
   rw [zlh,if_neg (by rw [zlf];omega),aK,if_pos rfl,if_pos hl2]
  obtain ⟨v,H1,⟨hv,hH⟩,hc⟩:=ok_hLAct.2.1 rfl [ap x,.ptr H.nx 0] H' (fun v H1=>v=.ret (.bool (!(st x s).1))∧H1=H'.set id (mpV (st x s).2)) ⟨x,id,s,st,g,F,fst,caps,⟨rfl,hg0,hid',hs,fun s' hs'=>⟨(hq x hx s' hs').1,fun H2 h3 h4=>(hq x hx s' hs').2 H2 ((jv hle0).trans h3) h4⟩⟩,rfl,rfl⟩
  subst hv hH
  exact hc
 ·rw [hR1]
  try simp only [aM,go_sem]
  have hc2:=@aA _ id (cj iB (ixS (fun x s=>(!(st x s).1,(st x s).2)) ts sn 0).2) hcl
  exact Z10
def ua:List AV→AHeap→(AEnd→AHeap→Prop)→Prop
 |[.slice _ 8 l,.func (.func F) fst caps],H,K=>∃ (ts:List STable) (id:Nat) (sn:List VN) (st:STable→List VN→Bool × List VN) (g:List VN→Prop),(l=ts.map aq∧ts.length≤1000000∧H.get id=some (mpV sn)∧g sn∧∀ x∈ts,Stp Tryz.prog aq F fst caps H id g st x)∧K (.ret (.int .i64 (ixS st ts sn 0).1)) (H.set id (mpV (ixS st ts sn 0).2))
 |_,_,_=>False
theorem GO:EntOk Tryz.prog 62 (Ent.effect ua):=by
 refine EntOk.effect fun args H K h=>?_
 unfold ua at h
 split at h
 rotate_left
 ·exact h.elim
 rename_i m l F fst caps
 obtain ⟨ts,id,sn,st,g,⟨rfl,hl,hid,hg,hq⟩,hK⟩:=h
 refine ⟨_,_,hK,?_⟩
 clear hK
 generalize hR:ixS st ts sn 0=R
 have hnx:id<H.nx:=glq hid
 have hss:=dp hid
 refine ACalls.of_aw (Ω:=[(F,Ent.effect (gQ Tryz.prog F))]) (T:=ag []) ak (tCq iT tNq) Tryz.func62 (by kernel_rfl) (by rfl) (rs:=[.tmp 4]) (by rfl) (by kernel_rfl) (by simp only [Tryz.ntmps62,yaz,yba];decide) (nrq _) fun hcl hlt=>?_
 change aw _ _ _ (KI Tryz.prog [(F,Ent.effect (gQ Tryz.prog F))] (dh Tryz.prog [.tmp 4] H.nx _ _ (ag [])) []) _ _
 have hm:AV.lt H.nx (.slice m 8 (ts.map aq)):=hlt _ (by simp)
 have hf:AV.lt H.nx (.func (.func F) fst caps):=hlt _ (by simp)
 clear hlt
 simp only [go_sem,ybb]
 refine ay (A:=Nat × List VN) (fun a=>[(0,.slice m 8 (ts.map aq)),(1,.func (.func F) fst caps),(7,.int .i64 (ts.length:Int)),(8,.int .i64 (a.1:Int))]) (fun a=>H.set id (mpV a.2)) (fun a=>a.1≤ts.length∧g a.2∧ixS st (ts.drop a.1) a.2 a.1=R) (fun a=>ts.length - a.1) (0,sn) ⟨by dsimp only;omega,hg,hR⟩ ?_ fun a hk=>?_
 ·dsimp only
  rw [hss]
  refine ⟨nrq _,lRq _,hcl,?_,?_⟩
  ·simp [ltF,znf,hm,hf]
  ·simp [aS,wk2,wk1,wkM,Fr.get]
 clear hR
 obtain ⟨k,s⟩:=a
 obtain ⟨hk,hgs,hR⟩:=hk
 dsimp only at hk hgs hR ⊢
 have hcc:(H.set id (mpV s)).Closed:=aA hcl
 simp only [go_sem]
 refine ah (fun hc=>?_) (fun hc=>?_)
 ·have hk':k<ts.length:=by simp at hc;omega
  obtain ⟨x,hx⟩:∃ x,x=ts[k]:=⟨_,rfl⟩
  have hd:ts.drop k=x::ts.drop (k+1):=by rw [hx];exact dcq hk'
  have hg':=aO (f:=aq) (l:=ts) (k:=k) (x:=x) (by rw [gQq hk',hx])
  have e5:=Yk5 k
  rw [hd] at hR
  unfold ixS at hR
  obtain ⟨hg2,hqx⟩:=hq x (by rw [hx];exact gMq hk') s hgs
  have hqx:=hqx _ (lRq _) hcc
  have hcs:aq x=.agg [.int .i64 x.id,.str x.name,.slice .any 3 (x.keys.map br),.slice .any 1 (inL x.actions),.int .i64 x.dflt,.slice .any 2 (x.dargs.map vv),.int .i64 x.size,.str x.restr]:=rfl
  have hc2:(H.set id (mpV (st x s).2)).Closed:=aA hcl
  rw [hcs] at hqx hg'
  simp only [go_sem,iNq,ybb,hg',gQ]
  (repeat with_reducible refine Yq ?_)
  refine ⟨_,_,?_,hqx⟩
  try simp only [aM,go_sem]
  refine ah (fun hq=>?_) (fun hq=>?_)
  ·rw [if_pos hq] at hR
   subst hR
   simp only [go_sem]
   exact Z7
  ·rw [if_neg (by rw [hq];decide)] at hR
   simp only [go_sem,e5]
   refine ⟨(k+1,(st x s).2),⟨by dsimp only;omega,hg2,hR⟩,by dsimp only;omega,nrq _,lRq _,hc2,?_,?_⟩
   ·simp [ltF,znf,hm,hf,zlf]
   ·simp [aS,wk2,wk1,wkM,Fr.get]
 ·have hk':k=ts.length:=by simp at hc;omega
  subst hk'
  rw [List.drop_length] at hR
  unfold ixS at hR
  subst hR
  simp only [go_sem]
  exact Z8
def uc:List AV→AHeap→(AEnd→AHeap→Prop)→Prop
 |[.slice _ 8 l,.func (.func F) fst caps],H,K=>∃ (ts:List STable) (id:Nat) (sn:List VN) (st:STable→List VN→Bool × List VN) (g:List VN→Prop),(l=ts.map aq∧ts.length≤1000000∧H.get id=some (mpV sn)∧g sn∧∀ x∈ts,Stp Tryz.prog aq F fst caps H id g st x)∧K (.ret (.bool (decide (0≤(ixS st ts sn 0).1)))) (H.set id (mpV (ixS st ts sn 0).2))
 |_,_,_=>False
theorem Hi:EntOk Tryz.prog 258 (Ent.effect uc):=by
 refine EntOk.effect fun args H K h=>?_
 unfold uc at h
 split at h
 rotate_left
 ·exact h.elim
 rename_i m l F fst caps
 obtain ⟨ts,id,sn,st,g,⟨rfl,hl,hid,hg,hq⟩,hK⟩:=h
 refine ⟨_,_,hK,?_⟩
 clear hK
 have hc2:(H.Closed→(H.set id (mpV (ixS st ts sn 0).2)).Closed):=fun h=>aA h
 refine ACalls.fW ak (tCq GO tNq) Tryz.func258 [.tmp 4] (nrq _) (T:=ag []) (h:=fun hcl hlt=>?_)
 have hcc:=hc2 hcl
 clear hlt hc2
 simp only [go_sem,ua]
 refine ⟨ts,id,sn,st,g,⟨rfl,hl,hid,hg,hq⟩,?_⟩
 generalize ixS st ts sn 0=R at *
 try simp only [aM,go_sem]
 exact Z9
def A1:List AV→AHeap→(AEnd→AHeap→Prop)→Prop
 |[x,.ptr c 0],H,K=>∃ (t:STable) (id:Nat) (sn:List VN) (st:STable→List VN→Bool × List VN) (g:List VN→Prop) (F:FuncId) (fst caps:List AV),(x=aq t∧H.get c=some (.cells [.func (.func F) fst caps])∧H.get id=some (mpV sn)∧g sn∧Stp Tryz.prog aq F fst caps H id g st t)∧K (.ret (.bool (!(st t sn).1))) (H.set id (mpV (st t sn).2))
 |_,_,_=>False
theorem ok_hLTab:EntOk Tryz.prog 259 (Ent.effect A1):=by
 refine EntOk.effect fun args H K h=>?_
 unfold A1 at h
 split at h
 rotate_left
 ·exact h.elim
 rename_i x c
 obtain ⟨x,id,sn,st,g,F,fst,caps,⟨rfl,hg,hid,hgs,hq⟩,hK⟩:=h
 refine ⟨_,_,hK,?_⟩
 clear hK
 have hcs:=au hg
 have hl:=glq hg
 have hl2:=glq hid
 have hne:(c=H.nx)=False:=eq_false (by omega)
 have hne2:(id=H.nx)=False:=eq_false (by omega)
 have hss:=dp hid
 obtain ⟨hg2,hqx⟩:=hq sn hgs
 have hav:aq x=.agg [.int .i64 x.id,.str x.name,.slice .any 3 (x.keys.map br),.slice .any 1 (inL x.actions),.int .i64 x.dflt,.slice .any 2 (x.dargs.map vv),.int .i64 x.size,.str x.restr]:=rfl
 rw [hav] at hqx
 rw [hav]
 refine ACalls.of_aw (Ω:=[(F,Ent.effect (gQ Tryz.prog F))]) (T:=ag []) ak (tCq iT tNq) Tryz.func259 (by kernel_rfl) (by rfl) (rs:=[.tmp 3]) (by rfl) (by kernel_rfl) (by simp only [Tryz.ntmps259,yaz,yba];decide) (nrq _) fun hcl hlt=>?_
 change aw _ _ _ (KI Tryz.prog [(F,Ent.effect (gQ Tryz.prog F))] (dh Tryz.prog [.tmp 3] H.nx _ _ (ag [])) []) _ _
 have hlx:=hlt _ (List.mem_cons_self)
 clear hlt
 have h0:=AV.lt_mono (Nat.le_succ H.nx) _ hlx
 rw [znr] at h0
 have hcp:(H.push (.cells [.int .i64 x.id,.str x.name,.slice .any 3 (x.keys.map br),.slice .any 1 (inL x.actions),.int .i64 x.dflt,.slice .any 2 (x.dargs.map vv),.int .i64 x.size,.str x.restr])).Closed:=ae hcl h0
 have hc2:(H.set id (mpV (st x sn).2)).Closed:=aA hcl
 have hq1:=hqx (H.push (.cells [.int .i64 x.id,.str x.name,.slice .any 3 (x.keys.map br),.slice .any 1 (inL x.actions),.int .i64 x.dflt,.slice .any 2 (x.dargs.map vv),.int .i64 x.size,.str x.restr])) (by rw [hss];exact (lRq _).push _) hcp
 rw [zli,if_neg (by omega)] at hq1
 simp only [go_sem,hcs,hne,hg,gQ]
 refine ⟨_,_,?_,hq1⟩
 try simp only [aM,go_sem]
 exact Z7
def uf:List AV→AHeap→(AEnd→AHeap→Prop)→Prop
 |[.slice _ 8 l,.func (.func F) fst caps],H,K=>∃ (ts:List STable) (id:Nat) (sn:List VN) (st:STable→List VN→Bool × List VN) (g:List VN→Prop),(l=ts.map aq∧ts.length≤1000000∧H.get id=some (mpV sn)∧g sn∧∀ x∈ts,Stp Tryz.prog aq F fst caps H id g st x)∧K (.ret (.bool (evS st ts sn).1)) (H.set id (mpV (evS st ts sn).2))
 |_,_,_=>False
theorem Ef:EntOk Tryz.prog 107 (Ent.effect uf):=by
 refine EntOk.effect fun args H K h=>?_
 unfold uf at h
 split at h
 rotate_left
 ·exact h.elim
 rename_i m l F fst caps
 obtain ⟨ts,id,sn,st,g,⟨rfl,hl,hid,hg,hq⟩,hK⟩:=h
 refine ⟨_,_,hK,?_⟩
 clear hK
 have hR:=@mg _ _ st ts sn 0
 have hR1:=congrArg Prod.fst hR
 have hR2:=congrArg Prod.snd hR
 dsimp only at hR1 hR2
 clear hR
 rw [← hR2]
 generalize hX:evS st ts sn=X at *
 have hl2:=glq hid
 have hne2:(id=H.nx)=False:=eq_false (by omega)
 refine ACalls.fW ak (tCq Hi tNq) Tryz.func107 [.tmp 4] (nrq _) (T:=ag []) (h:=fun hcl hlt=>?_)
 have hfx:=hlt _ (List.mem_cons_of_mem _ List.mem_cons_self)
 clear hlt
 have hcp:(H.push (.cells [.func (.func F) fst caps])).Closed:=ae hcl (by simp only [znu,znv,and_true];exact AV.lt_mono (Nat.le_succ H.nx) _ hfx)
 simp only [go_sem,uc]
 refine ⟨ts,id,sn,fun x s=>(!(st x s).1,(st x s).2),g,⟨rfl,hl,?_,hg,fun x hx s hs=>?_⟩,?_⟩
 ·rw [if_neg (by omega)];exact hid
 ·obtain ⟨h1,h2⟩:=hq x hx s hs
  refine ⟨h1,fun H' hle hcl'=>?_⟩
  rw [zli,if_neg (by omega)] at hle
  have hle0:(H.set id (mpV s)).Le H':=((lRq _).push _).trans hle
  have hg0:H'.get H.nx=some (.cells [.func (.func F) fst caps]):=hle.get _ _ (AHeap.get_push_new _ _)
  have hid':H'.get id=some (mpV s):=by
   refine hle.get _ _ ?_
   rw [zlh,if_neg (by rw [zlf];omega),aK,if_pos rfl,if_pos hl2]
  obtain ⟨v,H1,⟨hv,hH⟩,hc⟩:=ok_hLTab.2.1 rfl [aq x,.ptr H.nx 0] H' (fun v H1=>v=.ret (.bool (!(st x s).1))∧H1=H'.set id (mpV (st x s).2)) ⟨x,id,s,st,g,F,fst,caps,⟨rfl,hg0,hid',hs,fun s' hs'=>⟨(hq x hx s' hs').1,fun H2 h3 h4=>(hq x hx s' hs').2 H2 ((jv hle0).trans h3) h4⟩⟩,rfl,rfl⟩
  subst hv hH
  exact hc
 ·rw [hR1]
  try simp only [aM,go_sem]
  have hc2:=@aA _ id (cj iB (ixS (fun x s=>(!(st x s).1,(st x s).2)) ts sn 0).2) hcl
  exact Z10
def t4:List AV→AHeap→(AEnd→AHeap→Prop)→Prop
 |[.slice _ 6 l,.func (.func F) fst caps],H,K=>∃ (ts:List SRole) (id:Nat) (sn:List VN) (st:SRole→List VN→Bool × List VN) (g:List VN→Prop),(l=ts.map aN∧ts.length≤1000000∧H.get id=some (mpV sn)∧g sn∧∀ x∈ts,Stp Tryz.prog aN F fst caps H id g st x)∧K (.ret (.int .i64 (ixS st ts sn 0).1)) (H.set id (mpV (ixS st ts sn 0).2))
 |_,_,_=>False
theorem CX:EntOk Tryz.prog 74 (Ent.effect t4):=by
 refine EntOk.effect fun args H K h=>?_
 unfold t4 at h
 split at h
 rotate_left
 ·exact h.elim
 rename_i m l F fst caps
 obtain ⟨ts,id,sn,st,g,⟨rfl,hl,hid,hg,hq⟩,hK⟩:=h
 refine ⟨_,_,hK,?_⟩
 clear hK
 generalize hR:ixS st ts sn 0=R
 have hnx:id<H.nx:=glq hid
 have hss:=dp hid
 refine ACalls.of_aw (Ω:=[(F,Ent.effect (gQ Tryz.prog F))]) (T:=ag []) ak (tCq iT tNq) Tryz.func74 (by kernel_rfl) (by rfl) (rs:=[.tmp 4]) (by rfl) (by kernel_rfl) (by simp only [Tryz.ntmps74,yaz,yba];decide) (nrq _) fun hcl hlt=>?_
 change aw _ _ _ (KI Tryz.prog [(F,Ent.effect (gQ Tryz.prog F))] (dh Tryz.prog [.tmp 4] H.nx _ _ (ag [])) []) _ _
 have hm:AV.lt H.nx (.slice m 6 (ts.map aN)):=hlt _ (by simp)
 have hf:AV.lt H.nx (.func (.func F) fst caps):=hlt _ (by simp)
 clear hlt
 simp only [go_sem,ybb]
 refine ay (A:=Nat × List VN) (fun a=>[(0,.slice m 6 (ts.map aN)),(1,.func (.func F) fst caps),(7,.int .i64 (ts.length:Int)),(8,.int .i64 (a.1:Int))]) (fun a=>H.set id (mpV a.2)) (fun a=>a.1≤ts.length∧g a.2∧ixS st (ts.drop a.1) a.2 a.1=R) (fun a=>ts.length - a.1) (0,sn) ⟨by dsimp only;omega,hg,hR⟩ ?_ fun a hk=>?_
 ·dsimp only
  rw [hss]
  refine ⟨nrq _,lRq _,hcl,?_,?_⟩
  ·simp [ltF,znf,hm,hf]
  ·simp [aS,wk2,wk1,wkM,Fr.get]
 clear hR
 obtain ⟨k,s⟩:=a
 obtain ⟨hk,hgs,hR⟩:=hk
 dsimp only at hk hgs hR ⊢
 have hcc:(H.set id (mpV s)).Closed:=aA hcl
 simp only [go_sem]
 refine ah (fun hc=>?_) (fun hc=>?_)
 ·have hk':k<ts.length:=by simp at hc;omega
  obtain ⟨x,hx⟩:∃ x,x=ts[k]:=⟨_,rfl⟩
  have hd:ts.drop k=x::ts.drop (k+1):=by rw [hx];exact dcq hk'
  have hg':=aO (f:=aN) (l:=ts) (k:=k) (x:=x) (by rw [gQq hk',hx])
  have e5:=Yk5 k
  rw [hd] at hR
  unfold ixS at hR
  obtain ⟨hg2,hqx⟩:=hq x (by rw [hx];exact gMq hk') s hgs
  have hqx:=hqx _ (lRq _) hcc
  have hcs:aN x=.agg [.int .i64 x.id,.str x.name,.slice .any 4 (x.grants.map aR),.slice .any 1 (inL x.actions),.int .i64 x.quota,.bool x.audit]:=rfl
  have hc2:(H.set id (mpV (st x s).2)).Closed:=aA hcl
  rw [hcs] at hqx hg'
  simp only [go_sem,iNq,ybb,hg',gQ]
  (repeat with_reducible refine Yq ?_)
  refine ⟨_,_,?_,hqx⟩
  try simp only [aM,go_sem]
  refine ah (fun hq=>?_) (fun hq=>?_)
  ·rw [if_pos hq] at hR
   subst hR
   simp only [go_sem]
   exact Z7
  ·rw [if_neg (by rw [hq];decide)] at hR
   simp only [go_sem,e5]
   refine ⟨(k+1,(st x s).2),⟨by dsimp only;omega,hg2,hR⟩,by dsimp only;omega,nrq _,lRq _,hc2,?_,?_⟩
   ·simp [ltF,znf,hm,hf,zlf]
   ·simp [aS,wk2,wk1,wkM,Fr.get]
 ·have hk':k=ts.length:=by simp at hc;omega
  subst hk'
  rw [List.drop_length] at hR
  unfold ixS at hR
  subst hR
  simp only [go_sem]
  exact Z8
def vq:List AV→AHeap→(AEnd→AHeap→Prop)→Prop
 |[.slice _ 6 l,.func (.func F) fst caps],H,K=>∃ (ts:List SRole) (id:Nat) (sn:List VN) (st:SRole→List VN→Bool × List VN) (g:List VN→Prop),(l=ts.map aN∧ts.length≤1000000∧H.get id=some (mpV sn)∧g sn∧∀ x∈ts,Stp Tryz.prog aN F fst caps H id g st x)∧K (.ret (.bool (decide (0≤(ixS st ts sn 0).1)))) (H.set id (mpV (ixS st ts sn 0).2))
 |_,_,_=>False
theorem DM:EntOk Tryz.prog 262 (Ent.effect vq):=by
 refine EntOk.effect fun args H K h=>?_
 unfold vq at h
 split at h
 rotate_left
 ·exact h.elim
 rename_i m l F fst caps
 obtain ⟨ts,id,sn,st,g,⟨rfl,hl,hid,hg,hq⟩,hK⟩:=h
 refine ⟨_,_,hK,?_⟩
 clear hK
 have hc2:(H.Closed→(H.set id (mpV (ixS st ts sn 0).2)).Closed):=fun h=>aA h
 refine ACalls.fW ak (tCq CX tNq) Tryz.func262 [.tmp 4] (nrq _) (T:=ag []) (h:=fun hcl hlt=>?_)
 have hcc:=hc2 hcl
 clear hlt hc2
 simp only [go_sem,t4]
 refine ⟨ts,id,sn,st,g,⟨rfl,hl,hid,hg,hq⟩,?_⟩
 generalize ixS st ts sn 0=R at *
 try simp only [aM,go_sem]
 exact Z9
def zP:List AV→AHeap→(AEnd→AHeap→Prop)→Prop
 |[x,.ptr c 0],H,K=>∃ (t:SRole) (id:Nat) (sn:List VN) (st:SRole→List VN→Bool × List VN) (g:List VN→Prop) (F:FuncId) (fst caps:List AV),(x=aN t∧H.get c=some (.cells [.func (.func F) fst caps])∧H.get id=some (mpV sn)∧g sn∧Stp Tryz.prog aN F fst caps H id g st t)∧K (.ret (.bool (!(st t sn).1))) (H.set id (mpV (st t sn).2))
 |_,_,_=>False
theorem ok_hLRol:EntOk Tryz.prog 263 (Ent.effect zP):=by
 refine EntOk.effect fun args H K h=>?_
 unfold zP at h
 split at h
 rotate_left
 ·exact h.elim
 rename_i x c
 obtain ⟨x,id,sn,st,g,F,fst,caps,⟨rfl,hg,hid,hgs,hq⟩,hK⟩:=h
 refine ⟨_,_,hK,?_⟩
 clear hK
 have hcs:=au hg
 have hl:=glq hg
 have hl2:=glq hid
 have hne:(c=H.nx)=False:=eq_false (by omega)
 have hne2:(id=H.nx)=False:=eq_false (by omega)
 have hss:=dp hid
 obtain ⟨hg2,hqx⟩:=hq sn hgs
 have hav:aN x=.agg [.int .i64 x.id,.str x.name,.slice .any 4 (x.grants.map aR),.slice .any 1 (inL x.actions),.int .i64 x.quota,.bool x.audit]:=rfl
 rw [hav] at hqx
 rw [hav]
 refine ACalls.of_aw (Ω:=[(F,Ent.effect (gQ Tryz.prog F))]) (T:=ag []) ak (tCq iT tNq) Tryz.func263 (by kernel_rfl) (by rfl) (rs:=[.tmp 3]) (by rfl) (by kernel_rfl) (by simp only [Tryz.ntmps263,yaz,yba];decide) (nrq _) fun hcl hlt=>?_
 change aw _ _ _ (KI Tryz.prog [(F,Ent.effect (gQ Tryz.prog F))] (dh Tryz.prog [.tmp 3] H.nx _ _ (ag [])) []) _ _
 have hlx:=hlt _ (List.mem_cons_self)
 clear hlt
 have h0:=AV.lt_mono (Nat.le_succ H.nx) _ hlx
 rw [znr] at h0
 have hcp:(H.push (.cells [.int .i64 x.id,.str x.name,.slice .any 4 (x.grants.map aR),.slice .any 1 (inL x.actions),.int .i64 x.quota,.bool x.audit])).Closed:=ae hcl h0
 have hc2:(H.set id (mpV (st x sn).2)).Closed:=aA hcl
 have hq1:=hqx (H.push (.cells [.int .i64 x.id,.str x.name,.slice .any 4 (x.grants.map aR),.slice .any 1 (inL x.actions),.int .i64 x.quota,.bool x.audit])) (by rw [hss];exact (lRq _).push _) hcp
 rw [zli,if_neg (by omega)] at hq1
 simp only [go_sem,hcs,hne,hg,gQ]
 refine ⟨_,_,?_,hq1⟩
 try simp only [aM,go_sem]
 exact Z7
def tM:List AV→AHeap→(AEnd→AHeap→Prop)→Prop
 |[.slice _ 6 l,.func (.func F) fst caps],H,K=>∃ (ts:List SRole) (id:Nat) (sn:List VN) (st:SRole→List VN→Bool × List VN) (g:List VN→Prop),(l=ts.map aN∧ts.length≤1000000∧H.get id=some (mpV sn)∧g sn∧∀ x∈ts,Stp Tryz.prog aN F fst caps H id g st x)∧K (.ret (.bool (evS st ts sn).1)) (H.set id (mpV (evS st ts sn).2))
 |_,_,_=>False
theorem DI:EntOk Tryz.prog 111 (Ent.effect tM):=by
 refine EntOk.effect fun args H K h=>?_
 unfold tM at h
 split at h
 rotate_left
 ·exact h.elim
 rename_i m l F fst caps
 obtain ⟨ts,id,sn,st,g,⟨rfl,hl,hid,hg,hq⟩,hK⟩:=h
 refine ⟨_,_,hK,?_⟩
 clear hK
 have hR:=@mg _ _ st ts sn 0
 have hR1:=congrArg Prod.fst hR
 have hR2:=congrArg Prod.snd hR
 dsimp only at hR1 hR2
 clear hR
 rw [← hR2]
 generalize hX:evS st ts sn=X at *
 have hl2:=glq hid
 have hne2:(id=H.nx)=False:=eq_false (by omega)
 refine ACalls.fW ak (tCq DM tNq) Tryz.func111 [.tmp 4] (nrq _) (T:=ag []) (h:=fun hcl hlt=>?_)
 have hfx:=hlt _ (List.mem_cons_of_mem _ List.mem_cons_self)
 clear hlt
 have hcp:(H.push (.cells [.func (.func F) fst caps])).Closed:=ae hcl (by simp only [znu,znv,and_true];exact AV.lt_mono (Nat.le_succ H.nx) _ hfx)
 simp only [go_sem,vq]
 refine ⟨ts,id,sn,fun x s=>(!(st x s).1,(st x s).2),g,⟨rfl,hl,?_,hg,fun x hx s hs=>?_⟩,?_⟩
 ·rw [if_neg (by omega)];exact hid
 ·obtain ⟨h1,h2⟩:=hq x hx s hs
  refine ⟨h1,fun H' hle hcl'=>?_⟩
  rw [zli,if_neg (by omega)] at hle
  have hle0:(H.set id (mpV s)).Le H':=((lRq _).push _).trans hle
  have hg0:H'.get H.nx=some (.cells [.func (.func F) fst caps]):=hle.get _ _ (AHeap.get_push_new _ _)
  have hid':H'.get id=some (mpV s):=by
   refine hle.get _ _ ?_
   rw [zlh,if_neg (by rw [zlf];omega),aK,if_pos rfl,if_pos hl2]
  obtain ⟨v,H1,⟨hv,hH⟩,hc⟩:=ok_hLRol.2.1 rfl [aN x,.ptr H.nx 0] H' (fun v H1=>v=.ret (.bool (!(st x s).1))∧H1=H'.set id (mpV (st x s).2)) ⟨x,id,s,st,g,F,fst,caps,⟨rfl,hg0,hid',hs,fun s' hs'=>⟨(hq x hx s' hs').1,fun H2 h3 h4=>(hq x hx s' hs').2 H2 ((jv hle0).trans h3) h4⟩⟩,rfl,rfl⟩
  subst hv hH
  exact hc
 ·rw [hR1]
  try simp only [aM,go_sem]
  have hc2:=@aA _ id (cj iB (ixS (fun x s=>(!(st x s).1,(st x s).2)) ts sn 0).2) hcl
  exact Z10
end Go.AL
