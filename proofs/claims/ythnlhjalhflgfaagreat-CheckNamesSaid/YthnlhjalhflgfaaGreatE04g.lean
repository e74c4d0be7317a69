/- Lemmas of the proof; no condition. -/
import Derived.Test.YthnlhjalhflgfaaGreatE04d
import Derived.Test.YthnlhjalhflgfaaGreatAlMap
set_option linter.all false
set_option maxRecDepth 10000
set_option maxHeartbeats 32000000
open List renaming map_cons → yae, length_cons → yaz, length_nil → yba, length_map → ybb, take_of_length_le → ybc, drop_append → ybd, take_append → ybe, drop_eq_nil_of_le → ybf
open Go Go.AL Go.Proofs
namespace Go.AL
theorem D2:ti Tryz.prog 225=some ⟨.map 3 4,1,8,.nilm⟩:=by kernel_rfl
theorem HL:ti Tryz.prog 345=some ⟨.map 9 4,1,8,.nilm⟩:=by kernel_rfl
theorem Jb:ti Tryz.prog 3=some ⟨.int .i64,1,8,.int .i64 0⟩:=by kernel_rfl
theorem zM:ti Tryz.prog 9=some ⟨.string,1,16,.str []⟩:=by kernel_rfl
attribute [go_sem] D2 HL Jb zM
def dsF {α:Type} [BEq α]:List α→List α→Bool
 |_,[]=>true
 |s,x::l=>!s.contains x&&dsF (x::s) l
def cy {α:Type} (key:α→AV) (l:List α):List (AV × AV):=l.map fun v=>(key v,.bool true)
def i64 (n:Int):Prop := -9223372036854775808≤n∧n≤9223372036854775807
def DJ (s:List UInt8):Prop:=s.length≤140737488355328
theorem fE {α:Type} {P:Program} {t:TypeId} {key:α→AV} {l:List α} {g:α→Prop} (hg:∀ v,g v→fy P t (key v)) (h:∀ v∈l,g v):∀ p∈cy key l,fy P t p.1:=by
 intro p hp
 obtain ⟨v,hv,rfl⟩:=List.mem_map.1 hp
 exact hg v (h v hv)
theorem im (l:List Int) (x:Int):gJ (cy (AV.int .i64) l) (.int .i64 x)=if l.contains x then some (.bool true) else none:=by
 induction l with
 |nil=>rfl
 |cons v l ih =>
  unfold cy at ih ⊢
  rw [yae,gJ,ih,List.contains_cons]
  by_cases h:v=x
  ·subst h;simp [feq,nn]
  ·have h':(x==v)=false:=by simp;exact fun e=>h e.symm
   rw [h',Bool.false_or]
   simp [feq,nn,h]
theorem uo (l:List (List UInt8)) (x:List UInt8):gJ (cy AV.str l) (.str x)=if l.contains x then some (.bool true) else none:=by
 induction l with
 |nil=>rfl
 |cons v l ih =>
  unfold cy at ih ⊢
  rw [yae,gJ,ih,List.contains_cons]
  by_cases h:v=x
  ·subst h;simp [feq,nn]
  ·have h':(x==v)=false:=by simp;exact fun e=>h e.symm
   rw [h',Bool.false_or]
   simp [feq,nn,h]
theorem Ao:(Tryz.prog).underlying 3=some (.int .i64):=by kernel_rfl
theorem zB:(Tryz.prog).underlying 9=some .string:=by kernel_rfl
theorem df:Maps.Keyed Tryz.prog 3:=Maps.int_keyed Ao
theorem pT:Maps.Keyed Tryz.prog 9:=Maps.string_keyed zB
theorem bQ (n:Int) (h:i64 n):fy Tryz.prog 3 (.int .i64 n):=by
 have h1:=h.1
 have h2:=h.2
 refine ⟨.int .i64 n,?_⟩
 show keyOf _ _ (Value.int .i64 n)=_
 unfold keyOf mapKey
 simp only [Ao]
 rw [if_pos]
 refine ⟨trivial,?_⟩
 simp [Lit.wf]
 exact ⟨h1,h2⟩
theorem jo (s:List UInt8) (h:DJ s):fy Tryz.prog 9 (.str s):=by
 refine ⟨.string s,?_⟩
 show keyOf _ _ (Value.string ⟨s.toArray⟩)=_
 unfold keyOf mapKey
 simp only [zB]
 have hm:(140737488355328:Nat)≤maxLen:=by decide
 have h1:s.length≤140737488355328:=h
 rw [if_pos (by simp only [ByteArray.size,List.size_toArray];omega)]
def dt:List AV→AHeap→(AV→Prop)→Prop
 |[.slice _ 3 l,.func (.func F) fst caps],H,K=>∃ (ts:List SField) (f:SField→Int),(l=ts.map aX∧ts.length≤1000000∧∀ x∈ts,i64 (f x)∧∀ H',H.Le H'→H'.Closed→ACalls Tryz.prog F (fst++[aX x]++caps) H' (.ret ((AV.int .i64) (f x))) H')∧K (.bool (dsF [] (ts.map f)))
 |_,_,_=>False
theorem E9:EntOk Tryz.prog 102 (Ent.pure dt):=by
 refine Ype fun _ H K h=>?_
 unfold dt at h
 split at h
 rotate_left
 ·exact h.elim
 rename_i m l F fst caps
 obtain ⟨ts,f,⟨rfl,hl,hq⟩,hK⟩:=h
 refine ⟨_,hK,?_⟩
 clear hK
 generalize hR:dsF [] (ts.map f)=R
 refine ACalls.fW ap (tCq (cK (F:=F)) tNq) Tryz.func102 [.tmp 4] (nrq _) (T:=aj []) (h:=fun hcl hlt=>?_)
 have hm:∀ n',H.nx≤n'→AV.lt n' (.slice m 3 (ts.map aX)):=fun n' hn=>AV.lt_mono hn _ (hlt (.slice m 3 (ts.map aX)) (by simp))
 have hf:∀ n',H.nx≤n'→AV.lt n' (.func (.func F) fst caps):=fun n' hn=>AV.lt_mono hn _ (hlt (.func (.func F) fst caps) (by simp))
 clear hlt
 simp only [go_sem,ziw,ybb]
 refine aD (A:=Nat × List (Int) × AHeap) (fun a=>[(1,.func (.func F) fst caps),(5,.mapv H.nx),(10,.slice m 3 (ts.map aX)),(11,.int .i64 (ts.length:Int)),(12,.int .i64 (a.1:Int))]) (fun a=>a.2.2)
  (fun a=>a.1≤ts.length∧dsF a.2.1 ((ts.drop a.1).map f)=R∧(∀ v∈a.2.1,i64 v)∧H.Le a.2.2∧a.2.2.Closed∧a.2.2.get H.nx=some (.mapo (cy (AV.int .i64) a.2.1))) (fun a=>ts.length - a.1) (0,[],H.push (.mapo [])) ⟨Nat.zero_le _,hR,(fun v hv=>by cases hv),(lRq _).push _,cq hcl,AHeap.get_push_new _ _⟩ ?_ fun a ha=>?_
 ·(simp only [bkq,enterW,bk,ltF,ne_eq,Nat.reduceEqDiff,reduceCtorEq,hm,hf];try simp (disch:=first|exact Zd|omega) [↓zmo,beq,ybc,ybd,ybe,aa,wk,wk2,wk1,wkM,wkL,ae,ybf,byq,biq,cB,hcl,hm,hf];try (repeat' (first|assumption|omega|exact True.intro|refine And.intro ?_ ?_|refine aY ?_|refine bh ?_|refine af ?_ ?_|refine ba ?_ ?_|refine ck ?_|exact lRq _|refine lPq ?_ _|refine AHeap.Le.del ?_ ?_|(simp only [bt,and_true,true_and,hm,hf];first|done|omega|(simp;done)))))
  exact cq hcl
 obtain ⟨k,sn,Hc⟩:=a
 clear hR
 obtain ⟨hk,hR,hsn,hle,hcc,hid⟩:=ha
 dsimp only at hk hR hsn hle hcc hid ⊢
 have hnx:H.nx<Hc.nx:=glq hid
 have hne:(H.nx=Hc.nx)=False:=eq_false (by omega)
 have hne2:(Hc.nx=H.nx)=False:=eq_false (by omega)
 simp only [go_sem]
 refine ak (fun hc=>?_) (fun hc=>?_)
 ·have hk':k<ts.length:=by simp at hc;omega
  obtain ⟨x,hx⟩:∃ x,x=ts[k]:=⟨_,rfl⟩
  have hd:ts.drop k=x::ts.drop (k+1):=by rw [hx];exact dcq hk'
  have hg':=a0 (f:=aX) (l:=ts) (k:=k) (x:=x) (by rw [gQq hk',hx])
  have e5:=Yk5 k
  rw [hd,yae] at hR
  unfold dsF at hR
  obtain ⟨hgx,hqx⟩:=hq x (by rw [hx];exact gMq hk')
  have hcs:aX x=.agg [.int .i64 x.id,.str x.name,.int .i64 x.bits]:=rfl
  have hel:AV.lt (Hc.nx+1) (aX x):=by
   have h1:=hm (Hc.nx+1) (by have:=hle.nx;omega)
   rw [AV.lt] at h1
   have h2:=h1.2 k (by rw [ybb];exact hk')
   rw [List.getElem_map] at h2
   rwa [← hx] at h2
  rw [hcs] at hqx hel hg'
  rw [znr] at hel
  have hcp:(Hc.push (.cells [.int .i64 x.id,.str x.name,.int .i64 x.bits])).Closed:=af hcc hel
  have hlp:H.Le (Hc.push (.cells [.int .i64 x.id,.str x.name,.int .i64 x.bits])):=hle.push _
  have hgp:(Hc.push (.cells [.int .i64 x.id,.str x.name,.int .i64 x.bits])).get H.nx=some (.mapo (cy (AV.int .i64) sn)):=by rw [zlh,if_neg (by omega)];exact hid
  simp only [go_sem,iNq,ybb,hg',hne2,fT]
  (repeat with_reducible refine Yq ?_)
  refine ⟨_,?_,hqx _ hlp hcp⟩
  have hmg:=im sn (f x)
  have hmu:=@aB _ H.nx (((AV.int .i64) (f x),.bool true)::cy (AV.int .i64) sn) hcc
  have hsn':=fE bQ hsn
  cases hb:sn.contains (f x) with
  |true =>
   rw [hb,if_pos rfl] at hmg
   rw [hb,Bool.not_true,Bool.false_and] at hR
   subst hR
   simp only [ah,go_sem,zix,hne,hid,hmg]
   refine ⟨⟨df,hsn',bQ _ hgx,rfl⟩,?_⟩
   try simp only [go_sem,hmg]
   exact Z4
  |false =>
   rw [hb,if_neg Bool.false_ne_true] at hmg
   rw [hb,Bool.not_false,Bool.true_and] at hR
   simp only [ah,go_sem,zix,ziy,hne,hid,hmg,e5]
   refine ⟨⟨df,hsn',bQ _ hgx,rfl⟩,?_⟩
   try simp only [go_sem,hmg,hid,hne,ziy,e5]
   refine ⟨⟨df,hsn',bQ _ hgx,rfl,rfl⟩,(k+1,f x::sn,Hc.set H.nx (.mapo (cy (AV.int .i64) (f x::sn)))),⟨by dsimp only;omega,hR,?_,dT hle (nrq _),aB hcc,?_⟩,by dsimp only;omega,?_⟩
   ·intro v hv
    rcases List.mem_cons.1 hv with rfl|hv
    ·exact hgx
    ·exact hsn v hv
   ·dsimp only
    rw [aG,if_pos rfl,if_pos (glq hid)]
   ·have hmu':(Hc.set H.nx (.mapo (cy (AV.int .i64) (f x::sn)))).Closed:=hmu
    have hrow:(((AV.int .i64) (f x),AV.bool true)::cy (AV.int .i64) sn)=cy (AV.int .i64) (f x::sn):=rfl
    try rw [hrow]
    try simp only [hrow]
    exact Z5
 ·have hk':k=ts.length:=by simp at hc;omega
  subst hk'
  rw [List.drop_length] at hR
  have hR':true=R:=hR
  subst hR'
  simp only [go_sem]
  exact Z6
def dV:List AV→AHeap→(AV→Prop)→Prop
 |[.slice _ 3 l,.func (.func F) fst caps],H,K=>∃ (ts:List SHeader) (f:SHeader→Int),(l=ts.map aH∧ts.length≤1000000∧∀ x∈ts,i64 (f x)∧∀ H',H.Le H'→H'.Closed→ACalls Tryz.prog F (fst++[aH x]++caps) H' (.ret ((AV.int .i64) (f x))) H')∧K (.bool (dsF [] (ts.map f)))
 |_,_,_=>False
theorem Fk:EntOk Tryz.prog 104 (Ent.pure dV):=by
 refine Ype fun _ H K h=>?_
 unfold dV at h
 split at h
 rotate_left
 ·exact h.elim
 rename_i m l F fst caps
 obtain ⟨ts,f,⟨rfl,hl,hq⟩,hK⟩:=h
 refine ⟨_,hK,?_⟩
 clear hK
 generalize hR:dsF [] (ts.map f)=R
 refine ACalls.fW ap (tCq (cK (F:=F)) tNq) Tryz.func104 [.tmp 4] (nrq _) (T:=aj []) (h:=fun hcl hlt=>?_)
 have hm:∀ n',H.nx≤n'→AV.lt n' (.slice m 3 (ts.map aH)):=fun n' hn=>AV.lt_mono hn _ (hlt (.slice m 3 (ts.map aH)) (by simp))
 have hf:∀ n',H.nx≤n'→AV.lt n' (.func (.func F) fst caps):=fun n' hn=>AV.lt_mono hn _ (hlt (.func (.func F) fst caps) (by simp))
 clear hlt
 simp only [go_sem,ziw,ybb]
 refine aD (A:=Nat × List (Int) × AHeap) (fun a=>[(1,.func (.func F) fst caps),(5,.mapv H.nx),(10,.slice m 3 (ts.map aH)),(11,.int .i64 (ts.length:Int)),(12,.int .i64 (a.1:Int))]) (fun a=>a.2.2)
  (fun a=>a.1≤ts.length∧dsF a.2.1 ((ts.drop a.1).map f)=R∧(∀ v∈a.2.1,i64 v)∧H.Le a.2.2∧a.2.2.Closed∧a.2.2.get H.nx=some (.mapo (cy (AV.int .i64) a.2.1))) (fun a=>ts.length - a.1) (0,[],H.push (.mapo [])) ⟨Nat.zero_le _,hR,(fun v hv=>by cases hv),(lRq _).push _,cq hcl,AHeap.get_push_new _ _⟩ ?_ fun a ha=>?_
 ·(simp only [bkq,enterW,bk,ltF,ne_eq,Nat.reduceEqDiff,reduceCtorEq,hm,hf];try simp (disch:=first|exact Zd|omega) [↓zmo,beq,ybc,ybd,ybe,aa,wk,wk2,wk1,wkM,wkL,ae,ybf,byq,biq,cB,hcl,hm,hf];try (repeat' (first|assumption|omega|exact True.intro|refine And.intro ?_ ?_|refine aY ?_|refine bh ?_|refine af ?_ ?_|refine ba ?_ ?_|refine ck ?_|exact lRq _|refine lPq ?_ _|refine AHeap.Le.del ?_ ?_|(simp only [bt,and_true,true_and,hm,hf];first|done|omega|(simp;done)))))
  exact cq hcl
 obtain ⟨k,sn,Hc⟩:=a
 clear hR
 obtain ⟨hk,hR,hsn,hle,hcc,hid⟩:=ha
 dsimp only at hk hR hsn hle hcc hid ⊢
 have hnx:H.nx<Hc.nx:=glq hid
 have hne:(H.nx=Hc.nx)=False:=eq_false (by omega)
 have hne2:(Hc.nx=H.nx)=False:=eq_false (by omega)
 simp only [go_sem]
 refine ak (fun hc=>?_) (fun hc=>?_)
 ·have hk':k<ts.length:=by simp at hc;omega
  obtain ⟨x,hx⟩:∃ x,x=ts[k]:=⟨_,rfl⟩
  have hd:ts.drop k=x::ts.drop (k+1):=by rw [hx];exact dcq hk'
  have hg':=a0 (f:=aH) (l:=ts) (k:=k) (x:=x) (by rw [gQq hk',hx])
  have e5:=Yk5 k
  rw [hd,yae] at hR
  unfold dsF at hR
  obtain ⟨hgx,hqx⟩:=hq x (by rw [hx];exact gMq hk')
  have hcs:aH x=.agg [.int .i64 x.id,.str x.name,.slice .any 1 (inL x.fields)]:=rfl
  have hel:AV.lt (Hc.nx+1) (aH x):=by
   have h1:=hm (Hc.nx+1) (by have:=hle.nx;omega)
   rw [AV.lt] at h1
   have h2:=h1.2 k (by rw [ybb];exact hk')
   rw [List.getElem_map] at h2
   rwa [← hx] at h2
  rw [hcs] at hqx hel hg'
  rw [znr] at hel
  have hcp:(Hc.push (.cells [.int .i64 x.id,.str x.name,.slice .any 1 (inL x.fields)])).Closed:=af hcc hel
  have hlp:H.Le (Hc.push (.cells [.int .i64 x.id,.str x.name,.slice .any 1 (inL x.fields)])):=hle.push _
  have hgp:(Hc.push (.cells [.int .i64 x.id,.str x.name,.slice .any 1 (inL x.fields)])).get H.nx=some (.mapo (cy (AV.int .i64) sn)):=by rw [zlh,if_neg (by omega)];exact hid
  simp only [go_sem,iNq,ybb,hg',hne2,fT]
  (repeat with_reducible refine Yq ?_)
  refine ⟨_,?_,hqx _ hlp hcp⟩
  have hmg:=im sn (f x)
  have hmu:=@aB _ H.nx (((AV.int .i64) (f x),.bool true)::cy (AV.int .i64) sn) hcc
  have hsn':=fE bQ hsn
  cases hb:sn.contains (f x) with
  |true =>
   rw [hb,if_pos rfl] at hmg
   rw [hb,Bool.not_true,Bool.false_and] at hR
   subst hR
   simp only [ah,go_sem,zix,hne,hid,hmg]
   refine ⟨⟨df,hsn',bQ _ hgx,rfl⟩,?_⟩
   try simp only [go_sem,hmg]
   exact Z4
  |false =>
   rw [hb,if_neg Bool.false_ne_true] at hmg
   rw [hb,Bool.not_false,Bool.true_and] at hR
   simp only [ah,go_sem,zix,ziy,hne,hid,hmg,e5]
   refine ⟨⟨df,hsn',bQ _ hgx,rfl⟩,?_⟩
   try simp only [go_sem,hmg,hid,hne,ziy,e5]
   refine ⟨⟨df,hsn',bQ _ hgx,rfl,rfl⟩,(k+1,f x::sn,Hc.set H.nx (.mapo (cy (AV.int .i64) (f x::sn)))),⟨by dsimp only;omega,hR,?_,dT hle (nrq _),aB hcc,?_⟩,by dsimp only;omega,?_⟩
   ·intro v hv
    rcases List.mem_cons.1 hv with rfl|hv
    ·exact hgx
    ·exact hsn v hv
   ·dsimp only
    rw [aG,if_pos rfl,if_pos (glq hid)]
   ·have hmu':(Hc.set H.nx (.mapo (cy (AV.int .i64) (f x::sn)))).Closed:=hmu
    have hrow:(((AV.int .i64) (f x),AV.bool true)::cy (AV.int .i64) sn)=cy (AV.int .i64) (f x::sn):=rfl
    try rw [hrow]
    try simp only [hrow]
    exact Z5
 ·have hk':k=ts.length:=by simp at hc;omega
  subst hk'
  rw [List.drop_length] at hR
  have hR':true=R:=hR
  subst hR'
  simp only [go_sem]
  exact Z6
def eJ:List AV→AHeap→(AV→Prop)→Prop
 |[.slice _ 5 l,.func (.func F) fst caps],H,K=>∃ (ts:List SState) (f:SState→Int),(l=ts.map aO∧ts.length≤1000000∧∀ x∈ts,i64 (f x)∧∀ H',H.Le H'→H'.Closed→ACalls Tryz.prog F (fst++[aO x]++caps) H' (.ret ((AV.int .i64) (f x))) H')∧K (.bool (dsF [] (ts.map f)))
 |_,_,_=>False
theorem Hs:EntOk Tryz.prog 106 (Ent.pure eJ):=by
 refine Ype fun _ H K h=>?_
 unfold eJ at h
 split at h
 rotate_left
 ·exact h.elim
 rename_i m l F fst caps
 obtain ⟨ts,f,⟨rfl,hl,hq⟩,hK⟩:=h
 refine ⟨_,hK,?_⟩
 clear hK
 generalize hR:dsF [] (ts.map f)=R
 refine ACalls.fW ap (tCq (cK (F:=F)) tNq) Tryz.func106 [.tmp 4] (nrq _) (T:=aj []) (h:=fun hcl hlt=>?_)
 have hm:∀ n',H.nx≤n'→AV.lt n' (.slice m 5 (ts.map aO)):=fun n' hn=>AV.lt_mono hn _ (hlt (.slice m 5 (ts.map aO)) (by simp))
 have hf:∀ n',H.nx≤n'→AV.lt n' (.func (.func F) fst caps):=fun n' hn=>AV.lt_mono hn _ (hlt (.func (.func F) fst caps) (by simp))
 clear hlt
 simp only [go_sem,ziw,ybb]
 refine aD (A:=Nat × List (Int) × AHeap) (fun a=>[(1,.func (.func F) fst caps),(5,.mapv H.nx),(10,.slice m 5 (ts.map aO)),(11,.int .i64 (ts.length:Int)),(12,.int .i64 (a.1:Int))]) (fun a=>a.2.2)
  (fun a=>a.1≤ts.length∧dsF a.2.1 ((ts.drop a.1).map f)=R∧(∀ v∈a.2.1,i64 v)∧H.Le a.2.2∧a.2.2.Closed∧a.2.2.get H.nx=some (.mapo (cy (AV.int .i64) a.2.1))) (fun a=>ts.length - a.1) (0,[],H.push (.mapo [])) ⟨Nat.zero_le _,hR,(fun v hv=>by cases hv),(lRq _).push _,cq hcl,AHeap.get_push_new _ _⟩ ?_ fun a ha=>?_
 ·(simp only [bkq,enterW,bk,ltF,ne_eq,Nat.reduceEqDiff,reduceCtorEq,hm,hf];try simp (disch:=first|exact Zd|omega) [↓zmo,beq,ybc,ybd,ybe,aa,wk,wk2,wk1,wkM,wkL,ae,ybf,byq,biq,cB,hcl,hm,hf];try (repeat' (first|assumption|omega|exact True.intro|refine And.intro ?_ ?_|refine aY ?_|refine bh ?_|refine af ?_ ?_|refine ba ?_ ?_|refine ck ?_|exact lRq _|refine lPq ?_ _|refine AHeap.Le.del ?_ ?_|(simp only [bt,and_true,true_and,hm,hf];first|done|omega|(simp;done)))))
  exact cq hcl
 obtain ⟨k,sn,Hc⟩:=a
 clear hR
 obtain ⟨hk,hR,hsn,hle,hcc,hid⟩:=ha
 dsimp only at hk hR hsn hle hcc hid ⊢
 have hnx:H.nx<Hc.nx:=glq hid
 have hne:(H.nx=Hc.nx)=False:=eq_false (by omega)
 have hne2:(Hc.nx=H.nx)=False:=eq_false (by omega)
 simp only [go_sem]
 refine ak (fun hc=>?_) (fun hc=>?_)
 ·have hk':k<ts.length:=by simp at hc;omega
  obtain ⟨x,hx⟩:∃ x,x=ts[k]:=⟨_,rfl⟩
  have hd:ts.drop k=x::ts.drop (k+1):=by rw [hx];exact dcq hk'
  have hg':=a0 (f:=aO) (l:=ts) (k:=k) (x:=x) (by rw [gQq hk',hx])
  have e5:=Yk5 k
  rw [hd,yae] at hR
  unfold dsF at hR
  obtain ⟨hgx,hqx⟩:=hq x (by rw [hx];exact gMq hk')
  have hcs:aO x=.agg [.int .i64 x.id,.int .i64 x.header,.int .i64 x.select,.slice .any 5 (x.cases.map cI),.int .i64 x.dflt]:=rfl
  have hel:AV.lt (Hc.nx+1) (aO x):=by
   have h1:=hm (Hc.nx+1) (by have:=hle.nx;omega)
   rw [AV.lt] at h1
   have h2:=h1.2 k (by rw [ybb];exact hk')
   rw [List.getElem_map] at h2
   rwa [← hx] at h2
  rw [hcs] at hqx hel hg'
  rw [znr] at hel
  have hcp:(Hc.push (.cells [.int .i64 x.id,.int .i64 x.header,.int .i64 x.select,.slice .any 5 (x.cases.map cI),.int .i64 x.dflt])).Closed:=af hcc hel
  have hlp:H.Le (Hc.push (.cells [.int .i64 x.id,.int .i64 x.header,.int .i64 x.select,.slice .any 5 (x.cases.map cI),.int .i64 x.dflt])):=hle.push _
  have hgp:(Hc.push (.cells [.int .i64 x.id,.int .i64 x.header,.int .i64 x.select,.slice .any 5 (x.cases.map cI),.int .i64 x.dflt])).get H.nx=some (.mapo (cy (AV.int .i64) sn)):=by rw [zlh,if_neg (by omega)];exact hid
  simp only [go_sem,iNq,ybb,hg',hne2,fT]
  (repeat with_reducible refine Yq ?_)
  refine ⟨_,?_,hqx _ hlp hcp⟩
  have hmg:=im sn (f x)
  have hmu:=@aB _ H.nx (((AV.int .i64) (f x),.bool true)::cy (AV.int .i64) sn) hcc
  have hsn':=fE bQ hsn
  cases hb:sn.contains (f x) with
  |true =>
   rw [hb,if_pos rfl] at hmg
   rw [hb,Bool.not_true,Bool.false_and] at hR
   subst hR
   simp only [ah,go_sem,zix,hne,hid,hmg]
   refine ⟨⟨df,hsn',bQ _ hgx,rfl⟩,?_⟩
   try simp only [go_sem,hmg]
   exact Z4
  |false =>
   rw [hb,if_neg Bool.false_ne_true] at hmg
   rw [hb,Bool.not_false,Bool.true_and] at hR
   simp only [ah,go_sem,zix,ziy,hne,hid,hmg,e5]
   refine ⟨⟨df,hsn',bQ _ hgx,rfl⟩,?_⟩
   try simp only [go_sem,hmg,hid,hne,ziy,e5]
   refine ⟨⟨df,hsn',bQ _ hgx,rfl,rfl⟩,(k+1,f x::sn,Hc.set H.nx (.mapo (cy (AV.int .i64) (f x::sn)))),⟨by dsimp only;omega,hR,?_,dT hle (nrq _),aB hcc,?_⟩,by dsimp only;omega,?_⟩
   ·intro v hv
    rcases List.mem_cons.1 hv with rfl|hv
    ·exact hgx
    ·exact hsn v hv
   ·dsimp only
    rw [aG,if_pos rfl,if_pos (glq hid)]
   ·have hmu':(Hc.set H.nx (.mapo (cy (AV.int .i64) (f x::sn)))).Closed:=hmu
    have hrow:(((AV.int .i64) (f x),AV.bool true)::cy (AV.int .i64) sn)=cy (AV.int .i64) (f x::sn):=rfl
    try rw [hrow]
    try simp only [hrow]
    exact Z5
 ·have hk':k=ts.length:=by simp at hc;omega
  subst hk'
  rw [List.drop_length] at hR
  have hR':true=R:=hR
  subst hR'
  simp only [go_sem]
  exact Z6
def fg:List AV→AHeap→(AV→Prop)→Prop
 |[.slice _ 5 l,.func (.func F) fst caps],H,K=>∃ (ts:List SAction) (f:SAction→Int),(l=ts.map aA∧ts.length≤1000000∧∀ x∈ts,i64 (f x)∧∀ H',H.Le H'→H'.Closed→ACalls Tryz.prog F (fst++[aA x]++caps) H' (.ret ((AV.int .i64) (f x))) H')∧K (.bool (dsF [] (ts.map f)))
 |_,_,_=>False
theorem ER:EntOk Tryz.prog 108 (Ent.pure fg):=by
 refine Ype fun _ H K h=>?_
 unfold fg at h
 split at h
 rotate_left
 ·exact h.elim
 rename_i m l F fst caps
 obtain ⟨ts,f,⟨rfl,hl,hq⟩,hK⟩:=h
 refine ⟨_,hK,?_⟩
 clear hK
 generalize hR:dsF [] (ts.map f)=R
 refine ACalls.fW ap (tCq (cK (F:=F)) tNq) Tryz.func108 [.tmp 4] (nrq _) (T:=aj []) (h:=fun hcl hlt=>?_)
 have hm:∀ n',H.nx≤n'→AV.lt n' (.slice m 5 (ts.map aA)):=fun n' hn=>AV.lt_mono hn _ (hlt (.slice m 5 (ts.map aA)) (by simp))
 have hf:∀ n',H.nx≤n'→AV.lt n' (.func (.func F) fst caps):=fun n' hn=>AV.lt_mono hn _ (hlt (.func (.func F) fst caps) (by simp))
 clear hlt
 simp only [go_sem,ziw,ybb]
 refine aD (A:=Nat × List (Int) × AHeap) (fun a=>[(1,.func (.func F) fst caps),(5,.mapv H.nx),(10,.slice m 5 (ts.map aA)),(11,.int .i64 (ts.length:Int)),(12,.int .i64 (a.1:Int))]) (fun a=>a.2.2)
  (fun a=>a.1≤ts.length∧dsF a.2.1 ((ts.drop a.1).map f)=R∧(∀ v∈a.2.1,i64 v)∧H.Le a.2.2∧a.2.2.Closed∧a.2.2.get H.nx=some (.mapo (cy (AV.int .i64) a.2.1))) (fun a=>ts.length - a.1) (0,[],H.push (.mapo [])) ⟨Nat.zero_le _,hR,(fun v hv=>by cases hv),(lRq _).push _,cq hcl,AHeap.get_push_new _ _⟩ ?_ fun a ha=>?_
 ·(simp only [bkq,enterW,bk,ltF,ne_eq,Nat.reduceEqDiff,reduceCtorEq,hm,hf];try simp (disch:=first|exact Zd|omega) [↓zmo,beq,ybc,ybd,ybe,aa,wk,wk2,wk1,wkM,wkL,ae,ybf,byq,biq,cB,hcl,hm,hf];try (repeat' (first|assumption|omega|exact True.intro|refine And.intro ?_ ?_|refine aY ?_|refine bh ?_|refine af ?_ ?_|refine ba ?_ ?_|refine ck ?_|exact lRq _|refine lPq ?_ _|refine AHeap.Le.del ?_ ?_|(simp only [bt,and_true,true_and,hm,hf];first|done|omega|(simp;done)))))
  exact cq hcl
 obtain ⟨k,sn,Hc⟩:=a
 clear hR
 obtain ⟨hk,hR,hsn,hle,hcc,hid⟩:=ha
 dsimp only at hk hR hsn hle hcc hid ⊢
 have hnx:H.nx<Hc.nx:=glq hid
 have hne:(H.nx=Hc.nx)=False:=eq_false (by omega)
 have hne2:(Hc.nx=H.nx)=False:=eq_false (by omega)
 simp only [go_sem]
 refine ak (fun hc=>?_) (fun hc=>?_)
 ·have hk':k<ts.length:=by simp at hc;omega
  obtain ⟨x,hx⟩:∃ x,x=ts[k]:=⟨_,rfl⟩
  have hd:ts.drop k=x::ts.drop (k+1):=by rw [hx];exact dcq hk'
  have hg':=a0 (f:=aA) (l:=ts) (k:=k) (x:=x) (by rw [gQq hk',hx])
  have e5:=Yk5 k
  rw [hd,yae] at hR
  unfold dsF at hR
  obtain ⟨hgx,hqx⟩:=hq x (by rw [hx];exact gMq hk')
  have hcs:aA x=.agg [.int .i64 x.id,.str x.name,.slice .any 2 (x.params.map bv),.slice .any 6 (x.body.map bV),.str x.restr]:=rfl
  have hel:AV.lt (Hc.nx+1) (aA x):=by
   have h1:=hm (Hc.nx+1) (by have:=hle.nx;omega)
   rw [AV.lt] at h1
   have h2:=h1.2 k (by rw [ybb];exact hk')
   rw [List.getElem_map] at h2
   rwa [← hx] at h2
  rw [hcs] at hqx hel hg'
  rw [znr] at hel
  have hcp:(Hc.push (.cells [.int .i64 x.id,.str x.name,.slice .any 2 (x.params.map bv),.slice .any 6 (x.body.map bV),.str x.restr])).Closed:=af hcc hel
  have hlp:H.Le (Hc.push (.cells [.int .i64 x.id,.str x.name,.slice .any 2 (x.params.map bv),.slice .any 6 (x.body.map bV),.str x.restr])):=hle.push _
  have hgp:(Hc.push (.cells [.int .i64 x.id,.str x.name,.slice .any 2 (x.params.map bv),.slice .any 6 (x.body.map bV),.str x.restr])).get H.nx=some (.mapo (cy (AV.int .i64) sn)):=by rw [zlh,if_neg (by omega)];exact hid
  simp only [go_sem,iNq,ybb,hg',hne2,fT]
  (repeat with_reducible refine Yq ?_)
  refine ⟨_,?_,hqx _ hlp hcp⟩
  have hmg:=im sn (f x)
  have hmu:=@aB _ H.nx (((AV.int .i64) (f x),.bool true)::cy (AV.int .i64) sn) hcc
  have hsn':=fE bQ hsn
  cases hb:sn.contains (f x) with
  |true =>
   rw [hb,if_pos rfl] at hmg
   rw [hb,Bool.not_true,Bool.false_and] at hR
   subst hR
   simp only [ah,go_sem,zix,hne,hid,hmg]
   refine ⟨⟨df,hsn',bQ _ hgx,rfl⟩,?_⟩
   try simp only [go_sem,hmg]
   exact Z4
  |false =>
   rw [hb,if_neg Bool.false_ne_true] at hmg
   rw [hb,Bool.not_false,Bool.true_and] at hR
   simp only [ah,go_sem,zix,ziy,hne,hid,hmg,e5]
   refine ⟨⟨df,hsn',bQ _ hgx,rfl⟩,?_⟩
   try simp only [go_sem,hmg,hid,hne,ziy,e5]
   refine ⟨⟨df,hsn',bQ _ hgx,rfl,rfl⟩,(k+1,f x::sn,Hc.set H.nx (.mapo (cy (AV.int .i64) (f x::sn)))),⟨by dsimp only;omega,hR,?_,dT hle (nrq _),aB hcc,?_⟩,by dsimp only;omega,?_⟩
   ·intro v hv
    rcases List.mem_cons.1 hv with rfl|hv
    ·exact hgx
    ·exact hsn v hv
   ·dsimp only
    rw [aG,if_pos rfl,if_pos (glq hid)]
   ·have hmu':(Hc.set H.nx (.mapo (cy (AV.int .i64) (f x::sn)))).Closed:=hmu
    have hrow:(((AV.int .i64) (f x),AV.bool true)::cy (AV.int .i64) sn)=cy (AV.int .i64) (f x::sn):=rfl
    try rw [hrow]
    try simp only [hrow]
    exact Z5
 ·have hk':k=ts.length:=by simp at hc;omega
  subst hk'
  rw [List.drop_length] at hR
  have hR':true=R:=hR
  subst hR'
  simp only [go_sem]
  exact Z6
def fO:List AV→AHeap→(AV→Prop)→Prop
 |[.slice _ 8 l,.func (.func F) fst caps],H,K=>∃ (ts:List STable) (f:STable→Int),(l=ts.map aC∧ts.length≤1000000∧∀ x∈ts,i64 (f x)∧∀ H',H.Le H'→H'.Closed→ACalls Tryz.prog F (fst++[aC x]++caps) H' (.ret ((AV.int .i64) (f x))) H')∧K (.bool (dsF [] (ts.map f)))
 |_,_,_=>False
theorem Dy:EntOk Tryz.prog 110 (Ent.pure fO):=by
 refine Ype fun _ H K h=>?_
 unfold fO at h
 split at h
 rotate_left
 ·exact h.elim
 rename_i m l F fst caps
 obtain ⟨ts,f,⟨rfl,hl,hq⟩,hK⟩:=h
 refine ⟨_,hK,?_⟩
 clear hK
 generalize hR:dsF [] (ts.map f)=R
 refine ACalls.fW ap (tCq (cK (F:=F)) tNq) Tryz.func110 [.tmp 4] (nrq _) (T:=aj []) (h:=fun hcl hlt=>?_)
 have hm:∀ n',H.nx≤n'→AV.lt n' (.slice m 8 (ts.map aC)):=fun n' hn=>AV.lt_mono hn _ (hlt (.slice m 8 (ts.map aC)) (by simp))
 have hf:∀ n',H.nx≤n'→AV.lt n' (.func (.func F) fst caps):=fun n' hn=>AV.lt_mono hn _ (hlt (.func (.func F) fst caps) (by simp))
 clear hlt
 simp only [go_sem,ziw,ybb]
 refine aD (A:=Nat × List (Int) × AHeap) (fun a=>[(1,.func (.func F) fst caps),(5,.mapv H.nx),(10,.slice m 8 (ts.map aC)),(11,.int .i64 (ts.length:Int)),(12,.int .i64 (a.1:Int))]) (fun a=>a.2.2)
  (fun a=>a.1≤ts.length∧dsF a.2.1 ((ts.drop a.1).map f)=R∧(∀ v∈a.2.1,i64 v)∧H.Le a.2.2∧a.2.2.Closed∧a.2.2.get H.nx=some (.mapo (cy (AV.int .i64) a.2.1))) (fun a=>ts.length - a.1) (0,[],H.push (.mapo [])) ⟨Nat.zero_le _,hR,(fun v hv=>by cases hv),(lRq _).push _,cq hcl,AHeap.get_push_new _ _⟩ ?_ fun a ha=>?_
 ·(simp only [bkq,enterW,bk,ltF,ne_eq,Nat.reduceEqDiff,reduceCtorEq,hm,hf];try simp (disch:=first|exact Zd|omega) [↓zmo,beq,ybc,ybd,ybe,aa,wk,wk2,wk1,wkM,wkL,ae,ybf,byq,biq,cB,hcl,hm,hf];try (repeat' (first|assumption|omega|exact True.intro|refine And.intro ?_ ?_|refine aY ?_|refine bh ?_|refine af ?_ ?_|refine ba ?_ ?_|refine ck ?_|exact lRq _|refine lPq ?_ _|refine AHeap.Le.del ?_ ?_|(simp only [bt,and_true,true_and,hm,hf];first|done|omega|(simp;done)))))
  exact cq hcl
 obtain ⟨k,sn,Hc⟩:=a
 clear hR
 obtain ⟨hk,hR,hsn,hle,hcc,hid⟩:=ha
 dsimp only at hk hR hsn hle hcc hid ⊢
 have hnx:H.nx<Hc.nx:=glq hid
 have hne:(H.nx=Hc.nx)=False:=eq_false (by omega)
 have hne2:(Hc.nx=H.nx)=False:=eq_false (by omega)
 simp only [go_sem]
 refine ak (fun hc=>?_) (fun hc=>?_)
 ·have hk':k<ts.length:=by simp at hc;omega
  obtain ⟨x,hx⟩:∃ x,x=ts[k]:=⟨_,rfl⟩
  have hd:ts.drop k=x::ts.drop (k+1):=by rw [hx];exact dcq hk'
  have hg':=a0 (f:=aC) (l:=ts) (k:=k) (x:=x) (by rw [gQq hk',hx])
  have e5:=Yk5 k
  rw [hd,yae] at hR
  unfold dsF at hR
  obtain ⟨hgx,hqx⟩:=hq x (by rw [hx];exact gMq hk')
  have hcs:aC x=.agg [.int .i64 x.id,.str x.name,.slice .any 3 (x.keys.map bE),.slice .any 1 (inL x.actions),.int .i64 x.dflt,.slice .any 2 (x.dargs.map vv),.int .i64 x.size,.str x.restr]:=rfl
  have hel:AV.lt (Hc.nx+1) (aC x):=by
   have h1:=hm (Hc.nx+1) (by have:=hle.nx;omega)
   rw [AV.lt] at h1
   have h2:=h1.2 k (by rw [ybb];exact hk')
   rw [List.getElem_map] at h2
   rwa [← hx] at h2
  rw [hcs] at hqx hel hg'
  rw [znr] at hel
  have hcp:(Hc.push (.cells [.int .i64 x.id,.str x.name,.slice .any 3 (x.keys.map bE),.slice .any 1 (inL x.actions),.int .i64 x.dflt,.slice .any 2 (x.dargs.map vv),.int .i64 x.size,.str x.restr])).Closed:=af hcc hel
  have hlp:H.Le (Hc.push (.cells [.int .i64 x.id,.str x.name,.slice .any 3 (x.keys.map bE),.slice .any 1 (inL x.actions),.int .i64 x.dflt,.slice .any 2 (x.dargs.map vv),.int .i64 x.size,.str x.restr])):=hle.push _
  have hgp:(Hc.push (.cells [.int .i64 x.id,.str x.name,.slice .any 3 (x.keys.map bE),.slice .any 1 (inL x.actions),.int .i64 x.dflt,.slice .any 2 (x.dargs.map vv),.int .i64 x.size,.str x.restr])).get H.nx=some (.mapo (cy (AV.int .i64) sn)):=by rw [zlh,if_neg (by omega)];exact hid
  simp only [go_sem,iNq,ybb,hg',hne2,fT]
  (repeat with_reducible refine Yq ?_)
  refine ⟨_,?_,hqx _ hlp hcp⟩
  have hmg:=im sn (f x)
  have hmu:=@aB _ H.nx (((AV.int .i64) (f x),.bool true)::cy (AV.int .i64) sn) hcc
  have hsn':=fE bQ hsn
  cases hb:sn.contains (f x) with
  |true =>
   rw [hb,if_pos rfl] at hmg
   rw [hb,Bool.not_true,Bool.false_and] at hR
   subst hR
   simp only [ah,go_sem,zix,hne,hid,hmg]
   refine ⟨⟨df,hsn',bQ _ hgx,rfl⟩,?_⟩
   try simp only [go_sem,hmg]
   exact Z4
  |false =>
   rw [hb,if_neg Bool.false_ne_true] at hmg
   rw [hb,Bool.not_false,Bool.true_and] at hR
   simp only [ah,go_sem,zix,ziy,hne,hid,hmg,e5]
   refine ⟨⟨df,hsn',bQ _ hgx,rfl⟩,?_⟩
   try simp only [go_sem,hmg,hid,hne,ziy,e5]
   refine ⟨⟨df,hsn',bQ _ hgx,rfl,rfl⟩,(k+1,f x::sn,Hc.set H.nx (.mapo (cy (AV.int .i64) (f x::sn)))),⟨by dsimp only;omega,hR,?_,dT hle (nrq _),aB hcc,?_⟩,by dsimp only;omega,?_⟩
   ·intro v hv
    rcases List.mem_cons.1 hv with rfl|hv
    ·exact hgx
    ·exact hsn v hv
   ·dsimp only
    rw [aG,if_pos rfl,if_pos (glq hid)]
   ·have hmu':(Hc.set H.nx (.mapo (cy (AV.int .i64) (f x::sn)))).Closed:=hmu
    have hrow:(((AV.int .i64) (f x),AV.bool true)::cy (AV.int .i64) sn)=cy (AV.int .i64) (f x::sn):=rfl
    try rw [hrow]
    try simp only [hrow]
    exact Z5
 ·have hk':k=ts.length:=by simp at hc;omega
  subst hk'
  rw [List.drop_length] at hR
  have hR':true=R:=hR
  subst hR'
  simp only [go_sem]
  exact Z6
def gD:List AV→AHeap→(AV→Prop)→Prop
 |[.slice _ 6 l,.func (.func F) fst caps],H,K=>∃ (ts:List SRole) (f:SRole→Int),(l=ts.map bc∧ts.length≤1000000∧∀ x∈ts,i64 (f x)∧∀ H',H.Le H'→H'.Closed→ACalls Tryz.prog F (fst++[bc x]++caps) H' (.ret ((AV.int .i64) (f x))) H')∧K (.bool (dsF [] (ts.map f)))
 |_,_,_=>False
theorem FR:EntOk Tryz.prog 112 (Ent.pure gD):=by
 refine Ype fun _ H K h=>?_
 unfold gD at h
 split at h
 rotate_left
 ·exact h.elim
 rename_i m l F fst caps
 obtain ⟨ts,f,⟨rfl,hl,hq⟩,hK⟩:=h
 refine ⟨_,hK,?_⟩
 clear hK
 generalize hR:dsF [] (ts.map f)=R
 refine ACalls.fW ap (tCq (cK (F:=F)) tNq) Tryz.func112 [.tmp 4] (nrq _) (T:=aj []) (h:=fun hcl hlt=>?_)
 have hm:∀ n',H.nx≤n'→AV.lt n' (.slice m 6 (ts.map bc)):=fun n' hn=>AV.lt_mono hn _ (hlt (.slice m 6 (ts.map bc)) (by simp))
 have hf:∀ n',H.nx≤n'→AV.lt n' (.func (.func F) fst caps):=fun n' hn=>AV.lt_mono hn _ (hlt (.func (.func F) fst caps) (by simp))
 clear hlt
 simp only [go_sem,ziw,ybb]
 refine aD (A:=Nat × List (Int) × AHeap) (fun a=>[(1,.func (.func F) fst caps),(5,.mapv H.nx),(10,.slice m 6 (ts.map bc)),(11,.int .i64 (ts.length:Int)),(12,.int .i64 (a.1:Int))]) (fun a=>a.2.2)
  (fun a=>a.1≤ts.length∧dsF a.2.1 ((ts.drop a.1).map f)=R∧(∀ v∈a.2.1,i64 v)∧H.Le a.2.2∧a.2.2.Closed∧a.2.2.get H.nx=some (.mapo (cy (AV.int .i64) a.2.1))) (fun a=>ts.length - a.1) (0,[],H.push (.mapo [])) ⟨Nat.zero_le _,hR,(fun v hv=>by cases hv),(lRq _).push _,cq hcl,AHeap.get_push_new _ _⟩ ?_ fun a ha=>?_
 ·(simp only [bkq,enterW,bk,ltF,ne_eq,Nat.reduceEqDiff,reduceCtorEq,hm,hf];try simp (disch:=first|exact Zd|omega) [↓zmo,beq,ybc,ybd,ybe,aa,wk,wk2,wk1,wkM,wkL,ae,ybf,byq,biq,cB,hcl,hm,hf];try (repeat' (first|assumption|omega|exact True.intro|refine And.intro ?_ ?_|refine aY ?_|refine bh ?_|refine af ?_ ?_|refine ba ?_ ?_|refine ck ?_|exact lRq _|refine lPq ?_ _|refine AHeap.Le.del ?_ ?_|(simp only [bt,and_true,true_and,hm,hf];first|done|omega|(simp;done)))))
  exact cq hcl
 obtain ⟨k,sn,Hc⟩:=a
 clear hR
 obtain ⟨hk,hR,hsn,hle,hcc,hid⟩:=ha
 dsimp only at hk hR hsn hle hcc hid ⊢
 have hnx:H.nx<Hc.nx:=glq hid
 have hne:(H.nx=Hc.nx)=False:=eq_false (by omega)
 have hne2:(Hc.nx=H.nx)=False:=eq_false (by omega)
 simp only [go_sem]
 refine ak (fun hc=>?_) (fun hc=>?_)
 ·have hk':k<ts.length:=by simp at hc;omega
  obtain ⟨x,hx⟩:∃ x,x=ts[k]:=⟨_,rfl⟩
  have hd:ts.drop k=x::ts.drop (k+1):=by rw [hx];exact dcq hk'
  have hg':=a0 (f:=bc) (l:=ts) (k:=k) (x:=x) (by rw [gQq hk',hx])
  have e5:=Yk5 k
  rw [hd,yae] at hR
  unfold dsF at hR
  obtain ⟨hgx,hqx⟩:=hq x (by rw [hx];exact gMq hk')
  have hcs:bc x=.agg [.int .i64 x.id,.str x.name,.slice .any 4 (x.grants.map bj),.slice .any 1 (inL x.actions),.int .i64 x.quota,.bool x.audit]:=rfl
  have hel:AV.lt (Hc.nx+1) (bc x):=by
   have h1:=hm (Hc.nx+1) (by have:=hle.nx;omega)
   rw [AV.lt] at h1
   have h2:=h1.2 k (by rw [ybb];exact hk')
   rw [List.getElem_map] at h2
   rwa [← hx] at h2
  rw [hcs] at hqx hel hg'
  rw [znr] at hel
  have hcp:(Hc.push (.cells [.int .i64 x.id,.str x.name,.slice .any 4 (x.grants.map bj),.slice .any 1 (inL x.actions),.int .i64 x.quota,.bool x.audit])).Closed:=af hcc hel
  have hlp:H.Le (Hc.push (.cells [.int .i64 x.id,.str x.name,.slice .any 4 (x.grants.map bj),.slice .any 1 (inL x.actions),.int .i64 x.quota,.bool x.audit])):=hle.push _
  have hgp:(Hc.push (.cells [.int .i64 x.id,.str x.name,.slice .any 4 (x.grants.map bj),.slice .any 1 (inL x.actions),.int .i64 x.quota,.bool x.audit])).get H.nx=some (.mapo (cy (AV.int .i64) sn)):=by rw [zlh,if_neg (by omega)];exact hid
  simp only [go_sem,iNq,ybb,hg',hne2,fT]
  (repeat with_reducible refine Yq ?_)
  refine ⟨_,?_,hqx _ hlp hcp⟩
  have hmg:=im sn (f x)
  have hmu:=@aB _ H.nx (((AV.int .i64) (f x),.bool true)::cy (AV.int .i64) sn) hcc
  have hsn':=fE bQ hsn
  cases hb:sn.contains (f x) with
  |true =>
   rw [hb,if_pos rfl] at hmg
   rw [hb,Bool.not_true,Bool.false_and] at hR
   subst hR
   simp only [ah,go_sem,zix,hne,hid,hmg]
   refine ⟨⟨df,hsn',bQ _ hgx,rfl⟩,?_⟩
   try simp only [go_sem,hmg]
   exact Z4
  |false =>
   rw [hb,if_neg Bool.false_ne_true] at hmg
   rw [hb,Bool.not_false,Bool.true_and] at hR
   simp only [ah,go_sem,zix,ziy,hne,hid,hmg,e5]
   refine ⟨⟨df,hsn',bQ _ hgx,rfl⟩,?_⟩
   try simp only [go_sem,hmg,hid,hne,ziy,e5]
   refine ⟨⟨df,hsn',bQ _ hgx,rfl,rfl⟩,(k+1,f x::sn,Hc.set H.nx (.mapo (cy (AV.int .i64) (f x::sn)))),⟨by dsimp only;omega,hR,?_,dT hle (nrq _),aB hcc,?_⟩,by dsimp only;omega,?_⟩
   ·intro v hv
    rcases List.mem_cons.1 hv with rfl|hv
    ·exact hgx
    ·exact hsn v hv
   ·dsimp only
    rw [aG,if_pos rfl,if_pos (glq hid)]
   ·have hmu':(Hc.set H.nx (.mapo (cy (AV.int .i64) (f x::sn)))).Closed:=hmu
    have hrow:(((AV.int .i64) (f x),AV.bool true)::cy (AV.int .i64) sn)=cy (AV.int .i64) (f x::sn):=rfl
    try rw [hrow]
    try simp only [hrow]
    exact Z5
 ·have hk':k=ts.length:=by simp at hc;omega
  subst hk'
  rw [List.drop_length] at hR
  have hR':true=R:=hR
  subst hR'
  simp only [go_sem]
  exact Z6
def pb:List AV→AHeap→(AV→Prop)→Prop
 |[.slice _ 4 l,.func (.func F) fst caps],H,K=>∃ (ts:List SGrant) (f:SGrant→Int),(l=ts.map bj∧ts.length≤1000000∧∀ x∈ts,i64 (f x)∧∀ H',H.Le H'→H'.Closed→ACalls Tryz.prog F (fst++[bj x]++caps) H' (.ret ((AV.int .i64) (f x))) H')∧K (.bool (dsF [] (ts.map f)))
 |_,_,_=>False
theorem El:EntOk Tryz.prog 119 (Ent.pure pb):=by
 refine Ype fun _ H K h=>?_
 unfold pb at h
 split at h
 rotate_left
 ·exact h.elim
 rename_i m l F fst caps
 obtain ⟨ts,f,⟨rfl,hl,hq⟩,hK⟩:=h
 refine ⟨_,hK,?_⟩
 clear hK
 generalize hR:dsF [] (ts.map f)=R
 refine ACalls.fW ap (tCq (cK (F:=F)) tNq) Tryz.func119 [.tmp 4] (nrq _) (T:=aj []) (h:=fun hcl hlt=>?_)
 have hm:∀ n',H.nx≤n'→AV.lt n' (.slice m 4 (ts.map bj)):=fun n' hn=>AV.lt_mono hn _ (hlt (.slice m 4 (ts.map bj)) (by simp))
 have hf:∀ n',H.nx≤n'→AV.lt n' (.func (.func F) fst caps):=fun n' hn=>AV.lt_mono hn _ (hlt (.func (.func F) fst caps) (by simp))
 clear hlt
 simp only [go_sem,ziw,ybb]
 refine aD (A:=Nat × List (Int) × AHeap) (fun a=>[(1,.func (.func F) fst caps),(5,.mapv H.nx),(10,.slice m 4 (ts.map bj)),(11,.int .i64 (ts.length:Int)),(12,.int .i64 (a.1:Int))]) (fun a=>a.2.2)
  (fun a=>a.1≤ts.length∧dsF a.2.1 ((ts.drop a.1).map f)=R∧(∀ v∈a.2.1,i64 v)∧H.Le a.2.2∧a.2.2.Closed∧a.2.2.get H.nx=some (.mapo (cy (AV.int .i64) a.2.1))) (fun a=>ts.length - a.1) (0,[],H.push (.mapo [])) ⟨Nat.zero_le _,hR,(fun v hv=>by cases hv),(lRq _).push _,cq hcl,AHeap.get_push_new _ _⟩ ?_ fun a ha=>?_
 ·(simp only [bkq,enterW,bk,ltF,ne_eq,Nat.reduceEqDiff,reduceCtorEq,hm,hf];try simp (disch:=first|exact Zd|omega) [↓zmo,beq,ybc,ybd,ybe,aa,wk,wk2,wk1,wkM,wkL,ae,ybf,byq,biq,cB,hcl,hm,hf];try (repeat' (first|assumption|omega|exact True.intro|refine And.intro ?_ ?_|refine aY ?_|refine bh ?_|refine af ?_ ?_|refine ba ?_ ?_|refine ck ?_|exact lRq _|refine lPq ?_ _|refine AHeap.Le.del ?_ ?_|(simp only [bt,and_true,true_and,hm,hf];first|done|omega|(simp;done)))))
  exact cq hcl
 obtain ⟨k,sn,Hc⟩:=a
 clear hR
 obtain ⟨hk,hR,hsn,hle,hcc,hid⟩:=ha
 dsimp only at hk hR hsn hle hcc hid ⊢
 have hnx:H.nx<Hc.nx:=glq hid
 have hne:(H.nx=Hc.nx)=False:=eq_false (by omega)
 have hne2:(Hc.nx=H.nx)=False:=eq_false (by omega)
 simp only [go_sem]
 refine ak (fun hc=>?_) (fun hc=>?_)
 ·have hk':k<ts.length:=by simp at hc;omega
  obtain ⟨x,hx⟩:∃ x,x=ts[k]:=⟨_,rfl⟩
  have hd:ts.drop k=x::ts.drop (k+1):=by rw [hx];exact dcq hk'
  have hg':=a0 (f:=bj) (l:=ts) (k:=k) (x:=x) (by rw [gQq hk',hx])
  have e5:=Yk5 k
  rw [hd,yae] at hR
  unfold dsF at hR
  obtain ⟨hgx,hqx⟩:=hq x (by rw [hx];exact gMq hk')
  have hcs:bj x=.agg [.int .i64 x.table,.bool x.read,.bool x.write,.slice .any 1 (boL x.keys)]:=rfl
  have hel:AV.lt (Hc.nx+1) (bj x):=by
   have h1:=hm (Hc.nx+1) (by have:=hle.nx;omega)
   rw [AV.lt] at h1
   have h2:=h1.2 k (by rw [ybb];exact hk')
   rw [List.getElem_map] at h2
   rwa [← hx] at h2
  rw [hcs] at hqx hel hg'
  rw [znr] at hel
  have hcp:(Hc.push (.cells [.int .i64 x.table,.bool x.read,.bool x.write,.slice .any 1 (boL x.keys)])).Closed:=af hcc hel
  have hlp:H.Le (Hc.push (.cells [.int .i64 x.table,.bool x.read,.bool x.write,.slice .any 1 (boL x.keys)])):=hle.push _
  have hgp:(Hc.push (.cells [.int .i64 x.table,.bool x.read,.bool x.write,.slice .any 1 (boL x.keys)])).get H.nx=some (.mapo (cy (AV.int .i64) sn)):=by rw [zlh,if_neg (by omega)];exact hid
  simp only [go_sem,iNq,ybb,hg',hne2,fT]
  (repeat with_reducible refine Yq ?_)
  refine ⟨_,?_,hqx _ hlp hcp⟩
  have hmg:=im sn (f x)
  have hmu:=@aB _ H.nx (((AV.int .i64) (f x),.bool true)::cy (AV.int .i64) sn) hcc
  have hsn':=fE bQ hsn
  cases hb:sn.contains (f x) with
  |true =>
   rw [hb,if_pos rfl] at hmg
   rw [hb,Bool.not_true,Bool.false_and] at hR
   subst hR
   simp only [ah,go_sem,zix,hne,hid,hmg]
   refine ⟨⟨df,hsn',bQ _ hgx,rfl⟩,?_⟩
   try simp only [go_sem,hmg]
   exact Z4
  |false =>
   rw [hb,if_neg Bool.false_ne_true] at hmg
   rw [hb,Bool.not_false,Bool.true_and] at hR
   simp only [ah,go_sem,zix,ziy,hne,hid,hmg,e5]
   refine ⟨⟨df,hsn',bQ _ hgx,rfl⟩,?_⟩
   try simp only [go_sem,hmg,hid,hne,ziy,e5]
   refine ⟨⟨df,hsn',bQ _ hgx,rfl,rfl⟩,(k+1,f x::sn,Hc.set H.nx (.mapo (cy (AV.int .i64) (f x::sn)))),⟨by dsimp only;omega,hR,?_,dT hle (nrq _),aB hcc,?_⟩,by dsimp only;omega,?_⟩
   ·intro v hv
    rcases List.mem_cons.1 hv with rfl|hv
    ·exact hgx
    ·exact hsn v hv
   ·dsimp only
    rw [aG,if_pos rfl,if_pos (glq hid)]
   ·have hmu':(Hc.set H.nx (.mapo (cy (AV.int .i64) (f x::sn)))).Closed:=hmu
    have hrow:(((AV.int .i64) (f x),AV.bool true)::cy (AV.int .i64) sn)=cy (AV.int .i64) (f x::sn):=rfl
    try rw [hrow]
    try simp only [hrow]
    exact Z5
 ·have hk':k=ts.length:=by simp at hc;omega
  subst hk'
  rw [List.drop_length] at hR
  have hR':true=R:=hR
  subst hR'
  simp only [go_sem]
  exact Z6
def eX:List AV→AHeap→(AV→Prop)→Prop
 |[.slice _ 1 l,.func (.func F) fst caps],H,K=>∃ (ts:List Int) (f:Int→Int),(l=ts.map (AV.int .i64)∧ts.length≤1000000∧∀ x∈ts,i64 (f x)∧∀ H',H.Le H'→H'.Closed→ACalls Tryz.prog F (fst++[(AV.int .i64) x]++caps) H' (.ret ((AV.int .i64) (f x))) H')∧K (.bool (dsF [] (ts.map f)))
 |_,_,_=>False
theorem qY:EntOk Tryz.prog 115 (Ent.pure eX):=by
 refine Ype fun _ H K h=>?_
 unfold eX at h
 split at h
 rotate_left
 ·exact h.elim
 rename_i m l F fst caps
 obtain ⟨ts,f,⟨rfl,hl,hq⟩,hK⟩:=h
 refine ⟨_,hK,?_⟩
 clear hK
 generalize hR:dsF [] (ts.map f)=R
 refine ACalls.fW ap (tCq (cK (F:=F)) tNq) Tryz.func115 [.tmp 4] (nrq _) (T:=aj []) (h:=fun hcl hlt=>?_)
 have hm:∀ n',H.nx≤n'→AV.lt n' (.slice m 1 (ts.map (AV.int .i64))):=fun n' hn=>AV.lt_mono hn _ (hlt (.slice m 1 (ts.map (AV.int .i64))) (by simp))
 have hf:∀ n',H.nx≤n'→AV.lt n' (.func (.func F) fst caps):=fun n' hn=>AV.lt_mono hn _ (hlt (.func (.func F) fst caps) (by simp))
 clear hlt
 simp only [go_sem,ziw,ybb]
 refine aD (A:=Nat × List (Int) × AHeap) (fun a=>[(1,.func (.func F) fst caps),(5,.mapv H.nx),(10,.slice m 1 (ts.map (AV.int .i64))),(11,.int .i64 (ts.length:Int)),(12,.int .i64 (a.1:Int))]) (fun a=>a.2.2)
  (fun a=>a.1≤ts.length∧dsF a.2.1 ((ts.drop a.1).map f)=R∧(∀ v∈a.2.1,i64 v)∧H.Le a.2.2∧a.2.2.Closed∧a.2.2.get H.nx=some (.mapo (cy (AV.int .i64) a.2.1))) (fun a=>ts.length - a.1) (0,[],H.push (.mapo [])) ⟨Nat.zero_le _,hR,(fun v hv=>by cases hv),(lRq _).push _,cq hcl,AHeap.get_push_new _ _⟩ ?_ fun a ha=>?_
 ·(simp only [bkq,enterW,bk,ltF,ne_eq,Nat.reduceEqDiff,reduceCtorEq,hm,hf];try simp (disch:=first|exact Zd|omega) [↓zmo,beq,ybc,ybd,ybe,aa,wk,wk2,wk1,wkM,wkL,ae,ybf,byq,biq,cB,hcl,hm,hf];try (repeat' (first|assumption|omega|exact True.intro|refine And.intro ?_ ?_|refine aY ?_|refine bh ?_|refine af ?_ ?_|refine ba ?_ ?_|refine ck ?_|exact lRq _|refine lPq ?_ _|refine AHeap.Le.del ?_ ?_|(simp only [bt,and_true,true_and,hm,hf];first|done|omega|(simp;done)))))
  exact cq hcl
 obtain ⟨k,sn,Hc⟩:=a
 clear hR
 obtain ⟨hk,hR,hsn,hle,hcc,hid⟩:=ha
 dsimp only at hk hR hsn hle hcc hid ⊢
 have hnx:H.nx<Hc.nx:=glq hid
 have hne:(H.nx=Hc.nx)=False:=eq_false (by omega)
 have hne2:(Hc.nx=H.nx)=False:=eq_false (by omega)
 simp only [go_sem]
 refine ak (fun hc=>?_) (fun hc=>?_)
 ·have hk':k<ts.length:=by simp at hc;omega
  obtain ⟨x,hx⟩:∃ x,x=ts[k]:=⟨_,rfl⟩
  have hd:ts.drop k=x::ts.drop (k+1):=by rw [hx];exact dcq hk'
  have hg':=a0 (f:=(AV.int .i64)) (l:=ts) (k:=k) (x:=x) (by rw [gQq hk',hx])
  have e5:=Yk5 k
  rw [hd,yae] at hR
  unfold dsF at hR
  obtain ⟨hgx,hqx⟩:=hq x (by rw [hx];exact gMq hk')
  have hcp:Hc.Closed:=hcc
  have hlp:H.Le Hc:=hle
  have hgp:=hid
  simp only [go_sem,iNq,ybb,hg',hne2,fT]
  (repeat with_reducible refine Yq ?_)
  refine ⟨_,?_,hqx _ hlp hcp⟩
  have hmg:=im sn (f x)
  have hmu:=@aB _ H.nx (((AV.int .i64) (f x),.bool true)::cy (AV.int .i64) sn) hcc
  have hsn':=fE bQ hsn
  cases hb:sn.contains (f x) with
  |true =>
   rw [hb,if_pos rfl] at hmg
   rw [hb,Bool.not_true,Bool.false_and] at hR
   subst hR
   simp only [ah,go_sem,zix,hne,hid,hmg]
   refine ⟨⟨df,hsn',bQ _ hgx,rfl⟩,?_⟩
   try simp only [go_sem,hmg]
   exact Z4
  |false =>
   rw [hb,if_neg Bool.false_ne_true] at hmg
   rw [hb,Bool.not_false,Bool.true_and] at hR
   simp only [ah,go_sem,zix,ziy,hne,hid,hmg,e5]
   refine ⟨⟨df,hsn',bQ _ hgx,rfl⟩,?_⟩
   try simp only [go_sem,hmg,hid,hne,ziy,e5]
   refine ⟨⟨df,hsn',bQ _ hgx,rfl,rfl⟩,(k+1,f x::sn,Hc.set H.nx (.mapo (cy (AV.int .i64) (f x::sn)))),⟨by dsimp only;omega,hR,?_,dT hle (nrq _),aB hcc,?_⟩,by dsimp only;omega,?_⟩
   ·intro v hv
    rcases List.mem_cons.1 hv with rfl|hv
    ·exact hgx
    ·exact hsn v hv
   ·dsimp only
    rw [aG,if_pos rfl,if_pos (glq hid)]
   ·have hmu':(Hc.set H.nx (.mapo (cy (AV.int .i64) (f x::sn)))).Closed:=hmu
    have hrow:(((AV.int .i64) (f x),AV.bool true)::cy (AV.int .i64) sn)=cy (AV.int .i64) (f x::sn):=rfl
    try rw [hrow]
    try simp only [hrow]
    exact Z5
 ·have hk':k=ts.length:=by simp at hc;omega
  subst hk'
  rw [List.drop_length] at hR
  have hR':true=R:=hR
  subst hR'
  simp only [go_sem]
  exact Z6
def vy:List AV→AHeap→(AV→Prop)→Prop
 |[.slice _ 2 l,.func (.func F) fst caps],H,K=>∃ (ts:List SParam) (f:SParam→List UInt8),(l=ts.map bv∧ts.length≤1000000∧∀ x∈ts,DJ (f x)∧∀ H',H.Le H'→H'.Closed→ACalls Tryz.prog F (fst++[bv x]++caps) H' (.ret (AV.str (f x))) H')∧K (.bool (dsF [] (ts.map f)))
 |_,_,_=>False
theorem CU:EntOk Tryz.prog 253 (Ent.pure vy):=by
 refine Ype fun _ H K h=>?_
 unfold vy at h
 split at h
 rotate_left
 ·exact h.elim
 rename_i m l F fst caps
 obtain ⟨ts,f,⟨rfl,hl,hq⟩,hK⟩:=h
 refine ⟨_,hK,?_⟩
 clear hK
 generalize hR:dsF [] (ts.map f)=R
 refine ACalls.fW ap (tCq (cK (F:=F)) tNq) Tryz.func253 [.tmp 4] (nrq _) (T:=aj []) (h:=fun hcl hlt=>?_)
 have hm:∀ n',H.nx≤n'→AV.lt n' (.slice m 2 (ts.map bv)):=fun n' hn=>AV.lt_mono hn _ (hlt (.slice m 2 (ts.map bv)) (by simp))
 have hf:∀ n',H.nx≤n'→AV.lt n' (.func (.func F) fst caps):=fun n' hn=>AV.lt_mono hn _ (hlt (.func (.func F) fst caps) (by simp))
 clear hlt
 simp only [go_sem,ziw,ybb]
 refine aD (A:=Nat × List (List UInt8) × AHeap) (fun a=>[(1,.func (.func F) fst caps),(5,.mapv H.nx),(10,.slice m 2 (ts.map bv)),(11,.int .i64 (ts.length:Int)),(12,.int .i64 (a.1:Int))]) (fun a=>a.2.2)
  (fun a=>a.1≤ts.length∧dsF a.2.1 ((ts.drop a.1).map f)=R∧(∀ v∈a.2.1,DJ v)∧H.Le a.2.2∧a.2.2.Closed∧a.2.2.get H.nx=some (.mapo (cy AV.str a.2.1))) (fun a=>ts.length - a.1) (0,[],H.push (.mapo [])) ⟨Nat.zero_le _,hR,(fun v hv=>by cases hv),(lRq _).push _,cq hcl,AHeap.get_push_new _ _⟩ ?_ fun a ha=>?_
 ·(simp only [bkq,enterW,bk,ltF,ne_eq,Nat.reduceEqDiff,reduceCtorEq,hm,hf];try simp (disch:=first|exact Zd|omega) [↓zmo,beq,ybc,ybd,ybe,aa,wk,wk2,wk1,wkM,wkL,ae,ybf,byq,biq,cB,hcl,hm,hf];try (repeat' (first|assumption|omega|exact True.intro|refine And.intro ?_ ?_|refine aY ?_|refine bh ?_|refine af ?_ ?_|refine ba ?_ ?_|refine ck ?_|exact lRq _|refine lPq ?_ _|refine AHeap.Le.del ?_ ?_|(simp only [bt,and_true,true_and,hm,hf];first|done|omega|(simp;done)))))
  exact cq hcl
 obtain ⟨k,sn,Hc⟩:=a
 clear hR
 obtain ⟨hk,hR,hsn,hle,hcc,hid⟩:=ha
 dsimp only at hk hR hsn hle hcc hid ⊢
 have hnx:H.nx<Hc.nx:=glq hid
 have hne:(H.nx=Hc.nx)=False:=eq_false (by omega)
 have hne2:(Hc.nx=H.nx)=False:=eq_false (by omega)
 simp only [go_sem]
 refine ak (fun hc=>?_) (fun hc=>?_)
 ·have hk':k<ts.length:=by simp at hc;omega
  obtain ⟨x,hx⟩:∃ x,x=ts[k]:=⟨_,rfl⟩
  have hd:ts.drop k=x::ts.drop (k+1):=by rw [hx];exact dcq hk'
  have hg':=a0 (f:=bv) (l:=ts) (k:=k) (x:=x) (by rw [gQq hk',hx])
  have e5:=Yk5 k
  rw [hd,yae] at hR
  unfold dsF at hR
  obtain ⟨hgx,hqx⟩:=hq x (by rw [hx];exact gMq hk')
  have hcs:bv x=.agg [.str x.name,.int .i64 x.bits]:=rfl
  have hel:AV.lt (Hc.nx+1) (bv x):=by
   have h1:=hm (Hc.nx+1) (by have:=hle.nx;omega)
   rw [AV.lt] at h1
   have h2:=h1.2 k (by rw [ybb];exact hk')
   rw [List.getElem_map] at h2
   rwa [← hx] at h2
  rw [hcs] at hqx hel hg'
  rw [znr] at hel
  have hcp:(Hc.push (.cells [.str x.name,.int .i64 x.bits])).Closed:=af hcc hel
  have hlp:H.Le (Hc.push (.cells [.str x.name,.int .i64 x.bits])):=hle.push _
  have hgp:(Hc.push (.cells [.str x.name,.int .i64 x.bits])).get H.nx=some (.mapo (cy AV.str sn)):=by rw [zlh,if_neg (by omega)];exact hid
  simp only [go_sem,iNq,ybb,hg',hne2,fT]
  (repeat with_reducible refine Yq ?_)
  refine ⟨_,?_,hqx _ hlp hcp⟩
  have hmg:=uo sn (f x)
  have hmu:=@aB _ H.nx ((AV.str (f x),.bool true)::cy AV.str sn) hcc
  have hsn':=fE jo hsn
  cases hb:sn.contains (f x) with
  |true =>
   rw [hb,if_pos rfl] at hmg
   rw [hb,Bool.not_true,Bool.false_and] at hR
   subst hR
   simp only [ah,go_sem,zix,hne,hid,hmg]
   refine ⟨⟨pT,hsn',jo _ hgx,rfl⟩,?_⟩
   try simp only [go_sem,hmg]
   exact Z4
  |false =>
   rw [hb,if_neg Bool.false_ne_true] at hmg
   rw [hb,Bool.not_false,Bool.true_and] at hR
   simp only [ah,go_sem,zix,ziy,hne,hid,hmg,e5]
   refine ⟨⟨pT,hsn',jo _ hgx,rfl⟩,?_⟩
   try simp only [go_sem,hmg,hid,hne,ziy,e5]
   refine ⟨⟨pT,hsn',jo _ hgx,rfl,rfl⟩,(k+1,f x::sn,Hc.set H.nx (.mapo (cy AV.str (f x::sn)))),⟨by dsimp only;omega,hR,?_,dT hle (nrq _),aB hcc,?_⟩,by dsimp only;omega,?_⟩
   ·intro v hv
    rcases List.mem_cons.1 hv with rfl|hv
    ·exact hgx
    ·exact hsn v hv
   ·dsimp only
    rw [aG,if_pos rfl,if_pos (glq hid)]
   ·have hmu':(Hc.set H.nx (.mapo (cy AV.str (f x::sn)))).Closed:=hmu
    have hrow:((AV.str (f x),AV.bool true)::cy AV.str sn)=cy AV.str (f x::sn):=rfl
    try rw [hrow]
    try simp only [hrow]
    exact Z5
 ·have hk':k=ts.length:=by simp at hc;omega
  subst hk'
  rw [List.drop_length] at hR
  have hR':true=R:=hR
  subst hR'
  simp only [go_sem]
  exact Z6
def uJ:List AV→AHeap→(AV→Prop)→Prop
 |[.slice _ 3 l,.func (.func F) fst caps],H,K=>∃ (ts:List SKey) (f:SKey→List UInt8),(l=ts.map bE∧ts.length≤1000000∧∀ x∈ts,DJ (f x)∧∀ H',H.Le H'→H'.Closed→ACalls Tryz.prog F (fst++[bE x]++caps) H' (.ret (AV.str (f x))) H')∧K (.bool (dsF [] (ts.map f)))
 |_,_,_=>False
theorem CO:EntOk Tryz.prog 256 (Ent.pure uJ):=by
 refine Ype fun _ H K h=>?_
 unfold uJ at h
 split at h
 rotate_left
 ·exact h.elim
 rename_i m l F fst caps
 obtain ⟨ts,f,⟨rfl,hl,hq⟩,hK⟩:=h
 refine ⟨_,hK,?_⟩
 clear hK
 generalize hR:dsF [] (ts.map f)=R
 refine ACalls.fW ap (tCq (cK (F:=F)) tNq) Tryz.func256 [.tmp 4] (nrq _) (T:=aj []) (h:=fun hcl hlt=>?_)
 have hm:∀ n',H.nx≤n'→AV.lt n' (.slice m 3 (ts.map bE)):=fun n' hn=>AV.lt_mono hn _ (hlt (.slice m 3 (ts.map bE)) (by simp))
 have hf:∀ n',H.nx≤n'→AV.lt n' (.func (.func F) fst caps):=fun n' hn=>AV.lt_mono hn _ (hlt (.func (.func F) fst caps) (by simp))
 clear hlt
 simp only [go_sem,ziw,ybb]
 refine aD (A:=Nat × List (List UInt8) × AHeap) (fun a=>[(1,.func (.func F) fst caps),(5,.mapv H.nx),(10,.slice m 3 (ts.map bE)),(11,.int .i64 (ts.length:Int)),(12,.int .i64 (a.1:Int))]) (fun a=>a.2.2)
  (fun a=>a.1≤ts.length∧dsF a.2.1 ((ts.drop a.1).map f)=R∧(∀ v∈a.2.1,DJ v)∧H.Le a.2.2∧a.2.2.Closed∧a.2.2.get H.nx=some (.mapo (cy AV.str a.2.1))) (fun a=>ts.length - a.1) (0,[],H.push (.mapo [])) ⟨Nat.zero_le _,hR,(fun v hv=>by cases hv),(lRq _).push _,cq hcl,AHeap.get_push_new _ _⟩ ?_ fun a ha=>?_
 ·(simp only [bkq,enterW,bk,ltF,ne_eq,Nat.reduceEqDiff,reduceCtorEq,hm,hf];try simp (disch:=first|exact Zd|omega) [↓zmo,beq,ybc,ybd,ybe,aa,wk,wk2,wk1,wkM,wkL,ae,ybf,byq,biq,cB,hcl,hm,hf];try (repeat' (first|assumption|omega|exact True.intro|refine And.intro ?_ ?_|refine aY ?_|refine bh ?_|refine af ?_ ?_|refine ba ?_ ?_|refine ck ?_|exact lRq _|refine lPq ?_ _|refine AHeap.Le.del ?_ ?_|(simp only [bt,and_true,true_and,hm,hf];first|done|omega|(simp;done)))))
  exact cq hcl
 obtain ⟨k,sn,Hc⟩:=a
 clear hR
 obtain ⟨hk,hR,hsn,hle,hcc,hid⟩:=ha
 dsimp only at hk hR hsn hle hcc hid ⊢
 have hnx:H.nx<Hc.nx:=glq hid
 have hne:(H.nx=Hc.nx)=False:=eq_false (by omega)
 have hne2:(Hc.nx=H.nx)=False:=eq_false (by omega)
 simp only [go_sem]
 refine ak (fun hc=>?_) (fun hc=>?_)
 ·have hk':k<ts.length:=by simp at hc;omega
  obtain ⟨x,hx⟩:∃ x,x=ts[k]:=⟨_,rfl⟩
  have hd:ts.drop k=x::ts.drop (k+1):=by rw [hx];exact dcq hk'
  have hg':=a0 (f:=bE) (l:=ts) (k:=k) (x:=x) (by rw [gQq hk',hx])
  have e5:=Yk5 k
  rw [hd,yae] at hR
  unfold dsF at hR
  obtain ⟨hgx,hqx⟩:=hq x (by rw [hx];exact gMq hk')
  have hcs:bE x=.agg [.str x.name,.int .i64 x.field,.int .i64 x.kind]:=rfl
  have hel:AV.lt (Hc.nx+1) (bE x):=by
   have h1:=hm (Hc.nx+1) (by have:=hle.nx;omega)
   rw [AV.lt] at h1
   have h2:=h1.2 k (by rw [ybb];exact hk')
   rw [List.getElem_map] at h2
   rwa [← hx] at h2
  rw [hcs] at hqx hel hg'
  rw [znr] at hel
  have hcp:(Hc.push (.cells [.str x.name,.int .i64 x.field,.int .i64 x.kind])).Closed:=af hcc hel
  have hlp:H.Le (Hc.push (.cells [.str x.name,.int .i64 x.field,.int .i64 x.kind])):=hle.push _
  have hgp:(Hc.push (.cells [.str x.name,.int .i64 x.field,.int .i64 x.kind])).get H.nx=some (.mapo (cy AV.str sn)):=by rw [zlh,if_neg (by omega)];exact hid
  simp only [go_sem,iNq,ybb,hg',hne2,fT]
  (repeat with_reducible refine Yq ?_)
  refine ⟨_,?_,hqx _ hlp hcp⟩
  have hmg:=uo sn (f x)
  have hmu:=@aB _ H.nx ((AV.str (f x),.bool true)::cy AV.str sn) hcc
  have hsn':=fE jo hsn
  cases hb:sn.contains (f x) with
  |true =>
   rw [hb,if_pos rfl] at hmg
   rw [hb,Bool.not_true,Bool.false_and] at hR
   subst hR
   simp only [ah,go_sem,zix,hne,hid,hmg]
   refine ⟨⟨pT,hsn',jo _ hgx,rfl⟩,?_⟩
   try simp only [go_sem,hmg]
   exact Z4
  |false =>
   rw [hb,if_neg Bool.false_ne_true] at hmg
   rw [hb,Bool.not_false,Bool.true_and] at hR
   simp only [ah,go_sem,zix,ziy,hne,hid,hmg,e5]
   refine ⟨⟨pT,hsn',jo _ hgx,rfl⟩,?_⟩
   try simp only [go_sem,hmg,hid,hne,ziy,e5]
   refine ⟨⟨pT,hsn',jo _ hgx,rfl,rfl⟩,(k+1,f x::sn,Hc.set H.nx (.mapo (cy AV.str (f x::sn)))),⟨by dsimp only;omega,hR,?_,dT hle (nrq _),aB hcc,?_⟩,by dsimp only;omega,?_⟩
   ·intro v hv
    rcases List.mem_cons.1 hv with rfl|hv
    ·exact hgx
    ·exact hsn v hv
   ·dsimp only
    rw [aG,if_pos rfl,if_pos (glq hid)]
   ·have hmu':(Hc.set H.nx (.mapo (cy AV.str (f x::sn)))).Closed:=hmu
    have hrow:((AV.str (f x),AV.bool true)::cy AV.str sn)=cy AV.str (f x::sn):=rfl
    try rw [hrow]
    try simp only [hrow]
    exact Z5
 ·have hk':k=ts.length:=by simp at hc;omega
  subst hk'
  rw [List.drop_length] at hR
  have hR':true=R:=hR
  subst hR'
  simp only [go_sem]
  exact Z6
def sA (P:Program) (F:FuncId):List AV→AHeap→(AEnd→AHeap→Prop)→Prop:=fun args H K=>∃ x H1,K x H1∧ACalls P F args H x H1
theorem jk {P:Program} {F:FuncId}:EntOk P F (Ent.effect (sA P F)):=EntOk.effect fun _ _ _ h=>h
def ixS {α σ:Type} (st:α→σ→Bool × σ):List α→σ→Nat→Int × σ
 |[],s,_=>(-1,s)
 |x::l,s,k=>if (st x s).1 then ((k:Int),(st x s).2) else ixS st l (st x s).2 (k+1)
def evS {α σ:Type} (st:α→σ→Bool × σ):List α→σ→Bool × σ
 |[],s=>(true,s)
 |x::l,s=>if (st x s).1 then evS st l (st x s).2 else (false,(st x s).2)
theorem iI {α σ:Type} {st:α→σ→Bool × σ}:∀ {l:List α} {s:σ} {k:Nat},(decide (0≤(ixS (fun x s=>(!(st x s).1,(st x s).2)) l s k).1),(ixS (fun x s=>(!(st x s).1,(st x s).2)) l s k).2)=(!(evS st l s).1,(evS st l s).2)
 |[],s,k=>rfl
 |x::l,s,k=>by
  unfold ixS evS
  dsimp only
  cases h:(st x s).1
  ·rw [Bool.not_false,if_pos rfl,if_neg (by decide)]
   dsimp only
   rw [dtq (Int.natCast_nonneg _)];rfl
  ·rw [Bool.not_true,if_neg (by decide),if_pos rfl,iI]
abbrev mpV (s:List VN):AObj:=.mapo (cy iV s)
def Stp {α:Type} (P:Program) (av:α→AV) (F:FuncId) (fst caps:List AV) (H:AHeap) (id:Nat) (g:List VN→Prop) (st:α→List VN→Bool × List VN) (x:α):Prop :=
 ∀ s,g s→g (st x s).2∧∀ H',(H.set id (mpV s)).Le H'→H'.Closed→ACalls P F (fst++[av x]++caps) H' (.ret (.bool (st x s).1)) (H'.set id (mpV (st x s).2))
theorem jV {H H':AHeap} {i:Nat} {a b:AObj} (h:(H.set i a).Le H'):(H.set i b).Le (H'.set i b):=by
 have hn:=h.nx
 rw [zlf] at hn
 refine ⟨by rw [zlf,zlf];exact hn,fun j o hj=>?_⟩
 have hjl:=glq hj
 rw [zlf] at hjl
 rw [aG] at hj ⊢
 by_cases e:j=i
 ·subst e
  rw [if_pos rfl,if_pos hjl] at hj
  rw [if_pos rfl,if_pos (by omega)]
  exact hj
 ·rw [if_neg e] at hj ⊢
  refine h.get j o ?_
  rw [aG,if_neg e]
  exact hj
def eIx {α:Type} (P:Program) (av:α→AV) (sz:Nat):List AV→AHeap→(AEnd→AHeap→Prop)→Prop
 |[x,.func (.func F) fst caps],H,K=>∃ (ts:List α) (id:Nat) (sn:List VN) (st:α→List VN→Bool × List VN) (g:List VN→Prop),(x=.slice x.smk sz (ts.map av)∧ts.length≤1000000∧H.get id=some (mpV sn)∧g sn∧∀ x∈ts,Stp P av F fst caps H id g st x)∧K (.ret (.int .i64 (ixS st ts sn 0).1)) (H.set id (mpV (ixS st ts sn 0).2))
 |_,_,_=>False
theorem rk {α:Type} {P:Program} {f:FuncId} {av:α→AV} {sz:Nat} (h:∀ (av':α→AV) (sz':Nat),av'=av→sz'=sz→∀ (m:Mark) (ts:List α) (id:Nat) (sn:List VN) (st:α→List VN→Bool × List VN) (g:List VN→Prop) (F:FuncId) (fst caps:List AV) (H:AHeap),ts.length≤1000000→H.get id=some (mpV sn)→g sn→(∀ x∈ts,Stp P av' F fst caps H id g st x)→ACalls P f [.slice m sz' (ts.map av'),.func (.func F) fst caps] H (.ret (.int .i64 (ixS st ts sn 0).1)) (H.set id (mpV (ixS st ts sn 0).2))):EntOk P f (Ent.effect (eIx P av sz)):=by
 refine EntOk.effect fun args H K hh=>?_
 unfold eIx at hh
 split at hh
 ·obtain ⟨ts,id,sn,st,g,⟨h1,h2,h3,h4,h5⟩,h6⟩:=hh
  rw [h1]
  exact ⟨_,_,h6,h av sz rfl rfl _ ts id sn st g _ _ _ _ h2 h3 h4 h5⟩
 ·exact hh.elim
def eAn {α:Type} (P:Program) (av:α→AV) (sz:Nat):List AV→AHeap→(AEnd→AHeap→Prop)→Prop
 |[x,.func (.func F) fst caps],H,K=>∃ (ts:List α) (id:Nat) (sn:List VN) (st:α→List VN→Bool × List VN) (g:List VN→Prop),(x=.slice x.smk sz (ts.map av)∧ts.length≤1000000∧H.get id=some (mpV sn)∧g sn∧∀ x∈ts,Stp P av F fst caps H id g st x)∧K (.ret (.bool (decide (0≤(ixS st ts sn 0).1)))) (H.set id (mpV (ixS st ts sn 0).2))
 |_,_,_=>False
theorem sN {α:Type} {P:Program} {f:FuncId} {av:α→AV} {sz:Nat} (h:∀ (av':α→AV) (sz':Nat),av'=av→sz'=sz→∀ (m:Mark) (ts:List α) (id:Nat) (sn:List VN) (st:α→List VN→Bool × List VN) (g:List VN→Prop) (F:FuncId) (fst caps:List AV) (H:AHeap),ts.length≤1000000→H.get id=some (mpV sn)→g sn→(∀ x∈ts,Stp P av' F fst caps H id g st x)→ACalls P f [.slice m sz' (ts.map av'),.func (.func F) fst caps] H (.ret (.bool (decide (0≤(ixS st ts sn 0).1)))) (H.set id (mpV (ixS st ts sn 0).2))):EntOk P f (Ent.effect (eAn P av sz)):=by
 refine EntOk.effect fun args H K hh=>?_
 unfold eAn at hh
 split at hh
 ·obtain ⟨ts,id,sn,st,g,⟨h1,h2,h3,h4,h5⟩,h6⟩:=hh
  rw [h1]
  exact ⟨_,_,h6,h av sz rfl rfl _ ts id sn st g _ _ _ _ h2 h3 h4 h5⟩
 ·exact hh.elim
def eEv {α:Type} (P:Program) (av:α→AV) (sz:Nat):List AV→AHeap→(AEnd→AHeap→Prop)→Prop
 |[x,.func (.func F) fst caps],H,K=>∃ (ts:List α) (id:Nat) (sn:List VN) (st:α→List VN→Bool × List VN) (g:List VN→Prop),(x=.slice x.smk sz (ts.map av)∧ts.length≤1000000∧H.get id=some (mpV sn)∧g sn∧∀ x∈ts,Stp P av F fst caps H id g st x)∧K (.ret (.bool (evS st ts sn).1)) (H.set id (mpV (evS st ts sn).2))
 |_,_,_=>False
theorem qS {α:Type} {P:Program} {f:FuncId} {av:α→AV} {sz:Nat} (h:∀ (av':α→AV) (sz':Nat),av'=av→sz'=sz→∀ (m:Mark) (ts:List α) (id:Nat) (sn:List VN) (st:α→List VN→Bool × List VN) (g:List VN→Prop) (F:FuncId) (fst caps:List AV) (H:AHeap),ts.length≤1000000→H.get id=some (mpV sn)→g sn→(∀ x∈ts,Stp P av' F fst caps H id g st x)→ACalls P f [.slice m sz' (ts.map av'),.func (.func F) fst caps] H (.ret (.bool (evS st ts sn).1)) (H.set id (mpV (evS st ts sn).2))):EntOk P f (Ent.effect (eEv P av sz)):=by
 refine EntOk.effect fun args H K hh=>?_
 unfold eEv at hh
 split at hh
 ·obtain ⟨ts,id,sn,st,g,⟨h1,h2,h3,h4,h5⟩,h6⟩:=hh
  rw [h1]
  exact ⟨_,_,h6,h av sz rfl rfl _ ts id sn st g _ _ _ _ h2 h3 h4 h5⟩
 ·exact hh.elim
def eCl {α:Type} (P:Program) (av:α→AV):List AV→AHeap→(AEnd→AHeap→Prop)→Prop
 |[x,.ptr c 0],H,K=>∃ (t:α) (id:Nat) (sn:List VN) (st:α→List VN→Bool × List VN) (g:List VN→Prop) (F:FuncId) (fst caps:List AV),(x=av t∧H.get c=some (.cells [.func (.func F) fst caps])∧H.get id=some (mpV sn)∧g sn∧Stp P av F fst caps H id g st t)∧K (.ret (.bool (!(st t sn).1))) (H.set id (mpV (st t sn).2))
 |_,_,_=>False
theorem rY {α:Type} {P:Program} {f:FuncId} {av:α→AV} (h:∀ (av':α→AV),av'=av→∀ (x:α) (c id:Nat) (sn:List VN) (st:α→List VN→Bool × List VN) (g:List VN→Prop) (F:FuncId) (fst caps:List AV) (H:AHeap),H.get c=some (.cells [.func (.func F) fst caps])→H.get id=some (mpV sn)→g sn→Stp P av' F fst caps H id g st x→ACalls P f [av' x,.ptr c 0] H (.ret (.bool (!(st x sn).1))) (H.set id (mpV (st x sn).2))):EntOk P f (Ent.effect (eCl P av)):=by
 refine EntOk.effect fun args H K hh=>?_
 unfold eCl at hh
 split at hh
 ·obtain ⟨t,id,sn,st,g,F,fst,caps,⟨h1,h2,h3,h4,h5⟩,h6⟩:=hh
  rw [h1]
  exact ⟨_,_,h6,h av rfl t _ id sn st g _ _ _ _ h2 h3 h4 h5⟩
 ·exact hh.elim
attribute [go_sem] eIx eAn eEv eCl
abbrev Il:=@eIx SField Tryz.prog aX 3
abbrev KM:=@eAn SField Tryz.prog aX 3
abbrev zj:=@eEv SField Tryz.prog aX 3
abbrev IK:=@eCl SField Tryz.prog aX
theorem DY:EntOk Tryz.prog 318 (Ent.effect Il):=rk fun av sz ha hs m ts id sn st g F fst caps H hl hid hg hq=>by
 have hag:∀ x,∃ cs,av x=.agg cs∧cs.length=sz:=by subst ha hs;exact fun x=>⟨_,rfl,rfl⟩
 refine ACalls.fW ap (tCq (jk (F:=F)) tNq) Tryz.func318 [.tmp 4] (nrq _) (T:=aj []) (h:=fun hcl hlt=>?_)
 generalize hR:ixS st ts sn 0=R
 have hnx:id<H.nx:=glq hid
 have hss:=dr hid
 have hm:AV.lt H.nx (.slice m sz (ts.map av)):=hlt _ (by simp)
 have hf:AV.lt H.nx (.func (.func F) fst caps):=hlt _ (by simp)
 clear hlt
 simp only [go_sem,ybb]
 refine aD (A:=Nat × List VN) (fun a=>[(0,.slice m sz (ts.map av)),(1,.func (.func F) fst caps),(7,.int .i64 (ts.length:Int)),(8,.int .i64 (a.1:Int))]) (fun a=>H.set id (mpV a.2)) (fun a=>a.1≤ts.length∧g a.2∧ixS st (ts.drop a.1) a.2 a.1=R) (fun a=>ts.length - a.1) (0,sn) ⟨by dsimp only;omega,hg,hR⟩ ?_ fun a hk=>?_
 ·dsimp only
  rw [hss]
  exact ⟨nrq _,lRq _,hcl,by simp [ltF,znf,hm,hf],by simp [bk,wk2,wk1,wkM,Fr.get]⟩
 clear hR
 obtain ⟨k,s⟩:=a
 obtain ⟨hk,hgs,hR⟩:=hk
 dsimp only at hk hgs hR ⊢
 have hcc:(H.set id (mpV s)).Closed:=aB hcl
 simp only [go_sem]
 refine ak (fun hc=>?_) (fun hc=>?_)
 ·have hk':k<ts.length:=by simp at hc;omega
  obtain ⟨x,hx⟩:∃ x,x=ts[k]:=⟨_,rfl⟩
  have hd:ts.drop k=x::ts.drop (k+1):=by rw [hx];exact dcq hk'
  have hg':=a0 (f:=av) (l:=ts) (k:=k) (x:=x) (by rw [gQq hk',hx])
  have e5:=Yk5 k
  rw [hd] at hR
  unfold ixS at hR
  obtain ⟨hg2,hqx⟩:=hq x (by rw [hx];exact gMq hk') s hgs
  have hqx:=hqx _ (lRq _) hcc
  have hc2:(H.set id (mpV (st x s).2)).Closed:=aB hcl
  obtain ⟨cs,hcs,hcl3⟩:=hag x
  have hts:List.take sz cs=cs:=ybc (by omega)
  rw [hcs] at hqx hg'
  clear ha hag
  subst hs
  simp only [go_sem,iNq,ybb,hg',hcl3,hts,sA]
  (repeat with_reducible refine Yq ?_)
  refine ⟨_,_,?_,hqx⟩
  try simp only [aE,go_sem]
  refine ak (fun hq=>?_) (fun hq=>?_)
  ·rw [if_pos hq] at hR
   subst hR
   simp only [go_sem]
   exact Z7
  ·rw [if_neg (by rw [hq];decide)] at hR
   simp only [go_sem,e5]
   exact ⟨(k+1,(st x s).2),⟨by dsimp only;omega,hg2,hR⟩,by dsimp only;omega,nrq _,lRq _,hc2,by simp [ltF,znf,hm,hf,zlf],by simp [bk,wk2,wk1,wkM,Fr.get]⟩
 ·have hk':k=ts.length:=by simp at hc;omega
  subst hk'
  rw [List.drop_length] at hR
  unfold ixS at hR
  subst hR
  simp only [go_sem]
  exact Z8
theorem Fh:EntOk Tryz.prog 233 (Ent.effect KM):=sN fun av sz ha hs m ts id sn st g F fst caps H hl hid hg hq=>by
 refine ACalls.fW ap (tCq DY tNq) Tryz.func233 [.tmp 4] (nrq _) (T:=aj []) (h:=fun hcl hlt=>?_)
 have hcc:(H.set id (mpV (ixS st ts sn 0).2)).Closed:=aB hcl
 clear hlt
 subst hs
 simp only [go_sem]
 refine ⟨ts,id,sn,st,g,⟨by rw [ha];rfl,hl,hid,hg,by rw [← ha];exact hq⟩,?_⟩
 generalize ixS st ts sn 0=R at *
 try simp only [aE,go_sem]
 exact Z9
theorem DS:EntOk Tryz.prog 234 (Ent.effect IK):=rY fun av ha x c id sn st g F fst caps H hg hid hgs hq=>by
 have hag:∀ x,∃ cs,av x=.agg cs∧cs.length=3:=by subst ha;exact fun x=>⟨_,rfl,rfl⟩
 refine ACalls.fW ap (tCq (jk (F:=F)) tNq) Tryz.func234 [.tmp 3] (nrq _) (T:=aj []) (h:=fun hcl hlt=>?_)
 have hcs:=ag hg
 have hl:=glq hg
 have hl2:=glq hid
 have hne:(c=H.nx)=False:=eq_false (by omega)
 have hne2:(id=H.nx)=False:=eq_false (by omega)
 have hss:=dr hid
 obtain ⟨hg2,hqx⟩:=hq sn hgs
 obtain ⟨cs,hav,hcl3⟩:=hag x
 have hts:=ybc (Nat.le_of_eq hcl3)
 rw [hav] at hqx hlt ⊢
 have hlx:=hlt _ (List.mem_cons_self)
 clear hlt
 have h0:=AV.lt_mono (Nat.le_succ H.nx) _ hlx
 rw [znr] at h0
 have hcp:(H.push (.cells cs)).Closed:=af hcl h0
 have hc2:(H.set id (mpV (st x sn).2)).Closed:=aB hcl
 have hq1:=hqx (H.push (.cells cs)) (by rw [hss];exact (lRq _).push _) hcp
 rw [zli,if_neg (by omega)] at hq1
 simp only [go_sem,hcs,hne,hg,hcl3,hts,sA]
 refine ⟨_,_,?_,hq1⟩
 try simp only [aE,go_sem]
 exact Z7
theorem FG:EntOk Tryz.prog 75 (Ent.effect zj):=qS fun av sz ha hs m ts id sn st g F fst caps H hl hid hg hq=>by
 have hL:EntOk Tryz.prog 234 (Ent.effect (eCl Tryz.prog av)):=by rw [ha];exact DS
 rw [← congrArg Prod.snd (@iI _ _ st ts sn 0)]
 refine ACalls.fW ap (tCq Fh tNq) Tryz.func75 [.tmp 4] (nrq _) (T:=aj []) (h:=fun hcl hlt=>?_)
 have hR1:=congrArg Prod.fst (@iI _ _ st ts sn 0)
 dsimp only at hR1 ⊢
 generalize hX:evS st ts sn=X at *
 have hl2:=glq hid
 have hne2:(id=H.nx)=False:=eq_false (by omega)
 have hfx:=hlt _ (List.mem_cons_of_mem _ List.mem_cons_self)
 clear hlt
 have hcp:(H.push (.cells [.func (.func F) fst caps])).Closed:=af hcl (by simp only [znu,znv,and_true];exact AV.lt_mono (Nat.le_succ H.nx) _ hfx)
 subst hs
 simp only [go_sem]
 refine ⟨ts,id,sn,fun x s=>(!(st x s).1,(st x s).2),g,⟨by rw [ha];rfl,hl,?_,hg,fun x hx s hs=>?_⟩,?_⟩
 ·rw [if_neg (by omega)];exact hid
 ·obtain ⟨h1,h2⟩:=hq x hx s hs
  refine ⟨h1,fun H' hle hcl'=>?_⟩
  rw [zli,if_neg (by omega)] at hle
  have hle0:(H.set id (mpV s)).Le H':=((lRq _).push _).trans hle
  have hg0:H'.get H.nx=some (.cells [.func (.func F) fst caps]):=hle.get _ _ (AHeap.get_push_new _ _)
  have hid':H'.get id=some (mpV s):=by
   refine hle.get _ _ ?_
   rw [zlh,if_neg (by rw [zlf];omega),aG,if_pos rfl,if_pos hl2]
  rw [← ha]
  obtain ⟨v,H1,⟨hv,hH⟩,hc⟩:=hL.2.1 rfl [av x,.ptr H.nx 0] H' (fun v H1=>v=.ret (.bool (!(st x s).1))∧H1=H'.set id (mpV (st x s).2)) ⟨x,id,s,st,g,F,fst,caps,⟨rfl,hg0,hid',hs,fun s' hs'=>⟨(hq x hx s' hs').1,fun H2 h3 h4=>(hq x hx s' hs').2 H2 ((jV hle0).trans h3) h4⟩⟩,rfl,rfl⟩
  subst hv hH
  exact hc
 ·rw [hR1]
  try simp only [aE,go_sem]
  have hc2:=@aB _ id (cy iV (ixS (fun x s=>(!(st x s).1,(st x s).2)) ts sn 0).2) hcl
  exact Z10
abbrev IF:=@eIx SHeader Tryz.prog aH 3
abbrev Ks:=@eAn SHeader Tryz.prog aH 3
abbrev zY:=@eEv SHeader Tryz.prog aH 3
abbrev Ja:=@eCl SHeader Tryz.prog aH
theorem FJ:EntOk Tryz.prog 319 (Ent.effect IF):=rk fun av sz ha hs m ts id sn st g F fst caps H hl hid hg hq=>by
 have hag:∀ x,∃ cs,av x=.agg cs∧cs.length=sz:=by subst ha hs;exact fun x=>⟨_,rfl,rfl⟩
 refine ACalls.fW ap (tCq (jk (F:=F)) tNq) Tryz.func319 [.tmp 4] (nrq _) (T:=aj []) (h:=fun hcl hlt=>?_)
 generalize hR:ixS st ts sn 0=R
 have hnx:id<H.nx:=glq hid
 have hss:=dr hid
 have hm:AV.lt H.nx (.slice m sz (ts.map av)):=hlt _ (by simp)
 have hf:AV.lt H.nx (.func (.func F) fst caps):=hlt _ (by simp)
 clear hlt
 simp only [go_sem,ybb]
 refine aD (A:=Nat × List VN) (fun a=>[(0,.slice m sz (ts.map av)),(1,.func (.func F) fst caps),(7,.int .i64 (ts.length:Int)),(8,.int .i64 (a.1:Int))]) (fun a=>H.set id (mpV a.2)) (fun a=>a.1≤ts.length∧g a.2∧ixS st (ts.drop a.1) a.2 a.1=R) (fun a=>ts.length - a.1) (0,sn) ⟨by dsimp only;omega,hg,hR⟩ ?_ fun a hk=>?_
 ·dsimp only
  rw [hss]
  exact ⟨nrq _,lRq _,hcl,by simp [ltF,znf,hm,hf],by simp [bk,wk2,wk1,wkM,Fr.get]⟩
 clear hR
 obtain ⟨k,s⟩:=a
 obtain ⟨hk,hgs,hR⟩:=hk
 dsimp only at hk hgs hR ⊢
 have hcc:(H.set id (mpV s)).Closed:=aB hcl
 simp only [go_sem]
 refine ak (fun hc=>?_) (fun hc=>?_)
 ·have hk':k<ts.length:=by simp at hc;omega
  obtain ⟨x,hx⟩:∃ x,x=ts[k]:=⟨_,rfl⟩
  have hd:ts.drop k=x::ts.drop (k+1):=by rw [hx];exact dcq hk'
  have hg':=a0 (f:=av) (l:=ts) (k:=k) (x:=x) (by rw [gQq hk',hx])
  have e5:=Yk5 k
  rw [hd] at hR
  unfold ixS at hR
  obtain ⟨hg2,hqx⟩:=hq x (by rw [hx];exact gMq hk') s hgs
  have hqx:=hqx _ (lRq _) hcc
  have hc2:(H.set id (mpV (st x s).2)).Closed:=aB hcl
  obtain ⟨cs,hcs,hcl3⟩:=hag x
  have hts:List.take sz cs=cs:=ybc (by omega)
  rw [hcs] at hqx hg'
  clear ha hag
  subst hs
  simp only [go_sem,iNq,ybb,hg',hcl3,hts,sA]
  (repeat with_reducible refine Yq ?_)
  refine ⟨_,_,?_,hqx⟩
  try simp only [aE,go_sem]
  refine ak (fun hq=>?_) (fun hq=>?_)
  ·rw [if_pos hq] at hR
   subst hR
   simp only [go_sem]
   exact Z7
  ·rw [if_neg (by rw [hq];decide)] at hR
   simp only [go_sem,e5]
   exact ⟨(k+1,(st x s).2),⟨by dsimp only;omega,hg2,hR⟩,by dsimp only;omega,nrq _,lRq _,hc2,by simp [ltF,znf,hm,hf,zlf],by simp [bk,wk2,wk1,wkM,Fr.get]⟩
 ·have hk':k=ts.length:=by simp at hc;omega
  subst hk'
  rw [List.drop_length] at hR
  unfold ixS at hR
  subst hR
  simp only [go_sem]
  exact Z8
theorem Et:EntOk Tryz.prog 235 (Ent.effect Ks):=sN fun av sz ha hs m ts id sn st g F fst caps H hl hid hg hq=>by
 refine ACalls.fW ap (tCq FJ tNq) Tryz.func235 [.tmp 4] (nrq _) (T:=aj []) (h:=fun hcl hlt=>?_)
 have hcc:(H.set id (mpV (ixS st ts sn 0).2)).Closed:=aB hcl
 clear hlt
 subst hs
 simp only [go_sem]
 refine ⟨ts,id,sn,st,g,⟨by rw [ha];rfl,hl,hid,hg,by rw [← ha];exact hq⟩,?_⟩
 generalize ixS st ts sn 0=R at *
 try simp only [aE,go_sem]
 exact Z9
theorem DO:EntOk Tryz.prog 236 (Ent.effect Ja):=rY fun av ha x c id sn st g F fst caps H hg hid hgs hq=>by
 have hag:∀ x,∃ cs,av x=.agg cs∧cs.length=3:=by subst ha;exact fun x=>⟨_,rfl,rfl⟩
 refine ACalls.fW ap (tCq (jk (F:=F)) tNq) Tryz.func236 [.tmp 3] (nrq _) (T:=aj []) (h:=fun hcl hlt=>?_)
 have hcs:=ag hg
 have hl:=glq hg
 have hl2:=glq hid
 have hne:(c=H.nx)=False:=eq_false (by omega)
 have hne2:(id=H.nx)=False:=eq_false (by omega)
 have hss:=dr hid
 obtain ⟨hg2,hqx⟩:=hq sn hgs
 obtain ⟨cs,hav,hcl3⟩:=hag x
 have hts:=ybc (Nat.le_of_eq hcl3)
 rw [hav] at hqx hlt ⊢
 have hlx:=hlt _ (List.mem_cons_self)
 clear hlt
 have h0:=AV.lt_mono (Nat.le_succ H.nx) _ hlx
 rw [znr] at h0
 have hcp:(H.push (.cells cs)).Closed:=af hcl h0
 have hc2:(H.set id (mpV (st x sn).2)).Closed:=aB hcl
 have hq1:=hqx (H.push (.cells cs)) (by rw [hss];exact (lRq _).push _) hcp
 rw [zli,if_neg (by omega)] at hq1
 simp only [go_sem,hcs,hne,hg,hcl3,hts,sA]
 refine ⟨_,_,?_,hq1⟩
 try simp only [aE,go_sem]
 exact Z7
theorem CR:EntOk Tryz.prog 78 (Ent.effect zY):=qS fun av sz ha hs m ts id sn st g F fst caps H hl hid hg hq=>by
 have hL:EntOk Tryz.prog 236 (Ent.effect (eCl Tryz.prog av)):=by rw [ha];exact DO
 rw [← congrArg Prod.snd (@iI _ _ st ts sn 0)]
 refine ACalls.fW ap (tCq Et tNq) Tryz.func78 [.tmp 4] (nrq _) (T:=aj []) (h:=fun hcl hlt=>?_)
 have hR1:=congrArg Prod.fst (@iI _ _ st ts sn 0)
 dsimp only at hR1 ⊢
 generalize hX:evS st ts sn=X at *
 have hl2:=glq hid
 have hne2:(id=H.nx)=False:=eq_false (by omega)
 have hfx:=hlt _ (List.mem_cons_of_mem _ List.mem_cons_self)
 clear hlt
 have hcp:(H.push (.cells [.func (.func F) fst caps])).Closed:=af hcl (by simp only [znu,znv,and_true];exact AV.lt_mono (Nat.le_succ H.nx) _ hfx)
 subst hs
 simp only [go_sem]
 refine ⟨ts,id,sn,fun x s=>(!(st x s).1,(st x s).2),g,⟨by rw [ha];rfl,hl,?_,hg,fun x hx s hs=>?_⟩,?_⟩
 ·rw [if_neg (by omega)];exact hid
 ·obtain ⟨h1,h2⟩:=hq x hx s hs
  refine ⟨h1,fun H' hle hcl'=>?_⟩
  rw [zli,if_neg (by omega)] at hle
  have hle0:(H.set id (mpV s)).Le H':=((lRq _).push _).trans hle
  have hg0:H'.get H.nx=some (.cells [.func (.func F) fst caps]):=hle.get _ _ (AHeap.get_push_new _ _)
  have hid':H'.get id=some (mpV s):=by
   refine hle.get _ _ ?_
   rw [zlh,if_neg (by rw [zlf];omega),aG,if_pos rfl,if_pos hl2]
  rw [← ha]
  obtain ⟨v,H1,⟨hv,hH⟩,hc⟩:=hL.2.1 rfl [av x,.ptr H.nx 0] H' (fun v H1=>v=.ret (.bool (!(st x s).1))∧H1=H'.set id (mpV (st x s).2)) ⟨x,id,s,st,g,F,fst,caps,⟨rfl,hg0,hid',hs,fun s' hs'=>⟨(hq x hx s' hs').1,fun H2 h3 h4=>(hq x hx s' hs').2 H2 ((jV hle0).trans h3) h4⟩⟩,rfl,rfl⟩
  subst hv hH
  exact hc
 ·rw [hR1]
  try simp only [aE,go_sem]
  have hc2:=@aB _ id (cy iV (ixS (fun x s=>(!(st x s).1,(st x s).2)) ts sn 0).2) hcl
  exact Z10
abbrev IR:=@eIx SAction Tryz.prog aA 5
abbrev J7:=@eAn SAction Tryz.prog aA 5
abbrev zl:=@eEv SAction Tryz.prog aA 5
abbrev I6:=@eCl SAction Tryz.prog aA
theorem Cx:EntOk Tryz.prog 277 (Ent.effect IR):=rk fun av sz ha hs m ts id sn st g F fst caps H hl hid hg hq=>by
 have hag:∀ x,∃ cs,av x=.agg cs∧cs.length=sz:=by subst ha hs;exact fun x=>⟨_,rfl,rfl⟩
 refine ACalls.fW ap (tCq (jk (F:=F)) tNq) Tryz.func277 [.tmp 4] (nrq _) (T:=aj []) (h:=fun hcl hlt=>?_)
 generalize hR:ixS st ts sn 0=R
 have hnx:id<H.nx:=glq hid
 have hss:=dr hid
 have hm:AV.lt H.nx (.slice m sz (ts.map av)):=hlt _ (by simp)
 have hf:AV.lt H.nx (.func (.func F) fst caps):=hlt _ (by simp)
 clear hlt
 simp only [go_sem,ybb]
 refine aD (A:=Nat × List VN) (fun a=>[(0,.slice m sz (ts.map av)),(1,.func (.func F) fst caps),(7,.int .i64 (ts.length:Int)),(8,.int .i64 (a.1:Int))]) (fun a=>H.set id (mpV a.2)) (fun a=>a.1≤ts.length∧g a.2∧ixS st (ts.drop a.1) a.2 a.1=R) (fun a=>ts.length - a.1) (0,sn) ⟨by dsimp only;omega,hg,hR⟩ ?_ fun a hk=>?_
 ·dsimp only
  rw [hss]
  exact ⟨nrq _,lRq _,hcl,by simp [ltF,znf,hm,hf],by simp [bk,wk2,wk1,wkM,Fr.get]⟩
 clear hR
 obtain ⟨k,s⟩:=a
 obtain ⟨hk,hgs,hR⟩:=hk
 dsimp only at hk hgs hR ⊢
 have hcc:(H.set id (mpV s)).Closed:=aB hcl
 simp only [go_sem]
 refine ak (fun hc=>?_) (fun hc=>?_)
 ·have hk':k<ts.length:=by simp at hc;omega
  obtain ⟨x,hx⟩:∃ x,x=ts[k]:=⟨_,rfl⟩
  have hd:ts.drop k=x::ts.drop (k+1):=by rw [hx];exact dcq hk'
  have hg':=a0 (f:=av) (l:=ts) (k:=k) (x:=x) (by rw [gQq hk',hx])
  have e5:=Yk5 k
  rw [hd] at hR
  unfold ixS at hR
  obtain ⟨hg2,hqx⟩:=hq x (by rw [hx];exact gMq hk') s hgs
  have hqx:=hqx _ (lRq _) hcc
  have hc2:(H.set id (mpV (st x s).2)).Closed:=aB hcl
  obtain ⟨cs,hcs,hcl3⟩:=hag x
  have hts:List.take sz cs=cs:=ybc (by omega)
  rw [hcs] at hqx hg'
  clear ha hag
  subst hs
  simp only [go_sem,iNq,ybb,hg',hcl3,hts,sA]
  (repeat with_reducible refine Yq ?_)
  refine ⟨_,_,?_,hqx⟩
  try simp only [aE,go_sem]
  refine ak (fun hq=>?_) (fun hq=>?_)
  ·rw [if_pos hq] at hR
   subst hR
   simp only [go_sem]
   exact Z7
  ·rw [if_neg (by rw [hq];decide)] at hR
   simp only [go_sem,e5]
   exact ⟨(k+1,(st x s).2),⟨by dsimp only;omega,hg2,hR⟩,by dsimp only;omega,nrq _,lRq _,hc2,by simp [ltF,znf,hm,hf,zlf],by simp [bk,wk2,wk1,wkM,Fr.get]⟩
 ·have hk':k=ts.length:=by simp at hc;omega
  subst hk'
  rw [List.drop_length] at hR
  unfold ixS at hR
  subst hR
  simp only [go_sem]
  exact Z8
theorem Gg:EntOk Tryz.prog 237 (Ent.effect J7):=sN fun av sz ha hs m ts id sn st g F fst caps H hl hid hg hq=>by
 refine ACalls.fW ap (tCq Cx tNq) Tryz.func237 [.tmp 4] (nrq _) (T:=aj []) (h:=fun hcl hlt=>?_)
 have hcc:(H.set id (mpV (ixS st ts sn 0).2)).Closed:=aB hcl
 clear hlt
 subst hs
 simp only [go_sem]
 refine ⟨ts,id,sn,st,g,⟨by rw [ha];rfl,hl,hid,hg,by rw [← ha];exact hq⟩,?_⟩
 generalize ixS st ts sn 0=R at *
 try simp only [aE,go_sem]
 exact Z9
theorem Gv:EntOk Tryz.prog 238 (Ent.effect I6):=rY fun av ha x c id sn st g F fst caps H hg hid hgs hq=>by
 have hag:∀ x,∃ cs,av x=.agg cs∧cs.length=5:=by subst ha;exact fun x=>⟨_,rfl,rfl⟩
 refine ACalls.fW ap (tCq (jk (F:=F)) tNq) Tryz.func238 [.tmp 3] (nrq _) (T:=aj []) (h:=fun hcl hlt=>?_)
 have hcs:=ag hg
 have hl:=glq hg
 have hl2:=glq hid
 have hne:(c=H.nx)=False:=eq_false (by omega)
 have hne2:(id=H.nx)=False:=eq_false (by omega)
 have hss:=dr hid
 obtain ⟨hg2,hqx⟩:=hq sn hgs
 obtain ⟨cs,hav,hcl3⟩:=hag x
 have hts:=ybc (Nat.le_of_eq hcl3)
 rw [hav] at hqx hlt ⊢
 have hlx:=hlt _ (List.mem_cons_self)
 clear hlt
 have h0:=AV.lt_mono (Nat.le_succ H.nx) _ hlx
 rw [znr] at h0
 have hcp:(H.push (.cells cs)).Closed:=af hcl h0
 have hc2:(H.set id (mpV (st x sn).2)).Closed:=aB hcl
 have hq1:=hqx (H.push (.cells cs)) (by rw [hss];exact (lRq _).push _) hcp
 rw [zli,if_neg (by omega)] at hq1
 simp only [go_sem,hcs,hne,hg,hcl3,hts,sA]
 refine ⟨_,_,?_,hq1⟩
 try simp only [aE,go_sem]
 exact Z7
theorem HT:EntOk Tryz.prog 80 (Ent.effect zl):=qS fun av sz ha hs m ts id sn st g F fst caps H hl hid hg hq=>by
 have hL:EntOk Tryz.prog 238 (Ent.effect (eCl Tryz.prog av)):=by rw [ha];exact Gv
 rw [← congrArg Prod.snd (@iI _ _ st ts sn 0)]
 refine ACalls.fW ap (tCq Gg tNq) Tryz.func80 [.tmp 4] (nrq _) (T:=aj []) (h:=fun hcl hlt=>?_)
 have hR1:=congrArg Prod.fst (@iI _ _ st ts sn 0)
 dsimp only at hR1 ⊢
 generalize hX:evS st ts sn=X at *
 have hl2:=glq hid
 have hne2:(id=H.nx)=False:=eq_false (by omega)
 have hfx:=hlt _ (List.mem_cons_of_mem _ List.mem_cons_self)
 clear hlt
 have hcp:(H.push (.cells [.func (.func F) fst caps])).Closed:=af hcl (by simp only [znu,znv,and_true];exact AV.lt_mono (Nat.le_succ H.nx) _ hfx)
 subst hs
 simp only [go_sem]
 refine ⟨ts,id,sn,fun x s=>(!(st x s).1,(st x s).2),g,⟨by rw [ha];rfl,hl,?_,hg,fun x hx s hs=>?_⟩,?_⟩
 ·rw [if_neg (by omega)];exact hid
 ·obtain ⟨h1,h2⟩:=hq x hx s hs
  refine ⟨h1,fun H' hle hcl'=>?_⟩
  rw [zli,if_neg (by omega)] at hle
  have hle0:(H.set id (mpV s)).Le H':=((lRq _).push _).trans hle
  have hg0:H'.get H.nx=some (.cells [.func (.func F) fst caps]):=hle.get _ _ (AHeap.get_push_new _ _)
  have hid':H'.get id=some (mpV s):=by
   refine hle.get _ _ ?_
   rw [zlh,if_neg (by rw [zlf];omega),aG,if_pos rfl,if_pos hl2]
  rw [← ha]
  obtain ⟨v,H1,⟨hv,hH⟩,hc⟩:=hL.2.1 rfl [av x,.ptr H.nx 0] H' (fun v H1=>v=.ret (.bool (!(st x s).1))∧H1=H'.set id (mpV (st x s).2)) ⟨x,id,s,st,g,F,fst,caps,⟨rfl,hg0,hid',hs,fun s' hs'=>⟨(hq x hx s' hs').1,fun H2 h3 h4=>(hq x hx s' hs').2 H2 ((jV hle0).trans h3) h4⟩⟩,rfl,rfl⟩
  subst hv hH
  exact hc
 ·rw [hR1]
  try simp only [aE,go_sem]
  have hc2:=@aB _ id (cy iV (ixS (fun x s=>(!(st x s).1,(st x s).2)) ts sn 0).2) hcl
  exact Z10
abbrev Lm:=@eIx STable Tryz.prog aC 8
abbrev Jo:=@eAn STable Tryz.prog aC 8
abbrev zu:=@eEv STable Tryz.prog aC 8
abbrev KQ:=@eCl STable Tryz.prog aC
theorem CG:EntOk Tryz.prog 56 (Ent.effect Lm):=rk fun av sz ha hs m ts id sn st g F fst caps H hl hid hg hq=>by
 have hag:∀ x,∃ cs,av x=.agg cs∧cs.length=sz:=by subst ha hs;exact fun x=>⟨_,rfl,rfl⟩
 refine ACalls.fW ap (tCq (jk (F:=F)) tNq) Tryz.func56 [.tmp 4] (nrq _) (T:=aj []) (h:=fun hcl hlt=>?_)
 generalize hR:ixS st ts sn 0=R
 have hnx:id<H.nx:=glq hid
 have hss:=dr hid
 have hm:AV.lt H.nx (.slice m sz (ts.map av)):=hlt _ (by simp)
 have hf:AV.lt H.nx (.func (.func F) fst caps):=hlt _ (by simp)
 clear hlt
 simp only [go_sem,ybb]
 refine aD (A:=Nat × List VN) (fun a=>[(0,.slice m sz (ts.map av)),(1,.func (.func F) fst caps),(7,.int .i64 (ts.length:Int)),(8,.int .i64 (a.1:Int))]) (fun a=>H.set id (mpV a.2)) (fun a=>a.1≤ts.length∧g a.2∧ixS st (ts.drop a.1) a.2 a.1=R) (fun a=>ts.length - a.1) (0,sn) ⟨by dsimp only;omega,hg,hR⟩ ?_ fun a hk=>?_
 ·dsimp only
  rw [hss]
  exact ⟨nrq _,lRq _,hcl,by simp [ltF,znf,hm,hf],by simp [bk,wk2,wk1,wkM,Fr.get]⟩
 clear hR
 obtain ⟨k,s⟩:=a
 obtain ⟨hk,hgs,hR⟩:=hk
 dsimp only at hk hgs hR ⊢
 have hcc:(H.set id (mpV s)).Closed:=aB hcl
 simp only [go_sem]
 refine ak (fun hc=>?_) (fun hc=>?_)
 ·have hk':k<ts.length:=by simp at hc;omega
  obtain ⟨x,hx⟩:∃ x,x=ts[k]:=⟨_,rfl⟩
  have hd:ts.drop k=x::ts.drop (k+1):=by rw [hx];exact dcq hk'
  have hg':=a0 (f:=av) (l:=ts) (k:=k) (x:=x) (by rw [gQq hk',hx])
  have e5:=Yk5 k
  rw [hd] at hR
  unfold ixS at hR
  obtain ⟨hg2,hqx⟩:=hq x (by rw [hx];exact gMq hk') s hgs
  have hqx:=hqx _ (lRq _) hcc
  have hc2:(H.set id (mpV (st x s).2)).Closed:=aB hcl
  obtain ⟨cs,hcs,hcl3⟩:=hag x
  have hts:List.take sz cs=cs:=ybc (by omega)
  rw [hcs] at hqx hg'
  clear ha hag
  subst hs
  simp only [go_sem,iNq,ybb,hg',hcl3,hts,sA]
  (repeat with_reducible refine Yq ?_)
  refine ⟨_,_,?_,hqx⟩
  try simp only [aE,go_sem]
  refine ak (fun hq=>?_) (fun hq=>?_)
  ·rw [if_pos hq] at hR
   subst hR
   simp only [go_sem]
   exact Z7
  ·rw [if_neg (by rw [hq];decide)] at hR
   simp only [go_sem,e5]
   exact ⟨(k+1,(st x s).2),⟨by dsimp only;omega,hg2,hR⟩,by dsimp only;omega,nrq _,lRq _,hc2,by simp [ltF,znf,hm,hf,zlf],by simp [bk,wk2,wk1,wkM,Fr.get]⟩
 ·have hk':k=ts.length:=by simp at hc;omega
  subst hk'
  rw [List.drop_length] at hR
  unfold ixS at hR
  subst hR
  simp only [go_sem]
  exact Z8
theorem Hd:EntOk Tryz.prog 241 (Ent.effect Jo):=sN fun av sz ha hs m ts id sn st g F fst caps H hl hid hg hq=>by
 refine ACalls.fW ap (tCq CG tNq) Tryz.func241 [.tmp 4] (nrq _) (T:=aj []) (h:=fun hcl hlt=>?_)
 have hcc:(H.set id (mpV (ixS st ts sn 0).2)).Closed:=aB hcl
 clear hlt
 subst hs
 simp only [go_sem]
 refine ⟨ts,id,sn,st,g,⟨by rw [ha];rfl,hl,hid,hg,by rw [← ha];exact hq⟩,?_⟩
 generalize ixS st ts sn 0=R at *
 try simp only [aE,go_sem]
 exact Z9
theorem Dd:EntOk Tryz.prog 242 (Ent.effect KQ):=rY fun av ha x c id sn st g F fst caps H hg hid hgs hq=>by
 have hag:∀ x,∃ cs,av x=.agg cs∧cs.length=8:=by subst ha;exact fun x=>⟨_,rfl,rfl⟩
 refine ACalls.fW ap (tCq (jk (F:=F)) tNq) Tryz.func242 [.tmp 3] (nrq _) (T:=aj []) (h:=fun hcl hlt=>?_)
 have hcs:=ag hg
 have hl:=glq hg
 have hl2:=glq hid
 have hne:(c=H.nx)=False:=eq_false (by omega)
 have hne2:(id=H.nx)=False:=eq_false (by omega)
 have hss:=dr hid
 obtain ⟨hg2,hqx⟩:=hq sn hgs
 obtain ⟨cs,hav,hcl3⟩:=hag x
 have hts:=ybc (Nat.le_of_eq hcl3)
 rw [hav] at hqx hlt ⊢
 have hlx:=hlt _ (List.mem_cons_self)
 clear hlt
 have h0:=AV.lt_mono (Nat.le_succ H.nx) _ hlx
 rw [znr] at h0
 have hcp:(H.push (.cells cs)).Closed:=af hcl h0
 have hc2:(H.set id (mpV (st x sn).2)).Closed:=aB hcl
 have hq1:=hqx (H.push (.cells cs)) (by rw [hss];exact (lRq _).push _) hcp
 rw [zli,if_neg (by omega)] at hq1
 simp only [go_sem,hcs,hne,hg,hcl3,hts,sA]
 refine ⟨_,_,?_,hq1⟩
 try simp only [aE,go_sem]
 exact Z7
theorem Di:EntOk Tryz.prog 85 (Ent.effect zu):=qS fun av sz ha hs m ts id sn st g F fst caps H hl hid hg hq=>by
 have hL:EntOk Tryz.prog 242 (Ent.effect (eCl Tryz.prog av)):=by rw [ha];exact Dd
 rw [← congrArg Prod.snd (@iI _ _ st ts sn 0)]
 refine ACalls.fW ap (tCq Hd tNq) Tryz.func85 [.tmp 4] (nrq _) (T:=aj []) (h:=fun hcl hlt=>?_)
 have hR1:=congrArg Prod.fst (@iI _ _ st ts sn 0)
 dsimp only at hR1 ⊢
 generalize hX:evS st ts sn=X at *
 have hl2:=glq hid
 have hne2:(id=H.nx)=False:=eq_false (by omega)
 have hfx:=hlt _ (List.mem_cons_of_mem _ List.mem_cons_self)
 clear hlt
 have hcp:(H.push (.cells [.func (.func F) fst caps])).Closed:=af hcl (by simp only [znu,znv,and_true];exact AV.lt_mono (Nat.le_succ H.nx) _ hfx)
 subst hs
 simp only [go_sem]
 refine ⟨ts,id,sn,fun x s=>(!(st x s).1,(st x s).2),g,⟨by rw [ha];rfl,hl,?_,hg,fun x hx s hs=>?_⟩,?_⟩
 ·rw [if_neg (by omega)];exact hid
 ·obtain ⟨h1,h2⟩:=hq x hx s hs
  refine ⟨h1,fun H' hle hcl'=>?_⟩
  rw [zli,if_neg (by omega)] at hle
  have hle0:(H.set id (mpV s)).Le H':=((lRq _).push _).trans hle
  have hg0:H'.get H.nx=some (.cells [.func (.func F) fst caps]):=hle.get _ _ (AHeap.get_push_new _ _)
  have hid':H'.get id=some (mpV s):=by
   refine hle.get _ _ ?_
   rw [zlh,if_neg (by rw [zlf];omega),aG,if_pos rfl,if_pos hl2]
  rw [← ha]
  obtain ⟨v,H1,⟨hv,hH⟩,hc⟩:=hL.2.1 rfl [av x,.ptr H.nx 0] H' (fun v H1=>v=.ret (.bool (!(st x s).1))∧H1=H'.set id (mpV (st x s).2)) ⟨x,id,s,st,g,F,fst,caps,⟨rfl,hg0,hid',hs,fun s' hs'=>⟨(hq x hx s' hs').1,fun H2 h3 h4=>(hq x hx s' hs').2 H2 ((jV hle0).trans h3) h4⟩⟩,rfl,rfl⟩
  subst hv hH
  exact hc
 ·rw [hR1]
  try simp only [aE,go_sem]
  have hc2:=@aB _ id (cy iV (ixS (fun x s=>(!(st x s).1,(st x s).2)) ts sn 0).2) hcl
  exact Z10
abbrev J4:=@eIx SRole Tryz.prog bc 6
abbrev IE:=@eAn SRole Tryz.prog bc 6
abbrev zS:=@eEv SRole Tryz.prog bc 6
abbrev Ig:=@eCl SRole Tryz.prog bc
theorem HF:EntOk Tryz.prog 322 (Ent.effect J4):=rk fun av sz ha hs m ts id sn st g F fst caps H hl hid hg hq=>by
 have hag:∀ x,∃ cs,av x=.agg cs∧cs.length=sz:=by subst ha hs;exact fun x=>⟨_,rfl,rfl⟩
 refine ACalls.fW ap (tCq (jk (F:=F)) tNq) Tryz.func322 [.tmp 4] (nrq _) (T:=aj []) (h:=fun hcl hlt=>?_)
 generalize hR:ixS st ts sn 0=R
 have hnx:id<H.nx:=glq hid
 have hss:=dr hid
 have hm:AV.lt H.nx (.slice m sz (ts.map av)):=hlt _ (by simp)
 have hf:AV.lt H.nx (.func (.func F) fst caps):=hlt _ (by simp)
 clear hlt
 simp only [go_sem,ybb]
 refine aD (A:=Nat × List VN) (fun a=>[(0,.slice m sz (ts.map av)),(1,.func (.func F) fst caps),(7,.int .i64 (ts.length:Int)),(8,.int .i64 (a.1:Int))]) (fun a=>H.set id (mpV a.2)) (fun a=>a.1≤ts.length∧g a.2∧ixS st (ts.drop a.1) a.2 a.1=R) (fun a=>ts.length - a.1) (0,sn) ⟨by dsimp only;omega,hg,hR⟩ ?_ fun a hk=>?_
 ·dsimp only
  rw [hss]
  exact ⟨nrq _,lRq _,hcl,by simp [ltF,znf,hm,hf],by simp [bk,wk2,wk1,wkM,Fr.get]⟩
 clear hR
 obtain ⟨k,s⟩:=a
 obtain ⟨hk,hgs,hR⟩:=hk
 dsimp only at hk hgs hR ⊢
 have hcc:(H.set id (mpV s)).Closed:=aB hcl
 simp only [go_sem]
 refine ak (fun hc=>?_) (fun hc=>?_)
 ·have hk':k<ts.length:=by simp at hc;omega
  obtain ⟨x,hx⟩:∃ x,x=ts[k]:=⟨_,rfl⟩
  have hd:ts.drop k=x::ts.drop (k+1):=by rw [hx];exact dcq hk'
  have hg':=a0 (f:=av) (l:=ts) (k:=k) (x:=x) (by rw [gQq hk',hx])
  have e5:=Yk5 k
  rw [hd] at hR
  unfold ixS at hR
  obtain ⟨hg2,hqx⟩:=hq x (by rw [hx];exact gMq hk') s hgs
  have hqx:=hqx _ (lRq _) hcc
  have hc2:(H.set id (mpV (st x s).2)).Closed:=aB hcl
  obtain ⟨cs,hcs,hcl3⟩:=hag x
  have hts:List.take sz cs=cs:=ybc (by omega)
  rw [hcs] at hqx hg'
  clear ha hag
  subst hs
  simp only [go_sem,iNq,ybb,hg',hcl3,hts,sA]
  (repeat with_reducible refine Yq ?_)
  refine ⟨_,_,?_,hqx⟩
  try simp only [aE,go_sem]
  refine ak (fun hq=>?_) (fun hq=>?_)
  ·rw [if_pos hq] at hR
   subst hR
   simp only [go_sem]
   exact Z7
  ·rw [if_neg (by rw [hq];decide)] at hR
   simp only [go_sem,e5]
   exact ⟨(k+1,(st x s).2),⟨by dsimp only;omega,hg2,hR⟩,by dsimp only;omega,nrq _,lRq _,hc2,by simp [ltF,znf,hm,hf,zlf],by simp [bk,wk2,wk1,wkM,Fr.get]⟩
 ·have hk':k=ts.length:=by simp at hc;omega
  subst hk'
  rw [List.drop_length] at hR
  unfold ixS at hR
  subst hR
  simp only [go_sem]
  exact Z8
theorem Fa:EntOk Tryz.prog 245 (Ent.effect IE):=sN fun av sz ha hs m ts id sn st g F fst caps H hl hid hg hq=>by
 refine ACalls.fW ap (tCq HF tNq) Tryz.func245 [.tmp 4] (nrq _) (T:=aj []) (h:=fun hcl hlt=>?_)
 have hcc:(H.set id (mpV (ixS st ts sn 0).2)).Closed:=aB hcl
 clear hlt
 subst hs
 simp only [go_sem]
 refine ⟨ts,id,sn,st,g,⟨by rw [ha];rfl,hl,hid,hg,by rw [← ha];exact hq⟩,?_⟩
 generalize ixS st ts sn 0=R at *
 try simp only [aE,go_sem]
 exact Z9
theorem Eq:EntOk Tryz.prog 246 (Ent.effect Ig):=rY fun av ha x c id sn st g F fst caps H hg hid hgs hq=>by
 have hag:∀ x,∃ cs,av x=.agg cs∧cs.length=6:=by subst ha;exact fun x=>⟨_,rfl,rfl⟩
 refine ACalls.fW ap (tCq (jk (F:=F)) tNq) Tryz.func246 [.tmp 3] (nrq _) (T:=aj []) (h:=fun hcl hlt=>?_)
 have hcs:=ag hg
 have hl:=glq hg
 have hl2:=glq hid
 have hne:(c=H.nx)=False:=eq_false (by omega)
 have hne2:(id=H.nx)=False:=eq_false (by omega)
 have hss:=dr hid
 obtain ⟨hg2,hqx⟩:=hq sn hgs
 obtain ⟨cs,hav,hcl3⟩:=hag x
 have hts:=ybc (Nat.le_of_eq hcl3)
 rw [hav] at hqx hlt ⊢
 have hlx:=hlt _ (List.mem_cons_self)
 clear hlt
 have h0:=AV.lt_mono (Nat.le_succ H.nx) _ hlx
 rw [znr] at h0
 have hcp:(H.push (.cells cs)).Closed:=af hcl h0
 have hc2:(H.set id (mpV (st x sn).2)).Closed:=aB hcl
 have hq1:=hqx (H.push (.cells cs)) (by rw [hss];exact (lRq _).push _) hcp
 rw [zli,if_neg (by omega)] at hq1
 simp only [go_sem,hcs,hne,hg,hcl3,hts,sA]
 refine ⟨_,_,?_,hq1⟩
 try simp only [aE,go_sem]
 exact Z7
theorem FH:EntOk Tryz.prog 89 (Ent.effect zS):=qS fun av sz ha hs m ts id sn st g F fst caps H hl hid hg hq=>by
 have hL:EntOk Tryz.prog 246 (Ent.effect (eCl Tryz.prog av)):=by rw [ha];exact Eq
 rw [← congrArg Prod.snd (@iI _ _ st ts sn 0)]
 refine ACalls.fW ap (tCq Fa tNq) Tryz.func89 [.tmp 4] (nrq _) (T:=aj []) (h:=fun hcl hlt=>?_)
 have hR1:=congrArg Prod.fst (@iI _ _ st ts sn 0)
 dsimp only at hR1 ⊢
 generalize hX:evS st ts sn=X at *
 have hl2:=glq hid
 have hne2:(id=H.nx)=False:=eq_false (by omega)
 have hfx:=hlt _ (List.mem_cons_of_mem _ List.mem_cons_self)
 clear hlt
 have hcp:(H.push (.cells [.func (.func F) fst caps])).Closed:=af hcl (by simp only [znu,znv,and_true];exact AV.lt_mono (Nat.le_succ H.nx) _ hfx)
 subst hs
 simp only [go_sem]
 refine ⟨ts,id,sn,fun x s=>(!(st x s).1,(st x s).2),g,⟨by rw [ha];rfl,hl,?_,hg,fun x hx s hs=>?_⟩,?_⟩
 ·rw [if_neg (by omega)];exact hid
 ·obtain ⟨h1,h2⟩:=hq x hx s hs
  refine ⟨h1,fun H' hle hcl'=>?_⟩
  rw [zli,if_neg (by omega)] at hle
  have hle0:(H.set id (mpV s)).Le H':=((lRq _).push _).trans hle
  have hg0:H'.get H.nx=some (.cells [.func (.func F) fst caps]):=hle.get _ _ (AHeap.get_push_new _ _)
  have hid':H'.get id=some (mpV s):=by
   refine hle.get _ _ ?_
   rw [zlh,if_neg (by rw [zlf];omega),aG,if_pos rfl,if_pos hl2]
  rw [← ha]
  obtain ⟨v,H1,⟨hv,hH⟩,hc⟩:=hL.2.1 rfl [av x,.ptr H.nx 0] H' (fun v H1=>v=.ret (.bool (!(st x s).1))∧H1=H'.set id (mpV (st x s).2)) ⟨x,id,s,st,g,F,fst,caps,⟨rfl,hg0,hid',hs,fun s' hs'=>⟨(hq x hx s' hs').1,fun H2 h3 h4=>(hq x hx s' hs').2 H2 ((jV hle0).trans h3) h4⟩⟩,rfl,rfl⟩
  subst hv hH
  exact hc
 ·rw [hR1]
  try simp only [aE,go_sem]
  have hc2:=@aB _ id (cy iV (ixS (fun x s=>(!(st x s).1,(st x s).2)) ts sn 0).2) hcl
  exact Z10
end Go.AL
