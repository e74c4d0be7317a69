/- Lemmas of the proof; no condition. -/
import Derived.Test.YthnlhjalhflgfaaGreatE04d
import Derived.Test.YthnlhjalhflgfaaGreatAlMap
set_option linter.all false
set_option maxRecDepth 10000
set_option maxHeartbeats 32000000
open List renaming map_cons → yae, length_cons → yaz, length_nil → yba, length_map → ybb, take_of_length_le → ybc, drop_append → ybd, take_append → ybe, drop_eq_nil_of_le → ybf
open Go Go.AL Go.Proofs
namespace Go.AL
theorem Ff:ti Tryz.prog 225=some ⟨.map 3 4,1,8,.nilm⟩:=by kernel_rfl
theorem E1:ti Tryz.prog 345=some ⟨.map 9 4,1,8,.nilm⟩:=by kernel_rfl
theorem Gg:ti Tryz.prog 3=some ⟨.int .i64,1,8,.int .i64 0⟩:=by kernel_rfl
theorem xy:ti Tryz.prog 9=some ⟨.string,1,16,.str []⟩:=by kernel_rfl
attribute [go_sem] Ff E1 Gg xy
def dsF {α:Type} [BEq α]:List α→List α→Bool
 |_,[]=>true
 |s,x::l=>!s.contains x&&dsF (x::s) l
def b5 {α:Type} (key:α→AV) (l:List α):List (AV × AV):=l.map fun v=>(key v,.bool true)
def i64 (n:Int):Prop := -9223372036854775808≤n∧n≤9223372036854775807
def CA (s:List UInt8):Prop:=s.length≤140737488355328
theorem eO {α:Type} {P:Program} {t:TypeId} {key:α→AV} {l:List α} {g:α→Prop} (hg:∀ v,g v→eH P t (key v)) (h:∀ v∈l,g v):∀ p∈b5 key l,eH P t p.1:=by
 intro p hp
 obtain ⟨v,hv,rfl⟩:=List.mem_map.1 hp
 exact hg v (h v hv)
theorem gm (l:List Int) (x:Int):fG (b5 (AV.int .i64) l) (.int .i64 x)=if l.contains x then some (.bool true) else none:=by
 induction l with
 |nil=>rfl
 |cons v l ih =>
  unfold b5 at ih ⊢
  rw [yae,fG,ih,List.contains_cons]
  by_cases h:v=x
  ·subst h;simp [feq,lS]
  ·have h':(x==v)=false:=by simp;exact fun e=>h e.symm
   rw [h',Bool.false_or]
   simp [feq,lS,h]
theorem re (l:List (List UInt8)) (x:List UInt8):fG (b5 AV.str l) (.str x)=if l.contains x then some (.bool true) else none:=by
 induction l with
 |nil=>rfl
 |cons v l ih =>
  unfold b5 at ih ⊢
  rw [yae,fG,ih,List.contains_cons]
  by_cases h:v=x
  ·subst h;simp [feq,lS]
  ·have h':(x==v)=false:=by simp;exact fun e=>h e.symm
   rw [h',Bool.false_or]
   simp [feq,lS,h]
theorem yl:(Tryz.prog).underlying 3=some (.int .i64):=by kernel_rfl
theorem xB:(Tryz.prog).underlying 9=some .string:=by kernel_rfl
theorem cC:Maps.Keyed Tryz.prog 3:=Maps.int_keyed yl
theorem nE:Maps.Keyed Tryz.prog 9:=Maps.string_keyed xB
theorem bC (n:Int) (h:i64 n):eH Tryz.prog 3 (.int .i64 n):=by
 have h1:=h.1
 have h2:=h.2
 refine ⟨.int .i64 n,?_⟩
 show keyOf _ _ (Value.int .i64 n)=_
 unfold keyOf mapKey
 simp only [yl]
 rw [if_pos]
 refine ⟨trivial,?_⟩
 simp [Lit.wf]
 exact ⟨h1,h2⟩
theorem iz (s:List UInt8) (h:CA s):eH Tryz.prog 9 (.str s):=by
 refine ⟨.string s,?_⟩
 show keyOf _ _ (Value.string ⟨s.toArray⟩)=_
 unfold keyOf mapKey
 simp only [xB]
 have hm:(140737488355328:Nat)≤maxLen:=by decide
 have h1:s.length≤140737488355328:=h
 rw [if_pos (by simp only [ByteArray.size,List.size_toArray];omega)]
def cS:List AV→AHeap→(AV→Prop)→Prop
 |[.slice _ 3 l,.func (.func F) fst caps],H,K=>∃ (ts:List SField) (f:SField→Int),(l=ts.map aV∧ts.length≤1000000∧∀ x∈ts,i64 (f x)∧∀ H',H.Le H'→H'.Closed→ACalls Tryz.prog F (fst++[aV x]++caps) H' (.ret ((AV.int .i64) (f x))) H')∧K (.bool (dsF [] (ts.map f)))
 |_,_,_=>False
theorem Ep:EntOk Tryz.prog 102 (Ent.pure cS):=by
 refine Ype fun _ H K h=>?_
 unfold cS at h
 split at h
 rotate_left
 ·exact h.elim
 rename_i m l F fst caps
 obtain ⟨ts,f,⟨rfl,hl,hq⟩,hK⟩:=h
 refine ⟨_,hK,?_⟩
 clear hK
 generalize hR:dsF [] (ts.map f)=R
 refine ACalls.fW ak (tCq (cg (F:=F)) tNq) Tryz.func102 [.tmp 4] (nrq _) (T:=aj []) (h:=fun hcl hlt=>?_)
 have hm:∀ n',H.nx≤n'→AV.lt n' (.slice m 3 (ts.map aV)):=fun n' hn=>AV.lt_mono hn _ (hlt (.slice m 3 (ts.map aV)) (by simp))
 have hf:∀ n',H.nx≤n'→AV.lt n' (.func (.func F) fst caps):=fun n' hn=>AV.lt_mono hn _ (hlt (.func (.func F) fst caps) (by simp))
 clear hlt
 simp only [go_sem,ziw,ybb]
 refine ay (A:=Nat × List (Int) × AHeap) (fun a=>[(1,.func (.func F) fst caps),(5,.mapv H.nx),(10,.slice m 3 (ts.map aV)),(11,.int .i64 (ts.length:Int)),(12,.int .i64 (a.1:Int))]) (fun a=>a.2.2)
  (fun a=>a.1≤ts.length∧dsF a.2.1 ((ts.drop a.1).map f)=R∧(∀ v∈a.2.1,i64 v)∧H.Le a.2.2∧a.2.2.Closed∧a.2.2.get H.nx=some (.mapo (b5 (AV.int .i64) a.2.1))) (fun a=>ts.length - a.1) (0,[],H.push (.mapo [])) ⟨Nat.zero_le _,hR,(fun v hv=>by cases hv),(lRq _).push _,bU hcl,AHeap.get_push_new _ _⟩ ?_ fun a ha=>?_
 ·(simp only [bkq,enterW,ba,ltF,ne_eq,Nat.reduceEqDiff,reduceCtorEq,hm,hf];try simp (disch:=first|exact Zd|omega) [↓zmo,beq,ybc,ybd,ybe,aa,wk,wk2,wk1,wkM,wkL,af,ybf,byq,biq,b9,hcl,hm,hf];try (repeat' (first|assumption|omega|exact True.intro|refine And.intro ?_ ?_|refine bc ?_|refine a0 ?_|refine ae ?_ ?_|refine bb ?_ ?_|refine bO ?_|exact lRq _|refine lPq ?_ _|refine AHeap.Le.del ?_ ?_|(simp only [bt,and_true,true_and,hm,hf];first|done|omega|(simp;done)))))
  exact bU hcl
 obtain ⟨k,sn,Hc⟩:=a
 clear hR
 obtain ⟨hk,hR,hsn,hle,hcc,hid⟩:=ha
 dsimp only at hk hR hsn hle hcc hid ⊢
 have hnx:H.nx<Hc.nx:=glq hid
 have hne:(H.nx=Hc.nx)=False:=eq_false (by omega)
 have hne2:(Hc.nx=H.nx)=False:=eq_false (by omega)
 simp only [go_sem]
 refine ah (fun hc=>?_) (fun hc=>?_)
 ·have hk':k<ts.length:=by simp at hc;omega
  obtain ⟨x,hx⟩:∃ x,x=ts[k]:=⟨_,rfl⟩
  have hd:ts.drop k=x::ts.drop (k+1):=by rw [hx];exact dcq hk'
  have hg':=aW (f:=aV) (l:=ts) (k:=k) (x:=x) (by rw [gQq hk',hx])
  have e5:=Yk5 k
  rw [hd,yae] at hR
  unfold dsF at hR
  obtain ⟨hgx,hqx⟩:=hq x (by rw [hx];exact gMq hk')
  have hcs:aV x=.agg [.int .i64 x.id,.str x.name,.int .i64 x.bits]:=rfl
  have hel:AV.lt (Hc.nx+1) (aV x):=by
   have h1:=hm (Hc.nx+1) (by have:=hle.nx;omega)
   rw [AV.lt] at h1
   have h2:=h1.2 k (by rw [ybb];exact hk')
   rw [List.getElem_map] at h2
   rwa [← hx] at h2
  rw [hcs] at hqx hel hg'
  rw [znr] at hel
  have hcp:(Hc.push (.cells [.int .i64 x.id,.str x.name,.int .i64 x.bits])).Closed:=ae hcc hel
  have hlp:H.Le (Hc.push (.cells [.int .i64 x.id,.str x.name,.int .i64 x.bits])):=hle.push _
  have hgp:(Hc.push (.cells [.int .i64 x.id,.str x.name,.int .i64 x.bits])).get H.nx=some (.mapo (b5 (AV.int .i64) sn)):=by rw [zlh,if_neg (by omega)];exact hid
  simp only [go_sem,iNq,ybb,hg',hne2,eX]
  (repeat with_reducible refine Yq ?_)
  refine ⟨_,?_,hqx _ hlp hcp⟩
  have hmg:=gm sn (f x)
  have hmu:=@au _ H.nx (((AV.int .i64) (f x),.bool true)::b5 (AV.int .i64) sn) hcc
  have hsn':=eO bC hsn
  cases hb:sn.contains (f x) with
  |true =>
   rw [hb,if_pos rfl] at hmg
   rw [hb,Bool.not_true,Bool.false_and] at hR
   subst hR
   simp only [ag,go_sem,zix,hne,hid,hmg]
   refine ⟨⟨cC,hsn',bC _ hgx,rfl⟩,?_⟩
   try simp only [go_sem,hmg]
   exact Z4
  |false =>
   rw [hb,if_neg Bool.false_ne_true] at hmg
   rw [hb,Bool.not_false,Bool.true_and] at hR
   simp only [ag,go_sem,zix,ziy,hne,hid,hmg,e5]
   refine ⟨⟨cC,hsn',bC _ hgx,rfl⟩,?_⟩
   try simp only [go_sem,hmg,hid,hne,ziy,e5]
   refine ⟨⟨cC,hsn',bC _ hgx,rfl,rfl⟩,(k+1,f x::sn,Hc.set H.nx (.mapo (b5 (AV.int .i64) (f x::sn)))),⟨by dsimp only;omega,hR,?_,df hle (nrq _),au hcc,?_⟩,by dsimp only;omega,?_⟩
   ·intro v hv
    rcases List.mem_cons.1 hv with rfl|hv
    ·exact hgx
    ·exact hsn v hv
   ·dsimp only
    rw [aG,if_pos rfl,if_pos (glq hid)]
   ·have hmu':(Hc.set H.nx (.mapo (b5 (AV.int .i64) (f x::sn)))).Closed:=hmu
    have hrow:(((AV.int .i64) (f x),AV.bool true)::b5 (AV.int .i64) sn)=b5 (AV.int .i64) (f x::sn):=rfl
    try rw [hrow]
    try simp only [hrow]
    exact Z5
 ·have hk':k=ts.length:=by simp at hc;omega
  subst hk'
  rw [List.drop_length] at hR
  have hR':true=R:=hR
  subst hR'
  simp only [go_sem]
  exact Z6
def dk:List AV→AHeap→(AV→Prop)→Prop
 |[.slice _ 3 l,.func (.func F) fst caps],H,K=>∃ (ts:List SHeader) (f:SHeader→Int),(l=ts.map aH∧ts.length≤1000000∧∀ x∈ts,i64 (f x)∧∀ H',H.Le H'→H'.Closed→ACalls Tryz.prog F (fst++[aH x]++caps) H' (.ret ((AV.int .i64) (f x))) H')∧K (.bool (dsF [] (ts.map f)))
 |_,_,_=>False
theorem Fg:EntOk Tryz.prog 104 (Ent.pure dk):=by
 refine Ype fun _ H K h=>?_
 unfold dk at h
 split at h
 rotate_left
 ·exact h.elim
 rename_i m l F fst caps
 obtain ⟨ts,f,⟨rfl,hl,hq⟩,hK⟩:=h
 refine ⟨_,hK,?_⟩
 clear hK
 generalize hR:dsF [] (ts.map f)=R
 refine ACalls.fW ak (tCq (cg (F:=F)) tNq) Tryz.func104 [.tmp 4] (nrq _) (T:=aj []) (h:=fun hcl hlt=>?_)
 have hm:∀ n',H.nx≤n'→AV.lt n' (.slice m 3 (ts.map aH)):=fun n' hn=>AV.lt_mono hn _ (hlt (.slice m 3 (ts.map aH)) (by simp))
 have hf:∀ n',H.nx≤n'→AV.lt n' (.func (.func F) fst caps):=fun n' hn=>AV.lt_mono hn _ (hlt (.func (.func F) fst caps) (by simp))
 clear hlt
 simp only [go_sem,ziw,ybb]
 refine ay (A:=Nat × List (Int) × AHeap) (fun a=>[(1,.func (.func F) fst caps),(5,.mapv H.nx),(10,.slice m 3 (ts.map aH)),(11,.int .i64 (ts.length:Int)),(12,.int .i64 (a.1:Int))]) (fun a=>a.2.2)
  (fun a=>a.1≤ts.length∧dsF a.2.1 ((ts.drop a.1).map f)=R∧(∀ v∈a.2.1,i64 v)∧H.Le a.2.2∧a.2.2.Closed∧a.2.2.get H.nx=some (.mapo (b5 (AV.int .i64) a.2.1))) (fun a=>ts.length - a.1) (0,[],H.push (.mapo [])) ⟨Nat.zero_le _,hR,(fun v hv=>by cases hv),(lRq _).push _,bU hcl,AHeap.get_push_new _ _⟩ ?_ fun a ha=>?_
 ·(simp only [bkq,enterW,ba,ltF,ne_eq,Nat.reduceEqDiff,reduceCtorEq,hm,hf];try simp (disch:=first|exact Zd|omega) [↓zmo,beq,ybc,ybd,ybe,aa,wk,wk2,wk1,wkM,wkL,af,ybf,byq,biq,b9,hcl,hm,hf];try (repeat' (first|assumption|omega|exact True.intro|refine And.intro ?_ ?_|refine bc ?_|refine a0 ?_|refine ae ?_ ?_|refine bb ?_ ?_|refine bO ?_|exact lRq _|refine lPq ?_ _|refine AHeap.Le.del ?_ ?_|(simp only [bt,and_true,true_and,hm,hf];first|done|omega|(simp;done)))))
  exact bU hcl
 obtain ⟨k,sn,Hc⟩:=a
 clear hR
 obtain ⟨hk,hR,hsn,hle,hcc,hid⟩:=ha
 dsimp only at hk hR hsn hle hcc hid ⊢
 have hnx:H.nx<Hc.nx:=glq hid
 have hne:(H.nx=Hc.nx)=False:=eq_false (by omega)
 have hne2:(Hc.nx=H.nx)=False:=eq_false (by omega)
 simp only [go_sem]
 refine ah (fun hc=>?_) (fun hc=>?_)
 ·have hk':k<ts.length:=by simp at hc;omega
  obtain ⟨x,hx⟩:∃ x,x=ts[k]:=⟨_,rfl⟩
  have hd:ts.drop k=x::ts.drop (k+1):=by rw [hx];exact dcq hk'
  have hg':=aW (f:=aH) (l:=ts) (k:=k) (x:=x) (by rw [gQq hk',hx])
  have e5:=Yk5 k
  rw [hd,yae] at hR
  unfold dsF at hR
  obtain ⟨hgx,hqx⟩:=hq x (by rw [hx];exact gMq hk')
  have hcs:aH x=.agg [.int .i64 x.id,.str x.name,.slice .any 1 (inL x.fields)]:=rfl
  have hel:AV.lt (Hc.nx+1) (aH x):=by
   have h1:=hm (Hc.nx+1) (by have:=hle.nx;omega)
   rw [AV.lt] at h1
   have h2:=h1.2 k (by rw [ybb];exact hk')
   rw [List.getElem_map] at h2
   rwa [← hx] at h2
  rw [hcs] at hqx hel hg'
  rw [znr] at hel
  have hcp:(Hc.push (.cells [.int .i64 x.id,.str x.name,.slice .any 1 (inL x.fields)])).Closed:=ae hcc hel
  have hlp:H.Le (Hc.push (.cells [.int .i64 x.id,.str x.name,.slice .any 1 (inL x.fields)])):=hle.push _
  have hgp:(Hc.push (.cells [.int .i64 x.id,.str x.name,.slice .any 1 (inL x.fields)])).get H.nx=some (.mapo (b5 (AV.int .i64) sn)):=by rw [zlh,if_neg (by omega)];exact hid
  simp only [go_sem,iNq,ybb,hg',hne2,eX]
  (repeat with_reducible refine Yq ?_)
  refine ⟨_,?_,hqx _ hlp hcp⟩
  have hmg:=gm sn (f x)
  have hmu:=@au _ H.nx (((AV.int .i64) (f x),.bool true)::b5 (AV.int .i64) sn) hcc
  have hsn':=eO bC hsn
  cases hb:sn.contains (f x) with
  |true =>
   rw [hb,if_pos rfl] at hmg
   rw [hb,Bool.not_true,Bool.false_and] at hR
   subst hR
   simp only [ag,go_sem,zix,hne,hid,hmg]
   refine ⟨⟨cC,hsn',bC _ hgx,rfl⟩,?_⟩
   try simp only [go_sem,hmg]
   exact Z4
  |false =>
   rw [hb,if_neg Bool.false_ne_true] at hmg
   rw [hb,Bool.not_false,Bool.true_and] at hR
   simp only [ag,go_sem,zix,ziy,hne,hid,hmg,e5]
   refine ⟨⟨cC,hsn',bC _ hgx,rfl⟩,?_⟩
   try simp only [go_sem,hmg,hid,hne,ziy,e5]
   refine ⟨⟨cC,hsn',bC _ hgx,rfl,rfl⟩,(k+1,f x::sn,Hc.set H.nx (.mapo (b5 (AV.int .i64) (f x::sn)))),⟨by dsimp only;omega,hR,?_,df hle (nrq _),au hcc,?_⟩,by dsimp only;omega,?_⟩
   ·intro v hv
    rcases List.mem_cons.1 hv with rfl|hv
    ·exact hgx
    ·exact hsn v hv
   ·dsimp only
    rw [aG,if_pos rfl,if_pos (glq hid)]
   ·have hmu':(Hc.set H.nx (.mapo (b5 (AV.int .i64) (f x::sn)))).Closed:=hmu
    have hrow:(((AV.int .i64) (f x),AV.bool true)::b5 (AV.int .i64) sn)=b5 (AV.int .i64) (f x::sn):=rfl
    try rw [hrow]
    try simp only [hrow]
    exact Z5
 ·have hk':k=ts.length:=by simp at hc;omega
  subst hk'
  rw [List.drop_length] at hR
  have hR':true=R:=hR
  subst hR'
  simp only [go_sem]
  exact Z6
def dN:List AV→AHeap→(AV→Prop)→Prop
 |[.slice _ 5 l,.func (.func F) fst caps],H,K=>∃ (ts:List SState) (f:SState→Int),(l=ts.map aL∧ts.length≤1000000∧∀ x∈ts,i64 (f x)∧∀ H',H.Le H'→H'.Closed→ACalls Tryz.prog F (fst++[aL x]++caps) H' (.ret ((AV.int .i64) (f x))) H')∧K (.bool (dsF [] (ts.map f)))
 |_,_,_=>False
theorem Bv:EntOk Tryz.prog 106 (Ent.pure dN):=by
 refine Ype fun _ H K h=>?_
 unfold dN at h
 split at h
 rotate_left
 ·exact h.elim
 rename_i m l F fst caps
 obtain ⟨ts,f,⟨rfl,hl,hq⟩,hK⟩:=h
 refine ⟨_,hK,?_⟩
 clear hK
 generalize hR:dsF [] (ts.map f)=R
 refine ACalls.fW ak (tCq (cg (F:=F)) tNq) Tryz.func106 [.tmp 4] (nrq _) (T:=aj []) (h:=fun hcl hlt=>?_)
 have hm:∀ n',H.nx≤n'→AV.lt n' (.slice m 5 (ts.map aL)):=fun n' hn=>AV.lt_mono hn _ (hlt (.slice m 5 (ts.map aL)) (by simp))
 have hf:∀ n',H.nx≤n'→AV.lt n' (.func (.func F) fst caps):=fun n' hn=>AV.lt_mono hn _ (hlt (.func (.func F) fst caps) (by simp))
 clear hlt
 simp only [go_sem,ziw,ybb]
 refine ay (A:=Nat × List (Int) × AHeap) (fun a=>[(1,.func (.func F) fst caps),(5,.mapv H.nx),(10,.slice m 5 (ts.map aL)),(11,.int .i64 (ts.length:Int)),(12,.int .i64 (a.1:Int))]) (fun a=>a.2.2)
  (fun a=>a.1≤ts.length∧dsF a.2.1 ((ts.drop a.1).map f)=R∧(∀ v∈a.2.1,i64 v)∧H.Le a.2.2∧a.2.2.Closed∧a.2.2.get H.nx=some (.mapo (b5 (AV.int .i64) a.2.1))) (fun a=>ts.length - a.1) (0,[],H.push (.mapo [])) ⟨Nat.zero_le _,hR,(fun v hv=>by cases hv),(lRq _).push _,bU hcl,AHeap.get_push_new _ _⟩ ?_ fun a ha=>?_
 ·(simp only [bkq,enterW,ba,ltF,ne_eq,Nat.reduceEqDiff,reduceCtorEq,hm,hf];try simp (disch:=first|exact Zd|omega) [↓zmo,beq,ybc,ybd,ybe,aa,wk,wk2,wk1,wkM,wkL,af,ybf,byq,biq,b9,hcl,hm,hf];try (repeat' (first|assumption|omega|exact True.intro|refine And.intro ?_ ?_|refine bc ?_|refine a0 ?_|refine ae ?_ ?_|refine bb ?_ ?_|refine bO ?_|exact lRq _|refine lPq ?_ _|refine AHeap.Le.del ?_ ?_|(simp only [bt,and_true,true_and,hm,hf];first|done|omega|(simp;done)))))
  exact bU hcl
 obtain ⟨k,sn,Hc⟩:=a
 clear hR
 obtain ⟨hk,hR,hsn,hle,hcc,hid⟩:=ha
 dsimp only at hk hR hsn hle hcc hid ⊢
 have hnx:H.nx<Hc.nx:=glq hid
 have hne:(H.nx=Hc.nx)=False:=eq_false (by omega)
 have hne2:(Hc.nx=H.nx)=False:=eq_false (by omega)
 simp only [go_sem]
 refine ah (fun hc=>?_) (fun hc=>?_)
 ·have hk':k<ts.length:=by simp at hc;omega
  obtain ⟨x,hx⟩:∃ x,x=ts[k]:=⟨_,rfl⟩
  have hd:ts.drop k=x::ts.drop (k+1):=by rw [hx];exact dcq hk'
  have hg':=aW (f:=aL) (l:=ts) (k:=k) (x:=x) (by rw [gQq hk',hx])
  have e5:=Yk5 k
  rw [hd,yae] at hR
  unfold dsF at hR
  obtain ⟨hgx,hqx⟩:=hq x (by rw [hx];exact gMq hk')
  have hcs:aL x=.agg [.int .i64 x.id,.int .i64 x.header,.int .i64 x.select,.slice .any 5 (x.cases.map cM),.int .i64 x.dflt]:=rfl
  have hel:AV.lt (Hc.nx+1) (aL x):=by
   have h1:=hm (Hc.nx+1) (by have:=hle.nx;omega)
   rw [AV.lt] at h1
   have h2:=h1.2 k (by rw [ybb];exact hk')
   rw [List.getElem_map] at h2
   rwa [← hx] at h2
  rw [hcs] at hqx hel hg'
  rw [znr] at hel
  have hcp:(Hc.push (.cells [.int .i64 x.id,.int .i64 x.header,.int .i64 x.select,.slice .any 5 (x.cases.map cM),.int .i64 x.dflt])).Closed:=ae hcc hel
  have hlp:H.Le (Hc.push (.cells [.int .i64 x.id,.int .i64 x.header,.int .i64 x.select,.slice .any 5 (x.cases.map cM),.int .i64 x.dflt])):=hle.push _
  have hgp:(Hc.push (.cells [.int .i64 x.id,.int .i64 x.header,.int .i64 x.select,.slice .any 5 (x.cases.map cM),.int .i64 x.dflt])).get H.nx=some (.mapo (b5 (AV.int .i64) sn)):=by rw [zlh,if_neg (by omega)];exact hid
  simp only [go_sem,iNq,ybb,hg',hne2,eX]
  (repeat with_reducible refine Yq ?_)
  refine ⟨_,?_,hqx _ hlp hcp⟩
  have hmg:=gm sn (f x)
  have hmu:=@au _ H.nx (((AV.int .i64) (f x),.bool true)::b5 (AV.int .i64) sn) hcc
  have hsn':=eO bC hsn
  cases hb:sn.contains (f x) with
  |true =>
   rw [hb,if_pos rfl] at hmg
   rw [hb,Bool.not_true,Bool.false_and] at hR
   subst hR
   simp only [ag,go_sem,zix,hne,hid,hmg]
   refine ⟨⟨cC,hsn',bC _ hgx,rfl⟩,?_⟩
   try simp only [go_sem,hmg]
   exact Z4
  |false =>
   rw [hb,if_neg Bool.false_ne_true] at hmg
   rw [hb,Bool.not_false,Bool.true_and] at hR
   simp only [ag,go_sem,zix,ziy,hne,hid,hmg,e5]
   refine ⟨⟨cC,hsn',bC _ hgx,rfl⟩,?_⟩
   try simp only [go_sem,hmg,hid,hne,ziy,e5]
   refine ⟨⟨cC,hsn',bC _ hgx,rfl,rfl⟩,(k+1,f x::sn,Hc.set H.nx (.mapo (b5 (AV.int .i64) (f x::sn)))),⟨by dsimp only;omega,hR,?_,df hle (nrq _),au hcc,?_⟩,by dsimp only;omega,?_⟩
   ·intro v hv
    rcases List.mem_cons.1 hv with rfl|hv
    ·exact hgx
    ·exact hsn v hv
   ·dsimp only
    rw [aG,if_pos rfl,if_pos (glq hid)]
   ·have hmu':(Hc.set H.nx (.mapo (b5 (AV.int .i64) (f x::sn)))).Closed:=hmu
    have hrow:(((AV.int .i64) (f x),AV.bool true)::b5 (AV.int .i64) sn)=b5 (AV.int .i64) (f x::sn):=rfl
    try rw [hrow]
    try simp only [hrow]
    exact Z5
 ·have hk':k=ts.length:=by simp at hc;omega
  subst hk'
  rw [List.drop_length] at hR
  have hR':true=R:=hR
  subst hR'
  simp only [go_sem]
  exact Z6
def ek:List AV→AHeap→(AV→Prop)→Prop
 |[.slice _ 5 l,.func (.func F) fst caps],H,K=>∃ (ts:List SAction) (f:SAction→Int),(l=ts.map ax∧ts.length≤1000000∧∀ x∈ts,i64 (f x)∧∀ H',H.Le H'→H'.Closed→ACalls Tryz.prog F (fst++[ax x]++caps) H' (.ret ((AV.int .i64) (f x))) H')∧K (.bool (dsF [] (ts.map f)))
 |_,_,_=>False
theorem C5:EntOk Tryz.prog 108 (Ent.pure ek):=by
 refine Ype fun _ H K h=>?_
 unfold ek at h
 split at h
 rotate_left
 ·exact h.elim
 rename_i m l F fst caps
 obtain ⟨ts,f,⟨rfl,hl,hq⟩,hK⟩:=h
 refine ⟨_,hK,?_⟩
 clear hK
 generalize hR:dsF [] (ts.map f)=R
 refine ACalls.fW ak (tCq (cg (F:=F)) tNq) Tryz.func108 [.tmp 4] (nrq _) (T:=aj []) (h:=fun hcl hlt=>?_)
 have hm:∀ n',H.nx≤n'→AV.lt n' (.slice m 5 (ts.map ax)):=fun n' hn=>AV.lt_mono hn _ (hlt (.slice m 5 (ts.map ax)) (by simp))
 have hf:∀ n',H.nx≤n'→AV.lt n' (.func (.func F) fst caps):=fun n' hn=>AV.lt_mono hn _ (hlt (.func (.func F) fst caps) (by simp))
 clear hlt
 simp only [go_sem,ziw,ybb]
 refine ay (A:=Nat × List (Int) × AHeap) (fun a=>[(1,.func (.func F) fst caps),(5,.mapv H.nx),(10,.slice m 5 (ts.map ax)),(11,.int .i64 (ts.length:Int)),(12,.int .i64 (a.1:Int))]) (fun a=>a.2.2)
  (fun a=>a.1≤ts.length∧dsF a.2.1 ((ts.drop a.1).map f)=R∧(∀ v∈a.2.1,i64 v)∧H.Le a.2.2∧a.2.2.Closed∧a.2.2.get H.nx=some (.mapo (b5 (AV.int .i64) a.2.1))) (fun a=>ts.length - a.1) (0,[],H.push (.mapo [])) ⟨Nat.zero_le _,hR,(fun v hv=>by cases hv),(lRq _).push _,bU hcl,AHeap.get_push_new _ _⟩ ?_ fun a ha=>?_
 ·(simp only [bkq,enterW,ba,ltF,ne_eq,Nat.reduceEqDiff,reduceCtorEq,hm,hf];try simp (disch:=first|exact Zd|omega) [↓zmo,beq,ybc,ybd,ybe,aa,wk,wk2,wk1,wkM,wkL,af,ybf,byq,biq,b9,hcl,hm,hf];try (repeat' (first|assumption|omega|exact True.intro|refine And.intro ?_ ?_|refine bc ?_|refine a0 ?_|refine ae ?_ ?_|refine bb ?_ ?_|refine bO ?_|exact lRq _|refine lPq ?_ _|refine AHeap.Le.del ?_ ?_|(simp only [bt,and_true,true_and,hm,hf];first|done|omega|(simp;done)))))
  exact bU hcl
 obtain ⟨k,sn,Hc⟩:=a
 clear hR
 obtain ⟨hk,hR,hsn,hle,hcc,hid⟩:=ha
 dsimp only at hk hR hsn hle hcc hid ⊢
 have hnx:H.nx<Hc.nx:=glq hid
 have hne:(H.nx=Hc.nx)=False:=eq_false (by omega)
 have hne2:(Hc.nx=H.nx)=False:=eq_false (by omega)
 simp only [go_sem]
 refine ah (fun hc=>?_) (fun hc=>?_)
 ·have hk':k<ts.length:=by simp at hc;omega
  obtain ⟨x,hx⟩:∃ x,x=ts[k]:=⟨_,rfl⟩
  have hd:ts.drop k=x::ts.drop (k+1):=by rw [hx];exact dcq hk'
  have hg':=aW (f:=ax) (l:=ts) (k:=k) (x:=x) (by rw [gQq hk',hx])
  have e5:=Yk5 k
  rw [hd,yae] at hR
  unfold dsF at hR
  obtain ⟨hgx,hqx⟩:=hq x (by rw [hx];exact gMq hk')
  have hcs:ax x=.agg [.int .i64 x.id,.str x.name,.slice .any 2 (x.params.map bv),.slice .any 6 (x.body.map cl),.str x.restr]:=rfl
  have hel:AV.lt (Hc.nx+1) (ax x):=by
   have h1:=hm (Hc.nx+1) (by have:=hle.nx;omega)
   rw [AV.lt] at h1
   have h2:=h1.2 k (by rw [ybb];exact hk')
   rw [List.getElem_map] at h2
   rwa [← hx] at h2
  rw [hcs] at hqx hel hg'
  rw [znr] at hel
  have hcp:(Hc.push (.cells [.int .i64 x.id,.str x.name,.slice .any 2 (x.params.map bv),.slice .any 6 (x.body.map cl),.str x.restr])).Closed:=ae hcc hel
  have hlp:H.Le (Hc.push (.cells [.int .i64 x.id,.str x.name,.slice .any 2 (x.params.map bv),.slice .any 6 (x.body.map cl),.str x.restr])):=hle.push _
  have hgp:(Hc.push (.cells [.int .i64 x.id,.str x.name,.slice .any 2 (x.params.map bv),.slice .any 6 (x.body.map cl),.str x.restr])).get H.nx=some (.mapo (b5 (AV.int .i64) sn)):=by rw [zlh,if_neg (by omega)];exact hid
  simp only [go_sem,iNq,ybb,hg',hne2,eX]
  (repeat with_reducible refine Yq ?_)
  refine ⟨_,?_,hqx _ hlp hcp⟩
  have hmg:=gm sn (f x)
  have hmu:=@au _ H.nx (((AV.int .i64) (f x),.bool true)::b5 (AV.int .i64) sn) hcc
  have hsn':=eO bC hsn
  cases hb:sn.contains (f x) with
  |true =>
   rw [hb,if_pos rfl] at hmg
   rw [hb,Bool.not_true,Bool.false_and] at hR
   subst hR
   simp only [ag,go_sem,zix,hne,hid,hmg]
   refine ⟨⟨cC,hsn',bC _ hgx,rfl⟩,?_⟩
   try simp only [go_sem,hmg]
   exact Z4
  |false =>
   rw [hb,if_neg Bool.false_ne_true] at hmg
   rw [hb,Bool.not_false,Bool.true_and] at hR
   simp only [ag,go_sem,zix,ziy,hne,hid,hmg,e5]
   refine ⟨⟨cC,hsn',bC _ hgx,rfl⟩,?_⟩
   try simp only [go_sem,hmg,hid,hne,ziy,e5]
   refine ⟨⟨cC,hsn',bC _ hgx,rfl,rfl⟩,(k+1,f x::sn,Hc.set H.nx (.mapo (b5 (AV.int .i64) (f x::sn)))),⟨by dsimp only;omega,hR,?_,df hle (nrq _),au hcc,?_⟩,by dsimp only;omega,?_⟩
   ·intro v hv
    rcases List.mem_cons.1 hv with rfl|hv
    ·exact hgx
    ·exact hsn v hv
   ·dsimp only
    rw [aG,if_pos rfl,if_pos (glq hid)]
   ·have hmu':(Hc.set H.nx (.mapo (b5 (AV.int .i64) (f x::sn)))).Closed:=hmu
    have hrow:(((AV.int .i64) (f x),AV.bool true)::b5 (AV.int .i64) sn)=b5 (AV.int .i64) (f x::sn):=rfl
    try rw [hrow]
    try simp only [hrow]
    exact Z5
 ·have hk':k=ts.length:=by simp at hc;omega
  subst hk'
  rw [List.drop_length] at hR
  have hR':true=R:=hR
  subst hR'
  simp only [go_sem]
  exact Z6
def e9:List AV→AHeap→(AV→Prop)→Prop
 |[.slice _ 8 l,.func (.func F) fst caps],H,K=>∃ (ts:List STable) (f:STable→Int),(l=ts.map az∧ts.length≤1000000∧∀ x∈ts,i64 (f x)∧∀ H',H.Le H'→H'.Closed→ACalls Tryz.prog F (fst++[az x]++caps) H' (.ret ((AV.int .i64) (f x))) H')∧K (.bool (dsF [] (ts.map f)))
 |_,_,_=>False
theorem EI:EntOk Tryz.prog 110 (Ent.pure e9):=by
 refine Ype fun _ H K h=>?_
 unfold e9 at h
 split at h
 rotate_left
 ·exact h.elim
 rename_i m l F fst caps
 obtain ⟨ts,f,⟨rfl,hl,hq⟩,hK⟩:=h
 refine ⟨_,hK,?_⟩
 clear hK
 generalize hR:dsF [] (ts.map f)=R
 refine ACalls.fW ak (tCq (cg (F:=F)) tNq) Tryz.func110 [.tmp 4] (nrq _) (T:=aj []) (h:=fun hcl hlt=>?_)
 have hm:∀ n',H.nx≤n'→AV.lt n' (.slice m 8 (ts.map az)):=fun n' hn=>AV.lt_mono hn _ (hlt (.slice m 8 (ts.map az)) (by simp))
 have hf:∀ n',H.nx≤n'→AV.lt n' (.func (.func F) fst caps):=fun n' hn=>AV.lt_mono hn _ (hlt (.func (.func F) fst caps) (by simp))
 clear hlt
 simp only [go_sem,ziw,ybb]
 refine ay (A:=Nat × List (Int) × AHeap) (fun a=>[(1,.func (.func F) fst caps),(5,.mapv H.nx),(10,.slice m 8 (ts.map az)),(11,.int .i64 (ts.length:Int)),(12,.int .i64 (a.1:Int))]) (fun a=>a.2.2)
  (fun a=>a.1≤ts.length∧dsF a.2.1 ((ts.drop a.1).map f)=R∧(∀ v∈a.2.1,i64 v)∧H.Le a.2.2∧a.2.2.Closed∧a.2.2.get H.nx=some (.mapo (b5 (AV.int .i64) a.2.1))) (fun a=>ts.length - a.1) (0,[],H.push (.mapo [])) ⟨Nat.zero_le _,hR,(fun v hv=>by cases hv),(lRq _).push _,bU hcl,AHeap.get_push_new _ _⟩ ?_ fun a ha=>?_
 ·(simp only [bkq,enterW,ba,ltF,ne_eq,Nat.reduceEqDiff,reduceCtorEq,hm,hf];try simp (disch:=first|exact Zd|omega) [↓zmo,beq,ybc,ybd,ybe,aa,wk,wk2,wk1,wkM,wkL,af,ybf,byq,biq,b9,hcl,hm,hf];try (repeat' (first|assumption|omega|exact True.intro|refine And.intro ?_ ?_|refine bc ?_|refine a0 ?_|refine ae ?_ ?_|refine bb ?_ ?_|refine bO ?_|exact lRq _|refine lPq ?_ _|refine AHeap.Le.del ?_ ?_|(simp only [bt,and_true,true_and,hm,hf];first|done|omega|(simp;done)))))
  exact bU hcl
 obtain ⟨k,sn,Hc⟩:=a
 clear hR
 obtain ⟨hk,hR,hsn,hle,hcc,hid⟩:=ha
 dsimp only at hk hR hsn hle hcc hid ⊢
 have hnx:H.nx<Hc.nx:=glq hid
 have hne:(H.nx=Hc.nx)=False:=eq_false (by omega)
 have hne2:(Hc.nx=H.nx)=False:=eq_false (by omega)
 simp only [go_sem]
 refine ah (fun hc=>?_) (fun hc=>?_)
 ·have hk':k<ts.length:=by simp at hc;omega
  obtain ⟨x,hx⟩:∃ x,x=ts[k]:=⟨_,rfl⟩
  have hd:ts.drop k=x::ts.drop (k+1):=by rw [hx];exact dcq hk'
  have hg':=aW (f:=az) (l:=ts) (k:=k) (x:=x) (by rw [gQq hk',hx])
  have e5:=Yk5 k
  rw [hd,yae] at hR
  unfold dsF at hR
  obtain ⟨hgx,hqx⟩:=hq x (by rw [hx];exact gMq hk')
  have hcs:az x=.agg [.int .i64 x.id,.str x.name,.slice .any 3 (x.keys.map bN),.slice .any 1 (inL x.actions),.int .i64 x.dflt,.slice .any 2 (x.dargs.map vv),.int .i64 x.size,.str x.restr]:=rfl
  have hel:AV.lt (Hc.nx+1) (az x):=by
   have h1:=hm (Hc.nx+1) (by have:=hle.nx;omega)
   rw [AV.lt] at h1
   have h2:=h1.2 k (by rw [ybb];exact hk')
   rw [List.getElem_map] at h2
   rwa [← hx] at h2
  rw [hcs] at hqx hel hg'
  rw [znr] at hel
  have hcp:(Hc.push (.cells [.int .i64 x.id,.str x.name,.slice .any 3 (x.keys.map bN),.slice .any 1 (inL x.actions),.int .i64 x.dflt,.slice .any 2 (x.dargs.map vv),.int .i64 x.size,.str x.restr])).Closed:=ae hcc hel
  have hlp:H.Le (Hc.push (.cells [.int .i64 x.id,.str x.name,.slice .any 3 (x.keys.map bN),.slice .any 1 (inL x.actions),.int .i64 x.dflt,.slice .any 2 (x.dargs.map vv),.int .i64 x.size,.str x.restr])):=hle.push _
  have hgp:(Hc.push (.cells [.int .i64 x.id,.str x.name,.slice .any 3 (x.keys.map bN),.slice .any 1 (inL x.actions),.int .i64 x.dflt,.slice .any 2 (x.dargs.map vv),.int .i64 x.size,.str x.restr])).get H.nx=some (.mapo (b5 (AV.int .i64) sn)):=by rw [zlh,if_neg (by omega)];exact hid
  simp only [go_sem,iNq,ybb,hg',hne2,eX]
  (repeat with_reducible refine Yq ?_)
  refine ⟨_,?_,hqx _ hlp hcp⟩
  have hmg:=gm sn (f x)
  have hmu:=@au _ H.nx (((AV.int .i64) (f x),.bool true)::b5 (AV.int .i64) sn) hcc
  have hsn':=eO bC hsn
  cases hb:sn.contains (f x) with
  |true =>
   rw [hb,if_pos rfl] at hmg
   rw [hb,Bool.not_true,Bool.false_and] at hR
   subst hR
   simp only [ag,go_sem,zix,hne,hid,hmg]
   refine ⟨⟨cC,hsn',bC _ hgx,rfl⟩,?_⟩
   try simp only [go_sem,hmg]
   exact Z4
  |false =>
   rw [hb,if_neg Bool.false_ne_true] at hmg
   rw [hb,Bool.not_false,Bool.true_and] at hR
   simp only [ag,go_sem,zix,ziy,hne,hid,hmg,e5]
   refine ⟨⟨cC,hsn',bC _ hgx,rfl⟩,?_⟩
   try simp only [go_sem,hmg,hid,hne,ziy,e5]
   refine ⟨⟨cC,hsn',bC _ hgx,rfl,rfl⟩,(k+1,f x::sn,Hc.set H.nx (.mapo (b5 (AV.int .i64) (f x::sn)))),⟨by dsimp only;omega,hR,?_,df hle (nrq _),au hcc,?_⟩,by dsimp only;omega,?_⟩
   ·intro v hv
    rcases List.mem_cons.1 hv with rfl|hv
    ·exact hgx
    ·exact hsn v hv
   ·dsimp only
    rw [aG,if_pos rfl,if_pos (glq hid)]
   ·have hmu':(Hc.set H.nx (.mapo (b5 (AV.int .i64) (f x::sn)))).Closed:=hmu
    have hrow:(((AV.int .i64) (f x),AV.bool true)::b5 (AV.int .i64) sn)=b5 (AV.int .i64) (f x::sn):=rfl
    try rw [hrow]
    try simp only [hrow]
    exact Z5
 ·have hk':k=ts.length:=by simp at hc;omega
  subst hk'
  rw [List.drop_length] at hR
  have hR':true=R:=hR
  subst hR'
  simp only [go_sem]
  exact Z6
def fA:List AV→AHeap→(AV→Prop)→Prop
 |[.slice _ 6 l,.func (.func F) fst caps],H,K=>∃ (ts:List SRole) (f:SRole→Int),(l=ts.map br∧ts.length≤1000000∧∀ x∈ts,i64 (f x)∧∀ H',H.Le H'→H'.Closed→ACalls Tryz.prog F (fst++[br x]++caps) H' (.ret ((AV.int .i64) (f x))) H')∧K (.bool (dsF [] (ts.map f)))
 |_,_,_=>False
theorem Bn:EntOk Tryz.prog 112 (Ent.pure fA):=by
 refine Ype fun _ H K h=>?_
 unfold fA at h
 split at h
 rotate_left
 ·exact h.elim
 rename_i m l F fst caps
 obtain ⟨ts,f,⟨rfl,hl,hq⟩,hK⟩:=h
 refine ⟨_,hK,?_⟩
 clear hK
 generalize hR:dsF [] (ts.map f)=R
 refine ACalls.fW ak (tCq (cg (F:=F)) tNq) Tryz.func112 [.tmp 4] (nrq _) (T:=aj []) (h:=fun hcl hlt=>?_)
 have hm:∀ n',H.nx≤n'→AV.lt n' (.slice m 6 (ts.map br)):=fun n' hn=>AV.lt_mono hn _ (hlt (.slice m 6 (ts.map br)) (by simp))
 have hf:∀ n',H.nx≤n'→AV.lt n' (.func (.func F) fst caps):=fun n' hn=>AV.lt_mono hn _ (hlt (.func (.func F) fst caps) (by simp))
 clear hlt
 simp only [go_sem,ziw,ybb]
 refine ay (A:=Nat × List (Int) × AHeap) (fun a=>[(1,.func (.func F) fst caps),(5,.mapv H.nx),(10,.slice m 6 (ts.map br)),(11,.int .i64 (ts.length:Int)),(12,.int .i64 (a.1:Int))]) (fun a=>a.2.2)
  (fun a=>a.1≤ts.length∧dsF a.2.1 ((ts.drop a.1).map f)=R∧(∀ v∈a.2.1,i64 v)∧H.Le a.2.2∧a.2.2.Closed∧a.2.2.get H.nx=some (.mapo (b5 (AV.int .i64) a.2.1))) (fun a=>ts.length - a.1) (0,[],H.push (.mapo [])) ⟨Nat.zero_le _,hR,(fun v hv=>by cases hv),(lRq _).push _,bU hcl,AHeap.get_push_new _ _⟩ ?_ fun a ha=>?_
 ·(simp only [bkq,enterW,ba,ltF,ne_eq,Nat.reduceEqDiff,reduceCtorEq,hm,hf];try simp (disch:=first|exact Zd|omega) [↓zmo,beq,ybc,ybd,ybe,aa,wk,wk2,wk1,wkM,wkL,af,ybf,byq,biq,b9,hcl,hm,hf];try (repeat' (first|assumption|omega|exact True.intro|refine And.intro ?_ ?_|refine bc ?_|refine a0 ?_|refine ae ?_ ?_|refine bb ?_ ?_|refine bO ?_|exact lRq _|refine lPq ?_ _|refine AHeap.Le.del ?_ ?_|(simp only [bt,and_true,true_and,hm,hf];first|done|omega|(simp;done)))))
  exact bU hcl
 obtain ⟨k,sn,Hc⟩:=a
 clear hR
 obtain ⟨hk,hR,hsn,hle,hcc,hid⟩:=ha
 dsimp only at hk hR hsn hle hcc hid ⊢
 have hnx:H.nx<Hc.nx:=glq hid
 have hne:(H.nx=Hc.nx)=False:=eq_false (by omega)
 have hne2:(Hc.nx=H.nx)=False:=eq_false (by omega)
 simp only [go_sem]
 refine ah (fun hc=>?_) (fun hc=>?_)
 ·have hk':k<ts.length:=by simp at hc;omega
  obtain ⟨x,hx⟩:∃ x,x=ts[k]:=⟨_,rfl⟩
  have hd:ts.drop k=x::ts.drop (k+1):=by rw [hx];exact dcq hk'
  have hg':=aW (f:=br) (l:=ts) (k:=k) (x:=x) (by rw [gQq hk',hx])
  have e5:=Yk5 k
  rw [hd,yae] at hR
  unfold dsF at hR
  obtain ⟨hgx,hqx⟩:=hq x (by rw [hx];exact gMq hk')
  have hcs:br x=.agg [.int .i64 x.id,.str x.name,.slice .any 4 (x.grants.map bk),.slice .any 1 (inL x.actions),.int .i64 x.quota,.bool x.audit]:=rfl
  have hel:AV.lt (Hc.nx+1) (br x):=by
   have h1:=hm (Hc.nx+1) (by have:=hle.nx;omega)
   rw [AV.lt] at h1
   have h2:=h1.2 k (by rw [ybb];exact hk')
   rw [List.getElem_map] at h2
   rwa [← hx] at h2
  rw [hcs] at hqx hel hg'
  rw [znr] at hel
  have hcp:(Hc.push (.cells [.int .i64 x.id,.str x.name,.slice .any 4 (x.grants.map bk),.slice .any 1 (inL x.actions),.int .i64 x.quota,.bool x.audit])).Closed:=ae hcc hel
  have hlp:H.Le (Hc.push (.cells [.int .i64 x.id,.str x.name,.slice .any 4 (x.grants.map bk),.slice .any 1 (inL x.actions),.int .i64 x.quota,.bool x.audit])):=hle.push _
  have hgp:(Hc.push (.cells [.int .i64 x.id,.str x.name,.slice .any 4 (x.grants.map bk),.slice .any 1 (inL x.actions),.int .i64 x.quota,.bool x.audit])).get H.nx=some (.mapo (b5 (AV.int .i64) sn)):=by rw [zlh,if_neg (by omega)];exact hid
  simp only [go_sem,iNq,ybb,hg',hne2,eX]
  (repeat with_reducible refine Yq ?_)
  refine ⟨_,?_,hqx _ hlp hcp⟩
  have hmg:=gm sn (f x)
  have hmu:=@au _ H.nx (((AV.int .i64) (f x),.bool true)::b5 (AV.int .i64) sn) hcc
  have hsn':=eO bC hsn
  cases hb:sn.contains (f x) with
  |true =>
   rw [hb,if_pos rfl] at hmg
   rw [hb,Bool.not_true,Bool.false_and] at hR
   subst hR
   simp only [ag,go_sem,zix,hne,hid,hmg]
   refine ⟨⟨cC,hsn',bC _ hgx,rfl⟩,?_⟩
   try simp only [go_sem,hmg]
   exact Z4
  |false =>
   rw [hb,if_neg Bool.false_ne_true] at hmg
   rw [hb,Bool.not_false,Bool.true_and] at hR
   simp only [ag,go_sem,zix,ziy,hne,hid,hmg,e5]
   refine ⟨⟨cC,hsn',bC _ hgx,rfl⟩,?_⟩
   try simp only [go_sem,hmg,hid,hne,ziy,e5]
   refine ⟨⟨cC,hsn',bC _ hgx,rfl,rfl⟩,(k+1,f x::sn,Hc.set H.nx (.mapo (b5 (AV.int .i64) (f x::sn)))),⟨by dsimp only;omega,hR,?_,df hle (nrq _),au hcc,?_⟩,by dsimp only;omega,?_⟩
   ·intro v hv
    rcases List.mem_cons.1 hv with rfl|hv
    ·exact hgx
    ·exact hsn v hv
   ·dsimp only
    rw [aG,if_pos rfl,if_pos (glq hid)]
   ·have hmu':(Hc.set H.nx (.mapo (b5 (AV.int .i64) (f x::sn)))).Closed:=hmu
    have hrow:(((AV.int .i64) (f x),AV.bool true)::b5 (AV.int .i64) sn)=b5 (AV.int .i64) (f x::sn):=rfl
    try rw [hrow]
    try simp only [hrow]
    exact Z5
 ·have hk':k=ts.length:=by simp at hc;omega
  subst hk'
  rw [List.drop_length] at hR
  have hR':true=R:=hR
  subst hR'
  simp only [go_sem]
  exact Z6
def mU:List AV→AHeap→(AV→Prop)→Prop
 |[.slice _ 4 l,.func (.func F) fst caps],H,K=>∃ (ts:List SGrant) (f:SGrant→Int),(l=ts.map bk∧ts.length≤1000000∧∀ x∈ts,i64 (f x)∧∀ H',H.Le H'→H'.Closed→ACalls Tryz.prog F (fst++[bk x]++caps) H' (.ret ((AV.int .i64) (f x))) H')∧K (.bool (dsF [] (ts.map f)))
 |_,_,_=>False
theorem B9:EntOk Tryz.prog 119 (Ent.pure mU):=by
 refine Ype fun _ H K h=>?_
 unfold mU at h
 split at h
 rotate_left
 ·exact h.elim
 rename_i m l F fst caps
 obtain ⟨ts,f,⟨rfl,hl,hq⟩,hK⟩:=h
 refine ⟨_,hK,?_⟩
 clear hK
 generalize hR:dsF [] (ts.map f)=R
 refine ACalls.fW ak (tCq (cg (F:=F)) tNq) Tryz.func119 [.tmp 4] (nrq _) (T:=aj []) (h:=fun hcl hlt=>?_)
 have hm:∀ n',H.nx≤n'→AV.lt n' (.slice m 4 (ts.map bk)):=fun n' hn=>AV.lt_mono hn _ (hlt (.slice m 4 (ts.map bk)) (by simp))
 have hf:∀ n',H.nx≤n'→AV.lt n' (.func (.func F) fst caps):=fun n' hn=>AV.lt_mono hn _ (hlt (.func (.func F) fst caps) (by simp))
 clear hlt
 simp only [go_sem,ziw,ybb]
 refine ay (A:=Nat × List (Int) × AHeap) (fun a=>[(1,.func (.func F) fst caps),(5,.mapv H.nx),(10,.slice m 4 (ts.map bk)),(11,.int .i64 (ts.length:Int)),(12,.int .i64 (a.1:Int))]) (fun a=>a.2.2)
  (fun a=>a.1≤ts.length∧dsF a.2.1 ((ts.drop a.1).map f)=R∧(∀ v∈a.2.1,i64 v)∧H.Le a.2.2∧a.2.2.Closed∧a.2.2.get H.nx=some (.mapo (b5 (AV.int .i64) a.2.1))) (fun a=>ts.length - a.1) (0,[],H.push (.mapo [])) ⟨Nat.zero_le _,hR,(fun v hv=>by cases hv),(lRq _).push _,bU hcl,AHeap.get_push_new _ _⟩ ?_ fun a ha=>?_
 ·(simp only [bkq,enterW,ba,ltF,ne_eq,Nat.reduceEqDiff,reduceCtorEq,hm,hf];try simp (disch:=first|exact Zd|omega) [↓zmo,beq,ybc,ybd,ybe,aa,wk,wk2,wk1,wkM,wkL,af,ybf,byq,biq,b9,hcl,hm,hf];try (repeat' (first|assumption|omega|exact True.intro|refine And.intro ?_ ?_|refine bc ?_|refine a0 ?_|refine ae ?_ ?_|refine bb ?_ ?_|refine bO ?_|exact lRq _|refine lPq ?_ _|refine AHeap.Le.del ?_ ?_|(simp only [bt,and_true,true_and,hm,hf];first|done|omega|(simp;done)))))
  exact bU hcl
 obtain ⟨k,sn,Hc⟩:=a
 clear hR
 obtain ⟨hk,hR,hsn,hle,hcc,hid⟩:=ha
 dsimp only at hk hR hsn hle hcc hid ⊢
 have hnx:H.nx<Hc.nx:=glq hid
 have hne:(H.nx=Hc.nx)=False:=eq_false (by omega)
 have hne2:(Hc.nx=H.nx)=False:=eq_false (by omega)
 simp only [go_sem]
 refine ah (fun hc=>?_) (fun hc=>?_)
 ·have hk':k<ts.length:=by simp at hc;omega
  obtain ⟨x,hx⟩:∃ x,x=ts[k]:=⟨_,rfl⟩
  have hd:ts.drop k=x::ts.drop (k+1):=by rw [hx];exact dcq hk'
  have hg':=aW (f:=bk) (l:=ts) (k:=k) (x:=x) (by rw [gQq hk',hx])
  have e5:=Yk5 k
  rw [hd,yae] at hR
  unfold dsF at hR
  obtain ⟨hgx,hqx⟩:=hq x (by rw [hx];exact gMq hk')
  have hcs:bk x=.agg [.int .i64 x.table,.bool x.read,.bool x.write,.slice .any 1 (boL x.keys)]:=rfl
  have hel:AV.lt (Hc.nx+1) (bk x):=by
   have h1:=hm (Hc.nx+1) (by have:=hle.nx;omega)
   rw [AV.lt] at h1
   have h2:=h1.2 k (by rw [ybb];exact hk')
   rw [List.getElem_map] at h2
   rwa [← hx] at h2
  rw [hcs] at hqx hel hg'
  rw [znr] at hel
  have hcp:(Hc.push (.cells [.int .i64 x.table,.bool x.read,.bool x.write,.slice .any 1 (boL x.keys)])).Closed:=ae hcc hel
  have hlp:H.Le (Hc.push (.cells [.int .i64 x.table,.bool x.read,.bool x.write,.slice .any 1 (boL x.keys)])):=hle.push _
  have hgp:(Hc.push (.cells [.int .i64 x.table,.bool x.read,.bool x.write,.slice .any 1 (boL x.keys)])).get H.nx=some (.mapo (b5 (AV.int .i64) sn)):=by rw [zlh,if_neg (by omega)];exact hid
  simp only [go_sem,iNq,ybb,hg',hne2,eX]
  (repeat with_reducible refine Yq ?_)
  refine ⟨_,?_,hqx _ hlp hcp⟩
  have hmg:=gm sn (f x)
  have hmu:=@au _ H.nx (((AV.int .i64) (f x),.bool true)::b5 (AV.int .i64) sn) hcc
  have hsn':=eO bC hsn
  cases hb:sn.contains (f x) with
  |true =>
   rw [hb,if_pos rfl] at hmg
   rw [hb,Bool.not_true,Bool.false_and] at hR
   subst hR
   simp only [ag,go_sem,zix,hne,hid,hmg]
   refine ⟨⟨cC,hsn',bC _ hgx,rfl⟩,?_⟩
   try simp only [go_sem,hmg]
   exact Z4
  |false =>
   rw [hb,if_neg Bool.false_ne_true] at hmg
   rw [hb,Bool.not_false,Bool.true_and] at hR
   simp only [ag,go_sem,zix,ziy,hne,hid,hmg,e5]
   refine ⟨⟨cC,hsn',bC _ hgx,rfl⟩,?_⟩
   try simp only [go_sem,hmg,hid,hne,ziy,e5]
   refine ⟨⟨cC,hsn',bC _ hgx,rfl,rfl⟩,(k+1,f x::sn,Hc.set H.nx (.mapo (b5 (AV.int .i64) (f x::sn)))),⟨by dsimp only;omega,hR,?_,df hle (nrq _),au hcc,?_⟩,by dsimp only;omega,?_⟩
   ·intro v hv
    rcases List.mem_cons.1 hv with rfl|hv
    ·exact hgx
    ·exact hsn v hv
   ·dsimp only
    rw [aG,if_pos rfl,if_pos (glq hid)]
   ·have hmu':(Hc.set H.nx (.mapo (b5 (AV.int .i64) (f x::sn)))).Closed:=hmu
    have hrow:(((AV.int .i64) (f x),AV.bool true)::b5 (AV.int .i64) sn)=b5 (AV.int .i64) (f x::sn):=rfl
    try rw [hrow]
    try simp only [hrow]
    exact Z5
 ·have hk':k=ts.length:=by simp at hc;omega
  subst hk'
  rw [List.drop_length] at hR
  have hR':true=R:=hR
  subst hR'
  simp only [go_sem]
  exact Z6
def ej:List AV→AHeap→(AV→Prop)→Prop
 |[.slice _ 1 l,.func (.func F) fst caps],H,K=>∃ (ts:List Int) (f:Int→Int),(l=ts.map (AV.int .i64)∧ts.length≤1000000∧∀ x∈ts,i64 (f x)∧∀ H',H.Le H'→H'.Closed→ACalls Tryz.prog F (fst++[(AV.int .i64) x]++caps) H' (.ret ((AV.int .i64) (f x))) H')∧K (.bool (dsF [] (ts.map f)))
 |_,_,_=>False
theorem pJ:EntOk Tryz.prog 115 (Ent.pure ej):=by
 refine Ype fun _ H K h=>?_
 unfold ej at h
 split at h
 rotate_left
 ·exact h.elim
 rename_i m l F fst caps
 obtain ⟨ts,f,⟨rfl,hl,hq⟩,hK⟩:=h
 refine ⟨_,hK,?_⟩
 clear hK
 generalize hR:dsF [] (ts.map f)=R
 refine ACalls.fW ak (tCq (cg (F:=F)) tNq) Tryz.func115 [.tmp 4] (nrq _) (T:=aj []) (h:=fun hcl hlt=>?_)
 have hm:∀ n',H.nx≤n'→AV.lt n' (.slice m 1 (ts.map (AV.int .i64))):=fun n' hn=>AV.lt_mono hn _ (hlt (.slice m 1 (ts.map (AV.int .i64))) (by simp))
 have hf:∀ n',H.nx≤n'→AV.lt n' (.func (.func F) fst caps):=fun n' hn=>AV.lt_mono hn _ (hlt (.func (.func F) fst caps) (by simp))
 clear hlt
 simp only [go_sem,ziw,ybb]
 refine ay (A:=Nat × List (Int) × AHeap) (fun a=>[(1,.func (.func F) fst caps),(5,.mapv H.nx),(10,.slice m 1 (ts.map (AV.int .i64))),(11,.int .i64 (ts.length:Int)),(12,.int .i64 (a.1:Int))]) (fun a=>a.2.2)
  (fun a=>a.1≤ts.length∧dsF a.2.1 ((ts.drop a.1).map f)=R∧(∀ v∈a.2.1,i64 v)∧H.Le a.2.2∧a.2.2.Closed∧a.2.2.get H.nx=some (.mapo (b5 (AV.int .i64) a.2.1))) (fun a=>ts.length - a.1) (0,[],H.push (.mapo [])) ⟨Nat.zero_le _,hR,(fun v hv=>by cases hv),(lRq _).push _,bU hcl,AHeap.get_push_new _ _⟩ ?_ fun a ha=>?_
 ·(simp only [bkq,enterW,ba,ltF,ne_eq,Nat.reduceEqDiff,reduceCtorEq,hm,hf];try simp (disch:=first|exact Zd|omega) [↓zmo,beq,ybc,ybd,ybe,aa,wk,wk2,wk1,wkM,wkL,af,ybf,byq,biq,b9,hcl,hm,hf];try (repeat' (first|assumption|omega|exact True.intro|refine And.intro ?_ ?_|refine bc ?_|refine a0 ?_|refine ae ?_ ?_|refine bb ?_ ?_|refine bO ?_|exact lRq _|refine lPq ?_ _|refine AHeap.Le.del ?_ ?_|(simp only [bt,and_true,true_and,hm,hf];first|done|omega|(simp;done)))))
  exact bU hcl
 obtain ⟨k,sn,Hc⟩:=a
 clear hR
 obtain ⟨hk,hR,hsn,hle,hcc,hid⟩:=ha
 dsimp only at hk hR hsn hle hcc hid ⊢
 have hnx:H.nx<Hc.nx:=glq hid
 have hne:(H.nx=Hc.nx)=False:=eq_false (by omega)
 have hne2:(Hc.nx=H.nx)=False:=eq_false (by omega)
 simp only [go_sem]
 refine ah (fun hc=>?_) (fun hc=>?_)
 ·have hk':k<ts.length:=by simp at hc;omega
  obtain ⟨x,hx⟩:∃ x,x=ts[k]:=⟨_,rfl⟩
  have hd:ts.drop k=x::ts.drop (k+1):=by rw [hx];exact dcq hk'
  have hg':=aW (f:=(AV.int .i64)) (l:=ts) (k:=k) (x:=x) (by rw [gQq hk',hx])
  have e5:=Yk5 k
  rw [hd,yae] at hR
  unfold dsF at hR
  obtain ⟨hgx,hqx⟩:=hq x (by rw [hx];exact gMq hk')
  have hcp:Hc.Closed:=hcc
  have hlp:H.Le Hc:=hle
  have hgp:=hid
  simp only [go_sem,iNq,ybb,hg',hne2,eX]
  (repeat with_reducible refine Yq ?_)
  refine ⟨_,?_,hqx _ hlp hcp⟩
  have hmg:=gm sn (f x)
  have hmu:=@au _ H.nx (((AV.int .i64) (f x),.bool true)::b5 (AV.int .i64) sn) hcc
  have hsn':=eO bC hsn
  cases hb:sn.contains (f x) with
  |true =>
   rw [hb,if_pos rfl] at hmg
   rw [hb,Bool.not_true,Bool.false_and] at hR
   subst hR
   simp only [ag,go_sem,zix,hne,hid,hmg]
   refine ⟨⟨cC,hsn',bC _ hgx,rfl⟩,?_⟩
   try simp only [go_sem,hmg]
   exact Z4
  |false =>
   rw [hb,if_neg Bool.false_ne_true] at hmg
   rw [hb,Bool.not_false,Bool.true_and] at hR
   simp only [ag,go_sem,zix,ziy,hne,hid,hmg,e5]
   refine ⟨⟨cC,hsn',bC _ hgx,rfl⟩,?_⟩
   try simp only [go_sem,hmg,hid,hne,ziy,e5]
   refine ⟨⟨cC,hsn',bC _ hgx,rfl,rfl⟩,(k+1,f x::sn,Hc.set H.nx (.mapo (b5 (AV.int .i64) (f x::sn)))),⟨by dsimp only;omega,hR,?_,df hle (nrq _),au hcc,?_⟩,by dsimp only;omega,?_⟩
   ·intro v hv
    rcases List.mem_cons.1 hv with rfl|hv
    ·exact hgx
    ·exact hsn v hv
   ·dsimp only
    rw [aG,if_pos rfl,if_pos (glq hid)]
   ·have hmu':(Hc.set H.nx (.mapo (b5 (AV.int .i64) (f x::sn)))).Closed:=hmu
    have hrow:(((AV.int .i64) (f x),AV.bool true)::b5 (AV.int .i64) sn)=b5 (AV.int .i64) (f x::sn):=rfl
    try rw [hrow]
    try simp only [hrow]
    exact Z5
 ·have hk':k=ts.length:=by simp at hc;omega
  subst hk'
  rw [List.drop_length] at hR
  have hR':true=R:=hR
  subst hR'
  simp only [go_sem]
  exact Z6
def sE:List AV→AHeap→(AV→Prop)→Prop
 |[.slice _ 2 l,.func (.func F) fst caps],H,K=>∃ (ts:List SParam) (f:SParam→List UInt8),(l=ts.map bv∧ts.length≤1000000∧∀ x∈ts,CA (f x)∧∀ H',H.Le H'→H'.Closed→ACalls Tryz.prog F (fst++[bv x]++caps) H' (.ret (AV.str (f x))) H')∧K (.bool (dsF [] (ts.map f)))
 |_,_,_=>False
theorem FG:EntOk Tryz.prog 253 (Ent.pure sE):=by
 refine Ype fun _ H K h=>?_
 unfold sE at h
 split at h
 rotate_left
 ·exact h.elim
 rename_i m l F fst caps
 obtain ⟨ts,f,⟨rfl,hl,hq⟩,hK⟩:=h
 refine ⟨_,hK,?_⟩
 clear hK
 generalize hR:dsF [] (ts.map f)=R
 refine ACalls.fW ak (tCq (cg (F:=F)) tNq) Tryz.func253 [.tmp 4] (nrq _) (T:=aj []) (h:=fun hcl hlt=>?_)
 have hm:∀ n',H.nx≤n'→AV.lt n' (.slice m 2 (ts.map bv)):=fun n' hn=>AV.lt_mono hn _ (hlt (.slice m 2 (ts.map bv)) (by simp))
 have hf:∀ n',H.nx≤n'→AV.lt n' (.func (.func F) fst caps):=fun n' hn=>AV.lt_mono hn _ (hlt (.func (.func F) fst caps) (by simp))
 clear hlt
 simp only [go_sem,ziw,ybb]
 refine ay (A:=Nat × List (List UInt8) × AHeap) (fun a=>[(1,.func (.func F) fst caps),(5,.mapv H.nx),(10,.slice m 2 (ts.map bv)),(11,.int .i64 (ts.length:Int)),(12,.int .i64 (a.1:Int))]) (fun a=>a.2.2)
  (fun a=>a.1≤ts.length∧dsF a.2.1 ((ts.drop a.1).map f)=R∧(∀ v∈a.2.1,CA v)∧H.Le a.2.2∧a.2.2.Closed∧a.2.2.get H.nx=some (.mapo (b5 AV.str a.2.1))) (fun a=>ts.length - a.1) (0,[],H.push (.mapo [])) ⟨Nat.zero_le _,hR,(fun v hv=>by cases hv),(lRq _).push _,bU hcl,AHeap.get_push_new _ _⟩ ?_ fun a ha=>?_
 ·(simp only [bkq,enterW,ba,ltF,ne_eq,Nat.reduceEqDiff,reduceCtorEq,hm,hf];try simp (disch:=first|exact Zd|omega) [↓zmo,beq,ybc,ybd,ybe,aa,wk,wk2,wk1,wkM,wkL,af,ybf,byq,biq,b9,hcl,hm,hf];try (repeat' (first|assumption|omega|exact True.intro|refine And.intro ?_ ?_|refine bc ?_|refine a0 ?_|refine ae ?_ ?_|refine bb ?_ ?_|refine bO ?_|exact lRq _|refine lPq ?_ _|refine AHeap.Le.del ?_ ?_|(simp only [bt,and_true,true_and,hm,hf];first|done|omega|(simp;done)))))
  exact bU hcl
 obtain ⟨k,sn,Hc⟩:=a
 clear hR
 obtain ⟨hk,hR,hsn,hle,hcc,hid⟩:=ha
 dsimp only at hk hR hsn hle hcc hid ⊢
 have hnx:H.nx<Hc.nx:=glq hid
 have hne:(H.nx=Hc.nx)=False:=eq_false (by omega)
 have hne2:(Hc.nx=H.nx)=False:=eq_false (by omega)
 simp only [go_sem]
 refine ah (fun hc=>?_) (fun hc=>?_)
 ·have hk':k<ts.length:=by simp at hc;omega
  obtain ⟨x,hx⟩:∃ x,x=ts[k]:=⟨_,rfl⟩
  have hd:ts.drop k=x::ts.drop (k+1):=by rw [hx];exact dcq hk'
  have hg':=aW (f:=bv) (l:=ts) (k:=k) (x:=x) (by rw [gQq hk',hx])
  have e5:=Yk5 k
  rw [hd,yae] at hR
  unfold dsF at hR
  obtain ⟨hgx,hqx⟩:=hq x (by rw [hx];exact gMq hk')
  have hcs:bv x=.agg [.str x.name,.int .i64 x.bits]:=rfl
  have hel:AV.lt (Hc.nx+1) (bv x):=by
   have h1:=hm (Hc.nx+1) (by have:=hle.nx;omega)
   rw [AV.lt] at h1
   have h2:=h1.2 k (by rw [ybb];exact hk')
   rw [List.getElem_map] at h2
   rwa [← hx] at h2
  rw [hcs] at hqx hel hg'
  rw [znr] at hel
  have hcp:(Hc.push (.cells [.str x.name,.int .i64 x.bits])).Closed:=ae hcc hel
  have hlp:H.Le (Hc.push (.cells [.str x.name,.int .i64 x.bits])):=hle.push _
  have hgp:(Hc.push (.cells [.str x.name,.int .i64 x.bits])).get H.nx=some (.mapo (b5 AV.str sn)):=by rw [zlh,if_neg (by omega)];exact hid
  simp only [go_sem,iNq,ybb,hg',hne2,eX]
  (repeat with_reducible refine Yq ?_)
  refine ⟨_,?_,hqx _ hlp hcp⟩
  have hmg:=re sn (f x)
  have hmu:=@au _ H.nx ((AV.str (f x),.bool true)::b5 AV.str sn) hcc
  have hsn':=eO iz hsn
  cases hb:sn.contains (f x) with
  |true =>
   rw [hb,if_pos rfl] at hmg
   rw [hb,Bool.not_true,Bool.false_and] at hR
   subst hR
   simp only [ag,go_sem,zix,hne,hid,hmg]
   refine ⟨⟨nE,hsn',iz _ hgx,rfl⟩,?_⟩
   try simp only [go_sem,hmg]
   exact Z4
  |false =>
   rw [hb,if_neg Bool.false_ne_true] at hmg
   rw [hb,Bool.not_false,Bool.true_and] at hR
   simp only [ag,go_sem,zix,ziy,hne,hid,hmg,e5]
   refine ⟨⟨nE,hsn',iz _ hgx,rfl⟩,?_⟩
   try simp only [go_sem,hmg,hid,hne,ziy,e5]
   refine ⟨⟨nE,hsn',iz _ hgx,rfl,rfl⟩,(k+1,f x::sn,Hc.set H.nx (.mapo (b5 AV.str (f x::sn)))),⟨by dsimp only;omega,hR,?_,df hle (nrq _),au hcc,?_⟩,by dsimp only;omega,?_⟩
   ·intro v hv
    rcases List.mem_cons.1 hv with rfl|hv
    ·exact hgx
    ·exact hsn v hv
   ·dsimp only
    rw [aG,if_pos rfl,if_pos (glq hid)]
   ·have hmu':(Hc.set H.nx (.mapo (b5 AV.str (f x::sn)))).Closed:=hmu
    have hrow:((AV.str (f x),AV.bool true)::b5 AV.str sn)=b5 AV.str (f x::sn):=rfl
    try rw [hrow]
    try simp only [hrow]
    exact Z5
 ·have hk':k=ts.length:=by simp at hc;omega
  subst hk'
  rw [List.drop_length] at hR
  have hR':true=R:=hR
  subst hR'
  simp only [go_sem]
  exact Z6
def tk:List AV→AHeap→(AV→Prop)→Prop
 |[.slice _ 3 l,.func (.func F) fst caps],H,K=>∃ (ts:List SKey) (f:SKey→List UInt8),(l=ts.map bN∧ts.length≤1000000∧∀ x∈ts,CA (f x)∧∀ H',H.Le H'→H'.Closed→ACalls Tryz.prog F (fst++[bN x]++caps) H' (.ret (AV.str (f x))) H')∧K (.bool (dsF [] (ts.map f)))
 |_,_,_=>False
theorem EG:EntOk Tryz.prog 256 (Ent.pure tk):=by
 refine Ype fun _ H K h=>?_
 unfold tk at h
 split at h
 rotate_left
 ·exact h.elim
 rename_i m l F fst caps
 obtain ⟨ts,f,⟨rfl,hl,hq⟩,hK⟩:=h
 refine ⟨_,hK,?_⟩
 clear hK
 generalize hR:dsF [] (ts.map f)=R
 refine ACalls.fW ak (tCq (cg (F:=F)) tNq) Tryz.func256 [.tmp 4] (nrq _) (T:=aj []) (h:=fun hcl hlt=>?_)
 have hm:∀ n',H.nx≤n'→AV.lt n' (.slice m 3 (ts.map bN)):=fun n' hn=>AV.lt_mono hn _ (hlt (.slice m 3 (ts.map bN)) (by simp))
 have hf:∀ n',H.nx≤n'→AV.lt n' (.func (.func F) fst caps):=fun n' hn=>AV.lt_mono hn _ (hlt (.func (.func F) fst caps) (by simp))
 clear hlt
 simp only [go_sem,ziw,ybb]
 refine ay (A:=Nat × List (List UInt8) × AHeap) (fun a=>[(1,.func (.func F) fst caps),(5,.mapv H.nx),(10,.slice m 3 (ts.map bN)),(11,.int .i64 (ts.length:Int)),(12,.int .i64 (a.1:Int))]) (fun a=>a.2.2)
  (fun a=>a.1≤ts.length∧dsF a.2.1 ((ts.drop a.1).map f)=R∧(∀ v∈a.2.1,CA v)∧H.Le a.2.2∧a.2.2.Closed∧a.2.2.get H.nx=some (.mapo (b5 AV.str a.2.1))) (fun a=>ts.length - a.1) (0,[],H.push (.mapo [])) ⟨Nat.zero_le _,hR,(fun v hv=>by cases hv),(lRq _).push _,bU hcl,AHeap.get_push_new _ _⟩ ?_ fun a ha=>?_
 ·(simp only [bkq,enterW,ba,ltF,ne_eq,Nat.reduceEqDiff,reduceCtorEq,hm,hf];try simp (disch:=first|exact Zd|omega) [↓zmo,beq,ybc,ybd,ybe,aa,wk,wk2,wk1,wkM,wkL,af,ybf,byq,biq,b9,hcl,hm,hf];try (repeat' (first|assumption|omega|exact True.intro|refine And.intro ?_ ?_|refine bc ?_|refine a0 ?_|refine ae ?_ ?_|refine bb ?_ ?_|refine bO ?_|exact lRq _|refine lPq ?_ _|refine AHeap.Le.del ?_ ?_|(simp only [bt,and_true,true_and,hm,hf];first|done|omega|(simp;done)))))
  exact bU hcl
 obtain ⟨k,sn,Hc⟩:=a
 clear hR
 obtain ⟨hk,hR,hsn,hle,hcc,hid⟩:=ha
 dsimp only at hk hR hsn hle hcc hid ⊢
 have hnx:H.nx<Hc.nx:=glq hid
 have hne:(H.nx=Hc.nx)=False:=eq_false (by omega)
 have hne2:(Hc.nx=H.nx)=False:=eq_false (by omega)
 simp only [go_sem]
 refine ah (fun hc=>?_) (fun hc=>?_)
 ·have hk':k<ts.length:=by simp at hc;omega
  obtain ⟨x,hx⟩:∃ x,x=ts[k]:=⟨_,rfl⟩
  have hd:ts.drop k=x::ts.drop (k+1):=by rw [hx];exact dcq hk'
  have hg':=aW (f:=bN) (l:=ts) (k:=k) (x:=x) (by rw [gQq hk',hx])
  have e5:=Yk5 k
  rw [hd,yae] at hR
  unfold dsF at hR
  obtain ⟨hgx,hqx⟩:=hq x (by rw [hx];exact gMq hk')
  have hcs:bN x=.agg [.str x.name,.int .i64 x.field,.int .i64 x.kind]:=rfl
  have hel:AV.lt (Hc.nx+1) (bN x):=by
   have h1:=hm (Hc.nx+1) (by have:=hle.nx;omega)
   rw [AV.lt] at h1
   have h2:=h1.2 k (by rw [ybb];exact hk')
   rw [List.getElem_map] at h2
   rwa [← hx] at h2
  rw [hcs] at hqx hel hg'
  rw [znr] at hel
  have hcp:(Hc.push (.cells [.str x.name,.int .i64 x.field,.int .i64 x.kind])).Closed:=ae hcc hel
  have hlp:H.Le (Hc.push (.cells [.str x.name,.int .i64 x.field,.int .i64 x.kind])):=hle.push _
  have hgp:(Hc.push (.cells [.str x.name,.int .i64 x.field,.int .i64 x.kind])).get H.nx=some (.mapo (b5 AV.str sn)):=by rw [zlh,if_neg (by omega)];exact hid
  simp only [go_sem,iNq,ybb,hg',hne2,eX]
  (repeat with_reducible refine Yq ?_)
  refine ⟨_,?_,hqx _ hlp hcp⟩
  have hmg:=re sn (f x)
  have hmu:=@au _ H.nx ((AV.str (f x),.bool true)::b5 AV.str sn) hcc
  have hsn':=eO iz hsn
  cases hb:sn.contains (f x) with
  |true =>
   rw [hb,if_pos rfl] at hmg
   rw [hb,Bool.not_true,Bool.false_and] at hR
   subst hR
   simp only [ag,go_sem,zix,hne,hid,hmg]
   refine ⟨⟨nE,hsn',iz _ hgx,rfl⟩,?_⟩
   try simp only [go_sem,hmg]
   exact Z4
  |false =>
   rw [hb,if_neg Bool.false_ne_true] at hmg
   rw [hb,Bool.not_false,Bool.true_and] at hR
   simp only [ag,go_sem,zix,ziy,hne,hid,hmg,e5]
   refine ⟨⟨nE,hsn',iz _ hgx,rfl⟩,?_⟩
   try simp only [go_sem,hmg,hid,hne,ziy,e5]
   refine ⟨⟨nE,hsn',iz _ hgx,rfl,rfl⟩,(k+1,f x::sn,Hc.set H.nx (.mapo (b5 AV.str (f x::sn)))),⟨by dsimp only;omega,hR,?_,df hle (nrq _),au hcc,?_⟩,by dsimp only;omega,?_⟩
   ·intro v hv
    rcases List.mem_cons.1 hv with rfl|hv
    ·exact hgx
    ·exact hsn v hv
   ·dsimp only
    rw [aG,if_pos rfl,if_pos (glq hid)]
   ·have hmu':(Hc.set H.nx (.mapo (b5 AV.str (f x::sn)))).Closed:=hmu
    have hrow:((AV.str (f x),AV.bool true)::b5 AV.str sn)=b5 AV.str (f x::sn):=rfl
    try rw [hrow]
    try simp only [hrow]
    exact Z5
 ·have hk':k=ts.length:=by simp at hc;omega
  subst hk'
  rw [List.drop_length] at hR
  have hR':true=R:=hR
  subst hR'
  simp only [go_sem]
  exact Z6
def qo (P:Program) (F:FuncId):List AV→AHeap→(AEnd→AHeap→Prop)→Prop:=fun args H K=>∃ x H1,K x H1∧ACalls P F args H x H1
theorem ib {P:Program} {F:FuncId}:EntOk P F (Ent.effect (qo P F)):=EntOk.effect fun _ _ _ h=>h
def ixS {α σ:Type} (st:α→σ→Bool × σ):List α→σ→Nat→Int × σ
 |[],s,_=>(-1,s)
 |x::l,s,k=>if (st x s).1 then ((k:Int),(st x s).2) else ixS st l (st x s).2 (k+1)
def evS {α σ:Type} (st:α→σ→Bool × σ):List α→σ→Bool × σ
 |[],s=>(true,s)
 |x::l,s=>if (st x s).1 then evS st l (st x s).2 else (false,(st x s).2)
theorem gN {α σ:Type} {st:α→σ→Bool × σ}:∀ {l:List α} {s:σ} {k:Nat},(decide (0≤(ixS (fun x s=>(!(st x s).1,(st x s).2)) l s k).1),(ixS (fun x s=>(!(st x s).1,(st x s).2)) l s k).2)=(!(evS st l s).1,(evS st l s).2)
 |[],s,k=>rfl
 |x::l,s,k=>by
  unfold ixS evS
  dsimp only
  cases h:(st x s).1
  ·rw [Bool.not_false,if_pos rfl,if_neg (by decide)]
   dsimp only
   rw [dtq (Int.natCast_nonneg _)];rfl
  ·rw [Bool.not_true,if_neg (by decide),if_pos rfl,gN]
abbrev mpV (s:List VN):AObj:=.mapo (b5 gR s)
def Stp {α:Type} (P:Program) (av:α→AV) (F:FuncId) (fst caps:List AV) (H:AHeap) (id:Nat) (g:List VN→Prop) (st:α→List VN→Bool × List VN) (x:α):Prop :=
 ∀ s,g s→g (st x s).2∧∀ H',(H.set id (mpV s)).Le H'→H'.Closed→ACalls P F (fst++[av x]++caps) H' (.ret (.bool (st x s).1)) (H'.set id (mpV (st x s).2))
theorem iV {H H':AHeap} {i:Nat} {a b:AObj} (h:(H.set i a).Le H'):(H.set i b).Le (H'.set i b):=by
 have hn:=h.nx
 rw [zlf] at hn
 refine ⟨by rw [zlf,zlf];exact hn,fun j o hj=>?_⟩
 have hjl:=glq hj
 rw [zlf] at hjl
 rw [aG] at hj ⊢
 by_cases e:j=i
 ·subst e
  rw [if_pos rfl,if_pos hjl] at hj
  rw [if_pos rfl,if_pos (by omega)]
  exact hj
 ·rw [if_neg e] at hj ⊢
  refine h.get j o ?_
  rw [aG,if_neg e]
  exact hj
def eIx {α:Type} (P:Program) (av:α→AV) (sz:Nat):List AV→AHeap→(AEnd→AHeap→Prop)→Prop
 |[x,.func (.func F) fst caps],H,K=>∃ (ts:List α) (id:Nat) (sn:List VN) (st:α→List VN→Bool × List VN) (g:List VN→Prop),(x=.slice x.smk sz (ts.map av)∧ts.length≤1000000∧H.get id=some (mpV sn)∧g sn∧∀ x∈ts,Stp P av F fst caps H id g st x)∧K (.ret (.int .i64 (ixS st ts sn 0).1)) (H.set id (mpV (ixS st ts sn 0).2))
 |_,_,_=>False
theorem pe {α:Type} {P:Program} {f:FuncId} {av:α→AV} {sz:Nat} (h:∀ (av':α→AV) (sz':Nat),av'=av→sz'=sz→∀ (m:Mark) (ts:List α) (id:Nat) (sn:List VN) (st:α→List VN→Bool × List VN) (g:List VN→Prop) (F:FuncId) (fst caps:List AV) (H:AHeap),ts.length≤1000000→H.get id=some (mpV sn)→g sn→(∀ x∈ts,Stp P av' F fst caps H id g st x)→ACalls P f [.slice m sz' (ts.map av'),.func (.func F) fst caps] H (.ret (.int .i64 (ixS st ts sn 0).1)) (H.set id (mpV (ixS st ts sn 0).2))):EntOk P f (Ent.effect (eIx P av sz)):=by
 refine EntOk.effect fun args H K hh=>?_
 unfold eIx at hh
 split at hh
 ·obtain ⟨ts,id,sn,st,g,⟨h1,h2,h3,h4,h5⟩,h6⟩:=hh
  rw [h1]
  exact ⟨_,_,h6,h av sz rfl rfl _ ts id sn st g _ _ _ _ h2 h3 h4 h5⟩
 ·exact hh.elim
def eAn {α:Type} (P:Program) (av:α→AV) (sz:Nat):List AV→AHeap→(AEnd→AHeap→Prop)→Prop
 |[x,.func (.func F) fst caps],H,K=>∃ (ts:List α) (id:Nat) (sn:List VN) (st:α→List VN→Bool × List VN) (g:List VN→Prop),(x=.slice x.smk sz (ts.map av)∧ts.length≤1000000∧H.get id=some (mpV sn)∧g sn∧∀ x∈ts,Stp P av F fst caps H id g st x)∧K (.ret (.bool (decide (0≤(ixS st ts sn 0).1)))) (H.set id (mpV (ixS st ts sn 0).2))
 |_,_,_=>False
theorem pD {α:Type} {P:Program} {f:FuncId} {av:α→AV} {sz:Nat} (h:∀ (av':α→AV) (sz':Nat),av'=av→sz'=sz→∀ (m:Mark) (ts:List α) (id:Nat) (sn:List VN) (st:α→List VN→Bool × List VN) (g:List VN→Prop) (F:FuncId) (fst caps:List AV) (H:AHeap),ts.length≤1000000→H.get id=some (mpV sn)→g sn→(∀ x∈ts,Stp P av' F fst caps H id g st x)→ACalls P f [.slice m sz' (ts.map av'),.func (.func F) fst caps] H (.ret (.bool (decide (0≤(ixS st ts sn 0).1)))) (H.set id (mpV (ixS st ts sn 0).2))):EntOk P f (Ent.effect (eAn P av sz)):=by
 refine EntOk.effect fun args H K hh=>?_
 unfold eAn at hh
 split at hh
 ·obtain ⟨ts,id,sn,st,g,⟨h1,h2,h3,h4,h5⟩,h6⟩:=hh
  rw [h1]
  exact ⟨_,_,h6,h av sz rfl rfl _ ts id sn st g _ _ _ _ h2 h3 h4 h5⟩
 ·exact hh.elim
def eEv {α:Type} (P:Program) (av:α→AV) (sz:Nat):List AV→AHeap→(AEnd→AHeap→Prop)→Prop
 |[x,.func (.func F) fst caps],H,K=>∃ (ts:List α) (id:Nat) (sn:List VN) (st:α→List VN→Bool × List VN) (g:List VN→Prop),(x=.slice x.smk sz (ts.map av)∧ts.length≤1000000∧H.get id=some (mpV sn)∧g sn∧∀ x∈ts,Stp P av F fst caps H id g st x)∧K (.ret (.bool (evS st ts sn).1)) (H.set id (mpV (evS st ts sn).2))
 |_,_,_=>False
theorem pZ {α:Type} {P:Program} {f:FuncId} {av:α→AV} {sz:Nat} (h:∀ (av':α→AV) (sz':Nat),av'=av→sz'=sz→∀ (m:Mark) (ts:List α) (id:Nat) (sn:List VN) (st:α→List VN→Bool × List VN) (g:List VN→Prop) (F:FuncId) (fst caps:List AV) (H:AHeap),ts.length≤1000000→H.get id=some (mpV sn)→g sn→(∀ x∈ts,Stp P av' F fst caps H id g st x)→ACalls P f [.slice m sz' (ts.map av'),.func (.func F) fst caps] H (.ret (.bool (evS st ts sn).1)) (H.set id (mpV (evS st ts sn).2))):EntOk P f (Ent.effect (eEv P av sz)):=by
 refine EntOk.effect fun args H K hh=>?_
 unfold eEv at hh
 split at hh
 ·obtain ⟨ts,id,sn,st,g,⟨h1,h2,h3,h4,h5⟩,h6⟩:=hh
  rw [h1]
  exact ⟨_,_,h6,h av sz rfl rfl _ ts id sn st g _ _ _ _ h2 h3 h4 h5⟩
 ·exact hh.elim
def eCl {α:Type} (P:Program) (av:α→AV):List AV→AHeap→(AEnd→AHeap→Prop)→Prop
 |[x,.ptr c 0],H,K=>∃ (t:α) (id:Nat) (sn:List VN) (st:α→List VN→Bool × List VN) (g:List VN→Prop) (F:FuncId) (fst caps:List AV),(x=av t∧H.get c=some (.cells [.func (.func F) fst caps])∧H.get id=some (mpV sn)∧g sn∧Stp P av F fst caps H id g st t)∧K (.ret (.bool (!(st t sn).1))) (H.set id (mpV (st t sn).2))
 |_,_,_=>False
theorem qg {α:Type} {P:Program} {f:FuncId} {av:α→AV} (h:∀ (av':α→AV),av'=av→∀ (x:α) (c id:Nat) (sn:List VN) (st:α→List VN→Bool × List VN) (g:List VN→Prop) (F:FuncId) (fst caps:List AV) (H:AHeap),H.get c=some (.cells [.func (.func F) fst caps])→H.get id=some (mpV sn)→g sn→Stp P av' F fst caps H id g st x→ACalls P f [av' x,.ptr c 0] H (.ret (.bool (!(st x sn).1))) (H.set id (mpV (st x sn).2))):EntOk P f (Ent.effect (eCl P av)):=by
 refine EntOk.effect fun args H K hh=>?_
 unfold eCl at hh
 split at hh
 ·obtain ⟨t,id,sn,st,g,F,fst,caps,⟨h1,h2,h3,h4,h5⟩,h6⟩:=hh
  rw [h1]
  exact ⟨_,_,h6,h av rfl t _ id sn st g _ _ _ _ h2 h3 h4 h5⟩
 ·exact hh.elim
attribute [go_sem] eIx eAn eEv eCl
abbrev Jk:=@eIx SField Tryz.prog aV 3
abbrev HJ:=@eAn SField Tryz.prog aV 3
abbrev xF:=@eEv SField Tryz.prog aV 3
abbrev G5:=@eCl SField Tryz.prog aV
theorem FL:EntOk Tryz.prog 318 (Ent.effect Jk):=pe fun av sz ha hs m ts id sn st g F fst caps H hl hid hg hq=>by
 have hag:∀ x,∃ cs,av x=.agg cs∧cs.length=sz:=by subst ha hs;exact fun x=>⟨_,rfl,rfl⟩
 refine ACalls.fW ak (tCq (ib (F:=F)) tNq) Tryz.func318 [.tmp 4] (nrq _) (T:=aj []) (h:=fun hcl hlt=>?_)
 generalize hR:ixS st ts sn 0=R
 have hnx:id<H.nx:=glq hid
 have hss:=cU hid
 have hm:AV.lt H.nx (.slice m sz (ts.map av)):=hlt _ (by simp)
 have hf:AV.lt H.nx (.func (.func F) fst caps):=hlt _ (by simp)
 clear hlt
 simp only [go_sem,ybb]
 refine ay (A:=Nat × List VN) (fun a=>[(0,.slice m sz (ts.map av)),(1,.func (.func F) fst caps),(7,.int .i64 (ts.length:Int)),(8,.int .i64 (a.1:Int))]) (fun a=>H.set id (mpV a.2)) (fun a=>a.1≤ts.length∧g a.2∧ixS st (ts.drop a.1) a.2 a.1=R) (fun a=>ts.length - a.1) (0,sn) ⟨by dsimp only;omega,hg,hR⟩ ?_ fun a hk=>?_
 ·dsimp only
  rw [hss]
  exact ⟨nrq _,lRq _,hcl,by simp [ltF,znf,hm,hf],by simp [ba,wk2,wk1,wkM,Fr.get]⟩
 clear hR
 obtain ⟨k,s⟩:=a
 obtain ⟨hk,hgs,hR⟩:=hk
 dsimp only at hk hgs hR ⊢
 have hcc:(H.set id (mpV s)).Closed:=au hcl
 simp only [go_sem]
 refine ah (fun hc=>?_) (fun hc=>?_)
 ·have hk':k<ts.length:=by simp at hc;omega
  obtain ⟨x,hx⟩:∃ x,x=ts[k]:=⟨_,rfl⟩
  have hd:ts.drop k=x::ts.drop (k+1):=by rw [hx];exact dcq hk'
  have hg':=aW (f:=av) (l:=ts) (k:=k) (x:=x) (by rw [gQq hk',hx])
  have e5:=Yk5 k
  rw [hd] at hR
  unfold ixS at hR
  obtain ⟨hg2,hqx⟩:=hq x (by rw [hx];exact gMq hk') s hgs
  have hqx:=hqx _ (lRq _) hcc
  have hc2:(H.set id (mpV (st x s).2)).Closed:=au hcl
  obtain ⟨cs,hcs,hcl3⟩:=hag x
  have hts:List.take sz cs=cs:=ybc (by omega)
  rw [hcs] at hqx hg'
  clear ha hag
  subst hs
  simp only [go_sem,iNq,ybb,hg',hcl3,hts,qo]
  (repeat with_reducible refine Yq ?_)
  refine ⟨_,_,?_,hqx⟩
  try simp only [aJ,go_sem]
  refine ah (fun hq=>?_) (fun hq=>?_)
  ·rw [if_pos hq] at hR
   subst hR
   simp only [go_sem]
   exact Z7
  ·rw [if_neg (by rw [hq];decide)] at hR
   simp only [go_sem,e5]
   exact ⟨(k+1,(st x s).2),⟨by dsimp only;omega,hg2,hR⟩,by dsimp only;omega,nrq _,lRq _,hc2,by simp [ltF,znf,hm,hf,zlf],by simp [ba,wk2,wk1,wkM,Fr.get]⟩
 ·have hk':k=ts.length:=by simp at hc;omega
  subst hk'
  rw [List.drop_length] at hR
  unfold ixS at hR
  subst hR
  simp only [go_sem]
  exact Z8
theorem FK:EntOk Tryz.prog 233 (Ent.effect HJ):=pD fun av sz ha hs m ts id sn st g F fst caps H hl hid hg hq=>by
 refine ACalls.fW ak (tCq FL tNq) Tryz.func233 [.tmp 4] (nrq _) (T:=aj []) (h:=fun hcl hlt=>?_)
 have hcc:(H.set id (mpV (ixS st ts sn 0).2)).Closed:=au hcl
 clear hlt
 subst hs
 simp only [go_sem]
 refine ⟨ts,id,sn,st,g,⟨by rw [ha];rfl,hl,hid,hg,by rw [← ha];exact hq⟩,?_⟩
 generalize ixS st ts sn 0=R at *
 try simp only [aJ,go_sem]
 exact Z9
theorem Bq:EntOk Tryz.prog 234 (Ent.effect G5):=qg fun av ha x c id sn st g F fst caps H hg hid hgs hq=>by
 have hag:∀ x,∃ cs,av x=.agg cs∧cs.length=3:=by subst ha;exact fun x=>⟨_,rfl,rfl⟩
 refine ACalls.fW ak (tCq (ib (F:=F)) tNq) Tryz.func234 [.tmp 3] (nrq _) (T:=aj []) (h:=fun hcl hlt=>?_)
 have hcs:=aq hg
 have hl:=glq hg
 have hl2:=glq hid
 have hne:(c=H.nx)=False:=eq_false (by omega)
 have hne2:(id=H.nx)=False:=eq_false (by omega)
 have hss:=cU hid
 obtain ⟨hg2,hqx⟩:=hq sn hgs
 obtain ⟨cs,hav,hcl3⟩:=hag x
 have hts:=ybc (Nat.le_of_eq hcl3)
 rw [hav] at hqx hlt ⊢
 have hlx:=hlt _ (List.mem_cons_self)
 clear hlt
 have h0:=AV.lt_mono (Nat.le_succ H.nx) _ hlx
 rw [znr] at h0
 have hcp:(H.push (.cells cs)).Closed:=ae hcl h0
 have hc2:(H.set id (mpV (st x sn).2)).Closed:=au hcl
 have hq1:=hqx (H.push (.cells cs)) (by rw [hss];exact (lRq _).push _) hcp
 rw [zli,if_neg (by omega)] at hq1
 simp only [go_sem,hcs,hne,hg,hcl3,hts,qo]
 refine ⟨_,_,?_,hq1⟩
 try simp only [aJ,go_sem]
 exact Z7
theorem FB:EntOk Tryz.prog 75 (Ent.effect xF):=pZ fun av sz ha hs m ts id sn st g F fst caps H hl hid hg hq=>by
 have hL:EntOk Tryz.prog 234 (Ent.effect (eCl Tryz.prog av)):=by rw [ha];exact Bq
 rw [← congrArg Prod.snd (@gN _ _ st ts sn 0)]
 refine ACalls.fW ak (tCq FK tNq) Tryz.func75 [.tmp 4] (nrq _) (T:=aj []) (h:=fun hcl hlt=>?_)
 have hR1:=congrArg Prod.fst (@gN _ _ st ts sn 0)
 dsimp only at hR1 ⊢
 generalize hX:evS st ts sn=X at *
 have hl2:=glq hid
 have hne2:(id=H.nx)=False:=eq_false (by omega)
 have hfx:=hlt _ (List.mem_cons_of_mem _ List.mem_cons_self)
 clear hlt
 have hcp:(H.push (.cells [.func (.func F) fst caps])).Closed:=ae hcl (by simp only [znu,znv,and_true];exact AV.lt_mono (Nat.le_succ H.nx) _ hfx)
 subst hs
 simp only [go_sem]
 refine ⟨ts,id,sn,fun x s=>(!(st x s).1,(st x s).2),g,⟨by rw [ha];rfl,hl,?_,hg,fun x hx s hs=>?_⟩,?_⟩
 ·rw [if_neg (by omega)];exact hid
 ·obtain ⟨h1,h2⟩:=hq x hx s hs
  refine ⟨h1,fun H' hle hcl'=>?_⟩
  rw [zli,if_neg (by omega)] at hle
  have hle0:(H.set id (mpV s)).Le H':=((lRq _).push _).trans hle
  have hg0:H'.get H.nx=some (.cells [.func (.func F) fst caps]):=hle.get _ _ (AHeap.get_push_new _ _)
  have hid':H'.get id=some (mpV s):=by
   refine hle.get _ _ ?_
   rw [zlh,if_neg (by rw [zlf];omega),aG,if_pos rfl,if_pos hl2]
  rw [← ha]
  obtain ⟨v,H1,⟨hv,hH⟩,hc⟩:=hL.2.1 rfl [av x,.ptr H.nx 0] H' (fun v H1=>v=.ret (.bool (!(st x s).1))∧H1=H'.set id (mpV (st x s).2)) ⟨x,id,s,st,g,F,fst,caps,⟨rfl,hg0,hid',hs,fun s' hs'=>⟨(hq x hx s' hs').1,fun H2 h3 h4=>(hq x hx s' hs').2 H2 ((iV hle0).trans h3) h4⟩⟩,rfl,rfl⟩
  subst hv hH
  exact hc
 ·rw [hR1]
  try simp only [aJ,go_sem]
  have hc2:=@au _ id (b5 gR (ixS (fun x s=>(!(st x s).1,(st x s).2)) ts sn 0).2) hcl
  exact Z10
abbrev Hk:=@eIx SHeader Tryz.prog aH 3
abbrev Hy:=@eAn SHeader Tryz.prog aH 3
abbrev xw:=@eEv SHeader Tryz.prog aH 3
abbrev IY:=@eCl SHeader Tryz.prog aH
theorem Ee:EntOk Tryz.prog 319 (Ent.effect Hk):=pe fun av sz ha hs m ts id sn st g F fst caps H hl hid hg hq=>by
 have hag:∀ x,∃ cs,av x=.agg cs∧cs.length=sz:=by subst ha hs;exact fun x=>⟨_,rfl,rfl⟩
 refine ACalls.fW ak (tCq (ib (F:=F)) tNq) Tryz.func319 [.tmp 4] (nrq _) (T:=aj []) (h:=fun hcl hlt=>?_)
 generalize hR:ixS st ts sn 0=R
 have hnx:id<H.nx:=glq hid
 have hss:=cU hid
 have hm:AV.lt H.nx (.slice m sz (ts.map av)):=hlt _ (by simp)
 have hf:AV.lt H.nx (.func (.func F) fst caps):=hlt _ (by simp)
 clear hlt
 simp only [go_sem,ybb]
 refine ay (A:=Nat × List VN) (fun a=>[(0,.slice m sz (ts.map av)),(1,.func (.func F) fst caps),(7,.int .i64 (ts.length:Int)),(8,.int .i64 (a.1:Int))]) (fun a=>H.set id (mpV a.2)) (fun a=>a.1≤ts.length∧g a.2∧ixS st (ts.drop a.1) a.2 a.1=R) (fun a=>ts.length - a.1) (0,sn) ⟨by dsimp only;omega,hg,hR⟩ ?_ fun a hk=>?_
 ·dsimp only
  rw [hss]
  exact ⟨nrq _,lRq _,hcl,by simp [ltF,znf,hm,hf],by simp [ba,wk2,wk1,wkM,Fr.get]⟩
 clear hR
 obtain ⟨k,s⟩:=a
 obtain ⟨hk,hgs,hR⟩:=hk
 dsimp only at hk hgs hR ⊢
 have hcc:(H.set id (mpV s)).Closed:=au hcl
 simp only [go_sem]
 refine ah (fun hc=>?_) (fun hc=>?_)
 ·have hk':k<ts.length:=by simp at hc;omega
  obtain ⟨x,hx⟩:∃ x,x=ts[k]:=⟨_,rfl⟩
  have hd:ts.drop k=x::ts.drop (k+1):=by rw [hx];exact dcq hk'
  have hg':=aW (f:=av) (l:=ts) (k:=k) (x:=x) (by rw [gQq hk',hx])
  have e5:=Yk5 k
  rw [hd] at hR
  unfold ixS at hR
  obtain ⟨hg2,hqx⟩:=hq x (by rw [hx];exact gMq hk') s hgs
  have hqx:=hqx _ (lRq _) hcc
  have hc2:(H.set id (mpV (st x s).2)).Closed:=au hcl
  obtain ⟨cs,hcs,hcl3⟩:=hag x
  have hts:List.take sz cs=cs:=ybc (by omega)
  rw [hcs] at hqx hg'
  clear ha hag
  subst hs
  simp only [go_sem,iNq,ybb,hg',hcl3,hts,qo]
  (repeat with_reducible refine Yq ?_)
  refine ⟨_,_,?_,hqx⟩
  try simp only [aJ,go_sem]
  refine ah (fun hq=>?_) (fun hq=>?_)
  ·rw [if_pos hq] at hR
   subst hR
   simp only [go_sem]
   exact Z7
  ·rw [if_neg (by rw [hq];decide)] at hR
   simp only [go_sem,e5]
   exact ⟨(k+1,(st x s).2),⟨by dsimp only;omega,hg2,hR⟩,by dsimp only;omega,nrq _,lRq _,hc2,by simp [ltF,znf,hm,hf,zlf],by simp [ba,wk2,wk1,wkM,Fr.get]⟩
 ·have hk':k=ts.length:=by simp at hc;omega
  subst hk'
  rw [List.drop_length] at hR
  unfold ixS at hR
  subst hR
  simp only [go_sem]
  exact Z8
theorem D2:EntOk Tryz.prog 235 (Ent.effect Hy):=pD fun av sz ha hs m ts id sn st g F fst caps H hl hid hg hq=>by
 refine ACalls.fW ak (tCq Ee tNq) Tryz.func235 [.tmp 4] (nrq _) (T:=aj []) (h:=fun hcl hlt=>?_)
 have hcc:(H.set id (mpV (ixS st ts sn 0).2)).Closed:=au hcl
 clear hlt
 subst hs
 simp only [go_sem]
 refine ⟨ts,id,sn,st,g,⟨by rw [ha];rfl,hl,hid,hg,by rw [← ha];exact hq⟩,?_⟩
 generalize ixS st ts sn 0=R at *
 try simp only [aJ,go_sem]
 exact Z9
theorem AH:EntOk Tryz.prog 236 (Ent.effect IY):=qg fun av ha x c id sn st g F fst caps H hg hid hgs hq=>by
 have hag:∀ x,∃ cs,av x=.agg cs∧cs.length=3:=by subst ha;exact fun x=>⟨_,rfl,rfl⟩
 refine ACalls.fW ak (tCq (ib (F:=F)) tNq) Tryz.func236 [.tmp 3] (nrq _) (T:=aj []) (h:=fun hcl hlt=>?_)
 have hcs:=aq hg
 have hl:=glq hg
 have hl2:=glq hid
 have hne:(c=H.nx)=False:=eq_false (by omega)
 have hne2:(id=H.nx)=False:=eq_false (by omega)
 have hss:=cU hid
 obtain ⟨hg2,hqx⟩:=hq sn hgs
 obtain ⟨cs,hav,hcl3⟩:=hag x
 have hts:=ybc (Nat.le_of_eq hcl3)
 rw [hav] at hqx hlt ⊢
 have hlx:=hlt _ (List.mem_cons_self)
 clear hlt
 have h0:=AV.lt_mono (Nat.le_succ H.nx) _ hlx
 rw [znr] at h0
 have hcp:(H.push (.cells cs)).Closed:=ae hcl h0
 have hc2:(H.set id (mpV (st x sn).2)).Closed:=au hcl
 have hq1:=hqx (H.push (.cells cs)) (by rw [hss];exact (lRq _).push _) hcp
 rw [zli,if_neg (by omega)] at hq1
 simp only [go_sem,hcs,hne,hg,hcl3,hts,qo]
 refine ⟨_,_,?_,hq1⟩
 try simp only [aJ,go_sem]
 exact Z7
theorem Bh:EntOk Tryz.prog 78 (Ent.effect xw):=pZ fun av sz ha hs m ts id sn st g F fst caps H hl hid hg hq=>by
 have hL:EntOk Tryz.prog 236 (Ent.effect (eCl Tryz.prog av)):=by rw [ha];exact AH
 rw [← congrArg Prod.snd (@gN _ _ st ts sn 0)]
 refine ACalls.fW ak (tCq D2 tNq) Tryz.func78 [.tmp 4] (nrq _) (T:=aj []) (h:=fun hcl hlt=>?_)
 have hR1:=congrArg Prod.fst (@gN _ _ st ts sn 0)
 dsimp only at hR1 ⊢
 generalize hX:evS st ts sn=X at *
 have hl2:=glq hid
 have hne2:(id=H.nx)=False:=eq_false (by omega)
 have hfx:=hlt _ (List.mem_cons_of_mem _ List.mem_cons_self)
 clear hlt
 have hcp:(H.push (.cells [.func (.func F) fst caps])).Closed:=ae hcl (by simp only [znu,znv,and_true];exact AV.lt_mono (Nat.le_succ H.nx) _ hfx)
 subst hs
 simp only [go_sem]
 refine ⟨ts,id,sn,fun x s=>(!(st x s).1,(st x s).2),g,⟨by rw [ha];rfl,hl,?_,hg,fun x hx s hs=>?_⟩,?_⟩
 ·rw [if_neg (by omega)];exact hid
 ·obtain ⟨h1,h2⟩:=hq x hx s hs
  refine ⟨h1,fun H' hle hcl'=>?_⟩
  rw [zli,if_neg (by omega)] at hle
  have hle0:(H.set id (mpV s)).Le H':=((lRq _).push _).trans hle
  have hg0:H'.get H.nx=some (.cells [.func (.func F) fst caps]):=hle.get _ _ (AHeap.get_push_new _ _)
  have hid':H'.get id=some (mpV s):=by
   refine hle.get _ _ ?_
   rw [zlh,if_neg (by rw [zlf];omega),aG,if_pos rfl,if_pos hl2]
  rw [← ha]
  obtain ⟨v,H1,⟨hv,hH⟩,hc⟩:=hL.2.1 rfl [av x,.ptr H.nx 0] H' (fun v H1=>v=.ret (.bool (!(st x s).1))∧H1=H'.set id (mpV (st x s).2)) ⟨x,id,s,st,g,F,fst,caps,⟨rfl,hg0,hid',hs,fun s' hs'=>⟨(hq x hx s' hs').1,fun H2 h3 h4=>(hq x hx s' hs').2 H2 ((iV hle0).trans h3) h4⟩⟩,rfl,rfl⟩
  subst hv hH
  exact hc
 ·rw [hR1]
  try simp only [aJ,go_sem]
  have hc2:=@au _ id (b5 gR (ixS (fun x s=>(!(st x s).1,(st x s).2)) ts sn 0).2) hcl
  exact Z10
abbrev JC:=@eIx SAction Tryz.prog ax 5
abbrev HC:=@eAn SAction Tryz.prog ax 5
abbrev yw:=@eEv SAction Tryz.prog ax 5
abbrev I6:=@eCl SAction Tryz.prog ax
theorem CH:EntOk Tryz.prog 277 (Ent.effect JC):=pe fun av sz ha hs m ts id sn st g F fst caps H hl hid hg hq=>by
 have hag:∀ x,∃ cs,av x=.agg cs∧cs.length=sz:=by subst ha hs;exact fun x=>⟨_,rfl,rfl⟩
 refine ACalls.fW ak (tCq (ib (F:=F)) tNq) Tryz.func277 [.tmp 4] (nrq _) (T:=aj []) (h:=fun hcl hlt=>?_)
 generalize hR:ixS st ts sn 0=R
 have hnx:id<H.nx:=glq hid
 have hss:=cU hid
 have hm:AV.lt H.nx (.slice m sz (ts.map av)):=hlt _ (by simp)
 have hf:AV.lt H.nx (.func (.func F) fst caps):=hlt _ (by simp)
 clear hlt
 simp only [go_sem,ybb]
 refine ay (A:=Nat × List VN) (fun a=>[(0,.slice m sz (ts.map av)),(1,.func (.func F) fst caps),(7,.int .i64 (ts.length:Int)),(8,.int .i64 (a.1:Int))]) (fun a=>H.set id (mpV a.2)) (fun a=>a.1≤ts.length∧g a.2∧ixS st (ts.drop a.1) a.2 a.1=R) (fun a=>ts.length - a.1) (0,sn) ⟨by dsimp only;omega,hg,hR⟩ ?_ fun a hk=>?_
 ·dsimp only
  rw [hss]
  exact ⟨nrq _,lRq _,hcl,by simp [ltF,znf,hm,hf],by simp [ba,wk2,wk1,wkM,Fr.get]⟩
 clear hR
 obtain ⟨k,s⟩:=a
 obtain ⟨hk,hgs,hR⟩:=hk
 dsimp only at hk hgs hR ⊢
 have hcc:(H.set id (mpV s)).Closed:=au hcl
 simp only [go_sem]
 refine ah (fun hc=>?_) (fun hc=>?_)
 ·have hk':k<ts.length:=by simp at hc;omega
  obtain ⟨x,hx⟩:∃ x,x=ts[k]:=⟨_,rfl⟩
  have hd:ts.drop k=x::ts.drop (k+1):=by rw [hx];exact dcq hk'
  have hg':=aW (f:=av) (l:=ts) (k:=k) (x:=x) (by rw [gQq hk',hx])
  have e5:=Yk5 k
  rw [hd] at hR
  unfold ixS at hR
  obtain ⟨hg2,hqx⟩:=hq x (by rw [hx];exact gMq hk') s hgs
  have hqx:=hqx _ (lRq _) hcc
  have hc2:(H.set id (mpV (st x s).2)).Closed:=au hcl
  obtain ⟨cs,hcs,hcl3⟩:=hag x
  have hts:List.take sz cs=cs:=ybc (by omega)
  rw [hcs] at hqx hg'
  clear ha hag
  subst hs
  simp only [go_sem,iNq,ybb,hg',hcl3,hts,qo]
  (repeat with_reducible refine Yq ?_)
  refine ⟨_,_,?_,hqx⟩
  try simp only [aJ,go_sem]
  refine ah (fun hq=>?_) (fun hq=>?_)
  ·rw [if_pos hq] at hR
   subst hR
   simp only [go_sem]
   exact Z7
  ·rw [if_neg (by rw [hq];decide)] at hR
   simp only [go_sem,e5]
   exact ⟨(k+1,(st x s).2),⟨by dsimp only;omega,hg2,hR⟩,by dsimp only;omega,nrq _,lRq _,hc2,by simp [ltF,znf,hm,hf,zlf],by simp [ba,wk2,wk1,wkM,Fr.get]⟩
 ·have hk':k=ts.length:=by simp at hc;omega
  subst hk'
  rw [List.drop_length] at hR
  unfold ixS at hR
  subst hR
  simp only [go_sem]
  exact Z8
theorem E0:EntOk Tryz.prog 237 (Ent.effect HC):=pD fun av sz ha hs m ts id sn st g F fst caps H hl hid hg hq=>by
 refine ACalls.fW ak (tCq CH tNq) Tryz.func237 [.tmp 4] (nrq _) (T:=aj []) (h:=fun hcl hlt=>?_)
 have hcc:(H.set id (mpV (ixS st ts sn 0).2)).Closed:=au hcl
 clear hlt
 subst hs
 simp only [go_sem]
 refine ⟨ts,id,sn,st,g,⟨by rw [ha];rfl,hl,hid,hg,by rw [← ha];exact hq⟩,?_⟩
 generalize ixS st ts sn 0=R at *
 try simp only [aJ,go_sem]
 exact Z9
theorem FU:EntOk Tryz.prog 238 (Ent.effect I6):=qg fun av ha x c id sn st g F fst caps H hg hid hgs hq=>by
 have hag:∀ x,∃ cs,av x=.agg cs∧cs.length=5:=by subst ha;exact fun x=>⟨_,rfl,rfl⟩
 refine ACalls.fW ak (tCq (ib (F:=F)) tNq) Tryz.func238 [.tmp 3] (nrq _) (T:=aj []) (h:=fun hcl hlt=>?_)
 have hcs:=aq hg
 have hl:=glq hg
 have hl2:=glq hid
 have hne:(c=H.nx)=False:=eq_false (by omega)
 have hne2:(id=H.nx)=False:=eq_false (by omega)
 have hss:=cU hid
 obtain ⟨hg2,hqx⟩:=hq sn hgs
 obtain ⟨cs,hav,hcl3⟩:=hag x
 have hts:=ybc (Nat.le_of_eq hcl3)
 rw [hav] at hqx hlt ⊢
 have hlx:=hlt _ (List.mem_cons_self)
 clear hlt
 have h0:=AV.lt_mono (Nat.le_succ H.nx) _ hlx
 rw [znr] at h0
 have hcp:(H.push (.cells cs)).Closed:=ae hcl h0
 have hc2:(H.set id (mpV (st x sn).2)).Closed:=au hcl
 have hq1:=hqx (H.push (.cells cs)) (by rw [hss];exact (lRq _).push _) hcp
 rw [zli,if_neg (by omega)] at hq1
 simp only [go_sem,hcs,hne,hg,hcl3,hts,qo]
 refine ⟨_,_,?_,hq1⟩
 try simp only [aJ,go_sem]
 exact Z7
theorem C4:EntOk Tryz.prog 80 (Ent.effect yw):=pZ fun av sz ha hs m ts id sn st g F fst caps H hl hid hg hq=>by
 have hL:EntOk Tryz.prog 238 (Ent.effect (eCl Tryz.prog av)):=by rw [ha];exact FU
 rw [← congrArg Prod.snd (@gN _ _ st ts sn 0)]
 refine ACalls.fW ak (tCq E0 tNq) Tryz.func80 [.tmp 4] (nrq _) (T:=aj []) (h:=fun hcl hlt=>?_)
 have hR1:=congrArg Prod.fst (@gN _ _ st ts sn 0)
 dsimp only at hR1 ⊢
 generalize hX:evS st ts sn=X at *
 have hl2:=glq hid
 have hne2:(id=H.nx)=False:=eq_false (by omega)
 have hfx:=hlt _ (List.mem_cons_of_mem _ List.mem_cons_self)
 clear hlt
 have hcp:(H.push (.cells [.func (.func F) fst caps])).Closed:=ae hcl (by simp only [znu,znv,and_true];exact AV.lt_mono (Nat.le_succ H.nx) _ hfx)
 subst hs
 simp only [go_sem]
 refine ⟨ts,id,sn,fun x s=>(!(st x s).1,(st x s).2),g,⟨by rw [ha];rfl,hl,?_,hg,fun x hx s hs=>?_⟩,?_⟩
 ·rw [if_neg (by omega)];exact hid
 ·obtain ⟨h1,h2⟩:=hq x hx s hs
  refine ⟨h1,fun H' hle hcl'=>?_⟩
  rw [zli,if_neg (by omega)] at hle
  have hle0:(H.set id (mpV s)).Le H':=((lRq _).push _).trans hle
  have hg0:H'.get H.nx=some (.cells [.func (.func F) fst caps]):=hle.get _ _ (AHeap.get_push_new _ _)
  have hid':H'.get id=some (mpV s):=by
   refine hle.get _ _ ?_
   rw [zlh,if_neg (by rw [zlf];omega),aG,if_pos rfl,if_pos hl2]
  rw [← ha]
  obtain ⟨v,H1,⟨hv,hH⟩,hc⟩:=hL.2.1 rfl [av x,.ptr H.nx 0] H' (fun v H1=>v=.ret (.bool (!(st x s).1))∧H1=H'.set id (mpV (st x s).2)) ⟨x,id,s,st,g,F,fst,caps,⟨rfl,hg0,hid',hs,fun s' hs'=>⟨(hq x hx s' hs').1,fun H2 h3 h4=>(hq x hx s' hs').2 H2 ((iV hle0).trans h3) h4⟩⟩,rfl,rfl⟩
  subst hv hH
  exact hc
 ·rw [hR1]
  try simp only [aJ,go_sem]
  have hc2:=@au _ id (b5 gR (ixS (fun x s=>(!(st x s).1,(st x s).2)) ts sn 0).2) hcl
  exact Z10
abbrev IG:=@eIx STable Tryz.prog az 8
abbrev G1:=@eAn STable Tryz.prog az 8
abbrev xH:=@eEv STable Tryz.prog az 8
abbrev GI:=@eCl STable Tryz.prog az
theorem AQ:EntOk Tryz.prog 56 (Ent.effect IG):=pe fun av sz ha hs m ts id sn st g F fst caps H hl hid hg hq=>by
 have hag:∀ x,∃ cs,av x=.agg cs∧cs.length=sz:=by subst ha hs;exact fun x=>⟨_,rfl,rfl⟩
 refine ACalls.fW ak (tCq (ib (F:=F)) tNq) Tryz.func56 [.tmp 4] (nrq _) (T:=aj []) (h:=fun hcl hlt=>?_)
 generalize hR:ixS st ts sn 0=R
 have hnx:id<H.nx:=glq hid
 have hss:=cU hid
 have hm:AV.lt H.nx (.slice m sz (ts.map av)):=hlt _ (by simp)
 have hf:AV.lt H.nx (.func (.func F) fst caps):=hlt _ (by simp)
 clear hlt
 simp only [go_sem,ybb]
 refine ay (A:=Nat × List VN) (fun a=>[(0,.slice m sz (ts.map av)),(1,.func (.func F) fst caps),(7,.int .i64 (ts.length:Int)),(8,.int .i64 (a.1:Int))]) (fun a=>H.set id (mpV a.2)) (fun a=>a.1≤ts.length∧g a.2∧ixS st (ts.drop a.1) a.2 a.1=R) (fun a=>ts.length - a.1) (0,sn) ⟨by dsimp only;omega,hg,hR⟩ ?_ fun a hk=>?_
 ·dsimp only
  rw [hss]
  exact ⟨nrq _,lRq _,hcl,by simp [ltF,znf,hm,hf],by simp [ba,wk2,wk1,wkM,Fr.get]⟩
 clear hR
 obtain ⟨k,s⟩:=a
 obtain ⟨hk,hgs,hR⟩:=hk
 dsimp only at hk hgs hR ⊢
 have hcc:(H.set id (mpV s)).Closed:=au hcl
 simp only [go_sem]
 refine ah (fun hc=>?_) (fun hc=>?_)
 ·have hk':k<ts.length:=by simp at hc;omega
  obtain ⟨x,hx⟩:∃ x,x=ts[k]:=⟨_,rfl⟩
  have hd:ts.drop k=x::ts.drop (k+1):=by rw [hx];exact dcq hk'
  have hg':=aW (f:=av) (l:=ts) (k:=k) (x:=x) (by rw [gQq hk',hx])
  have e5:=Yk5 k
  rw [hd] at hR
  unfold ixS at hR
  obtain ⟨hg2,hqx⟩:=hq x (by rw [hx];exact gMq hk') s hgs
  have hqx:=hqx _ (lRq _) hcc
  have hc2:(H.set id (mpV (st x s).2)).Closed:=au hcl
  obtain ⟨cs,hcs,hcl3⟩:=hag x
  have hts:List.take sz cs=cs:=ybc (by omega)
  rw [hcs] at hqx hg'
  clear ha hag
  subst hs
  simp only [go_sem,iNq,ybb,hg',hcl3,hts,qo]
  (repeat with_reducible refine Yq ?_)
  refine ⟨_,_,?_,hqx⟩
  try simp only [aJ,go_sem]
  refine ah (fun hq=>?_) (fun hq=>?_)
  ·rw [if_pos hq] at hR
   subst hR
   simp only [go_sem]
   exact Z7
  ·rw [if_neg (by rw [hq];decide)] at hR
   simp only [go_sem,e5]
   exact ⟨(k+1,(st x s).2),⟨by dsimp only;omega,hg2,hR⟩,by dsimp only;omega,nrq _,lRq _,hc2,by simp [ltF,znf,hm,hf,zlf],by simp [ba,wk2,wk1,wkM,Fr.get]⟩
 ·have hk':k=ts.length:=by simp at hc;omega
  subst hk'
  rw [List.drop_length] at hR
  unfold ixS at hR
  subst hR
  simp only [go_sem]
  exact Z8
theorem DI:EntOk Tryz.prog 241 (Ent.effect G1):=pD fun av sz ha hs m ts id sn st g F fst caps H hl hid hg hq=>by
 refine ACalls.fW ak (tCq AQ tNq) Tryz.func241 [.tmp 4] (nrq _) (T:=aj []) (h:=fun hcl hlt=>?_)
 have hcc:(H.set id (mpV (ixS st ts sn 0).2)).Closed:=au hcl
 clear hlt
 subst hs
 simp only [go_sem]
 refine ⟨ts,id,sn,st,g,⟨by rw [ha];rfl,hl,hid,hg,by rw [← ha];exact hq⟩,?_⟩
 generalize ixS st ts sn 0=R at *
 try simp only [aJ,go_sem]
 exact Z9
theorem CP:EntOk Tryz.prog 242 (Ent.effect GI):=qg fun av ha x c id sn st g F fst caps H hg hid hgs hq=>by
 have hag:∀ x,∃ cs,av x=.agg cs∧cs.length=8:=by subst ha;exact fun x=>⟨_,rfl,rfl⟩
 refine ACalls.fW ak (tCq (ib (F:=F)) tNq) Tryz.func242 [.tmp 3] (nrq _) (T:=aj []) (h:=fun hcl hlt=>?_)
 have hcs:=aq hg
 have hl:=glq hg
 have hl2:=glq hid
 have hne:(c=H.nx)=False:=eq_false (by omega)
 have hne2:(id=H.nx)=False:=eq_false (by omega)
 have hss:=cU hid
 obtain ⟨hg2,hqx⟩:=hq sn hgs
 obtain ⟨cs,hav,hcl3⟩:=hag x
 have hts:=ybc (Nat.le_of_eq hcl3)
 rw [hav] at hqx hlt ⊢
 have hlx:=hlt _ (List.mem_cons_self)
 clear hlt
 have h0:=AV.lt_mono (Nat.le_succ H.nx) _ hlx
 rw [znr] at h0
 have hcp:(H.push (.cells cs)).Closed:=ae hcl h0
 have hc2:(H.set id (mpV (st x sn).2)).Closed:=au hcl
 have hq1:=hqx (H.push (.cells cs)) (by rw [hss];exact (lRq _).push _) hcp
 rw [zli,if_neg (by omega)] at hq1
 simp only [go_sem,hcs,hne,hg,hcl3,hts,qo]
 refine ⟨_,_,?_,hq1⟩
 try simp only [aJ,go_sem]
 exact Z7
theorem Cb:EntOk Tryz.prog 85 (Ent.effect xH):=pZ fun av sz ha hs m ts id sn st g F fst caps H hl hid hg hq=>by
 have hL:EntOk Tryz.prog 242 (Ent.effect (eCl Tryz.prog av)):=by rw [ha];exact CP
 rw [← congrArg Prod.snd (@gN _ _ st ts sn 0)]
 refine ACalls.fW ak (tCq DI tNq) Tryz.func85 [.tmp 4] (nrq _) (T:=aj []) (h:=fun hcl hlt=>?_)
 have hR1:=congrArg Prod.fst (@gN _ _ st ts sn 0)
 dsimp only at hR1 ⊢
 generalize hX:evS st ts sn=X at *
 have hl2:=glq hid
 have hne2:(id=H.nx)=False:=eq_false (by omega)
 have hfx:=hlt _ (List.mem_cons_of_mem _ List.mem_cons_self)
 clear hlt
 have hcp:(H.push (.cells [.func (.func F) fst caps])).Closed:=ae hcl (by simp only [znu,znv,and_true];exact AV.lt_mono (Nat.le_succ H.nx) _ hfx)
 subst hs
 simp only [go_sem]
 refine ⟨ts,id,sn,fun x s=>(!(st x s).1,(st x s).2),g,⟨by rw [ha];rfl,hl,?_,hg,fun x hx s hs=>?_⟩,?_⟩
 ·rw [if_neg (by omega)];exact hid
 ·obtain ⟨h1,h2⟩:=hq x hx s hs
  refine ⟨h1,fun H' hle hcl'=>?_⟩
  rw [zli,if_neg (by omega)] at hle
  have hle0:(H.set id (mpV s)).Le H':=((lRq _).push _).trans hle
  have hg0:H'.get H.nx=some (.cells [.func (.func F) fst caps]):=hle.get _ _ (AHeap.get_push_new _ _)
  have hid':H'.get id=some (mpV s):=by
   refine hle.get _ _ ?_
   rw [zlh,if_neg (by rw [zlf];omega),aG,if_pos rfl,if_pos hl2]
  rw [← ha]
  obtain ⟨v,H1,⟨hv,hH⟩,hc⟩:=hL.2.1 rfl [av x,.ptr H.nx 0] H' (fun v H1=>v=.ret (.bool (!(st x s).1))∧H1=H'.set id (mpV (st x s).2)) ⟨x,id,s,st,g,F,fst,caps,⟨rfl,hg0,hid',hs,fun s' hs'=>⟨(hq x hx s' hs').1,fun H2 h3 h4=>(hq x hx s' hs').2 H2 ((iV hle0).trans h3) h4⟩⟩,rfl,rfl⟩
  subst hv hH
  exact hc
 ·rw [hR1]
  try simp only [aJ,go_sem]
  have hc2:=@au _ id (b5 gR (ixS (fun x s=>(!(st x s).1,(st x s).2)) ts sn 0).2) hcl
  exact Z10
abbrev Iu:=@eIx SRole Tryz.prog br 6
abbrev IF:=@eAn SRole Tryz.prog br 6
abbrev xI:=@eEv SRole Tryz.prog br 6
abbrev IM:=@eCl SRole Tryz.prog br
theorem Bm:EntOk Tryz.prog 322 (Ent.effect Iu):=pe fun av sz ha hs m ts id sn st g F fst caps H hl hid hg hq=>by
 have hag:∀ x,∃ cs,av x=.agg cs∧cs.length=sz:=by subst ha hs;exact fun x=>⟨_,rfl,rfl⟩
 refine ACalls.fW ak (tCq (ib (F:=F)) tNq) Tryz.func322 [.tmp 4] (nrq _) (T:=aj []) (h:=fun hcl hlt=>?_)
 generalize hR:ixS st ts sn 0=R
 have hnx:id<H.nx:=glq hid
 have hss:=cU hid
 have hm:AV.lt H.nx (.slice m sz (ts.map av)):=hlt _ (by simp)
 have hf:AV.lt H.nx (.func (.func F) fst caps):=hlt _ (by simp)
 clear hlt
 simp only [go_sem,ybb]
 refine ay (A:=Nat × List VN) (fun a=>[(0,.slice m sz (ts.map av)),(1,.func (.func F) fst caps),(7,.int .i64 (ts.length:Int)),(8,.int .i64 (a.1:Int))]) (fun a=>H.set id (mpV a.2)) (fun a=>a.1≤ts.length∧g a.2∧ixS st (ts.drop a.1) a.2 a.1=R) (fun a=>ts.length - a.1) (0,sn) ⟨by dsimp only;omega,hg,hR⟩ ?_ fun a hk=>?_
 ·dsimp only
  rw [hss]
  exact ⟨nrq _,lRq _,hcl,by simp [ltF,znf,hm,hf],by simp [ba,wk2,wk1,wkM,Fr.get]⟩
 clear hR
 obtain ⟨k,s⟩:=a
 obtain ⟨hk,hgs,hR⟩:=hk
 dsimp only at hk hgs hR ⊢
 have hcc:(H.set id (mpV s)).Closed:=au hcl
 simp only [go_sem]
 refine ah (fun hc=>?_) (fun hc=>?_)
 ·have hk':k<ts.length:=by simp at hc;omega
  obtain ⟨x,hx⟩:∃ x,x=ts[k]:=⟨_,rfl⟩
  have hd:ts.drop k=x::ts.drop (k+1):=by rw [hx];exact dcq hk'
  have hg':=aW (f:=av) (l:=ts) (k:=k) (x:=x) (by rw [gQq hk',hx])
  have e5:=Yk5 k
  rw [hd] at hR
  unfold ixS at hR
  obtain ⟨hg2,hqx⟩:=hq x (by rw [hx];exact gMq hk') s hgs
  have hqx:=hqx _ (lRq _) hcc
  have hc2:(H.set id (mpV (st x s).2)).Closed:=au hcl
  obtain ⟨cs,hcs,hcl3⟩:=hag x
  have hts:List.take sz cs=cs:=ybc (by omega)
  rw [hcs] at hqx hg'
  clear ha hag
  subst hs
  simp only [go_sem,iNq,ybb,hg',hcl3,hts,qo]
  (repeat with_reducible refine Yq ?_)
  refine ⟨_,_,?_,hqx⟩
  try simp only [aJ,go_sem]
  refine ah (fun hq=>?_) (fun hq=>?_)
  ·rw [if_pos hq] at hR
   subst hR
   simp only [go_sem]
   exact Z7
  ·rw [if_neg (by rw [hq];decide)] at hR
   simp only [go_sem,e5]
   exact ⟨(k+1,(st x s).2),⟨by dsimp only;omega,hg2,hR⟩,by dsimp only;omega,nrq _,lRq _,hc2,by simp [ltF,znf,hm,hf,zlf],by simp [ba,wk2,wk1,wkM,Fr.get]⟩
 ·have hk':k=ts.length:=by simp at hc;omega
  subst hk'
  rw [List.drop_length] at hR
  unfold ixS at hR
  subst hR
  simp only [go_sem]
  exact Z8
theorem DW:EntOk Tryz.prog 245 (Ent.effect IF):=pD fun av sz ha hs m ts id sn st g F fst caps H hl hid hg hq=>by
 refine ACalls.fW ak (tCq Bm tNq) Tryz.func245 [.tmp 4] (nrq _) (T:=aj []) (h:=fun hcl hlt=>?_)
 have hcc:(H.set id (mpV (ixS st ts sn 0).2)).Closed:=au hcl
 clear hlt
 subst hs
 simp only [go_sem]
 refine ⟨ts,id,sn,st,g,⟨by rw [ha];rfl,hl,hid,hg,by rw [← ha];exact hq⟩,?_⟩
 generalize ixS st ts sn 0=R at *
 try simp only [aJ,go_sem]
 exact Z9
theorem CS:EntOk Tryz.prog 246 (Ent.effect IM):=qg fun av ha x c id sn st g F fst caps H hg hid hgs hq=>by
 have hag:∀ x,∃ cs,av x=.agg cs∧cs.length=6:=by subst ha;exact fun x=>⟨_,rfl,rfl⟩
 refine ACalls.fW ak (tCq (ib (F:=F)) tNq) Tryz.func246 [.tmp 3] (nrq _) (T:=aj []) (h:=fun hcl hlt=>?_)
 have hcs:=aq hg
 have hl:=glq hg
 have hl2:=glq hid
 have hne:(c=H.nx)=False:=eq_false (by omega)
 have hne2:(id=H.nx)=False:=eq_false (by omega)
 have hss:=cU hid
 obtain ⟨hg2,hqx⟩:=hq sn hgs
 obtain ⟨cs,hav,hcl3⟩:=hag x
 have hts:=ybc (Nat.le_of_eq hcl3)
 rw [hav] at hqx hlt ⊢
 have hlx:=hlt _ (List.mem_cons_self)
 clear hlt
 have h0:=AV.lt_mono (Nat.le_succ H.nx) _ hlx
 rw [znr] at h0
 have hcp:(H.push (.cells cs)).Closed:=ae hcl h0
 have hc2:(H.set id (mpV (st x sn).2)).Closed:=au hcl
 have hq1:=hqx (H.push (.cells cs)) (by rw [hss];exact (lRq _).push _) hcp
 rw [zli,if_neg (by omega)] at hq1
 simp only [go_sem,hcs,hne,hg,hcl3,hts,qo]
 refine ⟨_,_,?_,hq1⟩
 try simp only [aJ,go_sem]
 exact Z7
theorem BA:EntOk Tryz.prog 89 (Ent.effect xI):=pZ fun av sz ha hs m ts id sn st g F fst caps H hl hid hg hq=>by
 have hL:EntOk Tryz.prog 246 (Ent.effect (eCl Tryz.prog av)):=by rw [ha];exact CS
 rw [← congrArg Prod.snd (@gN _ _ st ts sn 0)]
 refine ACalls.fW ak (tCq DW tNq) Tryz.func89 [.tmp 4] (nrq _) (T:=aj []) (h:=fun hcl hlt=>?_)
 have hR1:=congrArg Prod.fst (@gN _ _ st ts sn 0)
 dsimp only at hR1 ⊢
 generalize hX:evS st ts sn=X at *
 have hl2:=glq hid
 have hne2:(id=H.nx)=False:=eq_false (by omega)
 have hfx:=hlt _ (List.mem_cons_of_mem _ List.mem_cons_self)
 clear hlt
 have hcp:(H.push (.cells [.func (.func F) fst caps])).Closed:=ae hcl (by simp only [znu,znv,and_true];exact AV.lt_mono (Nat.le_succ H.nx) _ hfx)
 subst hs
 simp only [go_sem]
 refine ⟨ts,id,sn,fun x s=>(!(st x s).1,(st x s).2),g,⟨by rw [ha];rfl,hl,?_,hg,fun x hx s hs=>?_⟩,?_⟩
 ·rw [if_neg (by omega)];exact hid
 ·obtain ⟨h1,h2⟩:=hq x hx s hs
  refine ⟨h1,fun H' hle hcl'=>?_⟩
  rw [zli,if_neg (by omega)] at hle
  have hle0:(H.set id (mpV s)).Le H':=((lRq _).push _).trans hle
  have hg0:H'.get H.nx=some (.cells [.func (.func F) fst caps]):=hle.get _ _ (AHeap.get_push_new _ _)
  have hid':H'.get id=some (mpV s):=by
   refine hle.get _ _ ?_
   rw [zlh,if_neg (by rw [zlf];omega),aG,if_pos rfl,if_pos hl2]
  rw [← ha]
  obtain ⟨v,H1,⟨hv,hH⟩,hc⟩:=hL.2.1 rfl [av x,.ptr H.nx 0] H' (fun v H1=>v=.ret (.bool (!(st x s).1))∧H1=H'.set id (mpV (st x s).2)) ⟨x,id,s,st,g,F,fst,caps,⟨rfl,hg0,hid',hs,fun s' hs'=>⟨(hq x hx s' hs').1,fun H2 h3 h4=>(hq x hx s' hs').2 H2 ((iV hle0).trans h3) h4⟩⟩,rfl,rfl⟩
  subst hv hH
  exact hc
 ·rw [hR1]
  try simp only [aJ,go_sem]
  have hc2:=@au _ id (b5 gR (ixS (fun x s=>(!(st x s).1,(st x s).2)) ts sn 0).2) hcl
  exact Z10
end Go.AL
