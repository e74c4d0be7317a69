/- Lemmas of the proof; no condition. -/
import Derived.Test.YthnlhjalhflgfaaGreatE04d
import Derived.Test.YthnlhjalhflgfaaGreatAlMap
set_option linter.all false
set_option maxRecDepth 10000
set_option maxHeartbeats 32000000
open Go Go.AL Go.Proofs
namespace Go.AL
theorem FO:ti Tryz.prog 225=some ⟨.map 3 4,1,8,.nilm⟩:=krf
theorem Lb:ti Tryz.prog 345=some ⟨.map 9 4,1,8,.nilm⟩:=krf
theorem Mv:ti Tryz.prog 3=some ⟨.int .i64,1,8,.int .i64 0⟩:=krf
theorem Cj:ti Tryz.prog 9=some ⟨.string,1,16,.str []⟩:=krf
attribute [go_sem] FO Lb Mv Cj
def dsF {α:Type} [BEq α]:List α→List α→Bool
 |_,[]=>true
 |s,x::l=>!s.contains x&&dsF (x::s) l
def dT {α:Type} (key:α→AV) (l:List α):List (AV × AV):=l.map fun v=>(key v,.bool true)
def i64 (n:Int):Prop := -9223372036854775808≤n∧n≤9223372036854775807
def Ik (s:List UInt8):Prop:=s.length≤140737488355328
theorem iL {α:Type} {P:Program} {t:TypeId} {key:α→AV} {l:List α} {g:α→Prop} (hg:∀ v,g v→iy P t (key v)) (h:∀ v∈l,g v):∀ p∈dT key l,iy P t p.1:=by
 intro p hp
 obtain ⟨v,hv,rfl⟩:=List.mem_map.1 hp
 exact hg v (h v hv)
theorem ke (l:List Int) (x:Int):jC (dT (AV.int .i64) l) (.int .i64 x)=if l.contains x then some (.bool true) else none:=by
 exact Y73
theorem wK (l:List (List UInt8)) (x:List UInt8):jC (dT AV.str l) (.str x)=if l.contains x then some (.bool true) else none:=by
 exact Y73
theorem CI:(Tryz.prog).underlying 3=some (.int .i64):=krf
theorem CS:(Tryz.prog).underlying 9=some .string:=krf
theorem fg:Maps.Keyed Tryz.prog 3:=Maps.int_keyed CI
theorem sm:Maps.Keyed Tryz.prog 9:=Maps.string_keyed CS
theorem cQ (n:Int) (h:i64 n):iy Tryz.prog 3 (.int .i64 n):=by
 have h1:=h.1
 have h2:=h.2
 refine ⟨.int .i64 n,?_⟩
 show keyOf _ _ (Value.int .i64 n)=_
 unfold keyOf mapKey
 simp only [CI]
 rw [if_pos]
 refine ⟨trivial,?_⟩
 simp [Lit.wf]
 exact ⟨h1,h2⟩
theorem lD (s:List UInt8) (h:Ik s):iy Tryz.prog 9 (.str s):=by
 refine ⟨.string s,?_⟩
 show keyOf _ _ (Value.string ⟨s.toArray⟩)=_
 unfold keyOf mapKey
 simp only [CS]
 have hm:(140737488355328:Nat)≤maxLen:=by decide
 have h1:s.length≤140737488355328:=h
 rw [if_pos (by simp only [ByteArray.size,List.size_toArray];omega)]
def fG:PCt
 |[.slice _ 3 l,.func (.func F) fst caps],H,K=>∃ (ts:List SField) (f:SField→Int),(l=ts.map aG∧ts.length≤1000000∧∀ x∈ts,i64 (f x)∧∀ H',H.Le H'→H'.Closed→ACalls Tryz.prog F (fst++[aG x]++caps) H' (.ret ((AV.int .i64) (f x))) H')∧K (.bool (dsF [] (ts.map f)))
 |_,_,_=>False
theorem KF:EPp 102 fG:=by
 refine Ype fun _ H K h=>?_
 unfold fG at h
 split at h<;>try exact h.elim
 rename_i m l F fst caps
 obtain ⟨ts,f,⟨rfl,hl,hq⟩,hK⟩:=h
 refine ⟨_,hK,?_⟩
 clear hK
 generalize hR:dsF [] (ts.map f)=R
 refine Yfv aE (tCq (ex (F:=F)) tNq) Tryz.func102 [.tmp 4] fun hcl hlt=>?_
 have hm:∀ n',H.nx≤n'→AV.lt n' (.slice m 3 (ts.map aG)):=fun n' hn=>AV.lt_mono hn _ (hlt (.slice m 3 (ts.map aG)) (by simp))
 have hf:∀ n',H.nx≤n'→AV.lt n' (.func (.func F) fst caps):=fun n' hn=>AV.lt_mono hn _ (hlt (.func (.func F) fst caps) (by simp))
 clear hlt
 refine Tq52 ?_
 refine aC (A:=Nat × List (Int) × AHeap) (fun a=>[(1,.func (.func F) fst caps),(5,.mapv H.nx),(10,.slice m 3 (ts.map aG)),(11,.int .i64 (ts.length:Int)),(12,.int .i64 (a.1:Int))]) (fun a=>a.2.2)
  (fun a=>a.1≤ts.length∧dsF a.2.1 ((ts.drop a.1).map f)=R∧(∀ v∈a.2.1,i64 v)∧H.Le a.2.2∧a.2.2.Closed∧a.2.2.get H.nx=some (.mapo (dT (AV.int .i64) a.2.1))) (fun a=>ts.length - a.1) (0,[],H.push (.mapo [])) ⟨Nat.zero_le _,hR,(fun v hv=>by cases hv),(lRq _).push _,dH hcl,AHeap.get_push_new _ _⟩ ?_ fun a ha=>?_
 ·exact Y9
 obtain ⟨k,sn,Hc⟩:=a
 clear hR
 obtain ⟨hk,hR,hsn,hle,hcc,hid⟩:=ha
 dsimp only at hk hR hsn hle hcc hid ⊢
 have hnx:H.nx<Hc.nx:=glq hid
 have hne:(H.nx=Hc.nx)=False:=eFo
 have hne2:(Hc.nx=H.nx)=False:=eFo
 refine Tq15 ?_
 refine au (fun hc=>?_) (fun hc=>?_)
 ·have hk':k<ts.length:=sHc
  obtain ⟨x,hx⟩:∃ x,x=ts[k]:=⟨_,rfl⟩
  have hd:ts.drop k=x::ts.drop (k+1):=by rw [hx];exact dcq hk'
  have hg':=aV (f:=aG) (l:=ts) (k:=k) (x:=x) (by rw [gQq hk',hx])
  have e5:=Yk5 k
  rw [hd,yae] at hR
  unfold dsF at hR
  obtain ⟨hgx,hqx⟩:=hq x (by rw [hx];exact gMq hk')
  have hcs:aG x=.agg [.int .i64 x.id,.str x.name,.int .i64 x.bits]:=rfl
  have hel:AV.lt (Hc.nx+1) (aG x):=by
   exact Y29
  rw [hcs] at hqx hel hg'
  rw [znr] at hel
  have hcp:(Hc.push (.cells [.int .i64 x.id,.str x.name,.int .i64 x.bits])).Closed:=ah hcc hel
  have hlp:H.Le (Hc.push (.cells [.int .i64 x.id,.str x.name,.int .i64 x.bits])):=hle.push _
  have hgp:(Hc.push (.cells [.int .i64 x.id,.str x.name,.int .i64 x.bits])).get H.nx=some (.mapo (dT (AV.int .i64) sn)):=by rw [zlh,if_neg (by omega)];exact hid
  exact Y3
 ·exact Y28
def ge:PCt
 |[.slice _ 3 l,.func (.func F) fst caps],H,K=>∃ (ts:List SHeader) (f:SHeader→Int),(l=ts.map az∧ts.length≤1000000∧∀ x∈ts,i64 (f x)∧∀ H',H.Le H'→H'.Closed→ACalls Tryz.prog F (fst++[az x]++caps) H' (.ret ((AV.int .i64) (f x))) H')∧K (.bool (dsF [] (ts.map f)))
 |_,_,_=>False
theorem Gz:EPp 104 ge:=by
 refine Ype fun _ H K h=>?_
 unfold ge at h
 split at h<;>try exact h.elim
 rename_i m l F fst caps
 obtain ⟨ts,f,⟨rfl,hl,hq⟩,hK⟩:=h
 refine ⟨_,hK,?_⟩
 clear hK
 generalize hR:dsF [] (ts.map f)=R
 refine Yfv aE (tCq (ex (F:=F)) tNq) Tryz.func104 [.tmp 4] fun hcl hlt=>?_
 have hm:∀ n',H.nx≤n'→AV.lt n' (.slice m 3 (ts.map az)):=fun n' hn=>AV.lt_mono hn _ (hlt (.slice m 3 (ts.map az)) (by simp))
 have hf:∀ n',H.nx≤n'→AV.lt n' (.func (.func F) fst caps):=fun n' hn=>AV.lt_mono hn _ (hlt (.func (.func F) fst caps) (by simp))
 clear hlt
 refine Tq52 ?_
 refine aC (A:=Nat × List (Int) × AHeap) (fun a=>[(1,.func (.func F) fst caps),(5,.mapv H.nx),(10,.slice m 3 (ts.map az)),(11,.int .i64 (ts.length:Int)),(12,.int .i64 (a.1:Int))]) (fun a=>a.2.2)
  (fun a=>a.1≤ts.length∧dsF a.2.1 ((ts.drop a.1).map f)=R∧(∀ v∈a.2.1,i64 v)∧H.Le a.2.2∧a.2.2.Closed∧a.2.2.get H.nx=some (.mapo (dT (AV.int .i64) a.2.1))) (fun a=>ts.length - a.1) (0,[],H.push (.mapo [])) ⟨Nat.zero_le _,hR,(fun v hv=>by cases hv),(lRq _).push _,dH hcl,AHeap.get_push_new _ _⟩ ?_ fun a ha=>?_
 ·exact Y9
 obtain ⟨k,sn,Hc⟩:=a
 clear hR
 obtain ⟨hk,hR,hsn,hle,hcc,hid⟩:=ha
 dsimp only at hk hR hsn hle hcc hid ⊢
 have hnx:H.nx<Hc.nx:=glq hid
 have hne:(H.nx=Hc.nx)=False:=eFo
 have hne2:(Hc.nx=H.nx)=False:=eFo
 refine Tq15 ?_
 refine au (fun hc=>?_) (fun hc=>?_)
 ·have hk':k<ts.length:=sHc
  obtain ⟨x,hx⟩:∃ x,x=ts[k]:=⟨_,rfl⟩
  have hd:ts.drop k=x::ts.drop (k+1):=by rw [hx];exact dcq hk'
  have hg':=aV (f:=az) (l:=ts) (k:=k) (x:=x) (by rw [gQq hk',hx])
  have e5:=Yk5 k
  rw [hd,yae] at hR
  unfold dsF at hR
  obtain ⟨hgx,hqx⟩:=hq x (by rw [hx];exact gMq hk')
  have hcs:az x=.agg [.int .i64 x.id,.str x.name,.slice .any 1 (inL x.fields)]:=rfl
  have hel:AV.lt (Hc.nx+1) (az x):=by
   exact Y29
  rw [hcs] at hqx hel hg'
  rw [znr] at hel
  have hcp:(Hc.push (.cells [.int .i64 x.id,.str x.name,.slice .any 1 (inL x.fields)])).Closed:=ah hcc hel
  have hlp:H.Le (Hc.push (.cells [.int .i64 x.id,.str x.name,.slice .any 1 (inL x.fields)])):=hle.push _
  have hgp:(Hc.push (.cells [.int .i64 x.id,.str x.name,.slice .any 1 (inL x.fields)])).get H.nx=some (.mapo (dT (AV.int .i64) sn)):=by rw [zlh,if_neg (by omega)];exact hid
  exact Y3
 ·exact Y28
def gN:PCt
 |[.slice _ 5 l,.func (.func F) fst caps],H,K=>∃ (ts:List SState) (f:SState→Int),(l=ts.map aA∧ts.length≤1000000∧∀ x∈ts,i64 (f x)∧∀ H',H.Le H'→H'.Closed→ACalls Tryz.prog F (fst++[aA x]++caps) H' (.ret ((AV.int .i64) (f x))) H')∧K (.bool (dsF [] (ts.map f)))
 |_,_,_=>False
theorem Jw:EPp 106 gN:=by
 refine Ype fun _ H K h=>?_
 unfold gN at h
 split at h<;>try exact h.elim
 rename_i m l F fst caps
 obtain ⟨ts,f,⟨rfl,hl,hq⟩,hK⟩:=h
 refine ⟨_,hK,?_⟩
 clear hK
 generalize hR:dsF [] (ts.map f)=R
 refine Yfv aE (tCq (ex (F:=F)) tNq) Tryz.func106 [.tmp 4] fun hcl hlt=>?_
 have hm:∀ n',H.nx≤n'→AV.lt n' (.slice m 5 (ts.map aA)):=fun n' hn=>AV.lt_mono hn _ (hlt (.slice m 5 (ts.map aA)) (by simp))
 have hf:∀ n',H.nx≤n'→AV.lt n' (.func (.func F) fst caps):=fun n' hn=>AV.lt_mono hn _ (hlt (.func (.func F) fst caps) (by simp))
 clear hlt
 refine Tq52 ?_
 refine aC (A:=Nat × List (Int) × AHeap) (fun a=>[(1,.func (.func F) fst caps),(5,.mapv H.nx),(10,.slice m 5 (ts.map aA)),(11,.int .i64 (ts.length:Int)),(12,.int .i64 (a.1:Int))]) (fun a=>a.2.2)
  (fun a=>a.1≤ts.length∧dsF a.2.1 ((ts.drop a.1).map f)=R∧(∀ v∈a.2.1,i64 v)∧H.Le a.2.2∧a.2.2.Closed∧a.2.2.get H.nx=some (.mapo (dT (AV.int .i64) a.2.1))) (fun a=>ts.length - a.1) (0,[],H.push (.mapo [])) ⟨Nat.zero_le _,hR,(fun v hv=>by cases hv),(lRq _).push _,dH hcl,AHeap.get_push_new _ _⟩ ?_ fun a ha=>?_
 ·exact Y9
 obtain ⟨k,sn,Hc⟩:=a
 clear hR
 obtain ⟨hk,hR,hsn,hle,hcc,hid⟩:=ha
 dsimp only at hk hR hsn hle hcc hid ⊢
 have hnx:H.nx<Hc.nx:=glq hid
 have hne:(H.nx=Hc.nx)=False:=eFo
 have hne2:(Hc.nx=H.nx)=False:=eFo
 refine Tq15 ?_
 refine au (fun hc=>?_) (fun hc=>?_)
 ·have hk':k<ts.length:=sHc
  obtain ⟨x,hx⟩:∃ x,x=ts[k]:=⟨_,rfl⟩
  have hd:ts.drop k=x::ts.drop (k+1):=by rw [hx];exact dcq hk'
  have hg':=aV (f:=aA) (l:=ts) (k:=k) (x:=x) (by rw [gQq hk',hx])
  have e5:=Yk5 k
  rw [hd,yae] at hR
  unfold dsF at hR
  obtain ⟨hgx,hqx⟩:=hq x (by rw [hx];exact gMq hk')
  have hcs:aA x=.agg [.int .i64 x.id,.int .i64 x.header,.int .i64 x.select,.slice .any 5 (x.cases.map bb),.int .i64 x.dflt]:=rfl
  have hel:AV.lt (Hc.nx+1) (aA x):=by
   exact Y29
  rw [hcs] at hqx hel hg'
  rw [znr] at hel
  have hcp:(Hc.push (.cells [.int .i64 x.id,.int .i64 x.header,.int .i64 x.select,.slice .any 5 (x.cases.map bb),.int .i64 x.dflt])).Closed:=ah hcc hel
  have hlp:H.Le (Hc.push (.cells [.int .i64 x.id,.int .i64 x.header,.int .i64 x.select,.slice .any 5 (x.cases.map bb),.int .i64 x.dflt])):=hle.push _
  have hgp:(Hc.push (.cells [.int .i64 x.id,.int .i64 x.header,.int .i64 x.select,.slice .any 5 (x.cases.map bb),.int .i64 x.dflt])).get H.nx=some (.mapo (dT (AV.int .i64) sn)):=by rw [zlh,if_neg (by omega)];exact hid
  exact Y3
 ·exact Y28
def ia:PCt
 |[.slice _ 5 l,.func (.func F) fst caps],H,K=>∃ (ts:List SAction) (f:SAction→Int),(l=ts.map ap∧ts.length≤1000000∧∀ x∈ts,i64 (f x)∧∀ H',H.Le H'→H'.Closed→ACalls Tryz.prog F (fst++[ap x]++caps) H' (.ret ((AV.int .i64) (f x))) H')∧K (.bool (dsF [] (ts.map f)))
 |_,_,_=>False
theorem GB:EPp 108 ia:=by
 refine Ype fun _ H K h=>?_
 unfold ia at h
 split at h<;>try exact h.elim
 rename_i m l F fst caps
 obtain ⟨ts,f,⟨rfl,hl,hq⟩,hK⟩:=h
 refine ⟨_,hK,?_⟩
 clear hK
 generalize hR:dsF [] (ts.map f)=R
 refine Yfv aE (tCq (ex (F:=F)) tNq) Tryz.func108 [.tmp 4] fun hcl hlt=>?_
 have hm:∀ n',H.nx≤n'→AV.lt n' (.slice m 5 (ts.map ap)):=fun n' hn=>AV.lt_mono hn _ (hlt (.slice m 5 (ts.map ap)) (by simp))
 have hf:∀ n',H.nx≤n'→AV.lt n' (.func (.func F) fst caps):=fun n' hn=>AV.lt_mono hn _ (hlt (.func (.func F) fst caps) (by simp))
 clear hlt
 refine Tq52 ?_
 refine aC (A:=Nat × List (Int) × AHeap) (fun a=>[(1,.func (.func F) fst caps),(5,.mapv H.nx),(10,.slice m 5 (ts.map ap)),(11,.int .i64 (ts.length:Int)),(12,.int .i64 (a.1:Int))]) (fun a=>a.2.2)
  (fun a=>a.1≤ts.length∧dsF a.2.1 ((ts.drop a.1).map f)=R∧(∀ v∈a.2.1,i64 v)∧H.Le a.2.2∧a.2.2.Closed∧a.2.2.get H.nx=some (.mapo (dT (AV.int .i64) a.2.1))) (fun a=>ts.length - a.1) (0,[],H.push (.mapo [])) ⟨Nat.zero_le _,hR,(fun v hv=>by cases hv),(lRq _).push _,dH hcl,AHeap.get_push_new _ _⟩ ?_ fun a ha=>?_
 ·exact Y9
 obtain ⟨k,sn,Hc⟩:=a
 clear hR
 obtain ⟨hk,hR,hsn,hle,hcc,hid⟩:=ha
 dsimp only at hk hR hsn hle hcc hid ⊢
 have hnx:H.nx<Hc.nx:=glq hid
 have hne:(H.nx=Hc.nx)=False:=eFo
 have hne2:(Hc.nx=H.nx)=False:=eFo
 refine Tq15 ?_
 refine au (fun hc=>?_) (fun hc=>?_)
 ·have hk':k<ts.length:=sHc
  obtain ⟨x,hx⟩:∃ x,x=ts[k]:=⟨_,rfl⟩
  have hd:ts.drop k=x::ts.drop (k+1):=by rw [hx];exact dcq hk'
  have hg':=aV (f:=ap) (l:=ts) (k:=k) (x:=x) (by rw [gQq hk',hx])
  have e5:=Yk5 k
  rw [hd,yae] at hR
  unfold dsF at hR
  obtain ⟨hgx,hqx⟩:=hq x (by rw [hx];exact gMq hk')
  have hcs:ap x=.agg [.int .i64 x.id,.str x.name,.slice .any 2 (x.params.map aL),.slice .any 6 (x.body.map aT),.str x.restr]:=rfl
  have hel:AV.lt (Hc.nx+1) (ap x):=by
   exact Y29
  rw [hcs] at hqx hel hg'
  rw [znr] at hel
  have hcp:(Hc.push (.cells [.int .i64 x.id,.str x.name,.slice .any 2 (x.params.map aL),.slice .any 6 (x.body.map aT),.str x.restr])).Closed:=ah hcc hel
  have hlp:H.Le (Hc.push (.cells [.int .i64 x.id,.str x.name,.slice .any 2 (x.params.map aL),.slice .any 6 (x.body.map aT),.str x.restr])):=hle.push _
  have hgp:(Hc.push (.cells [.int .i64 x.id,.str x.name,.slice .any 2 (x.params.map aL),.slice .any 6 (x.body.map aT),.str x.restr])).get H.nx=some (.mapo (dT (AV.int .i64) sn)):=by rw [zlh,if_neg (by omega)];exact hid
  exact Y3
 ·exact Y28
def iV:PCt
 |[.slice _ 8 l,.func (.func F) fst caps],H,K=>∃ (ts:List STable) (f:STable→Int),(l=ts.map ax∧ts.length≤1000000∧∀ x∈ts,i64 (f x)∧∀ H',H.Le H'→H'.Closed→ACalls Tryz.prog F (fst++[ax x]++caps) H' (.ret ((AV.int .i64) (f x))) H')∧K (.bool (dsF [] (ts.map f)))
 |_,_,_=>False
theorem GT:EPp 110 iV:=by
 refine Ype fun _ H K h=>?_
 unfold iV at h
 split at h<;>try exact h.elim
 rename_i m l F fst caps
 obtain ⟨ts,f,⟨rfl,hl,hq⟩,hK⟩:=h
 refine ⟨_,hK,?_⟩
 clear hK
 generalize hR:dsF [] (ts.map f)=R
 refine Yfv aE (tCq (ex (F:=F)) tNq) Tryz.func110 [.tmp 4] fun hcl hlt=>?_
 have hm:∀ n',H.nx≤n'→AV.lt n' (.slice m 8 (ts.map ax)):=fun n' hn=>AV.lt_mono hn _ (hlt (.slice m 8 (ts.map ax)) (by simp))
 have hf:∀ n',H.nx≤n'→AV.lt n' (.func (.func F) fst caps):=fun n' hn=>AV.lt_mono hn _ (hlt (.func (.func F) fst caps) (by simp))
 clear hlt
 refine Tq52 ?_
 refine aC (A:=Nat × List (Int) × AHeap) (fun a=>[(1,.func (.func F) fst caps),(5,.mapv H.nx),(10,.slice m 8 (ts.map ax)),(11,.int .i64 (ts.length:Int)),(12,.int .i64 (a.1:Int))]) (fun a=>a.2.2)
  (fun a=>a.1≤ts.length∧dsF a.2.1 ((ts.drop a.1).map f)=R∧(∀ v∈a.2.1,i64 v)∧H.Le a.2.2∧a.2.2.Closed∧a.2.2.get H.nx=some (.mapo (dT (AV.int .i64) a.2.1))) (fun a=>ts.length - a.1) (0,[],H.push (.mapo [])) ⟨Nat.zero_le _,hR,(fun v hv=>by cases hv),(lRq _).push _,dH hcl,AHeap.get_push_new _ _⟩ ?_ fun a ha=>?_
 ·exact Y9
 obtain ⟨k,sn,Hc⟩:=a
 clear hR
 obtain ⟨hk,hR,hsn,hle,hcc,hid⟩:=ha
 dsimp only at hk hR hsn hle hcc hid ⊢
 have hnx:H.nx<Hc.nx:=glq hid
 have hne:(H.nx=Hc.nx)=False:=eFo
 have hne2:(Hc.nx=H.nx)=False:=eFo
 refine Tq15 ?_
 refine au (fun hc=>?_) (fun hc=>?_)
 ·have hk':k<ts.length:=sHc
  obtain ⟨x,hx⟩:∃ x,x=ts[k]:=⟨_,rfl⟩
  have hd:ts.drop k=x::ts.drop (k+1):=by rw [hx];exact dcq hk'
  have hg':=aV (f:=ax) (l:=ts) (k:=k) (x:=x) (by rw [gQq hk',hx])
  have e5:=Yk5 k
  rw [hd,yae] at hR
  unfold dsF at hR
  obtain ⟨hgx,hqx⟩:=hq x (by rw [hx];exact gMq hk')
  have hcs:ax x=.agg [.int .i64 x.id,.str x.name,.slice .any 3 (x.keys.map ba),.slice .any 1 (inL x.actions),.int .i64 x.dflt,.slice .any 2 (x.dargs.map vv),.int .i64 x.size,.str x.restr]:=rfl
  have hel:AV.lt (Hc.nx+1) (ax x):=by
   exact Y29
  rw [hcs] at hqx hel hg'
  rw [znr] at hel
  have hcp:(Hc.push (.cells [.int .i64 x.id,.str x.name,.slice .any 3 (x.keys.map ba),.slice .any 1 (inL x.actions),.int .i64 x.dflt,.slice .any 2 (x.dargs.map vv),.int .i64 x.size,.str x.restr])).Closed:=ah hcc hel
  have hlp:H.Le (Hc.push (.cells [.int .i64 x.id,.str x.name,.slice .any 3 (x.keys.map ba),.slice .any 1 (inL x.actions),.int .i64 x.dflt,.slice .any 2 (x.dargs.map vv),.int .i64 x.size,.str x.restr])):=hle.push _
  have hgp:(Hc.push (.cells [.int .i64 x.id,.str x.name,.slice .any 3 (x.keys.map ba),.slice .any 1 (inL x.actions),.int .i64 x.dflt,.slice .any 2 (x.dargs.map vv),.int .i64 x.size,.str x.restr])).get H.nx=some (.mapo (dT (AV.int .i64) sn)):=by rw [zlh,if_neg (by omega)];exact hid
  exact Y3
 ·exact Y28
def jy:PCt
 |[.slice _ 6 l,.func (.func F) fst caps],H,K=>∃ (ts:List SRole) (f:SRole→Int),(l=ts.map aN∧ts.length≤1000000∧∀ x∈ts,i64 (f x)∧∀ H',H.Le H'→H'.Closed→ACalls Tryz.prog F (fst++[aN x]++caps) H' (.ret ((AV.int .i64) (f x))) H')∧K (.bool (dsF [] (ts.map f)))
 |_,_,_=>False
theorem Ft:EPp 112 jy:=by
 refine Ype fun _ H K h=>?_
 unfold jy at h
 split at h<;>try exact h.elim
 rename_i m l F fst caps
 obtain ⟨ts,f,⟨rfl,hl,hq⟩,hK⟩:=h
 refine ⟨_,hK,?_⟩
 clear hK
 generalize hR:dsF [] (ts.map f)=R
 refine Yfv aE (tCq (ex (F:=F)) tNq) Tryz.func112 [.tmp 4] fun hcl hlt=>?_
 have hm:∀ n',H.nx≤n'→AV.lt n' (.slice m 6 (ts.map aN)):=fun n' hn=>AV.lt_mono hn _ (hlt (.slice m 6 (ts.map aN)) (by simp))
 have hf:∀ n',H.nx≤n'→AV.lt n' (.func (.func F) fst caps):=fun n' hn=>AV.lt_mono hn _ (hlt (.func (.func F) fst caps) (by simp))
 clear hlt
 refine Tq52 ?_
 refine aC (A:=Nat × List (Int) × AHeap) (fun a=>[(1,.func (.func F) fst caps),(5,.mapv H.nx),(10,.slice m 6 (ts.map aN)),(11,.int .i64 (ts.length:Int)),(12,.int .i64 (a.1:Int))]) (fun a=>a.2.2)
  (fun a=>a.1≤ts.length∧dsF a.2.1 ((ts.drop a.1).map f)=R∧(∀ v∈a.2.1,i64 v)∧H.Le a.2.2∧a.2.2.Closed∧a.2.2.get H.nx=some (.mapo (dT (AV.int .i64) a.2.1))) (fun a=>ts.length - a.1) (0,[],H.push (.mapo [])) ⟨Nat.zero_le _,hR,(fun v hv=>by cases hv),(lRq _).push _,dH hcl,AHeap.get_push_new _ _⟩ ?_ fun a ha=>?_
 ·exact Y9
 obtain ⟨k,sn,Hc⟩:=a
 clear hR
 obtain ⟨hk,hR,hsn,hle,hcc,hid⟩:=ha
 dsimp only at hk hR hsn hle hcc hid ⊢
 have hnx:H.nx<Hc.nx:=glq hid
 have hne:(H.nx=Hc.nx)=False:=eFo
 have hne2:(Hc.nx=H.nx)=False:=eFo
 refine Tq15 ?_
 refine au (fun hc=>?_) (fun hc=>?_)
 ·have hk':k<ts.length:=sHc
  obtain ⟨x,hx⟩:∃ x,x=ts[k]:=⟨_,rfl⟩
  have hd:ts.drop k=x::ts.drop (k+1):=by rw [hx];exact dcq hk'
  have hg':=aV (f:=aN) (l:=ts) (k:=k) (x:=x) (by rw [gQq hk',hx])
  have e5:=Yk5 k
  rw [hd,yae] at hR
  unfold dsF at hR
  obtain ⟨hgx,hqx⟩:=hq x (by rw [hx];exact gMq hk')
  have hcs:aN x=.agg [.int .i64 x.id,.str x.name,.slice .any 4 (x.grants.map aJ),.slice .any 1 (inL x.actions),.int .i64 x.quota,.bool x.audit]:=rfl
  have hel:AV.lt (Hc.nx+1) (aN x):=by
   exact Y29
  rw [hcs] at hqx hel hg'
  rw [znr] at hel
  have hcp:(Hc.push (.cells [.int .i64 x.id,.str x.name,.slice .any 4 (x.grants.map aJ),.slice .any 1 (inL x.actions),.int .i64 x.quota,.bool x.audit])).Closed:=ah hcc hel
  have hlp:H.Le (Hc.push (.cells [.int .i64 x.id,.str x.name,.slice .any 4 (x.grants.map aJ),.slice .any 1 (inL x.actions),.int .i64 x.quota,.bool x.audit])):=hle.push _
  have hgp:(Hc.push (.cells [.int .i64 x.id,.str x.name,.slice .any 4 (x.grants.map aJ),.slice .any 1 (inL x.actions),.int .i64 x.quota,.bool x.audit])).get H.nx=some (.mapo (dT (AV.int .i64) sn)):=by rw [zlh,if_neg (by omega)];exact hid
  exact Y3
 ·exact Y28
def rj:PCt
 |[.slice _ 4 l,.func (.func F) fst caps],H,K=>∃ (ts:List SGrant) (f:SGrant→Int),(l=ts.map aJ∧ts.length≤1000000∧∀ x∈ts,i64 (f x)∧∀ H',H.Le H'→H'.Closed→ACalls Tryz.prog F (fst++[aJ x]++caps) H' (.ret ((AV.int .i64) (f x))) H')∧K (.bool (dsF [] (ts.map f)))
 |_,_,_=>False
theorem Ki:EPp 119 rj:=by
 refine Ype fun _ H K h=>?_
 unfold rj at h
 split at h<;>try exact h.elim
 rename_i m l F fst caps
 obtain ⟨ts,f,⟨rfl,hl,hq⟩,hK⟩:=h
 refine ⟨_,hK,?_⟩
 clear hK
 generalize hR:dsF [] (ts.map f)=R
 refine Yfv aE (tCq (ex (F:=F)) tNq) Tryz.func119 [.tmp 4] fun hcl hlt=>?_
 have hm:∀ n',H.nx≤n'→AV.lt n' (.slice m 4 (ts.map aJ)):=fun n' hn=>AV.lt_mono hn _ (hlt (.slice m 4 (ts.map aJ)) (by simp))
 have hf:∀ n',H.nx≤n'→AV.lt n' (.func (.func F) fst caps):=fun n' hn=>AV.lt_mono hn _ (hlt (.func (.func F) fst caps) (by simp))
 clear hlt
 refine Tq52 ?_
 refine aC (A:=Nat × List (Int) × AHeap) (fun a=>[(1,.func (.func F) fst caps),(5,.mapv H.nx),(10,.slice m 4 (ts.map aJ)),(11,.int .i64 (ts.length:Int)),(12,.int .i64 (a.1:Int))]) (fun a=>a.2.2)
  (fun a=>a.1≤ts.length∧dsF a.2.1 ((ts.drop a.1).map f)=R∧(∀ v∈a.2.1,i64 v)∧H.Le a.2.2∧a.2.2.Closed∧a.2.2.get H.nx=some (.mapo (dT (AV.int .i64) a.2.1))) (fun a=>ts.length - a.1) (0,[],H.push (.mapo [])) ⟨Nat.zero_le _,hR,(fun v hv=>by cases hv),(lRq _).push _,dH hcl,AHeap.get_push_new _ _⟩ ?_ fun a ha=>?_
 ·exact Y9
 obtain ⟨k,sn,Hc⟩:=a
 clear hR
 obtain ⟨hk,hR,hsn,hle,hcc,hid⟩:=ha
 dsimp only at hk hR hsn hle hcc hid ⊢
 have hnx:H.nx<Hc.nx:=glq hid
 have hne:(H.nx=Hc.nx)=False:=eFo
 have hne2:(Hc.nx=H.nx)=False:=eFo
 refine Tq15 ?_
 refine au (fun hc=>?_) (fun hc=>?_)
 ·have hk':k<ts.length:=sHc
  obtain ⟨x,hx⟩:∃ x,x=ts[k]:=⟨_,rfl⟩
  have hd:ts.drop k=x::ts.drop (k+1):=by rw [hx];exact dcq hk'
  have hg':=aV (f:=aJ) (l:=ts) (k:=k) (x:=x) (by rw [gQq hk',hx])
  have e5:=Yk5 k
  rw [hd,yae] at hR
  unfold dsF at hR
  obtain ⟨hgx,hqx⟩:=hq x (by rw [hx];exact gMq hk')
  have hcs:aJ x=.agg [.int .i64 x.table,.bool x.read,.bool x.write,.slice .any 1 (boL x.keys)]:=rfl
  have hel:AV.lt (Hc.nx+1) (aJ x):=by
   exact Y29
  rw [hcs] at hqx hel hg'
  rw [znr] at hel
  have hcp:(Hc.push (.cells [.int .i64 x.table,.bool x.read,.bool x.write,.slice .any 1 (boL x.keys)])).Closed:=ah hcc hel
  have hlp:H.Le (Hc.push (.cells [.int .i64 x.table,.bool x.read,.bool x.write,.slice .any 1 (boL x.keys)])):=hle.push _
  have hgp:(Hc.push (.cells [.int .i64 x.table,.bool x.read,.bool x.write,.slice .any 1 (boL x.keys)])).get H.nx=some (.mapo (dT (AV.int .i64) sn)):=by rw [zlh,if_neg (by omega)];exact hid
  exact Y3
 ·exact Y28
def ij:PCt
 |[.slice _ 1 l,.func (.func F) fst caps],H,K=>∃ (ts:List Int) (f:Int→Int),(l=ts.map (AV.int .i64)∧ts.length≤1000000∧∀ x∈ts,i64 (f x)∧∀ H',H.Le H'→H'.Closed→ACalls Tryz.prog F (fst++[(AV.int .i64) x]++caps) H' (.ret ((AV.int .i64) (f x))) H')∧K (.bool (dsF [] (ts.map f)))
 |_,_,_=>False
theorem vF:EPp 115 ij:=by
 refine Ype fun _ H K h=>?_
 unfold ij at h
 split at h<;>try exact h.elim
 rename_i m l F fst caps
 obtain ⟨ts,f,⟨rfl,hl,hq⟩,hK⟩:=h
 refine ⟨_,hK,?_⟩
 clear hK
 generalize hR:dsF [] (ts.map f)=R
 refine Yfv aE (tCq (ex (F:=F)) tNq) Tryz.func115 [.tmp 4] fun hcl hlt=>?_
 have hm:∀ n',H.nx≤n'→AV.lt n' (.slice m 1 (ts.map (AV.int .i64))):=fun n' hn=>AV.lt_mono hn _ (hlt (.slice m 1 (ts.map (AV.int .i64))) (by simp))
 have hf:∀ n',H.nx≤n'→AV.lt n' (.func (.func F) fst caps):=fun n' hn=>AV.lt_mono hn _ (hlt (.func (.func F) fst caps) (by simp))
 clear hlt
 refine Tq52 ?_
 refine aC (A:=Nat × List (Int) × AHeap) (fun a=>[(1,.func (.func F) fst caps),(5,.mapv H.nx),(10,.slice m 1 (ts.map (AV.int .i64))),(11,.int .i64 (ts.length:Int)),(12,.int .i64 (a.1:Int))]) (fun a=>a.2.2)
  (fun a=>a.1≤ts.length∧dsF a.2.1 ((ts.drop a.1).map f)=R∧(∀ v∈a.2.1,i64 v)∧H.Le a.2.2∧a.2.2.Closed∧a.2.2.get H.nx=some (.mapo (dT (AV.int .i64) a.2.1))) (fun a=>ts.length - a.1) (0,[],H.push (.mapo [])) ⟨Nat.zero_le _,hR,(fun v hv=>by cases hv),(lRq _).push _,dH hcl,AHeap.get_push_new _ _⟩ ?_ fun a ha=>?_
 ·exact Y9
 obtain ⟨k,sn,Hc⟩:=a
 clear hR
 obtain ⟨hk,hR,hsn,hle,hcc,hid⟩:=ha
 dsimp only at hk hR hsn hle hcc hid ⊢
 have hnx:H.nx<Hc.nx:=glq hid
 have hne:(H.nx=Hc.nx)=False:=eFo
 have hne2:(Hc.nx=H.nx)=False:=eFo
 refine Tq15 ?_
 refine au (fun hc=>?_) (fun hc=>?_)
 ·have hk':k<ts.length:=sHc
  obtain ⟨x,hx⟩:∃ x,x=ts[k]:=⟨_,rfl⟩
  have hd:ts.drop k=x::ts.drop (k+1):=by rw [hx];exact dcq hk'
  have hg':=aV (f:=(AV.int .i64)) (l:=ts) (k:=k) (x:=x) (by rw [gQq hk',hx])
  have e5:=Yk5 k
  rw [hd,yae] at hR
  unfold dsF at hR
  obtain ⟨hgx,hqx⟩:=hq x (by rw [hx];exact gMq hk')
  have hcp:Hc.Closed:=hcc
  have hlp:H.Le Hc:=hle
  have hgp:=hid
  exact Y3
 ·exact Y28
def yx:PCt
 |[.slice _ 2 l,.func (.func F) fst caps],H,K=>∃ (ts:List SParam) (f:SParam→List UInt8),(l=ts.map aL∧ts.length≤1000000∧∀ x∈ts,Ik (f x)∧∀ H',H.Le H'→H'.Closed→ACalls Tryz.prog F (fst++[aL x]++caps) H' (.ret (AV.str (f x))) H')∧K (.bool (dsF [] (ts.map f)))
 |_,_,_=>False
theorem Hv:EPp 253 yx:=by
 refine Ype fun _ H K h=>?_
 unfold yx at h
 split at h<;>try exact h.elim
 rename_i m l F fst caps
 obtain ⟨ts,f,⟨rfl,hl,hq⟩,hK⟩:=h
 refine ⟨_,hK,?_⟩
 clear hK
 generalize hR:dsF [] (ts.map f)=R
 refine Yfv aE (tCq (ex (F:=F)) tNq) Tryz.func253 [.tmp 4] fun hcl hlt=>?_
 have hm:∀ n',H.nx≤n'→AV.lt n' (.slice m 2 (ts.map aL)):=fun n' hn=>AV.lt_mono hn _ (hlt (.slice m 2 (ts.map aL)) (by simp))
 have hf:∀ n',H.nx≤n'→AV.lt n' (.func (.func F) fst caps):=fun n' hn=>AV.lt_mono hn _ (hlt (.func (.func F) fst caps) (by simp))
 clear hlt
 refine Tq52 ?_
 refine aC (A:=Nat × List (List UInt8) × AHeap) (fun a=>[(1,.func (.func F) fst caps),(5,.mapv H.nx),(10,.slice m 2 (ts.map aL)),(11,.int .i64 (ts.length:Int)),(12,.int .i64 (a.1:Int))]) (fun a=>a.2.2)
  (fun a=>a.1≤ts.length∧dsF a.2.1 ((ts.drop a.1).map f)=R∧(∀ v∈a.2.1,Ik v)∧H.Le a.2.2∧a.2.2.Closed∧a.2.2.get H.nx=some (.mapo (dT AV.str a.2.1))) (fun a=>ts.length - a.1) (0,[],H.push (.mapo [])) ⟨Nat.zero_le _,hR,(fun v hv=>by cases hv),(lRq _).push _,dH hcl,AHeap.get_push_new _ _⟩ ?_ fun a ha=>?_
 ·exact Y9
 obtain ⟨k,sn,Hc⟩:=a
 clear hR
 obtain ⟨hk,hR,hsn,hle,hcc,hid⟩:=ha
 dsimp only at hk hR hsn hle hcc hid ⊢
 have hnx:H.nx<Hc.nx:=glq hid
 have hne:(H.nx=Hc.nx)=False:=eFo
 have hne2:(Hc.nx=H.nx)=False:=eFo
 refine Tq15 ?_
 refine au (fun hc=>?_) (fun hc=>?_)
 ·have hk':k<ts.length:=sHc
  obtain ⟨x,hx⟩:∃ x,x=ts[k]:=⟨_,rfl⟩
  have hd:ts.drop k=x::ts.drop (k+1):=by rw [hx];exact dcq hk'
  have hg':=aV (f:=aL) (l:=ts) (k:=k) (x:=x) (by rw [gQq hk',hx])
  have e5:=Yk5 k
  rw [hd,yae] at hR
  unfold dsF at hR
  obtain ⟨hgx,hqx⟩:=hq x (by rw [hx];exact gMq hk')
  have hcs:aL x=.agg [.str x.name,.int .i64 x.bits]:=rfl
  have hel:AV.lt (Hc.nx+1) (aL x):=by
   exact Y29
  rw [hcs] at hqx hel hg'
  rw [znr] at hel
  have hcp:(Hc.push (.cells [.str x.name,.int .i64 x.bits])).Closed:=ah hcc hel
  have hlp:H.Le (Hc.push (.cells [.str x.name,.int .i64 x.bits])):=hle.push _
  have hgp:(Hc.push (.cells [.str x.name,.int .i64 x.bits])).get H.nx=some (.mapo (dT AV.str sn)):=by rw [zlh,if_neg (by omega)];exact hid
  exact Y27
 ·exact Y28
def xt:PCt
 |[.slice _ 3 l,.func (.func F) fst caps],H,K=>∃ (ts:List SKey) (f:SKey→List UInt8),(l=ts.map ba∧ts.length≤1000000∧∀ x∈ts,Ik (f x)∧∀ H',H.Le H'→H'.Closed→ACalls Tryz.prog F (fst++[ba x]++caps) H' (.ret (AV.str (f x))) H')∧K (.bool (dsF [] (ts.map f)))
 |_,_,_=>False
theorem Jo:EPp 256 xt:=by
 refine Ype fun _ H K h=>?_
 unfold xt at h
 split at h<;>try exact h.elim
 rename_i m l F fst caps
 obtain ⟨ts,f,⟨rfl,hl,hq⟩,hK⟩:=h
 refine ⟨_,hK,?_⟩
 clear hK
 generalize hR:dsF [] (ts.map f)=R
 refine Yfv aE (tCq (ex (F:=F)) tNq) Tryz.func256 [.tmp 4] fun hcl hlt=>?_
 have hm:∀ n',H.nx≤n'→AV.lt n' (.slice m 3 (ts.map ba)):=fun n' hn=>AV.lt_mono hn _ (hlt (.slice m 3 (ts.map ba)) (by simp))
 have hf:∀ n',H.nx≤n'→AV.lt n' (.func (.func F) fst caps):=fun n' hn=>AV.lt_mono hn _ (hlt (.func (.func F) fst caps) (by simp))
 clear hlt
 refine Tq52 ?_
 refine aC (A:=Nat × List (List UInt8) × AHeap) (fun a=>[(1,.func (.func F) fst caps),(5,.mapv H.nx),(10,.slice m 3 (ts.map ba)),(11,.int .i64 (ts.length:Int)),(12,.int .i64 (a.1:Int))]) (fun a=>a.2.2)
  (fun a=>a.1≤ts.length∧dsF a.2.1 ((ts.drop a.1).map f)=R∧(∀ v∈a.2.1,Ik v)∧H.Le a.2.2∧a.2.2.Closed∧a.2.2.get H.nx=some (.mapo (dT AV.str a.2.1))) (fun a=>ts.length - a.1) (0,[],H.push (.mapo [])) ⟨Nat.zero_le _,hR,(fun v hv=>by cases hv),(lRq _).push _,dH hcl,AHeap.get_push_new _ _⟩ ?_ fun a ha=>?_
 ·exact Y9
 obtain ⟨k,sn,Hc⟩:=a
 clear hR
 obtain ⟨hk,hR,hsn,hle,hcc,hid⟩:=ha
 dsimp only at hk hR hsn hle hcc hid ⊢
 have hnx:H.nx<Hc.nx:=glq hid
 have hne:(H.nx=Hc.nx)=False:=eFo
 have hne2:(Hc.nx=H.nx)=False:=eFo
 refine Tq15 ?_
 refine au (fun hc=>?_) (fun hc=>?_)
 ·have hk':k<ts.length:=sHc
  obtain ⟨x,hx⟩:∃ x,x=ts[k]:=⟨_,rfl⟩
  have hd:ts.drop k=x::ts.drop (k+1):=by rw [hx];exact dcq hk'
  have hg':=aV (f:=ba) (l:=ts) (k:=k) (x:=x) (by rw [gQq hk',hx])
  have e5:=Yk5 k
  rw [hd,yae] at hR
  unfold dsF at hR
  obtain ⟨hgx,hqx⟩:=hq x (by rw [hx];exact gMq hk')
  have hcs:ba x=.agg [.str x.name,.int .i64 x.field,.int .i64 x.kind]:=rfl
  have hel:AV.lt (Hc.nx+1) (ba x):=by
   exact Y29
  rw [hcs] at hqx hel hg'
  rw [znr] at hel
  have hcp:(Hc.push (.cells [.str x.name,.int .i64 x.field,.int .i64 x.kind])).Closed:=ah hcc hel
  have hlp:H.Le (Hc.push (.cells [.str x.name,.int .i64 x.field,.int .i64 x.kind])):=hle.push _
  have hgp:(Hc.push (.cells [.str x.name,.int .i64 x.field,.int .i64 x.kind])).get H.nx=some (.mapo (dT AV.str sn)):=by rw [zlh,if_neg (by omega)];exact hid
  exact Y27
 ·exact Y28
def uD (P:Program) (F:FuncId):ECt:=fun args H K=>∃ x H1,K x H1∧ACalls P F args H x H1
theorem lr {P:Program} {F:FuncId}:EntOk P F (Ent.effect (uD P F)):=EntOk.effect fun _ _ _ h=>h
def ixS {α σ:Type} (st:α→σ→Bool × σ):List α→σ→Nat→Int × σ
 |[],s,_=>(-1,s)
 |x::l,s,k=>if (st x s).1 then ((k:Int),(st x s).2) else ixS st l (st x s).2 (k+1)
def evS {α σ:Type} (st:α→σ→Bool × σ):List α→σ→Bool × σ
 |[],s=>(true,s)
 |x::l,s=>if (st x s).1 then evS st l (st x s).2 else (false,(st x s).2)
theorem km {α σ:Type} {st:α→σ→Bool × σ}:∀ {l:List α} {s:σ} {k:Nat},(decide (0≤(ixS (fun x s=>(!(st x s).1,(st x s).2)) l s k).1),(ixS (fun x s=>(!(st x s).1,(st x s).2)) l s k).2)=(!(evS st l s).1,(evS st l s).2)
 |[],s,k=>rfl
 |x::l,s,k=>by
  unfold ixS evS
  dsimp only
  cases h:(st x s).1
  ·rw [Bool.not_false,if_pos rfl,if_neg (by decide)]
   dsimp only
   rw [dtq (Int.natCast_nonneg _)];rfl
  ·rw [Bool.not_true,if_neg (by decide),if_pos rfl,km]
abbrev mpV (s:List VN):AObj:=.mapo (dT kN s)
def Stp {α:Type} (P:Program) (av:α→AV) (F:FuncId) (fst caps:List AV) (H:AHeap) (id:Nat) (g:List VN→Prop) (st:α→List VN→Bool × List VN) (x:α):Prop :=
 ∀ s,g s→g (st x s).2∧∀ H',(H.set id (mpV s)).Le H'→H'.Closed→ACalls P F (fst++[av x]++caps) H' (.ret (.bool (st x s).1)) (H'.set id (mpV (st x s).2))
theorem mg {H H':AHeap} {i:Nat} {a b:AObj} (h:(H.set i a).Le H'):(H.set i b).Le (H'.set i b):=by
 have hn:=h.nx
 rw [zlf] at hn
 refine ⟨by rw [zlf,zlf];exact hn,fun j o hj=>?_⟩
 have hjl:=glq hj
 rw [zlf] at hjl
 rw [aI] at hj ⊢
 by_cases e:j=i
 ·subst e
  rw [if_pos rfl,if_pos hjl] at hj
  rw [if_pos rfl,if_pos (by omega)]
  exact hj
 ·rw [if_neg e] at hj ⊢
  refine h.get j o ?_
  rw [aI,if_neg e]
  exact hj
def eIx {α:Type} (P:Program) (av:α→AV) (sz:Nat):ECt
 |[x,.func (.func F) fst caps],H,K=>∃ (ts:List α) (id:Nat) (sn:List VN) (st:α→List VN→Bool × List VN) (g:List VN→Prop),(x=.slice x.smk sz (ts.map av)∧ts.length≤1000000∧H.get id=some (mpV sn)∧g sn∧∀ x∈ts,Stp P av F fst caps H id g st x)∧K (.ret (.int .i64 (ixS st ts sn 0).1)) (H.set id (mpV (ixS st ts sn 0).2))
 |_,_,_=>False
theorem tJ {α:Type} {P:Program} {f:FuncId} {av:α→AV} {sz:Nat} (h:∀ (av':α→AV) (sz':Nat),av'=av→sz'=sz→∀ (m:Mark) (ts:List α) (id:Nat) (sn:List VN) (st:α→List VN→Bool × List VN) (g:List VN→Prop) (F:FuncId) (fst caps:List AV) (H:AHeap),ts.length≤1000000→H.get id=some (mpV sn)→g sn→(∀ x∈ts,Stp P av' F fst caps H id g st x)→ACalls P f [.slice m sz' (ts.map av'),.func (.func F) fst caps] H (.ret (.int .i64 (ixS st ts sn 0).1)) (H.set id (mpV (ixS st ts sn 0).2))):EntOk P f (Ent.effect (eIx P av sz)):=by
 refine EntOk.effect fun args H K hh=>?_
 unfold eIx at hh
 exact Y59
def eAn {α:Type} (P:Program) (av:α→AV) (sz:Nat):ECt
 |[x,.func (.func F) fst caps],H,K=>∃ (ts:List α) (id:Nat) (sn:List VN) (st:α→List VN→Bool × List VN) (g:List VN→Prop),(x=.slice x.smk sz (ts.map av)∧ts.length≤1000000∧H.get id=some (mpV sn)∧g sn∧∀ x∈ts,Stp P av F fst caps H id g st x)∧K (.ret (.bool (decide (0≤(ixS st ts sn 0).1)))) (H.set id (mpV (ixS st ts sn 0).2))
 |_,_,_=>False
theorem uc {α:Type} {P:Program} {f:FuncId} {av:α→AV} {sz:Nat} (h:∀ (av':α→AV) (sz':Nat),av'=av→sz'=sz→∀ (m:Mark) (ts:List α) (id:Nat) (sn:List VN) (st:α→List VN→Bool × List VN) (g:List VN→Prop) (F:FuncId) (fst caps:List AV) (H:AHeap),ts.length≤1000000→H.get id=some (mpV sn)→g sn→(∀ x∈ts,Stp P av' F fst caps H id g st x)→ACalls P f [.slice m sz' (ts.map av'),.func (.func F) fst caps] H (.ret (.bool (decide (0≤(ixS st ts sn 0).1)))) (H.set id (mpV (ixS st ts sn 0).2))):EntOk P f (Ent.effect (eAn P av sz)):=by
 refine EntOk.effect fun args H K hh=>?_
 unfold eAn at hh
 exact Y59
def eEv {α:Type} (P:Program) (av:α→AV) (sz:Nat):ECt
 |[x,.func (.func F) fst caps],H,K=>∃ (ts:List α) (id:Nat) (sn:List VN) (st:α→List VN→Bool × List VN) (g:List VN→Prop),(x=.slice x.smk sz (ts.map av)∧ts.length≤1000000∧H.get id=some (mpV sn)∧g sn∧∀ x∈ts,Stp P av F fst caps H id g st x)∧K (.ret (.bool (evS st ts sn).1)) (H.set id (mpV (evS st ts sn).2))
 |_,_,_=>False
theorem u5 {α:Type} {P:Program} {f:FuncId} {av:α→AV} {sz:Nat} (h:∀ (av':α→AV) (sz':Nat),av'=av→sz'=sz→∀ (m:Mark) (ts:List α) (id:Nat) (sn:List VN) (st:α→List VN→Bool × List VN) (g:List VN→Prop) (F:FuncId) (fst caps:List AV) (H:AHeap),ts.length≤1000000→H.get id=some (mpV sn)→g sn→(∀ x∈ts,Stp P av' F fst caps H id g st x)→ACalls P f [.slice m sz' (ts.map av'),.func (.func F) fst caps] H (.ret (.bool (evS st ts sn).1)) (H.set id (mpV (evS st ts sn).2))):EntOk P f (Ent.effect (eEv P av sz)):=by
 refine EntOk.effect fun args H K hh=>?_
 unfold eEv at hh
 exact Y59
def eCl {α:Type} (P:Program) (av:α→AV):ECt
 |[x,.ptr c 0],H,K=>∃ (t:α) (id:Nat) (sn:List VN) (st:α→List VN→Bool × List VN) (g:List VN→Prop) (F:FuncId) (fst caps:List AV),(x=av t∧H.get c=some (.cells [.func (.func F) fst caps])∧H.get id=some (mpV sn)∧g sn∧Stp P av F fst caps H id g st t)∧K (.ret (.bool (!(st t sn).1))) (H.set id (mpV (st t sn).2))
 |_,_,_=>False
theorem uq {α:Type} {P:Program} {f:FuncId} {av:α→AV} (h:∀ (av':α→AV),av'=av→∀ (x:α) (c id:Nat) (sn:List VN) (st:α→List VN→Bool × List VN) (g:List VN→Prop) (F:FuncId) (fst caps:List AV) (H:AHeap),H.get c=some (.cells [.func (.func F) fst caps])→H.get id=some (mpV sn)→g sn→Stp P av' F fst caps H id g st x→ACalls P f [av' x,.ptr c 0] H (.ret (.bool (!(st x sn).1))) (H.set id (mpV (st x sn).2))):EntOk P f (Ent.effect (eCl P av)):=by
 refine EntOk.effect fun args H K hh=>?_
 unfold eCl at hh
 split at hh
 ·obtain ⟨t,id,sn,st,g,F,fst,caps,⟨h1,h2,h3,h4,h5⟩,h6⟩:=hh
  rw [h1]
  exact ⟨_,_,h6,h av rfl t _ id sn st g _ _ _ _ h2 h3 h4 h5⟩
 ·exact hh.elim
attribute [go_sem] eIx eAn eEv eCl
abbrev MV:=@eIx SField Tryz.prog aG 3
abbrev MI:=@eAn SField Tryz.prog aG 3
abbrev Ct:=@eEv SField Tryz.prog aG 3
abbrev Mw:=@eCl SField Tryz.prog aG
theorem Lk:EEe 318 MV:=tJ fun av sz ha hs m ts id sn st g F fst caps H hl hid hg hq=>by
 have hag:∀ x,∃ cs,av x=.agg cs∧cs.length=sz:=by subst ha hs;exact fun x=>⟨_,rfl,rfl⟩
 refine Yfv aE (tCq (lr (F:=F)) tNq) Tryz.func318 [.tmp 4] fun hcl hlt=>?_
 exact Y4
theorem Kn:EEe 233 MI:=uc fun av sz ha hs m ts id sn st g F fst caps H hl hid hg hq=>by
 refine Yfv aE (tCq Lk tNq) Tryz.func233 [.tmp 4] fun hcl hlt=>?_
 exact Y33
theorem Kv:EEe 234 Mw:=uq fun av ha x c id sn st g F fst caps H hg hid hgs hq=>by
 have hag:∀ x,∃ cs,av x=.agg cs∧cs.length=3:=by subst ha;exact fun x=>⟨_,rfl,rfl⟩
 refine Yfv aE (tCq (lr (F:=F)) tNq) Tryz.func234 [.tmp 3] fun hcl hlt=>?_
 exact Y15
theorem GA:EEe 75 Ct:=u5 fun av sz ha hs m ts id sn st g F fst caps H hl hid hg hq=>by
 have hL:EEe 234 (eCl Tryz.prog av):=by rw [ha];exact Kv
 rw [← congrArg Prod.snd (@km _ _ st ts sn 0)]
 refine Yfv aE (tCq Kn tNq) Tryz.func75 [.tmp 4] fun hcl hlt=>?_
 exact Y5
abbrev LE:=@eIx SHeader Tryz.prog az 3
abbrev LR:=@eAn SHeader Tryz.prog az 3
abbrev CB:=@eEv SHeader Tryz.prog az 3
abbrev Me:=@eCl SHeader Tryz.prog az
theorem Id:EEe 319 LE:=tJ fun av sz ha hs m ts id sn st g F fst caps H hl hid hg hq=>by
 have hag:∀ x,∃ cs,av x=.agg cs∧cs.length=sz:=by subst ha hs;exact fun x=>⟨_,rfl,rfl⟩
 refine Yfv aE (tCq (lr (F:=F)) tNq) Tryz.func319 [.tmp 4] fun hcl hlt=>?_
 exact Y4
theorem I6:EEe 235 LR:=uc fun av sz ha hs m ts id sn st g F fst caps H hl hid hg hq=>by
 refine Yfv aE (tCq Id tNq) Tryz.func235 [.tmp 4] fun hcl hlt=>?_
 exact Y33
theorem IK:EEe 236 Me:=uq fun av ha x c id sn st g F fst caps H hg hid hgs hq=>by
 have hag:∀ x,∃ cs,av x=.agg cs∧cs.length=3:=by subst ha;exact fun x=>⟨_,rfl,rfl⟩
 refine Yfv aE (tCq (lr (F:=F)) tNq) Tryz.func236 [.tmp 3] fun hcl hlt=>?_
 exact Y15
theorem Gr:EEe 78 CB:=u5 fun av sz ha hs m ts id sn st g F fst caps H hl hid hg hq=>by
 have hL:EEe 236 (eCl Tryz.prog av):=by rw [ha];exact IK
 rw [← congrArg Prod.snd (@km _ _ st ts sn 0)]
 refine Yfv aE (tCq I6 tNq) Tryz.func78 [.tmp 4] fun hcl hlt=>?_
 exact Y5
abbrev NP:=@eIx SAction Tryz.prog ap 5
abbrev L0:=@eAn SAction Tryz.prog ap 5
abbrev CV:=@eEv SAction Tryz.prog ap 5
abbrev LD:=@eCl SAction Tryz.prog ap
theorem F1:EEe 277 NP:=tJ fun av sz ha hs m ts id sn st g F fst caps H hl hid hg hq=>by
 have hag:∀ x,∃ cs,av x=.agg cs∧cs.length=sz:=by subst ha hs;exact fun x=>⟨_,rfl,rfl⟩
 refine Yfv aE (tCq (lr (F:=F)) tNq) Tryz.func277 [.tmp 4] fun hcl hlt=>?_
 exact Y4
theorem KJ:EEe 237 L0:=uc fun av sz ha hs m ts id sn st g F fst caps H hl hid hg hq=>by
 refine Yfv aE (tCq F1 tNq) Tryz.func237 [.tmp 4] fun hcl hlt=>?_
 exact Y33
theorem HR:EEe 238 LD:=uq fun av ha x c id sn st g F fst caps H hg hid hgs hq=>by
 have hag:∀ x,∃ cs,av x=.agg cs∧cs.length=5:=by subst ha;exact fun x=>⟨_,rfl,rfl⟩
 refine Yfv aE (tCq (lr (F:=F)) tNq) Tryz.func238 [.tmp 3] fun hcl hlt=>?_
 exact Y15
theorem I1:EEe 80 CV:=u5 fun av sz ha hs m ts id sn st g F fst caps H hl hid hg hq=>by
 have hL:EEe 238 (eCl Tryz.prog av):=by rw [ha];exact HR
 rw [← congrArg Prod.snd (@km _ _ st ts sn 0)]
 refine Yfv aE (tCq KJ tNq) Tryz.func80 [.tmp 4] fun hcl hlt=>?_
 exact Y5
abbrev Oi:=@eIx STable Tryz.prog ax 8
abbrev OD:=@eAn STable Tryz.prog ax 8
abbrev Ch:=@eEv STable Tryz.prog ax 8
abbrev L7:=@eCl STable Tryz.prog ax
theorem Kg:EEe 56 Oi:=tJ fun av sz ha hs m ts id sn st g F fst caps H hl hid hg hq=>by
 have hag:∀ x,∃ cs,av x=.agg cs∧cs.length=sz:=by subst ha hs;exact fun x=>⟨_,rfl,rfl⟩
 refine Yfv aE (tCq (lr (F:=F)) tNq) Tryz.func56 [.tmp 4] fun hcl hlt=>?_
 exact Y4
theorem JT:EEe 241 OD:=uc fun av sz ha hs m ts id sn st g F fst caps H hl hid hg hq=>by
 refine Yfv aE (tCq Kg tNq) Tryz.func241 [.tmp 4] fun hcl hlt=>?_
 exact Y33
theorem Ig:EEe 242 L7:=uq fun av ha x c id sn st g F fst caps H hg hid hgs hq=>by
 have hag:∀ x,∃ cs,av x=.agg cs∧cs.length=8:=by subst ha;exact fun x=>⟨_,rfl,rfl⟩
 refine Yfv aE (tCq (lr (F:=F)) tNq) Tryz.func242 [.tmp 3] fun hcl hlt=>?_
 exact Y15
theorem Ih:EEe 85 Ch:=u5 fun av sz ha hs m ts id sn st g F fst caps H hl hid hg hq=>by
 have hL:EEe 242 (eCl Tryz.prog av):=by rw [ha];exact Ig
 rw [← congrArg Prod.snd (@km _ _ st ts sn 0)]
 refine Yfv aE (tCq JT tNq) Tryz.func85 [.tmp 4] fun hcl hlt=>?_
 exact Y5
abbrev Ly:=@eIx SRole Tryz.prog aN 6
abbrev Mo:=@eAn SRole Tryz.prog aN 6
abbrev Cc:=@eEv SRole Tryz.prog aN 6
abbrev L3:=@eCl SRole Tryz.prog aN
theorem KP:EEe 322 Ly:=tJ fun av sz ha hs m ts id sn st g F fst caps H hl hid hg hq=>by
 have hag:∀ x,∃ cs,av x=.agg cs∧cs.length=sz:=by subst ha hs;exact fun x=>⟨_,rfl,rfl⟩
 refine Yfv aE (tCq (lr (F:=F)) tNq) Tryz.func322 [.tmp 4] fun hcl hlt=>?_
 exact Y4
theorem IB:EEe 245 Mo:=uc fun av sz ha hs m ts id sn st g F fst caps H hl hid hg hq=>by
 refine Yfv aE (tCq KP tNq) Tryz.func245 [.tmp 4] fun hcl hlt=>?_
 exact Y33
theorem Kt:EEe 246 L3:=uq fun av ha x c id sn st g F fst caps H hg hid hgs hq=>by
 have hag:∀ x,∃ cs,av x=.agg cs∧cs.length=6:=by subst ha;exact fun x=>⟨_,rfl,rfl⟩
 refine Yfv aE (tCq (lr (F:=F)) tNq) Tryz.func246 [.tmp 3] fun hcl hlt=>?_
 exact Y15
theorem GI:EEe 89 Cc:=u5 fun av sz ha hs m ts id sn st g F fst caps H hl hid hg hq=>by
 have hL:EEe 246 (eCl Tryz.prog av):=by rw [ha];exact Kt
 rw [← congrArg Prod.snd (@km _ _ st ts sn 0)]
 refine Yfv aE (tCq IB tNq) Tryz.func89 [.tmp 4] fun hcl hlt=>?_
 exact Y5
end Go.AL
