/- Lemmas of the proof; no condition. -/
import Derived.Test.YtjffcopmhkcejaaGreatE04d
import Derived.Test.YtjffcopmhkcejaaGreatAlMap
set_option linter.all false
set_option maxRecDepth 10000
set_option maxHeartbeats 32000000
open Go Go.AL Go.Proofs
namespace Go.AL
theorem Md:ti Tryz.prog 218=some ⟨.map 3 4,1,8,.nilm⟩:=krf
theorem Mj:ti Tryz.prog 340=some ⟨.map 9 4,1,8,.nilm⟩:=krf
theorem PJ:ti Tryz.prog 3=some ⟨.int .i64,1,8,.int .i64 0⟩:=krf
theorem DU:ti Tryz.prog 9=some ⟨.string,1,16,.str []⟩:=krf
attribute [go_sem] Md Mj PJ DU
def dsF{α:Type}[BEq α]:List α→List α→Bool
 |_,[]=>true
 |s,x::l=>!s.contains x&&dsF (x::s) l
def d9{α:Type}(key:α→AV)(l:List α):List (AV × AV):=l.map fun v=>(key v,.bool true)
def i64(n:Int):Prop := -9223372036854775808≤n∧n≤9223372036854775807
def Iw(s:By):Prop:=s.length≤140737488355328
def ja{α:Type}{P:Program}{t:TypeId}{key:α→AV}{l:List α}{g:α→Prop}(hg:∀ v,g v→iZ P t (key v))(h:∀ v∈l,g v):∀ p∈d9 key l,iZ P t p.1:=by
 intro p hp
 obtain⟨v,hv,rfl⟩:=List.mem_map.1 hp
 exact hg v (h v hv)
def kR(l:List Int)(x:Int):ki (d9 (AV.int .i64) l) (.int .i64 x)=if l.contains x then some (.bool true)else none:=by
 exact Y76
def xP(l:List (By))(x:By):ki (d9 AV.str l) (.str x)=if l.contains x then some (.bool true)else none:=by
 exact Y76
theorem EL:(Tryz.prog).underlying 3=some (.int .i64):=krf
theorem EU:(Tryz.prog).underlying 9=some .string:=krf
def fM:Maps.Keyed Tryz.prog 3:=Maps.int_keyed EL
def tq:Maps.Keyed Tryz.prog 9:=Maps.string_keyed EU
def dc(n:Int)(h:i64 n):iZ Tryz.prog 3 (.int .i64 n):=by
 have h1:=h.1
 have h2:=h.2
 refine⟨.int .i64 n,?_⟩
 show keyOf _ _ (Value.int .i64 n)=_
 unfold keyOf mapKey
 simp only[EL]
 rw[if_pos]
 refine⟨trivial,?_⟩
 simp[Lit.wf]
 exact⟨h1,h2⟩
def mE(s:By)(h:Iw s):iZ Tryz.prog 9 (.str s):=by
 refine⟨.string s,?_⟩
 show keyOf _ _ (Value.string ⟨s.toArray⟩)=_
 unfold keyOf mapKey
 simp only[EU]
 have hm:(140737488355328:Nat)≤maxLen:=Xb
 have h1:s.length≤140737488355328:=h
 rw[if_pos (by simp only[ByteArray.size,List.size_toArray];omega)]
def gm:PCt
 |[.slice _ 3 l,.func (.func F) fst caps],H,K=>∃ (ts:List SField) (f:SField→Int),(l=ts.map aJ∧ts.length≤1000000∧∀ x∈ts,i64 (f x)∧∀ H',H.Le H'→H'.Closed→ACalls Tryz.prog F (fst++[aJ x]++caps) H' (.ret ((AV.int .i64) (f x))) H')∧K (.bool (dsF [] (ts.map f)))
 |_,_,_=>False
def It:EPp 91 gm:=by
 refine Ype fun _ H K h=>?_
 unfold gm at h
 split at h<;>try exact h.elim
 rename_i m l F fst caps
 obtain⟨ts,f,⟨rfl,hl,hq⟩,hK⟩:=h
 refine⟨_,hK,?_⟩
 clear hK
 generalize hR:dsF [] (ts.map f)=R
 refine Yfv aD (tCq (eU (F:=F)) tNq) Tryz.func91 [.tmp 4] fun hcl hlt=>?_
 have hm:∀ n',H.nx≤n'→AV.lt n' (.slice m 3 (ts.map aJ)):=fun n' hn=>AV.lt_mono hn _ (hlt (.slice m 3 (ts.map aJ)) Xc)
 have hf:∀ n',H.nx≤n'→AV.lt n' (.func (.func F) fst caps):=fun n' hn=>AV.lt_mono hn _ (hlt (.func (.func F) fst caps) Xc)
 clear hlt
 refine Tq60 ?_
 refine aG (A:=Nat × List (Int) × AHeap) (fun a=>[(1,.func (.func F) fst caps),(5,.mapv H.nx),(10,.slice m 3 (ts.map aJ)),(11,.int .i64 (ts.length:Int)),(12,.int .i64 (a.1:Int))]) (fun a=>a.2.2)
  (fun a=>a.1≤ts.length∧dsF a.2.1 ((ts.drop a.1).map f)=R∧(∀ v∈a.2.1,i64 v)∧H.Le a.2.2∧a.2.2.Closed∧a.2.2.get H.nx=some (.mapo (d9 (AV.int .i64) a.2.1))) (fun a=>ts.length-a.1) (0,[],H.push (.mapo [])) ⟨Nat.zero_le _,hR,(fun v hv=>by cases hv),(lRq _).push _,dV hcl,AHeap.get_push_new _ _⟩ ?_ fun a ha=>?_
 ·exact Y9
 obtain⟨k,sn,Hc⟩:=a
 clear hR
 obtain⟨hk,hR,hsn,hle,hcc,hid⟩:=ha
 dsimp only at hk hR hsn hle hcc hid ⊢
 have hnx:H.nx<Hc.nx:=glq hid
 have hne:(H.nx=Hc.nx)=False:=eFo
 have hne2:(Hc.nx=H.nx)=False:=eFo
 refine Tq20 ?_
 refine ax (fun hc=>?_) (fun hc=>?_)
 ·have hk':k<ts.length:=sHc
  obtain⟨x,hx⟩:∃ x,x=ts[k]:=⟨_,rfl⟩
  have hd:ts.drop k=x::ts.drop (k+1):=by rw[hx];exact dcq hk'
  have hg':=a9 (f:=aJ) (l:=ts) (k:=k) (x:=x) (by rw[gQq hk',hx])
  have e5:=Yk5 k
  rw[hd,yae]at hR
  unfold dsF at hR
  obtain⟨hgx,hqx⟩:=hq x (by rw[hx];exact gMq hk')
  have hcs:aJ x=.agg [.int .i64 x.id,.str x.name,.int .i64 x.bits]:=rfl
  have hel:AV.lt (Hc.nx+1) (aJ x):=by
   exact Y29
  rw[hcs]at hqx hel hg'
  rw[znp]at hel
  have hcp:(Hc.push (.cells [.int .i64 x.id,.str x.name,.int .i64 x.bits])).Closed:=ah hcc hel
  have hlp:H.Le (Hc.push (.cells [.int .i64 x.id,.str x.name,.int .i64 x.bits])):=hle.push _
  have hgp:(Hc.push (.cells [.int .i64 x.id,.str x.name,.int .i64 x.bits])).get H.nx=some (.mapo (d9 (AV.int .i64) sn)):=by rw[zlf,if_neg (by omega)];exact hid
  exact Y3
 ·exact Y28
def gE:PCt
 |[.slice _ 3 l,.func (.func F) fst caps],H,K=>∃ (ts:List SHeader) (f:SHeader→Int),(l=ts.map az∧ts.length≤1000000∧∀ x∈ts,i64 (f x)∧∀ H',H.Le H'→H'.Closed→ACalls Tryz.prog F (fst++[az x]++caps) H' (.ret ((AV.int .i64) (f x))) H')∧K (.bool (dsF [] (ts.map f)))
 |_,_,_=>False
def Jx:EPp 93 gE:=by
 refine Ype fun _ H K h=>?_
 unfold gE at h
 split at h<;>try exact h.elim
 rename_i m l F fst caps
 obtain⟨ts,f,⟨rfl,hl,hq⟩,hK⟩:=h
 refine⟨_,hK,?_⟩
 clear hK
 generalize hR:dsF [] (ts.map f)=R
 refine Yfv aD (tCq (eU (F:=F)) tNq) Tryz.func93 [.tmp 4] fun hcl hlt=>?_
 have hm:∀ n',H.nx≤n'→AV.lt n' (.slice m 3 (ts.map az)):=fun n' hn=>AV.lt_mono hn _ (hlt (.slice m 3 (ts.map az)) Xc)
 have hf:∀ n',H.nx≤n'→AV.lt n' (.func (.func F) fst caps):=fun n' hn=>AV.lt_mono hn _ (hlt (.func (.func F) fst caps) Xc)
 clear hlt
 refine Tq60 ?_
 refine aG (A:=Nat × List (Int) × AHeap) (fun a=>[(1,.func (.func F) fst caps),(5,.mapv H.nx),(10,.slice m 3 (ts.map az)),(11,.int .i64 (ts.length:Int)),(12,.int .i64 (a.1:Int))]) (fun a=>a.2.2)
  (fun a=>a.1≤ts.length∧dsF a.2.1 ((ts.drop a.1).map f)=R∧(∀ v∈a.2.1,i64 v)∧H.Le a.2.2∧a.2.2.Closed∧a.2.2.get H.nx=some (.mapo (d9 (AV.int .i64) a.2.1))) (fun a=>ts.length-a.1) (0,[],H.push (.mapo [])) ⟨Nat.zero_le _,hR,(fun v hv=>by cases hv),(lRq _).push _,dV hcl,AHeap.get_push_new _ _⟩ ?_ fun a ha=>?_
 ·exact Y9
 obtain⟨k,sn,Hc⟩:=a
 clear hR
 obtain⟨hk,hR,hsn,hle,hcc,hid⟩:=ha
 dsimp only at hk hR hsn hle hcc hid ⊢
 have hnx:H.nx<Hc.nx:=glq hid
 have hne:(H.nx=Hc.nx)=False:=eFo
 have hne2:(Hc.nx=H.nx)=False:=eFo
 refine Tq20 ?_
 refine ax (fun hc=>?_) (fun hc=>?_)
 ·have hk':k<ts.length:=sHc
  obtain⟨x,hx⟩:∃ x,x=ts[k]:=⟨_,rfl⟩
  have hd:ts.drop k=x::ts.drop (k+1):=by rw[hx];exact dcq hk'
  have hg':=a9 (f:=az) (l:=ts) (k:=k) (x:=x) (by rw[gQq hk',hx])
  have e5:=Yk5 k
  rw[hd,yae]at hR
  unfold dsF at hR
  obtain⟨hgx,hqx⟩:=hq x (by rw[hx];exact gMq hk')
  have hcs:az x=.agg [.int .i64 x.id,.str x.name,.slice .any 1 (inL x.fields)]:=rfl
  have hel:AV.lt (Hc.nx+1) (az x):=by
   exact Y29
  rw[hcs]at hqx hel hg'
  rw[znp]at hel
  have hcp:(Hc.push (.cells [.int .i64 x.id,.str x.name,.slice .any 1 (inL x.fields)])).Closed:=ah hcc hel
  have hlp:H.Le (Hc.push (.cells [.int .i64 x.id,.str x.name,.slice .any 1 (inL x.fields)])):=hle.push _
  have hgp:(Hc.push (.cells [.int .i64 x.id,.str x.name,.slice .any 1 (inL x.fields)])).get H.nx=some (.mapo (d9 (AV.int .i64) sn)):=by rw[zlf,if_neg (by omega)];exact hid
  exact Y3
 ·exact Y28
def hY:PCt
 |[.slice _ 5 l,.func (.func F) fst caps],H,K=>∃ (ts:List SState) (f:SState→Int),(l=ts.map aE∧ts.length≤1000000∧∀ x∈ts,i64 (f x)∧∀ H',H.Le H'→H'.Closed→ACalls Tryz.prog F (fst++[aE x]++caps) H' (.ret ((AV.int .i64) (f x))) H')∧K (.bool (dsF [] (ts.map f)))
 |_,_,_=>False
def K8:EPp 95 hY:=by
 refine Ype fun _ H K h=>?_
 unfold hY at h
 split at h<;>try exact h.elim
 rename_i m l F fst caps
 obtain⟨ts,f,⟨rfl,hl,hq⟩,hK⟩:=h
 refine⟨_,hK,?_⟩
 clear hK
 generalize hR:dsF [] (ts.map f)=R
 refine Yfv aD (tCq (eU (F:=F)) tNq) Tryz.func95 [.tmp 4] fun hcl hlt=>?_
 have hm:∀ n',H.nx≤n'→AV.lt n' (.slice m 5 (ts.map aE)):=fun n' hn=>AV.lt_mono hn _ (hlt (.slice m 5 (ts.map aE)) Xc)
 have hf:∀ n',H.nx≤n'→AV.lt n' (.func (.func F) fst caps):=fun n' hn=>AV.lt_mono hn _ (hlt (.func (.func F) fst caps) Xc)
 clear hlt
 refine Tq60 ?_
 refine aG (A:=Nat × List (Int) × AHeap) (fun a=>[(1,.func (.func F) fst caps),(5,.mapv H.nx),(10,.slice m 5 (ts.map aE)),(11,.int .i64 (ts.length:Int)),(12,.int .i64 (a.1:Int))]) (fun a=>a.2.2)
  (fun a=>a.1≤ts.length∧dsF a.2.1 ((ts.drop a.1).map f)=R∧(∀ v∈a.2.1,i64 v)∧H.Le a.2.2∧a.2.2.Closed∧a.2.2.get H.nx=some (.mapo (d9 (AV.int .i64) a.2.1))) (fun a=>ts.length-a.1) (0,[],H.push (.mapo [])) ⟨Nat.zero_le _,hR,(fun v hv=>by cases hv),(lRq _).push _,dV hcl,AHeap.get_push_new _ _⟩ ?_ fun a ha=>?_
 ·exact Y9
 obtain⟨k,sn,Hc⟩:=a
 clear hR
 obtain⟨hk,hR,hsn,hle,hcc,hid⟩:=ha
 dsimp only at hk hR hsn hle hcc hid ⊢
 have hnx:H.nx<Hc.nx:=glq hid
 have hne:(H.nx=Hc.nx)=False:=eFo
 have hne2:(Hc.nx=H.nx)=False:=eFo
 refine Tq20 ?_
 refine ax (fun hc=>?_) (fun hc=>?_)
 ·have hk':k<ts.length:=sHc
  obtain⟨x,hx⟩:∃ x,x=ts[k]:=⟨_,rfl⟩
  have hd:ts.drop k=x::ts.drop (k+1):=by rw[hx];exact dcq hk'
  have hg':=a9 (f:=aE) (l:=ts) (k:=k) (x:=x) (by rw[gQq hk',hx])
  have e5:=Yk5 k
  rw[hd,yae]at hR
  unfold dsF at hR
  obtain⟨hgx,hqx⟩:=hq x (by rw[hx];exact gMq hk')
  have hcs:aE x=.agg [.int .i64 x.id,.int .i64 x.header,.int .i64 x.select,.slice .any 5 (x.cases.map ba),.int .i64 x.dflt]:=rfl
  have hel:AV.lt (Hc.nx+1) (aE x):=by
   exact Y29
  rw[hcs]at hqx hel hg'
  rw[znp]at hel
  have hcp:(Hc.push (.cells [.int .i64 x.id,.int .i64 x.header,.int .i64 x.select,.slice .any 5 (x.cases.map ba),.int .i64 x.dflt])).Closed:=ah hcc hel
  have hlp:H.Le (Hc.push (.cells [.int .i64 x.id,.int .i64 x.header,.int .i64 x.select,.slice .any 5 (x.cases.map ba),.int .i64 x.dflt])):=hle.push _
  have hgp:(Hc.push (.cells [.int .i64 x.id,.int .i64 x.header,.int .i64 x.select,.slice .any 5 (x.cases.map ba),.int .i64 x.dflt])).get H.nx=some (.mapo (d9 (AV.int .i64) sn)):=by rw[zlf,if_neg (by omega)];exact hid
  exact Y3
 ·exact Y28
def iI:PCt
 |[.slice _ 5 l,.func (.func F) fst caps],H,K=>∃ (ts:List SAction) (f:SAction→Int),(l=ts.map ap∧ts.length≤1000000∧∀ x∈ts,i64 (f x)∧∀ H',H.Le H'→H'.Closed→ACalls Tryz.prog F (fst++[ap x]++caps) H' (.ret ((AV.int .i64) (f x))) H')∧K (.bool (dsF [] (ts.map f)))
 |_,_,_=>False
def MW:EPp 97 iI:=by
 refine Ype fun _ H K h=>?_
 unfold iI at h
 split at h<;>try exact h.elim
 rename_i m l F fst caps
 obtain⟨ts,f,⟨rfl,hl,hq⟩,hK⟩:=h
 refine⟨_,hK,?_⟩
 clear hK
 generalize hR:dsF [] (ts.map f)=R
 refine Yfv aD (tCq (eU (F:=F)) tNq) Tryz.func97 [.tmp 4] fun hcl hlt=>?_
 have hm:∀ n',H.nx≤n'→AV.lt n' (.slice m 5 (ts.map ap)):=fun n' hn=>AV.lt_mono hn _ (hlt (.slice m 5 (ts.map ap)) Xc)
 have hf:∀ n',H.nx≤n'→AV.lt n' (.func (.func F) fst caps):=fun n' hn=>AV.lt_mono hn _ (hlt (.func (.func F) fst caps) Xc)
 clear hlt
 refine Tq60 ?_
 refine aG (A:=Nat × List (Int) × AHeap) (fun a=>[(1,.func (.func F) fst caps),(5,.mapv H.nx),(10,.slice m 5 (ts.map ap)),(11,.int .i64 (ts.length:Int)),(12,.int .i64 (a.1:Int))]) (fun a=>a.2.2)
  (fun a=>a.1≤ts.length∧dsF a.2.1 ((ts.drop a.1).map f)=R∧(∀ v∈a.2.1,i64 v)∧H.Le a.2.2∧a.2.2.Closed∧a.2.2.get H.nx=some (.mapo (d9 (AV.int .i64) a.2.1))) (fun a=>ts.length-a.1) (0,[],H.push (.mapo [])) ⟨Nat.zero_le _,hR,(fun v hv=>by cases hv),(lRq _).push _,dV hcl,AHeap.get_push_new _ _⟩ ?_ fun a ha=>?_
 ·exact Y9
 obtain⟨k,sn,Hc⟩:=a
 clear hR
 obtain⟨hk,hR,hsn,hle,hcc,hid⟩:=ha
 dsimp only at hk hR hsn hle hcc hid ⊢
 have hnx:H.nx<Hc.nx:=glq hid
 have hne:(H.nx=Hc.nx)=False:=eFo
 have hne2:(Hc.nx=H.nx)=False:=eFo
 refine Tq20 ?_
 refine ax (fun hc=>?_) (fun hc=>?_)
 ·have hk':k<ts.length:=sHc
  obtain⟨x,hx⟩:∃ x,x=ts[k]:=⟨_,rfl⟩
  have hd:ts.drop k=x::ts.drop (k+1):=by rw[hx];exact dcq hk'
  have hg':=a9 (f:=ap) (l:=ts) (k:=k) (x:=x) (by rw[gQq hk',hx])
  have e5:=Yk5 k
  rw[hd,yae]at hR
  unfold dsF at hR
  obtain⟨hgx,hqx⟩:=hq x (by rw[hx];exact gMq hk')
  have hcs:ap x=.agg [.int .i64 x.id,.str x.name,.slice .any 2 (x.params.map aL),.slice .any 6 (x.body.map aU),.str x.restr]:=rfl
  have hel:AV.lt (Hc.nx+1) (ap x):=by
   exact Y29
  rw[hcs]at hqx hel hg'
  rw[znp]at hel
  have hcp:(Hc.push (.cells [.int .i64 x.id,.str x.name,.slice .any 2 (x.params.map aL),.slice .any 6 (x.body.map aU),.str x.restr])).Closed:=ah hcc hel
  have hlp:H.Le (Hc.push (.cells [.int .i64 x.id,.str x.name,.slice .any 2 (x.params.map aL),.slice .any 6 (x.body.map aU),.str x.restr])):=hle.push _
  have hgp:(Hc.push (.cells [.int .i64 x.id,.str x.name,.slice .any 2 (x.params.map aL),.slice .any 6 (x.body.map aU),.str x.restr])).get H.nx=some (.mapo (d9 (AV.int .i64) sn)):=by rw[zlf,if_neg (by omega)];exact hid
  exact Y3
 ·exact Y28
def js:PCt
 |[.slice _ 8 l,.func (.func F) fst caps],H,K=>∃ (ts:List STable) (f:STable→Int),(l=ts.map au∧ts.length≤1000000∧∀ x∈ts,i64 (f x)∧∀ H',H.Le H'→H'.Closed→ACalls Tryz.prog F (fst++[au x]++caps) H' (.ret ((AV.int .i64) (f x))) H')∧K (.bool (dsF [] (ts.map f)))
 |_,_,_=>False
def Mu:EPp 99 js:=by
 refine Ype fun _ H K h=>?_
 unfold js at h
 split at h<;>try exact h.elim
 rename_i m l F fst caps
 obtain⟨ts,f,⟨rfl,hl,hq⟩,hK⟩:=h
 refine⟨_,hK,?_⟩
 clear hK
 generalize hR:dsF [] (ts.map f)=R
 refine Yfv aD (tCq (eU (F:=F)) tNq) Tryz.func99 [.tmp 4] fun hcl hlt=>?_
 have hm:∀ n',H.nx≤n'→AV.lt n' (.slice m 8 (ts.map au)):=fun n' hn=>AV.lt_mono hn _ (hlt (.slice m 8 (ts.map au)) Xc)
 have hf:∀ n',H.nx≤n'→AV.lt n' (.func (.func F) fst caps):=fun n' hn=>AV.lt_mono hn _ (hlt (.func (.func F) fst caps) Xc)
 clear hlt
 refine Tq60 ?_
 refine aG (A:=Nat × List (Int) × AHeap) (fun a=>[(1,.func (.func F) fst caps),(5,.mapv H.nx),(10,.slice m 8 (ts.map au)),(11,.int .i64 (ts.length:Int)),(12,.int .i64 (a.1:Int))]) (fun a=>a.2.2)
  (fun a=>a.1≤ts.length∧dsF a.2.1 ((ts.drop a.1).map f)=R∧(∀ v∈a.2.1,i64 v)∧H.Le a.2.2∧a.2.2.Closed∧a.2.2.get H.nx=some (.mapo (d9 (AV.int .i64) a.2.1))) (fun a=>ts.length-a.1) (0,[],H.push (.mapo [])) ⟨Nat.zero_le _,hR,(fun v hv=>by cases hv),(lRq _).push _,dV hcl,AHeap.get_push_new _ _⟩ ?_ fun a ha=>?_
 ·exact Y9
 obtain⟨k,sn,Hc⟩:=a
 clear hR
 obtain⟨hk,hR,hsn,hle,hcc,hid⟩:=ha
 dsimp only at hk hR hsn hle hcc hid ⊢
 have hnx:H.nx<Hc.nx:=glq hid
 have hne:(H.nx=Hc.nx)=False:=eFo
 have hne2:(Hc.nx=H.nx)=False:=eFo
 refine Tq20 ?_
 refine ax (fun hc=>?_) (fun hc=>?_)
 ·have hk':k<ts.length:=sHc
  obtain⟨x,hx⟩:∃ x,x=ts[k]:=⟨_,rfl⟩
  have hd:ts.drop k=x::ts.drop (k+1):=by rw[hx];exact dcq hk'
  have hg':=a9 (f:=au) (l:=ts) (k:=k) (x:=x) (by rw[gQq hk',hx])
  have e5:=Yk5 k
  rw[hd,yae]at hR
  unfold dsF at hR
  obtain⟨hgx,hqx⟩:=hq x (by rw[hx];exact gMq hk')
  have hcs:au x=.agg [.int .i64 x.id,.str x.name,.slice .any 3 (x.keys.map aZ),.slice .any 1 (inL x.actions),.int .i64 x.dflt,.slice .any 2 (x.dargs.map vv),.int .i64 x.size,.str x.restr]:=rfl
  have hel:AV.lt (Hc.nx+1) (au x):=by
   exact Y29
  rw[hcs]at hqx hel hg'
  rw[znp]at hel
  have hcp:(Hc.push (.cells [.int .i64 x.id,.str x.name,.slice .any 3 (x.keys.map aZ),.slice .any 1 (inL x.actions),.int .i64 x.dflt,.slice .any 2 (x.dargs.map vv),.int .i64 x.size,.str x.restr])).Closed:=ah hcc hel
  have hlp:H.Le (Hc.push (.cells [.int .i64 x.id,.str x.name,.slice .any 3 (x.keys.map aZ),.slice .any 1 (inL x.actions),.int .i64 x.dflt,.slice .any 2 (x.dargs.map vv),.int .i64 x.size,.str x.restr])):=hle.push _
  have hgp:(Hc.push (.cells [.int .i64 x.id,.str x.name,.slice .any 3 (x.keys.map aZ),.slice .any 1 (inL x.actions),.int .i64 x.dflt,.slice .any 2 (x.dargs.map vv),.int .i64 x.size,.str x.restr])).get H.nx=some (.mapo (d9 (AV.int .i64) sn)):=by rw[zlf,if_neg (by omega)];exact hid
  exact Y3
 ·exact Y28
def j9:PCt
 |[.slice _ 6 l,.func (.func F) fst caps],H,K=>∃ (ts:List SRole) (f:SRole→Int),(l=ts.map aP∧ts.length≤1000000∧∀ x∈ts,i64 (f x)∧∀ H',H.Le H'→H'.Closed→ACalls Tryz.prog F (fst++[aP x]++caps) H' (.ret ((AV.int .i64) (f x))) H')∧K (.bool (dsF [] (ts.map f)))
 |_,_,_=>False
def Ip:EPp 101 j9:=by
 refine Ype fun _ H K h=>?_
 unfold j9 at h
 split at h<;>try exact h.elim
 rename_i m l F fst caps
 obtain⟨ts,f,⟨rfl,hl,hq⟩,hK⟩:=h
 refine⟨_,hK,?_⟩
 clear hK
 generalize hR:dsF [] (ts.map f)=R
 refine Yfv aD (tCq (eU (F:=F)) tNq) Tryz.func101 [.tmp 4] fun hcl hlt=>?_
 have hm:∀ n',H.nx≤n'→AV.lt n' (.slice m 6 (ts.map aP)):=fun n' hn=>AV.lt_mono hn _ (hlt (.slice m 6 (ts.map aP)) Xc)
 have hf:∀ n',H.nx≤n'→AV.lt n' (.func (.func F) fst caps):=fun n' hn=>AV.lt_mono hn _ (hlt (.func (.func F) fst caps) Xc)
 clear hlt
 refine Tq60 ?_
 refine aG (A:=Nat × List (Int) × AHeap) (fun a=>[(1,.func (.func F) fst caps),(5,.mapv H.nx),(10,.slice m 6 (ts.map aP)),(11,.int .i64 (ts.length:Int)),(12,.int .i64 (a.1:Int))]) (fun a=>a.2.2)
  (fun a=>a.1≤ts.length∧dsF a.2.1 ((ts.drop a.1).map f)=R∧(∀ v∈a.2.1,i64 v)∧H.Le a.2.2∧a.2.2.Closed∧a.2.2.get H.nx=some (.mapo (d9 (AV.int .i64) a.2.1))) (fun a=>ts.length-a.1) (0,[],H.push (.mapo [])) ⟨Nat.zero_le _,hR,(fun v hv=>by cases hv),(lRq _).push _,dV hcl,AHeap.get_push_new _ _⟩ ?_ fun a ha=>?_
 ·exact Y9
 obtain⟨k,sn,Hc⟩:=a
 clear hR
 obtain⟨hk,hR,hsn,hle,hcc,hid⟩:=ha
 dsimp only at hk hR hsn hle hcc hid ⊢
 have hnx:H.nx<Hc.nx:=glq hid
 have hne:(H.nx=Hc.nx)=False:=eFo
 have hne2:(Hc.nx=H.nx)=False:=eFo
 refine Tq20 ?_
 refine ax (fun hc=>?_) (fun hc=>?_)
 ·have hk':k<ts.length:=sHc
  obtain⟨x,hx⟩:∃ x,x=ts[k]:=⟨_,rfl⟩
  have hd:ts.drop k=x::ts.drop (k+1):=by rw[hx];exact dcq hk'
  have hg':=a9 (f:=aP) (l:=ts) (k:=k) (x:=x) (by rw[gQq hk',hx])
  have e5:=Yk5 k
  rw[hd,yae]at hR
  unfold dsF at hR
  obtain⟨hgx,hqx⟩:=hq x (by rw[hx];exact gMq hk')
  have hcs:aP x=.agg [.int .i64 x.id,.str x.name,.slice .any 4 (x.grants.map aK),.slice .any 1 (inL x.actions),.int .i64 x.quota,.bool x.audit]:=rfl
  have hel:AV.lt (Hc.nx+1) (aP x):=by
   exact Y29
  rw[hcs]at hqx hel hg'
  rw[znp]at hel
  have hcp:(Hc.push (.cells [.int .i64 x.id,.str x.name,.slice .any 4 (x.grants.map aK),.slice .any 1 (inL x.actions),.int .i64 x.quota,.bool x.audit])).Closed:=ah hcc hel
  have hlp:H.Le (Hc.push (.cells [.int .i64 x.id,.str x.name,.slice .any 4 (x.grants.map aK),.slice .any 1 (inL x.actions),.int .i64 x.quota,.bool x.audit])):=hle.push _
  have hgp:(Hc.push (.cells [.int .i64 x.id,.str x.name,.slice .any 4 (x.grants.map aK),.slice .any 1 (inL x.actions),.int .i64 x.quota,.bool x.audit])).get H.nx=some (.mapo (d9 (AV.int .i64) sn)):=by rw[zlf,if_neg (by omega)];exact hid
  exact Y3
 ·exact Y28
def sP:PCt
 |[.slice _ 4 l,.func (.func F) fst caps],H,K=>∃ (ts:List SGrant) (f:SGrant→Int),(l=ts.map aK∧ts.length≤1000000∧∀ x∈ts,i64 (f x)∧∀ H',H.Le H'→H'.Closed→ACalls Tryz.prog F (fst++[aK x]++caps) H' (.ret ((AV.int .i64) (f x))) H')∧K (.bool (dsF [] (ts.map f)))
 |_,_,_=>False
def KG:EPp 108 sP:=by
 refine Ype fun _ H K h=>?_
 unfold sP at h
 split at h<;>try exact h.elim
 rename_i m l F fst caps
 obtain⟨ts,f,⟨rfl,hl,hq⟩,hK⟩:=h
 refine⟨_,hK,?_⟩
 clear hK
 generalize hR:dsF [] (ts.map f)=R
 refine Yfv aD (tCq (eU (F:=F)) tNq) Tryz.func108 [.tmp 4] fun hcl hlt=>?_
 have hm:∀ n',H.nx≤n'→AV.lt n' (.slice m 4 (ts.map aK)):=fun n' hn=>AV.lt_mono hn _ (hlt (.slice m 4 (ts.map aK)) Xc)
 have hf:∀ n',H.nx≤n'→AV.lt n' (.func (.func F) fst caps):=fun n' hn=>AV.lt_mono hn _ (hlt (.func (.func F) fst caps) Xc)
 clear hlt
 refine Tq60 ?_
 refine aG (A:=Nat × List (Int) × AHeap) (fun a=>[(1,.func (.func F) fst caps),(5,.mapv H.nx),(10,.slice m 4 (ts.map aK)),(11,.int .i64 (ts.length:Int)),(12,.int .i64 (a.1:Int))]) (fun a=>a.2.2)
  (fun a=>a.1≤ts.length∧dsF a.2.1 ((ts.drop a.1).map f)=R∧(∀ v∈a.2.1,i64 v)∧H.Le a.2.2∧a.2.2.Closed∧a.2.2.get H.nx=some (.mapo (d9 (AV.int .i64) a.2.1))) (fun a=>ts.length-a.1) (0,[],H.push (.mapo [])) ⟨Nat.zero_le _,hR,(fun v hv=>by cases hv),(lRq _).push _,dV hcl,AHeap.get_push_new _ _⟩ ?_ fun a ha=>?_
 ·exact Y9
 obtain⟨k,sn,Hc⟩:=a
 clear hR
 obtain⟨hk,hR,hsn,hle,hcc,hid⟩:=ha
 dsimp only at hk hR hsn hle hcc hid ⊢
 have hnx:H.nx<Hc.nx:=glq hid
 have hne:(H.nx=Hc.nx)=False:=eFo
 have hne2:(Hc.nx=H.nx)=False:=eFo
 refine Tq20 ?_
 refine ax (fun hc=>?_) (fun hc=>?_)
 ·have hk':k<ts.length:=sHc
  obtain⟨x,hx⟩:∃ x,x=ts[k]:=⟨_,rfl⟩
  have hd:ts.drop k=x::ts.drop (k+1):=by rw[hx];exact dcq hk'
  have hg':=a9 (f:=aK) (l:=ts) (k:=k) (x:=x) (by rw[gQq hk',hx])
  have e5:=Yk5 k
  rw[hd,yae]at hR
  unfold dsF at hR
  obtain⟨hgx,hqx⟩:=hq x (by rw[hx];exact gMq hk')
  have hcs:aK x=.agg [.int .i64 x.table,.bool x.read,.bool x.write,.slice .any 1 (boL x.keys)]:=rfl
  have hel:AV.lt (Hc.nx+1) (aK x):=by
   exact Y29
  rw[hcs]at hqx hel hg'
  rw[znp]at hel
  have hcp:(Hc.push (.cells [.int .i64 x.table,.bool x.read,.bool x.write,.slice .any 1 (boL x.keys)])).Closed:=ah hcc hel
  have hlp:H.Le (Hc.push (.cells [.int .i64 x.table,.bool x.read,.bool x.write,.slice .any 1 (boL x.keys)])):=hle.push _
  have hgp:(Hc.push (.cells [.int .i64 x.table,.bool x.read,.bool x.write,.slice .any 1 (boL x.keys)])).get H.nx=some (.mapo (d9 (AV.int .i64) sn)):=by rw[zlf,if_neg (by omega)];exact hid
  exact Y3
 ·exact Y28
def iL:PCt
 |[.slice _ 1 l,.func (.func F) fst caps],H,K=>∃ (ts:List Int) (f:Int→Int),(l=ts.map (AV.int .i64)∧ts.length≤1000000∧∀ x∈ts,i64 (f x)∧∀ H',H.Le H'→H'.Closed→ACalls Tryz.prog F (fst++[(AV.int .i64) x]++caps) H' (.ret ((AV.int .i64) (f x))) H')∧K (.bool (dsF [] (ts.map f)))
 |_,_,_=>False
def wd:EPp 104 iL:=by
 refine Ype fun _ H K h=>?_
 unfold iL at h
 split at h<;>try exact h.elim
 rename_i m l F fst caps
 obtain⟨ts,f,⟨rfl,hl,hq⟩,hK⟩:=h
 refine⟨_,hK,?_⟩
 clear hK
 generalize hR:dsF [] (ts.map f)=R
 refine Yfv aD (tCq (eU (F:=F)) tNq) Tryz.func104 [.tmp 4] fun hcl hlt=>?_
 have hm:∀ n',H.nx≤n'→AV.lt n' (.slice m 1 (ts.map (AV.int .i64))):=fun n' hn=>AV.lt_mono hn _ (hlt (.slice m 1 (ts.map (AV.int .i64))) Xc)
 have hf:∀ n',H.nx≤n'→AV.lt n' (.func (.func F) fst caps):=fun n' hn=>AV.lt_mono hn _ (hlt (.func (.func F) fst caps) Xc)
 clear hlt
 refine Tq60 ?_
 refine aG (A:=Nat × List (Int) × AHeap) (fun a=>[(1,.func (.func F) fst caps),(5,.mapv H.nx),(10,.slice m 1 (ts.map (AV.int .i64))),(11,.int .i64 (ts.length:Int)),(12,.int .i64 (a.1:Int))]) (fun a=>a.2.2)
  (fun a=>a.1≤ts.length∧dsF a.2.1 ((ts.drop a.1).map f)=R∧(∀ v∈a.2.1,i64 v)∧H.Le a.2.2∧a.2.2.Closed∧a.2.2.get H.nx=some (.mapo (d9 (AV.int .i64) a.2.1))) (fun a=>ts.length-a.1) (0,[],H.push (.mapo [])) ⟨Nat.zero_le _,hR,(fun v hv=>by cases hv),(lRq _).push _,dV hcl,AHeap.get_push_new _ _⟩ ?_ fun a ha=>?_
 ·exact Y9
 obtain⟨k,sn,Hc⟩:=a
 clear hR
 obtain⟨hk,hR,hsn,hle,hcc,hid⟩:=ha
 dsimp only at hk hR hsn hle hcc hid ⊢
 have hnx:H.nx<Hc.nx:=glq hid
 have hne:(H.nx=Hc.nx)=False:=eFo
 have hne2:(Hc.nx=H.nx)=False:=eFo
 refine Tq20 ?_
 refine ax (fun hc=>?_) (fun hc=>?_)
 ·have hk':k<ts.length:=sHc
  obtain⟨x,hx⟩:∃ x,x=ts[k]:=⟨_,rfl⟩
  have hd:ts.drop k=x::ts.drop (k+1):=by rw[hx];exact dcq hk'
  have hg':=a9 (f:=(AV.int .i64)) (l:=ts) (k:=k) (x:=x) (by rw[gQq hk',hx])
  have e5:=Yk5 k
  rw[hd,yae]at hR
  unfold dsF at hR
  obtain⟨hgx,hqx⟩:=hq x (by rw[hx];exact gMq hk')
  have hcp:Hc.Closed:=hcc
  have hlp:H.Le Hc:=hle
  have hgp:=hid
  exact Y3
 ·exact Y28
def zY:PCt
 |[.slice _ 2 l,.func (.func F) fst caps],H,K=>∃ (ts:List SParam) (f:SParam→By),(l=ts.map aL∧ts.length≤1000000∧∀ x∈ts,Iw (f x)∧∀ H',H.Le H'→H'.Closed→ACalls Tryz.prog F (fst++[aL x]++caps) H' (.ret (AV.str (f x))) H')∧K (.bool (dsF [] (ts.map f)))
 |_,_,_=>False
def I6:EPp 242 zY:=by
 refine Ype fun _ H K h=>?_
 unfold zY at h
 split at h<;>try exact h.elim
 rename_i m l F fst caps
 obtain⟨ts,f,⟨rfl,hl,hq⟩,hK⟩:=h
 refine⟨_,hK,?_⟩
 clear hK
 generalize hR:dsF [] (ts.map f)=R
 refine Yfv aD (tCq (eU (F:=F)) tNq) Tryz.func242 [.tmp 4] fun hcl hlt=>?_
 have hm:∀ n',H.nx≤n'→AV.lt n' (.slice m 2 (ts.map aL)):=fun n' hn=>AV.lt_mono hn _ (hlt (.slice m 2 (ts.map aL)) Xc)
 have hf:∀ n',H.nx≤n'→AV.lt n' (.func (.func F) fst caps):=fun n' hn=>AV.lt_mono hn _ (hlt (.func (.func F) fst caps) Xc)
 clear hlt
 refine Tq60 ?_
 refine aG (A:=Nat × List (By) × AHeap) (fun a=>[(1,.func (.func F) fst caps),(5,.mapv H.nx),(10,.slice m 2 (ts.map aL)),(11,.int .i64 (ts.length:Int)),(12,.int .i64 (a.1:Int))]) (fun a=>a.2.2)
  (fun a=>a.1≤ts.length∧dsF a.2.1 ((ts.drop a.1).map f)=R∧(∀ v∈a.2.1,Iw v)∧H.Le a.2.2∧a.2.2.Closed∧a.2.2.get H.nx=some (.mapo (d9 AV.str a.2.1))) (fun a=>ts.length-a.1) (0,[],H.push (.mapo [])) ⟨Nat.zero_le _,hR,(fun v hv=>by cases hv),(lRq _).push _,dV hcl,AHeap.get_push_new _ _⟩ ?_ fun a ha=>?_
 ·exact Y9
 obtain⟨k,sn,Hc⟩:=a
 clear hR
 obtain⟨hk,hR,hsn,hle,hcc,hid⟩:=ha
 dsimp only at hk hR hsn hle hcc hid ⊢
 have hnx:H.nx<Hc.nx:=glq hid
 have hne:(H.nx=Hc.nx)=False:=eFo
 have hne2:(Hc.nx=H.nx)=False:=eFo
 refine Tq20 ?_
 refine ax (fun hc=>?_) (fun hc=>?_)
 ·have hk':k<ts.length:=sHc
  obtain⟨x,hx⟩:∃ x,x=ts[k]:=⟨_,rfl⟩
  have hd:ts.drop k=x::ts.drop (k+1):=by rw[hx];exact dcq hk'
  have hg':=a9 (f:=aL) (l:=ts) (k:=k) (x:=x) (by rw[gQq hk',hx])
  have e5:=Yk5 k
  rw[hd,yae]at hR
  unfold dsF at hR
  obtain⟨hgx,hqx⟩:=hq x (by rw[hx];exact gMq hk')
  have hcs:aL x=.agg [.str x.name,.int .i64 x.bits]:=rfl
  have hel:AV.lt (Hc.nx+1) (aL x):=by
   exact Y29
  rw[hcs]at hqx hel hg'
  rw[znp]at hel
  have hcp:(Hc.push (.cells [.str x.name,.int .i64 x.bits])).Closed:=ah hcc hel
  have hlp:H.Le (Hc.push (.cells [.str x.name,.int .i64 x.bits])):=hle.push _
  have hgp:(Hc.push (.cells [.str x.name,.int .i64 x.bits])).get H.nx=some (.mapo (d9 AV.str sn)):=by rw[zlf,if_neg (by omega)];exact hid
  exact Y27
 ·exact Y28
def zD:PCt
 |[.slice _ 3 l,.func (.func F) fst caps],H,K=>∃ (ts:List SKey) (f:SKey→By),(l=ts.map aZ∧ts.length≤1000000∧∀ x∈ts,Iw (f x)∧∀ H',H.Le H'→H'.Closed→ACalls Tryz.prog F (fst++[aZ x]++caps) H' (.ret (AV.str (f x))) H')∧K (.bool (dsF [] (ts.map f)))
 |_,_,_=>False
def HR:EPp 245 zD:=by
 refine Ype fun _ H K h=>?_
 unfold zD at h
 split at h<;>try exact h.elim
 rename_i m l F fst caps
 obtain⟨ts,f,⟨rfl,hl,hq⟩,hK⟩:=h
 refine⟨_,hK,?_⟩
 clear hK
 generalize hR:dsF [] (ts.map f)=R
 refine Yfv aD (tCq (eU (F:=F)) tNq) Tryz.func245 [.tmp 4] fun hcl hlt=>?_
 have hm:∀ n',H.nx≤n'→AV.lt n' (.slice m 3 (ts.map aZ)):=fun n' hn=>AV.lt_mono hn _ (hlt (.slice m 3 (ts.map aZ)) Xc)
 have hf:∀ n',H.nx≤n'→AV.lt n' (.func (.func F) fst caps):=fun n' hn=>AV.lt_mono hn _ (hlt (.func (.func F) fst caps) Xc)
 clear hlt
 refine Tq60 ?_
 refine aG (A:=Nat × List (By) × AHeap) (fun a=>[(1,.func (.func F) fst caps),(5,.mapv H.nx),(10,.slice m 3 (ts.map aZ)),(11,.int .i64 (ts.length:Int)),(12,.int .i64 (a.1:Int))]) (fun a=>a.2.2)
  (fun a=>a.1≤ts.length∧dsF a.2.1 ((ts.drop a.1).map f)=R∧(∀ v∈a.2.1,Iw v)∧H.Le a.2.2∧a.2.2.Closed∧a.2.2.get H.nx=some (.mapo (d9 AV.str a.2.1))) (fun a=>ts.length-a.1) (0,[],H.push (.mapo [])) ⟨Nat.zero_le _,hR,(fun v hv=>by cases hv),(lRq _).push _,dV hcl,AHeap.get_push_new _ _⟩ ?_ fun a ha=>?_
 ·exact Y9
 obtain⟨k,sn,Hc⟩:=a
 clear hR
 obtain⟨hk,hR,hsn,hle,hcc,hid⟩:=ha
 dsimp only at hk hR hsn hle hcc hid ⊢
 have hnx:H.nx<Hc.nx:=glq hid
 have hne:(H.nx=Hc.nx)=False:=eFo
 have hne2:(Hc.nx=H.nx)=False:=eFo
 refine Tq20 ?_
 refine ax (fun hc=>?_) (fun hc=>?_)
 ·have hk':k<ts.length:=sHc
  obtain⟨x,hx⟩:∃ x,x=ts[k]:=⟨_,rfl⟩
  have hd:ts.drop k=x::ts.drop (k+1):=by rw[hx];exact dcq hk'
  have hg':=a9 (f:=aZ) (l:=ts) (k:=k) (x:=x) (by rw[gQq hk',hx])
  have e5:=Yk5 k
  rw[hd,yae]at hR
  unfold dsF at hR
  obtain⟨hgx,hqx⟩:=hq x (by rw[hx];exact gMq hk')
  have hcs:aZ x=.agg [.str x.name,.int .i64 x.field,.int .i64 x.kind]:=rfl
  have hel:AV.lt (Hc.nx+1) (aZ x):=by
   exact Y29
  rw[hcs]at hqx hel hg'
  rw[znp]at hel
  have hcp:(Hc.push (.cells [.str x.name,.int .i64 x.field,.int .i64 x.kind])).Closed:=ah hcc hel
  have hlp:H.Le (Hc.push (.cells [.str x.name,.int .i64 x.field,.int .i64 x.kind])):=hle.push _
  have hgp:(Hc.push (.cells [.str x.name,.int .i64 x.field,.int .i64 x.kind])).get H.nx=some (.mapo (d9 AV.str sn)):=by rw[zlf,if_neg (by omega)];exact hid
  exact Y27
 ·exact Y28
def wu(P:Program)(F:FuncId):ECt:=fun args H K=>∃ x H1,K x H1∧ACalls P F args H x H1
def md{P:Program}{F:FuncId}:EntOk P F (Ent.effect (wu P F)):=EntOk.effect fun _ _ _ h=>h
def ixS{α σ:Type}(st:α→σ→Bool × σ):List α→σ→Nat→Int × σ
 |[],s,_=>(-1,s)
 |x::l,s,k=>if(st x s).1 then((k:Int),(st x s).2)else ixS st l (st x s).2 (k+1)
def evS{α σ:Type}(st:α→σ→Bool × σ):List α→σ→Bool × σ
 |[],s=>(true,s)
 |x::l,s=>if(st x s).1 then evS st l (st x s).2 else(false,(st x s).2)
theorem kV{α σ:Type}{st:α→σ→Bool × σ}:∀{l:List α}{s:σ}{k:Nat},(decide (0≤(ixS (fun x s=>(!(st x s).1,(st x s).2)) l s k).1),(ixS (fun x s=>(!(st x s).1,(st x s).2)) l s k).2)=(!(evS st l s).1,(evS st l s).2)
 |[],s,k=>rfl
 |x::l,s,k=>by
  unfold ixS evS
  dsimp only
  cases h:(st x s).1
  ·rw[Bool.not_false,if_pos rfl,if_neg (Xb)]
   dsimp only
   rw[dtq (Int.natCast_nonneg _)];rfl
  ·rw[Bool.not_true,if_neg Xb,if_pos rfl,kV]
abbrev mpV(s:List VN):AObj:=.mapo (d9 lL s)
def Stp{α:Type}(P:Program)(av:α→AV)(F:FuncId)(fst caps:Wz)(H:AHeap)(id:Nat)(g:List VN→Prop)(st:α→List VN→Bool × List VN)(x:α):Prop :=
 ∀ s,g s→g (st x s).2∧∀ H',(H.set id (mpV s)).Le H'→H'.Closed→ACalls P F (fst++[av x]++caps) H' (.ret (.bool (st x s).1)) (H'.set id (mpV (st x s).2))
def ns{H H':AHeap}{i:Nat}{a b:AObj}(h:(H.set i a).Le H'):(H.set i b).Le (H'.set i b):=by
 have hn:=h.nx
 rw[zld]at hn
 refine⟨by rw[zld,zld];exact hn,fun j o hj=>?_⟩
 have hjl:=glq hj
 rw[zld]at hjl
 rw[aF]at hj ⊢
 by_cases e:j=i
 ·subst e
  rw[if_pos rfl,if_pos hjl]at hj
  rw[if_pos rfl,if_pos (Xa)]
  exact hj
 ·rw[if_neg e]at hj ⊢
  refine h.get j o ?_
  rw[aF,if_neg e]
  exact hj
def eIx{α:Type}(P:Program)(av:α→AV)(sz:Nat):ECt
 |[x,.func (.func F) fst caps],H,K=>∃ (ts:List α) (id:Nat) (sn:List VN) (st:α→List VN→Bool × List VN) (g:List VN→Prop),(x=.slice x.smk sz (ts.map av)∧ts.length≤1000000∧H.get id=some (mpV sn)∧g sn∧∀ x∈ts,Stp P av F fst caps H id g st x)∧K (.ret (.int .i64 (ixS st ts sn 0).1)) (H.set id (mpV (ixS st ts sn 0).2))
 |_,_,_=>False
def vO{α:Type}{P:Program}{f:FuncId}{av:α→AV}{sz:Nat}(h:∀(av':α→AV)(sz':Nat),av'=av→sz'=sz→∀(m:Mark)(ts:List α)(id:Nat)(sn:List VN)(st:α→List VN→Bool × List VN)(g:List VN→Prop)(F:FuncId)(fst caps:Wz)(H:AHeap),ts.length≤1000000→H.get id=some (mpV sn)→g sn→(∀ x∈ts,Stp P av' F fst caps H id g st x)→ACalls P f [.slice m sz' (ts.map av'),.func (.func F) fst caps] H (.ret (.int .i64 (ixS st ts sn 0).1)) (H.set id (mpV (ixS st ts sn 0).2))):EntOk P f (Ent.effect (eIx P av sz)):=by
 refine EntOk.effect fun args H K hh=>?_
 unfold eIx at hh
 exact Y61
def eAn{α:Type}(P:Program)(av:α→AV)(sz:Nat):ECt
 |[x,.func (.func F) fst caps],H,K=>∃ (ts:List α) (id:Nat) (sn:List VN) (st:α→List VN→Bool × List VN) (g:List VN→Prop),(x=.slice x.smk sz (ts.map av)∧ts.length≤1000000∧H.get id=some (mpV sn)∧g sn∧∀ x∈ts,Stp P av F fst caps H id g st x)∧K (.ret (.bool (decide (0≤(ixS st ts sn 0).1)))) (H.set id (mpV (ixS st ts sn 0).2))
 |_,_,_=>False
def wm{α:Type}{P:Program}{f:FuncId}{av:α→AV}{sz:Nat}(h:∀(av':α→AV)(sz':Nat),av'=av→sz'=sz→∀(m:Mark)(ts:List α)(id:Nat)(sn:List VN)(st:α→List VN→Bool × List VN)(g:List VN→Prop)(F:FuncId)(fst caps:Wz)(H:AHeap),ts.length≤1000000→H.get id=some (mpV sn)→g sn→(∀ x∈ts,Stp P av' F fst caps H id g st x)→ACalls P f [.slice m sz' (ts.map av'),.func (.func F) fst caps] H (.ret (.bool (decide (0≤(ixS st ts sn 0).1)))) (H.set id (mpV (ixS st ts sn 0).2))):EntOk P f (Ent.effect (eAn P av sz)):=by
 refine EntOk.effect fun args H K hh=>?_
 unfold eAn at hh
 exact Y61
def eEv{α:Type}(P:Program)(av:α→AV)(sz:Nat):ECt
 |[x,.func (.func F) fst caps],H,K=>∃ (ts:List α) (id:Nat) (sn:List VN) (st:α→List VN→Bool × List VN) (g:List VN→Prop),(x=.slice x.smk sz (ts.map av)∧ts.length≤1000000∧H.get id=some (mpV sn)∧g sn∧∀ x∈ts,Stp P av F fst caps H id g st x)∧K (.ret (.bool (evS st ts sn).1)) (H.set id (mpV (evS st ts sn).2))
 |_,_,_=>False
def vz{α:Type}{P:Program}{f:FuncId}{av:α→AV}{sz:Nat}(h:∀(av':α→AV)(sz':Nat),av'=av→sz'=sz→∀(m:Mark)(ts:List α)(id:Nat)(sn:List VN)(st:α→List VN→Bool × List VN)(g:List VN→Prop)(F:FuncId)(fst caps:Wz)(H:AHeap),ts.length≤1000000→H.get id=some (mpV sn)→g sn→(∀ x∈ts,Stp P av' F fst caps H id g st x)→ACalls P f [.slice m sz' (ts.map av'),.func (.func F) fst caps] H (.ret (.bool (evS st ts sn).1)) (H.set id (mpV (evS st ts sn).2))):EntOk P f (Ent.effect (eEv P av sz)):=by
 refine EntOk.effect fun args H K hh=>?_
 unfold eEv at hh
 exact Y61
def eCl{α:Type}(P:Program)(av:α→AV):ECt
 |[x,.ptr c 0],H,K=>∃ (t:α) (id:Nat) (sn:List VN) (st:α→List VN→Bool × List VN) (g:List VN→Prop) (F:FuncId) (fst caps:Wz),(x=av t∧H.get c=some (.cells [.func (.func F) fst caps])∧H.get id=some (mpV sn)∧g sn∧Stp P av F fst caps H id g st t)∧K (.ret (.bool (!(st t sn).1))) (H.set id (mpV (st t sn).2))
 |_,_,_=>False
def wh{α:Type}{P:Program}{f:FuncId}{av:α→AV}(h:∀(av':α→AV),av'=av→∀(x:α)(c id:Nat)(sn:List VN)(st:α→List VN→Bool × List VN)(g:List VN→Prop)(F:FuncId)(fst caps:Wz)(H:AHeap),H.get c=some (.cells [.func (.func F) fst caps])→H.get id=some (mpV sn)→g sn→Stp P av' F fst caps H id g st x→ACalls P f [av' x,.ptr c 0] H (.ret (.bool (!(st x sn).1))) (H.set id (mpV (st x sn).2))):EntOk P f (Ent.effect (eCl P av)):=by
 refine EntOk.effect fun args H K hh=>?_
 unfold eCl at hh
 split at hh
 ·obtain⟨t,id,sn,st,g,F,fst,caps,⟨h1,h2,h3,h4,h5⟩,h6⟩:=hh
  rw[h1]
  exact⟨_,_,h6,h av rfl t _ id sn st g _ _ _ _ h2 h3 h4 h5⟩
 ·exact hh.elim
attribute [go_sem] eIx eAn eEv eCl
abbrev OW:=@eIx SField Tryz.prog aJ 3
abbrev Pz:=@eAn SField Tryz.prog aJ 3
abbrev ER:=@eEv SField Tryz.prog aJ 3
abbrev P3:=@eCl SField Tryz.prog aJ
def Mw:EEe 309 OW:=vO fun av sz ha hs m ts id sn st g F fst caps H hl hid hg hq=>by
 have hag:∀ x,∃ cs,av x=.agg cs∧cs.length=sz:=by subst ha hs;exact fun x=>⟨_,rfl,rfl⟩
 refine Yfv aD (tCq (md (F:=F)) tNq) Tryz.func309 [.tmp 4] fun hcl hlt=>?_
 exact Y4
def H6:EEe 222 Pz:=wm fun av sz ha hs m ts id sn st g F fst caps H hl hid hg hq=>by
 refine Yfv aD (tCq Mw tNq) Tryz.func222 [.tmp 4] fun hcl hlt=>?_
 exact Y33
def KD:EEe 223 P3:=wh fun av ha x c id sn st g F fst caps H hg hid hgs hq=>by
 have hag:∀ x,∃ cs,av x=.agg cs∧cs.length=3:=by subst ha;exact fun x=>⟨_,rfl,rfl⟩
 refine Yfv aD (tCq (md (F:=F)) tNq) Tryz.func223 [.tmp 3] fun hcl hlt=>?_
 exact Y15
def J8:EEe 64 ER:=vz fun av sz ha hs m ts id sn st g F fst caps H hl hid hg hq=>by
 have hL:EEe 223 (eCl Tryz.prog av):=by rw[ha];exact KD
 rw[← congrArg Prod.snd (@kV _ _ st ts sn 0)]
 refine Yfv aD (tCq H6 tNq) Tryz.func64 [.tmp 4] fun hcl hlt=>?_
 exact Y5
abbrev Oi:=@eIx SHeader Tryz.prog az 3
abbrev OM:=@eAn SHeader Tryz.prog az 3
abbrev DW:=@eEv SHeader Tryz.prog az 3
abbrev Pk:=@eCl SHeader Tryz.prog az
def MZ:EEe 310 Oi:=vO fun av sz ha hs m ts id sn st g F fst caps H hl hid hg hq=>by
 have hag:∀ x,∃ cs,av x=.agg cs∧cs.length=sz:=by subst ha hs;exact fun x=>⟨_,rfl,rfl⟩
 refine Yfv aD (tCq (md (F:=F)) tNq) Tryz.func310 [.tmp 4] fun hcl hlt=>?_
 exact Y4
def JI:EEe 224 OM:=wm fun av sz ha hs m ts id sn st g F fst caps H hl hid hg hq=>by
 refine Yfv aD (tCq MZ tNq) Tryz.func224 [.tmp 4] fun hcl hlt=>?_
 exact Y33
def J2:EEe 225 Pk:=wh fun av ha x c id sn st g F fst caps H hg hid hgs hq=>by
 have hag:∀ x,∃ cs,av x=.agg cs∧cs.length=3:=by subst ha;exact fun x=>⟨_,rfl,rfl⟩
 refine Yfv aD (tCq (md (F:=F)) tNq) Tryz.func225 [.tmp 3] fun hcl hlt=>?_
 exact Y15
def Hz:EEe 67 DW:=vz fun av sz ha hs m ts id sn st g F fst caps H hl hid hg hq=>by
 have hL:EEe 225 (eCl Tryz.prog av):=by rw[ha];exact J2
 rw[← congrArg Prod.snd (@kV _ _ st ts sn 0)]
 refine Yfv aD (tCq JI tNq) Tryz.func67 [.tmp 4] fun hcl hlt=>?_
 exact Y5
abbrev Nq:=@eIx SAction Tryz.prog ap 5
abbrev PP:=@eAn SAction Tryz.prog ap 5
abbrev DE:=@eEv SAction Tryz.prog ap 5
abbrev Qm:=@eCl SAction Tryz.prog ap
def HW:EEe 269 Nq:=vO fun av sz ha hs m ts id sn st g F fst caps H hl hid hg hq=>by
 have hag:∀ x,∃ cs,av x=.agg cs∧cs.length=sz:=by subst ha hs;exact fun x=>⟨_,rfl,rfl⟩
 refine Yfv aD (tCq (md (F:=F)) tNq) Tryz.func269 [.tmp 4] fun hcl hlt=>?_
 exact Y4
def HT:EEe 226 PP:=wm fun av sz ha hs m ts id sn st g F fst caps H hl hid hg hq=>by
 refine Yfv aD (tCq HW tNq) Tryz.func226 [.tmp 4] fun hcl hlt=>?_
 exact Y33
def Jn:EEe 227 Qm:=wh fun av ha x c id sn st g F fst caps H hg hid hgs hq=>by
 have hag:∀ x,∃ cs,av x=.agg cs∧cs.length=5:=by subst ha;exact fun x=>⟨_,rfl,rfl⟩
 refine Yfv aD (tCq (md (F:=F)) tNq) Tryz.func227 [.tmp 3] fun hcl hlt=>?_
 exact Y15
def L9:EEe 69 DE:=vz fun av sz ha hs m ts id sn st g F fst caps H hl hid hg hq=>by
 have hL:EEe 227 (eCl Tryz.prog av):=by rw[ha];exact Jn
 rw[← congrArg Prod.snd (@kV _ _ st ts sn 0)]
 refine Yfv aD (tCq HT tNq) Tryz.func69 [.tmp 4] fun hcl hlt=>?_
 exact Y5
abbrev Qy:=@eIx STable Tryz.prog au 8
abbrev Qg:=@eAn STable Tryz.prog au 8
abbrev D5:=@eEv STable Tryz.prog au 8
abbrev P9:=@eCl STable Tryz.prog au
def Kk:EEe 44 Qy:=vO fun av sz ha hs m ts id sn st g F fst caps H hl hid hg hq=>by
 have hag:∀ x,∃ cs,av x=.agg cs∧cs.length=sz:=by subst ha hs;exact fun x=>⟨_,rfl,rfl⟩
 refine Yfv aD (tCq (md (F:=F)) tNq) Tryz.func44 [.tmp 4] fun hcl hlt=>?_
 exact Y4
def LU:EEe 230 Qg:=wm fun av sz ha hs m ts id sn st g F fst caps H hl hid hg hq=>by
 refine Yfv aD (tCq Kk tNq) Tryz.func230 [.tmp 4] fun hcl hlt=>?_
 exact Y33
def JN:EEe 231 P9:=wh fun av ha x c id sn st g F fst caps H hg hid hgs hq=>by
 have hag:∀ x,∃ cs,av x=.agg cs∧cs.length=8:=by subst ha;exact fun x=>⟨_,rfl,rfl⟩
 refine Yfv aD (tCq (md (F:=F)) tNq) Tryz.func231 [.tmp 3] fun hcl hlt=>?_
 exact Y15
def Ni:EEe 74 D5:=vz fun av sz ha hs m ts id sn st g F fst caps H hl hid hg hq=>by
 have hL:EEe 231 (eCl Tryz.prog av):=by rw[ha];exact JN
 rw[← congrArg Prod.snd (@kV _ _ st ts sn 0)]
 refine Yfv aD (tCq LU tNq) Tryz.func74 [.tmp 4] fun hcl hlt=>?_
 exact Y5
abbrev NV:=@eIx SRole Tryz.prog aP 6
abbrev OR:=@eAn SRole Tryz.prog aP 6
abbrev Et:=@eEv SRole Tryz.prog aP 6
abbrev ON:=@eCl SRole Tryz.prog aP
def Jt:EEe 313 NV:=vO fun av sz ha hs m ts id sn st g F fst caps H hl hid hg hq=>by
 have hag:∀ x,∃ cs,av x=.agg cs∧cs.length=sz:=by subst ha hs;exact fun x=>⟨_,rfl,rfl⟩
 refine Yfv aD (tCq (md (F:=F)) tNq) Tryz.func313 [.tmp 4] fun hcl hlt=>?_
 exact Y4
def Jp:EEe 234 OR:=wm fun av sz ha hs m ts id sn st g F fst caps H hl hid hg hq=>by
 refine Yfv aD (tCq Jt tNq) Tryz.func234 [.tmp 4] fun hcl hlt=>?_
 exact Y33
def Hm:EEe 235 ON:=wh fun av ha x c id sn st g F fst caps H hg hid hgs hq=>by
 have hag:∀ x,∃ cs,av x=.agg cs∧cs.length=6:=by subst ha;exact fun x=>⟨_,rfl,rfl⟩
 refine Yfv aD (tCq (md (F:=F)) tNq) Tryz.func235 [.tmp 3] fun hcl hlt=>?_
 exact Y15
def Ma:EEe 78 Et:=vz fun av sz ha hs m ts id sn st g F fst caps H hl hid hg hq=>by
 have hL:EEe 235 (eCl Tryz.prog av):=by rw[ha];exact Hm
 rw[← congrArg Prod.snd (@kV _ _ st ts sn 0)]
 refine Yfv aD (tCq Jp tNq) Tryz.func78 [.tmp 4] fun hcl hlt=>?_
 exact Y5
end Go.AL
