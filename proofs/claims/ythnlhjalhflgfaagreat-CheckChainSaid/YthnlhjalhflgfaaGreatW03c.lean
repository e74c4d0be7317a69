/- Lemmas of the proof; no condition. -/
import Derived.Test.YthnlhjalhflgfaaGreatCL
import Derived.Test.YthnlhjalhflgfaaGreatS10e
set_option linter.all false
set_option maxRecDepth 10000
set_option maxHeartbeats 32000000
open List renaming nil_append → yak, cons_append → yal, length_cons → yaz, length_nil → yba, take_of_length_le → ybc, drop_append → ybd, take_append → ybe, drop_eq_nil_of_le → ybf, take_zero → yar
open Go Go.AL Go.Proofs
namespace Go.AL
theorem HF:ti Tryz.prog 121=some ⟨.struct [(0,22,false),(1,4,false),(2,4,false),(3,4,false)],4,32,.agg [.slice .nil 1 [],.bool false,.bool false,.bool false]⟩:=by kernel_rfl
theorem EE:ti Tryz.prog 124=some ⟨.ptr 121,1,8,.nilp⟩:=by kernel_rfl
attribute [go_sem] HF EE
def rg (n w:Int):Bool:=decide (0≤n∧n<256^w.toNat)
theorem Hd {x:Nat} (h:x<2^128):isV ((x/2^64:Nat):Int) ((x % 2^64:Nat):Int)=True:=eq_true (by unfold isV;omega)
theorem cV {α:Type} {f:α→AV} {l:List α} {k:Nat} {x:α} (hx:l[k]?=some x):(l.map f).getD k .junk=f x:=by
 simp [gEq,hx]
structure Enc where
 b:List UInt8
 l:Bool
 f:Bool
 a:Bool
def Enc.add (x y:Enc):Enc:=⟨x.b++y.b,x.l||y.l,x.f||y.f,x.a||y.a⟩
def enc0:Enc:=⟨[],false,false,false⟩
theorem aI (x y z:Enc):(x.add y).add z=x.add (y.add z):=by simp [Enc.add,List.append_assoc,Bool.or_assoc]
theorem dr (x:Enc):x.add enc0=x:=by simp [Enc.add,enc0]
theorem tM (x:Enc):enc0.add x=x:=by simp [Enc.add,enc0]
theorem bP (x y:Enc):(x.add y).b.length=x.b.length+y.b.length:=lAq
def iK (c:UInt8):Bool:=decide ((c.toNat:Int)<32)||decide ((c.toNat:Int) > 126)
def dK (n w:Int):Enc:=⟨iE n w,false,false,!rg n w⟩
def kl (s:List UInt8) (most:Int):Enc:=⟨kF s,decide ((s.length:Int) > most),s.any iK,false⟩
def i8 (v:Nat):Enc:=⟨kM v,false,false,false⟩
def iH (x:Bool):Enc:=⟨[if x then 1 else 0],false,false,false⟩
def dq (n:Nat) (most:Int):Enc:=⟨iE (n:Int) 2,decide ((n:Int) > most),false,false⟩
def bT {α:Type} (g:α→Enc):List α→Enc
 |[]=>enc0
 |x::l=>(g x).add (bT g l)
theorem qJ {α:Type} (g:α→Enc):∀ l k:List α,bT g (l++k)=(bT g l).add (bT g k)
 |[],k=>by rw [yak,bT,tM]
 |x::l,k=>by rw [yal,bT,bT,qJ g l k,aI]
theorem zu {α:Type} (g:α→Enc) (l:List α) (x:α):bT g (l++[x])=(bT g l).add (g x):=by
 rw [qJ,bT,bT,dr]
theorem z5 {α:Type} (g:α→Enc) (l:List α) (k:Nat):(bT g (l.take k)).b.length≤(bT g l).b.length:=by
 have h:=qJ g (l.take k) (l.drop k)
 rw [List.take_append_drop] at h
 rw [h,bP];omega
def bD {α:Type} (g:α→Enc) (most:Int) (l:List α):Enc:=(dq l.length most).add (bT g l)
structure SOn (H:AHeap) (id q:Nat) (s:Enc):Prop where
 o:H.get id=some (.cells [.slice (.own q) 1 (bys s.b),.bool s.l,.bool s.f,.bool s.a])
 bu:H.get q=some (.buf 1 s.b.length)
def swH (H:AHeap) (id q:Nat) (s:Enc):AHeap:=(H.set q (.buf 1 s.b.length)).set id (.cells [.slice (.own q) 1 (bys s.b),.bool s.l,.bool s.f,.bool s.a])
theorem SOn.ne {H:AHeap} {id q:Nat} {s:Enc} (h:SOn H id q s):id≠q:=fun e=>by
 have h1:=h.o
 rw [e,h.bu] at h1;cases h1
theorem SOn.closed {H:AHeap} {id q:Nat} {s:Enc} (h:SOn H id q s) (hc:H.Closed) (t:Enc):(swH H id q t).Closed:=by
 refine bb (a0 hc) ?_
 have hq:=glq h.bu
 simp only [znu,znv,and_true,zlf,zms,zng]
 intro i e;cases e;exact hq
theorem SOn.next {H:AHeap} {id q:Nat} {s:Enc} (h:SOn H id q s) (t:Enc):SOn (swH H id q t) id q t:=by
 have h1:=glq h.o
 have h2:=glq h.bu
 unfold swH
 refine ⟨?_,?_⟩
 ·rw [AHeap.get_set_same _ _ (by rw [zlf];exact h1)]
 ·rw [AHeap.get_set_ne _ _ (fun e=>h.ne e.symm),AHeap.get_set_same _ _ h2]
theorem oP {H:AHeap} {id q:Nat} {s t:Enc} (h:id≠q):swH (swH H id q s) id q t=swH H id q t:=by
 unfold swH AHeap.set
 dsimp only
 congr 1
 funext j
 by_cases h1:j=id
 ·simp [h1]
 ·by_cases h2:j=q<;>simp [h1,h2]
theorem ap {H:AHeap} {id q:Nat} {s:Enc}:(swH H id q s).nx=H.nx:=rfl
theorem SOn.push {H:AHeap} {id q:Nat} {s:Enc} (h:SOn H id q s) (x:AObj):SOn (H.push x) id q s :=
 ⟨by rw [gPq _ _ (glq h.o)];exact h.o,by rw [gPq _ _ (glq h.bu)];exact h.bu⟩
theorem iX {H:AHeap} {id q:Nat} {s:Enc} {x:AObj} (h1:id<H.nx) (h2:q<H.nx):swH (H.push x) id q s=(swH H id q s).push x:=by
 unfold swH AHeap.set AHeap.push
 dsimp only
 congr 1
 funext j
 by_cases e1:j=id
 ·have:id≠H.nx:=by omega
  simp [e1,this]
 ·by_cases e2:j=q
  ·have:q≠H.nx:=by omega
   simp [e1,e2,this]
  ·simp [e1,e2]
theorem y8 {H:AHeap} {id q j:Nat} {s:Enc} (h1:j≠id) (h2:j≠q):aF (swH H id q s) j=aF H j:=by
 unfold aF swH
 rw [AHeap.get_set_ne _ _ h1,AHeap.get_set_ne _ _ h2]
def wo:List AV→AHeap→(AEnd→AHeap→Prop)→Prop
 |[.ptr id 0,.int .i64 n,.int .i64 w],H,K=>∃ q s,(SOn H id q s∧(w=1∨w=2)∧s.b.length≤100000000000000)∧K (.ret (.tup [])) (swH H id q (s.add (dK n w)))
 |_,_,_=>False
theorem K4 {n w:Int} (h:n<0):rg n w=false:=dfq fun h'=>by omega
theorem MQ {n:Int} (h:¬ n<0):(!rg n 1)=decide (n ≥ 256):=by
 unfold rg
 by_cases h':n<256
 ·rw [dtq (by exact ⟨by omega,h'⟩),dfq (by omega)];rfl
 ·rw [dfq (fun x=>h' x.2),dtq (by omega)];rfl
theorem Mz {n:Int} (h:¬ n<0):(!rg n 2)=decide (n ≥ 65536):=by
 unfold rg
 by_cases h':n<65536
 ·rw [dtq (by exact ⟨by omega,h'⟩),dfq (by omega)];rfl
 ·rw [dfq (fun x=>h' x.2),dtq (by omega)];rfl
theorem fe:EntOk Tryz.prog 58 (Ent.effect wo):=by
 refine EntOk.effect fun args H K h=>?_
 unfold wo at h
 split at h
 rotate_left
 ·exact h.elim
 rename_i id n w
 obtain ⟨q,s,⟨hW,hw,hl⟩,hK⟩:=h
 refine ⟨_,_,hK,?_⟩
 clear hK
 have hcl0:=hW.closed (t:=s.add (dK n w))
 obtain ⟨b,sl,sf,sa⟩:=s
 simp only [Enc.add,dK,Bool.or_false] at hcl0 ⊢
 have l1:=cr n w
 dsimp only at hl
 have hid:=glq hW.o
 have hq:=glq hW.bu
 have hne:=b7 hid
 have hneq:=b7 hq
 have n1:(id=q)=False:=eq_false hW.ne
 have n2:(q=id)=False:=eq_false fun e=>hW.ne e.symm
 have hcs:=aq hW.o
 have hb0:=hW.bu
 have hi0:=hW.o
 have hnn:=hW.ne
 dsimp only at hcs hb0 hi0
 refine ACalls.fW ak (tCq bJ tNq) Tryz.func58 [] (by unfold swH;simp only [zlf];omega) (T:=aj [(1,[[],[],[],[],[],[],[],[],[4,7],[],[],[4,7]])]) (h:=fun hcl hlt=>?_)
 clear hlt
 have hcl1:=hcl0 hcl
 have hcm:=fun cs=>@bp H id cs hid
 have hA:∀ X Y,aF ((H.set id (.cells X)).set q Y) id=some X:=fun X Y=>by
  unfold aF;rw [AHeap.get_set_ne _ _ hnn,AHeap.get_set_same _ _ hid]
 have hB:∀ X,(H.set id X).get q=some (.buf 1 b.length):=fun X=>by rw [AHeap.get_set_ne _ _ (fun e=>hnn e.symm)];exact hb0
 have eh:∀ X Y Z,((H.set id X).set q Y).set id Z=(H.set q Y).set id Z:=fun X Y Z=>by
  unfold AHeap.set;congr 1;funext j;dsimp only;by_cases h1:j=id<;>simp [h1]
 unfold swH at hcl1 ⊢
 dsimp only at hcl1 ⊢
 have hlb:(b++iE n w).length=b.length+(iE n w).length:=lAq
 have s1:IntKind.u64.wrap (IntKind.i64.wrap 8)=8:=by decide
 have s2:vH .i64 1 8=256:=by decide
 have s3:IntKind.u64.wrap (IntKind.i64.wrap 16)=16:=by decide
 have s4:vH .i64 1 16=65536:=by decide
 cases sa
 ·by_cases h0:n<0
  ·have d0:decide (n<0)=true:=dtq h0
   rw [K4 h0,Bool.not_false,Bool.or_true] at hcl1 ⊢
   simp only [go_sem,byq,d0,hne,hneq,n1,n2,hcs,hcm,hA,hB,eh,hi0,hb0,aN,Bool.false_or] at hcl1 ⊢
   (repeat with_reducible refine And.intro (by first|assumption|decide|omega|exact ⟨by omega,by omega⟩) ?_)
   rw [hlb] at hcl1
   exact Z14
  ·have d0:decide (n<0)=false:=dfq h0
   rcases hw with rfl|rfl
   ·rw [MQ h0,Bool.false_or] at hcl1 ⊢
    simp only [go_sem,byq,d0,s1,s2,hne,hneq,n1,n2,hcs,hcm,hA,hB,eh,hi0,hb0,aN,Bool.false_or] at hcl1 ⊢
    (repeat with_reducible refine And.intro (by first|assumption|decide|omega|exact ⟨by omega,by omega⟩) ?_)
    rw [hlb] at hcl1
    exact Z14
   ·rw [Mz h0,Bool.false_or] at hcl1 ⊢
    simp only [go_sem,byq,d0,s3,s4,hne,hneq,n1,n2,hcs,hcm,hA,hB,eh,hi0,hb0,aN,Bool.false_or] at hcl1 ⊢
    (repeat with_reducible refine And.intro (by first|assumption|decide|omega|exact ⟨by omega,by omega⟩) ?_)
    rw [hlb] at hcl1
    exact Z14
 ·simp only [go_sem,byq,hne,hneq,n1,n2,hcs,hcm,hA,hB,eh,hi0,hb0,aN,Bool.true_or] at hcl1 ⊢
  (repeat with_reducible refine And.intro (by first|assumption|decide|omega|exact ⟨by omega,by omega⟩) ?_)
  rw [hlb] at hcl1
  exact Z14
def b8:Nat:=100000000000000
theorem bj:b8=100000000000000:=rfl
theorem aX {x y:Enc} (h:(x.add y).b.length≤b8):x.b.length≤b8:=by rw [bP] at h;omega
theorem SOn.same {H:AHeap} {id q:Nat} {s:Enc} (h:SOn H id q s):swH H id q s=H:=by
 have h1:=cU h.bu
 unfold swH
 rw [h1]
 exact cU h.o
def wg:List AV→AHeap→(AEnd→AHeap→Prop)→Prop
 |[.ptr id 0,.bool x],H,K=>∃ q s,(SOn H id q s∧(s.add (iH x)).b.length≤b8)∧K (.ret (.tup [])) (swH H id q (s.add (iH x)))
 |_,_,_=>False
theorem tx:EntOk Tryz.prog 227 (Ent.effect wg):=by
 refine EntOk.effect fun args H K h=>?_
 unfold wg at h
 split at h
 rotate_left
 ·exact h.elim
 rename_i id x
 obtain ⟨q,s,⟨hW,hl⟩,hK⟩:=h
 refine ⟨_,_,hK,?_⟩
 clear hK
 have hcl0:=hW.closed (t:=s.add (iH x))
 rw [bj] at hl
 obtain ⟨b,sl,sf,sa⟩:=s
 simp only [Enc.add,iH,Bool.or_false,lAq,List.length_singleton] at hcl0 hl ⊢
 have hid:=glq hW.o
 have hq:=glq hW.bu
 have hne:=b7 hid
 have hneq:=b7 hq
 have n1:(id=q)=False:=eq_false hW.ne
 have n2:(q=id)=False:=eq_false fun e=>hW.ne e.symm
 have hcs:=aq hW.o
 have hb0:=hW.bu
 have hi0:=hW.o
 have hnn:=hW.ne
 dsimp only at hcs hb0 hi0
 refine ACalls.fW ak (tCq qK tNq) Tryz.func227 [] (by unfold swH;simp only [zlf];omega) (T:=aj [(0,[[],[],[],[],[],[],[],[4,6],[],[],[4,6]])]) (h:=fun hcl hlt=>?_)
 clear hlt
 have hcl1:=hcl0 hcl
 have hcm:=fun cs=>@bp H id cs hid
 have hA:∀ X Y,aF ((H.set id (.cells X)).set q Y) id=some X:=fun X Y=>by
  unfold aF;rw [AHeap.get_set_ne _ _ hnn,AHeap.get_set_same _ _ hid]
 have hA0:∀ Y,aF (H.set q Y) id=aF H id:=fun Y=>by
  unfold aF;rw [AHeap.get_set_ne _ _ hnn]
 have hB:∀ X,(H.set id X).get q=some (.buf 1 b.length):=fun X=>by rw [AHeap.get_set_ne _ _ (fun e=>hnn e.symm)];exact hb0
 have eh:∀ X Y Z,((H.set id X).set q Y).set id Z=(H.set q Y).set id Z:=fun X Y Z=>by
  unfold AHeap.set;congr 1;funext j;dsimp only;by_cases h1:j=id<;>simp [h1]
 unfold swH at hcl1 ⊢
 dsimp only at hcl1 ⊢
 simp only [go_sem,byq,hne,hneq,n1,n2,hcs,hcm,hA,hA0,hB,eh,hi0,hb0,kc] at hcl1 ⊢
 (repeat with_reducible refine And.intro (by first|assumption|decide|omega|exact ⟨by omega,by omega⟩) ?_)
 simp (disch:=first|exact Zd|omega) [↓zmo,beq,ybc,ybd,ybe,aa,wk,wk2,wk1,wkM,wkL,af,ybf,hcl1]
 first|done|exact hcl1|simpa using hcl1
def wZ:List AV→AHeap→(AEnd→AHeap→Prop)→Prop
 |[.ptr id 0,.agg [.int .u64 hi,.int .u64 lo]],H,K=>∃ q s v,(SOn H id q s∧v<2^128∧hi=((v/2^64:Nat):Int)∧lo=((v % 2^64:Nat):Int)∧(s.add (i8 v)).b.length≤b8)∧K (.ret (.tup [])) (swH H id q (s.add (i8 v)))
 |_,_,_=>False
theorem sI:EntOk Tryz.prog 303 (Ent.effect wZ):=by
 refine EntOk.effect fun args H K h=>?_
 unfold wZ at h
 split at h
 rotate_left
 ·exact h.elim
 rename_i id hi lo
 obtain ⟨q,s,v,⟨hW,hv,rfl,rfl,hl⟩,hK⟩:=h
 refine ⟨_,_,hK,?_⟩
 clear hK
 have iv:=Hd hv
 have hcl0:=hW.closed (t:=s.add (i8 v))
 rw [bj] at hl
 obtain ⟨b,sl,sf,sa⟩:=s
 simp only [Enc.add,i8,Bool.or_false,lAq,List.length_singleton] at hcl0 hl ⊢
 have hid:=glq hW.o
 have hq:=glq hW.bu
 have hne:=b7 hid
 have hneq:=b7 hq
 have n1:(id=q)=False:=eq_false hW.ne
 have n2:(q=id)=False:=eq_false fun e=>hW.ne e.symm
 have hcs:=aq hW.o
 have hb0:=hW.bu
 have hi0:=hW.o
 have hnn:=hW.ne
 dsimp only at hcs hb0 hi0
 refine ACalls.fW ak (tCq pr tNq) Tryz.func303 [] (by unfold swH;simp only [zlf];omega) (T:=aj [(1,[[],[],[],[],[],[],[5],[4,5,6],[],[],[4,5,6]])]) (h:=fun hcl hlt=>?_)
 clear hlt
 have hcl1:=hcl0 hcl
 have hcm:=fun cs=>@bp H id cs hid
 have hA:∀ X Y,aF ((H.set id (.cells X)).set q Y) id=some X:=fun X Y=>by
  unfold aF;rw [AHeap.get_set_ne _ _ hnn,AHeap.get_set_same _ _ hid]
 have hA0:∀ Y,aF (H.set q Y) id=aF H id:=fun Y=>by
  unfold aF;rw [AHeap.get_set_ne _ _ hnn]
 have hB:∀ X,(H.set id X).get q=some (.buf 1 b.length):=fun X=>by rw [AHeap.get_set_ne _ _ (fun e=>hnn e.symm)];exact hb0
 have eh:∀ X Y Z,((H.set id X).set q Y).set id Z=(H.set q Y).set id Z:=fun X Y Z=>by
  unfold AHeap.set;congr 1;funext j;dsimp only;by_cases h1:j=id<;>simp [h1]
 unfold swH at hcl1 ⊢
 dsimp only at hcl1 ⊢
 simp only [go_sem,byq,hne,hneq,n1,n2,hcs,hcm,hA,hA0,hB,eh,hi0,hb0,jy,iv,iNq,ll] at hcl1 ⊢
 (repeat with_reducible refine And.intro (by first|assumption|decide|omega|exact ⟨by omega,by omega⟩) ?_)
 simp (disch:=first|exact Zd|omega) [↓zmo,beq,ybc,ybd,ybe,aa,wk,wk2,wk1,wkM,wkL,af,ybf,hcl1]
 first|done|exact hcl1|simpa using hcl1
def wl:List AV→AHeap→(AEnd→AHeap→Prop)→Prop
 |[.ptr id 0,.str x,.int .i64 most],H,K=>∃ q s,(SOn H id q s∧x.length≤b8∧(s.add (kl x most)).b.length≤b8)∧K (.ret (.tup [])) (swH H id q (s.add (kl x most)))
 |_,_,_=>False
theorem lX {α:Type} {p:α→Bool} {l:List α} {k:Nat} (h:k<l.length):(l.take (k+1)).any p=((l.take k).any p||p l[k]):=by
 rw [List.take_succ_eq_append_getElem h,List.any_append,List.any_cons,List.any_nil,Bool.or_false]
def swC (q:Nat) (b:List UInt8) (l f a:Bool):List AV:=[.slice (.own q) 1 (bys b),.bool l,.bool f,.bool a]
theorem km:EntOk Tryz.prog 192 (Ent.effect wl):=by
 refine EntOk.effect fun args H K h=>?_
 unfold wl at h
 split at h
 rotate_left
 ·exact h.elim
 rename_i id x most
 obtain ⟨q,s,⟨hW,hx,hl⟩,hK⟩:=h
 refine ⟨_,_,hK,?_⟩
 clear hK
 have hcl0:=fun t=>hW.closed (t:=t)
 rw [bj] at hl hx
 obtain ⟨b,sl,sf,sa⟩:=s
 simp only [Enc.add,kl,Bool.or_false,lAq] at hl ⊢
 have hid:=glq hW.o
 have hq:=glq hW.bu
 have hne:=b7 hid
 have hneq:=b7 hq
 have n1:(id=q)=False:=eq_false hW.ne
 have n2:(q=id)=False:=eq_false fun e=>hW.ne e.symm
 have hcs:=aq hW.o
 have hb0:=hW.bu
 have hi0:=hW.o
 have hnn:=hW.ne
 dsimp only at hcs hb0 hi0
 refine ACalls.fW ak (tCq qL tNq) Tryz.func192 [] (by unfold swH;simp only [zlf];omega) (T:=aj [(6,[[],[],[],[],[],[],[],[4,6],[],[],[4,6]])]) (h:=fun hcl hlt=>?_)
 clear hlt
 have hcl1:=fun t=>hcl0 t hcl
 have hcm:=fun cs=>@bp H id cs hid
 have hgm:=fun o=>@qS H id o hid
 have hA:∀ X Y,aF ((H.set id (.cells X)).set q Y) id=some X:=fun X Y=>by
  unfold aF;rw [AHeap.get_set_ne _ _ hnn,AHeap.get_set_same _ _ hid]
 have hB:∀ X,(H.set id X).get q=some (.buf 1 b.length):=fun X=>by rw [AHeap.get_set_ne _ _ (fun e=>hnn e.symm)];exact hb0
 have eh:∀ X Y Z,((H.set id X).set q Y).set id Z=(H.set q Y).set id Z:=fun X Y Z=>by
  unfold AHeap.set;congr 1;funext j;dsimp only;by_cases h1:j=id<;>simp [h1]
 have hclk:∀ L F,(H.set id (.cells (swC q b L F sa))).Closed:=fun L F=>by
  have:=hcl1 ⟨b,L,F,sa⟩
  unfold swH at this
  dsimp only at this
  rw [cU hb0] at this
  exact this
 have hend:=hcl1 ⟨b++kF x,sl||decide ((x.length:Int) > most),sf||x.any iK,sa⟩
 have e0:(sf||(x.take 0).any iK)=sf:=by rw [yar,List.any_nil,Bool.or_false]
 have hL2:sl=true→(sl||decide ((x.length:Int) > most))=true:=fun h=>by rw [h,Bool.true_or]
 have hL3:sl=false→decide ((x.length:Int) > most)=(sl||decide ((x.length:Int) > most)):=fun h=>by rw [h,Bool.false_or]
 generalize (sl||decide ((x.length:Int) > most))=L at *
 cases sl
 ·simp only [go_sem,byq,hne,hneq,n1,n2,hcs,hcm,hA,hB,eh,hi0,hb0,hL3 rfl]
  try (repeat with_reducible refine Yq ?_)
  refine ay (A:=Nat) (fun k=>[(0,.ptr id 0),(1,.str x),(22,.slice .any 1 (bys x)),(23,.int .i64 (x.length:Int)),(24,.int .i64 (k:Int))]) (fun k=>H.set id (.cells (swC q b L (sf||(x.take k).any iK) sa))) (fun k=>k≤x.length) (fun k=>x.length - k) 0 (by omega) ?_ fun k hk=>?_
  ·rw [e0]
   refine ⟨by simp only [zkq,zkv,zlf,swH];omega,by repeat first|exact .refl _|refine .push ?_ _,hclk _ _,?_,?_⟩
   ·simp [ltF,zlf,znn,znf,znh,zms]
    omega
   ·simp [ba,wk2,wk1,wkM,Fr.get]
  simp only [go_sem]
  refine ah (fun hc=>?_) (fun hc=>?_)
  ·have hk':k<x.length:=by simp at hc;omega
   have hg:=sw hk'
   have e5:=Yk5 k
   have ht:=lX (p:=iK) hk'
   have hgd:x.getD k 0=x[k]:=by simp [gEq,hk']
   rw [hgd] at hg
   have hT:(sf||(x.take (k+1)).any iK)=((sf||(x.take k).any iK)||iK x[k]):=by rw [ht,Bool.or_assoc]
   generalize (sf||(x.take k).any iK)=F at *
   generalize x[k]=c at *
   have hfin:∀ F',F'=(F||iK c)→F'=(sf||(x.take (k+1)).any iK):=fun F' h=>by rw [h,hT]
   cases F
   ·by_cases hc1:(c.toNat:Int)<32
    ·have d1:decide ((c.toNat:Int)<32)=true:=dtq hc1
     simp only [go_sem,byq,swC,hne,hneq,n1,n2,hcs,hcm,hA,hB,eh,hi0,hb0,iNq,zlk,hg,bo,d1,e5]
     (repeat with_reducible refine And.intro (by first|assumption|decide|omega|simp) ?_)
     refine ⟨k+1,by omega,by omega,by simp only [zkq,zkv,zlf,swH];omega,?_,hclk _ _,?_,?_⟩
     ·rw [← hfin true (by simp [iK,d1])]
      repeat first|exact .refl _|refine .push ?_ _
     ·simp [ltF,zlf,znn,znf,znh,zms]
      omega
     ·simp [ba,wk2,wk1,wkM,Fr.get]
    ·have d1:decide ((c.toNat:Int)<32)=false:=dfq hc1
     simp only [go_sem,byq,swC,hne,hneq,n1,n2,hcs,hcm,hA,hB,eh,hi0,hb0,iNq,zlk,hg,bo,d1,e5]
     (repeat with_reducible refine And.intro (by first|assumption|decide|omega|simp) ?_)
     refine ⟨k+1,by omega,by omega,by simp only [zkq,zkv,zlf,swH];omega,?_,hclk _ _,?_,?_⟩
     ·rw [← hfin _ (show decide ((c.toNat:Int) > 126)=_ by simp [iK,d1])]
      repeat first|exact .refl _|refine .push ?_ _
     ·simp [ltF,zlf,znn,znf,znh,zms]
      omega
     ·simp [ba,wk2,wk1,wkM,Fr.get]
   ·simp only [go_sem,byq,swC,hne,hneq,n1,n2,hcs,hcm,hA,hB,eh,hi0,hb0,iNq,zlk,hg,bo,e5]
    (repeat with_reducible refine And.intro (by first|assumption|decide|omega|simp) ?_)
    refine ⟨k+1,by omega,by omega,by simp only [zkq,zkv,zlf,swH];omega,?_,hclk _ _,?_,?_⟩
    ·rw [← hfin true (by simp)]
     repeat first|exact .refl _|refine .push ?_ _
    ·simp [ltF,zlf,znn,znf,znh,zms]
     omega
    ·simp [ba,wk2,wk1,wkM,Fr.get]
  ·have hk':k=x.length:=by simp at hc;omega
   subst hk'
   rw [List.take_length]
   unfold swH at hend ⊢
   dsimp only at hend ⊢
   simp only [go_sem,byq,swC,hne,hneq,n1,n2,hcs,hcm,hA,hB,eh,hi0,hb0,iG] at hend ⊢
   (repeat with_reducible refine And.intro (by first|assumption|decide|omega|exact ⟨by omega,by omega⟩|exact ⟨by omega,by omega,by omega⟩) ?_)
   rw [lAq] at hend
   simp (disch:=first|exact Zd|omega) [↓zmo,beq,ybc,ybd,ybe,aa,wk,wk2,wk1,wkM,wkL,af,ybf,hend,lAq]
   first|done|exact hend|simpa using hend
 ·obtain rfl:L=true:=hL2 rfl
  simp only [go_sem,byq,hne,hneq,n1,n2,hcs,hcm,hA,hB,eh,hi0,hb0]
  try (repeat with_reducible refine Yq ?_)
  refine ay (A:=Nat) (fun k=>[(0,.ptr id 0),(1,.str x),(22,.slice .any 1 (bys x)),(23,.int .i64 (x.length:Int)),(24,.int .i64 (k:Int))]) (fun k=>H.set id (.cells (swC q b true (sf||(x.take k).any iK) sa))) (fun k=>k≤x.length) (fun k=>x.length - k) 0 (by omega) ?_ fun k hk=>?_
  ·rw [e0]
   refine ⟨by simp only [zkq,zkv,zlf,swH];omega,by repeat first|exact .refl _|refine .push ?_ _,hclk _ _,?_,?_⟩
   ·simp [ltF,zlf,znn,znf,znh,zms]
    omega
   ·simp [ba,wk2,wk1,wkM,Fr.get]
  simp only [go_sem]
  refine ah (fun hc=>?_) (fun hc=>?_)
  ·have hk':k<x.length:=by simp at hc;omega
   have hg:=sw hk'
   have e5:=Yk5 k
   have ht:=lX (p:=iK) hk'
   have hgd:x.getD k 0=x[k]:=by simp [gEq,hk']
   rw [hgd] at hg
   have hT:(sf||(x.take (k+1)).any iK)=((sf||(x.take k).any iK)||iK x[k]):=by rw [ht,Bool.or_assoc]
   generalize (sf||(x.take k).any iK)=F at *
   generalize x[k]=c at *
   have hfin:∀ F',F'=(F||iK c)→F'=(sf||(x.take (k+1)).any iK):=fun F' h=>by rw [h,hT]
   cases F
   ·by_cases hc1:(c.toNat:Int)<32
    ·have d1:decide ((c.toNat:Int)<32)=true:=dtq hc1
     simp only [go_sem,byq,swC,hne,hneq,n1,n2,hcs,hcm,hA,hB,eh,hi0,hb0,iNq,zlk,hg,bo,d1,e5]
     (repeat with_reducible refine And.intro (by first|assumption|decide|omega|simp) ?_)
     refine ⟨k+1,by omega,by omega,by simp only [zkq,zkv,zlf,swH];omega,?_,hclk _ _,?_,?_⟩
     ·rw [← hfin true (by simp [iK,d1])]
      repeat first|exact .refl _|refine .push ?_ _
     ·simp [ltF,zlf,znn,znf,znh,zms]
      omega
     ·simp [ba,wk2,wk1,wkM,Fr.get]
    ·have d1:decide ((c.toNat:Int)<32)=false:=dfq hc1
     simp only [go_sem,byq,swC,hne,hneq,n1,n2,hcs,hcm,hA,hB,eh,hi0,hb0,iNq,zlk,hg,bo,d1,e5]
     (repeat with_reducible refine And.intro (by first|assumption|decide|omega|simp) ?_)
     refine ⟨k+1,by omega,by omega,by simp only [zkq,zkv,zlf,swH];omega,?_,hclk _ _,?_,?_⟩
     ·rw [← hfin _ (show decide ((c.toNat:Int) > 126)=_ by simp [iK,d1])]
      repeat first|exact .refl _|refine .push ?_ _
     ·simp [ltF,zlf,znn,znf,znh,zms]
      omega
     ·simp [ba,wk2,wk1,wkM,Fr.get]
   ·simp only [go_sem,byq,swC,hne,hneq,n1,n2,hcs,hcm,hA,hB,eh,hi0,hb0,iNq,zlk,hg,bo,e5]
    (repeat with_reducible refine And.intro (by first|assumption|decide|omega|simp) ?_)
    refine ⟨k+1,by omega,by omega,by simp only [zkq,zkv,zlf,swH];omega,?_,hclk _ _,?_,?_⟩
    ·rw [← hfin true (by simp)]
     repeat first|exact .refl _|refine .push ?_ _
    ·simp [ltF,zlf,znn,znf,znh,zms]
     omega
    ·simp [ba,wk2,wk1,wkM,Fr.get]
  ·have hk':k=x.length:=by simp at hc;omega
   subst hk'
   rw [List.take_length]
   unfold swH at hend ⊢
   dsimp only at hend ⊢
   simp only [go_sem,byq,swC,hne,hneq,n1,n2,hcs,hcm,hA,hB,eh,hi0,hb0,iG] at hend ⊢
   (repeat with_reducible refine And.intro (by first|assumption|decide|omega|exact ⟨by omega,by omega⟩|exact ⟨by omega,by omega,by omega⟩) ?_)
   rw [lAq] at hend
   simp (disch:=first|exact Zd|omega) [↓zmo,beq,ybc,ybd,ybe,aa,wk,wk2,wk1,wkM,wkL,af,ybf,hend,lAq]
   first|done|exact hend|simpa using hend
def j9 (n:Int):Enc:=dK n 2
def ju (x:SField):Enc:=(dK x.id 2).add ((kl x.name 24).add (dK x.bits 1))
def ig (x:SHeader):Enc:=(dK x.id 2).add ((kl x.name 24).add (bD j9 32 x.fields))
def m9 (x:SCase):Enc:=(i8 x.value).add ((i8 x.mask).add (dK x.next 2))
def jw (x:SState):Enc:=(dK x.id 2).add ((dK x.header 2).add ((dK x.select 2).add ((bD m9 6 x.cases).add (dK x.dflt 2))))
def j6 (x:SParam):Enc:=(kl x.name 24).add (dK x.bits 1)
def nt (x:SPrim):Enc:=(dK x.op 1).add ((dK x.dst 2).add ((dK x.kind 1).add ((dK x.n 2).add (i8 x.value))))
def gM (x:SAction):Enc:=(dK x.id 2).add ((kl x.name 24).add ((bD j6 4 x.params).add ((bD nt 12 x.body).add (kl x.restr 400))))
def ss (x:SKey):Enc:=(kl x.name 24).add ((dK x.field 2).add (dK x.kind 1))
def i9 (x:STable):Enc:=(dK x.id 2).add ((kl x.name 24).add ((bD ss 4 x.keys).add ((bD j9 12 x.actions).add ((dK x.dflt 2).add ((bD i8 4 x.dargs).add ((dK x.size 2).add (kl x.restr 400)))))))
def i7 (x:SStage):Enc:=(dK x.table 2).add (dK x.header 2)
def jV (x:SGrant):Enc:=(dK x.table 2).add ((iH x.read).add ((iH x.write).add (bD iH 4 x.keys)))
def kH (x:SRole):Enc:=(dK x.id 2).add ((kl x.name 24).add ((bD jV 8 x.grants).add ((bD j9 12 x.actions).add ((dK x.quota 2).add (iH x.audit)))))
def j2 (x:SRef):Enc:=(dK x.table 2).add ((dK x.key 1).add ((dK x.action 2).add ((dK x.param 1).add ((dK x.toTable 2).add (dK x.toKey 1)))))
def mP (x:Sch):Enc:=(bD ju 32 x.fields).add ((bD ig 8 x.headers).add (bD jw 12 x.states))
def eD (x:Sch):Enc:=(dK x.maxBatch 2).add ((dK x.budget 2).add ((mP x).add ((bD gM 12 x.actions).add ((bD i9 8 x.tables).add ((bD i7 12 x.stages).add ((bD kH 6 x.roles).add (bD j2 8 x.refs)))))))
def lR (s:List UInt8):Prop:=s.length≤b8
def nn {α:Type} (_:α):Prop:=True
def my (v:Nat):Prop:=v<2^128
def sC (x:SField):Prop:=lR x.name
def pg (x:SHeader):Prop:=lR x.name
def ql (x:SCase):Prop:=my x.value∧my x.mask
def th (x:SState):Prop:=∀ c∈x.cases,ql c
def sx (x:SParam):Prop:=lR x.name
def wC (x:SPrim):Prop:=my x.value
def kI (x:SAction):Prop:=lR x.name∧(∀ p∈x.params,sx p)∧(∀ p∈x.body,wC p)∧lR x.restr
def AW (x:SKey):Prop:=lR x.name
def nd (x:STable):Prop:=lR x.name∧(∀ k∈x.keys,AW k)∧(∀ v∈x.dargs,my v)∧lR x.restr
def vE (x:SRole):Prop:=lR x.name
structure OkSch (x:Sch):Prop where
 f:∀ a∈x.fields,sC a
 h:∀ a∈x.headers,pg a
 s:∀ a∈x.states,th a
 a:∀ a∈x.actions,kI a
 t:∀ a∈x.tables,nd a
 r:∀ a∈x.roles,vE a
theorem gF {n w:Int} (h:w=1∨w=2):1≤(dK n w).b.length:=by
 rcases h with rfl|rfl<;>simp [dK,iE,nP]
theorem xU {s:List UInt8} {m:Int}:1≤(kl s m).b.length:=by
 unfold kl kF
 rw [lAq,nP];omega
theorem xg {v:Nat}:1≤(i8 v).b.length:=by simp [i8,kM]
theorem GX {x:Bool}:1≤(iH x).b.length:=by simp [iH]
theorem fy {x y:Enc} (h:1≤x.b.length):1≤(x.add y).b.length:=by rw [bP];omega
theorem yj {α:Type} {g:α→Enc} (h:∀ x,1≤(g x).b.length):∀ l:List α,l.length≤(bT g l).b.length
 |[]=>Nat.zero_le _
 |x::l=>by
  rw [bT,bP,yaz]
  have:=h x
  have:=yj h l
  omega
theorem F9 (n:Int):1≤(j9 n).b.length:=gF (.inr rfl)
theorem zC (x:SField):1≤(ju x).b.length:=fy (gF (.inr rfl))
theorem vU (x:SHeader):1≤(ig x).b.length:=fy (gF (.inr rfl))
theorem Fb (x:SCase):1≤(m9 x).b.length:=fy xg
theorem yH (x:SState):1≤(jw x).b.length:=fy (gF (.inr rfl))
theorem yN (x:SParam):1≤(j6 x).b.length:=fy xU
theorem C7 (x:SPrim):1≤(nt x).b.length:=fy (gF (.inl rfl))
theorem wQ (x:SAction):1≤(gM x).b.length:=fy (gF (.inr rfl))
theorem HK (x:SKey):1≤(ss x).b.length:=fy xU
theorem zc (x:STable):1≤(i9 x).b.length:=fy (gF (.inr rfl))
theorem zL (x:SStage):1≤(i7 x).b.length:=fy (gF (.inr rfl))
theorem Ad (x:SGrant):1≤(jV x).b.length:=fy (gF (.inr rfl))
theorem EL (x:SRole):1≤(kH x).b.length:=fy (gF (.inr rfl))
theorem Jv (x:SRef):1≤(j2 x).b.length:=fy (gF (.inr rfl))
theorem CF (v:Nat):1≤(i8 v).b.length:=xg
theorem Cg (x:Bool):1≤(iH x).b.length:=GX
def eW {α:Type} (c:α→AV) (ok:α→Prop) (g:α→Enc):List AV→AHeap→(AEnd→AHeap→Prop)→Prop
 |[.ptr id 0,x],H,K=>∃ q s a,(SOn H id q s∧x=c a∧ok a∧(s.add (g a)).b.length≤b8)∧K (.ret (.tup [])) (swH H id q (s.add (g a)))
 |_,_,_=>False
def jc {α:Type} (f sz:Nat) (c:α→AV) (ok:α→Prop) (g:α→Enc):List AV→AHeap→(AEnd→AHeap→Prop)→Prop
 |[.ptr id 0,.agg [.int .i64 most,.func (.func f') [] [],.func (.func r) [] []],.slice .any sz' xs],H,K=>∃ q s l,(SOn H id q s∧f'=f∧sz'=sz∧xs=l.map c∧(∀ a∈l,ok a)∧(s.add (bD g most l)).b.length≤b8) ∧
   K (.ret (.tup [])) (swH H id q (s.add (bD g most l)))
 |_,_,_=>False
theorem dJ {id q:Nat} {H:AHeap} {s:Enc} {n w:Int} {K:AEnd→AHeap→Prop} (hw:w=1∨w=2) (h:SOn H id q s) (hl:(s.add (dK n w)).b.length≤b8) (hK:K (.ret (.tup [])) (swH H id q (s.add (dK n w)))) :
 wo [.ptr id 0,.int .i64 n,.int .i64 w] H K:=⟨q,s,⟨h,hw,aX hl⟩,hK⟩
theorem mN {id q:Nat} {H:AHeap} {s:Enc} {x:List UInt8} {m:Int} {K:AEnd→AHeap→Prop} (hx:lR x) (h:SOn H id q s) (hl:(s.add (kl x m)).b.length≤b8) (hK:K (.ret (.tup [])) (swH H id q (s.add (kl x m)))) :
 wl [.ptr id 0,.str x,.int .i64 m] H K:=⟨q,s,⟨h,hx,hl⟩,hK⟩
theorem xm {id q:Nat} {H:AHeap} {s:Enc} {x:Bool} {K:AEnd→AHeap→Prop} (h:SOn H id q s) (hl:(s.add (iH x)).b.length≤b8) (hK:K (.ret (.tup [])) (swH H id q (s.add (iH x)))) :
 wg [.ptr id 0,.bool x] H K:=⟨q,s,⟨h,hl⟩,hK⟩
theorem yz {id q:Nat} {H:AHeap} {s:Enc} {v:Nat} {K:AEnd→AHeap→Prop} (hv:my v) (h:SOn H id q s) (hl:(s.add (i8 v)).b.length≤b8) (hK:K (.ret (.tup [])) (swH H id q (s.add (i8 v)))) :
 wZ [.ptr id 0,.agg [.int .u64 ((v/2^64:Nat):Int),.int .u64 ((v % 2^64:Nat):Int)]] H K:=⟨q,s,v,⟨h,hv,rfl,rfl,hl⟩,hK⟩
theorem mZ {α:Type} {c:α→AV} {ok:α→Prop} {g:α→Enc} {id q:Nat} {H:AHeap} {s:Enc} {a:α} {K:AEnd→AHeap→Prop} (ha:ok a) (h:SOn H id q s) (hl:(s.add (g a)).b.length≤b8) (hK:K (.ret (.tup [])) (swH H id q (s.add (g a)))) :
 eW c ok g [.ptr id 0,c a] H K:=⟨q,s,a,⟨h,rfl,ha,hl⟩,hK⟩
theorem gT {α:Type} {f sz r:Nat} {c:α→AV} {ok:α→Prop} {g:α→Enc} {id q:Nat} {H:AHeap} {s:Enc} {l:List α} {m:Int} {K:AEnd→AHeap→Prop} (ha:∀ a∈l,ok a) (h:SOn H id q s) (hl:(s.add (bD g m l)).b.length≤b8) (hK:K (.ret (.tup [])) (swH H id q (s.add (bD g m l)))) :
 jc f sz c ok g [.ptr id 0,.agg [.int .i64 m,.func (.func f) [] [],.func (.func r) [] []],.slice .any sz (l.map c)] H K:=⟨q,s,l,⟨h,rfl,rfl,rfl,ha,hl⟩,hK⟩
structure WFacts (H:AHeap) (id q:Nat):Prop where
 p0:∀ t x,swH (H.push x) id q t=(swH H id q t).push x
 p1:∀ s t x,swH ((swH H id q s).push x) id q t=(swH H id q t).push x
 p2:∀ s t x y,swH (((swH H id q s).push x).push y) id q t=((swH H id q t).push x).push y
 p3:∀ s t x y z,swH ((((swH H id q s).push x).push y).push z) id q t=(((swH H id q t).push x).push y).push z
 pp:∀ s t,swH (swH H id q s) id q t=swH H id q t
theorem SOn.facts {H:AHeap} {id q:Nat} {s:Enc} (h:SOn H id q s):WFacts H id q:=by
 have h1:=glq h.o
 have h2:=glq h.bu
 refine ⟨fun t x=>iX h1 h2,fun s t x=>?_,fun s t x y=>?_,fun s t x y z=>?_,fun s t=>oP h.ne⟩
 ·rw [iX (by exact h1) (by exact h2),oP h.ne]
 ·rw [iX (by rw [zle];exact Nat.lt_succ_of_lt h1) (by rw [zle];exact Nat.lt_succ_of_lt h2),iX (by exact h1) (by exact h2),oP h.ne]
 ·rw [iX (by rw [zle,zle];exact Nat.lt_succ_of_lt (Nat.lt_succ_of_lt h1)) (by rw [zle,zle];exact Nat.lt_succ_of_lt (Nat.lt_succ_of_lt h2)),
   iX (by rw [zle];exact Nat.lt_succ_of_lt h1) (by rw [zle];exact Nat.lt_succ_of_lt h2),iX (by exact h1) (by exact h2),oP h.ne]
end Go.AL
