/- Lemmas of the proof; no condition. -/
import Derived.Test.YthnlhjalhflgfaaGreatCL
import Derived.Test.YthnlhjalhflgfaaGreatS10i
set_option linter.all false
set_option maxRecDepth 10000
set_option maxHeartbeats 32000000
open Go Go.AL Go.Proofs
namespace Go.AL
theorem ON:ti Tryz.prog 121=some ⟨.struct [(0,22,false),(1,4,false),(2,4,false),(3,4,false)],4,32,.agg [.slice .nil 1 [],.bool false,.bool false,.bool false]⟩:=krf
theorem Jq:ti Tryz.prog 124=some ⟨.ptr 121,1,8,.nilp⟩:=krf
attribute [go_sem] ON Jq
def rg (n w:Int):Bool:=decide (0≤n∧n<256^w.toNat)
theorem CZ {x:Nat} (h:x<2^128):isV ((x/2^64:Nat):Int) ((x % 2^64:Nat):Int)=True:=eq_true (by unfold isV;omega)
theorem cG {α:Type} {f:α→AV} {l:List α} {k:Nat} {x:α} (hx:l[k]?=some x):(l.map f).getD k .junk=f x:=by
 simp [gEq,hx]
structure Enc where
 b:List UInt8
 l:Bool
 f:Bool
 a:Bool
def Enc.add (x y:Enc):Enc:=⟨x.b++y.b,x.l||y.l,x.f||y.f,x.a||y.a⟩
def enc0:Enc:=⟨[],false,false,false⟩
theorem aH (x y z:Enc):(x.add y).add z=x.add (y.add z):=by simp [Enc.add,List.append_assoc,Bool.or_assoc]
theorem cU (x:Enc):x.add enc0=x:=by simp [Enc.add,enc0]
theorem t8 (x:Enc):enc0.add x=x:=by simp [Enc.add,enc0]
theorem dx (x y:Enc):(x.add y).b.length=x.b.length+y.b.length:=lAq
def lF (c:UInt8):Bool:=decide ((c.toNat:Int)<32)||decide ((c.toNat:Int) > 126)
def b9 (n w:Int):Enc:=⟨iP n w,false,false,!rg n w⟩
def il (s:List UInt8) (most:Int):Enc:=⟨jF s,decide ((s.length:Int) > most),s.any lF,false⟩
def jK (v:Nat):Enc:=⟨kG v,false,false,false⟩
def i5 (x:Bool):Enc:=⟨[if x then 1 else 0],false,false,false⟩
def db (n:Nat) (most:Int):Enc:=⟨iP (n:Int) 2,decide ((n:Int) > most),false,false⟩
def b5 {α:Type} (g:α→Enc):List α→Enc
 |[]=>enc0
 |x::l=>(g x).add (b5 g l)
theorem vr {α:Type} (g:α→Enc):∀ l k:List α,b5 g (l++k)=(b5 g l).add (b5 g k)
 |[],k=>by rw [yak,b5,t8]
 |x::l,k=>by rw [yal,b5,b5,vr g l k,aH]
theorem DU {α:Type} (g:α→Enc) (l:List α) (x:α):b5 g (l++[x])=(b5 g l).add (g x):=by
 rw [vr,b5,b5,cU]
theorem Fj {α:Type} (g:α→Enc) (l:List α) (k:Nat):(b5 g (l.take k)).b.length≤(b5 g l).b.length:=by
 have h:=vr g (l.take k) (l.drop k)
 rw [List.take_append_drop] at h
 rw [h,dx];omega
def bn {α:Type} (g:α→Enc) (most:Int) (l:List α):Enc:=(db l.length most).add (b5 g l)
structure SOn (H:AHeap) (id q:Nat) (s:Enc):Prop where
 o:H.get id=some (.cells [.slice (.own q) 1 (bys s.b),.bool s.l,.bool s.f,.bool s.a])
 bu:H.get q=some (.buf 1 s.b.length)
def swH (H:AHeap) (id q:Nat) (s:Enc):AHeap:=(H.set q (.buf 1 s.b.length)).set id (.cells [.slice (.own q) 1 (bys s.b),.bool s.l,.bool s.f,.bool s.a])
theorem SOn.ne {H:AHeap} {id q:Nat} {s:Enc} (h:SOn H id q s):id≠q:=fun e=>by
 have h1:=h.o
 rw [e,h.bu] at h1;cases h1
theorem SOn.closed {H:AHeap} {id q:Nat} {s:Enc} (h:SOn H id q s) (hc:H.Closed) (t:Enc):(swH H id q t).Closed:=by
 refine bG (bh hc) ?_
 have hq:=glq h.bu
 simp only [znu,znv,and_true,zlf,zms,zng]
 intro i e;cases e;exact hq
theorem SOn.next {H:AHeap} {id q:Nat} {s:Enc} (h:SOn H id q s) (t:Enc):SOn (swH H id q t) id q t:=by
 have h1:=glq h.o
 have h2:=glq h.bu
 unfold swH
 refine ⟨?_,?_⟩
 ·rw [AHeap.get_set_same _ _ (by rw [zlf];exact h1)]
 ·rw [AHeap.get_set_ne _ _ (fun e=>h.ne e.symm),AHeap.get_set_same _ _ h2]
theorem tq {H:AHeap} {id q:Nat} {s t:Enc} (h:id≠q):swH (swH H id q s) id q t=swH H id q t:=by
 unfold swH AHeap.set
 dsimp only
 congr 1
 funext j
 by_cases h1:j=id
 ·simp [h1]
 ·by_cases h2:j=q<;>simp [h1,h2]
theorem ak {H:AHeap} {id q:Nat} {s:Enc}:(swH H id q s).nx=H.nx:=rfl
theorem SOn.push {H:AHeap} {id q:Nat} {s:Enc} (h:SOn H id q s) (x:AObj):SOn (H.push x) id q s :=
 ⟨by rw [gPq _ _ (glq h.o)];exact h.o,by rw [gPq _ _ (glq h.bu)];exact h.bu⟩
theorem mq {H:AHeap} {id q:Nat} {s:Enc} {x:AObj} (h1:id<H.nx) (h2:q<H.nx):swH (H.push x) id q s=(swH H id q s).push x:=by
 unfold swH AHeap.set AHeap.push
 dsimp only
 congr 1
 funext j
 by_cases e1:j=id
 ·have:id≠H.nx:=by omega
  simp [e1,this]
 ·by_cases e2:j=q
  ·have:q≠H.nx:=by omega
   simp [e1,e2,this]
  ·simp [e1,e2]
theorem wI {H:AHeap} {id q j:Nat} {s:Enc} (h1:j≠id) (h2:j≠q):a8 (swH H id q s) j=a8 H j:=by
 unfold a8 swH
 rw [AHeap.get_set_ne _ _ h1,AHeap.get_set_ne _ _ h2]
def uY:ECt
 |[.ptr id 0,.int .i64 n,.int .i64 w],H,K=>∃ q s,(SOn H id q s∧(w=1∨w=2)∧s.b.length≤100000000000000)∧K (.ret (.tup [])) (swH H id q (s.add (b9 n w)))
 |_,_,_=>False
theorem Ir {n w:Int} (h:n<0):rg n w=false:=dfq fun h'=>by omega
theorem RC {n:Int} (h:¬ n<0):(!rg n 1)=decide (n ≥ 256):=by
 unfold rg
 by_cases h':n<256
 ·exact Y147
 ·rw [dfq (fun x=>h' x.2),dtq (by omega)];rfl
theorem Rb {n:Int} (h:¬ n<0):(!rg n 2)=decide (n ≥ 65536):=by
 unfold rg
 by_cases h':n<65536
 ·exact Y147
 ·rw [dfq (fun x=>h' x.2),dtq (by omega)];rfl
theorem iZ:EEe 58 uY:=by
 refine Yef fun _ H K h=>?_
 unfold uY at h
 split at h<;>try exact h.elim
 rename_i id n w
 obtain ⟨q,s,⟨hW,hw,hl⟩,hK⟩:=h
 refine ⟨_,_,hK,?_⟩
 clear hK
 have hcl0:=hW.closed (t:=s.add (b9 n w))
 obtain ⟨b,sl,sf,sa⟩:=s
 simp only [Enc.add,b9,Bool.or_false] at hcl0 ⊢
 have l1:=eS n w
 dsimp only at hl
 have hid:=glq hW.o
 have hq:=glq hW.bu
 have hne:=cN hid
 have hneq:=cN hq
 have n1:(id=q)=False:=eq_false hW.ne
 have n2:(q=id)=False:=eq_false fun e=>hW.ne e.symm
 have hcs:=aM hW.o
 have hb0:=hW.bu
 have hi0:=hW.o
 have hnn:=hW.ne
 dsimp only at hcs hb0 hi0
 refine Yfw aE (tCq di tNq) Tryz.func58 [] (by unfold swH;simp only [zlf];omega) (T:=aB [(1,[[],[],[],[],[],[],[],[],[4,7],[],[],[4,7]])]) (h:=fun hcl=>?_)
 have hcl1:=hcl0 hcl
 have hcm:=fun cs=>@bK H id cs hid
 have hA:∀ X Y,a8 ((H.set id (.cells X)).set q Y) id=some X:=fun X Y=>by
  exact Y82
 have hB:∀ X,(H.set id X).get q=some (.buf 1 b.length):=fun X=>by rw [AHeap.get_set_ne _ _ (fun e=>hnn e.symm)];exact hb0
 have eh:∀ X Y Z,((H.set id X).set q Y).set id Z=(H.set q Y).set id Z:=fun X Y Z=>by
  exact Y68
 unfold swH at hcl1 ⊢
 dsimp only at hcl1 ⊢
 have hlb:(b++iP n w).length=b.length+(iP n w).length:=lAq
 have s1:IntKind.u64.wrap (IntKind.i64.wrap 8)=8:=by decide
 have s2:rS .i64 1 8=256:=by decide
 have s3:IntKind.u64.wrap (IntKind.i64.wrap 16)=16:=by decide
 have s4:rS .i64 1 16=65536:=by decide
 cases sa
 ·by_cases h0:n<0
  ·have d0:decide (n<0)=true:=dtq h0
   rw [Ir h0,Bool.not_false,Bool.or_true] at hcl1 ⊢
   simp only [go_sem,byq,d0,hne,hneq,n1,n2,hcs,hcm,hA,hB,eh,hi0,hb0,bB,Bool.false_or] at hcl1 ⊢
   (repeat with_reducible refine And.intro (by first|assumption|decide|omega|exact ⟨by omega,by omega⟩) ?_)
   rw [hlb] at hcl1
   exact Z15
  ·have d0:decide (n<0)=false:=dfq h0
   rcases hw with rfl|rfl
   ·rw [RC h0,Bool.false_or] at hcl1 ⊢
    simp only [go_sem,byq,d0,s1,s2,hne,hneq,n1,n2,hcs,hcm,hA,hB,eh,hi0,hb0,bB,Bool.false_or] at hcl1 ⊢
    (repeat with_reducible refine And.intro (by first|assumption|decide|omega|exact ⟨by omega,by omega⟩) ?_)
    rw [hlb] at hcl1
    exact Z15
   ·rw [Rb h0,Bool.false_or] at hcl1 ⊢
    simp only [go_sem,byq,d0,s3,s4,hne,hneq,n1,n2,hcs,hcm,hA,hB,eh,hi0,hb0,bB,Bool.false_or] at hcl1 ⊢
    (repeat with_reducible refine And.intro (by first|assumption|decide|omega|exact ⟨by omega,by omega⟩) ?_)
    rw [hlb] at hcl1
    exact Z15
 ·simp only [go_sem,byq,hne,hneq,n1,n2,hcs,hcm,hA,hB,eh,hi0,hb0,bB,Bool.true_or] at hcl1 ⊢
  (repeat with_reducible refine And.intro (by first|assumption|decide|omega|exact ⟨by omega,by omega⟩) ?_)
  rw [hlb] at hcl1
  exact Z15
def dB:Nat:=100000000000000
theorem bJ:dB=100000000000000:=rfl
theorem aQ {x y:Enc} (h:(x.add y).b.length≤dB):x.b.length≤dB:=by rw [dx] at h;omega
theorem SOn.same {H:AHeap} {id q:Nat} {s:Enc} (h:SOn H id q s):swH H id q s=H:=by
 have h1:=fo h.bu
 unfold swH
 rw [h1]
 exact fo h.o
def uU:ECt
 |[.ptr id 0,.bool x],H,K=>∃ q s,(SOn H id q s∧(s.add (i5 x)).b.length≤dB)∧K (.ret (.tup [])) (swH H id q (s.add (i5 x)))
 |_,_,_=>False
theorem xq:EEe 227 uU:=by
 refine Yef fun _ H K h=>?_
 unfold uU at h
 split at h<;>try exact h.elim
 rename_i id x
 obtain ⟨q,s,⟨hW,hl⟩,hK⟩:=h
 refine ⟨_,_,hK,?_⟩
 clear hK
 have hcl0:=hW.closed (t:=s.add (i5 x))
 rw [bJ] at hl
 obtain ⟨b,sl,sf,sa⟩:=s
 simp only [Enc.add,i5,Bool.or_false,lAq,List.length_singleton] at hcl0 hl ⊢
 have hid:=glq hW.o
 have hq:=glq hW.bu
 have hne:=cN hid
 have hneq:=cN hq
 have n1:(id=q)=False:=eq_false hW.ne
 have n2:(q=id)=False:=eq_false fun e=>hW.ne e.symm
 have hcs:=aM hW.o
 have hb0:=hW.bu
 have hi0:=hW.o
 have hnn:=hW.ne
 dsimp only at hcs hb0 hi0
 refine Yfw aE (tCq vW tNq) Tryz.func227 [] (by unfold swH;simp only [zlf];omega) (T:=aB [(0,[[],[],[],[],[],[],[],[4,6],[],[],[4,6]])]) (h:=fun hcl=>?_)
 have hcl1:=hcl0 hcl
 have hcm:=fun cs=>@bK H id cs hid
 have hA:∀ X Y,a8 ((H.set id (.cells X)).set q Y) id=some X:=fun X Y=>by
  exact Y82
 have hA0:∀ Y,a8 (H.set q Y) id=a8 H id:=fun Y=>by
  exact Y80
 have hB:∀ X,(H.set id X).get q=some (.buf 1 b.length):=fun X=>by rw [AHeap.get_set_ne _ _ (fun e=>hnn e.symm)];exact hb0
 have eh:∀ X Y Z,((H.set id X).set q Y).set id Z=(H.set q Y).set id Z:=fun X Y Z=>by
  exact Y68
 unfold swH at hcl1 ⊢
 dsimp only at hcl1 ⊢
 simp only [go_sem,byq,hne,hneq,n1,n2,hcs,hcm,hA,hA0,hB,eh,hi0,hb0,od] at hcl1 ⊢
 (repeat with_reducible refine And.intro (by first|assumption|decide|omega|exact ⟨by omega,by omega⟩) ?_)
 exact Y119
def uo:ECt
 |[.ptr id 0,.agg [.int .u64 hi,.int .u64 lo]],H,K=>∃ q s v,(SOn H id q s∧v<2^128∧hi=((v/2^64:Nat):Int)∧lo=((v % 2^64:Nat):Int)∧(s.add (jK v)).b.length≤dB)∧K (.ret (.tup [])) (swH H id q (s.add (jK v)))
 |_,_,_=>False
theorem xj:EEe 303 uo:=by
 refine Yef fun _ H K h=>?_
 unfold uo at h
 split at h<;>try exact h.elim
 rename_i id hi lo
 obtain ⟨q,s,v,⟨hW,hv,rfl,rfl,hl⟩,hK⟩:=h
 refine ⟨_,_,hK,?_⟩
 clear hK
 have iv:=CZ hv
 have hcl0:=hW.closed (t:=s.add (jK v))
 rw [bJ] at hl
 obtain ⟨b,sl,sf,sa⟩:=s
 simp only [Enc.add,jK,Bool.or_false,lAq,List.length_singleton] at hcl0 hl ⊢
 have hid:=glq hW.o
 have hq:=glq hW.bu
 have hne:=cN hid
 have hneq:=cN hq
 have n1:(id=q)=False:=eq_false hW.ne
 have n2:(q=id)=False:=eq_false fun e=>hW.ne e.symm
 have hcs:=aM hW.o
 have hb0:=hW.bu
 have hi0:=hW.o
 have hnn:=hW.ne
 dsimp only at hcs hb0 hi0
 refine Yfw aE (tCq uH tNq) Tryz.func303 [] (by unfold swH;simp only [zlf];omega) (T:=aB [(1,[[],[],[],[],[],[],[5],[4,5,6],[],[],[4,5,6]])]) (h:=fun hcl=>?_)
 have hcl1:=hcl0 hcl
 have hcm:=fun cs=>@bK H id cs hid
 have hA:∀ X Y,a8 ((H.set id (.cells X)).set q Y) id=some X:=fun X Y=>by
  exact Y82
 have hA0:∀ Y,a8 (H.set q Y) id=a8 H id:=fun Y=>by
  exact Y80
 have hB:∀ X,(H.set id X).get q=some (.buf 1 b.length):=fun X=>by rw [AHeap.get_set_ne _ _ (fun e=>hnn e.symm)];exact hb0
 have eh:∀ X Y Z,((H.set id X).set q Y).set id Z=(H.set q Y).set id Z:=fun X Y Z=>by
  exact Y68
 unfold swH at hcl1 ⊢
 dsimp only at hcl1 ⊢
 simp only [go_sem,byq,hne,hneq,n1,n2,hcs,hcm,hA,hA0,hB,eh,hi0,hb0,mY,iv,iNq,jI] at hcl1 ⊢
 (repeat with_reducible refine And.intro (by first|assumption|decide|omega|exact ⟨by omega,by omega⟩) ?_)
 exact Y119
def vo:ECt
 |[.ptr id 0,.str x,.int .i64 most],H,K=>∃ q s,(SOn H id q s∧x.length≤dB∧(s.add (il x most)).b.length≤dB)∧K (.ret (.tup [])) (swH H id q (s.add (il x most)))
 |_,_,_=>False
theorem qk {α:Type} {p:α→Bool} {l:List α} {k:Nat} (h:k<l.length):(l.take (k+1)).any p=((l.take k).any p||p l[k]):=by
 rw [List.take_succ_eq_append_getElem h,List.any_append,List.any_cons,List.any_nil,Bool.or_false]
def swC (q:Nat) (b:List UInt8) (l f a:Bool):List AV:=[.slice (.own q) 1 (bys b),.bool l,.bool f,.bool a]
theorem nL:EEe 192 vo:=by
 refine Yef fun _ H K h=>?_
 unfold vo at h
 split at h<;>try exact h.elim
 rename_i id x most
 obtain ⟨q,s,⟨hW,hx,hl⟩,hK⟩:=h
 refine ⟨_,_,hK,?_⟩
 clear hK
 have hcl0:=fun t=>hW.closed (t:=t)
 rw [bJ] at hl hx
 obtain ⟨b,sl,sf,sa⟩:=s
 simp only [Enc.add,il,Bool.or_false,lAq] at hl ⊢
 have hid:=glq hW.o
 have hq:=glq hW.bu
 have hne:=cN hid
 have hneq:=cN hq
 have n1:(id=q)=False:=eq_false hW.ne
 have n2:(q=id)=False:=eq_false fun e=>hW.ne e.symm
 have hcs:=aM hW.o
 have hb0:=hW.bu
 have hi0:=hW.o
 have hnn:=hW.ne
 dsimp only at hcs hb0 hi0
 refine Yfw aE (tCq v5 tNq) Tryz.func192 [] (by unfold swH;simp only [zlf];omega) (T:=aB [(6,[[],[],[],[],[],[],[],[4,6],[],[],[4,6]])]) (h:=fun hcl=>?_)
 have hcl1:=fun t=>hcl0 t hcl
 have hcm:=fun cs=>@bK H id cs hid
 have hgm:=fun o=>@vK H id o hid
 have hA:∀ X Y,a8 ((H.set id (.cells X)).set q Y) id=some X:=fun X Y=>by
  exact Y82
 have hB:∀ X,(H.set id X).get q=some (.buf 1 b.length):=fun X=>by rw [AHeap.get_set_ne _ _ (fun e=>hnn e.symm)];exact hb0
 have eh:∀ X Y Z,((H.set id X).set q Y).set id Z=(H.set q Y).set id Z:=fun X Y Z=>by
  exact Y68
 have hclk:∀ L F,(H.set id (.cells (swC q b L F sa))).Closed:=fun L F=>by
  have:=hcl1 ⟨b,L,F,sa⟩
  unfold swH at this
  dsimp only at this
  rw [fo hb0] at this
  exact this
 have hend:=hcl1 ⟨b++jF x,sl||decide ((x.length:Int) > most),sf||x.any lF,sa⟩
 have e0:(sf||(x.take 0).any lF)=sf:=by rw [yar,List.any_nil,Bool.or_false]
 have hL2:sl=true→(sl||decide ((x.length:Int) > most))=true:=fun h=>by rw [h,Bool.true_or]
 have hL3:sl=false→decide ((x.length:Int) > most)=(sl||decide ((x.length:Int) > most)):=fun h=>by rw [h,Bool.false_or]
 generalize (sl||decide ((x.length:Int) > most))=L at *
 cases sl
 ·simp only [go_sem,byq,hne,hneq,n1,n2,hcs,hcm,hA,hB,eh,hi0,hb0,hL3 rfl]
  refine Tq4 ?_
  refine aC (A:=Nat) (fun k=>[(0,.ptr id 0),(1,.str x),(22,.slice .any 1 (bys x)),(23,.int .i64 (x.length:Int)),(24,.int .i64 (k:Int))]) (fun k=>H.set id (.cells (swC q b L (sf||(x.take k).any lF) sa))) (fun k=>k≤x.length) (fun k=>x.length - k) 0 (by omega) ?_ fun k hk=>?_
  ·rw [e0]
   refine eNt (hclk _ _) ?_ ?_ (a:=by simp only [zkq,zkv,zlf,swH];omega)
   ·exact Y77
   ·exact Y13
  refine Tq15 ?_
  refine au (fun hc=>?_) (fun hc=>?_)
  ·have hk':k<x.length:=sHc
   have hg:=tr hk'
   have e5:=Yk5 k
   have ht:=qk (p:=lF) hk'
   have hgd:x.getD k 0=x[k]:=by simp [gEq,hk']
   rw [hgd] at hg
   have hT:(sf||(x.take (k+1)).any lF)=((sf||(x.take k).any lF)||lF x[k]):=by rw [ht,Bool.or_assoc]
   generalize (sf||(x.take k).any lF)=F at *
   generalize x[k]=c at *
   have hfin:∀ F',F'=(F||lF c)→F'=(sf||(x.take (k+1)).any lF):=fun F' h=>by rw [h,hT]
   cases F
   ·by_cases hc1:(c.toNat:Int)<32
    ·have d1:decide ((c.toNat:Int)<32)=true:=dtq hc1
     refine Tq29 ?_
     (repeat with_reducible refine And.intro (by first|assumption|decide|omega|simp) ?_)
     refine ⟨k+1,by omega,by omega,by simp only [zkq,zkv,zlf,swH];omega,?_,hclk _ _,?_,?_⟩
     ·exact Y146
     ·exact Y77
     ·exact Y13
    ·have d1:decide ((c.toNat:Int)<32)=false:=dfq hc1
     refine Tq29 ?_
     (repeat with_reducible refine And.intro (by first|assumption|decide|omega|simp) ?_)
     refine ⟨k+1,by omega,by omega,by simp only [zkq,zkv,zlf,swH];omega,?_,hclk _ _,?_,?_⟩
     ·exact Y133
     ·exact Y77
     ·exact Y13
   ·simp only [go_sem,byq,swC,hne,hneq,n1,n2,hcs,hcm,hA,hB,eh,hi0,hb0,iNq,zlk,hg,bH,e5]
    (repeat with_reducible refine And.intro (by first|assumption|decide|omega|simp) ?_)
    refine ⟨k+1,by omega,by omega,by simp only [zkq,zkv,zlf,swH];omega,?_,hclk _ _,?_,?_⟩
    ·exact Y152
    ·exact Y77
    ·exact Y13
  ·exact Y46
 ·obtain rfl:L=true:=hL2 rfl
  simp only [go_sem,byq,hne,hneq,n1,n2,hcs,hcm,hA,hB,eh,hi0,hb0]
  refine Tq4 ?_
  refine aC (A:=Nat) (fun k=>[(0,.ptr id 0),(1,.str x),(22,.slice .any 1 (bys x)),(23,.int .i64 (x.length:Int)),(24,.int .i64 (k:Int))]) (fun k=>H.set id (.cells (swC q b true (sf||(x.take k).any lF) sa))) (fun k=>k≤x.length) (fun k=>x.length - k) 0 (by omega) ?_ fun k hk=>?_
  ·rw [e0]
   refine eNt (hclk _ _) ?_ ?_ (a:=by simp only [zkq,zkv,zlf,swH];omega)
   ·exact Y77
   ·exact Y13
  refine Tq15 ?_
  refine au (fun hc=>?_) (fun hc=>?_)
  ·have hk':k<x.length:=sHc
   have hg:=tr hk'
   have e5:=Yk5 k
   have ht:=qk (p:=lF) hk'
   have hgd:x.getD k 0=x[k]:=by simp [gEq,hk']
   rw [hgd] at hg
   have hT:(sf||(x.take (k+1)).any lF)=((sf||(x.take k).any lF)||lF x[k]):=by rw [ht,Bool.or_assoc]
   generalize (sf||(x.take k).any lF)=F at *
   generalize x[k]=c at *
   have hfin:∀ F',F'=(F||lF c)→F'=(sf||(x.take (k+1)).any lF):=fun F' h=>by rw [h,hT]
   cases F
   ·by_cases hc1:(c.toNat:Int)<32
    ·have d1:decide ((c.toNat:Int)<32)=true:=dtq hc1
     refine Tq29 ?_
     (repeat with_reducible refine And.intro (by first|assumption|decide|omega|simp) ?_)
     refine ⟨k+1,by omega,by omega,by simp only [zkq,zkv,zlf,swH];omega,?_,hclk _ _,?_,?_⟩
     ·exact Y146
     ·exact Y77
     ·exact Y13
    ·have d1:decide ((c.toNat:Int)<32)=false:=dfq hc1
     refine Tq29 ?_
     (repeat with_reducible refine And.intro (by first|assumption|decide|omega|simp) ?_)
     refine ⟨k+1,by omega,by omega,by simp only [zkq,zkv,zlf,swH];omega,?_,hclk _ _,?_,?_⟩
     ·exact Y133
     ·exact Y77
     ·exact Y13
   ·simp only [go_sem,byq,swC,hne,hneq,n1,n2,hcs,hcm,hA,hB,eh,hi0,hb0,iNq,zlk,hg,bH,e5]
    (repeat with_reducible refine And.intro (by first|assumption|decide|omega|simp) ?_)
    refine ⟨k+1,by omega,by omega,by simp only [zkq,zkv,zlf,swH];omega,?_,hclk _ _,?_,?_⟩
    ·exact Y152
    ·exact Y77
    ·exact Y13
  ·exact Y46
def jH (n:Int):Enc:=b9 n 2
def gz (x:SField):Enc:=(b9 x.id 2).add ((il x.name 24).add (b9 x.bits 1))
def fT (x:SHeader):Enc:=(b9 x.id 2).add ((il x.name 24).add (bn jH 32 x.fields))
def l9 (x:SCase):Enc:=(jK x.value).add ((jK x.mask).add (b9 x.next 2))
def iY (x:SState):Enc:=(b9 x.id 2).add ((b9 x.header 2).add ((b9 x.select 2).add ((bn l9 6 x.cases).add (b9 x.dflt 2))))
def js (x:SParam):Enc:=(il x.name 24).add (b9 x.bits 1)
def mE (x:SPrim):Enc:=(b9 x.op 1).add ((b9 x.dst 2).add ((b9 x.kind 1).add ((b9 x.n 2).add (jK x.value))))
def eJ (x:SAction):Enc:=(b9 x.id 2).add ((il x.name 24).add ((bn js 4 x.params).add ((bn mE 12 x.body).add (il x.restr 400))))
def oD (x:SKey):Enc:=(il x.name 24).add ((b9 x.field 2).add (b9 x.kind 1))
def gB (x:STable):Enc:=(b9 x.id 2).add ((il x.name 24).add ((bn oD 4 x.keys).add ((bn jH 12 x.actions).add ((b9 x.dflt 2).add ((bn jK 4 x.dargs).add ((b9 x.size 2).add (il x.restr 400)))))))
def im (x:SStage):Enc:=(b9 x.table 2).add (b9 x.header 2)
def jp (x:SGrant):Enc:=(b9 x.table 2).add ((i5 x.read).add ((i5 x.write).add (bn i5 4 x.keys)))
def kr (x:SRole):Enc:=(b9 x.id 2).add ((il x.name 24).add ((bn jp 8 x.grants).add ((bn jH 12 x.actions).add ((b9 x.quota 2).add (i5 x.audit)))))
def qq (x:SRef):Enc:=(b9 x.table 2).add ((b9 x.key 1).add ((b9 x.action 2).add ((b9 x.param 1).add ((b9 x.toTable 2).add (b9 x.toKey 1)))))
def fC (x:Sch):Enc:=(bn gz 32 x.fields).add ((bn fT 8 x.headers).add (bn iY 12 x.states))
def jf (x:Sch):Enc:=(b9 x.maxBatch 2).add ((b9 x.budget 2).add ((fC x).add ((bn eJ 12 x.actions).add ((bn gB 8 x.tables).add ((bn im 12 x.stages).add ((bn kr 6 x.roles).add (bn qq 8 x.refs)))))))
def oB (s:List UInt8):Prop:=s.length≤dB
def qS {α:Type} (_:α):Prop:=True
def rm (v:Nat):Prop:=v<2^128
def xM (x:SField):Prop:=oB x.name
def vp (x:SHeader):Prop:=oB x.name
def uE (x:SCase):Prop:=rm x.value∧rm x.mask
def xw (x:SState):Prop:=∀ c∈x.cases,uE c
def yh (x:SParam):Prop:=oB x.name
def BR (x:SPrim):Prop:=rm x.value
def m9 (x:SAction):Prop:=oB x.name∧(∀ p∈x.params,yh p)∧(∀ p∈x.body,BR p)∧oB x.restr
def Ji (x:SKey):Prop:=oB x.name
def pP (x:STable):Prop:=oB x.name∧(∀ k∈x.keys,Ji k)∧(∀ v∈x.dargs,rm v)∧oB x.restr
def xy (x:SRole):Prop:=oB x.name
structure OkSch (x:Sch):Prop where
 f:∀ a∈x.fields,xM a
 h:∀ a∈x.headers,vp a
 s:∀ a∈x.states,xw a
 a:∀ a∈x.actions,m9 a
 t:∀ a∈x.tables,pP a
 r:∀ a∈x.roles,xy a
theorem kH {n w:Int} (h:w=1∨w=2):1≤(b9 n w).b.length:=by
 rcases h with rfl|rfl<;>simp [b9,iP,nN]
theorem CH {s:List UInt8} {m:Int}:1≤(il s m).b.length:=by
 unfold il jF
 rw [lAq,nN];omega
theorem B9 {v:Nat}:1≤(jK v).b.length:=by simp [jK,kG]
theorem Ng {x:Bool}:1≤(i5 x).b.length:=by simp [i5]
theorem jA {x y:Enc} (h:1≤x.b.length):1≤(x.add y).b.length:=by rw [dx];omega
theorem xz {α:Type} {g:α→Enc} (h:∀ x,1≤(g x).b.length):∀ l:List α,l.length≤(b5 g l).b.length
 |[]=>Nat.zero_le _
 |x::l=>by
  rw [b5,dx,yaz]
  have:=h x
  have:=xz h l
  omega
theorem zr (n:Int):1≤(jH n).b.length:=kH (.inr rfl)
theorem wO (x:SField):1≤(gz x).b.length:=jA (kH (.inr rfl))
theorem tN (x:SHeader):1≤(fT x).b.length:=jA (kH (.inr rfl))
theorem z8 (x:SCase):1≤(l9 x).b.length:=jA B9
theorem wV (x:SState):1≤(iY x).b.length:=jA (kH (.inr rfl))
theorem w9 (x:SParam):1≤(js x).b.length:=jA CH
theorem yL (x:SPrim):1≤(mE x).b.length:=jA (kH (.inl rfl))
theorem tW (x:SAction):1≤(eJ x).b.length:=jA (kH (.inr rfl))
theorem B7 (x:SKey):1≤(oD x).b.length:=jA CH
theorem wF (x:STable):1≤(gB x).b.length:=jA (kH (.inr rfl))
theorem wr (x:SStage):1≤(im x).b.length:=jA (kH (.inr rfl))
theorem wY (x:SGrant):1≤(jp x).b.length:=jA (kH (.inr rfl))
theorem yZ (x:SRole):1≤(kr x).b.length:=jA (kH (.inr rfl))
theorem CD (x:SRef):1≤(qq x).b.length:=jA (kH (.inr rfl))
theorem y0 (v:Nat):1≤(jK v).b.length:=B9
theorem z6 (x:Bool):1≤(i5 x).b.length:=Ng
def eW {α:Type} (c:α→AV) (ok:α→Prop) (g:α→Enc):ECt
 |[.ptr id 0,x],H,K=>∃ q s a,(SOn H id q s∧x=c a∧ok a∧(s.add (g a)).b.length≤dB)∧K (.ret (.tup [])) (swH H id q (s.add (g a)))
 |_,_,_=>False
def mt {α:Type} (f sz:Nat) (c:α→AV) (ok:α→Prop) (g:α→Enc):ECt
 |[.ptr id 0,.agg [.int .i64 most,.func (.func f') [] [],.func (.func r) [] []],.slice .any sz' xs],H,K=>∃ q s l,(SOn H id q s∧f'=f∧sz'=sz∧xs=l.map c∧(∀ a∈l,ok a)∧(s.add (bn g most l)).b.length≤dB) ∧
   K (.ret (.tup [])) (swH H id q (s.add (bn g most l)))
 |_,_,_=>False
theorem cW {id q:Nat} {H:AHeap} {s:Enc} {n w:Int} {K:AEnd→AHeap→Prop} (hw:w=1∨w=2) (h:SOn H id q s) (hl:(s.add (b9 n w)).b.length≤dB) (hK:K (.ret (.tup [])) (swH H id q (s.add (b9 n w)))) :
 uY [.ptr id 0,.int .i64 n,.int .i64 w] H K:=⟨q,s,⟨h,hw,aQ hl⟩,hK⟩
theorem kQ {id q:Nat} {H:AHeap} {s:Enc} {x:List UInt8} {m:Int} {K:AEnd→AHeap→Prop} (hx:oB x) (h:SOn H id q s) (hl:(s.add (il x m)).b.length≤dB) (hK:K (.ret (.tup [])) (swH H id q (s.add (il x m)))) :
 vo [.ptr id 0,.str x,.int .i64 m] H K:=⟨q,s,⟨h,hx,hl⟩,hK⟩
theorem sO {id q:Nat} {H:AHeap} {s:Enc} {x:Bool} {K:AEnd→AHeap→Prop} (h:SOn H id q s) (hl:(s.add (i5 x)).b.length≤dB) (hK:K (.ret (.tup [])) (swH H id q (s.add (i5 x)))) :
 uU [.ptr id 0,.bool x] H K:=⟨q,s,⟨h,hl⟩,hK⟩
theorem sX {id q:Nat} {H:AHeap} {s:Enc} {v:Nat} {K:AEnd→AHeap→Prop} (hv:rm v) (h:SOn H id q s) (hl:(s.add (jK v)).b.length≤dB) (hK:K (.ret (.tup [])) (swH H id q (s.add (jK v)))) :
 uo [.ptr id 0,.agg [.int .u64 ((v/2^64:Nat):Int),.int .u64 ((v % 2^64:Nat):Int)]] H K:=⟨q,s,v,⟨h,hv,rfl,rfl,hl⟩,hK⟩
theorem oz {α:Type} {c:α→AV} {ok:α→Prop} {g:α→Enc} {id q:Nat} {H:AHeap} {s:Enc} {a:α} {K:AEnd→AHeap→Prop} (ha:ok a) (h:SOn H id q s) (hl:(s.add (g a)).b.length≤dB) (hK:K (.ret (.tup [])) (swH H id q (s.add (g a)))) :
 eW c ok g [.ptr id 0,c a] H K:=⟨q,s,a,⟨h,rfl,ha,hl⟩,hK⟩
theorem kO {α:Type} {f sz r:Nat} {c:α→AV} {ok:α→Prop} {g:α→Enc} {id q:Nat} {H:AHeap} {s:Enc} {l:List α} {m:Int} {K:AEnd→AHeap→Prop} (ha:∀ a∈l,ok a) (h:SOn H id q s) (hl:(s.add (bn g m l)).b.length≤dB) (hK:K (.ret (.tup [])) (swH H id q (s.add (bn g m l)))) :
 mt f sz c ok g [.ptr id 0,.agg [.int .i64 m,.func (.func f) [] [],.func (.func r) [] []],.slice .any sz (l.map c)] H K:=⟨q,s,l,⟨h,rfl,rfl,rfl,ha,hl⟩,hK⟩
structure WFacts (H:AHeap) (id q:Nat):Prop where
 p0:∀ t x,swH (H.push x) id q t=(swH H id q t).push x
 p1:∀ s t x,swH ((swH H id q s).push x) id q t=(swH H id q t).push x
 p2:∀ s t x y,swH (((swH H id q s).push x).push y) id q t=((swH H id q t).push x).push y
 p3:∀ s t x y z,swH ((((swH H id q s).push x).push y).push z) id q t=(((swH H id q t).push x).push y).push z
 pp:∀ s t,swH (swH H id q s) id q t=swH H id q t
theorem SOn.facts {H:AHeap} {id q:Nat} {s:Enc} (h:SOn H id q s):WFacts H id q:=by
 have h1:=glq h.o
 have h2:=glq h.bu
 refine ⟨fun t x=>mq h1 h2,fun s t x=>?_,fun s t x y=>?_,fun s t x y z=>?_,fun s t=>tq h.ne⟩
 ·rw [mq (by exact h1) (by exact h2),tq h.ne]
 ·rw [mq (by rw [zle];exact Nat.lt_succ_of_lt h1) (by rw [zle];exact Nat.lt_succ_of_lt h2),mq (by exact h1) (by exact h2),tq h.ne]
 ·rw [mq (by rw [zle,zle];exact Nat.lt_succ_of_lt (Nat.lt_succ_of_lt h1)) (by rw [zle,zle];exact Nat.lt_succ_of_lt (Nat.lt_succ_of_lt h2)),
   mq (by rw [zle];exact Nat.lt_succ_of_lt h1) (by rw [zle];exact Nat.lt_succ_of_lt h2),mq (by exact h1) (by exact h2),tq h.ne]
end Go.AL
