/- Lemmas of the proof; no condition. -/
import Derived.Test.YthnlhjalhflgfaaGreatCL
import Derived.Test.YthnlhjalhflgfaaGreatS10i
set_option linter.all false
set_option maxRecDepth 10000
set_option maxHeartbeats 32000000
open List renaming nil_append → yak, cons_append → yal, length_cons → yaz, length_nil → yba, take_of_length_le → ybc, drop_append → ybd, take_append → ybe, drop_eq_nil_of_le → ybf, take_zero → yar
open Go Go.AL Go.Proofs
namespace Go.AL
theorem Pb:ti Tryz.prog 121=some ⟨.struct [(0,22,false),(1,4,false),(2,4,false),(3,4,false)],4,32,.agg [.slice .nil 1 [],.bool false,.bool false,.bool false]⟩:=krf
theorem KA:ti Tryz.prog 124=some ⟨.ptr 121,1,8,.nilp⟩:=krf
attribute [go_sem] Pb KA
def rg (n w:Int):Bool:=decide (0≤n∧n<256^w.toNat)
theorem Dd {x:Nat} (h:x<2^128):isV ((x/2^64:Nat):Int) ((x % 2^64:Nat):Int)=True:=eq_true (by unfold isV;omega)
theorem cK {α:Type} {f:α→AV} {l:List α} {k:Nat} {x:α} (hx:l[k]?=some x):(l.map f).getD k .junk=f x:=by
 simp [gEq,hx]
structure Enc where
 b:List UInt8
 l:Bool
 f:Bool
 a:Bool
def Enc.add (x y:Enc):Enc:=⟨x.b++y.b,x.l||y.l,x.f||y.f,x.a||y.a⟩
def enc0:Enc:=⟨[],false,false,false⟩
theorem aG (x y z:Enc):(x.add y).add z=x.add (y.add z):=by simp [Enc.add,List.append_assoc,Bool.or_assoc]
theorem cW (x:Enc):x.add enc0=x:=by simp [Enc.add,enc0]
theorem wa (x:Enc):enc0.add x=x:=by simp [Enc.add,enc0]
theorem dy (x y:Enc):(x.add y).b.length=x.b.length+y.b.length:=lAq
def lQ (c:UInt8):Bool:=decide ((c.toNat:Int)<32)||decide ((c.toNat:Int) > 126)
def cf (n w:Int):Enc:=⟨iQ n w,false,false,!rg n w⟩
def ir (s:List UInt8) (most:Int):Enc:=⟨jM s,decide ((s.length:Int) > most),s.any lQ,false⟩
def jY (v:Nat):Enc:=⟨kJ v,false,false,false⟩
def ja (x:Bool):Enc:=⟨[if x then 1 else 0],false,false,false⟩
def dc (n:Nat) (most:Int):Enc:=⟨iQ (n:Int) 2,decide ((n:Int) > most),false,false⟩
def b7 {α:Type} (g:α→Enc):List α→Enc
 |[]=>enc0
 |x::l=>(g x).add (b7 g l)
theorem vP {α:Type} (g:α→Enc):∀ l k:List α,b7 g (l++k)=(b7 g l).add (b7 g k)
 |[],k=>by rw [yak,b7,wa]
 |x::l,k=>by rw [yal,b7,b7,vP g l k,aG]
theorem EE {α:Type} (g:α→Enc) (l:List α) (x:α):b7 g (l++[x])=(b7 g l).add (g x):=by
 rw [vP,b7,b7,cW]
theorem FL {α:Type} (g:α→Enc) (l:List α) (k:Nat):(b7 g (l.take k)).b.length≤(b7 g l).b.length:=by
 have h:=vP g (l.take k) (l.drop k)
 rw [List.take_append_drop] at h
 rw [h,dy];omega
def bp {α:Type} (g:α→Enc) (most:Int) (l:List α):Enc:=(dc l.length most).add (b7 g l)
structure SOn (H:AHeap) (id q:Nat) (s:Enc):Prop where
 o:H.get id=some (.cells [.slice (.own q) 1 (bys s.b),.bool s.l,.bool s.f,.bool s.a])
 bu:H.get q=some (.buf 1 s.b.length)
def swH (H:AHeap) (id q:Nat) (s:Enc):AHeap:=(H.set q (.buf 1 s.b.length)).set id (.cells [.slice (.own q) 1 (bys s.b),.bool s.l,.bool s.f,.bool s.a])
theorem SOn.ne {H:AHeap} {id q:Nat} {s:Enc} (h:SOn H id q s):id≠q:=fun e=>by
 have h1:=h.o
 rw [e,h.bu] at h1;cases h1
theorem SOn.closed {H:AHeap} {id q:Nat} {s:Enc} (h:SOn H id q s) (hc:H.Closed) (t:Enc):(swH H id q t).Closed:=by
 refine bI (bm hc) ?_
 have hq:=glq h.bu
 simp only [znu,znv,and_true,zlf,zms,zng]
 intro i e;cases e;exact hq
theorem SOn.next {H:AHeap} {id q:Nat} {s:Enc} (h:SOn H id q s) (t:Enc):SOn (swH H id q t) id q t:=by
 have h1:=glq h.o
 have h2:=glq h.bu
 unfold swH
 refine ⟨?_,?_⟩
 ·rw [AHeap.get_set_same _ _ (by rw [zlf];exact h1)]
 ·rw [AHeap.get_set_ne _ _ (fun e=>h.ne e.symm),AHeap.get_set_same _ _ h2]
theorem ub {H:AHeap} {id q:Nat} {s t:Enc} (h:id≠q):swH (swH H id q s) id q t=swH H id q t:=by
 unfold swH AHeap.set
 dsimp only
 congr 1
 funext j
 by_cases h1:j=id
 ·simp [h1]
 ·by_cases h2:j=q<;>simp [h1,h2]
theorem ak {H:AHeap} {id q:Nat} {s:Enc}:(swH H id q s).nx=H.nx:=rfl
theorem SOn.push {H:AHeap} {id q:Nat} {s:Enc} (h:SOn H id q s) (x:AObj):SOn (H.push x) id q s :=
 ⟨by rw [gPq _ _ (glq h.o)];exact h.o,by rw [gPq _ _ (glq h.bu)];exact h.bu⟩
theorem mE {H:AHeap} {id q:Nat} {s:Enc} {x:AObj} (h1:id<H.nx) (h2:q<H.nx):swH (H.push x) id q s=(swH H id q s).push x:=by
 unfold swH AHeap.set AHeap.push
 dsimp only
 congr 1
 funext j
 by_cases e1:j=id
 ·have:id≠H.nx:=by omega
  simp [e1,this]
 ·by_cases e2:j=q
  ·have:q≠H.nx:=by omega
   simp [e1,e2,this]
  ·simp [e1,e2]
theorem wS {H:AHeap} {id q j:Nat} {s:Enc} (h1:j≠id) (h2:j≠q):aW (swH H id q s) j=aW H j:=by
 unfold aW swH
 rw [AHeap.get_set_ne _ _ h1,AHeap.get_set_ne _ _ h2]
def vj:ECt
 |[.ptr id 0,.int .i64 n,.int .i64 w],H,K=>∃ q s,(SOn H id q s∧(w=1∨w=2)∧s.b.length≤100000000000000)∧K (.ret (.tup [])) (swH H id q (s.add (cf n w)))
 |_,_,_=>False
theorem GI {n w:Int} (h:n<0):rg n w=false:=dfq fun h'=>by omega
theorem RJ {n:Int} (h:¬ n<0):(!rg n 1)=decide (n ≥ 256):=by
 unfold rg
 by_cases h':n<256
 ·exact Y147
 ·rw [dfq (fun x=>h' x.2),dtq (by omega)];rfl
theorem RS {n:Int} (h:¬ n<0):(!rg n 2)=decide (n ≥ 65536):=by
 unfold rg
 by_cases h':n<65536
 ·exact Y147
 ·rw [dfq (fun x=>h' x.2),dtq (by omega)];rfl
theorem jc:EEe 58 vj:=by
 refine Yef fun _ H K h=>?_
 unfold vj at h
 split at h<;>try exact h.elim
 rename_i id n w
 obtain ⟨q,s,⟨hW,hw,hl⟩,hK⟩:=h
 refine ⟨_,_,hK,?_⟩
 clear hK
 have hcl0:=hW.closed (t:=s.add (cf n w))
 obtain ⟨b,sl,sf,sa⟩:=s
 simp only [Enc.add,cf,Bool.or_false] at hcl0 ⊢
 have l1:=eY n w
 dsimp only at hl
 have hid:=glq hW.o
 have hq:=glq hW.bu
 have hne:=cN hid
 have hneq:=cN hq
 have n1:(id=q)=False:=eq_false hW.ne
 have n2:(q=id)=False:=eq_false fun e=>hW.ne e.symm
 have hcs:=aM hW.o
 have hb0:=hW.bu
 have hi0:=hW.o
 have hnn:=hW.ne
 dsimp only at hcs hb0 hi0
 refine Yfw aC (tCq df tNq) Tryz.func58 [] (by unfold swH;simp only [zlf];omega) (T:=aA [(1,[[],[],[],[],[],[],[],[],[4,7],[],[],[4,7]])]) (h:=fun hcl=>?_)
 have hcl1:=hcl0 hcl
 have hcm:=fun cs=>@bM H id cs hid
 have hA:∀ X Y,aW ((H.set id (.cells X)).set q Y) id=some X:=fun X Y=>by
  exact Y84
 have hB:∀ X,(H.set id X).get q=some (.buf 1 b.length):=fun X=>by rw [AHeap.get_set_ne _ _ (fun e=>hnn e.symm)];exact hb0
 have eh:∀ X Y Z,((H.set id X).set q Y).set id Z=(H.set q Y).set id Z:=fun X Y Z=>by
  exact Y69
 unfold swH at hcl1 ⊢
 dsimp only at hcl1 ⊢
 have hlb:(b++iQ n w).length=b.length+(iQ n w).length:=lAq
 have s1:IntKind.u64.wrap (IntKind.i64.wrap 8)=8:=by decide
 have s2:sJ .i64 1 8=256:=by decide
 have s3:IntKind.u64.wrap (IntKind.i64.wrap 16)=16:=by decide
 have s4:sJ .i64 1 16=65536:=by decide
 cases sa
 ·by_cases h0:n<0
  ·have d0:decide (n<0)=true:=dtq h0
   rw [GI h0,Bool.not_false,Bool.or_true] at hcl1 ⊢
   simp only [go_sem,byq,d0,hne,hneq,n1,n2,hcs,hcm,hA,hB,eh,hi0,hb0,bx,Bool.false_or] at hcl1 ⊢
   (repeat with_reducible refine And.intro (by first|assumption|decide|omega|exact ⟨by omega,by omega⟩) ?_)
   rw [hlb] at hcl1
   exact Z15
  ·have d0:decide (n<0)=false:=dfq h0
   rcases hw with rfl|rfl
   ·rw [RJ h0,Bool.false_or] at hcl1 ⊢
    simp only [go_sem,byq,d0,s1,s2,hne,hneq,n1,n2,hcs,hcm,hA,hB,eh,hi0,hb0,bx,Bool.false_or] at hcl1 ⊢
    (repeat with_reducible refine And.intro (by first|assumption|decide|omega|exact ⟨by omega,by omega⟩) ?_)
    rw [hlb] at hcl1
    exact Z15
   ·rw [RS h0,Bool.false_or] at hcl1 ⊢
    simp only [go_sem,byq,d0,s3,s4,hne,hneq,n1,n2,hcs,hcm,hA,hB,eh,hi0,hb0,bx,Bool.false_or] at hcl1 ⊢
    (repeat with_reducible refine And.intro (by first|assumption|decide|omega|exact ⟨by omega,by omega⟩) ?_)
    rw [hlb] at hcl1
    exact Z15
 ·simp only [go_sem,byq,hne,hneq,n1,n2,hcs,hcm,hA,hB,eh,hi0,hb0,bx,Bool.true_or] at hcl1 ⊢
  (repeat with_reducible refine And.intro (by first|assumption|decide|omega|exact ⟨by omega,by omega⟩) ?_)
  rw [hlb] at hcl1
  exact Z15
def dB:Nat:=100000000000000
theorem bL:dB=100000000000000:=rfl
theorem aQ {x y:Enc} (h:(x.add y).b.length≤dB):x.b.length≤dB:=by rw [dy] at h;omega
theorem SOn.same {H:AHeap} {id q:Nat} {s:Enc} (h:SOn H id q s):swH H id q s=H:=by
 have h1:=fp h.bu
 unfold swH
 rw [h1]
 exact fp h.o
def vD:ECt
 |[.ptr id 0,.bool x],H,K=>∃ q s,(SOn H id q s∧(s.add (ja x)).b.length≤dB)∧K (.ret (.tup [])) (swH H id q (s.add (ja x)))
 |_,_,_=>False
theorem xS:EEe 227 vD:=by
 refine Yef fun _ H K h=>?_
 unfold vD at h
 split at h<;>try exact h.elim
 rename_i id x
 obtain ⟨q,s,⟨hW,hl⟩,hK⟩:=h
 refine ⟨_,_,hK,?_⟩
 clear hK
 have hcl0:=hW.closed (t:=s.add (ja x))
 rw [bL] at hl
 obtain ⟨b,sl,sf,sa⟩:=s
 simp only [Enc.add,ja,Bool.or_false,lAq,List.length_singleton] at hcl0 hl ⊢
 have hid:=glq hW.o
 have hq:=glq hW.bu
 have hne:=cN hid
 have hneq:=cN hq
 have n1:(id=q)=False:=eq_false hW.ne
 have n2:(q=id)=False:=eq_false fun e=>hW.ne e.symm
 have hcs:=aM hW.o
 have hb0:=hW.bu
 have hi0:=hW.o
 have hnn:=hW.ne
 dsimp only at hcs hb0 hi0
 refine Yfw aC (tCq wD tNq) Tryz.func227 [] (by unfold swH;simp only [zlf];omega) (T:=aA [(0,[[],[],[],[],[],[],[],[4,6],[],[],[4,6]])]) (h:=fun hcl=>?_)
 have hcl1:=hcl0 hcl
 have hcm:=fun cs=>@bM H id cs hid
 have hA:∀ X Y,aW ((H.set id (.cells X)).set q Y) id=some X:=fun X Y=>by
  exact Y84
 have hA0:∀ Y,aW (H.set q Y) id=aW H id:=fun Y=>by
  exact Y81
 have hB:∀ X,(H.set id X).get q=some (.buf 1 b.length):=fun X=>by rw [AHeap.get_set_ne _ _ (fun e=>hnn e.symm)];exact hb0
 have eh:∀ X Y Z,((H.set id X).set q Y).set id Z=(H.set q Y).set id Z:=fun X Y Z=>by
  exact Y69
 unfold swH at hcl1 ⊢
 dsimp only at hcl1 ⊢
 simp only [go_sem,byq,hne,hneq,n1,n2,hcs,hcm,hA,hA0,hB,eh,hi0,hb0,oD] at hcl1 ⊢
 (repeat with_reducible refine And.intro (by first|assumption|decide|omega|exact ⟨by omega,by omega⟩) ?_)
 exact Y121
def vq:ECt
 |[.ptr id 0,.agg [.int .u64 hi,.int .u64 lo]],H,K=>∃ q s v,(SOn H id q s∧v<2^128∧hi=((v/2^64:Nat):Int)∧lo=((v % 2^64:Nat):Int)∧(s.add (jY v)).b.length≤dB)∧K (.ret (.tup [])) (swH H id q (s.add (jY v)))
 |_,_,_=>False
theorem yl:EEe 303 vq:=by
 refine Yef fun _ H K h=>?_
 unfold vq at h
 split at h<;>try exact h.elim
 rename_i id hi lo
 obtain ⟨q,s,v,⟨hW,hv,rfl,rfl,hl⟩,hK⟩:=h
 refine ⟨_,_,hK,?_⟩
 clear hK
 have iv:=Dd hv
 have hcl0:=hW.closed (t:=s.add (jY v))
 rw [bL] at hl
 obtain ⟨b,sl,sf,sa⟩:=s
 simp only [Enc.add,jY,Bool.or_false,lAq,List.length_singleton] at hcl0 hl ⊢
 have hid:=glq hW.o
 have hq:=glq hW.bu
 have hne:=cN hid
 have hneq:=cN hq
 have n1:(id=q)=False:=eq_false hW.ne
 have n2:(q=id)=False:=eq_false fun e=>hW.ne e.symm
 have hcs:=aM hW.o
 have hb0:=hW.bu
 have hi0:=hW.o
 have hnn:=hW.ne
 dsimp only at hcs hb0 hi0
 refine Yfw aC (tCq vH tNq) Tryz.func303 [] (by unfold swH;simp only [zlf];omega) (T:=aA [(1,[[],[],[],[],[],[],[5],[4,5,6],[],[],[4,5,6]])]) (h:=fun hcl=>?_)
 have hcl1:=hcl0 hcl
 have hcm:=fun cs=>@bM H id cs hid
 have hA:∀ X Y,aW ((H.set id (.cells X)).set q Y) id=some X:=fun X Y=>by
  exact Y84
 have hA0:∀ Y,aW (H.set q Y) id=aW H id:=fun Y=>by
  exact Y81
 have hB:∀ X,(H.set id X).get q=some (.buf 1 b.length):=fun X=>by rw [AHeap.get_set_ne _ _ (fun e=>hnn e.symm)];exact hb0
 have eh:∀ X Y Z,((H.set id X).set q Y).set id Z=(H.set q Y).set id Z:=fun X Y Z=>by
  exact Y69
 unfold swH at hcl1 ⊢
 dsimp only at hcl1 ⊢
 simp only [go_sem,byq,hne,hneq,n1,n2,hcs,hcm,hA,hA0,hB,eh,hi0,hb0,nm,iv,iNq,jV] at hcl1 ⊢
 (repeat with_reducible refine And.intro (by first|assumption|decide|omega|exact ⟨by omega,by omega⟩) ?_)
 exact Y121
def v7:ECt
 |[.ptr id 0,.str x,.int .i64 most],H,K=>∃ q s,(SOn H id q s∧x.length≤dB∧(s.add (ir x most)).b.length≤dB)∧K (.ret (.tup [])) (swH H id q (s.add (ir x most)))
 |_,_,_=>False
theorem qv {α:Type} {p:α→Bool} {l:List α} {k:Nat} (h:k<l.length):(l.take (k+1)).any p=((l.take k).any p||p l[k]):=by
 rw [List.take_succ_eq_append_getElem h,List.any_append,List.any_cons,List.any_nil,Bool.or_false]
def swC (q:Nat) (b:List UInt8) (l f a:Bool):List AV:=[.slice (.own q) 1 (bys b),.bool l,.bool f,.bool a]
theorem ou:EEe 192 v7:=by
 refine Yef fun _ H K h=>?_
 unfold v7 at h
 split at h<;>try exact h.elim
 rename_i id x most
 obtain ⟨q,s,⟨hW,hx,hl⟩,hK⟩:=h
 refine ⟨_,_,hK,?_⟩
 clear hK
 have hcl0:=fun t=>hW.closed (t:=t)
 rw [bL] at hl hx
 obtain ⟨b,sl,sf,sa⟩:=s
 simp only [Enc.add,ir,Bool.or_false,lAq] at hl ⊢
 have hid:=glq hW.o
 have hq:=glq hW.bu
 have hne:=cN hid
 have hneq:=cN hq
 have n1:(id=q)=False:=eq_false hW.ne
 have n2:(q=id)=False:=eq_false fun e=>hW.ne e.symm
 have hcs:=aM hW.o
 have hb0:=hW.bu
 have hi0:=hW.o
 have hnn:=hW.ne
 dsimp only at hcs hb0 hi0
 refine Yfw aC (tCq ww tNq) Tryz.func192 [] (by unfold swH;simp only [zlf];omega) (T:=aA [(6,[[],[],[],[],[],[],[],[4,6],[],[],[4,6]])]) (h:=fun hcl=>?_)
 have hcl1:=fun t=>hcl0 t hcl
 have hcm:=fun cs=>@bM H id cs hid
 have hgm:=fun o=>@wH H id o hid
 have hA:∀ X Y,aW ((H.set id (.cells X)).set q Y) id=some X:=fun X Y=>by
  exact Y84
 have hB:∀ X,(H.set id X).get q=some (.buf 1 b.length):=fun X=>by rw [AHeap.get_set_ne _ _ (fun e=>hnn e.symm)];exact hb0
 have eh:∀ X Y Z,((H.set id X).set q Y).set id Z=(H.set q Y).set id Z:=fun X Y Z=>by
  exact Y69
 have hclk:∀ L F,(H.set id (.cells (swC q b L F sa))).Closed:=fun L F=>by
  have:=hcl1 ⟨b,L,F,sa⟩
  unfold swH at this
  dsimp only at this
  rw [fp hb0] at this
  exact this
 have hend:=hcl1 ⟨b++jM x,sl||decide ((x.length:Int) > most),sf||x.any lQ,sa⟩
 have e0:(sf||(x.take 0).any lQ)=sf:=by rw [yar,List.any_nil,Bool.or_false]
 have hL2:sl=true→(sl||decide ((x.length:Int) > most))=true:=fun h=>by rw [h,Bool.true_or]
 have hL3:sl=false→decide ((x.length:Int) > most)=(sl||decide ((x.length:Int) > most)):=fun h=>by rw [h,Bool.false_or]
 generalize (sl||decide ((x.length:Int) > most))=L at *
 cases sl
 ·simp only [go_sem,byq,hne,hneq,n1,n2,hcs,hcm,hA,hB,eh,hi0,hb0,hL3 rfl]
  refine Tq4 ?_
  refine aD (A:=Nat) (fun k=>[(0,.ptr id 0),(1,.str x),(22,.slice .any 1 (bys x)),(23,.int .i64 (x.length:Int)),(24,.int .i64 (k:Int))]) (fun k=>H.set id (.cells (swC q b L (sf||(x.take k).any lQ) sa))) (fun k=>k≤x.length) (fun k=>x.length - k) 0 (by omega) ?_ fun k hk=>?_
  ·rw [e0]
   refine eNt (hclk _ _) ?_ ?_ (a:=by simp only [zkq,zkv,zlf,swH];omega)
   ·exact Y78
   ·exact Y14
  refine Tq15 ?_
  refine ay (fun hc=>?_) (fun hc=>?_)
  ·have hk':k<x.length:=sHc
   have hg:=tS hk'
   have e5:=Yk5 k
   have ht:=qv (p:=lQ) hk'
   have hgd:x.getD k 0=x[k]:=by simp [gEq,hk']
   rw [hgd] at hg
   have hT:(sf||(x.take (k+1)).any lQ)=((sf||(x.take k).any lQ)||lQ x[k]):=by rw [ht,Bool.or_assoc]
   generalize (sf||(x.take k).any lQ)=F at *
   generalize x[k]=c at *
   have hfin:∀ F',F'=(F||lQ c)→F'=(sf||(x.take (k+1)).any lQ):=fun F' h=>by rw [h,hT]
   cases F
   ·by_cases hc1:(c.toNat:Int)<32
    ·have d1:decide ((c.toNat:Int)<32)=true:=dtq hc1
     refine Tq28 ?_
     (repeat with_reducible refine And.intro (by first|assumption|decide|omega|simp) ?_)
     refine ⟨k+1,by omega,by omega,by simp only [zkq,zkv,zlf,swH];omega,?_,hclk _ _,?_,?_⟩
     ·exact Y146
     ·exact Y78
     ·exact Y14
    ·have d1:decide ((c.toNat:Int)<32)=false:=dfq hc1
     refine Tq28 ?_
     (repeat with_reducible refine And.intro (by first|assumption|decide|omega|simp) ?_)
     refine ⟨k+1,by omega,by omega,by simp only [zkq,zkv,zlf,swH];omega,?_,hclk _ _,?_,?_⟩
     ·exact Y134
     ·exact Y78
     ·exact Y14
   ·simp only [go_sem,byq,swC,hne,hneq,n1,n2,hcs,hcm,hA,hB,eh,hi0,hb0,iNq,zlk,hg,bJ,e5]
    (repeat with_reducible refine And.intro (by first|assumption|decide|omega|simp) ?_)
    refine ⟨k+1,by omega,by omega,by simp only [zkq,zkv,zlf,swH];omega,?_,hclk _ _,?_,?_⟩
    ·exact Y152
    ·exact Y78
    ·exact Y14
  ·exact Y46
 ·obtain rfl:L=true:=hL2 rfl
  simp only [go_sem,byq,hne,hneq,n1,n2,hcs,hcm,hA,hB,eh,hi0,hb0]
  refine Tq4 ?_
  refine aD (A:=Nat) (fun k=>[(0,.ptr id 0),(1,.str x),(22,.slice .any 1 (bys x)),(23,.int .i64 (x.length:Int)),(24,.int .i64 (k:Int))]) (fun k=>H.set id (.cells (swC q b true (sf||(x.take k).any lQ) sa))) (fun k=>k≤x.length) (fun k=>x.length - k) 0 (by omega) ?_ fun k hk=>?_
  ·rw [e0]
   refine eNt (hclk _ _) ?_ ?_ (a:=by simp only [zkq,zkv,zlf,swH];omega)
   ·exact Y78
   ·exact Y14
  refine Tq15 ?_
  refine ay (fun hc=>?_) (fun hc=>?_)
  ·have hk':k<x.length:=sHc
   have hg:=tS hk'
   have e5:=Yk5 k
   have ht:=qv (p:=lQ) hk'
   have hgd:x.getD k 0=x[k]:=by simp [gEq,hk']
   rw [hgd] at hg
   have hT:(sf||(x.take (k+1)).any lQ)=((sf||(x.take k).any lQ)||lQ x[k]):=by rw [ht,Bool.or_assoc]
   generalize (sf||(x.take k).any lQ)=F at *
   generalize x[k]=c at *
   have hfin:∀ F',F'=(F||lQ c)→F'=(sf||(x.take (k+1)).any lQ):=fun F' h=>by rw [h,hT]
   cases F
   ·by_cases hc1:(c.toNat:Int)<32
    ·have d1:decide ((c.toNat:Int)<32)=true:=dtq hc1
     refine Tq28 ?_
     (repeat with_reducible refine And.intro (by first|assumption|decide|omega|simp) ?_)
     refine ⟨k+1,by omega,by omega,by simp only [zkq,zkv,zlf,swH];omega,?_,hclk _ _,?_,?_⟩
     ·exact Y146
     ·exact Y78
     ·exact Y14
    ·have d1:decide ((c.toNat:Int)<32)=false:=dfq hc1
     refine Tq28 ?_
     (repeat with_reducible refine And.intro (by first|assumption|decide|omega|simp) ?_)
     refine ⟨k+1,by omega,by omega,by simp only [zkq,zkv,zlf,swH];omega,?_,hclk _ _,?_,?_⟩
     ·exact Y134
     ·exact Y78
     ·exact Y14
   ·simp only [go_sem,byq,swC,hne,hneq,n1,n2,hcs,hcm,hA,hB,eh,hi0,hb0,iNq,zlk,hg,bJ,e5]
    (repeat with_reducible refine And.intro (by first|assumption|decide|omega|simp) ?_)
    refine ⟨k+1,by omega,by omega,by simp only [zkq,zkv,zlf,swH];omega,?_,hclk _ _,?_,?_⟩
    ·exact Y152
    ·exact Y78
    ·exact Y14
  ·exact Y46
def jU (n:Int):Enc:=cf n 2
def gG (x:SField):Enc:=(cf x.id 2).add ((ir x.name 24).add (cf x.bits 1))
def fX (x:SHeader):Enc:=(cf x.id 2).add ((ir x.name 24).add (bp jU 32 x.fields))
def mv (x:SCase):Enc:=(jY x.value).add ((jY x.mask).add (cf x.next 2))
def iW (x:SState):Enc:=(cf x.id 2).add ((cf x.header 2).add ((cf x.select 2).add ((bp mv 6 x.cases).add (cf x.dflt 2))))
def jr (x:SParam):Enc:=(ir x.name 24).add (cf x.bits 1)
def mJ (x:SPrim):Enc:=(cf x.op 1).add ((cf x.dst 2).add ((cf x.kind 1).add ((cf x.n 2).add (jY x.value))))
def eM (x:SAction):Enc:=(cf x.id 2).add ((ir x.name 24).add ((bp jr 4 x.params).add ((bp mJ 12 x.body).add (ir x.restr 400))))
def pI (x:SKey):Enc:=(ir x.name 24).add ((cf x.field 2).add (cf x.kind 1))
def gH (x:STable):Enc:=(cf x.id 2).add ((ir x.name 24).add ((bp pI 4 x.keys).add ((bp jU 12 x.actions).add ((cf x.dflt 2).add ((bp jY 4 x.dargs).add ((cf x.size 2).add (ir x.restr 400)))))))
def iy (x:SStage):Enc:=(cf x.table 2).add (cf x.header 2)
def jA (x:SGrant):Enc:=(cf x.table 2).add ((ja x.read).add ((ja x.write).add (bp ja 4 x.keys)))
def ky (x:SRole):Enc:=(cf x.id 2).add ((ir x.name 24).add ((bp jA 8 x.grants).add ((bp jU 12 x.actions).add ((cf x.quota 2).add (ja x.audit)))))
def qG (x:SRef):Enc:=(cf x.table 2).add ((cf x.key 1).add ((cf x.action 2).add ((cf x.param 1).add ((cf x.toTable 2).add (cf x.toKey 1)))))
def fI (x:Sch):Enc:=(bp gG 32 x.fields).add ((bp fX 8 x.headers).add (bp iW 12 x.states))
def jf (x:Sch):Enc:=(cf x.maxBatch 2).add ((cf x.budget 2).add ((fI x).add ((bp eM 12 x.actions).add ((bp gH 8 x.tables).add ((bp iy 12 x.stages).add ((bp ky 6 x.roles).add (bp qG 8 x.refs)))))))
def oR (s:List UInt8):Prop:=s.length≤dB
def rN {α:Type} (_:α):Prop:=True
def nM (v:Nat):Prop:=v<2^128
def yE (x:SField):Prop:=oR x.name
def u0 (x:SHeader):Prop:=oR x.name
def pn (x:SCase):Prop:=nM x.value∧nM x.mask
def nZ (x:SState):Prop:=∀ c∈x.cases,pn c
def xR (x:SParam):Prop:=oR x.name
def qP (x:SPrim):Prop:=nM x.value
def nN (x:SAction):Prop:=oR x.name∧(∀ p∈x.params,xR p)∧(∀ p∈x.body,qP p)∧oR x.restr
def J9 (x:SKey):Prop:=oR x.name
def pM (x:STable):Prop:=oR x.name∧(∀ k∈x.keys,J9 k)∧(∀ v∈x.dargs,nM v)∧oR x.restr
def y0 (x:SRole):Prop:=oR x.name
structure OkSch (x:Sch):Prop where
 f:∀ a∈x.fields,yE a
 h:∀ a∈x.headers,u0 a
 s:∀ a∈x.states,nZ a
 a:∀ a∈x.actions,nN a
 t:∀ a∈x.tables,pM a
 r:∀ a∈x.roles,y0 a
theorem kT {n w:Int} (h:w=1∨w=2):1≤(cf n w).b.length:=by
 rcases h with rfl|rfl<;>simp [cf,iQ,oz]
theorem DU {s:List UInt8} {m:Int}:1≤(ir s m).b.length:=by
 unfold ir jM
 rw [lAq,oz];omega
theorem D7 {v:Nat}:1≤(jY v).b.length:=by simp [jY,kJ]
theorem Oa {x:Bool}:1≤(ja x).b.length:=by simp [ja]
theorem jE {x y:Enc} (h:1≤x.b.length):1≤(x.add y).b.length:=by rw [dy];omega
theorem zc {α:Type} {g:α→Enc} (h:∀ x,1≤(g x).b.length):∀ l:List α,l.length≤(b7 g l).b.length
 |[]=>Nat.zero_le _
 |x::l=>by
  rw [b7,dy,yaz]
  have:=h x
  have:=zc h l
  omega
theorem zh (n:Int):1≤(jU n).b.length:=kT (.inr rfl)
theorem xt (x:SField):1≤(gG x).b.length:=jE (kT (.inr rfl))
theorem vZ (x:SHeader):1≤(fX x).b.length:=jE (kT (.inr rfl))
theorem zM (x:SCase):1≤(mv x).b.length:=jE D7
theorem wU (x:SState):1≤(iW x).b.length:=jE (kT (.inr rfl))
theorem xz (x:SParam):1≤(jr x).b.length:=jE DU
theorem zW (x:SPrim):1≤(mJ x).b.length:=jE (kT (.inl rfl))
theorem vL (x:SAction):1≤(eM x).b.length:=jE (kT (.inr rfl))
theorem C8 (x:SKey):1≤(pI x).b.length:=jE DU
theorem wZ (x:STable):1≤(gH x).b.length:=jE (kT (.inr rfl))
theorem xe (x:SStage):1≤(iy x).b.length:=jE (kT (.inr rfl))
theorem w7 (x:SGrant):1≤(jA x).b.length:=jE (kT (.inr rfl))
theorem zO (x:SRole):1≤(ky x).b.length:=jE (kT (.inr rfl))
theorem CQ (x:SRef):1≤(qG x).b.length:=jE (kT (.inr rfl))
theorem zd (v:Nat):1≤(jY v).b.length:=D7
theorem AO (x:Bool):1≤(ja x).b.length:=Oa
def eW {α:Type} (c:α→AV) (ok:α→Prop) (g:α→Enc):ECt
 |[.ptr id 0,x],H,K=>∃ q s a,(SOn H id q s∧x=c a∧ok a∧(s.add (g a)).b.length≤dB)∧K (.ret (.tup [])) (swH H id q (s.add (g a)))
 |_,_,_=>False
def mH {α:Type} (f sz:Nat) (c:α→AV) (ok:α→Prop) (g:α→Enc):ECt
 |[.ptr id 0,.agg [.int .i64 most,.func (.func f') [] [],.func (.func r) [] []],.slice .any sz' xs],H,K=>∃ q s l,(SOn H id q s∧f'=f∧sz'=sz∧xs=l.map c∧(∀ a∈l,ok a)∧(s.add (bp g most l)).b.length≤dB) ∧
   K (.ret (.tup [])) (swH H id q (s.add (bp g most l)))
 |_,_,_=>False
theorem cY {id q:Nat} {H:AHeap} {s:Enc} {n w:Int} {K:AEnd→AHeap→Prop} (hw:w=1∨w=2) (h:SOn H id q s) (hl:(s.add (cf n w)).b.length≤dB) (hK:K (.ret (.tup [])) (swH H id q (s.add (cf n w)))) :
 vj [.ptr id 0,.int .i64 n,.int .i64 w] H K:=⟨q,s,⟨h,hw,aQ hl⟩,hK⟩
theorem kY {id q:Nat} {H:AHeap} {s:Enc} {x:List UInt8} {m:Int} {K:AEnd→AHeap→Prop} (hx:oR x) (h:SOn H id q s) (hl:(s.add (ir x m)).b.length≤dB) (hK:K (.ret (.tup [])) (swH H id q (s.add (ir x m)))) :
 v7 [.ptr id 0,.str x,.int .i64 m] H K:=⟨q,s,⟨h,hx,hl⟩,hK⟩
theorem tt {id q:Nat} {H:AHeap} {s:Enc} {x:Bool} {K:AEnd→AHeap→Prop} (h:SOn H id q s) (hl:(s.add (ja x)).b.length≤dB) (hK:K (.ret (.tup [])) (swH H id q (s.add (ja x)))) :
 vD [.ptr id 0,.bool x] H K:=⟨q,s,⟨h,hl⟩,hK⟩
theorem tc {id q:Nat} {H:AHeap} {s:Enc} {v:Nat} {K:AEnd→AHeap→Prop} (hv:nM v) (h:SOn H id q s) (hl:(s.add (jY v)).b.length≤dB) (hK:K (.ret (.tup [])) (swH H id q (s.add (jY v)))) :
 vq [.ptr id 0,.agg [.int .u64 ((v/2^64:Nat):Int),.int .u64 ((v % 2^64:Nat):Int)]] H K:=⟨q,s,v,⟨h,hv,rfl,rfl,hl⟩,hK⟩
theorem oQ {α:Type} {c:α→AV} {ok:α→Prop} {g:α→Enc} {id q:Nat} {H:AHeap} {s:Enc} {a:α} {K:AEnd→AHeap→Prop} (ha:ok a) (h:SOn H id q s) (hl:(s.add (g a)).b.length≤dB) (hK:K (.ret (.tup [])) (swH H id q (s.add (g a)))) :
 eW c ok g [.ptr id 0,c a] H K:=⟨q,s,a,⟨h,rfl,ha,hl⟩,hK⟩
theorem kV {α:Type} {f sz r:Nat} {c:α→AV} {ok:α→Prop} {g:α→Enc} {id q:Nat} {H:AHeap} {s:Enc} {l:List α} {m:Int} {K:AEnd→AHeap→Prop} (ha:∀ a∈l,ok a) (h:SOn H id q s) (hl:(s.add (bp g m l)).b.length≤dB) (hK:K (.ret (.tup [])) (swH H id q (s.add (bp g m l)))) :
 mH f sz c ok g [.ptr id 0,.agg [.int .i64 m,.func (.func f) [] [],.func (.func r) [] []],.slice .any sz (l.map c)] H K:=⟨q,s,l,⟨h,rfl,rfl,rfl,ha,hl⟩,hK⟩
structure WFacts (H:AHeap) (id q:Nat):Prop where
 p0:∀ t x,swH (H.push x) id q t=(swH H id q t).push x
 p1:∀ s t x,swH ((swH H id q s).push x) id q t=(swH H id q t).push x
 p2:∀ s t x y,swH (((swH H id q s).push x).push y) id q t=((swH H id q t).push x).push y
 p3:∀ s t x y z,swH ((((swH H id q s).push x).push y).push z) id q t=(((swH H id q t).push x).push y).push z
 pp:∀ s t,swH (swH H id q s) id q t=swH H id q t
theorem SOn.facts {H:AHeap} {id q:Nat} {s:Enc} (h:SOn H id q s):WFacts H id q:=by
 have h1:=glq h.o
 have h2:=glq h.bu
 refine ⟨fun t x=>mE h1 h2,fun s t x=>?_,fun s t x y=>?_,fun s t x y z=>?_,fun s t=>ub h.ne⟩
 ·rw [mE (by exact h1) (by exact h2),ub h.ne]
 ·rw [mE (by rw [zle];exact Nat.lt_succ_of_lt h1) (by rw [zle];exact Nat.lt_succ_of_lt h2),mE (by exact h1) (by exact h2),ub h.ne]
 ·rw [mE (by rw [zle,zle];exact Nat.lt_succ_of_lt (Nat.lt_succ_of_lt h1)) (by rw [zle,zle];exact Nat.lt_succ_of_lt (Nat.lt_succ_of_lt h2)),
   mE (by rw [zle];exact Nat.lt_succ_of_lt h1) (by rw [zle];exact Nat.lt_succ_of_lt h2),mE (by exact h1) (by exact h2),ub h.ne]
end Go.AL
