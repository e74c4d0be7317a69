/- Lemmas of the proof; no condition. -/
import Derived.Test.YtjffcopmhkcejaaGreatCL
import Derived.Test.YtjffcopmhkcejaaGreatS10i
set_option linter.all false
set_option maxRecDepth 10000
set_option maxHeartbeats 32000000
open Go Go.AL Go.Proofs
namespace Go.AL
theorem Qx:ti Tryz.prog 111=some ⟨.struct [(0,22,false),(1,4,false),(2,4,false),(3,4,false)],4,32,.agg [.slice .nil 1 [],.bool false,.bool false,.bool false]⟩:=krf
theorem KR:ti Tryz.prog 114=some ⟨.ptr 111,1,8,.nilp⟩:=krf
attribute [go_sem] Qx KR
def rg(n w:Int):Bool:=decide (0≤n∧n<256^w.toNat)
theorem D1{x:Nat}(h:x<2^128):isV ((x/2^64:Nat):Int) ((x%2^64:Nat):Int)=True:=eq_true (by unfold isV;omega)
def cN{α:Type}{f:α→AV}{l:List α}{k:Nat}{x:α}(hx:l[k]?=some x):(l.map f).getD k .junk=f x:=by
 simp[gEq,hx]
structure Enc where
 b:By
 l:Bool
 f:Bool
 a:Bool
def Enc.add(x y:Enc):Enc:=⟨x.b++y.b,x.l||y.l,x.f||y.f,x.a||y.a⟩
def enc0:Enc:=⟨[],false,false,false⟩
def aI(x y z:Enc):(x.add y).add z=x.add (y.add z):=by simp[Enc.add,List.append_assoc,Bool.or_assoc]
def di(x:Enc):x.add enc0=x:=by simp[Enc.add,enc0]
def vF(x:Enc):enc0.add x=x:=by simp[Enc.add,enc0]
def bm(x y:Enc):(x.add y).b.length=x.b.length+y.b.length:=lAq
def mF(c:UInt8):Bool:=decide ((c.toNat:Int)<32)||decide ((c.toNat:Int)>126)
def b8(n w:Int):Enc:=⟨jl n w,false,false,!rg n w⟩
def iy(s:By)(most:Int):Enc:=⟨jT s,decide ((s.length:Int)>most),s.any mF,false⟩
def ko(v:Nat):Enc:=⟨lk v,false,false,false⟩
def jf(x:Bool):Enc:=⟨[if x then 1 else 0],false,false,false⟩
def dy(n:Nat)(most:Int):Enc:=⟨jl (n:Int) 2,decide ((n:Int)>most),false,false⟩
def bX{α:Type}(g:α→Enc):List α→Enc
 |[]=>enc0
 |x::l=>(g x).add (bX g l)
theorem wS{α:Type}(g:α→Enc):∀ l k:List α,bX g (l++k)=(bX g l).add (bX g k)
 |[],k=>by rw[yak,bX,vF]
 |x::l,k=>by rw[yal,bX,bX,wS g l k,aI]
def Fx{α:Type}(g:α→Enc)(l:List α)(x:α):bX g (l++[x])=(bX g l).add (g x):=by
 rw[wS,bX,bX,di]
def EZ{α:Type}(g:α→Enc)(l:List α)(k:Nat):(bX g (l.take k)).b.length≤(bX g l).b.length:=by
 have h:=wS g (l.take k) (l.drop k)
 rw[List.take_append_drop]at h
 rw[h,bm];omega
def bn{α:Type}(g:α→Enc)(most:Int)(l:List α):Enc:=(dy l.length most).add (bX g l)
structure SOn(H:AHeap)(id q:Nat)(s:Enc):Prop where
 o:H.get id=some (.cells [.slice (.own q) 1 (bys s.b),.bool s.l,.bool s.f,.bool s.a])
 bu:H.get q=some (.buf 1 s.b.length)
def swH(H:AHeap)(id q:Nat)(s:Enc):AHeap:=(H.set q (.buf 1 s.b.length)).set id (.cells [.slice (.own q) 1 (bys s.b),.bool s.l,.bool s.f,.bool s.a])
theorem SOn.ne{H:AHeap}{id q:Nat}{s:Enc}(h:SOn H id q s):id≠q:=fun e=>by
 have h1:=h.o
 rw[e,h.bu]at h1;cases h1
theorem SOn.closed{H:AHeap}{id q:Nat}{s:Enc}(h:SOn H id q s)(hc:H.Closed)(t:Enc):(swH H id q t).Closed:=by
 refine bA (bf hc) ?_
 have hq:=glq h.bu
 simp only[zns,znt,and_true,zld,zmq,zne]
 intro i e;cases e;exact hq
theorem SOn.next{H:AHeap}{id q:Nat}{s:Enc}(h:SOn H id q s)(t:Enc):SOn (swH H id q t) id q t:=by
 have h1:=glq h.o
 have h2:=glq h.bu
 unfold swH
 refine⟨?_,?_⟩
 ·rw[AHeap.get_set_same _ _ (by rw[zld];exact h1)]
 ·rw[AHeap.get_set_ne _ _ (fun e=>h.ne e.symm),AHeap.get_set_same _ _ h2]
def uR{H:AHeap}{id q:Nat}{s t:Enc}(h:id≠q):swH (swH H id q s) id q t=swH H id q t:=by
 unfold swH AHeap.set
 dsimp only
 congr 1
 funext j
 by_cases h1:j=id
 ·simp[h1]
 ·by_cases h2:j=q<;>simp[h1,h2]
theorem ak{H:AHeap}{id q:Nat}{s:Enc}:(swH H id q s).nx=H.nx:=rfl
theorem SOn.push{H:AHeap}{id q:Nat}{s:Enc}(h:SOn H id q s)(x:AObj):SOn (H.push x) id q s :=
 ⟨by rw[gPq _ _ (glq h.o)];exact h.o,by rw[gPq _ _ (glq h.bu)];exact h.bu⟩
def nt{H:AHeap}{id q:Nat}{s:Enc}{x:AObj}(h1:id<H.nx)(h2:q<H.nx):swH (H.push x) id q s=(swH H id q s).push x:=by
 unfold swH AHeap.set AHeap.push
 dsimp only
 congr 1
 funext j
 by_cases e1:j=id
 ·have:id≠H.nx:=Xa
  simp[e1,this]
 ·by_cases e2:j=q
  ·have:q≠H.nx:=Xa
   simp[e1,e2,this]
  ·simp[e1,e2]
def xQ{H:AHeap}{id q j:Nat}{s:Enc}(h1:j≠id)(h2:j≠q):a8 (swH H id q s) j=a8 H j:=by
 unfold a8 swH
 rw[AHeap.get_set_ne _ _ h1,AHeap.get_set_ne _ _ h2]
def vJ:ECt
 |[.ptr id 0,.int .i64 n,.int .i64 w],H,K=>∃ q s,(SOn H id q s∧(w=1∨w=2)∧s.b.length≤100000000000000)∧K (.ret (.tup [])) (swH H id q (s.add (b8 n w)))
 |_,_,_=>False
def G8{n w:Int}(h:n<0):rg n w=false:=dfq fun h'=>Xa
def TJ{n:Int}(h:¬ n<0):(!rg n 1)=decide (n ≥ 256):=by
 unfold rg
 by_cases h':n<256
 ·exact Y148
 ·rw[dfq (fun x=>h' x.2),dtq (Xa)];rfl
def TF{n:Int}(h:¬ n<0):(!rg n 2)=decide (n ≥ 65536):=by
 unfold rg
 by_cases h':n<65536
 ·exact Y148
 ·rw[dfq (fun x=>h' x.2),dtq (Xa)];rfl
def jv:EEe 47 vJ:=by
 refine Yef fun _ H K h=>?_
 unfold vJ at h
 split at h<;>try exact h.elim
 rename_i id n w
 obtain⟨q,s,⟨hW,hw,hl⟩,hK⟩:=h
 refine⟨_,_,hK,?_⟩
 clear hK
 have hcl0:=hW.closed (t:=s.add (b8 n w))
 obtain⟨b,sl,sf,sa⟩:=s
 simp only[Enc.add,b8,Bool.or_false]at hcl0 ⊢
 have l1:=fm n w
 dsimp only at hl
 have hid:=glq hW.o
 have hq:=glq hW.bu
 have hne:=cS hid
 have hneq:=cS hq
 have n1:(id=q)=False:=eq_false hW.ne
 have n2:(q=id)=False:=eq_false fun e=>hW.ne e.symm
 have hcs:=aB hW.o
 have hb0:=hW.bu
 have hi0:=hW.o
 have hnn:=hW.ne
 dsimp only at hcs hb0 hi0
 refine Yfw aD (tCq dr tNq) Tryz.func47 [] (by unfold swH;simp only[zld];omega) (T:=aC [(1,[[],[],[],[],[],[],[],[],[4,7],[],[],[4,7]])]) (h:=fun hcl=>?_)
 have hcl1:=hcl0 hcl
 have hcm:=fun cs=>@bG H id cs hid
 have hA:∀ X Y,a8 ((H.set id (.cells X)).set q Y) id=some X:=fun X Y=>by
  exact Y86
 have hB:∀ X,(H.set id X).get q=some (.buf 1 b.length):=fun X=>by rw[AHeap.get_set_ne _ _ (fun e=>hnn e.symm)];exact hb0
 have eh:∀ X Y Z,((H.set id X).set q Y).set id Z=(H.set q Y).set id Z:=fun X Y Z=>by
  exact Y72
 unfold swH at hcl1 ⊢
 dsimp only at hcl1 ⊢
 have hlb:(b++jl n w).length=b.length+(jl n w).length:=lAq
 have s1:IntKind.u64.wrap (IntKind.i64.wrap 8)=8:=Xb
 have s2:uc .i64 1 8=256:=Xb
 have s3:IntKind.u64.wrap (IntKind.i64.wrap 16)=16:=Xb
 have s4:uc .i64 1 16=65536:=Xb
 cases sa
 ·by_cases h0:n<0
  ·have d0:decide (n<0)=true:=dtq h0
   rw[G8 h0,Bool.not_false,Bool.or_true]at hcl1 ⊢
   simp only[go_sem,byq,d0,hne,hneq,n1,n2,hcs,hcm,hA,hB,eh,hi0,hb0,bv,Bool.false_or]at hcl1 ⊢
   (repeat with_reducible refine And.intro (by first|assumption|decide|omega|exact⟨by omega,Xa⟩) ?_)
   rw[hlb]at hcl1
   exact Z15
  ·have d0:decide (n<0)=false:=dfq h0
   rcases hw with rfl|rfl
   ·rw[TJ h0,Bool.false_or]at hcl1 ⊢
    simp only[go_sem,byq,d0,s1,s2,hne,hneq,n1,n2,hcs,hcm,hA,hB,eh,hi0,hb0,bv,Bool.false_or]at hcl1 ⊢
    (repeat with_reducible refine And.intro (by first|assumption|decide|omega|exact⟨by omega,Xa⟩) ?_)
    rw[hlb]at hcl1
    exact Z15
   ·rw[TF h0,Bool.false_or]at hcl1 ⊢
    simp only[go_sem,byq,d0,s3,s4,hne,hneq,n1,n2,hcs,hcm,hA,hB,eh,hi0,hb0,bv,Bool.false_or]at hcl1 ⊢
    (repeat with_reducible refine And.intro (by first|assumption|decide|omega|exact⟨by omega,Xa⟩) ?_)
    rw[hlb]at hcl1
    exact Z15
 ·simp only[go_sem,byq,hne,hneq,n1,n2,hcs,hcm,hA,hB,eh,hi0,hb0,bv,Bool.true_or]at hcl1 ⊢
  (repeat with_reducible refine And.intro (by first|assumption|decide|omega|exact⟨by omega,Xa⟩) ?_)
  rw[hlb]at hcl1
  exact Z15
def dX:Nat:=100000000000000
theorem bF:dX=100000000000000:=rfl
def aT{x y:Enc}(h:(x.add y).b.length≤dX):x.b.length≤dX:=by rw[bm]at h;omega
theorem SOn.same{H:AHeap}{id q:Nat}{s:Enc}(h:SOn H id q s):swH H id q s=H:=by
 have h1:=fN h.bu
 unfold swH
 rw[h1]
 exact fN h.o
def xa:ECt
 |[.ptr id 0,.bool x],H,K=>∃ q s,(SOn H id q s∧(s.add (jf x)).b.length≤dX)∧K (.ret (.tup [])) (swH H id q (s.add (jf x)))
 |_,_,_=>False
def z6:EEe 216 xa:=by
 refine Yef fun _ H K h=>?_
 unfold xa at h
 split at h<;>try exact h.elim
 rename_i id x
 obtain⟨q,s,⟨hW,hl⟩,hK⟩:=h
 refine⟨_,_,hK,?_⟩
 clear hK
 have hcl0:=hW.closed (t:=s.add (jf x))
 rw[bF]at hl
 obtain⟨b,sl,sf,sa⟩:=s
 simp only[Enc.add,jf,Bool.or_false,lAq,List.length_singleton]at hcl0 hl ⊢
 have hid:=glq hW.o
 have hq:=glq hW.bu
 have hne:=cS hid
 have hneq:=cS hq
 have n1:(id=q)=False:=eq_false hW.ne
 have n2:(q=id)=False:=eq_false fun e=>hW.ne e.symm
 have hcs:=aB hW.o
 have hb0:=hW.bu
 have hi0:=hW.o
 have hnn:=hW.ne
 dsimp only at hcs hb0 hi0
 refine Yfw aD (tCq xu tNq) Tryz.func216 [] (by unfold swH;simp only[zld];omega) (T:=aC [(0,[[],[],[],[],[],[],[],[4,6],[],[],[4,6]])]) (h:=fun hcl=>?_)
 have hcl1:=hcl0 hcl
 have hcm:=fun cs=>@bG H id cs hid
 have hA:∀ X Y,a8 ((H.set id (.cells X)).set q Y) id=some X:=fun X Y=>by
  exact Y86
 have hA0:∀ Y,a8 (H.set q Y) id=a8 H id:=fun Y=>by
  exact Y84
 have hB:∀ X,(H.set id X).get q=some (.buf 1 b.length):=fun X=>by rw[AHeap.get_set_ne _ _ (fun e=>hnn e.symm)];exact hb0
 have eh:∀ X Y Z,((H.set id X).set q Y).set id Z=(H.set q Y).set id Z:=fun X Y Z=>by
  exact Y72
 unfold swH at hcl1 ⊢
 dsimp only at hcl1 ⊢
 simp only[go_sem,byq,hne,hneq,n1,n2,hcs,hcm,hA,hA0,hB,eh,hi0,hb0,pu]at hcl1 ⊢
 (repeat with_reducible refine And.intro (by first|assumption|decide|omega|exact⟨by omega,Xa⟩) ?_)
 exact Y123
def xc:ECt
 |[.ptr id 0,.agg [.int .u64 hi,.int .u64 lo]],H,K=>∃ q s v,(SOn H id q s∧v<2^128∧hi=((v/2^64:Nat):Int)∧lo=((v%2^64:Nat):Int)∧(s.add (ko v)).b.length≤dX)∧K (.ret (.tup [])) (swH H id q (s.add (ko v)))
 |_,_,_=>False
def zW:EEe 294 xc:=by
 refine Yef fun _ H K h=>?_
 unfold xc at h
 split at h<;>try exact h.elim
 rename_i id hi lo
 obtain⟨q,s,v,⟨hW,hv,rfl,rfl,hl⟩,hK⟩:=h
 refine⟨_,_,hK,?_⟩
 clear hK
 have iv:=D1 hv
 have hcl0:=hW.closed (t:=s.add (ko v))
 rw[bF]at hl
 obtain⟨b,sl,sf,sa⟩:=s
 simp only[Enc.add,ko,Bool.or_false,lAq,List.length_singleton]at hcl0 hl ⊢
 have hid:=glq hW.o
 have hq:=glq hW.bu
 have hne:=cS hid
 have hneq:=cS hq
 have n1:(id=q)=False:=eq_false hW.ne
 have n2:(q=id)=False:=eq_false fun e=>hW.ne e.symm
 have hcs:=aB hW.o
 have hb0:=hW.bu
 have hi0:=hW.o
 have hnn:=hW.ne
 dsimp only at hcs hb0 hi0
 refine Yfw aD (tCq wE tNq) Tryz.func294 [] (by unfold swH;simp only[zld];omega) (T:=aC [(1,[[],[],[],[],[],[],[5],[4,5,6],[],[],[4,5,6]])]) (h:=fun hcl=>?_)
 have hcl1:=hcl0 hcl
 have hcm:=fun cs=>@bG H id cs hid
 have hA:∀ X Y,a8 ((H.set id (.cells X)).set q Y) id=some X:=fun X Y=>by
  exact Y86
 have hA0:∀ Y,a8 (H.set q Y) id=a8 H id:=fun Y=>by
  exact Y84
 have hB:∀ X,(H.set id X).get q=some (.buf 1 b.length):=fun X=>by rw[AHeap.get_set_ne _ _ (fun e=>hnn e.symm)];exact hb0
 have eh:∀ X Y Z,((H.set id X).set q Y).set id Z=(H.set q Y).set id Z:=fun X Y Z=>by
  exact Y72
 unfold swH at hcl1 ⊢
 dsimp only at hcl1 ⊢
 simp only[go_sem,byq,hne,hneq,n1,n2,hcs,hcm,hA,hA0,hB,eh,hi0,hb0,oy,iv,iNq,kx]at hcl1 ⊢
 (repeat with_reducible refine And.intro (by first|assumption|decide|omega|exact⟨by omega,Xa⟩) ?_)
 exact Y123
def vG:ECt
 |[.ptr id 0,.str x,.int .i64 most],H,K=>∃ q s,(SOn H id q s∧x.length≤dX∧(s.add (iy x most)).b.length≤dX)∧K (.ret (.tup [])) (swH H id q (s.add (iy x most)))
 |_,_,_=>False
def rK{α:Type}{p:α→Bool}{l:List α}{k:Nat}(h:k<l.length):(l.take (k+1)).any p=((l.take k).any p||p l[k]):=by
 rw[List.take_succ_eq_append_getElem h,List.any_append,List.any_cons,List.any_nil,Bool.or_false]
def swC(q:Nat)(b:By)(l f a:Bool):Wz:=[.slice (.own q) 1 (bys b),.bool l,.bool f,.bool a]
def pl:EEe 181 vG:=by
 refine Yef fun _ H K h=>?_
 unfold vG at h
 split at h<;>try exact h.elim
 rename_i id x most
 obtain⟨q,s,⟨hW,hx,hl⟩,hK⟩:=h
 refine⟨_,_,hK,?_⟩
 clear hK
 have hcl0:=fun t=>hW.closed (t:=t)
 rw[bF]at hl hx
 obtain⟨b,sl,sf,sa⟩:=s
 simp only[Enc.add,iy,Bool.or_false,lAq]at hl ⊢
 have hid:=glq hW.o
 have hq:=glq hW.bu
 have hne:=cS hid
 have hneq:=cS hq
 have n1:(id=q)=False:=eq_false hW.ne
 have n2:(q=id)=False:=eq_false fun e=>hW.ne e.symm
 have hcs:=aB hW.o
 have hb0:=hW.bu
 have hi0:=hW.o
 have hnn:=hW.ne
 dsimp only at hcs hb0 hi0
 refine Yfw aD (tCq xm tNq) Tryz.func181 [] (by unfold swH;simp only[zld];omega) (T:=aC [(6,[[],[],[],[],[],[],[],[4,6],[],[],[4,6]])]) (h:=fun hcl=>?_)
 have hcl1:=fun t=>hcl0 t hcl
 have hcm:=fun cs=>@bG H id cs hid
 have hgm:=fun o=>@xq H id o hid
 have hA:∀ X Y,a8 ((H.set id (.cells X)).set q Y) id=some X:=fun X Y=>by
  exact Y86
 have hB:∀ X,(H.set id X).get q=some (.buf 1 b.length):=fun X=>by rw[AHeap.get_set_ne _ _ (fun e=>hnn e.symm)];exact hb0
 have eh:∀ X Y Z,((H.set id X).set q Y).set id Z=(H.set q Y).set id Z:=fun X Y Z=>by
  exact Y72
 have hclk:∀ L F,(H.set id (.cells (swC q b L F sa))).Closed:=fun L F=>by
  have:=hcl1 ⟨b,L,F,sa⟩
  unfold swH at this
  dsimp only at this
  rw[fN hb0]at this
  exact this
 have hend:=hcl1 ⟨b++jT x,sl||decide ((x.length:Int)>most),sf||x.any mF,sa⟩
 have e0:(sf||(x.take 0).any mF)=sf:=by rw[yar,List.any_nil,Bool.or_false]
 have hL2:sl=true→(sl||decide ((x.length:Int)>most))=true:=fun h=>by rw[h,Bool.true_or]
 have hL3:sl=false→decide ((x.length:Int)>most)=(sl||decide ((x.length:Int)>most)):=fun h=>by rw[h,Bool.false_or]
 generalize (sl||decide ((x.length:Int)>most))=L at *
 cases sl
 ·simp only[go_sem,byq,hne,hneq,n1,n2,hcs,hcm,hA,hB,eh,hi0,hb0,hL3 rfl]
  refine Tq8 ?_
  refine aG (A:=Nat) (fun k=>[(0,.ptr id 0),(1,.str x),(22,.slice .any 1 (bys x)),(23,.int .i64 (x.length:Int)),(24,.int .i64 (k:Int))]) (fun k=>H.set id (.cells (swC q b L (sf||(x.take k).any mF) sa))) (fun k=>k≤x.length) (fun k=>x.length-k) 0 Xa ?_ fun k hk=>?_
  ·rw[e0]
   refine eNt (hclk _ _) ?_ ?_ (a:=by simp only[zko,zkt,zld,swH];omega)
   ·exact Y81
   ·exact Y14
  refine Tq20 ?_
  refine ax (fun hc=>?_) (fun hc=>?_)
  ·have hk':k<x.length:=sHc
   have hg:=u5 hk'
   have e5:=Yk5 k
   have ht:=rK (p:=mF) hk'
   have hgd:x.getD k 0=x[k]:=by simp[gEq,hk']
   rw[hgd]at hg
   have hT:(sf||(x.take (k+1)).any mF)=((sf||(x.take k).any mF)||mF x[k]):=by rw[ht,Bool.or_assoc]
   generalize (sf||(x.take k).any mF)=F at *
   generalize x[k]=c at *
   have hfin:∀ F',F'=(F||mF c)→F'=(sf||(x.take (k+1)).any mF):=fun F' h=>by rw[h,hT]
   cases F
   ·by_cases hc1:(c.toNat:Int)<32
    ·have d1:decide ((c.toNat:Int)<32)=true:=dtq hc1
     refine Tq35 ?_
     (repeat with_reducible refine And.intro X4 ?_)
     refine⟨k+1,Xa,Xa,by simp only[zko,zkt,zld,swH];omega,?_,hclk _ _,?_,?_⟩
     ·exact Y147
     ·exact Y81
     ·exact Y14
    ·have d1:decide ((c.toNat:Int)<32)=false:=dfq hc1
     refine Tq35 ?_
     (repeat with_reducible refine And.intro X4 ?_)
     refine⟨k+1,Xa,Xa,by simp only[zko,zkt,zld,swH];omega,?_,hclk _ _,?_,?_⟩
     ·exact Y136
     ·exact Y81
     ·exact Y14
   ·simp only[go_sem,byq,swC,hne,hneq,n1,n2,hcs,hcm,hA,hB,eh,hi0,hb0,iNq,zli,hg,bC,e5]
    (repeat with_reducible refine And.intro X4 ?_)
    refine⟨k+1,Xa,Xa,by simp only[zko,zkt,zld,swH];omega,?_,hclk _ _,?_,?_⟩
    ·exact Y153
    ·exact Y81
    ·exact Y14
  ·exact Y46
 ·obtain rfl:L=true:=hL2 rfl
  simp only[go_sem,byq,hne,hneq,n1,n2,hcs,hcm,hA,hB,eh,hi0,hb0]
  refine Tq8 ?_
  refine aG (A:=Nat) (fun k=>[(0,.ptr id 0),(1,.str x),(22,.slice .any 1 (bys x)),(23,.int .i64 (x.length:Int)),(24,.int .i64 (k:Int))]) (fun k=>H.set id (.cells (swC q b true (sf||(x.take k).any mF) sa))) (fun k=>k≤x.length) (fun k=>x.length-k) 0 Xa ?_ fun k hk=>?_
  ·rw[e0]
   refine eNt (hclk _ _) ?_ ?_ (a:=by simp only[zko,zkt,zld,swH];omega)
   ·exact Y81
   ·exact Y14
  refine Tq20 ?_
  refine ax (fun hc=>?_) (fun hc=>?_)
  ·have hk':k<x.length:=sHc
   have hg:=u5 hk'
   have e5:=Yk5 k
   have ht:=rK (p:=mF) hk'
   have hgd:x.getD k 0=x[k]:=by simp[gEq,hk']
   rw[hgd]at hg
   have hT:(sf||(x.take (k+1)).any mF)=((sf||(x.take k).any mF)||mF x[k]):=by rw[ht,Bool.or_assoc]
   generalize (sf||(x.take k).any mF)=F at *
   generalize x[k]=c at *
   have hfin:∀ F',F'=(F||mF c)→F'=(sf||(x.take (k+1)).any mF):=fun F' h=>by rw[h,hT]
   cases F
   ·by_cases hc1:(c.toNat:Int)<32
    ·have d1:decide ((c.toNat:Int)<32)=true:=dtq hc1
     refine Tq35 ?_
     (repeat with_reducible refine And.intro X4 ?_)
     refine⟨k+1,Xa,Xa,by simp only[zko,zkt,zld,swH];omega,?_,hclk _ _,?_,?_⟩
     ·exact Y147
     ·exact Y81
     ·exact Y14
    ·have d1:decide ((c.toNat:Int)<32)=false:=dfq hc1
     refine Tq35 ?_
     (repeat with_reducible refine And.intro X4 ?_)
     refine⟨k+1,Xa,Xa,by simp only[zko,zkt,zld,swH];omega,?_,hclk _ _,?_,?_⟩
     ·exact Y136
     ·exact Y81
     ·exact Y14
   ·simp only[go_sem,byq,swC,hne,hneq,n1,n2,hcs,hcm,hA,hB,eh,hi0,hb0,iNq,zli,hg,bC,e5]
    (repeat with_reducible refine And.intro X4 ?_)
    refine⟨k+1,Xa,Xa,by simp only[zko,zkt,zld,swH];omega,?_,hclk _ _,?_,?_⟩
    ·exact Y153
    ·exact Y81
    ·exact Y14
  ·exact Y46
def jP(n:Int):Enc:=b8 n 2
def gy(x:SField):Enc:=(b8 x.id 2).add ((iy x.name 24).add (b8 x.bits 1))
def fT(x:SHeader):Enc:=(b8 x.id 2).add ((iy x.name 24).add (bn jP 32 x.fields))
def mu(x:SCase):Enc:=(ko x.value).add ((ko x.mask).add (b8 x.next 2))
def iD(x:SState):Enc:=(b8 x.id 2).add ((b8 x.header 2).add ((b8 x.select 2).add ((bn mu 6 x.cases).add (b8 x.dflt 2))))
def jq(x:SParam):Enc:=(iy x.name 24).add (b8 x.bits 1)
def mM(x:SPrim):Enc:=(b8 x.op 1).add ((b8 x.dst 2).add ((b8 x.kind 1).add ((b8 x.n 2).add (ko x.value))))
def eO(x:SAction):Enc:=(b8 x.id 2).add ((iy x.name 24).add ((bn jq 4 x.params).add ((bn mM 12 x.body).add (iy x.restr 400))))
def pH(x:SKey):Enc:=(iy x.name 24).add ((b8 x.field 2).add (b8 x.kind 1))
def gx(x:STable):Enc:=(b8 x.id 2).add ((iy x.name 24).add ((bn pH 4 x.keys).add ((bn jP 12 x.actions).add ((b8 x.dflt 2).add ((bn ko 4 x.dargs).add ((b8 x.size 2).add (iy x.restr 400)))))))
def hZ(x:SStage):Enc:=(b8 x.table 2).add (b8 x.header 2)
def jo(x:SGrant):Enc:=(b8 x.table 2).add ((jf x.read).add ((jf x.write).add (bn jf 4 x.keys)))
def ky(x:SRole):Enc:=(b8 x.id 2).add ((iy x.name 24).add ((bn jo 8 x.grants).add ((bn jP 12 x.actions).add ((b8 x.quota 2).add (jf x.audit)))))
def pU(x:SRef):Enc:=(b8 x.table 2).add ((b8 x.key 1).add ((b8 x.action 2).add ((b8 x.param 1).add ((b8 x.toTable 2).add (b8 x.toKey 1)))))
def fH(x:Sch):Enc:=(bn gy 32 x.fields).add ((bn fT 8 x.headers).add (bn iD 12 x.states))
def iP(x:Sch):Enc:=(b8 x.maxBatch 2).add ((b8 x.budget 2).add ((fH x).add ((bn eO 12 x.actions).add ((bn gx 8 x.tables).add ((bn hZ 12 x.stages).add ((bn ky 6 x.roles).add (bn pU 8 x.refs)))))))
def qA(s:By):Prop:=s.length≤dX
def sA{α:Type}(_:α):Prop:=True
def ng(v:Nat):Prop:=v<2^128
def yX(x:SField):Prop:=qA x.name
def xd(x:SHeader):Prop:=qA x.name
def rW(x:SCase):Prop:=ng x.value∧ng x.mask
def zO(x:SState):Prop:=∀ c∈x.cases,rW c
def y9(x:SParam):Prop:=qA x.name
def vr(x:SPrim):Prop:=ng x.value
def oQ(x:SAction):Prop:=qA x.name∧(∀ p∈x.params,y9 p)∧(∀ p∈x.body,vr p)∧qA x.restr
def JC(x:SKey):Prop:=qA x.name
def qP(x:STable):Prop:=qA x.name∧(∀ k∈x.keys,JC k)∧(∀ v∈x.dargs,ng v)∧qA x.restr
def za(x:SRole):Prop:=qA x.name
structure OkSch(x:Sch):Prop where
 f:∀ a∈x.fields,yX a
 h:∀ a∈x.headers,xd a
 s:∀ a∈x.states,zO a
 a:∀ a∈x.actions,oQ a
 t:∀ a∈x.tables,qP a
 r:∀ a∈x.roles,za a
def ls{n w:Int}(h:w=1∨w=2):1≤(b8 n w).b.length:=by
 rcases h with rfl|rfl<;>simp[b8,jl,n6]
def Ed{s:By}{m:Int}:1≤(iy s m).b.length:=by
 unfold iy jT
 rw[lAq,n6];omega
def EO{v:Nat}:1≤(ko v).b.length:=by simp[ko,lk]
def Nw{x:Bool}:1≤(jf x).b.length:=by simp[jf]
def j5{x y:Enc}(h:1≤x.b.length):1≤(x.add y).b.length:=by rw[bm];omega
theorem zK{α:Type}{g:α→Enc}(h:∀ x,1≤(g x).b.length):∀ l:List α,l.length≤(bX g l).b.length
 |[]=>Nat.zero_le _
 |x::l=>by
  rw[bX,bm,yaz]
  have:=h x
  have:=zK h l
  omega
def Bq(n:Int):1≤(jP n).b.length:=ls (.inr rfl)
def yD(x:SField):1≤(gy x).b.length:=j5 (ls (.inr rfl))
def wa(x:SHeader):1≤(fT x).b.length:=j5 (ls (.inr rfl))
def Bu(x:SCase):1≤(mu x).b.length:=j5 EO
def xO(x:SState):1≤(iD x).b.length:=j5 (ls (.inr rfl))
def x6(x:SParam):1≤(jq x).b.length:=j5 Ed
def Bx(x:SPrim):1≤(mM x).b.length:=j5 (ls (.inl rfl))
def xb(x:SAction):1≤(eO x).b.length:=j5 (ls (.inr rfl))
def DC(x:SKey):1≤(pH x).b.length:=j5 Ed
def xF(x:STable):1≤(gx x).b.length:=j5 (ls (.inr rfl))
def yg(x:SStage):1≤(hZ x).b.length:=j5 (ls (.inr rfl))
def x7(x:SGrant):1≤(jo x).b.length:=j5 (ls (.inr rfl))
def AP(x:SRole):1≤(ky x).b.length:=j5 (ls (.inr rfl))
def Eu(x:SRef):1≤(pU x).b.length:=j5 (ls (.inr rfl))
def A2(v:Nat):1≤(ko v).b.length:=EO
def Bo(x:Bool):1≤(jf x).b.length:=Nw
def eW{α:Type}(c:α→AV)(ok:α→Prop)(g:α→Enc):ECt
 |[.ptr id 0,x],H,K=>∃ q s a,(SOn H id q s∧x=c a∧ok a∧(s.add (g a)).b.length≤dX)∧K (.ret (.tup [])) (swH H id q (s.add (g a)))
 |_,_,_=>False
def nA{α:Type}(f sz:Nat)(c:α→AV)(ok:α→Prop)(g:α→Enc):ECt
 |[.ptr id 0,.agg [.int .i64 most,.func (.func f') [] [],.func (.func r) [] []],.slice .any sz' xs],H,K=>∃ q s l,(SOn H id q s∧f'=f∧sz'=sz∧xs=l.map c∧(∀ a∈l,ok a)∧(s.add (bn g most l)).b.length≤dX) ∧
   K (.ret (.tup [])) (swH H id q (s.add (bn g most l)))
 |_,_,_=>False
def dk{id q:Nat}{H:AHeap}{s:Enc}{n w:Int}{K:AEnd→AHeap→Prop}(hw:w=1∨w=2)(h:SOn H id q s)(hl:(s.add (b8 n w)).b.length≤dX)(hK:K (.ret (.tup [])) (swH H id q (s.add (b8 n w)))) :
 vJ [.ptr id 0,.int .i64 n,.int .i64 w] H K:=⟨q,s,⟨h,hw,aT hl⟩,hK⟩
def lJ{id q:Nat}{H:AHeap}{s:Enc}{x:By}{m:Int}{K:AEnd→AHeap→Prop}(hx:qA x)(h:SOn H id q s)(hl:(s.add (iy x m)).b.length≤dX)(hK:K (.ret (.tup [])) (swH H id q (s.add (iy x m)))) :
 vG [.ptr id 0,.str x,.int .i64 m] H K:=⟨q,s,⟨h,hx,hl⟩,hK⟩
def ux{id q:Nat}{H:AHeap}{s:Enc}{x:Bool}{K:AEnd→AHeap→Prop}(h:SOn H id q s)(hl:(s.add (jf x)).b.length≤dX)(hK:K (.ret (.tup [])) (swH H id q (s.add (jf x)))) :
 xa [.ptr id 0,.bool x] H K:=⟨q,s,⟨h,hl⟩,hK⟩
def uD{id q:Nat}{H:AHeap}{s:Enc}{v:Nat}{K:AEnd→AHeap→Prop}(hv:ng v)(h:SOn H id q s)(hl:(s.add (ko v)).b.length≤dX)(hK:K (.ret (.tup [])) (swH H id q (s.add (ko v)))) :
 xc [.ptr id 0,.agg [.int .u64 ((v/2^64:Nat):Int),.int .u64 ((v%2^64:Nat):Int)]] H K:=⟨q,s,v,⟨h,hv,rfl,rfl,hl⟩,hK⟩
def pS{α:Type}{c:α→AV}{ok:α→Prop}{g:α→Enc}{id q:Nat}{H:AHeap}{s:Enc}{a:α}{K:AEnd→AHeap→Prop}(ha:ok a)(h:SOn H id q s)(hl:(s.add (g a)).b.length≤dX)(hK:K (.ret (.tup [])) (swH H id q (s.add (g a)))) :
 eW c ok g [.ptr id 0,c a] H K:=⟨q,s,a,⟨h,rfl,ha,hl⟩,hK⟩
def lK{α:Type}{f sz r:Nat}{c:α→AV}{ok:α→Prop}{g:α→Enc}{id q:Nat}{H:AHeap}{s:Enc}{l:List α}{m:Int}{K:AEnd→AHeap→Prop}(ha:∀ a∈l,ok a)(h:SOn H id q s)(hl:(s.add (bn g m l)).b.length≤dX)(hK:K (.ret (.tup [])) (swH H id q (s.add (bn g m l)))) :
 nA f sz c ok g [.ptr id 0,.agg [.int .i64 m,.func (.func f) [] [],.func (.func r) [] []],.slice .any sz (l.map c)] H K:=⟨q,s,l,⟨h,rfl,rfl,rfl,ha,hl⟩,hK⟩
structure WFacts(H:AHeap)(id q:Nat):Prop where
 p0:∀ t x,swH (H.push x) id q t=(swH H id q t).push x
 p1:∀ s t x,swH ((swH H id q s).push x) id q t=(swH H id q t).push x
 p2:∀ s t x y,swH (((swH H id q s).push x).push y) id q t=((swH H id q t).push x).push y
 p3:∀ s t x y z,swH ((((swH H id q s).push x).push y).push z) id q t=(((swH H id q t).push x).push y).push z
 pp:∀ s t,swH (swH H id q s) id q t=swH H id q t
theorem SOn.facts{H:AHeap}{id q:Nat}{s:Enc}(h:SOn H id q s):WFacts H id q:=by
 have h1:=glq h.o
 have h2:=glq h.bu
 refine⟨fun t x=>nt h1 h2,fun s t x=>?_,fun s t x y=>?_,fun s t x y z=>?_,fun s t=>uR h.ne⟩
 ·rw[nt (by exact h1) (by exact h2),uR h.ne]
 ·rw[nt (by rw[zlc];exact Nat.lt_succ_of_lt h1) (by rw[zlc];exact Nat.lt_succ_of_lt h2),nt (by exact h1) (by exact h2),uR h.ne]
 ·rw[nt (by rw[zlc,zlc];exact Nat.lt_succ_of_lt (Nat.lt_succ_of_lt h1)) (by rw[zlc,zlc];exact Nat.lt_succ_of_lt (Nat.lt_succ_of_lt h2)),
   nt (by rw[zlc];exact Nat.lt_succ_of_lt h1) (by rw[zlc];exact Nat.lt_succ_of_lt h2),nt (by exact h1) (by exact h2),uR h.ne]
def Xh{p:Prop}(h:p:=by rw[ak];omega):p:=h
def Xi{p:Prop}(h:p:=by simp only[zko,zkt,zlc,ak];omega):p:=h
def Xu{p:Prop}(h:p:=by simp only[zko,zkt,zld,swH];omega):p:=h
end Go.AL
