/- Lemmas of the proof; no condition. -/
import Derived.Test.YtpbnggedofiinaaGreatCL
import Derived.Test.YtpbnggedofiinaaGreatS10e
set_option linter.all false
set_option maxRecDepth 10000
set_option maxHeartbeats 32000000
open List renaming nil_append → yak, cons_append → yal, length_cons → yaz, length_nil → yba, take_of_length_le → ybc, drop_append → ybd, take_append → ybe, drop_eq_nil_of_le → ybf, take_zero → yar
open Go Go.AL Go.Proofs
namespace Go.AL
theorem Fo:ti Tryz.prog 130=some ⟨.struct [(0,22,false),(1,4,false),(2,4,false),(3,4,false)],4,32,.agg [.slice .nil 1 [],.bool false,.bool false,.bool false]⟩:=by kernel_rfl
theorem CE:ti Tryz.prog 132=some ⟨.ptr 130,1,8,.nilp⟩:=by kernel_rfl
attribute [go_sem] Fo CE
def rg (n w:Int):Bool:=decide (0≤n∧n<256^w.toNat)
theorem ET {x:Nat} (h:x<2^128):isV ((x/2^64:Nat):Int) ((x % 2^64:Nat):Int)=True:=eq_true (by unfold isV;omega)
theorem av {α:Type} {f:α→AV} {l:List α} {k:Nat} {x:α} (hx:l[k]?=some x):(l.map f).getD k .junk=f x:=by
 simp [gEq,hx]
structure Enc where
 b:List UInt8
 l:Bool
 f:Bool
 a:Bool
def Enc.add (x y:Enc):Enc:=⟨x.b++y.b,x.l||y.l,x.f||y.f,x.a||y.a⟩
def enc0:Enc:=⟨[],false,false,false⟩
theorem am (x y z:Enc):(x.add y).add z=x.add (y.add z):=by simp [Enc.add,List.append_assoc,Bool.or_assoc]
theorem ej (x:Enc):x.add enc0=x:=by simp [Enc.add,enc0]
theorem bT (x:Enc):enc0.add x=x:=by simp [Enc.add,enc0]
theorem bL (x y:Enc):(x.add y).b.length=x.b.length+y.b.length:=lAq
def iR (c:UInt8):Bool:=decide ((c.toNat:Int)<32)||decide ((c.toNat:Int) > 126)
def dZ (n w:Int):Enc:=⟨fy n w,false,false,!rg n w⟩
def ld (s:List UInt8) (most:Int):Enc:=⟨iL s,decide ((s.length:Int) > most),s.any iR,false⟩
def kE (v:Nat):Enc:=⟨jh v,false,false,false⟩
def jO (x:Bool):Enc:=⟨[if x then 1 else 0],false,false,false⟩
def ei (n:Nat) (most:Int):Enc:=⟨fy (n:Int) 2,decide ((n:Int) > most),false,false⟩
def bD {α:Type} (g:α→Enc):List α→Enc
 |[]=>enc0
 |x::l=>(g x).add (bD g l)
theorem qK {α:Type} (g:α→Enc):∀ l k:List α,bD g (l++k)=(bD g l).add (bD g k)
 |[],k=>by rw [yak,bD,bT]
 |x::l,k=>by rw [yal,bD,bD,qK g l k,am]
theorem zH {α:Type} (g:α→Enc) (l:List α) (x:α):bD g (l++[x])=(bD g l).add (g x):=by
 rw [qK,bD,bD,ej]
theorem As {α:Type} (g:α→Enc) (l:List α) (k:Nat):(bD g (l.take k)).b.length≤(bD g l).b.length:=by
 have h:=qK g (l.take k) (l.drop k)
 rw [List.take_append_drop] at h
 rw [h,bL];omega
def bC {α:Type} (g:α→Enc) (most:Int) (l:List α):Enc:=(ei l.length most).add (bD g l)
structure SOn (H:AHeap) (id q:Nat) (s:Enc):Prop where
 o:H.get id=some (.cells [.slice (.own q) 1 (bys s.b),.bool s.l,.bool s.f,.bool s.a])
 bu:H.get q=some (.buf 1 s.b.length)
def swH (H:AHeap) (id q:Nat) (s:Enc):AHeap:=(H.set q (.buf 1 s.b.length)).set id (.cells [.slice (.own q) 1 (bys s.b),.bool s.l,.bool s.f,.bool s.a])
theorem SOn.ne {H:AHeap} {id q:Nat} {s:Enc} (h:SOn H id q s):id≠q:=fun e=>by
 have h1:=h.o
 rw [e,h.bu] at h1;cases h1
theorem SOn.closed {H:AHeap} {id q:Nat} {s:Enc} (h:SOn H id q s) (hc:H.Closed) (t:Enc):(swH H id q t).Closed:=by
 refine cF (kC hc) ?_
 have hq:=glq h.bu
 simp only [znu,znv,and_true,zlf,zms,zng]
 intro i e;cases e;exact hq
theorem SOn.next {H:AHeap} {id q:Nat} {s:Enc} (h:SOn H id q s) (t:Enc):SOn (swH H id q t) id q t:=by
 have h1:=glq h.o
 have h2:=glq h.bu
 unfold swH
 refine ⟨?_,?_⟩
 ·rw [AHeap.get_set_same _ _ (by rw [zlf];exact h1)]
 ·rw [AHeap.get_set_ne _ _ (fun e=>h.ne e.symm),AHeap.get_set_same _ _ h2]
theorem qA {H:AHeap} {id q:Nat} {s t:Enc} (h:id≠q):swH (swH H id q s) id q t=swH H id q t:=by
 unfold swH AHeap.set
 dsimp only
 congr 1
 funext j
 by_cases h1:j=id
 ·simp [h1]
 ·by_cases h2:j=q<;>simp [h1,h2]
theorem ai {H:AHeap} {id q:Nat} {s:Enc}:(swH H id q s).nx=H.nx:=rfl
theorem SOn.push {H:AHeap} {id q:Nat} {s:Enc} (h:SOn H id q s) (x:AObj):SOn (H.push x) id q s :=
 ⟨by rw [gPq _ _ (glq h.o)];exact h.o,by rw [gPq _ _ (glq h.bu)];exact h.bu⟩
theorem ky {H:AHeap} {id q:Nat} {s:Enc} {x:AObj} (h1:id<H.nx) (h2:q<H.nx):swH (H.push x) id q s=(swH H id q s).push x:=by
 unfold swH AHeap.set AHeap.push
 dsimp only
 congr 1
 funext j
 by_cases e1:j=id
 ·have:id≠H.nx:=by omega
  simp [e1,this]
 ·by_cases e2:j=q
  ·have:q≠H.nx:=by omega
   simp [e1,e2,this]
  ·simp [e1,e2]
theorem sR {H:AHeap} {id q j:Nat} {s:Enc} (h1:j≠id) (h2:j≠q):ay (swH H id q s) j=ay H j:=by
 unfold ay swH
 rw [AHeap.get_set_ne _ _ h1,AHeap.get_set_ne _ _ h2]
def ye:List AV→AHeap→(AEnd→AHeap→Prop)→Prop
 |[.ptr id 0,.int .i64 n,.int .i64 w],H,K=>∃ q s,(SOn H id q s∧(w=1∨w=2)∧s.b.length≤100000000000000)∧K (.ret (.tup [])) (swH H id q (s.add (dZ n w)))
 |_,_,_=>False
theorem GG {n w:Int} (h:n<0):rg n w=false:=dfq fun h'=>by omega
theorem Iu {n:Int} (h:¬ n<0):(!rg n 1)=decide (n ≥ 256):=by
 unfold rg
 by_cases h':n<256
 ·rw [dtq (by exact ⟨by omega,h'⟩),dfq (by omega)];rfl
 ·rw [dfq (fun x=>h' x.2),dtq (by omega)];rfl
theorem IF {n:Int} (h:¬ n<0):(!rg n 2)=decide (n ≥ 65536):=by
 unfold rg
 by_cases h':n<65536
 ·rw [dtq (by exact ⟨by omega,h'⟩),dfq (by omega)];rfl
 ·rw [dfq (fun x=>h' x.2),dtq (by omega)];rfl
theorem fE:EntOk Tryz.prog 61 (Ent.effect ye):=by
 refine EntOk.effect fun args H K h=>?_
 unfold ye at h
 split at h
 rotate_left
 ·exact h.elim
 rename_i id n w
 obtain ⟨q,s,⟨hW,hw,hl⟩,hK⟩:=h
 refine ⟨_,_,hK,?_⟩
 clear hK
 have hcl0:=hW.closed (t:=s.add (dZ n w))
 obtain ⟨b,sl,sf,sa⟩:=s
 simp only [Enc.add,dZ,Bool.or_false] at hcl0 ⊢
 have l1:=cn n w
 dsimp only at hl
 have hid:=glq hW.o
 have hq:=glq hW.bu
 have hne:=aL hid
 have hneq:=aL hq
 have n1:(id=q)=False:=eq_false hW.ne
 have n2:(q=id)=False:=eq_false fun e=>hW.ne e.symm
 have hcs:=ax hW.o
 have hb0:=hW.bu
 have hi0:=hW.o
 have hnn:=hW.ne
 dsimp only at hcs hb0 hi0
 refine ACalls.fW ag (tCq bO tNq) Tryz.func61 [] (by unfold swH;simp only [zlf];omega) (T:=af [(1,[[],[],[],[],[],[],[],[],[4,7],[],[],[4,7]])]) (h:=fun hcl hlt=>?_)
 clear hlt
 have hcl1:=hcl0 hcl
 have hcm:=fun cs=>@al H id cs hid
 have hA:∀ X Y,ay ((H.set id (.cells X)).set q Y) id=some X:=fun X Y=>by
  unfold ay;rw [AHeap.get_set_ne _ _ hnn,AHeap.get_set_same _ _ hid]
 have hB:∀ X,(H.set id X).get q=some (.buf 1 b.length):=fun X=>by rw [AHeap.get_set_ne _ _ (fun e=>hnn e.symm)];exact hb0
 have eh:∀ X Y Z,((H.set id X).set q Y).set id Z=(H.set q Y).set id Z:=fun X Y Z=>by
  unfold AHeap.set;congr 1;funext j;dsimp only;by_cases h1:j=id<;>simp [h1]
 unfold swH at hcl1 ⊢
 dsimp only at hcl1 ⊢
 have hlb:(b++fy n w).length=b.length+(fy n w).length:=lAq
 have s1:IntKind.u64.wrap (IntKind.i64.wrap 8)=8:=by decide
 have s2:sv .i64 1 8=256:=by decide
 have s3:IntKind.u64.wrap (IntKind.i64.wrap 16)=16:=by decide
 have s4:sv .i64 1 16=65536:=by decide
 cases sa
 ·by_cases h0:n<0
  ·have d0:decide (n<0)=true:=dtq h0
   rw [GG h0,Bool.not_false,Bool.or_true] at hcl1 ⊢
   simp only [go_sem,byq,d0,hne,hneq,n1,n2,hcs,hcm,hA,hB,eh,hi0,hb0,aD,Bool.false_or] at hcl1 ⊢
   (repeat with_reducible refine And.intro (by first|assumption|decide|omega|exact ⟨by omega,by omega⟩) ?_)
   rw [hlb] at hcl1
   exact Z6
  ·have d0:decide (n<0)=false:=dfq h0
   rcases hw with rfl|rfl
   ·rw [Iu h0,Bool.false_or] at hcl1 ⊢
    simp only [go_sem,byq,d0,s1,s2,hne,hneq,n1,n2,hcs,hcm,hA,hB,eh,hi0,hb0,aD,Bool.false_or] at hcl1 ⊢
    (repeat with_reducible refine And.intro (by first|assumption|decide|omega|exact ⟨by omega,by omega⟩) ?_)
    rw [hlb] at hcl1
    exact Z6
   ·rw [IF h0,Bool.false_or] at hcl1 ⊢
    simp only [go_sem,byq,d0,s3,s4,hne,hneq,n1,n2,hcs,hcm,hA,hB,eh,hi0,hb0,aD,Bool.false_or] at hcl1 ⊢
    (repeat with_reducible refine And.intro (by first|assumption|decide|omega|exact ⟨by omega,by omega⟩) ?_)
    rw [hlb] at hcl1
    exact Z6
 ·simp only [go_sem,byq,hne,hneq,n1,n2,hcs,hcm,hA,hB,eh,hi0,hb0,aD,Bool.true_or] at hcl1 ⊢
  (repeat with_reducible refine And.intro (by first|assumption|decide|omega|exact ⟨by omega,by omega⟩) ?_)
  rw [hlb] at hcl1
  exact Z6
def ce:Nat:=100000000000000
theorem aZ:ce=100000000000000:=rfl
theorem aE {x y:Enc} (h:(x.add y).b.length≤ce):x.b.length≤ce:=by rw [bL] at h;omega
theorem SOn.same {H:AHeap} {id q:Nat} {s:Enc} (h:SOn H id q s):swH H id q s=H:=by
 have h1:=bd h.bu
 unfold swH
 rw [h1]
 exact bd h.o
def xV:List AV→AHeap→(AEnd→AHeap→Prop)→Prop
 |[.ptr id 0,.bool x],H,K=>∃ q s,(SOn H id q s∧(s.add (jO x)).b.length≤ce)∧K (.ret (.tup [])) (swH H id q (s.add (jO x)))
 |_,_,_=>False
theorem tZ:EntOk Tryz.prog 186 (Ent.effect xV):=by
 refine EntOk.effect fun args H K h=>?_
 unfold xV at h
 split at h
 rotate_left
 ·exact h.elim
 rename_i id x
 obtain ⟨q,s,⟨hW,hl⟩,hK⟩:=h
 refine ⟨_,_,hK,?_⟩
 clear hK
 have hcl0:=hW.closed (t:=s.add (jO x))
 rw [aZ] at hl
 obtain ⟨b,sl,sf,sa⟩:=s
 simp only [Enc.add,jO,Bool.or_false,lAq,List.length_singleton] at hcl0 hl ⊢
 have hid:=glq hW.o
 have hq:=glq hW.bu
 have hne:=aL hid
 have hneq:=aL hq
 have n1:(id=q)=False:=eq_false hW.ne
 have n2:(q=id)=False:=eq_false fun e=>hW.ne e.symm
 have hcs:=ax hW.o
 have hb0:=hW.bu
 have hi0:=hW.o
 have hnn:=hW.ne
 dsimp only at hcs hb0 hi0
 refine ACalls.fW ag (tCq sB tNq) Tryz.func186 [] (by unfold swH;simp only [zlf];omega) (T:=af [(0,[[],[],[],[],[],[],[],[4,6],[],[],[4,6]])]) (h:=fun hcl hlt=>?_)
 clear hlt
 have hcl1:=hcl0 hcl
 have hcm:=fun cs=>@al H id cs hid
 have hA:∀ X Y,ay ((H.set id (.cells X)).set q Y) id=some X:=fun X Y=>by
  unfold ay;rw [AHeap.get_set_ne _ _ hnn,AHeap.get_set_same _ _ hid]
 have hA0:∀ Y,ay (H.set q Y) id=ay H id:=fun Y=>by
  unfold ay;rw [AHeap.get_set_ne _ _ hnn]
 have hB:∀ X,(H.set id X).get q=some (.buf 1 b.length):=fun X=>by rw [AHeap.get_set_ne _ _ (fun e=>hnn e.symm)];exact hb0
 have eh:∀ X Y Z,((H.set id X).set q Y).set id Z=(H.set q Y).set id Z:=fun X Y Z=>by
  unfold AHeap.set;congr 1;funext j;dsimp only;by_cases h1:j=id<;>simp [h1]
 unfold swH at hcl1 ⊢
 dsimp only at hcl1 ⊢
 simp only [go_sem,byq,hne,hneq,n1,n2,hcs,hcm,hA,hA0,hB,eh,hi0,hb0,lN] at hcl1 ⊢
 (repeat with_reducible refine And.intro (by first|assumption|decide|omega|exact ⟨by omega,by omega⟩) ?_)
 simp (disch:=first|exact Zd|omega) [↓zmo,beq,ybc,ybd,ybe,aa,wk,wk2,wk1,wkM,wkL,ak,ybf,hcl1]
 first|done|exact hcl1|simpa using hcl1
def xd:List AV→AHeap→(AEnd→AHeap→Prop)→Prop
 |[.ptr id 0,.agg [.int .u64 hi,.int .u64 lo]],H,K=>∃ q s v,(SOn H id q s∧v<2^128∧hi=((v/2^64:Nat):Int)∧lo=((v % 2^64:Nat):Int)∧(s.add (kE v)).b.length≤ce)∧K (.ret (.tup [])) (swH H id q (s.add (kE v)))
 |_,_,_=>False
theorem tU:EntOk Tryz.prog 223 (Ent.effect xd):=by
 refine EntOk.effect fun args H K h=>?_
 unfold xd at h
 split at h
 rotate_left
 ·exact h.elim
 rename_i id hi lo
 obtain ⟨q,s,v,⟨hW,hv,rfl,rfl,hl⟩,hK⟩:=h
 refine ⟨_,_,hK,?_⟩
 clear hK
 have iv:=ET hv
 have hcl0:=hW.closed (t:=s.add (kE v))
 rw [aZ] at hl
 obtain ⟨b,sl,sf,sa⟩:=s
 simp only [Enc.add,kE,Bool.or_false,lAq,List.length_singleton] at hcl0 hl ⊢
 have hid:=glq hW.o
 have hq:=glq hW.bu
 have hne:=aL hid
 have hneq:=aL hq
 have n1:(id=q)=False:=eq_false hW.ne
 have n2:(q=id)=False:=eq_false fun e=>hW.ne e.symm
 have hcs:=ax hW.o
 have hb0:=hW.bu
 have hi0:=hW.o
 have hnn:=hW.ne
 dsimp only at hcs hb0 hi0
 refine ACalls.fW ag (tCq qU tNq) Tryz.func223 [] (by unfold swH;simp only [zlf];omega) (T:=af [(1,[[],[],[],[],[],[],[5],[4,5,6],[],[],[4,5,6]])]) (h:=fun hcl hlt=>?_)
 clear hlt
 have hcl1:=hcl0 hcl
 have hcm:=fun cs=>@al H id cs hid
 have hA:∀ X Y,ay ((H.set id (.cells X)).set q Y) id=some X:=fun X Y=>by
  unfold ay;rw [AHeap.get_set_ne _ _ hnn,AHeap.get_set_same _ _ hid]
 have hA0:∀ Y,ay (H.set q Y) id=ay H id:=fun Y=>by
  unfold ay;rw [AHeap.get_set_ne _ _ hnn]
 have hB:∀ X,(H.set id X).get q=some (.buf 1 b.length):=fun X=>by rw [AHeap.get_set_ne _ _ (fun e=>hnn e.symm)];exact hb0
 have eh:∀ X Y Z,((H.set id X).set q Y).set id Z=(H.set q Y).set id Z:=fun X Y Z=>by
  unfold AHeap.set;congr 1;funext j;dsimp only;by_cases h1:j=id<;>simp [h1]
 unfold swH at hcl1 ⊢
 dsimp only at hcl1 ⊢
 simp only [go_sem,byq,hne,hneq,n1,n2,hcs,hcm,hA,hA0,hB,eh,hi0,hb0,la,iv,iNq,vD] at hcl1 ⊢
 (repeat with_reducible refine And.intro (by first|assumption|decide|omega|exact ⟨by omega,by omega⟩) ?_)
 simp (disch:=first|exact Zd|omega) [↓zmo,beq,ybc,ybd,ybe,aa,wk,wk2,wk1,wkM,wkL,ak,ybf,hcl1]
 first|done|exact hcl1|simpa using hcl1
def xQ:List AV→AHeap→(AEnd→AHeap→Prop)→Prop
 |[.ptr id 0,.str x,.int .i64 most],H,K=>∃ q s,(SOn H id q s∧x.length≤ce∧(s.add (ld x most)).b.length≤ce)∧K (.ret (.tup [])) (swH H id q (s.add (ld x most)))
 |_,_,_=>False
theorem nu {α:Type} {p:α→Bool} {l:List α} {k:Nat} (h:k<l.length):(l.take (k+1)).any p=((l.take k).any p||p l[k]):=by
 rw [List.take_succ_eq_append_getElem h,List.any_append,List.any_cons,List.any_nil,Bool.or_false]
def swC (q:Nat) (b:List UInt8) (l f a:Bool):List AV:=[.slice (.own q) 1 (bys b),.bool l,.bool f,.bool a]
theorem lL:EntOk Tryz.prog 152 (Ent.effect xQ):=by
 refine EntOk.effect fun args H K h=>?_
 unfold xQ at h
 split at h
 rotate_left
 ·exact h.elim
 rename_i id x most
 obtain ⟨q,s,⟨hW,hx,hl⟩,hK⟩:=h
 refine ⟨_,_,hK,?_⟩
 clear hK
 have hcl0:=fun t=>hW.closed (t:=t)
 rw [aZ] at hl hx
 obtain ⟨b,sl,sf,sa⟩:=s
 simp only [Enc.add,ld,Bool.or_false,lAq] at hl ⊢
 have hid:=glq hW.o
 have hq:=glq hW.bu
 have hne:=aL hid
 have hneq:=aL hq
 have n1:(id=q)=False:=eq_false hW.ne
 have n2:(q=id)=False:=eq_false fun e=>hW.ne e.symm
 have hcs:=ax hW.o
 have hb0:=hW.bu
 have hi0:=hW.o
 have hnn:=hW.ne
 dsimp only at hcs hb0 hi0
 refine ACalls.fW ag (tCq sD tNq) Tryz.func152 [] (by unfold swH;simp only [zlf];omega) (T:=af [(6,[[],[],[],[],[],[],[],[4,6],[],[],[4,6]])]) (h:=fun hcl hlt=>?_)
 clear hlt
 have hcl1:=fun t=>hcl0 t hcl
 have hcm:=fun cs=>@al H id cs hid
 have hgm:=fun o=>@aB H id o hid
 have hA:∀ X Y,ay ((H.set id (.cells X)).set q Y) id=some X:=fun X Y=>by
  unfold ay;rw [AHeap.get_set_ne _ _ hnn,AHeap.get_set_same _ _ hid]
 have hB:∀ X,(H.set id X).get q=some (.buf 1 b.length):=fun X=>by rw [AHeap.get_set_ne _ _ (fun e=>hnn e.symm)];exact hb0
 have eh:∀ X Y Z,((H.set id X).set q Y).set id Z=(H.set q Y).set id Z:=fun X Y Z=>by
  unfold AHeap.set;congr 1;funext j;dsimp only;by_cases h1:j=id<;>simp [h1]
 have hclk:∀ L F,(H.set id (.cells (swC q b L F sa))).Closed:=fun L F=>by
  have:=hcl1 ⟨b,L,F,sa⟩
  unfold swH at this
  dsimp only at this
  rw [bd hb0] at this
  exact this
 have hend:=hcl1 ⟨b++iL x,sl||decide ((x.length:Int) > most),sf||x.any iR,sa⟩
 have e0:(sf||(x.take 0).any iR)=sf:=by rw [yar,List.any_nil,Bool.or_false]
 have hL2:sl=true→(sl||decide ((x.length:Int) > most))=true:=fun h=>by rw [h,Bool.true_or]
 have hL3:sl=false→decide ((x.length:Int) > most)=(sl||decide ((x.length:Int) > most)):=fun h=>by rw [h,Bool.false_or]
 generalize (sl||decide ((x.length:Int) > most))=L at *
 cases sl
 ·simp only [go_sem,byq,hne,hneq,n1,n2,hcs,hcm,hA,hB,eh,hi0,hb0,hL3 rfl]
  try (repeat with_reducible refine Yq ?_)
  refine aq (A:=Nat) (fun k=>[(0,.ptr id 0),(1,.str x),(22,.slice .any 1 (bys x)),(23,.int .i64 (x.length:Int)),(24,.int .i64 (k:Int))]) (fun k=>H.set id (.cells (swC q b L (sf||(x.take k).any iR) sa))) (fun k=>k≤x.length) (fun k=>x.length - k) 0 (by omega) ?_ fun k hk=>?_
  ·rw [e0]
   refine ⟨by simp only [zkq,zkv,zlf,swH];omega,by repeat first|exact .refl _|refine .push ?_ _,hclk _ _,?_,?_⟩
   ·simp [ltF,zlf,znn,znf,znh,zms]
    omega
   ·simp [aM,wk2,wk1,wkM,Fr.get]
  simp only [go_sem]
  refine ae (fun hc=>?_) (fun hc=>?_)
  ·have hk':k<x.length:=by simp at hc;omega
   have hg:=kJ hk'
   have e5:=Yk5 k
   have ht:=nu (p:=iR) hk'
   have hgd:x.getD k 0=x[k]:=by simp [gEq,hk']
   rw [hgd] at hg
   have hT:(sf||(x.take (k+1)).any iR)=((sf||(x.take k).any iR)||iR x[k]):=by rw [ht,Bool.or_assoc]
   generalize (sf||(x.take k).any iR)=F at *
   generalize x[k]=c at *
   have hfin:∀ F',F'=(F||iR c)→F'=(sf||(x.take (k+1)).any iR):=fun F' h=>by rw [h,hT]
   cases F
   ·by_cases hc1:(c.toNat:Int)<32
    ·have d1:decide ((c.toNat:Int)<32)=true:=dtq hc1
     simp only [go_sem,byq,swC,hne,hneq,n1,n2,hcs,hcm,hA,hB,eh,hi0,hb0,iNq,zlk,hg,aO,d1,e5]
     (repeat with_reducible refine And.intro (by first|assumption|decide|omega|simp) ?_)
     refine ⟨k+1,by omega,by omega,by simp only [zkq,zkv,zlf,swH];omega,?_,hclk _ _,?_,?_⟩
     ·rw [← hfin true (by simp [iR,d1])]
      repeat first|exact .refl _|refine .push ?_ _
     ·simp [ltF,zlf,znn,znf,znh,zms]
      omega
     ·simp [aM,wk2,wk1,wkM,Fr.get]
    ·have d1:decide ((c.toNat:Int)<32)=false:=dfq hc1
     simp only [go_sem,byq,swC,hne,hneq,n1,n2,hcs,hcm,hA,hB,eh,hi0,hb0,iNq,zlk,hg,aO,d1,e5]
     (repeat with_reducible refine And.intro (by first|assumption|decide|omega|simp) ?_)
     refine ⟨k+1,by omega,by omega,by simp only [zkq,zkv,zlf,swH];omega,?_,hclk _ _,?_,?_⟩
     ·rw [← hfin _ (show decide ((c.toNat:Int) > 126)=_ by simp [iR,d1])]
      repeat first|exact .refl _|refine .push ?_ _
     ·simp [ltF,zlf,znn,znf,znh,zms]
      omega
     ·simp [aM,wk2,wk1,wkM,Fr.get]
   ·simp only [go_sem,byq,swC,hne,hneq,n1,n2,hcs,hcm,hA,hB,eh,hi0,hb0,iNq,zlk,hg,aO,e5]
    (repeat with_reducible refine And.intro (by first|assumption|decide|omega|simp) ?_)
    refine ⟨k+1,by omega,by omega,by simp only [zkq,zkv,zlf,swH];omega,?_,hclk _ _,?_,?_⟩
    ·rw [← hfin true (by simp)]
     repeat first|exact .refl _|refine .push ?_ _
    ·simp [ltF,zlf,znn,znf,znh,zms]
     omega
    ·simp [aM,wk2,wk1,wkM,Fr.get]
  ·have hk':k=x.length:=by simp at hc;omega
   subst hk'
   rw [List.take_length]
   unfold swH at hend ⊢
   dsimp only at hend ⊢
   simp only [go_sem,byq,swC,hne,hneq,n1,n2,hcs,hcm,hA,hB,eh,hi0,hb0,jZ] at hend ⊢
   (repeat with_reducible refine And.intro (by first|assumption|decide|omega|exact ⟨by omega,by omega⟩|exact ⟨by omega,by omega,by omega⟩) ?_)
   rw [lAq] at hend
   simp (disch:=first|exact Zd|omega) [↓zmo,beq,ybc,ybd,ybe,aa,wk,wk2,wk1,wkM,wkL,ak,ybf,hend,lAq]
   first|done|exact hend|simpa using hend
 ·obtain rfl:L=true:=hL2 rfl
  simp only [go_sem,byq,hne,hneq,n1,n2,hcs,hcm,hA,hB,eh,hi0,hb0]
  try (repeat with_reducible refine Yq ?_)
  refine aq (A:=Nat) (fun k=>[(0,.ptr id 0),(1,.str x),(22,.slice .any 1 (bys x)),(23,.int .i64 (x.length:Int)),(24,.int .i64 (k:Int))]) (fun k=>H.set id (.cells (swC q b true (sf||(x.take k).any iR) sa))) (fun k=>k≤x.length) (fun k=>x.length - k) 0 (by omega) ?_ fun k hk=>?_
  ·rw [e0]
   refine ⟨by simp only [zkq,zkv,zlf,swH];omega,by repeat first|exact .refl _|refine .push ?_ _,hclk _ _,?_,?_⟩
   ·simp [ltF,zlf,znn,znf,znh,zms]
    omega
   ·simp [aM,wk2,wk1,wkM,Fr.get]
  simp only [go_sem]
  refine ae (fun hc=>?_) (fun hc=>?_)
  ·have hk':k<x.length:=by simp at hc;omega
   have hg:=kJ hk'
   have e5:=Yk5 k
   have ht:=nu (p:=iR) hk'
   have hgd:x.getD k 0=x[k]:=by simp [gEq,hk']
   rw [hgd] at hg
   have hT:(sf||(x.take (k+1)).any iR)=((sf||(x.take k).any iR)||iR x[k]):=by rw [ht,Bool.or_assoc]
   generalize (sf||(x.take k).any iR)=F at *
   generalize x[k]=c at *
   have hfin:∀ F',F'=(F||iR c)→F'=(sf||(x.take (k+1)).any iR):=fun F' h=>by rw [h,hT]
   cases F
   ·by_cases hc1:(c.toNat:Int)<32
    ·have d1:decide ((c.toNat:Int)<32)=true:=dtq hc1
     simp only [go_sem,byq,swC,hne,hneq,n1,n2,hcs,hcm,hA,hB,eh,hi0,hb0,iNq,zlk,hg,aO,d1,e5]
     (repeat with_reducible refine And.intro (by first|assumption|decide|omega|simp) ?_)
     refine ⟨k+1,by omega,by omega,by simp only [zkq,zkv,zlf,swH];omega,?_,hclk _ _,?_,?_⟩
     ·rw [← hfin true (by simp [iR,d1])]
      repeat first|exact .refl _|refine .push ?_ _
     ·simp [ltF,zlf,znn,znf,znh,zms]
      omega
     ·simp [aM,wk2,wk1,wkM,Fr.get]
    ·have d1:decide ((c.toNat:Int)<32)=false:=dfq hc1
     simp only [go_sem,byq,swC,hne,hneq,n1,n2,hcs,hcm,hA,hB,eh,hi0,hb0,iNq,zlk,hg,aO,d1,e5]
     (repeat with_reducible refine And.intro (by first|assumption|decide|omega|simp) ?_)
     refine ⟨k+1,by omega,by omega,by simp only [zkq,zkv,zlf,swH];omega,?_,hclk _ _,?_,?_⟩
     ·rw [← hfin _ (show decide ((c.toNat:Int) > 126)=_ by simp [iR,d1])]
      repeat first|exact .refl _|refine .push ?_ _
     ·simp [ltF,zlf,znn,znf,znh,zms]
      omega
     ·simp [aM,wk2,wk1,wkM,Fr.get]
   ·simp only [go_sem,byq,swC,hne,hneq,n1,n2,hcs,hcm,hA,hB,eh,hi0,hb0,iNq,zlk,hg,aO,e5]
    (repeat with_reducible refine And.intro (by first|assumption|decide|omega|simp) ?_)
    refine ⟨k+1,by omega,by omega,by simp only [zkq,zkv,zlf,swH];omega,?_,hclk _ _,?_,?_⟩
    ·rw [← hfin true (by simp)]
     repeat first|exact .refl _|refine .push ?_ _
    ·simp [ltF,zlf,znn,znf,znh,zms]
     omega
    ·simp [aM,wk2,wk1,wkM,Fr.get]
  ·have hk':k=x.length:=by simp at hc;omega
   subst hk'
   rw [List.take_length]
   unfold swH at hend ⊢
   dsimp only at hend ⊢
   simp only [go_sem,byq,swC,hne,hneq,n1,n2,hcs,hcm,hA,hB,eh,hi0,hb0,jZ] at hend ⊢
   (repeat with_reducible refine And.intro (by first|assumption|decide|omega|exact ⟨by omega,by omega⟩|exact ⟨by omega,by omega,by omega⟩) ?_)
   rw [lAq] at hend
   simp (disch:=first|exact Zd|omega) [↓zmo,beq,ybc,ybd,ybe,aa,wk,wk2,wk1,wkM,wkL,ak,ybf,hend,lAq]
   first|done|exact hend|simpa using hend
def fh (n:Int):Enc:=dZ n 2
def im (x:SField):Enc:=(dZ x.id 2).add ((ld x.name 24).add (dZ x.bits 1))
def fD (x:SHeader):Enc:=(dZ x.id 2).add ((ld x.name 24).add (bC fh 32 x.fields))
def me (x:SCase):Enc:=(kE x.value).add ((kE x.mask).add (dZ x.next 2))
def iK (x:SState):Enc:=(dZ x.id 2).add ((dZ x.header 2).add ((dZ x.select 2).add ((bC me 6 x.cases).add (dZ x.dflt 2))))
def jx (x:SParam):Enc:=(ld x.name 24).add (dZ x.bits 1)
def ma (x:SPrim):Enc:=(dZ x.op 1).add ((dZ x.dst 2).add ((dZ x.kind 1).add ((dZ x.n 2).add (kE x.value))))
def fA (x:SAction):Enc:=(dZ x.id 2).add ((ld x.name 24).add ((bC jx 4 x.params).add ((bC ma 12 x.body).add (ld x.restr 400))))
def po (x:SKey):Enc:=(ld x.name 24).add ((dZ x.field 2).add (dZ x.kind 1))
def io (x:STable):Enc:=(dZ x.id 2).add ((ld x.name 24).add ((bC po 4 x.keys).add ((bC fh 12 x.actions).add ((dZ x.dflt 2).add ((bC kE 4 x.dargs).add ((dZ x.size 2).add (ld x.restr 400)))))))
def i9 (x:SStage):Enc:=(dZ x.table 2).add (dZ x.header 2)
def jP (x:SGrant):Enc:=(dZ x.table 2).add ((jO x.read).add ((jO x.write).add (bC jO 4 x.keys)))
def jU (x:SRole):Enc:=(dZ x.id 2).add ((ld x.name 24).add ((bC jP 8 x.grants).add ((bC fh 12 x.actions).add ((dZ x.quota 2).add (jO x.audit)))))
def nE (x:SRef):Enc:=(dZ x.table 2).add ((dZ x.key 1).add ((dZ x.action 2).add ((dZ x.param 1).add ((dZ x.toTable 2).add (dZ x.toKey 1)))))
def cb (x:Sch):Enc:=(bC im 32 x.fields).add ((bC fD 8 x.headers).add (bC iK 12 x.states))
def dr (x:Sch):Enc:=(dZ x.maxBatch 2).add ((dZ x.budget 2).add ((cb x).add ((bC fA 12 x.actions).add ((bC io 8 x.tables).add ((bC i9 12 x.stages).add ((bC jU 6 x.roles).add (bC nE 8 x.refs)))))))
def mh (s:List UInt8):Prop:=s.length≤ce
def bS {α:Type} (_:α):Prop:=True
def ib (v:Nat):Prop:=v<2^128
def uX (x:SField):Prop:=mh x.name
def rC (x:SHeader):Prop:=mh x.name
def rn (x:SCase):Prop:=ib x.value∧ib x.mask
def tS (x:SState):Prop:=∀ c∈x.cases,rn c
def uA (x:SParam):Prop:=mh x.name
def xk (x:SPrim):Prop:=ib x.value
def mJ (x:SAction):Prop:=mh x.name∧(∀ p∈x.params,uA p)∧(∀ p∈x.body,xk p)∧mh x.restr
def Bv (x:SKey):Prop:=mh x.name
def oR (x:STable):Prop:=mh x.name∧(∀ k∈x.keys,Bv k)∧(∀ v∈x.dargs,ib v)∧mh x.restr
def xG (x:SRole):Prop:=mh x.name
structure OkSch (x:Sch):Prop where
 f:∀ a∈x.fields,uX a
 h:∀ a∈x.headers,rC a
 s:∀ a∈x.states,tS a
 a:∀ a∈x.actions,mJ a
 t:∀ a∈x.tables,oR a
 r:∀ a∈x.roles,xG a
theorem iY {n w:Int} (h:w=1∨w=2):1≤(dZ n w).b.length:=by
 rcases h with rfl|rfl<;>simp [dZ,fy,lK]
theorem y3 {s:List UInt8} {m:Int}:1≤(ld s m).b.length:=by
 unfold ld iL
 rw [lAq,lK];omega
theorem yv {v:Nat}:1≤(kE v).b.length:=by simp [kE,jh]
theorem EX {x:Bool}:1≤(jO x).b.length:=by simp [jO]
theorem g7 {x y:Enc} (h:1≤x.b.length):1≤(x.add y).b.length:=by rw [bL];omega
theorem yp {α:Type} {g:α→Enc} (h:∀ x,1≤(g x).b.length):∀ l:List α,l.length≤(bD g l).b.length
 |[]=>Nat.zero_le _
 |x::l=>by
  rw [bD,bL,yaz]
  have:=h x
  have:=yp h l
  omega
theorem EA (n:Int):1≤(fh n).b.length:=iY (.inr rfl)
theorem AN (x:SField):1≤(im x).b.length:=g7 (iY (.inr rfl))
theorem xp (x:SHeader):1≤(fD x).b.length:=g7 (iY (.inr rfl))
theorem CP (x:SCase):1≤(me x).b.length:=g7 yv
theorem zP (x:SState):1≤(iK x).b.length:=g7 (iY (.inr rfl))
theorem A2 (x:SParam):1≤(jx x).b.length:=g7 y3
theorem Cj (x:SPrim):1≤(ma x).b.length:=g7 (iY (.inl rfl))
theorem wG (x:SAction):1≤(fA x).b.length:=g7 (iY (.inr rfl))
theorem Gj (x:SKey):1≤(po x).b.length:=g7 y3
theorem Bb (x:STable):1≤(io x).b.length:=g7 (iY (.inr rfl))
theorem AF (x:SStage):1≤(i9 x).b.length:=g7 (iY (.inr rfl))
theorem Bg (x:SGrant):1≤(jP x).b.length:=g7 (iY (.inr rfl))
theorem C7 (x:SRole):1≤(jU x).b.length:=g7 (iY (.inr rfl))
theorem FK (x:SRef):1≤(nE x).b.length:=g7 (iY (.inr rfl))
theorem BO (v:Nat):1≤(kE v).b.length:=yv
theorem Bq (x:Bool):1≤(jO x).b.length:=EX
def eW {α:Type} (c:α→AV) (ok:α→Prop) (g:α→Enc):List AV→AHeap→(AEnd→AHeap→Prop)→Prop
 |[.ptr id 0,x],H,K=>∃ q s a,(SOn H id q s∧x=c a∧ok a∧(s.add (g a)).b.length≤ce)∧K (.ret (.tup [])) (swH H id q (s.add (g a)))
 |_,_,_=>False
def kF {α:Type} (f sz:Nat) (c:α→AV) (ok:α→Prop) (g:α→Enc):List AV→AHeap→(AEnd→AHeap→Prop)→Prop
 |[.ptr id 0,.agg [.int .i64 most,.func (.func f') [] [],.func (.func r) [] []],.slice .any sz' xs],H,K=>∃ q s l,(SOn H id q s∧f'=f∧sz'=sz∧xs=l.map c∧(∀ a∈l,ok a)∧(s.add (bC g most l)).b.length≤ce) ∧
   K (.ret (.tup [])) (swH H id q (s.add (bC g most l)))
 |_,_,_=>False
theorem ek {id q:Nat} {H:AHeap} {s:Enc} {n w:Int} {K:AEnd→AHeap→Prop} (hw:w=1∨w=2) (h:SOn H id q s) (hl:(s.add (dZ n w)).b.length≤ce) (hK:K (.ret (.tup [])) (swH H id q (s.add (dZ n w)))) :
 ye [.ptr id 0,.int .i64 n,.int .i64 w] H K:=⟨q,s,⟨h,hw,aE hl⟩,hK⟩
theorem ox {id q:Nat} {H:AHeap} {s:Enc} {x:List UInt8} {m:Int} {K:AEnd→AHeap→Prop} (hx:mh x) (h:SOn H id q s) (hl:(s.add (ld x m)).b.length≤ce) (hK:K (.ret (.tup [])) (swH H id q (s.add (ld x m)))) :
 xQ [.ptr id 0,.str x,.int .i64 m] H K:=⟨q,s,⟨h,hx,hl⟩,hK⟩
theorem ym {id q:Nat} {H:AHeap} {s:Enc} {x:Bool} {K:AEnd→AHeap→Prop} (h:SOn H id q s) (hl:(s.add (jO x)).b.length≤ce) (hK:K (.ret (.tup [])) (swH H id q (s.add (jO x)))) :
 xV [.ptr id 0,.bool x] H K:=⟨q,s,⟨h,hl⟩,hK⟩
theorem yr {id q:Nat} {H:AHeap} {s:Enc} {v:Nat} {K:AEnd→AHeap→Prop} (hv:ib v) (h:SOn H id q s) (hl:(s.add (kE v)).b.length≤ce) (hK:K (.ret (.tup [])) (swH H id q (s.add (kE v)))) :
 xd [.ptr id 0,.agg [.int .u64 ((v/2^64:Nat):Int),.int .u64 ((v % 2^64:Nat):Int)]] H K:=⟨q,s,v,⟨h,hv,rfl,rfl,hl⟩,hK⟩
theorem n9 {α:Type} {c:α→AV} {ok:α→Prop} {g:α→Enc} {id q:Nat} {H:AHeap} {s:Enc} {a:α} {K:AEnd→AHeap→Prop} (ha:ok a) (h:SOn H id q s) (hl:(s.add (g a)).b.length≤ce) (hK:K (.ret (.tup [])) (swH H id q (s.add (g a)))) :
 eW c ok g [.ptr id 0,c a] H K:=⟨q,s,a,⟨h,rfl,ha,hl⟩,hK⟩
theorem fX {α:Type} {f sz r:Nat} {c:α→AV} {ok:α→Prop} {g:α→Enc} {id q:Nat} {H:AHeap} {s:Enc} {l:List α} {m:Int} {K:AEnd→AHeap→Prop} (ha:∀ a∈l,ok a) (h:SOn H id q s) (hl:(s.add (bC g m l)).b.length≤ce) (hK:K (.ret (.tup [])) (swH H id q (s.add (bC g m l)))) :
 kF f sz c ok g [.ptr id 0,.agg [.int .i64 m,.func (.func f) [] [],.func (.func r) [] []],.slice .any sz (l.map c)] H K:=⟨q,s,l,⟨h,rfl,rfl,rfl,ha,hl⟩,hK⟩
structure WFacts (H:AHeap) (id q:Nat):Prop where
 p0:∀ t x,swH (H.push x) id q t=(swH H id q t).push x
 p1:∀ s t x,swH ((swH H id q s).push x) id q t=(swH H id q t).push x
 p2:∀ s t x y,swH (((swH H id q s).push x).push y) id q t=((swH H id q t).push x).push y
 p3:∀ s t x y z,swH ((((swH H id q s).push x).push y).push z) id q t=(((swH H id q t).push x).push y).push z
 pp:∀ s t,swH (swH H id q s) id q t=swH H id q t
theorem SOn.facts {H:AHeap} {id q:Nat} {s:Enc} (h:SOn H id q s):WFacts H id q:=by
 have h1:=glq h.o
 have h2:=glq h.bu
 refine ⟨fun t x=>ky h1 h2,fun s t x=>?_,fun s t x y=>?_,fun s t x y z=>?_,fun s t=>qA h.ne⟩
 ·rw [ky (by exact h1) (by exact h2),qA h.ne]
 ·rw [ky (by rw [zle];exact Nat.lt_succ_of_lt h1) (by rw [zle];exact Nat.lt_succ_of_lt h2),ky (by exact h1) (by exact h2),qA h.ne]
 ·rw [ky (by rw [zle,zle];exact Nat.lt_succ_of_lt (Nat.lt_succ_of_lt h1)) (by rw [zle,zle];exact Nat.lt_succ_of_lt (Nat.lt_succ_of_lt h2)),
   ky (by rw [zle];exact Nat.lt_succ_of_lt h1) (by rw [zle];exact Nat.lt_succ_of_lt h2),ky (by exact h1) (by exact h2),qA h.ne]
end Go.AL
