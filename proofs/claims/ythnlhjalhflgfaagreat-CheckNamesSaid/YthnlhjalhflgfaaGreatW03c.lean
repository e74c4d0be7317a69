/- Lemmas of the proof; no condition. -/
import Derived.Test.YthnlhjalhflgfaaGreatCL
import Derived.Test.YthnlhjalhflgfaaGreatS10e
set_option linter.all false
set_option maxRecDepth 10000
set_option maxHeartbeats 32000000
open List renaming nil_append → yak, cons_append → yal, length_cons → yaz, length_nil → yba, take_of_length_le → ybc, drop_append → ybd, take_append → ybe, drop_eq_nil_of_le → ybf, take_zero → yar
open Go Go.AL Go.Proofs
namespace Go.AL
theorem Jj:ti Tryz.prog 121=some ⟨.struct [(0,22,false),(1,4,false),(2,4,false),(3,4,false)],4,32,.agg [.slice .nil 1 [],.bool false,.bool false,.bool false]⟩:=by kernel_rfl
theorem Eh:ti Tryz.prog 124=some ⟨.ptr 121,1,8,.nilp⟩:=by kernel_rfl
attribute [go_sem] Jj Eh
def rg (n w:Int):Bool:=decide (0≤n∧n<256^w.toNat)
theorem Kj {x:Nat} (h:x<2^128):isV ((x/2^64:Nat):Int) ((x % 2^64:Nat):Int)=True:=eq_true (by unfold isV;omega)
theorem dz {α:Type} {f:α→AV} {l:List α} {k:Nat} {x:α} (hx:l[k]?=some x):(l.map f).getD k .junk=f x:=by
 simp [gEq,hx]
structure Enc where
 b:List UInt8
 l:Bool
 f:Bool
 a:Bool
def Enc.add (x y:Enc):Enc:=⟨x.b++y.b,x.l||y.l,x.f||y.f,x.a||y.a⟩
def enc0:Enc:=⟨[],false,false,false⟩
theorem aR (x y z:Enc):(x.add y).add z=x.add (y.add z):=by simp [Enc.add,List.append_assoc,Bool.or_assoc]
theorem d9 (x:Enc):x.add enc0=x:=by simp [Enc.add,enc0]
theorem wA (x:Enc):enc0.add x=x:=by simp [Enc.add,enc0]
theorem aQ (x y:Enc):(x.add y).b.length=x.b.length+y.b.length:=lAq
def jI (c:UInt8):Bool:=decide ((c.toNat:Int)<32)||decide ((c.toNat:Int) > 126)
def eH (n w:Int):Enc:=⟨jz n w,false,false,!rg n w⟩
def iS (s:List UInt8) (most:Int):Enc:=⟨lG s,decide ((s.length:Int) > most),s.any jI,false⟩
def jH (v:Nat):Enc:=⟨mH v,false,false,false⟩
def jw (x:Bool):Enc:=⟨[if x then 1 else 0],false,false,false⟩
def d7 (n:Nat) (most:Int):Enc:=⟨jz (n:Int) 2,decide ((n:Int) > most),false,false⟩
def bR {α:Type} (g:α→Enc):List α→Enc
 |[]=>enc0
 |x::l=>(g x).add (bR g l)
theorem sL {α:Type} (g:α→Enc):∀ l k:List α,bR g (l++k)=(bR g l).add (bR g k)
 |[],k=>by rw [yak,bR,wA]
 |x::l,k=>by rw [yal,bR,bR,sL g l k,aR]
theorem AQ {α:Type} (g:α→Enc) (l:List α) (x:α):bR g (l++[x])=(bR g l).add (g x):=by
 rw [sL,bR,bR,d9]
theorem AJ {α:Type} (g:α→Enc) (l:List α) (k:Nat):(bR g (l.take k)).b.length≤(bR g l).b.length:=by
 have h:=sL g (l.take k) (l.drop k)
 rw [List.take_append_drop] at h
 rw [h,aQ];omega
def bF {α:Type} (g:α→Enc) (most:Int) (l:List α):Enc:=(d7 l.length most).add (bR g l)
structure SOn (H:AHeap) (id q:Nat) (s:Enc):Prop where
 o:H.get id=some (.cells [.slice (.own q) 1 (bys s.b),.bool s.l,.bool s.f,.bool s.a])
 bu:H.get q=some (.buf 1 s.b.length)
def swH (H:AHeap) (id q:Nat) (s:Enc):AHeap:=(H.set q (.buf 1 s.b.length)).set id (.cells [.slice (.own q) 1 (bys s.b),.bool s.l,.bool s.f,.bool s.a])
theorem SOn.ne {H:AHeap} {id q:Nat} {s:Enc} (h:SOn H id q s):id≠q:=fun e=>by
 have h1:=h.o
 rw [e,h.bu] at h1;cases h1
theorem SOn.closed {H:AHeap} {id q:Nat} {s:Enc} (h:SOn H id q s) (hc:H.Closed) (t:Enc):(swH H id q t).Closed:=by
 refine ba (bh hc) ?_
 have hq:=glq h.bu
 simp only [znu,znv,and_true,zlf,zms,zng]
 intro i e;cases e;exact hq
theorem SOn.next {H:AHeap} {id q:Nat} {s:Enc} (h:SOn H id q s) (t:Enc):SOn (swH H id q t) id q t:=by
 have h1:=glq h.o
 have h2:=glq h.bu
 unfold swH
 refine ⟨?_,?_⟩
 ·rw [AHeap.get_set_same _ _ (by rw [zlf];exact h1)]
 ·rw [AHeap.get_set_ne _ _ (fun e=>h.ne e.symm),AHeap.get_set_same _ _ h2]
theorem qO {H:AHeap} {id q:Nat} {s t:Enc} (h:id≠q):swH (swH H id q s) id q t=swH H id q t:=by
 unfold swH AHeap.set
 dsimp only
 congr 1
 funext j
 by_cases h1:j=id
 ·simp [h1]
 ·by_cases h2:j=q<;>simp [h1,h2]
theorem az {H:AHeap} {id q:Nat} {s:Enc}:(swH H id q s).nx=H.nx:=rfl
theorem SOn.push {H:AHeap} {id q:Nat} {s:Enc} (h:SOn H id q s) (x:AObj):SOn (H.push x) id q s :=
 ⟨by rw [gPq _ _ (glq h.o)];exact h.o,by rw [gPq _ _ (glq h.bu)];exact h.bu⟩
theorem j6 {H:AHeap} {id q:Nat} {s:Enc} {x:AObj} (h1:id<H.nx) (h2:q<H.nx):swH (H.push x) id q s=(swH H id q s).push x:=by
 unfold swH AHeap.set AHeap.push
 dsimp only
 congr 1
 funext j
 by_cases e1:j=id
 ·have:id≠H.nx:=by omega
  simp [e1,this]
 ·by_cases e2:j=q
  ·have:q≠H.nx:=by omega
   simp [e1,e2,this]
  ·simp [e1,e2]
theorem A2 {H:AHeap} {id q j:Nat} {s:Enc} (h1:j≠id) (h2:j≠q):aI (swH H id q s) j=aI H j:=by
 unfold aI swH
 rw [AHeap.get_set_ne _ _ h1,AHeap.get_set_ne _ _ h2]
def xu:List AV→AHeap→(AEnd→AHeap→Prop)→Prop
 |[.ptr id 0,.int .i64 n,.int .i64 w],H,K=>∃ q s,(SOn H id q s∧(w=1∨w=2)∧s.b.length≤100000000000000)∧K (.ret (.tup [])) (swH H id q (s.add (eH n w)))
 |_,_,_=>False
theorem MR {n w:Int} (h:n<0):rg n w=false:=dfq fun h'=>by omega
theorem OW {n:Int} (h:¬ n<0):(!rg n 1)=decide (n ≥ 256):=by
 unfold rg
 by_cases h':n<256
 ·rw [dtq (by exact ⟨by omega,h'⟩),dfq (by omega)];rfl
 ·rw [dfq (fun x=>h' x.2),dtq (by omega)];rfl
theorem OT {n:Int} (h:¬ n<0):(!rg n 2)=decide (n ≥ 65536):=by
 unfold rg
 by_cases h':n<65536
 ·rw [dtq (by exact ⟨by omega,h'⟩),dfq (by omega)];rfl
 ·rw [dfq (fun x=>h' x.2),dtq (by omega)];rfl
theorem fS:EntOk Tryz.prog 58 (Ent.effect xu):=by
 refine EntOk.effect fun args H K h=>?_
 unfold xu at h
 split at h
 rotate_left
 ·exact h.elim
 rename_i id n w
 obtain ⟨q,s,⟨hW,hw,hl⟩,hK⟩:=h
 refine ⟨_,_,hK,?_⟩
 clear hK
 have hcl0:=hW.closed (t:=s.add (eH n w))
 obtain ⟨b,sl,sf,sa⟩:=s
 simp only [Enc.add,eH,Bool.or_false] at hcl0 ⊢
 have l1:=cO n w
 dsimp only at hl
 have hid:=glq hW.o
 have hq:=glq hW.bu
 have hne:=cz hid
 have hneq:=cz hq
 have n1:(id=q)=False:=eq_false hW.ne
 have n2:(q=id)=False:=eq_false fun e=>hW.ne e.symm
 have hcs:=ag hW.o
 have hb0:=hW.bu
 have hi0:=hW.o
 have hnn:=hW.ne
 dsimp only at hcs hb0 hi0
 refine ACalls.fW ap (tCq cb tNq) Tryz.func58 [] (by unfold swH;simp only [zlf];omega) (T:=aj [(1,[[],[],[],[],[],[],[],[],[4,7],[],[],[4,7]])]) (h:=fun hcl hlt=>?_)
 clear hlt
 have hcl1:=hcl0 hcl
 have hcm:=fun cs=>@bA H id cs hid
 have hA:∀ X Y,aI ((H.set id (.cells X)).set q Y) id=some X:=fun X Y=>by
  unfold aI;rw [AHeap.get_set_ne _ _ hnn,AHeap.get_set_same _ _ hid]
 have hB:∀ X,(H.set id X).get q=some (.buf 1 b.length):=fun X=>by rw [AHeap.get_set_ne _ _ (fun e=>hnn e.symm)];exact hb0
 have eh:∀ X Y Z,((H.set id X).set q Y).set id Z=(H.set q Y).set id Z:=fun X Y Z=>by
  unfold AHeap.set;congr 1;funext j;dsimp only;by_cases h1:j=id<;>simp [h1]
 unfold swH at hcl1 ⊢
 dsimp only at hcl1 ⊢
 have hlb:(b++jz n w).length=b.length+(jz n w).length:=lAq
 have s1:IntKind.u64.wrap (IntKind.i64.wrap 8)=8:=by decide
 have s2:yK .i64 1 8=256:=by decide
 have s3:IntKind.u64.wrap (IntKind.i64.wrap 16)=16:=by decide
 have s4:yK .i64 1 16=65536:=by decide
 cases sa
 ·by_cases h0:n<0
  ·have d0:decide (n<0)=true:=dtq h0
   rw [MR h0,Bool.not_false,Bool.or_true] at hcl1 ⊢
   simp only [go_sem,byq,d0,hne,hneq,n1,n2,hcs,hcm,hA,hB,eh,hi0,hb0,aW,Bool.false_or] at hcl1 ⊢
   (repeat with_reducible refine And.intro (by first|assumption|decide|omega|exact ⟨by omega,by omega⟩) ?_)
   rw [hlb] at hcl1
   exact Z14
  ·have d0:decide (n<0)=false:=dfq h0
   rcases hw with rfl|rfl
   ·rw [OW h0,Bool.false_or] at hcl1 ⊢
    simp only [go_sem,byq,d0,s1,s2,hne,hneq,n1,n2,hcs,hcm,hA,hB,eh,hi0,hb0,aW,Bool.false_or] at hcl1 ⊢
    (repeat with_reducible refine And.intro (by first|assumption|decide|omega|exact ⟨by omega,by omega⟩) ?_)
    rw [hlb] at hcl1
    exact Z14
   ·rw [OT h0,Bool.false_or] at hcl1 ⊢
    simp only [go_sem,byq,d0,s3,s4,hne,hneq,n1,n2,hcs,hcm,hA,hB,eh,hi0,hb0,aW,Bool.false_or] at hcl1 ⊢
    (repeat with_reducible refine And.intro (by first|assumption|decide|omega|exact ⟨by omega,by omega⟩) ?_)
    rw [hlb] at hcl1
    exact Z14
 ·simp only [go_sem,byq,hne,hneq,n1,n2,hcs,hcm,hA,hB,eh,hi0,hb0,aW,Bool.true_or] at hcl1 ⊢
  (repeat with_reducible refine And.intro (by first|assumption|decide|omega|exact ⟨by omega,by omega⟩) ?_)
  rw [hlb] at hcl1
  exact Z14
def cG:Nat:=100000000000000
theorem br:cG=100000000000000:=rfl
theorem bb {x y:Enc} (h:(x.add y).b.length≤cG):x.b.length≤cG:=by rw [aQ] at h;omega
theorem SOn.same {H:AHeap} {id q:Nat} {s:Enc} (h:SOn H id q s):swH H id q s=H:=by
 have h1:=dr h.bu
 unfold swH
 rw [h1]
 exact dr h.o
def yP:List AV→AHeap→(AEnd→AHeap→Prop)→Prop
 |[.ptr id 0,.bool x],H,K=>∃ q s,(SOn H id q s∧(s.add (jw x)).b.length≤cG)∧K (.ret (.tup [])) (swH H id q (s.add (jw x)))
 |_,_,_=>False
theorem uO:EntOk Tryz.prog 227 (Ent.effect yP):=by
 refine EntOk.effect fun args H K h=>?_
 unfold yP at h
 split at h
 rotate_left
 ·exact h.elim
 rename_i id x
 obtain ⟨q,s,⟨hW,hl⟩,hK⟩:=h
 refine ⟨_,_,hK,?_⟩
 clear hK
 have hcl0:=hW.closed (t:=s.add (jw x))
 rw [br] at hl
 obtain ⟨b,sl,sf,sa⟩:=s
 simp only [Enc.add,jw,Bool.or_false,lAq,List.length_singleton] at hcl0 hl ⊢
 have hid:=glq hW.o
 have hq:=glq hW.bu
 have hne:=cz hid
 have hneq:=cz hq
 have n1:(id=q)=False:=eq_false hW.ne
 have n2:(q=id)=False:=eq_false fun e=>hW.ne e.symm
 have hcs:=ag hW.o
 have hb0:=hW.bu
 have hi0:=hW.o
 have hnn:=hW.ne
 dsimp only at hcs hb0 hi0
 refine ACalls.fW ap (tCq s5 tNq) Tryz.func227 [] (by unfold swH;simp only [zlf];omega) (T:=aj [(0,[[],[],[],[],[],[],[],[4,6],[],[],[4,6]])]) (h:=fun hcl hlt=>?_)
 clear hlt
 have hcl1:=hcl0 hcl
 have hcm:=fun cs=>@bA H id cs hid
 have hA:∀ X Y,aI ((H.set id (.cells X)).set q Y) id=some X:=fun X Y=>by
  unfold aI;rw [AHeap.get_set_ne _ _ hnn,AHeap.get_set_same _ _ hid]
 have hA0:∀ Y,aI (H.set q Y) id=aI H id:=fun Y=>by
  unfold aI;rw [AHeap.get_set_ne _ _ hnn]
 have hB:∀ X,(H.set id X).get q=some (.buf 1 b.length):=fun X=>by rw [AHeap.get_set_ne _ _ (fun e=>hnn e.symm)];exact hb0
 have eh:∀ X Y Z,((H.set id X).set q Y).set id Z=(H.set q Y).set id Z:=fun X Y Z=>by
  unfold AHeap.set;congr 1;funext j;dsimp only;by_cases h1:j=id<;>simp [h1]
 unfold swH at hcl1 ⊢
 dsimp only at hcl1 ⊢
 simp only [go_sem,byq,hne,hneq,n1,n2,hcs,hcm,hA,hA0,hB,eh,hi0,hb0,lH] at hcl1 ⊢
 (repeat with_reducible refine And.intro (by first|assumption|decide|omega|exact ⟨by omega,by omega⟩) ?_)
 simp (disch:=first|exact Zd|omega) [↓zmo,beq,ybc,ybd,ybe,aa,wk,wk2,wk1,wkM,wkL,ae,ybf,hcl1]
 first|done|exact hcl1|simpa using hcl1
def yr:List AV→AHeap→(AEnd→AHeap→Prop)→Prop
 |[.ptr id 0,.agg [.int .u64 hi,.int .u64 lo]],H,K=>∃ q s v,(SOn H id q s∧v<2^128∧hi=((v/2^64:Nat):Int)∧lo=((v % 2^64:Nat):Int)∧(s.add (jH v)).b.length≤cG)∧K (.ret (.tup [])) (swH H id q (s.add (jH v)))
 |_,_,_=>False
theorem uu:EntOk Tryz.prog 303 (Ent.effect yr):=by
 refine EntOk.effect fun args H K h=>?_
 unfold yr at h
 split at h
 rotate_left
 ·exact h.elim
 rename_i id hi lo
 obtain ⟨q,s,v,⟨hW,hv,rfl,rfl,hl⟩,hK⟩:=h
 refine ⟨_,_,hK,?_⟩
 clear hK
 have iv:=Kj hv
 have hcl0:=hW.closed (t:=s.add (jH v))
 rw [br] at hl
 obtain ⟨b,sl,sf,sa⟩:=s
 simp only [Enc.add,jH,Bool.or_false,lAq,List.length_singleton] at hcl0 hl ⊢
 have hid:=glq hW.o
 have hq:=glq hW.bu
 have hne:=cz hid
 have hneq:=cz hq
 have n1:(id=q)=False:=eq_false hW.ne
 have n2:(q=id)=False:=eq_false fun e=>hW.ne e.symm
 have hcs:=ag hW.o
 have hb0:=hW.bu
 have hi0:=hW.o
 have hnn:=hW.ne
 dsimp only at hcs hb0 hi0
 refine ACalls.fW ap (tCq rf tNq) Tryz.func303 [] (by unfold swH;simp only [zlf];omega) (T:=aj [(1,[[],[],[],[],[],[],[5],[4,5,6],[],[],[4,5,6]])]) (h:=fun hcl hlt=>?_)
 clear hlt
 have hcl1:=hcl0 hcl
 have hcm:=fun cs=>@bA H id cs hid
 have hA:∀ X Y,aI ((H.set id (.cells X)).set q Y) id=some X:=fun X Y=>by
  unfold aI;rw [AHeap.get_set_ne _ _ hnn,AHeap.get_set_same _ _ hid]
 have hA0:∀ Y,aI (H.set q Y) id=aI H id:=fun Y=>by
  unfold aI;rw [AHeap.get_set_ne _ _ hnn]
 have hB:∀ X,(H.set id X).get q=some (.buf 1 b.length):=fun X=>by rw [AHeap.get_set_ne _ _ (fun e=>hnn e.symm)];exact hb0
 have eh:∀ X Y Z,((H.set id X).set q Y).set id Z=(H.set q Y).set id Z:=fun X Y Z=>by
  unfold AHeap.set;congr 1;funext j;dsimp only;by_cases h1:j=id<;>simp [h1]
 unfold swH at hcl1 ⊢
 dsimp only at hcl1 ⊢
 simp only [go_sem,byq,hne,hneq,n1,n2,hcs,hcm,hA,hA0,hB,eh,hi0,hb0,kK,iv,iNq,mQ] at hcl1 ⊢
 (repeat with_reducible refine And.intro (by first|assumption|decide|omega|exact ⟨by omega,by omega⟩) ?_)
 simp (disch:=first|exact Zd|omega) [↓zmo,beq,ybc,ybd,ybe,aa,wk,wk2,wk1,wkM,wkL,ae,ybf,hcl1]
 first|done|exact hcl1|simpa using hcl1
def yZ:List AV→AHeap→(AEnd→AHeap→Prop)→Prop
 |[.ptr id 0,.str x,.int .i64 most],H,K=>∃ q s,(SOn H id q s∧x.length≤cG∧(s.add (iS x most)).b.length≤cG)∧K (.ret (.tup [])) (swH H id q (s.add (iS x most)))
 |_,_,_=>False
theorem nw {α:Type} {p:α→Bool} {l:List α} {k:Nat} (h:k<l.length):(l.take (k+1)).any p=((l.take k).any p||p l[k]):=by
 rw [List.take_succ_eq_append_getElem h,List.any_append,List.any_cons,List.any_nil,Bool.or_false]
def swC (q:Nat) (b:List UInt8) (l f a:Bool):List AV:=[.slice (.own q) 1 (bys b),.bool l,.bool f,.bool a]
theorem lD:EntOk Tryz.prog 192 (Ent.effect yZ):=by
 refine EntOk.effect fun args H K h=>?_
 unfold yZ at h
 split at h
 rotate_left
 ·exact h.elim
 rename_i id x most
 obtain ⟨q,s,⟨hW,hx,hl⟩,hK⟩:=h
 refine ⟨_,_,hK,?_⟩
 clear hK
 have hcl0:=fun t=>hW.closed (t:=t)
 rw [br] at hl hx
 obtain ⟨b,sl,sf,sa⟩:=s
 simp only [Enc.add,iS,Bool.or_false,lAq] at hl ⊢
 have hid:=glq hW.o
 have hq:=glq hW.bu
 have hne:=cz hid
 have hneq:=cz hq
 have n1:(id=q)=False:=eq_false hW.ne
 have n2:(q=id)=False:=eq_false fun e=>hW.ne e.symm
 have hcs:=ag hW.o
 have hb0:=hW.bu
 have hi0:=hW.o
 have hnn:=hW.ne
 dsimp only at hcs hb0 hi0
 refine ACalls.fW ap (tCq tt tNq) Tryz.func192 [] (by unfold swH;simp only [zlf];omega) (T:=aj [(6,[[],[],[],[],[],[],[],[4,6],[],[],[4,6]])]) (h:=fun hcl hlt=>?_)
 clear hlt
 have hcl1:=fun t=>hcl0 t hcl
 have hcm:=fun cs=>@bA H id cs hid
 have hgm:=fun o=>@s6 H id o hid
 have hA:∀ X Y,aI ((H.set id (.cells X)).set q Y) id=some X:=fun X Y=>by
  unfold aI;rw [AHeap.get_set_ne _ _ hnn,AHeap.get_set_same _ _ hid]
 have hB:∀ X,(H.set id X).get q=some (.buf 1 b.length):=fun X=>by rw [AHeap.get_set_ne _ _ (fun e=>hnn e.symm)];exact hb0
 have eh:∀ X Y Z,((H.set id X).set q Y).set id Z=(H.set q Y).set id Z:=fun X Y Z=>by
  unfold AHeap.set;congr 1;funext j;dsimp only;by_cases h1:j=id<;>simp [h1]
 have hclk:∀ L F,(H.set id (.cells (swC q b L F sa))).Closed:=fun L F=>by
  have:=hcl1 ⟨b,L,F,sa⟩
  unfold swH at this
  dsimp only at this
  rw [dr hb0] at this
  exact this
 have hend:=hcl1 ⟨b++lG x,sl||decide ((x.length:Int) > most),sf||x.any jI,sa⟩
 have e0:(sf||(x.take 0).any jI)=sf:=by rw [yar,List.any_nil,Bool.or_false]
 have hL2:sl=true→(sl||decide ((x.length:Int) > most))=true:=fun h=>by rw [h,Bool.true_or]
 have hL3:sl=false→decide ((x.length:Int) > most)=(sl||decide ((x.length:Int) > most)):=fun h=>by rw [h,Bool.false_or]
 generalize (sl||decide ((x.length:Int) > most))=L at *
 cases sl
 ·simp only [go_sem,byq,hne,hneq,n1,n2,hcs,hcm,hA,hB,eh,hi0,hb0,hL3 rfl]
  try (repeat with_reducible refine Yq ?_)
  refine aD (A:=Nat) (fun k=>[(0,.ptr id 0),(1,.str x),(22,.slice .any 1 (bys x)),(23,.int .i64 (x.length:Int)),(24,.int .i64 (k:Int))]) (fun k=>H.set id (.cells (swC q b L (sf||(x.take k).any jI) sa))) (fun k=>k≤x.length) (fun k=>x.length - k) 0 (by omega) ?_ fun k hk=>?_
  ·rw [e0]
   refine ⟨by simp only [zkq,zkv,zlf,swH];omega,by repeat first|exact .refl _|refine .push ?_ _,hclk _ _,?_,?_⟩
   ·simp [ltF,zlf,znn,znf,znh,zms]
    omega
   ·simp [bk,wk2,wk1,wkM,Fr.get]
  simp only [go_sem]
  refine ak (fun hc=>?_) (fun hc=>?_)
  ·have hk':k<x.length:=by simp at hc;omega
   have hg:=uX hk'
   have e5:=Yk5 k
   have ht:=nw (p:=jI) hk'
   have hgd:x.getD k 0=x[k]:=by simp [gEq,hk']
   rw [hgd] at hg
   have hT:(sf||(x.take (k+1)).any jI)=((sf||(x.take k).any jI)||jI x[k]):=by rw [ht,Bool.or_assoc]
   generalize (sf||(x.take k).any jI)=F at *
   generalize x[k]=c at *
   have hfin:∀ F',F'=(F||jI c)→F'=(sf||(x.take (k+1)).any jI):=fun F' h=>by rw [h,hT]
   cases F
   ·by_cases hc1:(c.toNat:Int)<32
    ·have d1:decide ((c.toNat:Int)<32)=true:=dtq hc1
     simp only [go_sem,byq,swC,hne,hneq,n1,n2,hcs,hcm,hA,hB,eh,hi0,hb0,iNq,zlk,hg,bC,d1,e5]
     (repeat with_reducible refine And.intro (by first|assumption|decide|omega|simp) ?_)
     refine ⟨k+1,by omega,by omega,by simp only [zkq,zkv,zlf,swH];omega,?_,hclk _ _,?_,?_⟩
     ·rw [← hfin true (by simp [jI,d1])]
      repeat first|exact .refl _|refine .push ?_ _
     ·simp [ltF,zlf,znn,znf,znh,zms]
      omega
     ·simp [bk,wk2,wk1,wkM,Fr.get]
    ·have d1:decide ((c.toNat:Int)<32)=false:=dfq hc1
     simp only [go_sem,byq,swC,hne,hneq,n1,n2,hcs,hcm,hA,hB,eh,hi0,hb0,iNq,zlk,hg,bC,d1,e5]
     (repeat with_reducible refine And.intro (by first|assumption|decide|omega|simp) ?_)
     refine ⟨k+1,by omega,by omega,by simp only [zkq,zkv,zlf,swH];omega,?_,hclk _ _,?_,?_⟩
     ·rw [← hfin _ (show decide ((c.toNat:Int) > 126)=_ by simp [jI,d1])]
      repeat first|exact .refl _|refine .push ?_ _
     ·simp [ltF,zlf,znn,znf,znh,zms]
      omega
     ·simp [bk,wk2,wk1,wkM,Fr.get]
   ·simp only [go_sem,byq,swC,hne,hneq,n1,n2,hcs,hcm,hA,hB,eh,hi0,hb0,iNq,zlk,hg,bC,e5]
    (repeat with_reducible refine And.intro (by first|assumption|decide|omega|simp) ?_)
    refine ⟨k+1,by omega,by omega,by simp only [zkq,zkv,zlf,swH];omega,?_,hclk _ _,?_,?_⟩
    ·rw [← hfin true (by simp)]
     repeat first|exact .refl _|refine .push ?_ _
    ·simp [ltF,zlf,znn,znf,znh,zms]
     omega
    ·simp [bk,wk2,wk1,wkM,Fr.get]
  ·have hk':k=x.length:=by simp at hc;omega
   subst hk'
   rw [List.take_length]
   unfold swH at hend ⊢
   dsimp only at hend ⊢
   simp only [go_sem,byq,swC,hne,hneq,n1,n2,hcs,hcm,hA,hB,eh,hi0,hb0,jB] at hend ⊢
   (repeat with_reducible refine And.intro (by first|assumption|decide|omega|exact ⟨by omega,by omega⟩|exact ⟨by omega,by omega,by omega⟩) ?_)
   rw [lAq] at hend
   simp (disch:=first|exact Zd|omega) [↓zmo,beq,ybc,ybd,ybe,aa,wk,wk2,wk1,wkM,wkL,ae,ybf,hend,lAq]
   first|done|exact hend|simpa using hend
 ·obtain rfl:L=true:=hL2 rfl
  simp only [go_sem,byq,hne,hneq,n1,n2,hcs,hcm,hA,hB,eh,hi0,hb0]
  try (repeat with_reducible refine Yq ?_)
  refine aD (A:=Nat) (fun k=>[(0,.ptr id 0),(1,.str x),(22,.slice .any 1 (bys x)),(23,.int .i64 (x.length:Int)),(24,.int .i64 (k:Int))]) (fun k=>H.set id (.cells (swC q b true (sf||(x.take k).any jI) sa))) (fun k=>k≤x.length) (fun k=>x.length - k) 0 (by omega) ?_ fun k hk=>?_
  ·rw [e0]
   refine ⟨by simp only [zkq,zkv,zlf,swH];omega,by repeat first|exact .refl _|refine .push ?_ _,hclk _ _,?_,?_⟩
   ·simp [ltF,zlf,znn,znf,znh,zms]
    omega
   ·simp [bk,wk2,wk1,wkM,Fr.get]
  simp only [go_sem]
  refine ak (fun hc=>?_) (fun hc=>?_)
  ·have hk':k<x.length:=by simp at hc;omega
   have hg:=uX hk'
   have e5:=Yk5 k
   have ht:=nw (p:=jI) hk'
   have hgd:x.getD k 0=x[k]:=by simp [gEq,hk']
   rw [hgd] at hg
   have hT:(sf||(x.take (k+1)).any jI)=((sf||(x.take k).any jI)||jI x[k]):=by rw [ht,Bool.or_assoc]
   generalize (sf||(x.take k).any jI)=F at *
   generalize x[k]=c at *
   have hfin:∀ F',F'=(F||jI c)→F'=(sf||(x.take (k+1)).any jI):=fun F' h=>by rw [h,hT]
   cases F
   ·by_cases hc1:(c.toNat:Int)<32
    ·have d1:decide ((c.toNat:Int)<32)=true:=dtq hc1
     simp only [go_sem,byq,swC,hne,hneq,n1,n2,hcs,hcm,hA,hB,eh,hi0,hb0,iNq,zlk,hg,bC,d1,e5]
     (repeat with_reducible refine And.intro (by first|assumption|decide|omega|simp) ?_)
     refine ⟨k+1,by omega,by omega,by simp only [zkq,zkv,zlf,swH];omega,?_,hclk _ _,?_,?_⟩
     ·rw [← hfin true (by simp [jI,d1])]
      repeat first|exact .refl _|refine .push ?_ _
     ·simp [ltF,zlf,znn,znf,znh,zms]
      omega
     ·simp [bk,wk2,wk1,wkM,Fr.get]
    ·have d1:decide ((c.toNat:Int)<32)=false:=dfq hc1
     simp only [go_sem,byq,swC,hne,hneq,n1,n2,hcs,hcm,hA,hB,eh,hi0,hb0,iNq,zlk,hg,bC,d1,e5]
     (repeat with_reducible refine And.intro (by first|assumption|decide|omega|simp) ?_)
     refine ⟨k+1,by omega,by omega,by simp only [zkq,zkv,zlf,swH];omega,?_,hclk _ _,?_,?_⟩
     ·rw [← hfin _ (show decide ((c.toNat:Int) > 126)=_ by simp [jI,d1])]
      repeat first|exact .refl _|refine .push ?_ _
     ·simp [ltF,zlf,znn,znf,znh,zms]
      omega
     ·simp [bk,wk2,wk1,wkM,Fr.get]
   ·simp only [go_sem,byq,swC,hne,hneq,n1,n2,hcs,hcm,hA,hB,eh,hi0,hb0,iNq,zlk,hg,bC,e5]
    (repeat with_reducible refine And.intro (by first|assumption|decide|omega|simp) ?_)
    refine ⟨k+1,by omega,by omega,by simp only [zkq,zkv,zlf,swH];omega,?_,hclk _ _,?_,?_⟩
    ·rw [← hfin true (by simp)]
     repeat first|exact .refl _|refine .push ?_ _
    ·simp [ltF,zlf,znn,znf,znh,zms]
     omega
    ·simp [bk,wk2,wk1,wkM,Fr.get]
  ·have hk':k=x.length:=by simp at hc;omega
   subst hk'
   rw [List.take_length]
   unfold swH at hend ⊢
   dsimp only at hend ⊢
   simp only [go_sem,byq,swC,hne,hneq,n1,n2,hcs,hcm,hA,hB,eh,hi0,hb0,jB] at hend ⊢
   (repeat with_reducible refine And.intro (by first|assumption|decide|omega|exact ⟨by omega,by omega⟩|exact ⟨by omega,by omega,by omega⟩) ?_)
   rw [lAq] at hend
   simp (disch:=first|exact Zd|omega) [↓zmo,beq,ybc,ybd,ybe,aa,wk,wk2,wk1,wkM,wkL,ae,ybf,hend,lAq]
   first|done|exact hend|simpa using hend
def kc (n:Int):Enc:=eH n 2
def fp (x:SField):Enc:=(eH x.id 2).add ((iS x.name 24).add (eH x.bits 1))
def g9 (x:SHeader):Enc:=(eH x.id 2).add ((iS x.name 24).add (bF kc 32 x.fields))
def mh (x:SCase):Enc:=(jH x.value).add ((jH x.mask).add (eH x.next 2))
def jt (x:SState):Enc:=(eH x.id 2).add ((eH x.header 2).add ((eH x.select 2).add ((bF mh 6 x.cases).add (eH x.dflt 2))))
def jZ (x:SParam):Enc:=(iS x.name 24).add (eH x.bits 1)
def mb (x:SPrim):Enc:=(eH x.op 1).add ((eH x.dst 2).add ((eH x.kind 1).add ((eH x.n 2).add (jH x.value))))
def hG (x:SAction):Enc:=(eH x.id 2).add ((iS x.name 24).add ((bF jZ 4 x.params).add ((bF mb 12 x.body).add (iS x.restr 400))))
def sy (x:SKey):Enc:=(iS x.name 24).add ((eH x.field 2).add (eH x.kind 1))
def jv (x:STable):Enc:=(eH x.id 2).add ((iS x.name 24).add ((bF sy 4 x.keys).add ((bF kc 12 x.actions).add ((eH x.dflt 2).add ((bF jH 4 x.dargs).add ((eH x.size 2).add (iS x.restr 400)))))))
def ju (x:SStage):Enc:=(eH x.table 2).add (eH x.header 2)
def jP (x:SGrant):Enc:=(eH x.table 2).add ((jw x.read).add ((jw x.write).add (bF jw 4 x.keys)))
def kL (x:SRole):Enc:=(eH x.id 2).add ((iS x.name 24).add ((bF jP 8 x.grants).add ((bF kc 12 x.actions).add ((eH x.quota 2).add (jw x.audit)))))
def pK (x:SRef):Enc:=(eH x.table 2).add ((eH x.key 1).add ((eH x.action 2).add ((eH x.param 1).add ((eH x.toTable 2).add (eH x.toKey 1)))))
def ng (x:Sch):Enc:=(bF fp 32 x.fields).add ((bF g9 8 x.headers).add (bF jt 12 x.states))
def fe (x:Sch):Enc:=(eH x.maxBatch 2).add ((eH x.budget 2).add ((ng x).add ((bF hG 12 x.actions).add ((bF jv 8 x.tables).add ((bF ju 12 x.stages).add ((bF kL 6 x.roles).add (bF pK 8 x.refs)))))))
def mt (s:List UInt8):Prop:=s.length≤cG
def pn {α:Type} (_:α):Prop:=True
def jW (v:Nat):Prop:=v<2^128
def vf (x:SField):Prop:=mt x.name
def sK (x:SHeader):Prop:=mt x.name
def nK (x:SCase):Prop:=jW x.value∧jW x.mask
def uW (x:SState):Prop:=∀ c∈x.cases,nK c
def uS (x:SParam):Prop:=mt x.name
def sw (x:SPrim):Prop:=jW x.value
def mO (x:SAction):Prop:=mt x.name∧(∀ p∈x.params,uS p)∧(∀ p∈x.body,sw p)∧mt x.restr
def GZ (x:SKey):Prop:=mt x.name
def pi (x:STable):Prop:=mt x.name∧(∀ k∈x.keys,GZ k)∧(∀ v∈x.dargs,jW v)∧mt x.restr
def xK (x:SRole):Prop:=mt x.name
structure OkSch (x:Sch):Prop where
 f:∀ a∈x.fields,vf a
 h:∀ a∈x.headers,sK a
 s:∀ a∈x.states,uW a
 a:∀ a∈x.actions,mO a
 t:∀ a∈x.tables,pi a
 r:∀ a∈x.roles,xK a
theorem iz {n w:Int} (h:w=1∨w=2):1≤(eH n w).b.length:=by
 rcases h with rfl|rfl<;>simp [eH,jz,nZ]
theorem zC {s:List UInt8} {m:Int}:1≤(iS s m).b.length:=by
 unfold iS lG
 rw [lAq,nZ];omega
theorem Ac {v:Nat}:1≤(jH v).b.length:=by simp [jH,mH]
theorem ID {x:Bool}:1≤(jw x).b.length:=by simp [jw]
theorem gF {x y:Enc} (h:1≤x.b.length):1≤(x.add y).b.length:=by rw [aQ];omega
theorem zG {α:Type} {g:α→Enc} (h:∀ x,1≤(g x).b.length):∀ l:List α,l.length≤(bR g l).b.length
 |[]=>Nat.zero_le _
 |x::l=>by
  rw [bR,aQ,yaz]
  have:=h x
  have:=zG h l
  omega
theorem Gu (n:Int):1≤(kc n).b.length:=iz (.inr rfl)
theorem Cd (x:SField):1≤(fp x).b.length:=gF (iz (.inr rfl))
theorem yd (x:SHeader):1≤(g9 x).b.length:=gF (iz (.inr rfl))
theorem GK (x:SCase):1≤(mh x).b.length:=gF Ac
theorem Ck (x:SState):1≤(jt x).b.length:=gF (iz (.inr rfl))
theorem Bs (x:SParam):1≤(jZ x).b.length:=gF zC
theorem GD (x:SPrim):1≤(mb x).b.length:=gF (iz (.inl rfl))
theorem yf (x:SAction):1≤(hG x).b.length:=gF (iz (.inr rfl))
theorem Jl (x:SKey):1≤(sy x).b.length:=gF zC
theorem A1 (x:STable):1≤(jv x).b.length:=gF (iz (.inr rfl))
theorem Ct (x:SStage):1≤(ju x).b.length:=gF (iz (.inr rfl))
theorem BM (x:SGrant):1≤(jP x).b.length:=gF (iz (.inr rfl))
theorem Dr (x:SRole):1≤(kL x).b.length:=gF (iz (.inr rfl))
theorem Jp (x:SRef):1≤(pK x).b.length:=gF (iz (.inr rfl))
theorem D4 (v:Nat):1≤(jH v).b.length:=Ac
theorem DP (x:Bool):1≤(jw x).b.length:=ID
def eW {α:Type} (c:α→AV) (ok:α→Prop) (g:α→Enc):List AV→AHeap→(AEnd→AHeap→Prop)→Prop
 |[.ptr id 0,x],H,K=>∃ q s a,(SOn H id q s∧x=c a∧ok a∧(s.add (g a)).b.length≤cG)∧K (.ret (.tup [])) (swH H id q (s.add (g a)))
 |_,_,_=>False
def j9 {α:Type} (f sz:Nat) (c:α→AV) (ok:α→Prop) (g:α→Enc):List AV→AHeap→(AEnd→AHeap→Prop)→Prop
 |[.ptr id 0,.agg [.int .i64 most,.func (.func f') [] [],.func (.func r) [] []],.slice .any sz' xs],H,K=>∃ q s l,(SOn H id q s∧f'=f∧sz'=sz∧xs=l.map c∧(∀ a∈l,ok a)∧(s.add (bF g most l)).b.length≤cG) ∧
   K (.ret (.tup [])) (swH H id q (s.add (bF g most l)))
 |_,_,_=>False
theorem eC {id q:Nat} {H:AHeap} {s:Enc} {n w:Int} {K:AEnd→AHeap→Prop} (hw:w=1∨w=2) (h:SOn H id q s) (hl:(s.add (eH n w)).b.length≤cG) (hK:K (.ret (.tup [])) (swH H id q (s.add (eH n w)))) :
 xu [.ptr id 0,.int .i64 n,.int .i64 w] H K:=⟨q,s,⟨h,hw,bb hl⟩,hK⟩
theorem oq {id q:Nat} {H:AHeap} {s:Enc} {x:List UInt8} {m:Int} {K:AEnd→AHeap→Prop} (hx:mt x) (h:SOn H id q s) (hl:(s.add (iS x m)).b.length≤cG) (hK:K (.ret (.tup [])) (swH H id q (s.add (iS x m)))) :
 yZ [.ptr id 0,.str x,.int .i64 m] H K:=⟨q,s,⟨h,hx,hl⟩,hK⟩
theorem zR {id q:Nat} {H:AHeap} {s:Enc} {x:Bool} {K:AEnd→AHeap→Prop} (h:SOn H id q s) (hl:(s.add (jw x)).b.length≤cG) (hK:K (.ret (.tup [])) (swH H id q (s.add (jw x)))) :
 yP [.ptr id 0,.bool x] H K:=⟨q,s,⟨h,hl⟩,hK⟩
theorem zI {id q:Nat} {H:AHeap} {s:Enc} {v:Nat} {K:AEnd→AHeap→Prop} (hv:jW v) (h:SOn H id q s) (hl:(s.add (jH v)).b.length≤cG) (hK:K (.ret (.tup [])) (swH H id q (s.add (jH v)))) :
 yr [.ptr id 0,.agg [.int .u64 ((v/2^64:Nat):Int),.int .u64 ((v % 2^64:Nat):Int)]] H K:=⟨q,s,v,⟨h,hv,rfl,rfl,hl⟩,hK⟩
theorem oR {α:Type} {c:α→AV} {ok:α→Prop} {g:α→Enc} {id q:Nat} {H:AHeap} {s:Enc} {a:α} {K:AEnd→AHeap→Prop} (ha:ok a) (h:SOn H id q s) (hl:(s.add (g a)).b.length≤cG) (hK:K (.ret (.tup [])) (swH H id q (s.add (g a)))) :
 eW c ok g [.ptr id 0,c a] H K:=⟨q,s,a,⟨h,rfl,ha,hl⟩,hK⟩
theorem iT {α:Type} {f sz r:Nat} {c:α→AV} {ok:α→Prop} {g:α→Enc} {id q:Nat} {H:AHeap} {s:Enc} {l:List α} {m:Int} {K:AEnd→AHeap→Prop} (ha:∀ a∈l,ok a) (h:SOn H id q s) (hl:(s.add (bF g m l)).b.length≤cG) (hK:K (.ret (.tup [])) (swH H id q (s.add (bF g m l)))) :
 j9 f sz c ok g [.ptr id 0,.agg [.int .i64 m,.func (.func f) [] [],.func (.func r) [] []],.slice .any sz (l.map c)] H K:=⟨q,s,l,⟨h,rfl,rfl,rfl,ha,hl⟩,hK⟩
structure WFacts (H:AHeap) (id q:Nat):Prop where
 p0:∀ t x,swH (H.push x) id q t=(swH H id q t).push x
 p1:∀ s t x,swH ((swH H id q s).push x) id q t=(swH H id q t).push x
 p2:∀ s t x y,swH (((swH H id q s).push x).push y) id q t=((swH H id q t).push x).push y
 p3:∀ s t x y z,swH ((((swH H id q s).push x).push y).push z) id q t=(((swH H id q t).push x).push y).push z
 pp:∀ s t,swH (swH H id q s) id q t=swH H id q t
theorem SOn.facts {H:AHeap} {id q:Nat} {s:Enc} (h:SOn H id q s):WFacts H id q:=by
 have h1:=glq h.o
 have h2:=glq h.bu
 refine ⟨fun t x=>j6 h1 h2,fun s t x=>?_,fun s t x y=>?_,fun s t x y z=>?_,fun s t=>qO h.ne⟩
 ·rw [j6 (by exact h1) (by exact h2),qO h.ne]
 ·rw [j6 (by rw [zle];exact Nat.lt_succ_of_lt h1) (by rw [zle];exact Nat.lt_succ_of_lt h2),j6 (by exact h1) (by exact h2),qO h.ne]
 ·rw [j6 (by rw [zle,zle];exact Nat.lt_succ_of_lt (Nat.lt_succ_of_lt h1)) (by rw [zle,zle];exact Nat.lt_succ_of_lt (Nat.lt_succ_of_lt h2)),
   j6 (by rw [zle];exact Nat.lt_succ_of_lt h1) (by rw [zle];exact Nat.lt_succ_of_lt h2),j6 (by exact h1) (by exact h2),qO h.ne]
end Go.AL
