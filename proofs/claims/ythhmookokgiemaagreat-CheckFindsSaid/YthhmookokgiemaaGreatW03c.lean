/- Lemmas of the proof; no condition. -/
import Derived.Test.YthhmookokgiemaaGreatCL
import Derived.Test.YthhmookokgiemaaGreatS10e
set_option linter.all false
set_option maxRecDepth 10000
set_option maxHeartbeats 32000000
open List renaming nil_append → yak, cons_append → yal, length_cons → yaz, length_nil → yba, take_of_length_le → ybc, drop_append → ybd, take_append → ybe, drop_eq_nil_of_le → ybf, take_zero → yar
open Go Go.AL Go.Proofs
namespace Go.AL
theorem Iz:ti Tryz.prog 134=some ⟨.struct [(0,22,false),(1,4,false),(2,4,false),(3,4,false)],4,32,.agg [.slice .nil 1 [],.bool false,.bool false,.bool false]⟩:=by kernel_rfl
theorem FF:ti Tryz.prog 137=some ⟨.ptr 134,1,8,.nilp⟩:=by kernel_rfl
attribute [go_sem] Iz FF
def rg (n w:Int):Bool:=decide (0≤n∧n<256^w.toNat)
theorem HP {x:Nat} (h:x<2^128):isV ((x/2^64:Nat):Int) ((x % 2^64:Nat):Int)=True:=eq_true (by unfold isV;omega)
theorem dx {α:Type} {f:α→AV} {l:List α} {k:Nat} {x:α} (hx:l[k]?=some x):(l.map f).getD k .junk=f x:=by
 simp [gEq,hx]
structure Enc where
 b:List UInt8
 l:Bool
 f:Bool
 a:Bool
def Enc.add (x y:Enc):Enc:=⟨x.b++y.b,x.l||y.l,x.f||y.f,x.a||y.a⟩
def enc0:Enc:=⟨[],false,false,false⟩
theorem aP (x y z:Enc):(x.add y).add z=x.add (y.add z):=by simp [Enc.add,List.append_assoc,Bool.or_assoc]
theorem dY (x:Enc):x.add enc0=x:=by simp [Enc.add,enc0]
theorem xa (x:Enc):enc0.add x=x:=by simp [Enc.add,enc0]
theorem bW (x y:Enc):(x.add y).b.length=x.b.length+y.b.length:=lAq
def ji (c:UInt8):Bool:=decide ((c.toNat:Int)<32)||decide ((c.toNat:Int) > 126)
def eI (n w:Int):Enc:=⟨jc n w,false,false,!rg n w⟩
def kT (s:List UInt8) (most:Int):Enc:=⟨lB s,decide ((s.length:Int) > most),s.any ji,false⟩
def jw (v:Nat):Enc:=⟨lK v,false,false,false⟩
def je (x:Bool):Enc:=⟨[if x then 1 else 0],false,false,false⟩
def ea (n:Nat) (most:Int):Enc:=⟨jc (n:Int) 2,decide ((n:Int) > most),false,false⟩
def bZ {α:Type} (g:α→Enc):List α→Enc
 |[]=>enc0
 |x::l=>(g x).add (bZ g l)
theorem qu {α:Type} (g:α→Enc):∀ l k:List α,bZ g (l++k)=(bZ g l).add (bZ g k)
 |[],k=>by rw [yak,bZ,xa]
 |x::l,k=>by rw [yal,bZ,bZ,qu g l k,aP]
theorem Cd {α:Type} (g:α→Enc) (l:List α) (x:α):bZ g (l++[x])=(bZ g l).add (g x):=by
 rw [qu,bZ,bZ,dY]
theorem Cb {α:Type} (g:α→Enc) (l:List α) (k:Nat):(bZ g (l.take k)).b.length≤(bZ g l).b.length:=by
 have h:=qu g (l.take k) (l.drop k)
 rw [List.take_append_drop] at h
 rw [h,bW];omega
def b5 {α:Type} (g:α→Enc) (most:Int) (l:List α):Enc:=(ea l.length most).add (bZ g l)
structure SOn (H:AHeap) (id q:Nat) (s:Enc):Prop where
 o:H.get id=some (.cells [.slice (.own q) 1 (bys s.b),.bool s.l,.bool s.f,.bool s.a])
 bu:H.get q=some (.buf 1 s.b.length)
def swH (H:AHeap) (id q:Nat) (s:Enc):AHeap:=(H.set q (.buf 1 s.b.length)).set id (.cells [.slice (.own q) 1 (bys s.b),.bool s.l,.bool s.f,.bool s.a])
theorem SOn.ne {H:AHeap} {id q:Nat} {s:Enc} (h:SOn H id q s):id≠q:=fun e=>by
 have h1:=h.o
 rw [e,h.bu] at h1;cases h1
theorem SOn.closed {H:AHeap} {id q:Nat} {s:Enc} (h:SOn H id q s) (hc:H.Closed) (t:Enc):(swH H id q t).Closed:=by
 refine bj (bh hc) ?_
 have hq:=glq h.bu
 simp only [znu,znv,and_true,zlf,zms,zng]
 intro i e;cases e;exact hq
theorem SOn.next {H:AHeap} {id q:Nat} {s:Enc} (h:SOn H id q s) (t:Enc):SOn (swH H id q t) id q t:=by
 have h1:=glq h.o
 have h2:=glq h.bu
 unfold swH
 refine ⟨?_,?_⟩
 ·rw [AHeap.get_set_same _ _ (by rw [zlf];exact h1)]
 ·rw [AHeap.get_set_ne _ _ (fun e=>h.ne e.symm),AHeap.get_set_same _ _ h2]
theorem pH {H:AHeap} {id q:Nat} {s t:Enc} (h:id≠q):swH (swH H id q s) id q t=swH H id q t:=by
 unfold swH AHeap.set
 dsimp only
 congr 1
 funext j
 by_cases h1:j=id
 ·simp [h1]
 ·by_cases h2:j=q<;>simp [h1,h2]
theorem ax {H:AHeap} {id q:Nat} {s:Enc}:(swH H id q s).nx=H.nx:=rfl
theorem SOn.push {H:AHeap} {id q:Nat} {s:Enc} (h:SOn H id q s) (x:AObj):SOn (H.push x) id q s :=
 ⟨by rw [gPq _ _ (glq h.o)];exact h.o,by rw [gPq _ _ (glq h.bu)];exact h.bu⟩
theorem jq {H:AHeap} {id q:Nat} {s:Enc} {x:AObj} (h1:id<H.nx) (h2:q<H.nx):swH (H.push x) id q s=(swH H id q s).push x:=by
 unfold swH AHeap.set AHeap.push
 dsimp only
 congr 1
 funext j
 by_cases e1:j=id
 ·have:id≠H.nx:=by omega
  simp [e1,this]
 ·by_cases e2:j=q
  ·have:q≠H.nx:=by omega
   simp [e1,e2,this]
  ·simp [e1,e2]
theorem B8 {H:AHeap} {id q j:Nat} {s:Enc} (h1:j≠id) (h2:j≠q):aJ (swH H id q s) j=aJ H j:=by
 unfold aJ swH
 rw [AHeap.get_set_ne _ _ h1,AHeap.get_set_ne _ _ h2]
def y3:List AV→AHeap→(AEnd→AHeap→Prop)→Prop
 |[.ptr id 0,.int .i64 n,.int .i64 w],H,K=>∃ q s,(SOn H id q s∧(w=1∨w=2)∧s.b.length≤100000000000000)∧K (.ret (.tup [])) (swH H id q (s.add (eI n w)))
 |_,_,_=>False
theorem J5 {n w:Int} (h:n<0):rg n w=false:=dfq fun h'=>by omega
theorem Md {n:Int} (h:¬ n<0):(!rg n 1)=decide (n ≥ 256):=by
 unfold rg
 by_cases h':n<256
 ·rw [dtq (by exact ⟨by omega,h'⟩),dfq (by omega)];rfl
 ·rw [dfq (fun x=>h' x.2),dtq (by omega)];rfl
theorem Mi {n:Int} (h:¬ n<0):(!rg n 2)=decide (n ≥ 65536):=by
 unfold rg
 by_cases h':n<65536
 ·rw [dtq (by exact ⟨by omega,h'⟩),dfq (by omega)];rfl
 ·rw [dfq (fun x=>h' x.2),dtq (by omega)];rfl
theorem fJ:EntOk Tryz.prog 80 (Ent.effect y3):=by
 refine EntOk.effect fun args H K h=>?_
 unfold y3 at h
 split at h
 rotate_left
 ·exact h.elim
 rename_i id n w
 obtain ⟨q,s,⟨hW,hw,hl⟩,hK⟩:=h
 refine ⟨_,_,hK,?_⟩
 clear hK
 have hcl0:=hW.closed (t:=s.add (eI n w))
 obtain ⟨b,sl,sf,sa⟩:=s
 simp only [Enc.add,eI,Bool.or_false] at hcl0 ⊢
 have l1:=cS n w
 dsimp only at hl
 have hid:=glq hW.o
 have hq:=glq hW.bu
 have hne:=cm hid
 have hneq:=cm hq
 have n1:(id=q)=False:=eq_false hW.ne
 have n2:(q=id)=False:=eq_false fun e=>hW.ne e.symm
 have hcs:=au hW.o
 have hb0:=hW.bu
 have hi0:=hW.o
 have hnn:=hW.ne
 dsimp only at hcs hb0 hi0
 refine ACalls.fW ak (tCq bP tNq) Tryz.func80 [] (by unfold swH;simp only [zlf];omega) (T:=ag [(1,[[],[],[],[],[],[],[],[],[4,7],[],[],[4,7]])]) (h:=fun hcl hlt=>?_)
 clear hlt
 have hcl1:=hcl0 hcl
 have hcm:=fun cs=>@bw H id cs hid
 have hA:∀ X Y,aJ ((H.set id (.cells X)).set q Y) id=some X:=fun X Y=>by
  unfold aJ;rw [AHeap.get_set_ne _ _ hnn,AHeap.get_set_same _ _ hid]
 have hB:∀ X,(H.set id X).get q=some (.buf 1 b.length):=fun X=>by rw [AHeap.get_set_ne _ _ (fun e=>hnn e.symm)];exact hb0
 have eh:∀ X Y Z,((H.set id X).set q Y).set id Z=(H.set q Y).set id Z:=fun X Y Z=>by
  unfold AHeap.set;congr 1;funext j;dsimp only;by_cases h1:j=id<;>simp [h1]
 unfold swH at hcl1 ⊢
 dsimp only at hcl1 ⊢
 have hlb:(b++jc n w).length=b.length+(jc n w).length:=lAq
 have s1:IntKind.u64.wrap (IntKind.i64.wrap 8)=8:=by decide
 have s2:xS .i64 1 8=256:=by decide
 have s3:IntKind.u64.wrap (IntKind.i64.wrap 16)=16:=by decide
 have s4:xS .i64 1 16=65536:=by decide
 cases sa
 ·by_cases h0:n<0
  ·have d0:decide (n<0)=true:=dtq h0
   rw [J5 h0,Bool.not_false,Bool.or_true] at hcl1 ⊢
   simp only [go_sem,byq,d0,hne,hneq,n1,n2,hcs,hcm,hA,hB,eh,hi0,hb0,aY,Bool.false_or] at hcl1 ⊢
   (repeat with_reducible refine And.intro (by first|assumption|decide|omega|exact ⟨by omega,by omega⟩) ?_)
   rw [hlb] at hcl1
   exact Z14
  ·have d0:decide (n<0)=false:=dfq h0
   rcases hw with rfl|rfl
   ·rw [Md h0,Bool.false_or] at hcl1 ⊢
    simp only [go_sem,byq,d0,s1,s2,hne,hneq,n1,n2,hcs,hcm,hA,hB,eh,hi0,hb0,aY,Bool.false_or] at hcl1 ⊢
    (repeat with_reducible refine And.intro (by first|assumption|decide|omega|exact ⟨by omega,by omega⟩) ?_)
    rw [hlb] at hcl1
    exact Z14
   ·rw [Mi h0,Bool.false_or] at hcl1 ⊢
    simp only [go_sem,byq,d0,s3,s4,hne,hneq,n1,n2,hcs,hcm,hA,hB,eh,hi0,hb0,aY,Bool.false_or] at hcl1 ⊢
    (repeat with_reducible refine And.intro (by first|assumption|decide|omega|exact ⟨by omega,by omega⟩) ?_)
    rw [hlb] at hcl1
    exact Z14
 ·simp only [go_sem,byq,hne,hneq,n1,n2,hcs,hcm,hA,hB,eh,hi0,hb0,aY,Bool.true_or] at hcl1 ⊢
  (repeat with_reducible refine And.intro (by first|assumption|decide|omega|exact ⟨by omega,by omega⟩) ?_)
  rw [hlb] at hcl1
  exact Z14
def cz:Nat:=100000000000000
theorem bo:cz=100000000000000:=rfl
theorem bc {x y:Enc} (h:(x.add y).b.length≤cz):x.b.length≤cz:=by rw [bW] at h;omega
theorem SOn.same {H:AHeap} {id q:Nat} {s:Enc} (h:SOn H id q s):swH H id q s=H:=by
 have h1:=dp h.bu
 unfold swH
 rw [h1]
 exact dp h.o
def yJ:List AV→AHeap→(AEnd→AHeap→Prop)→Prop
 |[.ptr id 0,.bool x],H,K=>∃ q s,(SOn H id q s∧(s.add (je x)).b.length≤cz)∧K (.ret (.tup [])) (swH H id q (s.add (je x)))
 |_,_,_=>False
theorem uG:EntOk Tryz.prog 244 (Ent.effect yJ):=by
 refine EntOk.effect fun args H K h=>?_
 unfold yJ at h
 split at h
 rotate_left
 ·exact h.elim
 rename_i id x
 obtain ⟨q,s,⟨hW,hl⟩,hK⟩:=h
 refine ⟨_,_,hK,?_⟩
 clear hK
 have hcl0:=hW.closed (t:=s.add (je x))
 rw [bo] at hl
 obtain ⟨b,sl,sf,sa⟩:=s
 simp only [Enc.add,je,Bool.or_false,lAq,List.length_singleton] at hcl0 hl ⊢
 have hid:=glq hW.o
 have hq:=glq hW.bu
 have hne:=cm hid
 have hneq:=cm hq
 have n1:(id=q)=False:=eq_false hW.ne
 have n2:(q=id)=False:=eq_false fun e=>hW.ne e.symm
 have hcs:=au hW.o
 have hb0:=hW.bu
 have hi0:=hW.o
 have hnn:=hW.ne
 dsimp only at hcs hb0 hi0
 refine ACalls.fW ak (tCq rW tNq) Tryz.func244 [] (by unfold swH;simp only [zlf];omega) (T:=ag [(0,[[],[],[],[],[],[],[],[4,6],[],[],[4,6]])]) (h:=fun hcl hlt=>?_)
 clear hlt
 have hcl1:=hcl0 hcl
 have hcm:=fun cs=>@bw H id cs hid
 have hA:∀ X Y,aJ ((H.set id (.cells X)).set q Y) id=some X:=fun X Y=>by
  unfold aJ;rw [AHeap.get_set_ne _ _ hnn,AHeap.get_set_same _ _ hid]
 have hA0:∀ Y,aJ (H.set q Y) id=aJ H id:=fun Y=>by
  unfold aJ;rw [AHeap.get_set_ne _ _ hnn]
 have hB:∀ X,(H.set id X).get q=some (.buf 1 b.length):=fun X=>by rw [AHeap.get_set_ne _ _ (fun e=>hnn e.symm)];exact hb0
 have eh:∀ X Y Z,((H.set id X).set q Y).set id Z=(H.set q Y).set id Z:=fun X Y Z=>by
  unfold AHeap.set;congr 1;funext j;dsimp only;by_cases h1:j=id<;>simp [h1]
 unfold swH at hcl1 ⊢
 dsimp only at hcl1 ⊢
 simp only [go_sem,byq,hne,hneq,n1,n2,hcs,hcm,hA,hA0,hB,eh,hi0,hb0,lg] at hcl1 ⊢
 (repeat with_reducible refine And.intro (by first|assumption|decide|omega|exact ⟨by omega,by omega⟩) ?_)
 simp (disch:=first|exact Zd|omega) [↓zmo,beq,ybc,ybd,ybe,aa,wk,wk2,wk1,wkM,wkL,af,ybf,hcl1]
 first|done|exact hcl1|simpa using hcl1
def yf:List AV→AHeap→(AEnd→AHeap→Prop)→Prop
 |[.ptr id 0,.agg [.int .u64 hi,.int .u64 lo]],H,K=>∃ q s v,(SOn H id q s∧v<2^128∧hi=((v/2^64:Nat):Int)∧lo=((v % 2^64:Nat):Int)∧(s.add (jw v)).b.length≤cz)∧K (.ret (.tup [])) (swH H id q (s.add (jw v)))
 |_,_,_=>False
theorem uv:EntOk Tryz.prog 315 (Ent.effect yf):=by
 refine EntOk.effect fun args H K h=>?_
 unfold yf at h
 split at h
 rotate_left
 ·exact h.elim
 rename_i id hi lo
 obtain ⟨q,s,v,⟨hW,hv,rfl,rfl,hl⟩,hK⟩:=h
 refine ⟨_,_,hK,?_⟩
 clear hK
 have iv:=HP hv
 have hcl0:=hW.closed (t:=s.add (jw v))
 rw [bo] at hl
 obtain ⟨b,sl,sf,sa⟩:=s
 simp only [Enc.add,jw,Bool.or_false,lAq,List.length_singleton] at hcl0 hl ⊢
 have hid:=glq hW.o
 have hq:=glq hW.bu
 have hne:=cm hid
 have hneq:=cm hq
 have n1:(id=q)=False:=eq_false hW.ne
 have n2:(q=id)=False:=eq_false fun e=>hW.ne e.symm
 have hcs:=au hW.o
 have hb0:=hW.bu
 have hi0:=hW.o
 have hnn:=hW.ne
 dsimp only at hcs hb0 hi0
 refine ACalls.fW ak (tCq qX tNq) Tryz.func315 [] (by unfold swH;simp only [zlf];omega) (T:=ag [(1,[[],[],[],[],[],[],[5],[4,5,6],[],[],[4,5,6]])]) (h:=fun hcl hlt=>?_)
 clear hlt
 have hcl1:=hcl0 hcl
 have hcm:=fun cs=>@bw H id cs hid
 have hA:∀ X Y,aJ ((H.set id (.cells X)).set q Y) id=some X:=fun X Y=>by
  unfold aJ;rw [AHeap.get_set_ne _ _ hnn,AHeap.get_set_same _ _ hid]
 have hA0:∀ Y,aJ (H.set q Y) id=aJ H id:=fun Y=>by
  unfold aJ;rw [AHeap.get_set_ne _ _ hnn]
 have hB:∀ X,(H.set id X).get q=some (.buf 1 b.length):=fun X=>by rw [AHeap.get_set_ne _ _ (fun e=>hnn e.symm)];exact hb0
 have eh:∀ X Y Z,((H.set id X).set q Y).set id Z=(H.set q Y).set id Z:=fun X Y Z=>by
  unfold AHeap.set;congr 1;funext j;dsimp only;by_cases h1:j=id<;>simp [h1]
 unfold swH at hcl1 ⊢
 dsimp only at hcl1 ⊢
 simp only [go_sem,byq,hne,hneq,n1,n2,hcs,hcm,hA,hA0,hB,eh,hi0,hb0,ke,iv,iNq,lC] at hcl1 ⊢
 (repeat with_reducible refine And.intro (by first|assumption|decide|omega|exact ⟨by omega,by omega⟩) ?_)
 simp (disch:=first|exact Zd|omega) [↓zmo,beq,ybc,ybd,ybe,aa,wk,wk2,wk1,wkM,wkL,af,ybf,hcl1]
 first|done|exact hcl1|simpa using hcl1
def yF:List AV→AHeap→(AEnd→AHeap→Prop)→Prop
 |[.ptr id 0,.str x,.int .i64 most],H,K=>∃ q s,(SOn H id q s∧x.length≤cz∧(s.add (kT x most)).b.length≤cz)∧K (.ret (.tup [])) (swH H id q (s.add (kT x most)))
 |_,_,_=>False
theorem mJ {α:Type} {p:α→Bool} {l:List α} {k:Nat} (h:k<l.length):(l.take (k+1)).any p=((l.take k).any p||p l[k]):=by
 rw [List.take_succ_eq_append_getElem h,List.any_append,List.any_cons,List.any_nil,Bool.or_false]
def swC (q:Nat) (b:List UInt8) (l f a:Bool):List AV:=[.slice (.own q) 1 (bys b),.bool l,.bool f,.bool a]
theorem kL:EntOk Tryz.prog 209 (Ent.effect yF):=by
 refine EntOk.effect fun args H K h=>?_
 unfold yF at h
 split at h
 rotate_left
 ·exact h.elim
 rename_i id x most
 obtain ⟨q,s,⟨hW,hx,hl⟩,hK⟩:=h
 refine ⟨_,_,hK,?_⟩
 clear hK
 have hcl0:=fun t=>hW.closed (t:=t)
 rw [bo] at hl hx
 obtain ⟨b,sl,sf,sa⟩:=s
 simp only [Enc.add,kT,Bool.or_false,lAq] at hl ⊢
 have hid:=glq hW.o
 have hq:=glq hW.bu
 have hne:=cm hid
 have hneq:=cm hq
 have n1:(id=q)=False:=eq_false hW.ne
 have n2:(q=id)=False:=eq_false fun e=>hW.ne e.symm
 have hcs:=au hW.o
 have hb0:=hW.bu
 have hi0:=hW.o
 have hnn:=hW.ne
 dsimp only at hcs hb0 hi0
 refine ACalls.fW ak (tCq rQ tNq) Tryz.func209 [] (by unfold swH;simp only [zlf];omega) (T:=ag [(6,[[],[],[],[],[],[],[],[4,6],[],[],[4,6]])]) (h:=fun hcl hlt=>?_)
 clear hlt
 have hcl1:=fun t=>hcl0 t hcl
 have hcm:=fun cs=>@bw H id cs hid
 have hgm:=fun o=>@rK H id o hid
 have hA:∀ X Y,aJ ((H.set id (.cells X)).set q Y) id=some X:=fun X Y=>by
  unfold aJ;rw [AHeap.get_set_ne _ _ hnn,AHeap.get_set_same _ _ hid]
 have hB:∀ X,(H.set id X).get q=some (.buf 1 b.length):=fun X=>by rw [AHeap.get_set_ne _ _ (fun e=>hnn e.symm)];exact hb0
 have eh:∀ X Y Z,((H.set id X).set q Y).set id Z=(H.set q Y).set id Z:=fun X Y Z=>by
  unfold AHeap.set;congr 1;funext j;dsimp only;by_cases h1:j=id<;>simp [h1]
 have hclk:∀ L F,(H.set id (.cells (swC q b L F sa))).Closed:=fun L F=>by
  have:=hcl1 ⟨b,L,F,sa⟩
  unfold swH at this
  dsimp only at this
  rw [dp hb0] at this
  exact this
 have hend:=hcl1 ⟨b++lB x,sl||decide ((x.length:Int) > most),sf||x.any ji,sa⟩
 have e0:(sf||(x.take 0).any ji)=sf:=by rw [yar,List.any_nil,Bool.or_false]
 have hL2:sl=true→(sl||decide ((x.length:Int) > most))=true:=fun h=>by rw [h,Bool.true_or]
 have hL3:sl=false→decide ((x.length:Int) > most)=(sl||decide ((x.length:Int) > most)):=fun h=>by rw [h,Bool.false_or]
 generalize (sl||decide ((x.length:Int) > most))=L at *
 cases sl
 ·simp only [go_sem,byq,hne,hneq,n1,n2,hcs,hcm,hA,hB,eh,hi0,hb0,hL3 rfl]
  try (repeat with_reducible refine Yq ?_)
  refine ay (A:=Nat) (fun k=>[(0,.ptr id 0),(1,.str x),(22,.slice .any 1 (bys x)),(23,.int .i64 (x.length:Int)),(24,.int .i64 (k:Int))]) (fun k=>H.set id (.cells (swC q b L (sf||(x.take k).any ji) sa))) (fun k=>k≤x.length) (fun k=>x.length - k) 0 (by omega) ?_ fun k hk=>?_
  ·rw [e0]
   refine ⟨by simp only [zkq,zkv,zlf,swH];omega,by repeat first|exact .refl _|refine .push ?_ _,hclk _ _,?_,?_⟩
   ·simp [ltF,zlf,znn,znf,znh,zms]
    omega
   ·simp [aS,wk2,wk1,wkM,Fr.get]
  simp only [go_sem]
  refine ah (fun hc=>?_) (fun hc=>?_)
  ·have hk':k<x.length:=by simp at hc;omega
   have hg:=tI hk'
   have e5:=Yk5 k
   have ht:=mJ (p:=ji) hk'
   have hgd:x.getD k 0=x[k]:=by simp [gEq,hk']
   rw [hgd] at hg
   have hT:(sf||(x.take (k+1)).any ji)=((sf||(x.take k).any ji)||ji x[k]):=by rw [ht,Bool.or_assoc]
   generalize (sf||(x.take k).any ji)=F at *
   generalize x[k]=c at *
   have hfin:∀ F',F'=(F||ji c)→F'=(sf||(x.take (k+1)).any ji):=fun F' h=>by rw [h,hT]
   cases F
   ·by_cases hc1:(c.toNat:Int)<32
    ·have d1:decide ((c.toNat:Int)<32)=true:=dtq hc1
     simp only [go_sem,byq,swC,hne,hneq,n1,n2,hcs,hcm,hA,hB,eh,hi0,hb0,iNq,zlk,hg,bz,d1,e5]
     (repeat with_reducible refine And.intro (by first|assumption|decide|omega|simp) ?_)
     refine ⟨k+1,by omega,by omega,by simp only [zkq,zkv,zlf,swH];omega,?_,hclk _ _,?_,?_⟩
     ·rw [← hfin true (by simp [ji,d1])]
      repeat first|exact .refl _|refine .push ?_ _
     ·simp [ltF,zlf,znn,znf,znh,zms]
      omega
     ·simp [aS,wk2,wk1,wkM,Fr.get]
    ·have d1:decide ((c.toNat:Int)<32)=false:=dfq hc1
     simp only [go_sem,byq,swC,hne,hneq,n1,n2,hcs,hcm,hA,hB,eh,hi0,hb0,iNq,zlk,hg,bz,d1,e5]
     (repeat with_reducible refine And.intro (by first|assumption|decide|omega|simp) ?_)
     refine ⟨k+1,by omega,by omega,by simp only [zkq,zkv,zlf,swH];omega,?_,hclk _ _,?_,?_⟩
     ·rw [← hfin _ (show decide ((c.toNat:Int) > 126)=_ by simp [ji,d1])]
      repeat first|exact .refl _|refine .push ?_ _
     ·simp [ltF,zlf,znn,znf,znh,zms]
      omega
     ·simp [aS,wk2,wk1,wkM,Fr.get]
   ·simp only [go_sem,byq,swC,hne,hneq,n1,n2,hcs,hcm,hA,hB,eh,hi0,hb0,iNq,zlk,hg,bz,e5]
    (repeat with_reducible refine And.intro (by first|assumption|decide|omega|simp) ?_)
    refine ⟨k+1,by omega,by omega,by simp only [zkq,zkv,zlf,swH];omega,?_,hclk _ _,?_,?_⟩
    ·rw [← hfin true (by simp)]
     repeat first|exact .refl _|refine .push ?_ _
    ·simp [ltF,zlf,znn,znf,znh,zms]
     omega
    ·simp [aS,wk2,wk1,wkM,Fr.get]
  ·have hk':k=x.length:=by simp at hc;omega
   subst hk'
   rw [List.take_length]
   unfold swH at hend ⊢
   dsimp only at hend ⊢
   simp only [go_sem,byq,swC,hne,hneq,n1,n2,hcs,hcm,hA,hB,eh,hi0,hb0,jg] at hend ⊢
   (repeat with_reducible refine And.intro (by first|assumption|decide|omega|exact ⟨by omega,by omega⟩|exact ⟨by omega,by omega,by omega⟩) ?_)
   rw [lAq] at hend
   simp (disch:=first|exact Zd|omega) [↓zmo,beq,ybc,ybd,ybe,aa,wk,wk2,wk1,wkM,wkL,af,ybf,hend,lAq]
   first|done|exact hend|simpa using hend
 ·obtain rfl:L=true:=hL2 rfl
  simp only [go_sem,byq,hne,hneq,n1,n2,hcs,hcm,hA,hB,eh,hi0,hb0]
  try (repeat with_reducible refine Yq ?_)
  refine ay (A:=Nat) (fun k=>[(0,.ptr id 0),(1,.str x),(22,.slice .any 1 (bys x)),(23,.int .i64 (x.length:Int)),(24,.int .i64 (k:Int))]) (fun k=>H.set id (.cells (swC q b true (sf||(x.take k).any ji) sa))) (fun k=>k≤x.length) (fun k=>x.length - k) 0 (by omega) ?_ fun k hk=>?_
  ·rw [e0]
   refine ⟨by simp only [zkq,zkv,zlf,swH];omega,by repeat first|exact .refl _|refine .push ?_ _,hclk _ _,?_,?_⟩
   ·simp [ltF,zlf,znn,znf,znh,zms]
    omega
   ·simp [aS,wk2,wk1,wkM,Fr.get]
  simp only [go_sem]
  refine ah (fun hc=>?_) (fun hc=>?_)
  ·have hk':k<x.length:=by simp at hc;omega
   have hg:=tI hk'
   have e5:=Yk5 k
   have ht:=mJ (p:=ji) hk'
   have hgd:x.getD k 0=x[k]:=by simp [gEq,hk']
   rw [hgd] at hg
   have hT:(sf||(x.take (k+1)).any ji)=((sf||(x.take k).any ji)||ji x[k]):=by rw [ht,Bool.or_assoc]
   generalize (sf||(x.take k).any ji)=F at *
   generalize x[k]=c at *
   have hfin:∀ F',F'=(F||ji c)→F'=(sf||(x.take (k+1)).any ji):=fun F' h=>by rw [h,hT]
   cases F
   ·by_cases hc1:(c.toNat:Int)<32
    ·have d1:decide ((c.toNat:Int)<32)=true:=dtq hc1
     simp only [go_sem,byq,swC,hne,hneq,n1,n2,hcs,hcm,hA,hB,eh,hi0,hb0,iNq,zlk,hg,bz,d1,e5]
     (repeat with_reducible refine And.intro (by first|assumption|decide|omega|simp) ?_)
     refine ⟨k+1,by omega,by omega,by simp only [zkq,zkv,zlf,swH];omega,?_,hclk _ _,?_,?_⟩
     ·rw [← hfin true (by simp [ji,d1])]
      repeat first|exact .refl _|refine .push ?_ _
     ·simp [ltF,zlf,znn,znf,znh,zms]
      omega
     ·simp [aS,wk2,wk1,wkM,Fr.get]
    ·have d1:decide ((c.toNat:Int)<32)=false:=dfq hc1
     simp only [go_sem,byq,swC,hne,hneq,n1,n2,hcs,hcm,hA,hB,eh,hi0,hb0,iNq,zlk,hg,bz,d1,e5]
     (repeat with_reducible refine And.intro (by first|assumption|decide|omega|simp) ?_)
     refine ⟨k+1,by omega,by omega,by simp only [zkq,zkv,zlf,swH];omega,?_,hclk _ _,?_,?_⟩
     ·rw [← hfin _ (show decide ((c.toNat:Int) > 126)=_ by simp [ji,d1])]
      repeat first|exact .refl _|refine .push ?_ _
     ·simp [ltF,zlf,znn,znf,znh,zms]
      omega
     ·simp [aS,wk2,wk1,wkM,Fr.get]
   ·simp only [go_sem,byq,swC,hne,hneq,n1,n2,hcs,hcm,hA,hB,eh,hi0,hb0,iNq,zlk,hg,bz,e5]
    (repeat with_reducible refine And.intro (by first|assumption|decide|omega|simp) ?_)
    refine ⟨k+1,by omega,by omega,by simp only [zkq,zkv,zlf,swH];omega,?_,hclk _ _,?_,?_⟩
    ·rw [← hfin true (by simp)]
     repeat first|exact .refl _|refine .push ?_ _
    ·simp [ltF,zlf,znn,znf,znh,zms]
     omega
    ·simp [aS,wk2,wk1,wkM,Fr.get]
  ·have hk':k=x.length:=by simp at hc;omega
   subst hk'
   rw [List.take_length]
   unfold swH at hend ⊢
   dsimp only at hend ⊢
   simp only [go_sem,byq,swC,hne,hneq,n1,n2,hcs,hcm,hA,hB,eh,hi0,hb0,jg] at hend ⊢
   (repeat with_reducible refine And.intro (by first|assumption|decide|omega|exact ⟨by omega,by omega⟩|exact ⟨by omega,by omega,by omega⟩) ?_)
   rw [lAq] at hend
   simp (disch:=first|exact Zd|omega) [↓zmo,beq,ybc,ybd,ybe,aa,wk,wk2,wk1,wkM,wkL,af,ybf,hend,lAq]
   first|done|exact hend|simpa using hend
def kN (n:Int):Enc:=eI n 2
def gT (x:SField):Enc:=(eI x.id 2).add ((kT x.name 24).add (eI x.bits 1))
def fH (x:SHeader):Enc:=(eI x.id 2).add ((kT x.name 24).add (b5 kN 32 x.fields))
def jL (x:SCase):Enc:=(jw x.value).add ((jw x.mask).add (eI x.next 2))
def gO (x:SState):Enc:=(eI x.id 2).add ((eI x.header 2).add ((eI x.select 2).add ((b5 jL 6 x.cases).add (eI x.dflt 2))))
def ik (x:SParam):Enc:=(kT x.name 24).add (eI x.bits 1)
def j5 (x:SPrim):Enc:=(eI x.op 1).add ((eI x.dst 2).add ((eI x.kind 1).add ((eI x.n 2).add (jw x.value))))
def fI (x:SAction):Enc:=(eI x.id 2).add ((kT x.name 24).add ((b5 ik 4 x.params).add ((b5 j5 12 x.body).add (kT x.restr 400))))
def nH (x:SKey):Enc:=(kT x.name 24).add ((eI x.field 2).add (eI x.kind 1))
def gN (x:STable):Enc:=(eI x.id 2).add ((kT x.name 24).add ((b5 nH 4 x.keys).add ((b5 kN 12 x.actions).add ((eI x.dflt 2).add ((b5 jw 4 x.dargs).add ((eI x.size 2).add (kT x.restr 400)))))))
def gW (x:SStage):Enc:=(eI x.table 2).add (eI x.header 2)
def iq (x:SGrant):Enc:=(eI x.table 2).add ((je x.read).add ((je x.write).add (b5 je 4 x.keys)))
def jy (x:SRole):Enc:=(eI x.id 2).add ((kT x.name 24).add ((b5 iq 8 x.grants).add ((b5 kN 12 x.actions).add ((eI x.quota 2).add (je x.audit)))))
def mV (x:SRef):Enc:=(eI x.table 2).add ((eI x.key 1).add ((eI x.action 2).add ((eI x.param 1).add ((eI x.toTable 2).add (eI x.toKey 1)))))
def pw (x:Sch):Enc:=(b5 gT 32 x.fields).add ((b5 fH 8 x.headers).add (b5 gO 12 x.states))
def ge (x:Sch):Enc:=(eI x.maxBatch 2).add ((eI x.budget 2).add ((pw x).add ((b5 fI 12 x.actions).add ((b5 gN 8 x.tables).add ((b5 gW 12 x.stages).add ((b5 jy 6 x.roles).add (b5 mV 8 x.refs)))))))
def mA (s:List UInt8):Prop:=s.length≤cz
def nv {α:Type} (_:α):Prop:=True
def km (v:Nat):Prop:=v<2^128
def ve (x:SField):Prop:=mA x.name
def qG (x:SHeader):Prop:=mA x.name
def lO (x:SCase):Prop:=km x.value∧km x.mask
def mt (x:SState):Prop:=∀ c∈x.cases,lO c
def uE (x:SParam):Prop:=mA x.name
def mS (x:SPrim):Prop:=km x.value
def l5 (x:SAction):Prop:=mA x.name∧(∀ p∈x.params,uE p)∧(∀ p∈x.body,mS p)∧mA x.restr
def EU (x:SKey):Prop:=mA x.name
def nG (x:STable):Prop:=mA x.name∧(∀ k∈x.keys,EU k)∧(∀ v∈x.dargs,km v)∧mA x.restr
def xR (x:SRole):Prop:=mA x.name
structure OkSch (x:Sch):Prop where
 f:∀ a∈x.fields,ve a
 h:∀ a∈x.headers,qG a
 s:∀ a∈x.states,mt a
 a:∀ a∈x.actions,l5 a
 t:∀ a∈x.tables,nG a
 r:∀ a∈x.roles,xR a
theorem il {n w:Int} (h:w=1∨w=2):1≤(eI n w).b.length:=by
 rcases h with rfl|rfl<;>simp [eI,jc,oz]
theorem AM {s:List UInt8} {m:Int}:1≤(kT s m).b.length:=by
 unfold kT lB
 rw [lAq,oz];omega
theorem zM {v:Nat}:1≤(jw v).b.length:=by simp [jw,lK]
theorem IP {x:Bool}:1≤(je x).b.length:=by simp [je]
theorem fX {x y:Enc} (h:1≤x.b.length):1≤(x.add y).b.length:=by rw [bW];omega
theorem Af {α:Type} {g:α→Enc} (h:∀ x,1≤(g x).b.length):∀ l:List α,l.length≤(bZ g l).b.length
 |[]=>Nat.zero_le _
 |x::l=>by
  rw [bZ,bW,yaz]
  have:=h x
  have:=Af h l
  omega
theorem EM (n:Int):1≤(kN n).b.length:=il (.inr rfl)
theorem BQ (x:SField):1≤(gT x).b.length:=fX (il (.inr rfl))
theorem zd (x:SHeader):1≤(fH x).b.length:=fX (il (.inr rfl))
theorem FI (x:SCase):1≤(jL x).b.length:=fX zM
theorem Bt (x:SState):1≤(gO x).b.length:=fX (il (.inr rfl))
theorem CO (x:SParam):1≤(ik x).b.length:=fX AM
theorem Eg (x:SPrim):1≤(j5 x).b.length:=fX (il (.inl rfl))
theorem zv (x:SAction):1≤(fI x).b.length:=fX (il (.inr rfl))
theorem IR (x:SKey):1≤(nH x).b.length:=fX AM
theorem CP (x:STable):1≤(gN x).b.length:=fX (il (.inr rfl))
theorem BF (x:SStage):1≤(gW x).b.length:=fX (il (.inr rfl))
theorem Bh (x:SGrant):1≤(iq x).b.length:=fX (il (.inr rfl))
theorem Hm (x:SRole):1≤(jy x).b.length:=fX (il (.inr rfl))
theorem Je (x:SRef):1≤(mV x).b.length:=fX (il (.inr rfl))
theorem Em (v:Nat):1≤(jw v).b.length:=zM
theorem E6 (x:Bool):1≤(je x).b.length:=IP
def eW {α:Type} (c:α→AV) (ok:α→Prop) (g:α→Enc):List AV→AHeap→(AEnd→AHeap→Prop)→Prop
 |[.ptr id 0,x],H,K=>∃ q s a,(SOn H id q s∧x=c a∧ok a∧(s.add (g a)).b.length≤cz)∧K (.ret (.tup [])) (swH H id q (s.add (g a)))
 |_,_,_=>False
def gm {α:Type} (f sz:Nat) (c:α→AV) (ok:α→Prop) (g:α→Enc):List AV→AHeap→(AEnd→AHeap→Prop)→Prop
 |[.ptr id 0,.agg [.int .i64 most,.func (.func f') [] [],.func (.func r) [] []],.slice .any sz' xs],H,K=>∃ q s l,(SOn H id q s∧f'=f∧sz'=sz∧xs=l.map c∧(∀ a∈l,ok a)∧(s.add (b5 g most l)).b.length≤cz) ∧
   K (.ret (.tup [])) (swH H id q (s.add (b5 g most l)))
 |_,_,_=>False
theorem ep {id q:Nat} {H:AHeap} {s:Enc} {n w:Int} {K:AEnd→AHeap→Prop} (hw:w=1∨w=2) (h:SOn H id q s) (hl:(s.add (eI n w)).b.length≤cz) (hK:K (.ret (.tup [])) (swH H id q (s.add (eI n w)))) :
 y3 [.ptr id 0,.int .i64 n,.int .i64 w] H K:=⟨q,s,⟨h,hw,bc hl⟩,hK⟩
theorem nK {id q:Nat} {H:AHeap} {s:Enc} {x:List UInt8} {m:Int} {K:AEnd→AHeap→Prop} (hx:mA x) (h:SOn H id q s) (hl:(s.add (kT x m)).b.length≤cz) (hK:K (.ret (.tup [])) (swH H id q (s.add (kT x m)))) :
 yF [.ptr id 0,.str x,.int .i64 m] H K:=⟨q,s,⟨h,hx,hl⟩,hK⟩
theorem z7 {id q:Nat} {H:AHeap} {s:Enc} {x:Bool} {K:AEnd→AHeap→Prop} (h:SOn H id q s) (hl:(s.add (je x)).b.length≤cz) (hK:K (.ret (.tup [])) (swH H id q (s.add (je x)))) :
 yJ [.ptr id 0,.bool x] H K:=⟨q,s,⟨h,hl⟩,hK⟩
theorem Ai {id q:Nat} {H:AHeap} {s:Enc} {v:Nat} {K:AEnd→AHeap→Prop} (hv:km v) (h:SOn H id q s) (hl:(s.add (jw v)).b.length≤cz) (hK:K (.ret (.tup [])) (swH H id q (s.add (jw v)))) :
 yf [.ptr id 0,.agg [.int .u64 ((v/2^64:Nat):Int),.int .u64 ((v % 2^64:Nat):Int)]] H K:=⟨q,s,v,⟨h,hv,rfl,rfl,hl⟩,hK⟩
theorem nP {α:Type} {c:α→AV} {ok:α→Prop} {g:α→Enc} {id q:Nat} {H:AHeap} {s:Enc} {a:α} {K:AEnd→AHeap→Prop} (ha:ok a) (h:SOn H id q s) (hl:(s.add (g a)).b.length≤cz) (hK:K (.ret (.tup [])) (swH H id q (s.add (g a)))) :
 eW c ok g [.ptr id 0,c a] H K:=⟨q,s,a,⟨h,rfl,ha,hl⟩,hK⟩
theorem iA {α:Type} {f sz r:Nat} {c:α→AV} {ok:α→Prop} {g:α→Enc} {id q:Nat} {H:AHeap} {s:Enc} {l:List α} {m:Int} {K:AEnd→AHeap→Prop} (ha:∀ a∈l,ok a) (h:SOn H id q s) (hl:(s.add (b5 g m l)).b.length≤cz) (hK:K (.ret (.tup [])) (swH H id q (s.add (b5 g m l)))) :
 gm f sz c ok g [.ptr id 0,.agg [.int .i64 m,.func (.func f) [] [],.func (.func r) [] []],.slice .any sz (l.map c)] H K:=⟨q,s,l,⟨h,rfl,rfl,rfl,ha,hl⟩,hK⟩
structure WFacts (H:AHeap) (id q:Nat):Prop where
 p0:∀ t x,swH (H.push x) id q t=(swH H id q t).push x
 p1:∀ s t x,swH ((swH H id q s).push x) id q t=(swH H id q t).push x
 p2:∀ s t x y,swH (((swH H id q s).push x).push y) id q t=((swH H id q t).push x).push y
 p3:∀ s t x y z,swH ((((swH H id q s).push x).push y).push z) id q t=(((swH H id q t).push x).push y).push z
 pp:∀ s t,swH (swH H id q s) id q t=swH H id q t
theorem SOn.facts {H:AHeap} {id q:Nat} {s:Enc} (h:SOn H id q s):WFacts H id q:=by
 have h1:=glq h.o
 have h2:=glq h.bu
 refine ⟨fun t x=>jq h1 h2,fun s t x=>?_,fun s t x y=>?_,fun s t x y z=>?_,fun s t=>pH h.ne⟩
 ·rw [jq (by exact h1) (by exact h2),pH h.ne]
 ·rw [jq (by rw [zle];exact Nat.lt_succ_of_lt h1) (by rw [zle];exact Nat.lt_succ_of_lt h2),jq (by exact h1) (by exact h2),pH h.ne]
 ·rw [jq (by rw [zle,zle];exact Nat.lt_succ_of_lt (Nat.lt_succ_of_lt h1)) (by rw [zle,zle];exact Nat.lt_succ_of_lt (Nat.lt_succ_of_lt h2)),
   jq (by rw [zle];exact Nat.lt_succ_of_lt h1) (by rw [zle];exact Nat.lt_succ_of_lt h2),jq (by exact h1) (by exact h2),pH h.ne]
end Go.AL
