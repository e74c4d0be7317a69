/- Contracts and plain laws, a part of the proof; no condition of its own. -/
import Derived.Test.YtiiiljghmilepaaGreatCL
import Derived.Test.YtiiiljghmilepaaGreatS10e
set_option maxHeartbeats 32000000
open List renaming nil_append → yak, cons_append → yal, length_cons → yaz, length_nil → yba, take_of_length_le → ybc, drop_append → ybd, take_append → ybe, drop_eq_nil_of_le → ybf, take_zero → yar
open Go Go.AL Go.Proofs
namespace Go.AL
set_option linter.all false
set_option maxRecDepth 10000
theorem F8:ti Tryz.prog 172=some ⟨.struct [(0,22,false),(1,4,false),(2,4,false),(3,4,false)],4,32,.agg [.slice .nil 1 [],.bool false,.bool false,.bool false]⟩:=by kernel_rfl
theorem Ez:ti Tryz.prog 174=some ⟨.ptr 172,1,8,.nilp⟩:=by kernel_rfl
attribute [go_sem] F8 Ez
/-- a number in so many bytes -/
def rg (n w:Int):Bool:=decide (0≤n∧n<256^w.toNat)
theorem CO {x:Nat} (h:x<2^128):isV ((x/2^64:Nat):Int) ((x % 2^64:Nat):Int)=True:=eq_true (by unfold isV;omega)
theorem bc {α:Type} {f:α→AV} {l:List α} {k:Nat} {x:α} (hx:l[k]?=some x):(l.map f).getD k .junk=f x:=by
 simp [List.getD_eq_getElem?_getD,hx]
/-- bytes that are written, and what is wrong: too long, a byte of a text, a number -/
structure Enc where
 b:List UInt8
 l:Bool
 f:Bool
 a:Bool
def Enc.add (x y:Enc):Enc:=⟨x.b++y.b,x.l||y.l,x.f||y.f,x.a||y.a⟩
def enc0:Enc:=⟨[],false,false,false⟩
theorem ap (x y z:Enc):(x.add y).add z=x.add (y.add z):=by simp [Enc.add,List.append_assoc,Bool.or_assoc]
theorem cz (x:Enc):x.add enc0=x:=by simp [Enc.add,enc0]
theorem rj (x:Enc):enc0.add x=x:=by simp [Enc.add,enc0]
theorem cx (x y:Enc):(x.add y).b.length=x.b.length+y.b.length:=List.length_append
def jp (c:UInt8):Bool:=decide ((c.toNat:Int)<32)||decide ((c.toNat:Int) > 126)
def bQ (n w:Int):Enc:=⟨fQ n w,false,false,!rg n w⟩
def gr (s:List UInt8) (most:Int):Enc:=⟨hO s,decide ((s.length:Int) > most),s.any jp,false⟩
def i5 (v:Nat):Enc:=⟨jm v,false,false,false⟩
def g7 (x:Bool):Enc:=⟨[if x then 1 else 0],false,false,false⟩
def cC (n:Nat) (most:Int):Enc:=⟨fQ (n:Int) 2,decide ((n:Int) > most),false,false⟩
def bP {α:Type} (g:α→Enc):List α→Enc
 |[]=>enc0
 |x::l=>(g x).add (bP g l)
theorem rM {α:Type} (g:α→Enc):∀ l k:List α,bP g (l++k)=(bP g l).add (bP g k)
 |[],k=>by rw [yak,bP,rj]
 |x::l,k=>by rw [yal,bP,bP,rM g l k,ap]
theorem Bl {α:Type} (g:α→Enc) (l:List α) (x:α):bP g (l++[x])=(bP g l).add (g x):=by
 rw [rM,bP,bP,cz]
theorem A3 {α:Type} (g:α→Enc) (l:List α) (k:Nat):(bP g (l.take k)).b.length≤(bP g l).b.length:=by
 have h:=rM g (l.take k) (l.drop k)
 rw [List.take_append_drop] at h
 rw [h,cx];omega
def aT {α:Type} (g:α→Enc) (most:Int) (l:List α):Enc:=(cC l.length most).add (bP g l)
/-- such a writer in memory -/
structure SOn (H:AHeap) (id q:Nat) (s:Enc):Prop where
 o:H.get id=some (.cells [.slice (.own q) 1 (bys s.b),.bool s.l,.bool s.f,.bool s.a])
 bu:H.get q=some (.buf 1 s.b.length)
def swH (H:AHeap) (id q:Nat) (s:Enc):AHeap:=(H.set q (.buf 1 s.b.length)).set id (.cells [.slice (.own q) 1 (bys s.b),.bool s.l,.bool s.f,.bool s.a])
theorem SOn.ne {H:AHeap} {id q:Nat} {s:Enc} (h:SOn H id q s):id≠q:=fun e=>by
 have h1:=h.o
 rw [e,h.bu] at h1;cases h1
theorem SOn.closed {H:AHeap} {id q:Nat} {s:Enc} (h:SOn H id q s) (hc:H.Closed) (t:Enc):(swH H id q t).Closed:=by
 refine bS (fl hc) ?_
 have hq:=AHeap.get_lt h.bu
 simp only [zno,znp,and_true,zkz,zmm,zna]
 intro i e;cases e;exact hq
theorem SOn.next {H:AHeap} {id q:Nat} {s:Enc} (h:SOn H id q s) (t:Enc):SOn (swH H id q t) id q t:=by
 have h1:=AHeap.get_lt h.o
 have h2:=AHeap.get_lt h.bu
 unfold swH
 refine ⟨?_,?_⟩
 ·rw [AHeap.get_set_same _ _ (by rw [zkz];exact h1)]
 ·rw [AHeap.get_set_ne _ _ (fun e=>h.ne e.symm),AHeap.get_set_same _ _ h2]
theorem qz {H:AHeap} {id q:Nat} {s t:Enc} (h:id≠q):swH (swH H id q s) id q t=swH H id q t:=by
 unfold swH AHeap.set
 dsimp only
 congr 1
 funext j
 by_cases h1:j=id
 ·simp [h1]
 ·by_cases h2:j=q<;>simp [h1,h2]
theorem af {H:AHeap} {id q:Nat} {s:Enc}:(swH H id q s).nx=H.nx:=rfl
theorem SOn.push {H:AHeap} {id q:Nat} {s:Enc} (h:SOn H id q s) (x:AObj):SOn (H.push x) id q s :=
 ⟨by rw [AHeap.get_push_lt _ _ (AHeap.get_lt h.o)];exact h.o,by rw [AHeap.get_push_lt _ _ (AHeap.get_lt h.bu)];exact h.bu⟩
theorem ku {H:AHeap} {id q:Nat} {s:Enc} {x:AObj} (h1:id<H.nx) (h2:q<H.nx):swH (H.push x) id q s=(swH H id q s).push x:=by
 unfold swH AHeap.set AHeap.push
 dsimp only
 congr 1
 funext j
 by_cases e1:j=id
 ·have:id≠H.nx:=by omega
  simp [e1,this]
 ·by_cases e2:j=q
  ·have:q≠H.nx:=by omega
   simp [e1,e2,this]
  ·simp [e1,e2]
theorem s5 {H:AHeap} {id q j:Nat} {s:Enc} (h1:j≠id) (h2:j≠q):aO (swH H id q s) j=aO H j:=by
 unfold aO swH
 rw [AHeap.get_set_ne _ _ h1,AHeap.get_set_ne _ _ h2]
def qR:List AV→AHeap→(AEnd→AHeap→Prop)→Prop
 |[.ptr id 0,.int .i64 n,.int .i64 w],H,K=>∃ q s,(SOn H id q s∧(w=1∨w=2)∧s.b.length≤100000000000000)∧K (.ret (.tup [])) (swH H id q (s.add (bQ n w)))
 |_,_,_=>False
theorem BF {n w:Int} (h:n<0):rg n w=false:=decide_eq_false fun h'=>by omega
theorem Hs {n:Int} (h:¬ n<0):(!rg n 1)=decide (n ≥ 256):=by
 unfold rg
 by_cases h':n<256
 ·rw [decide_eq_true (by exact ⟨by omega,h'⟩),decide_eq_false (by omega)];rfl
 ·rw [decide_eq_false (fun x=>h' x.2),decide_eq_true (by omega)];rfl
theorem Hv {n:Int} (h:¬ n<0):(!rg n 2)=decide (n ≥ 65536):=by
 unfold rg
 by_cases h':n<65536
 ·rw [decide_eq_true (by exact ⟨by omega,h'⟩),decide_eq_false (by omega)];rfl
 ·rw [decide_eq_false (fun x=>h' x.2),decide_eq_true (by omega)];rfl
theorem gW:EntOk Tryz.prog 75 (Ent.effect qR):=by
 refine EntOk.effect fun args H K h=>?_
 unfold qR at h
 split at h
 rotate_left
 ·exact h.elim
 rename_i id n w
 obtain ⟨q,s,⟨hW,hw,hl⟩,hK⟩:=h
 refine ⟨_,_,hK,?_⟩
 clear hK
 have hcl0:=hW.closed (t:=s.add (bQ n w))
 obtain ⟨b,sl,sf,sa⟩:=s
 simp only [Enc.add,bQ,Bool.or_false] at hcl0 ⊢
 have l1:=cY n w
 dsimp only at hl
 have hid:=AHeap.get_lt hW.o
 have hq:=AHeap.get_lt hW.bu
 have hne:=aU hid
 have hneq:=aU hq
 have n1:(id=q)=False:=eq_false hW.ne
 have n2:(q=id)=False:=eq_false fun e=>hW.ne e.symm
 have hcs:=aI hW.o
 have hb0:=hW.bu
 have hi0:=hW.o
 have hnn:=hW.ne
 dsimp only at hcs hb0 hi0
 refine ACalls.fW aB (TblOk.cons cI TblOk.nil) Tryz.func75 [] (by unfold swH;simp only [zkz];omega) (T:=ay [(1,[[],[],[],[],[],[],[],[],[4,7],[],[],[4,7]])]) (h:=fun hcl hlt=>?_)
 clear hlt
 have hcl1:=hcl0 hcl
 have hcm:=fun cs=>@av H id cs hid
 have hA:∀ X Y,aO ((H.set id (.cells X)).set q Y) id=some X:=fun X Y=>by
  unfold aO;rw [AHeap.get_set_ne _ _ hnn,AHeap.get_set_same _ _ hid]
 have hB:∀ X,(H.set id X).get q=some (.buf 1 b.length):=fun X=>by rw [AHeap.get_set_ne _ _ (fun e=>hnn e.symm)];exact hb0
 have eh:∀ X Y Z,((H.set id X).set q Y).set id Z=(H.set q Y).set id Z:=fun X Y Z=>by
  unfold AHeap.set;congr 1;funext j;dsimp only;by_cases h1:j=id<;>simp [h1]
 unfold swH at hcl1 ⊢
 dsimp only at hcl1 ⊢
 have hlb:(b++fQ n w).length=b.length+(fQ n w).length:=List.length_append
 have s1:IntKind.u64.wrap (IntKind.i64.wrap 8)=8:=by decide
 have s2:nm .i64 1 8=256:=by decide
 have s3:IntKind.u64.wrap (IntKind.i64.wrap 16)=16:=by decide
 have s4:nm .i64 1 16=65536:=by decide
 cases sa
 ·by_cases h0:n<0
  ·have d0:decide (n<0)=true:=decide_eq_true h0
   rw [BF h0,Bool.not_false,Bool.or_true] at hcl1 ⊢
   simp only [go_sem,byq,d0,hne,hneq,n1,n2,hcs,hcm,hA,hB,eh,hi0,hb0,ba,Bool.false_or] at hcl1 ⊢
   (repeat with_reducible refine And.intro (by first|assumption|decide|omega|exact ⟨by omega,by omega⟩) ?_)
   rw [hlb] at hcl1
   simp (disch:=first|assumption|omega|(simp;done)|(simp;omega)|(simp only [bt,and_true];first|done|omega|(simp;done))) [↓zmi,beq,ybc,ybd,ybe,al,wk,wk2,wk1,wkM,wkL,aG,ybf,hcl1,hlb]
  ·have d0:decide (n<0)=false:=decide_eq_false h0
   rcases hw with rfl|rfl
   ·rw [Hs h0,Bool.false_or] at hcl1 ⊢
    simp only [go_sem,byq,d0,s1,s2,hne,hneq,n1,n2,hcs,hcm,hA,hB,eh,hi0,hb0,ba,Bool.false_or] at hcl1 ⊢
    (repeat with_reducible refine And.intro (by first|assumption|decide|omega|exact ⟨by omega,by omega⟩) ?_)
    rw [hlb] at hcl1
    simp (disch:=first|assumption|omega|(simp;done)|(simp;omega)|(simp only [bt,and_true];first|done|omega|(simp;done))) [↓zmi,beq,ybc,ybd,ybe,al,wk,wk2,wk1,wkM,wkL,aG,ybf,hcl1,hlb]
   ·rw [Hv h0,Bool.false_or] at hcl1 ⊢
    simp only [go_sem,byq,d0,s3,s4,hne,hneq,n1,n2,hcs,hcm,hA,hB,eh,hi0,hb0,ba,Bool.false_or] at hcl1 ⊢
    (repeat with_reducible refine And.intro (by first|assumption|decide|omega|exact ⟨by omega,by omega⟩) ?_)
    rw [hlb] at hcl1
    simp (disch:=first|assumption|omega|(simp;done)|(simp;omega)|(simp only [bt,and_true];first|done|omega|(simp;done))) [↓zmi,beq,ybc,ybd,ybe,al,wk,wk2,wk1,wkM,wkL,aG,ybf,hcl1,hlb]
 ·simp only [go_sem,byq,hne,hneq,n1,n2,hcs,hcm,hA,hB,eh,hi0,hb0,ba,Bool.true_or] at hcl1 ⊢
  (repeat with_reducible refine And.intro (by first|assumption|decide|omega|exact ⟨by omega,by omega⟩) ?_)
  rw [hlb] at hcl1
  simp (disch:=first|assumption|omega|(simp;done)|(simp;omega)|(simp only [bt,and_true];first|done|omega|(simp;done))) [↓zmi,beq,ybc,ybd,ybe,al,wk,wk2,wk1,wkM,wkL,aG,ybf,hcl1,hlb]
end Go.AL
open Go Go.AL Go.Proofs
namespace Go.AL
set_option linter.all false
set_option maxRecDepth 10000
/-- the greatest length of an encoding here -/
def cR:Nat:=100000000000000
theorem bx:cR=100000000000000:=rfl
theorem aF {x y:Enc} (h:(x.add y).b.length≤cR):x.b.length≤cR:=by rw [cx] at h;omega
theorem SOn.same {H:AHeap} {id q:Nat} {s:Enc} (h:SOn H id q s):swH H id q s=H:=by
 have h1:=bo h.bu
 unfold swH
 rw [h1]
 exact bo h.o
def sB:List AV→AHeap→(AEnd→AHeap→Prop)→Prop
 |[.ptr id 0,.bool x],H,K=>∃ q s,(SOn H id q s∧(s.add (g7 x)).b.length≤cR)∧K (.ret (.tup [])) (swH H id q (s.add (g7 x)))
 |_,_,_=>False
theorem uY:EntOk Tryz.prog 171 (Ent.effect sB):=by
 refine EntOk.effect fun args H K h=>?_
 unfold sB at h
 split at h
 rotate_left
 ·exact h.elim
 rename_i id x
 obtain ⟨q,s,⟨hW,hl⟩,hK⟩:=h
 refine ⟨_,_,hK,?_⟩
 clear hK
 have hcl0:=hW.closed (t:=s.add (g7 x))
 rw [bx] at hl
 obtain ⟨b,sl,sf,sa⟩:=s
 simp only [Enc.add,g7,Bool.or_false,List.length_append,List.length_singleton] at hcl0 hl ⊢
 have hid:=AHeap.get_lt hW.o
 have hq:=AHeap.get_lt hW.bu
 have hne:=aU hid
 have hneq:=aU hq
 have n1:(id=q)=False:=eq_false hW.ne
 have n2:(q=id)=False:=eq_false fun e=>hW.ne e.symm
 have hcs:=aI hW.o
 have hb0:=hW.bu
 have hi0:=hW.o
 have hnn:=hW.ne
 dsimp only at hcs hb0 hi0
 refine ACalls.fW aB (TblOk.cons sK TblOk.nil) Tryz.func171 [] (by unfold swH;simp only [zkz];omega) (T:=ay [(0,[[],[],[],[],[],[],[],[4,6],[],[],[4,6]])]) (h:=fun hcl hlt=>?_)
 clear hlt
 have hcl1:=hcl0 hcl
 have hcm:=fun cs=>@av H id cs hid
 have hA:∀ X Y,aO ((H.set id (.cells X)).set q Y) id=some X:=fun X Y=>by
  unfold aO;rw [AHeap.get_set_ne _ _ hnn,AHeap.get_set_same _ _ hid]
 have hA0:∀ Y,aO (H.set q Y) id=aO H id:=fun Y=>by
  unfold aO;rw [AHeap.get_set_ne _ _ hnn]
 have hB:∀ X,(H.set id X).get q=some (.buf 1 b.length):=fun X=>by rw [AHeap.get_set_ne _ _ (fun e=>hnn e.symm)];exact hb0
 have eh:∀ X Y Z,((H.set id X).set q Y).set id Z=(H.set q Y).set id Z:=fun X Y Z=>by
  unfold AHeap.set;congr 1;funext j;dsimp only;by_cases h1:j=id<;>simp [h1]
 unfold swH at hcl1 ⊢
 dsimp only at hcl1 ⊢
 simp only [go_sem,byq,hne,hneq,n1,n2,hcs,hcm,hA,hA0,hB,eh,hi0,hb0,lR] at hcl1 ⊢
 (repeat with_reducible refine And.intro (by first|assumption|decide|omega|exact ⟨by omega,by omega⟩) ?_)
 simp (disch:=first|assumption|omega|(simp;done)|(simp;omega)|(simp only [bt,and_true];first|done|omega|(simp;done))) [↓zmi,beq,ybc,ybd,ybe,al,wk,wk2,wk1,wkM,wkL,aG,ybf,hcl1]
 first|done|exact hcl1|simpa using hcl1
def rP:List AV→AHeap→(AEnd→AHeap→Prop)→Prop
 |[.ptr id 0,.agg [.int .u64 hi,.int .u64 lo]],H,K=>∃ q s v,(SOn H id q s∧v<2^128∧hi=((v/2^64:Nat):Int)∧lo=((v % 2^64:Nat):Int)∧(s.add (i5 v)).b.length≤cR)∧K (.ret (.tup [])) (swH H id q (s.add (i5 v)))
 |_,_,_=>False
theorem uC:EntOk Tryz.prog 232 (Ent.effect rP):=by
 refine EntOk.effect fun args H K h=>?_
 unfold rP at h
 split at h
 rotate_left
 ·exact h.elim
 rename_i id hi lo
 obtain ⟨q,s,v,⟨hW,hv,rfl,rfl,hl⟩,hK⟩:=h
 refine ⟨_,_,hK,?_⟩
 clear hK
 have iv:=CO hv
 have hcl0:=hW.closed (t:=s.add (i5 v))
 rw [bx] at hl
 obtain ⟨b,sl,sf,sa⟩:=s
 simp only [Enc.add,i5,Bool.or_false,List.length_append,List.length_singleton] at hcl0 hl ⊢
 have hid:=AHeap.get_lt hW.o
 have hq:=AHeap.get_lt hW.bu
 have hne:=aU hid
 have hneq:=aU hq
 have n1:(id=q)=False:=eq_false hW.ne
 have n2:(q=id)=False:=eq_false fun e=>hW.ne e.symm
 have hcs:=aI hW.o
 have hb0:=hW.bu
 have hi0:=hW.o
 have hnn:=hW.ne
 dsimp only at hcs hb0 hi0
 refine ACalls.fW aB (TblOk.cons rz TblOk.nil) Tryz.func232 [] (by unfold swH;simp only [zkz];omega) (T:=ay [(1,[[],[],[],[],[],[],[5],[4,5,6],[],[],[4,5,6]])]) (h:=fun hcl hlt=>?_)
 clear hlt
 have hcl1:=hcl0 hcl
 have hcm:=fun cs=>@av H id cs hid
 have hA:∀ X Y,aO ((H.set id (.cells X)).set q Y) id=some X:=fun X Y=>by
  unfold aO;rw [AHeap.get_set_ne _ _ hnn,AHeap.get_set_same _ _ hid]
 have hA0:∀ Y,aO (H.set q Y) id=aO H id:=fun Y=>by
  unfold aO;rw [AHeap.get_set_ne _ _ hnn]
 have hB:∀ X,(H.set id X).get q=some (.buf 1 b.length):=fun X=>by rw [AHeap.get_set_ne _ _ (fun e=>hnn e.symm)];exact hb0
 have eh:∀ X Y Z,((H.set id X).set q Y).set id Z=(H.set q Y).set id Z:=fun X Y Z=>by
  unfold AHeap.set;congr 1;funext j;dsimp only;by_cases h1:j=id<;>simp [h1]
 unfold swH at hcl1 ⊢
 dsimp only at hcl1 ⊢
 simp only [go_sem,byq,hne,hneq,n1,n2,hcs,hcm,hA,hA0,hB,eh,hi0,hb0,lb,iv,Int.toNat_natCast,rq] at hcl1 ⊢
 (repeat with_reducible refine And.intro (by first|assumption|decide|omega|exact ⟨by omega,by omega⟩) ?_)
 simp (disch:=first|assumption|omega|(simp;done)|(simp;omega)|(simp only [bt,and_true];first|done|omega|(simp;done))) [↓zmi,beq,ybc,ybd,ybe,al,wk,wk2,wk1,wkM,wkL,aG,ybf,hcl1]
 first|done|exact hcl1|simpa using hcl1
def sA:List AV→AHeap→(AEnd→AHeap→Prop)→Prop
 |[.ptr id 0,.str x,.int .i64 most],H,K=>∃ q s,(SOn H id q s∧x.length≤cR∧(s.add (gr x most)).b.length≤cR)∧K (.ret (.tup [])) (swH H id q (s.add (gr x most)))
 |_,_,_=>False
theorem ns {α:Type} {p:α→Bool} {l:List α} {k:Nat} (h:k<l.length):(l.take (k+1)).any p=((l.take k).any p||p l[k]):=by
 rw [List.take_succ_eq_append_getElem h,List.any_append,List.any_cons,List.any_nil,Bool.or_false]
def swC (q:Nat) (b:List UInt8) (l f a:Bool):List AV:=[.slice (.own q) 1 (bys b),.bool l,.bool f,.bool a]
theorem lK:EntOk Tryz.prog 137 (Ent.effect sA):=by
 refine EntOk.effect fun args H K h=>?_
 unfold sA at h
 split at h
 rotate_left
 ·exact h.elim
 rename_i id x most
 obtain ⟨q,s,⟨hW,hx,hl⟩,hK⟩:=h
 refine ⟨_,_,hK,?_⟩
 clear hK
 have hcl0:=fun t=>hW.closed (t:=t)
 rw [bx] at hl hx
 obtain ⟨b,sl,sf,sa⟩:=s
 simp only [Enc.add,gr,Bool.or_false,List.length_append] at hl ⊢
 have hid:=AHeap.get_lt hW.o
 have hq:=AHeap.get_lt hW.bu
 have hne:=aU hid
 have hneq:=aU hq
 have n1:(id=q)=False:=eq_false hW.ne
 have n2:(q=id)=False:=eq_false fun e=>hW.ne e.symm
 have hcs:=aI hW.o
 have hb0:=hW.bu
 have hi0:=hW.o
 have hnn:=hW.ne
 dsimp only at hcs hb0 hi0
 refine ACalls.fW aB (TblOk.cons sU TblOk.nil) Tryz.func137 [] (by unfold swH;simp only [zkz];omega) (T:=ay [(6,[[],[],[],[],[],[],[],[4,6],[],[],[4,6]])]) (h:=fun hcl hlt=>?_)
 clear hlt
 have hcl1:=fun t=>hcl0 t hcl
 have hcm:=fun cs=>@av H id cs hid
 have hgm:=fun o=>@aN H id o hid
 have hA:∀ X Y,aO ((H.set id (.cells X)).set q Y) id=some X:=fun X Y=>by
  unfold aO;rw [AHeap.get_set_ne _ _ hnn,AHeap.get_set_same _ _ hid]
 have hB:∀ X,(H.set id X).get q=some (.buf 1 b.length):=fun X=>by rw [AHeap.get_set_ne _ _ (fun e=>hnn e.symm)];exact hb0
 have eh:∀ X Y Z,((H.set id X).set q Y).set id Z=(H.set q Y).set id Z:=fun X Y Z=>by
  unfold AHeap.set;congr 1;funext j;dsimp only;by_cases h1:j=id<;>simp [h1]
 have hclk:∀ L F,(H.set id (.cells (swC q b L F sa))).Closed:=fun L F=>by
  have:=hcl1 ⟨b,L,F,sa⟩
  unfold swH at this
  dsimp only at this
  rw [bo hb0] at this
  exact this
 have hend:=hcl1 ⟨b++hO x,sl||decide ((x.length:Int) > most),sf||x.any jp,sa⟩
 have e0:(sf||(x.take 0).any jp)=sf:=by rw [yar,List.any_nil,Bool.or_false]
 have hL2:sl=true→(sl||decide ((x.length:Int) > most))=true:=fun h=>by rw [h,Bool.true_or]
 have hL3:sl=false→decide ((x.length:Int) > most)=(sl||decide ((x.length:Int) > most)):=fun h=>by rw [h,Bool.false_or]
 generalize (sl||decide ((x.length:Int) > most))=L at *
 cases sl
 ·simp only [go_sem,byq,hne,hneq,n1,n2,hcs,hcm,hA,hB,eh,hi0,hb0,hL3 rfl]
  try (repeat with_reducible refine And.intro (by first|exact True.intro|decide|omega|(simp [zik,zgl,zgm,zgn,zgp,zgo,zgt];first|done|omega)) ?_)
  refine aA (A:=Nat) (fun k=>[(0,.ptr id 0),(1,.str x),(22,.slice .any 1 (bys x)),(23,.int .i64 (x.length:Int)),(24,.int .i64 (k:Int))]) (fun k=>H.set id (.cells (swC q b L (sf||(x.take k).any jp) sa))) (fun k=>k≤x.length) (fun k=>x.length - k) 0 (by omega) ?_ fun k hk=>?_
  ·rw [e0]
   refine ⟨by simp only [zkk,zkp,zkz,swH];omega,by repeat first|exact .refl _|refine .push ?_ _,hclk _ _,?_,?_⟩
   ·simp [ltF,zkz,znh,zmz,znb,zmm]
    omega
   ·simp [bf,wk2,wk1,wkM,Fr.get]
  simp only [go_sem]
  refine ai (fun hc=>?_) (fun hc=>?_)
  ·have hk':k<x.length:=by simp at hc;omega
   have hg:=iG hk'
   have e5:IntKind.i64.wrap ((k:Int)+1)=((k+1:Nat):Int):=by rw [wrap_i64]<;>omega
   have ht:=ns (p:=jp) hk'
   have hgd:x.getD k 0=x[k]:=by simp [List.getD_eq_getElem?_getD,hk']
   rw [hgd] at hg
   have hT:(sf||(x.take (k+1)).any jp)=((sf||(x.take k).any jp)||jp x[k]):=by rw [ht,Bool.or_assoc]
   generalize (sf||(x.take k).any jp)=F at *
   generalize x[k]=c at *
   have hfin:∀ F',F'=(F||jp c)→F'=(sf||(x.take (k+1)).any jp):=fun F' h=>by rw [h,hT]
   cases F
   ·by_cases hc1:(c.toNat:Int)<32
    ·have d1:decide ((c.toNat:Int)<32)=true:=decide_eq_true hc1
     simp only [go_sem,byq,swC,hne,hneq,n1,n2,hcs,hcm,hA,hB,eh,hi0,hb0,Int.toNat_natCast,zle,hg,bd,d1,e5]
     (repeat with_reducible refine And.intro (by first|assumption|decide|omega|simp) ?_)
     refine ⟨k+1,by omega,by omega,by simp only [zkk,zkp,zkz,swH];omega,?_,hclk _ _,?_,?_⟩
     ·rw [← hfin true (by simp [jp,d1])]
      repeat first|exact .refl _|refine .push ?_ _
     ·simp [ltF,zkz,znh,zmz,znb,zmm]
      omega
     ·simp [bf,wk2,wk1,wkM,Fr.get]
    ·have d1:decide ((c.toNat:Int)<32)=false:=decide_eq_false hc1
     simp only [go_sem,byq,swC,hne,hneq,n1,n2,hcs,hcm,hA,hB,eh,hi0,hb0,Int.toNat_natCast,zle,hg,bd,d1,e5]
     (repeat with_reducible refine And.intro (by first|assumption|decide|omega|simp) ?_)
     refine ⟨k+1,by omega,by omega,by simp only [zkk,zkp,zkz,swH];omega,?_,hclk _ _,?_,?_⟩
     ·rw [← hfin _ (show decide ((c.toNat:Int) > 126)=_ by simp [jp,d1])]
      repeat first|exact .refl _|refine .push ?_ _
     ·simp [ltF,zkz,znh,zmz,znb,zmm]
      omega
     ·simp [bf,wk2,wk1,wkM,Fr.get]
   ·simp only [go_sem,byq,swC,hne,hneq,n1,n2,hcs,hcm,hA,hB,eh,hi0,hb0,Int.toNat_natCast,zle,hg,bd,e5]
    (repeat with_reducible refine And.intro (by first|assumption|decide|omega|simp) ?_)
    refine ⟨k+1,by omega,by omega,by simp only [zkk,zkp,zkz,swH];omega,?_,hclk _ _,?_,?_⟩
    ·rw [← hfin true (by simp)]
     repeat first|exact .refl _|refine .push ?_ _
    ·simp [ltF,zkz,znh,zmz,znb,zmm]
     omega
    ·simp [bf,wk2,wk1,wkM,Fr.get]
  ·have hk':k=x.length:=by simp at hc;omega
   subst hk'
   rw [List.take_length]
   unfold swH at hend ⊢
   dsimp only at hend ⊢
   simp only [go_sem,byq,swC,hne,hneq,n1,n2,hcs,hcm,hA,hB,eh,hi0,hb0,kg] at hend ⊢
   (repeat with_reducible refine And.intro (by first|assumption|decide|omega|exact ⟨by omega,by omega⟩|exact ⟨by omega,by omega,by omega⟩) ?_)
   rw [List.length_append] at hend
   simp (disch:=first|assumption|omega|(simp;done)|(simp;omega)|(simp only [bt,and_true];first|done|omega|(simp;done))) [↓zmi,beq,ybc,ybd,ybe,al,wk,wk2,wk1,wkM,wkL,aG,ybf,hend,List.length_append]
   first|done|exact hend|simpa using hend
 ·obtain rfl:L=true:=hL2 rfl
  simp only [go_sem,byq,hne,hneq,n1,n2,hcs,hcm,hA,hB,eh,hi0,hb0]
  try (repeat with_reducible refine And.intro (by first|exact True.intro|decide|omega|(simp [zik,zgl,zgm,zgn,zgp,zgo,zgt];first|done|omega)) ?_)
  refine aA (A:=Nat) (fun k=>[(0,.ptr id 0),(1,.str x),(22,.slice .any 1 (bys x)),(23,.int .i64 (x.length:Int)),(24,.int .i64 (k:Int))]) (fun k=>H.set id (.cells (swC q b true (sf||(x.take k).any jp) sa))) (fun k=>k≤x.length) (fun k=>x.length - k) 0 (by omega) ?_ fun k hk=>?_
  ·rw [e0]
   refine ⟨by simp only [zkk,zkp,zkz,swH];omega,by repeat first|exact .refl _|refine .push ?_ _,hclk _ _,?_,?_⟩
   ·simp [ltF,zkz,znh,zmz,znb,zmm]
    omega
   ·simp [bf,wk2,wk1,wkM,Fr.get]
  simp only [go_sem]
  refine ai (fun hc=>?_) (fun hc=>?_)
  ·have hk':k<x.length:=by simp at hc;omega
   have hg:=iG hk'
   have e5:IntKind.i64.wrap ((k:Int)+1)=((k+1:Nat):Int):=by rw [wrap_i64]<;>omega
   have ht:=ns (p:=jp) hk'
   have hgd:x.getD k 0=x[k]:=by simp [List.getD_eq_getElem?_getD,hk']
   rw [hgd] at hg
   have hT:(sf||(x.take (k+1)).any jp)=((sf||(x.take k).any jp)||jp x[k]):=by rw [ht,Bool.or_assoc]
   generalize (sf||(x.take k).any jp)=F at *
   generalize x[k]=c at *
   have hfin:∀ F',F'=(F||jp c)→F'=(sf||(x.take (k+1)).any jp):=fun F' h=>by rw [h,hT]
   cases F
   ·by_cases hc1:(c.toNat:Int)<32
    ·have d1:decide ((c.toNat:Int)<32)=true:=decide_eq_true hc1
     simp only [go_sem,byq,swC,hne,hneq,n1,n2,hcs,hcm,hA,hB,eh,hi0,hb0,Int.toNat_natCast,zle,hg,bd,d1,e5]
     (repeat with_reducible refine And.intro (by first|assumption|decide|omega|simp) ?_)
     refine ⟨k+1,by omega,by omega,by simp only [zkk,zkp,zkz,swH];omega,?_,hclk _ _,?_,?_⟩
     ·rw [← hfin true (by simp [jp,d1])]
      repeat first|exact .refl _|refine .push ?_ _
     ·simp [ltF,zkz,znh,zmz,znb,zmm]
      omega
     ·simp [bf,wk2,wk1,wkM,Fr.get]
    ·have d1:decide ((c.toNat:Int)<32)=false:=decide_eq_false hc1
     simp only [go_sem,byq,swC,hne,hneq,n1,n2,hcs,hcm,hA,hB,eh,hi0,hb0,Int.toNat_natCast,zle,hg,bd,d1,e5]
     (repeat with_reducible refine And.intro (by first|assumption|decide|omega|simp) ?_)
     refine ⟨k+1,by omega,by omega,by simp only [zkk,zkp,zkz,swH];omega,?_,hclk _ _,?_,?_⟩
     ·rw [← hfin _ (show decide ((c.toNat:Int) > 126)=_ by simp [jp,d1])]
      repeat first|exact .refl _|refine .push ?_ _
     ·simp [ltF,zkz,znh,zmz,znb,zmm]
      omega
     ·simp [bf,wk2,wk1,wkM,Fr.get]
   ·simp only [go_sem,byq,swC,hne,hneq,n1,n2,hcs,hcm,hA,hB,eh,hi0,hb0,Int.toNat_natCast,zle,hg,bd,e5]
    (repeat with_reducible refine And.intro (by first|assumption|decide|omega|simp) ?_)
    refine ⟨k+1,by omega,by omega,by simp only [zkk,zkp,zkz,swH];omega,?_,hclk _ _,?_,?_⟩
    ·rw [← hfin true (by simp)]
     repeat first|exact .refl _|refine .push ?_ _
    ·simp [ltF,zkz,znh,zmz,znb,zmm]
     omega
    ·simp [bf,wk2,wk1,wkM,Fr.get]
  ·have hk':k=x.length:=by simp at hc;omega
   subst hk'
   rw [List.take_length]
   unfold swH at hend ⊢
   dsimp only at hend ⊢
   simp only [go_sem,byq,swC,hne,hneq,n1,n2,hcs,hcm,hA,hB,eh,hi0,hb0,kg] at hend ⊢
   (repeat with_reducible refine And.intro (by first|assumption|decide|omega|exact ⟨by omega,by omega⟩|exact ⟨by omega,by omega,by omega⟩) ?_)
   rw [List.length_append] at hend
   simp (disch:=first|assumption|omega|(simp;done)|(simp;omega)|(simp only [bt,and_true];first|done|omega|(simp;done))) [↓zmi,beq,ybc,ybd,ybe,al,wk,wk2,wk1,wkM,wkL,aG,ybf,hend,List.length_append]
   first|done|exact hend|simpa using hend
end Go.AL
open Go Go.AL Go.Proofs
namespace Go.AL
set_option linter.all false
set_option maxRecDepth 10000
/-! ### What is written of each element -/
def jh (n:Int):Enc:=bQ n 2
def dT (x:SField):Enc:=(bQ x.id 2).add ((gr x.name 24).add (bQ x.bits 1))
def dm (x:SHeader):Enc:=(bQ x.id 2).add ((gr x.name 24).add (aT jh 32 x.fields))
def i7 (x:SCase):Enc:=(i5 x.value).add ((i5 x.mask).add (bQ x.next 2))
def fk (x:SState):Enc:=(bQ x.id 2).add ((bQ x.header 2).add ((bQ x.select 2).add ((aT i7 6 x.cases).add (bQ x.dflt 2))))
def fS (x:SParam):Enc:=(gr x.name 24).add (bQ x.bits 1)
def jn (x:SPrim):Enc:=(bQ x.op 1).add ((bQ x.dst 2).add ((bQ x.kind 1).add ((bQ x.n 2).add (i5 x.value))))
def cQ (x:SAction):Enc:=(bQ x.id 2).add ((gr x.name 24).add ((aT fS 4 x.params).add ((aT jn 12 x.body).add (gr x.restr 400))))
def kE (x:SKey):Enc:=(gr x.name 24).add ((bQ x.field 2).add (bQ x.kind 1))
def dX (x:STable):Enc:=(bQ x.id 2).add ((gr x.name 24).add ((aT kE 4 x.keys).add ((aT jh 12 x.actions).add ((bQ x.dflt 2).add ((aT i5 4 x.dargs).add ((bQ x.size 2).add (gr x.restr 400)))))))
def fa (x:SStage):Enc:=(bQ x.table 2).add (bQ x.header 2)
def fT (x:SGrant):Enc:=(bQ x.table 2).add ((g7 x.read).add ((g7 x.write).add (aT g7 4 x.keys)))
def gL (x:SRole):Enc:=(bQ x.id 2).add ((gr x.name 24).add ((aT fT 8 x.grants).add ((aT jh 12 x.actions).add ((bQ x.quota 2).add (g7 x.audit)))))
def kF (x:SRef):Enc:=(bQ x.table 2).add ((bQ x.key 1).add ((bQ x.action 2).add ((bQ x.param 1).add ((bQ x.toTable 2).add (bQ x.toKey 1)))))
def dZ (x:Sch):Enc:=(aT dT 32 x.fields).add ((aT dm 8 x.headers).add (aT fk 12 x.states))
def gZ (x:Sch):Enc:=(bQ x.maxBatch 2).add ((bQ x.budget 2).add ((dZ x).add ((aT cQ 12 x.actions).add ((aT dX 8 x.tables).add ((aT fa 12 x.stages).add ((aT gL 6 x.roles).add (aT kF 8 x.refs)))))))
/-! ### What is asked of an element -/
def nl (s:List UInt8):Prop:=s.length≤cR
def oW {α:Type} (_:α):Prop:=True
def j3 (v:Nat):Prop:=v<2^128
def tX (x:SField):Prop:=nl x.name
def rc (x:SHeader):Prop:=nl x.name
def r7 (x:SCase):Prop:=j3 x.value∧j3 x.mask
def uu (x:SState):Prop:=∀ c∈x.cases,r7 c
def uH (x:SParam):Prop:=nl x.name
def yd (x:SPrim):Prop:=j3 x.value
def lA (x:SAction):Prop:=nl x.name∧(∀ p∈x.params,uH p)∧(∀ p∈x.body,yd p)∧nl x.restr
def DO (x:SKey):Prop:=nl x.name
def mS (x:STable):Prop:=nl x.name∧(∀ k∈x.keys,DO k)∧(∀ v∈x.dargs,j3 v)∧nl x.restr
def ub (x:SRole):Prop:=nl x.name
structure OkSch (x:Sch):Prop where
 f:∀ a∈x.fields,tX a
 h:∀ a∈x.headers,rc a
 s:∀ a∈x.states,uu a
 a:∀ a∈x.actions,lA a
 t:∀ a∈x.tables,mS a
 r:∀ a∈x.roles,ub a
/-! ### Each element takes a byte at least -/
theorem jj {n w:Int} (h:w=1∨w=2):1≤(bQ n w).b.length:=by
 rcases h with rfl|rfl<;>simp [bQ,fQ,la]
theorem yN {s:List UInt8} {m:Int}:1≤(gr s m).b.length:=by
 unfold gr hO
 rw [List.length_append,la];omega
theorem y9 {v:Nat}:1≤(i5 v).b.length:=by simp [i5,jm]
theorem FB {x:Bool}:1≤(g7 x).b.length:=by simp [g7]
theorem iH {x y:Enc} (h:1≤x.b.length):1≤(x.add y).b.length:=by rw [cx];omega
theorem ux {α:Type} {g:α→Enc} (h:∀ x,1≤(g x).b.length):∀ l:List α,l.length≤(bP g l).b.length
 |[]=>Nat.zero_le _
 |x::l=>by
  rw [bP,cx,yaz]
  have:=h x
  have:=ux h l
  omega
theorem vj (n:Int):1≤(jh n).b.length:=jj (.inr rfl)
theorem tt (x:SField):1≤(dT x).b.length:=iH (jj (.inr rfl))
theorem sn (x:SHeader):1≤(dm x).b.length:=iH (jj (.inr rfl))
theorem vr (x:SCase):1≤(i7 x).b.length:=iH y9
theorem tE (x:SState):1≤(fk x).b.length:=iH (jj (.inr rfl))
theorem tv (x:SParam):1≤(fS x).b.length:=iH yN
theorem wj (x:SPrim):1≤(jn x).b.length:=iH (jj (.inl rfl))
theorem rp (x:SAction):1≤(cQ x).b.length:=iH (jj (.inr rfl))
theorem zo (x:SKey):1≤(kE x).b.length:=iH yN
theorem sX (x:STable):1≤(dX x).b.length:=iH (jj (.inr rfl))
theorem tP (x:SStage):1≤(fa x).b.length:=iH (jj (.inr rfl))
theorem tF (x:SGrant):1≤(fT x).b.length:=iH (jj (.inr rfl))
theorem vq (x:SRole):1≤(gL x).b.length:=iH (jj (.inr rfl))
theorem zc (x:SRef):1≤(kF x).b.length:=iH (jj (.inr rfl))
theorem vf (v:Nat):1≤(i5 v).b.length:=y9
theorem wW (x:Bool):1≤(g7 x).b.length:=FB
/-! ### Contracts of what writes an element, a list -/
def eW {α:Type} (c:α→AV) (ok:α→Prop) (g:α→Enc):List AV→AHeap→(AEnd→AHeap→Prop)→Prop
 |[.ptr id 0,x],H,K=>∃ q s a,(SOn H id q s∧x=c a∧ok a∧(s.add (g a)).b.length≤cR)∧K (.ret (.tup [])) (swH H id q (s.add (g a)))
 |_,_,_=>False
def iN {α:Type} (f sz:Nat) (c:α→AV) (ok:α→Prop) (g:α→Enc):List AV→AHeap→(AEnd→AHeap→Prop)→Prop
 |[.ptr id 0,.agg [.int .i64 most,.func (.func f') [] [],.func (.func r) [] []],.slice .any sz' xs],H,K=>∃ q s l,(SOn H id q s∧f'=f∧sz'=sz∧xs=l.map c∧(∀ a∈l,ok a)∧(s.add (aT g most l)).b.length≤cR) ∧
   K (.ret (.tup [])) (swH H id q (s.add (aT g most l)))
 |_,_,_=>False
theorem cB {id q:Nat} {H:AHeap} {s:Enc} {n w:Int} {K:AEnd→AHeap→Prop} (hw:w=1∨w=2) (h:SOn H id q s) (hl:(s.add (bQ n w)).b.length≤cR) (hK:K (.ret (.tup [])) (swH H id q (s.add (bQ n w)))) :
 qR [.ptr id 0,.int .i64 n,.int .i64 w] H K:=⟨q,s,⟨h,hw,aF hl⟩,hK⟩
theorem jv {id q:Nat} {H:AHeap} {s:Enc} {x:List UInt8} {m:Int} {K:AEnd→AHeap→Prop} (hx:nl x) (h:SOn H id q s) (hl:(s.add (gr x m)).b.length≤cR) (hK:K (.ret (.tup [])) (swH H id q (s.add (gr x m)))) :
 sA [.ptr id 0,.str x,.int .i64 m] H K:=⟨q,s,⟨h,hx,hl⟩,hK⟩
theorem pR {id q:Nat} {H:AHeap} {s:Enc} {x:Bool} {K:AEnd→AHeap→Prop} (h:SOn H id q s) (hl:(s.add (g7 x)).b.length≤cR) (hK:K (.ret (.tup [])) (swH H id q (s.add (g7 x)))) :
 sB [.ptr id 0,.bool x] H K:=⟨q,s,⟨h,hl⟩,hK⟩
theorem pS {id q:Nat} {H:AHeap} {s:Enc} {v:Nat} {K:AEnd→AHeap→Prop} (hv:j3 v) (h:SOn H id q s) (hl:(s.add (i5 v)).b.length≤cR) (hK:K (.ret (.tup [])) (swH H id q (s.add (i5 v)))) :
 rP [.ptr id 0,.agg [.int .u64 ((v/2^64:Nat):Int),.int .u64 ((v % 2^64:Nat):Int)]] H K:=⟨q,s,v,⟨h,hv,rfl,rfl,hl⟩,hK⟩
theorem mi {α:Type} {c:α→AV} {ok:α→Prop} {g:α→Enc} {id q:Nat} {H:AHeap} {s:Enc} {a:α} {K:AEnd→AHeap→Prop} (ha:ok a) (h:SOn H id q s) (hl:(s.add (g a)).b.length≤cR) (hK:K (.ret (.tup [])) (swH H id q (s.add (g a)))) :
 eW c ok g [.ptr id 0,c a] H K:=⟨q,s,a,⟨h,rfl,ha,hl⟩,hK⟩
theorem jy {α:Type} {f sz r:Nat} {c:α→AV} {ok:α→Prop} {g:α→Enc} {id q:Nat} {H:AHeap} {s:Enc} {l:List α} {m:Int} {K:AEnd→AHeap→Prop} (ha:∀ a∈l,ok a) (h:SOn H id q s) (hl:(s.add (aT g m l)).b.length≤cR) (hK:K (.ret (.tup [])) (swH H id q (s.add (aT g m l)))) :
 iN f sz c ok g [.ptr id 0,.agg [.int .i64 m,.func (.func f) [] [],.func (.func r) [] []],.slice .any sz (l.map c)] H K:=⟨q,s,l,⟨h,rfl,rfl,rfl,ha,hl⟩,hK⟩
structure WFacts (H:AHeap) (id q:Nat):Prop where
 p0:∀ t x,swH (H.push x) id q t=(swH H id q t).push x
 p1:∀ s t x,swH ((swH H id q s).push x) id q t=(swH H id q t).push x
 p2:∀ s t x y,swH (((swH H id q s).push x).push y) id q t=((swH H id q t).push x).push y
 p3:∀ s t x y z,swH ((((swH H id q s).push x).push y).push z) id q t=(((swH H id q t).push x).push y).push z
 pp:∀ s t,swH (swH H id q s) id q t=swH H id q t
theorem SOn.facts {H:AHeap} {id q:Nat} {s:Enc} (h:SOn H id q s):WFacts H id q:=by
 have h1:=AHeap.get_lt h.o
 have h2:=AHeap.get_lt h.bu
 refine ⟨fun t x=>ku h1 h2,fun s t x=>?_,fun s t x y=>?_,fun s t x y z=>?_,fun s t=>qz h.ne⟩
 ·rw [ku (by exact h1) (by exact h2),qz h.ne]
 ·rw [ku (by rw [zky];exact Nat.lt_succ_of_lt h1) (by rw [zky];exact Nat.lt_succ_of_lt h2),ku (by exact h1) (by exact h2),qz h.ne]
 ·rw [ku (by rw [zky,zky];exact Nat.lt_succ_of_lt (Nat.lt_succ_of_lt h1)) (by rw [zky,zky];exact Nat.lt_succ_of_lt (Nat.lt_succ_of_lt h2)),
   ku (by rw [zky];exact Nat.lt_succ_of_lt h1) (by rw [zky];exact Nat.lt_succ_of_lt h2),ku (by exact h1) (by exact h2),qz h.ne]
end Go.AL
