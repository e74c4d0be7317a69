/- Contracts and plain laws, a part of the proof; no condition of its own. -/
import Derived.Test.YtiiiljghmilepaaGreatW03g
set_option maxHeartbeats 32000000
open List renaming length_cons → yaz, length_nil → yba, take_of_length_le → ybc, drop_append → ybd, take_append → ybe, drop_eq_nil_of_le → ybf, length_map → ybb, take_zero → yar
open Go Go.AL Go.Proofs
namespace Go.AL
set_option linter.all false
set_option maxRecDepth 10000
theorem Ft:ti Tryz.prog 78=some ⟨.struct [(0,22,false),(1,4,false),(2,4,false),(3,4,false)],4,32,.agg [.slice .nil 1 [],.bool false,.bool false,.bool false]⟩:=by kernel_rfl
theorem C3:ti Tryz.prog 76=some ⟨.ptr 78,1,8,.nilp⟩:=by kernel_rfl
attribute [go_sem] Ft C3
theorem Bc (l:List UInt8):l.any jp=!eN l:=by
 unfold eN
 rw [List.not_all_eq_any_not]
 congr 1
 funext c
 have e1:(((c.toNat:Int)<32))=(c.toNat<32):=by rw [show ((32:Int))=((32:Nat):Int) from rfl,Int.ofNat_lt]
 have e2:(((c.toNat:Int) > 126))=(126<c.toNat):=by rw [show ((126:Int))=((126:Nat):Int) from rfl,gt_iff_lt,Int.ofNat_lt]
 simp only [jp,Bool.not_not,e1,e2]
def CC:=sB
theorem FQ:EntOk Tryz.prog 127 (Ent.effect CC):=by
 unfold CC
 refine EntOk.effect fun args H K h=>?_
 unfold sB at h
 split at h
 rotate_left
 ·exact h.elim
 rename_i id x
 obtain ⟨q,s,⟨hW,hl⟩,hK⟩:=h
 refine ⟨_,_,hK,?_⟩
 clear hK
 replace hl:=aF hl
 rw [bx] at hl
 have hcl0:=fun t=>hW.closed (t:=t)
 obtain ⟨b,sl,sf,sa⟩:=s
 have hid:=AHeap.get_lt hW.o
 have hq:=AHeap.get_lt hW.bu
 have hne:=aU hid
 have hneq:=aU hq
 have n1:(id=q)=False:=eq_false hW.ne
 have n2:(q=id)=False:=eq_false fun e=>hW.ne e.symm
 have hcs:=aI hW.o
 have hb0:=hW.bu
 have hi0:=hW.o
 have hnn:=hW.ne
 dsimp only at hcs hb0 hi0 hl
 refine ACalls.fW aB (TblOk.cons BA TblOk.nil) Tryz.func127 [] (by rw [af];omega) (T:=ay []) (h:=fun hcl hlt=>?_)
 clear hlt
 have hcl1:=fun t=>hcl0 t hcl
 have hcm:=fun cs=>@av H id cs hid
 have hA:=fun X Y=>@cd H id q X Y hnn hid
 have hA0:∀ Y,aO (H.set q Y) id=aO H id:=fun Y=>by
  unfold aO;rw [AHeap.get_set_ne _ _ hnn]
 have hB:=fun X=>cF (X:=X) hnn hb0
 have eh:=fun X Y Z=>@cD H id q X Y Z
 have hcl9:=hcl1 ((⟨b,sl,sf,sa⟩:Enc).add (g7 x))
 simp only [swH,Enc.add,g7,Bool.or_false,List.length_append,List.length_singleton] at hcl9 ⊢
 simp only [go_sem,byq,hne,hneq,n1,n2,hcs,hcm,hA,hA0,hB,eh,hi0,hb0,zlt,zle,zlv,true_and,uN]
 (repeat with_reducible refine And.intro (by first|assumption|decide|omega|exact ⟨by omega,by omega⟩|exact ⟨by omega,by omega,by omega⟩|exact ⟨by omega,hb0⟩|exact ⟨by omega,hB _⟩|exact ⟨by omega,by omega,hb0⟩|exact ⟨by omega,by omega,hB _⟩) ?_)
 simp (disch:=first|assumption|omega|(simp;done)|(simp;omega)|(simp only [bt,and_true];first|done|omega|(simp;done))) [↓zmi,beq,ybc,ybd,ybe,al,wk,wk2,wk1,wkM,wkL,aG,ybf,hcl9,List.length_append]
 first|done|exact hcl9|simpa using hcl9
def Ct:=rP
theorem uT:EntOk Tryz.prog 126 (Ent.effect Ct):=by
 unfold Ct
 refine EntOk.effect fun args H K h=>?_
 unfold rP at h
 split at h
 rotate_left
 ·exact h.elim
 rename_i id hi lo
 obtain ⟨q,s,v,⟨hW,hv,rfl,rfl,hl⟩,hK⟩:=h
 refine ⟨_,_,hK,?_⟩
 clear hK
 have iv:=CO hv
 replace hl:=aF hl
 rw [bx] at hl
 have hcl0:=fun t=>hW.closed (t:=t)
 obtain ⟨b,sl,sf,sa⟩:=s
 have hid:=AHeap.get_lt hW.o
 have hq:=AHeap.get_lt hW.bu
 have hne:=aU hid
 have hneq:=aU hq
 have n1:(id=q)=False:=eq_false hW.ne
 have n2:(q=id)=False:=eq_false fun e=>hW.ne e.symm
 have hcs:=aI hW.o
 have hb0:=hW.bu
 have hi0:=hW.o
 have hnn:=hW.ne
 dsimp only at hcs hb0 hi0 hl
 refine ACalls.fW aB (TblOk.cons zt TblOk.nil) Tryz.func126 [] (by rw [af];omega) (T:=ay [(1,[[],[],[],[],[],[],[4,5],[],[],[4,5,6]])]) (h:=fun hcl hlt=>?_)
 clear hlt
 have hcl1:=fun t=>hcl0 t hcl
 have hcm:=fun cs=>@av H id cs hid
 have hA:=fun X Y=>@cd H id q X Y hnn hid
 have hA0:∀ Y,aO (H.set q Y) id=aO H id:=fun Y=>by
  unfold aO;rw [AHeap.get_set_ne _ _ hnn]
 have hB:=fun X=>cF (X:=X) hnn hb0
 have eh:=fun X Y Z=>@cD H id q X Y Z
 have hcl9:=hcl1 ((⟨b,sl,sf,sa⟩:Enc).add (i5 v))
 simp only [swH,Enc.add,i5,Bool.or_false,List.length_append] at hcl9 ⊢
 simp only [go_sem,byq,hne,hneq,n1,n2,hcs,hcm,hA,hA0,hB,eh,hi0,hb0,zlt,zle,zlv,true_and,rG,iv,Int.toNat_natCast,rq]
 (repeat with_reducible refine And.intro (by first|assumption|decide|omega|exact ⟨by omega,by omega⟩|exact ⟨by omega,by omega,by omega⟩|exact ⟨by omega,hb0⟩|exact ⟨by omega,hB _⟩|exact ⟨by omega,by omega,hb0⟩|exact ⟨by omega,by omega,hB _⟩) ?_)
 simp (disch:=first|assumption|omega|(simp;done)|(simp;omega)|(simp only [bt,and_true];first|done|omega|(simp;done))) [↓zmi,beq,ybc,ybd,ybe,al,wk,wk2,wk1,wkM,wkL,aG,ybf,hcl9,List.length_append]
 first|done|exact hcl9|simpa using hcl9
def DM:=qR
theorem nk:EntOk Tryz.prog 31 (Ent.effect DM):=by
 unfold DM
 refine EntOk.effect fun args H K h=>?_
 unfold qR at h
 split at h
 rotate_left
 ·exact h.elim
 rename_i id n w
 obtain ⟨q,s,⟨hW,hw,hl⟩,hK⟩:=h
 refine ⟨_,_,hK,?_⟩
 clear hK
 have hcl0:=fun t=>hW.closed (t:=t)
 obtain ⟨b,sl,sf,sa⟩:=s
 have hid:=AHeap.get_lt hW.o
 have hq:=AHeap.get_lt hW.bu
 have hne:=aU hid
 have hneq:=aU hq
 have n1:(id=q)=False:=eq_false hW.ne
 have n2:(q=id)=False:=eq_false fun e=>hW.ne e.symm
 have hcs:=aI hW.o
 have hb0:=hW.bu
 have hi0:=hW.o
 have hnn:=hW.ne
 dsimp only at hcs hb0 hi0 hl
 refine ACalls.fW aB (TblOk.cons rN TblOk.nil) Tryz.func31 [] (by rw [af];omega) (T:=ay []) (h:=fun hcl hlt=>?_)
 clear hlt
 have hcl1:=fun t=>hcl0 t hcl
 have hcm:=fun cs=>@av H id cs hid
 have hA:=fun X Y=>@cd H id q X Y hnn hid
 have hA0:∀ Y,aO (H.set q Y) id=aO H id:=fun Y=>by
  unfold aO;rw [AHeap.get_set_ne _ _ hnn]
 have hB:=fun X=>cF (X:=X) hnn hb0
 have eh:=fun X Y Z=>@cD H id q X Y Z
 have hcl9:=hcl1 ((⟨b,sl,sf,sa⟩:Enc).add (bQ n w))
 have s1:IntKind.u64.wrap (IntKind.i64.wrap 8)=8:=by decide
 have s2:nm .i64 1 8=256:=by decide
 have s3:IntKind.u64.wrap (IntKind.i64.wrap 16)=16:=by decide
 have s4:nm .i64 1 16=65536:=by decide
 simp only [swH,Enc.add,bQ,Bool.or_false,List.length_append] at hcl9 ⊢
 by_cases h0:n<0
 ·have d0:decide (n<0)=true:=decide_eq_true h0
  rw [BF h0,Bool.not_false,Bool.or_true] at hcl9 ⊢
  simp only [go_sem,byq,hne,hneq,n1,n2,hcs,hcm,hA,hA0,hB,eh,hi0,hb0,zlt,zle,zlv,true_and,lT,d0]
  (repeat with_reducible refine And.intro (by first|assumption|decide|omega|exact ⟨by omega,by omega⟩|exact ⟨by omega,by omega,by omega⟩|exact ⟨by omega,hb0⟩|exact ⟨by omega,hB _⟩|exact ⟨by omega,by omega,hb0⟩|exact ⟨by omega,by omega,hB _⟩) ?_)
  simp (disch:=first|assumption|omega|(simp;done)|(simp;omega)|(simp only [bt,and_true];first|done|omega|(simp;done))) [↓zmi,beq,ybc,ybd,ybe,al,wk,wk2,wk1,wkM,wkL,aG,ybf,hcl9,List.length_append]
  first|done|exact hcl9|simpa using hcl9
 ·have d0:decide (n<0)=false:=decide_eq_false h0
  rcases hw with rfl|rfl
  ·rw [Hs h0] at hcl9 ⊢
   cases hd:decide (n ≥ 256)
   all_goals
    rw [hd] at hcl9
    try rw [Bool.or_false] at hcl9
    try rw [Bool.or_true] at hcl9
    simp only [go_sem,byq,hne,hneq,n1,n2,hcs,hcm,hA,hA0,hB,eh,hi0,hb0,zlt,zle,zlv,true_and,lT,d0,s1,s2,hd,Bool.or_false,Bool.or_true]
    (repeat with_reducible refine And.intro (by first|assumption|decide|omega|exact ⟨by omega,by omega⟩|exact ⟨by omega,by omega,by omega⟩|exact ⟨by omega,hb0⟩|exact ⟨by omega,hB _⟩|exact ⟨by omega,by omega,hb0⟩|exact ⟨by omega,by omega,hB _⟩) ?_)
    simp (disch:=first|assumption|omega|(simp;done)|(simp;omega)|(simp only [bt,and_true];first|done|omega|(simp;done))) [↓zmi,beq,ybc,ybd,ybe,al,wk,wk2,wk1,wkM,wkL,aG,ybf,hcl9,List.length_append]
    first|done|exact hcl9|simpa using hcl9
  ·rw [Hv h0] at hcl9 ⊢
   cases hd:decide (n ≥ 65536)
   all_goals
    rw [hd] at hcl9
    try rw [Bool.or_false] at hcl9
    try rw [Bool.or_true] at hcl9
    simp only [go_sem,byq,hne,hneq,n1,n2,hcs,hcm,hA,hA0,hB,eh,hi0,hb0,zlt,zle,zlv,true_and,lT,d0,s3,s4,hd,Bool.or_false,Bool.or_true]
    (repeat with_reducible refine And.intro (by first|assumption|decide|omega|exact ⟨by omega,by omega⟩|exact ⟨by omega,by omega,by omega⟩|exact ⟨by omega,hb0⟩|exact ⟨by omega,hB _⟩|exact ⟨by omega,by omega,hb0⟩|exact ⟨by omega,by omega,hB _⟩) ?_)
    simp (disch:=first|assumption|omega|(simp;done)|(simp;omega)|(simp only [bt,and_true];first|done|omega|(simp;done))) [↓zmi,beq,ybc,ybd,ybe,al,wk,wk2,wk1,wkM,wkL,aG,ybf,hcl9,List.length_append]
    first|done|exact hcl9|simpa using hcl9
def xX:List AV→AHeap→(AEnd→AHeap→Prop)→Prop
 |[.ptr id 0,.int .i64 n,.int .i64 most],H,K=>∃ q s k,(SOn H id q s∧n=((k:Nat):Int)∧(s.add (cC k most)).b.length≤cR)∧K (.ret (.tup [])) (swH H id q (s.add (cC k most)))
 |_,_,_=>False
theorem j6 {id q k:Nat} {H:AHeap} {s:Enc} {m:Int} {K:AEnd→AHeap→Prop} (h:SOn H id q s) (hl:(s.add (cC k m)).b.length≤cR) (hK:K (.ret (.tup [])) (swH H id q (s.add (cC k m)))) :
 xX [.ptr id 0,.int .i64 (k:Int),.int .i64 m] H K:=⟨q,s,k,⟨h,rfl,hl⟩,hK⟩
theorem mT:EntOk Tryz.prog 33 (Ent.effect xX):=by
 refine EntOk.effect fun args H K h=>?_
 unfold xX at h
 split at h
 rotate_left
 ·exact h.elim
 rename_i id n most
 obtain ⟨q,s,k,⟨hW,rfl,hl⟩,hK⟩:=h
 refine ⟨_,_,hK,?_⟩
 clear hK
 replace hl:=aF hl
 rw [bx] at hl
 have hcl0:=fun t=>hW.closed (t:=t)
 obtain ⟨b,sl,sf,sa⟩:=s
 have hid:=AHeap.get_lt hW.o
 have hq:=AHeap.get_lt hW.bu
 have hne:=aU hid
 have hneq:=aU hq
 have n1:(id=q)=False:=eq_false hW.ne
 have n2:(q=id)=False:=eq_false fun e=>hW.ne e.symm
 have hcs:=aI hW.o
 have hb0:=hW.bu
 have hi0:=hW.o
 have hnn:=hW.ne
 dsimp only at hcs hb0 hi0 hl
 refine ACalls.fW aB (TblOk.cons rN TblOk.nil) Tryz.func33 [] (by rw [af];omega) (T:=ay []) (h:=fun hcl hlt=>?_)
 clear hlt
 have hcl1:=fun t=>hcl0 t hcl
 have hcm:=fun cs=>@av H id cs hid
 have hA:=fun X Y=>@cd H id q X Y hnn hid
 have hA0:∀ Y,aO (H.set q Y) id=aO H id:=fun Y=>by
  unfold aO;rw [AHeap.get_set_ne _ _ hnn]
 have hB:=fun X=>cF (X:=X) hnn hb0
 have eh:=fun X Y Z=>@cD H id q X Y Z
 have hcl9:=hcl1 ((⟨b,sl,sf,sa⟩:Enc).add (cC k most))
 simp only [swH,Enc.add,cC,Bool.or_false,List.length_append] at hcl9 ⊢
 cases hd:decide ((k:Int) > most)
 all_goals
  rw [hd] at hcl9
  try rw [Bool.or_false] at hcl9
  try rw [Bool.or_true] at hcl9
  simp only [go_sem,byq,hne,hneq,n1,n2,hcs,hcm,hA,hA0,hB,eh,hi0,hb0,zlt,zle,zlv,true_and,lT,hd,Bool.or_false,Bool.or_true]
  (repeat with_reducible refine And.intro (by first|assumption|decide|omega|exact ⟨by omega,by omega⟩|exact ⟨by omega,by omega,by omega⟩|exact ⟨by omega,hb0⟩|exact ⟨by omega,hB _⟩|exact ⟨by omega,by omega,hb0⟩|exact ⟨by omega,by omega,hB _⟩) ?_)
  simp (disch:=first|assumption|omega|(simp;done)|(simp;omega)|(simp only [bt,and_true];first|done|omega|(simp;done))) [↓zmi,beq,ybc,ybd,ybe,al,wk,wk2,wk1,wkM,wkL,aG,ybf,hcl9,List.length_append]
  first|done|exact hcl9|simpa using hcl9
def Dp:=sA
theorem qp:EntOk Tryz.prog 124 (Ent.effect Dp):=by
 unfold Dp
 refine EntOk.effect fun args H K h=>?_
 unfold sA at h
 split at h
 rotate_left
 ·exact h.elim
 rename_i id x most
 obtain ⟨q,s,⟨hW,hx,hl⟩,hK⟩:=h
 refine ⟨_,_,hK,?_⟩
 clear hK
 replace hl:=aF hl
 rw [bx] at hl hx
 have hcl0:=fun t=>hW.closed (t:=t)
 obtain ⟨b,sl,sf,sa⟩:=s
 have hid:=AHeap.get_lt hW.o
 have hq:=AHeap.get_lt hW.bu
 have hne:=aU hid
 have hneq:=aU hq
 have n1:(id=q)=False:=eq_false hW.ne
 have n2:(q=id)=False:=eq_false fun e=>hW.ne e.symm
 have hcs:=aI hW.o
 have hb0:=hW.bu
 have hi0:=hW.o
 have hnn:=hW.ne
 dsimp only at hcs hb0 hi0 hl
 refine ACalls.fW aB (TblOk.cons oY (TblOk.cons B3 TblOk.nil)) Tryz.func124 [] (by rw [af];omega) (T:=ay []) (h:=fun hcl hlt=>?_)
 clear hlt
 have hcl1:=fun t=>hcl0 t hcl
 have hcm:=fun cs=>@av H id cs hid
 have hA:=fun X Y=>@cd H id q X Y hnn hid
 have hA0:∀ Y,aO (H.set q Y) id=aO H id:=fun Y=>by
  unfold aO;rw [AHeap.get_set_ne _ _ hnn]
 have hB:=fun X=>cF (X:=X) hnn hb0
 have eh:=fun X Y Z=>@cD H id q X Y Z
 have hcl9:=hcl1 ((⟨b,sl,sf,sa⟩:Enc).add (gr x most))
 simp only [swH,Enc.add,gr,Bool.or_false,List.length_append,Bc] at hcl9 ⊢
 cases hd:decide ((x.length:Int) > most)<;>cases hp:eN x
 all_goals
  rw [hd,hp] at hcl9
  try rw [Bool.or_false] at hcl9
  try rw [Bool.or_true] at hcl9
  simp only [go_sem,byq,hne,hneq,n1,n2,hcs,hcm,hA,hA0,hB,eh,hi0,hb0,zlt,zle,zlv,true_and,mq,uU,hd,hp,Bool.or_false,Bool.or_true,Bool.not_true,Bool.not_false]
  (repeat with_reducible refine And.intro (by first|assumption|decide|omega|exact ⟨by omega,by omega⟩|exact ⟨by omega,by omega,by omega⟩|exact ⟨by omega,hb0⟩|exact ⟨by omega,hB _⟩|exact ⟨by omega,by omega,hb0⟩|exact ⟨by omega,by omega,hB _⟩) ?_)
  simp (disch:=first|assumption|omega|(simp;done)|(simp;omega)|(simp only [bt,and_true];first|done|omega|(simp;done))) [↓zmi,beq,ybc,ybd,ybe,al,wk,wk2,wk1,wkM,wkL,aG,ybf,hcl9,List.length_append]
  first|done|exact hcl9|simpa using hcl9
end Go.AL
open Go Go.AL Go.Proofs
namespace Go.AL
set_option linter.all false
set_option maxRecDepth 10000
abbrev bH (x:SField):List AV:=(ar x).cells
abbrev bJ (x:SHeader):List AV:=(aj x).cells
abbrev bD (x:SCase):List AV:=(aK x).cells
abbrev bz (x:SState):List AV:=(ak x).cells
abbrev bE (x:SParam):List AV:=(aD x).cells
abbrev bF (x:SPrim):List AV:=(aL x).cells
abbrev bI (x:SKey):List AV:=(aQ x).cells
abbrev bG (x:SStage):List AV:=(az x).cells
abbrev bK (x:SRef):List AV:=(aR x).cells
abbrev bA (x:SGrant):List AV:=(ax x).cells
abbrev br (x:SAction):List AV:=(ah x).cells
abbrev bw (x:STable):List AV:=(aq x).cells
abbrev bv (x:SRole):List AV:=(aJ x).cells
theorem fA {α:Type} {g:α→Enc} (h1:∀ x,1≤(g x).b.length) {l:List α} {s:Enc} (hl:(s.add (bP g l)).b.length≤cR):l.length≤100000000000000:=by
 have h2:=ux h1 l
 rw [cx,bx] at hl
 omega
theorem fL {α:Type} {g:α→Enc} {m:Int} {l:List α} {s:Enc}:s.add (aT g m l)=(s.add (cC l.length m)).add (bP g l):=by rw [ap];rfl
theorem il {n:Nat} {x:AV} (h:∀ n,x.lt n):ltL n x.cells:=ltL_iff.2 fun j hj=>AV.lt_cells (h n) j hj
theorem SOn.push3 {H:AHeap} {id q:Nat} {s:Enc} (h:SOn H id q s) (x y z:AObj):SOn (((H.push x).push y).push z) id q s:=((h.push x).push y).push z
def uF:List AV→AHeap→(AEnd→AHeap→Prop)→Prop
 |[.ptr id 0,.slice .any 1 xs,.int .i64 most],H,K=>∃ q s l,(SOn H id q s∧xs=inL l∧(s.add (aT jh most l)).b.length≤cR)∧K (.ret (.tup [])) (swH H id q (s.add (aT jh most l)))
 |_,_,_=>False
theorem ya {id q:Nat} {H:AHeap} {s:Enc} {l:List Int} {m:Int} {K:AEnd→AHeap→Prop} (h:SOn H id q s) (hl:(s.add (aT jh m l)).b.length≤cR) (hK:K (.ret (.tup [])) (swH H id q (s.add (aT jh m l)))) :
 uF [.ptr id 0,.slice .any 1 (l.map (.int .i64)),.int .i64 m] H K:=⟨q,s,l,⟨h,rfl,hl⟩,hK⟩
theorem sg:EntOk Tryz.prog 125 (Ent.effect uF):=by
 refine EntOk.effect fun args H K h=>?_
 unfold uF at h
 split at h
 rotate_left
 ·exact h.elim
 rename_i id xs most
 obtain ⟨q,s,l,⟨hW,rfl,hl⟩,hK⟩:=h
 refine ⟨_,_,hK,?_⟩
 clear hK
 have hF:=hW.facts
 have hcl0:=fun t=>hW.closed (t:=t)
 have hid:=AHeap.get_lt hW.o
 have hq:=AHeap.get_lt hW.bu
 refine ACalls.fW aB (TblOk.cons mT (TblOk.cons nk TblOk.nil)) Tryz.func125 [] (by rw [af];omega) (T:=ay []) (h:=fun hcl hlt=>?_)
 clear hlt
 have hcl1:=fun t=>hcl0 t hcl
 have hE:s.add (aT jh most l)=(s.add (cC l.length most)).add (bP jh l):=by rw [ap];rfl
 rw [hE] at hl ⊢
 have hN:=fA vj hl
 simp only [go_sem,inL,ybb]
 refine j6 hW (aF hl) ?_
 simp only [go_sem,inL,ybb,af]
 refine aA (A:=Nat) (fun k=>[(0,.ptr id 0),(13,.slice .any 1 (l.map (.int .i64))),(14,.int .i64 (l.length:Int)),(15,.int .i64 (k:Int))]) (fun k=>swH H id q ((s.add (cC l.length most)).add (bP jh (l.take k)))) (fun k=>k≤l.length) (fun k=>l.length - k) 0 (by omega) ?_ fun k hk=>?_
 ·rw [yar,bP,cz]
  refine ⟨by simp only [zkk,zkp,zky,af];omega,by repeat first|exact .refl _|refine .push ?_ _,hcl1 _,?_,?_⟩
  ·simp [ltF,zky,af,znh,zmz,aa fun _=>of_eq_true zmz]
   try omega
  ·simp [bf,wk2,wk1,wkM,Fr.get]
 simp only [go_sem]
 refine ai (fun hc=>?_) (fun hc=>?_)
 ·have hk':k<l.length:=by simp at hc;omega
  obtain ⟨x,hx⟩:∃ x,x=l[k]:=⟨_,rfl⟩
  have hg:=bc (f:=.int .i64) (l:=l) (k:=k) (x:=x) (by rw [List.getElem?_eq_getElem hk',hx])
  have e5:IntKind.i64.wrap ((k:Int)+1)=((k+1:Nat):Int):=by rw [wrap_i64]<;>omega
  obtain ⟨es,hlk⟩:=cE (g:=jh) hk' hx hl
  simp only [go_sem,Int.toNat_natCast,ybb,hg,af]
  refine ⟨by omega,?_⟩
  refine cB (.inr rfl) (hW.next _) hlk ?_
  rw [hF.pp,show bQ x 2=jh x from rfl,es]
  simp only [go_sem,e5]
  refine ⟨k+1,by omega,by omega,by simp only [zkk,zkp,zky,af];omega,by repeat first|exact .refl _|refine .push ?_ _,hcl1 _,?_,?_⟩
  ·simp [ltF,zky,af,znh,zmz,aa fun _=>of_eq_true zmz]
   try omega
  ·simp [bf,wk2,wk1,wkM,Fr.get]
 ·have hk':k=l.length:=by simp at hc;omega
  subst hk'
  rw [List.take_length]
  simp only [go_sem]
  refine ⟨?_,by repeat first|exact .refl _|refine .push ?_ _,hcl1 _,?_⟩
  ·simp [wk,wk2,wk1,aG]
  ·simp [znm,znp]
def Dq:=eW ah lA cQ
def CJ:=eW aq mS dX
def CZ:=eW aJ ub gL
def Do:=eW cN OkSch dZ
theorem FV:EntOk Tryz.prog 34 (Ent.effect Dq):=by
 unfold Dq
 refine EntOk.effect fun args H K h=>?_
 unfold eW at h
 split at h
 rotate_left
 ·exact h.elim
 rename_i id x
 obtain ⟨q,s,a,⟨hW,rfl,ha,hl⟩,hK⟩:=h
 refine ⟨_,_,hK,?_⟩
 clear hK
 have hF:=hW.facts
 have hcl0:=fun t=>hW.closed (t:=t)
 have hid:=AHeap.get_lt hW.o
 have hq:=AHeap.get_lt hW.bu
 refine ACalls.fW aB (TblOk.cons mT (TblOk.cons nk (TblOk.cons qp (TblOk.cons uT TblOk.nil)))) Tryz.func34 [] (by rw [af];omega) (T:=ay []) (h:=fun hcl hlt=>?_)
 clear hlt
 have hcl1:=fun t=>hcl0 t hcl
 unfold cQ at hl ⊢
 rw [← ap,← ap,← ap,← ap] at hl ⊢
 have hl3:=aF hl
 have hl2:=aF hl3
 have hl1:=aF hl2
 have hl0:=aF hl1
 try simp only [go_sem,ah,inL,boL,vc,bH,bJ,bD,bz,bE,bF,bI,bG,bK,bA,br,bw,bv,AV.cells,aK,ar,ax,aj,aQ,aD,aL,aR,aJ,az,ak,aq,ybb,zky,af]
 refine cB (.inr rfl) (hW.push _) hl0 ?_
 rw [hF.p0]
 try simp only [go_sem,ah,inL,boL,vc,bH,bJ,bD,bz,bE,bF,bI,bG,bK,bA,br,bw,bv,AV.cells,aK,ar,ax,aj,aQ,aD,aL,aR,aJ,az,ak,aq,ybb,zky,af]
 refine jv (ha.1) ((hW.next _).push _) hl1 ?_
 rw [hF.p1]
 have hE12:(((((s).add (bQ a.id 2))).add (gr a.name 24))).add (aT fS 4 a.params)=((((((s).add (bQ a.id 2))).add (gr a.name 24))).add (cC a.params.length 4)).add (bP fS a.params):=fL
 have hT12:=hl2
 rw [hE12] at hT12
 have hN12:=fA tv hT12
 try simp only [go_sem,ah,inL,boL,vc,bH,bJ,bD,bz,bE,bF,bI,bG,bK,bA,br,bw,bv,AV.cells,aK,ar,ax,aj,aQ,aD,aL,aR,aJ,az,ak,aq,ybb,zky,af]
 refine j6 ((hW.next _).push _) (aF hT12) ?_
 rw [hF.p1]
 try simp only [go_sem,ah,inL,boL,vc,bH,bJ,bD,bz,bE,bF,bI,bG,bK,bA,br,bw,bv,AV.cells,aK,ar,ax,aj,aQ,aD,aL,aR,aJ,az,ak,aq,ybb,zky,af]
 refine aA (A:=Nat) (fun k=>[(0,.ptr id 0),(3,.ptr H.nx 0),(22,.slice .any 2 (a.params.map (aD))),(23,.int .i64 (a.params.length:Int)),(24,.int .i64 (k:Int))]) (fun k=>(swH H id q (((((((s).add (bQ a.id 2))).add (gr a.name 24))).add (cC a.params.length 4)).add (bP fS (a.params.take k)))).push (.cells (br a))) (fun k=>k≤a.params.length) (fun k=>a.params.length - k) 0 (by omega) ?_ fun k1 hk1=>?_
 ·rw [yar,bP,cz]
  refine ⟨by simp only [zkk,zkp,zky,af];omega,by repeat first|exact .refl _|refine .push ?_ _,ag (hcl1 _) (il (x:=ah a) fun _=>aW a),?_,?_⟩
  ·simp [ltF,zky,af,znh,zmz,zna,aa,aa bO,aa bg,aa bX,aa bk,aa bC,aa bZ,aa ck,aa bN,aa cn,aa aS,aa aW,aa bh,aa aV,aa fun _=>ff,aa fun _=>of_eq_true zmz,aa fun _=>of_eq_true zna]
   try omega
  ·simp [bf,wk2,wk1,wkM,Fr.get]
 simp only [go_sem]
 refine ai (fun hc=>?_) (fun hc=>?_)
 ·have hk1':k1<a.params.length:=by simp at hc;omega
  obtain ⟨x1,hx1⟩:∃ x1,x1=a.params[k1]:=⟨_,rfl⟩
  have hg1:=bc (f:=aD) (l:=a.params) (k:=k1) (x:=x1) (by rw [List.getElem?_eq_getElem hk1',hx1])
  have e15:IntKind.i64.wrap ((k1:Int)+1)=((k1+1:Nat):Int):=by rw [wrap_i64]<;>omega
  have ho1:=(ha.2.1) x1 (by rw [hx1];exact List.getElem_mem hk1')
  obtain ⟨es1,hlk1⟩:=cE (g:=fS) hk1' hx1 hT12
  simp only [go_sem,ah,inL,boL,vc,bH,bJ,bD,bz,bE,bF,bI,bG,bK,bA,br,bw,bv,AV.cells,aK,ar,ax,aj,aQ,aD,aL,aR,aJ,az,ak,aq,ybb,zky,Int.toNat_natCast,ybb,hg1,aD,af]
  refine ⟨by omega,?_⟩
  rw [show fS x1=((gr x1.name 24).add (bQ x1.bits 1)) from rfl] at es1 hlk1
  rw [← ap] at hlk1
  rw [← ap] at es1
  have hm10:=aF hlk1
  try simp only [go_sem,ah,inL,boL,vc,bH,bJ,bD,bz,bE,bF,bI,bG,bK,bA,br,bw,bv,AV.cells,aK,ar,ax,aj,aQ,aD,aL,aR,aJ,az,ak,aq,ybb,zky,Int.toNat_natCast,ybb,hg1,aD,af]
  refine jv (ho1) ((hW.next _).push2 _ _) hm10 ?_
  rw [hF.p2]
  try simp only [go_sem,ah,inL,boL,vc,bH,bJ,bD,bz,bE,bF,bI,bG,bK,bA,br,bw,bv,AV.cells,aK,ar,ax,aj,aQ,aD,aL,aR,aJ,az,ak,aq,ybb,zky,Int.toNat_natCast,ybb,hg1,aD,af]
  refine cB (.inl rfl) ((hW.next _).push2 _ _) hlk1 ?_
  rw [hF.p2]
  rw [es1]
  simp only [go_sem,e15]
  refine ⟨k1+1,by omega,by omega,by simp only [zkk,zkp,zky,af];omega,by repeat first|exact .refl _|refine .push ?_ _,ag (hcl1 _) (il (x:=ah a) fun _=>aW a),?_,?_⟩
  ·simp [ltF,zky,af,znh,zmz,zna,aa bO,aa bg,aa bX,aa bk,aa bC,aa bZ,aa ck,aa bN,aa cn,aa aS,aa aW,aa bh,aa aV,aa fun _=>ff,aa fun _=>of_eq_true zmz,aa fun _=>of_eq_true zna]
   try omega
  ·simp [bf,wk2,wk1,wkM,Fr.get]
 ·have hk1':k1=a.params.length:=by simp at hc;omega
  subst hk1'
  rw [List.take_length]
  rw [← hE12]
  have hE13:(((((((s).add (bQ a.id 2))).add (gr a.name 24))).add (aT fS 4 a.params))).add (aT jn 12 a.body)=((((((((s).add (bQ a.id 2))).add (gr a.name 24))).add (aT fS 4 a.params))).add (cC a.body.length 12)).add (bP jn a.body):=fL
  have hT13:=hl3
  rw [hE13] at hT13
  have hN13:=fA wj hT13
  try simp only [go_sem,ah,inL,boL,vc,bH,bJ,bD,bz,bE,bF,bI,bG,bK,bA,br,bw,bv,AV.cells,aK,ar,ax,aj,aQ,aD,aL,aR,aJ,az,ak,aq,ybb,zky,af]
  refine j6 ((hW.next _).push _) (aF hT13) ?_
  rw [hF.p1]
  try simp only [go_sem,ah,inL,boL,vc,bH,bJ,bD,bz,bE,bF,bI,bG,bK,bA,br,bw,bv,AV.cells,aK,ar,ax,aj,aQ,aD,aL,aR,aJ,az,ak,aq,ybb,zky,af]
  refine aA (A:=Nat) (fun k=>[(0,.ptr id 0),(3,.ptr H.nx 0),(43,.slice .any 6 (a.body.map (aL))),(44,.int .i64 (a.body.length:Int)),(45,.int .i64 (k:Int))]) (fun k=>(swH H id q (((((((((s).add (bQ a.id 2))).add (gr a.name 24))).add (aT fS 4 a.params))).add (cC a.body.length 12)).add (bP jn (a.body.take k)))).push (.cells (br a))) (fun k=>k≤a.body.length) (fun k=>a.body.length - k) 0 (by omega) ?_ fun k1 hk1=>?_
  ·rw [yar,bP,cz]
   refine ⟨by simp only [zkk,zkp,zky,af];omega,by repeat first|exact .refl _|refine .push ?_ _,ag (hcl1 _) (il (x:=ah a) fun _=>aW a),?_,?_⟩
   ·simp [ltF,zky,af,znh,zmz,zna,aa,aa bO,aa bg,aa bX,aa bk,aa bC,aa bZ,aa ck,aa bN,aa cn,aa aS,aa aW,aa bh,aa aV,aa fun _=>ff,aa fun _=>of_eq_true zmz,aa fun _=>of_eq_true zna]
    try omega
   ·simp [bf,wk2,wk1,wkM,Fr.get]
  simp only [go_sem]
  refine ai (fun hc=>?_) (fun hc=>?_)
  ·have hk1':k1<a.body.length:=by simp at hc;omega
   obtain ⟨x1,hx1⟩:∃ x1,x1=a.body[k1]:=⟨_,rfl⟩
   have hg1:=bc (f:=aL) (l:=a.body) (k:=k1) (x:=x1) (by rw [List.getElem?_eq_getElem hk1',hx1])
   have e15:IntKind.i64.wrap ((k1:Int)+1)=((k1+1:Nat):Int):=by rw [wrap_i64]<;>omega
   have ho1:=(ha.2.2.1) x1 (by rw [hx1];exact List.getElem_mem hk1')
   obtain ⟨es1,hlk1⟩:=cE (g:=jn) hk1' hx1 hT13
   simp only [go_sem,ah,inL,boL,vc,bH,bJ,bD,bz,bE,bF,bI,bG,bK,bA,br,bw,bv,AV.cells,aK,ar,ax,aj,aQ,aD,aL,aR,aJ,az,ak,aq,ybb,zky,Int.toNat_natCast,ybb,hg1,aL,vc,af]
   refine ⟨by omega,?_⟩
   rw [show jn x1=((bQ x1.op 1).add ((bQ x1.dst 2).add ((bQ x1.kind 1).add ((bQ x1.n 2).add (i5 x1.value))))) from rfl] at es1 hlk1
   rw [← ap,← ap,← ap,← ap] at hlk1
   rw [← ap,← ap,← ap,← ap] at es1
   have hm13:=aF hlk1
   have hm12:=aF hm13
   have hm11:=aF hm12
   have hm10:=aF hm11
   try simp only [go_sem,ah,inL,boL,vc,bH,bJ,bD,bz,bE,bF,bI,bG,bK,bA,br,bw,bv,AV.cells,aK,ar,ax,aj,aQ,aD,aL,aR,aJ,az,ak,aq,ybb,zky,Int.toNat_natCast,ybb,hg1,aL,vc,af]
   refine cB (.inl rfl) ((hW.next _).push2 _ _) hm10 ?_
   rw [hF.p2]
   try simp only [go_sem,ah,inL,boL,vc,bH,bJ,bD,bz,bE,bF,bI,bG,bK,bA,br,bw,bv,AV.cells,aK,ar,ax,aj,aQ,aD,aL,aR,aJ,az,ak,aq,ybb,zky,Int.toNat_natCast,ybb,hg1,aL,vc,af]
   refine cB (.inr rfl) ((hW.next _).push2 _ _) hm11 ?_
   rw [hF.p2]
   try simp only [go_sem,ah,inL,boL,vc,bH,bJ,bD,bz,bE,bF,bI,bG,bK,bA,br,bw,bv,AV.cells,aK,ar,ax,aj,aQ,aD,aL,aR,aJ,az,ak,aq,ybb,zky,Int.toNat_natCast,ybb,hg1,aL,vc,af]
   refine cB (.inl rfl) ((hW.next _).push2 _ _) hm12 ?_
   rw [hF.p2]
   try simp only [go_sem,ah,inL,boL,vc,bH,bJ,bD,bz,bE,bF,bI,bG,bK,bA,br,bw,bv,AV.cells,aK,ar,ax,aj,aQ,aD,aL,aR,aJ,az,ak,aq,ybb,zky,Int.toNat_natCast,ybb,hg1,aL,vc,af]
   refine cB (.inr rfl) ((hW.next _).push2 _ _) hm13 ?_
   rw [hF.p2]
   try simp only [go_sem,ah,inL,boL,vc,bH,bJ,bD,bz,bE,bF,bI,bG,bK,bA,br,bw,bv,AV.cells,aK,ar,ax,aj,aQ,aD,aL,aR,aJ,az,ak,aq,ybb,zky,Int.toNat_natCast,ybb,hg1,aL,vc,af]
   refine pS (ho1) ((hW.next _).push2 _ _) hlk1 ?_
   rw [hF.p2]
   rw [es1]
   simp only [go_sem,e15]
   refine ⟨k1+1,by omega,by omega,by simp only [zkk,zkp,zky,af];omega,by repeat first|exact .refl _|refine .push ?_ _,ag (hcl1 _) (il (x:=ah a) fun _=>aW a),?_,?_⟩
   ·simp [ltF,zky,af,znh,zmz,zna,aa bO,aa bg,aa bX,aa bk,aa bC,aa bZ,aa ck,aa bN,aa cn,aa aS,aa aW,aa bh,aa aV,aa fun _=>ff,aa fun _=>of_eq_true zmz,aa fun _=>of_eq_true zna]
    try omega
   ·simp [bf,wk2,wk1,wkM,Fr.get]
  ·have hk1':k1=a.body.length:=by simp at hc;omega
   subst hk1'
   rw [List.take_length]
   rw [← hE13]
   try simp only [go_sem,ah,inL,boL,vc,bH,bJ,bD,bz,bE,bF,bI,bG,bK,bA,br,bw,bv,AV.cells,aK,ar,ax,aj,aQ,aD,aL,aR,aJ,az,ak,aq,ybb,zky,af]
   refine jv (ha.2.2.2) ((hW.next _).push _) hl ?_
   rw [hF.p1]
   try simp only [go_sem,ah,inL,boL,vc,bH,bJ,bD,bz,bE,bF,bI,bG,bK,bA,br,bw,bv,AV.cells,aK,ar,ax,aj,aQ,aD,aL,aR,aJ,az,ak,aq,ybb,zky,af]
   refine ⟨?_,by repeat first|exact .refl _|refine .push ?_ _,hcl1 _,?_⟩
   ·simp [wk,wk2,wk1,aG]
   ·simp [znm,znp]
theorem EX:EntOk Tryz.prog 35 (Ent.effect CJ):=by
 unfold CJ
 refine EntOk.effect fun args H K h=>?_
 unfold eW at h
 split at h
 rotate_left
 ·exact h.elim
 rename_i id x
 obtain ⟨q,s,a,⟨hW,rfl,ha,hl⟩,hK⟩:=h
 refine ⟨_,_,hK,?_⟩
 clear hK
 have hF:=hW.facts
 have hcl0:=fun t=>hW.closed (t:=t)
 have hid:=AHeap.get_lt hW.o
 have hq:=AHeap.get_lt hW.bu
 refine ACalls.fW aB (TblOk.cons mT (TblOk.cons nk (TblOk.cons sg (TblOk.cons qp (TblOk.cons uT TblOk.nil))))) Tryz.func35 [] (by rw [af];omega) (T:=ay []) (h:=fun hcl hlt=>?_)
 clear hlt
 have hcl1:=fun t=>hcl0 t hcl
 unfold dX at hl ⊢
 rw [← ap,← ap,← ap,← ap,← ap,← ap,← ap] at hl ⊢
 have hl6:=aF hl
 have hl5:=aF hl6
 have hl4:=aF hl5
 have hl3:=aF hl4
 have hl2:=aF hl3
 have hl1:=aF hl2
 have hl0:=aF hl1
 try simp only [go_sem,aq,inL,boL,vc,bH,bJ,bD,bz,bE,bF,bI,bG,bK,bA,br,bw,bv,AV.cells,ah,aK,ar,ax,aj,aQ,aD,aL,aR,aJ,az,ak,ybb,zky,af]
 refine cB (.inr rfl) (hW.push _) hl0 ?_
 rw [hF.p0]
 try simp only [go_sem,aq,inL,boL,vc,bH,bJ,bD,bz,bE,bF,bI,bG,bK,bA,br,bw,bv,AV.cells,ah,aK,ar,ax,aj,aQ,aD,aL,aR,aJ,az,ak,ybb,zky,af]
 refine jv (ha.1) ((hW.next _).push _) hl1 ?_
 rw [hF.p1]
 have hE12:(((((s).add (bQ a.id 2))).add (gr a.name 24))).add (aT kE 4 a.keys)=((((((s).add (bQ a.id 2))).add (gr a.name 24))).add (cC a.keys.length 4)).add (bP kE a.keys):=fL
 have hT12:=hl2
 rw [hE12] at hT12
 have hN12:=fA zo hT12
 try simp only [go_sem,aq,inL,boL,vc,bH,bJ,bD,bz,bE,bF,bI,bG,bK,bA,br,bw,bv,AV.cells,ah,aK,ar,ax,aj,aQ,aD,aL,aR,aJ,az,ak,ybb,zky,af]
 refine j6 ((hW.next _).push _) (aF hT12) ?_
 rw [hF.p1]
 try simp only [go_sem,aq,inL,boL,vc,bH,bJ,bD,bz,bE,bF,bI,bG,bK,bA,br,bw,bv,AV.cells,ah,aK,ar,ax,aj,aQ,aD,aL,aR,aJ,az,ak,ybb,zky,af]
 refine aA (A:=Nat) (fun k=>[(0,.ptr id 0),(3,.ptr H.nx 0),(22,.slice .any 3 (a.keys.map (aQ))),(23,.int .i64 (a.keys.length:Int)),(24,.int .i64 (k:Int))]) (fun k=>(swH H id q (((((((s).add (bQ a.id 2))).add (gr a.name 24))).add (cC a.keys.length 4)).add (bP kE (a.keys.take k)))).push (.cells (bw a))) (fun k=>k≤a.keys.length) (fun k=>a.keys.length - k) 0 (by omega) ?_ fun k1 hk1=>?_
 ·rw [yar,bP,cz]
  refine ⟨by simp only [zkk,zkp,zky,af];omega,by repeat first|exact .refl _|refine .push ?_ _,ag (hcl1 _) (il (x:=aq a) fun _=>bh a),?_,?_⟩
  ·simp [ltF,zky,af,znh,zmz,zna,aa,aa bO,aa bg,aa bX,aa bk,aa bC,aa bZ,aa ck,aa bN,aa cn,aa aS,aa aW,aa bh,aa aV,aa fun _=>ff,aa fun _=>of_eq_true zmz,aa fun _=>of_eq_true zna]
   try omega
  ·simp [bf,wk2,wk1,wkM,Fr.get]
 simp only [go_sem]
 refine ai (fun hc=>?_) (fun hc=>?_)
 ·have hk1':k1<a.keys.length:=by simp at hc;omega
  obtain ⟨x1,hx1⟩:∃ x1,x1=a.keys[k1]:=⟨_,rfl⟩
  have hg1:=bc (f:=aQ) (l:=a.keys) (k:=k1) (x:=x1) (by rw [List.getElem?_eq_getElem hk1',hx1])
  have e15:IntKind.i64.wrap ((k1:Int)+1)=((k1+1:Nat):Int):=by rw [wrap_i64]<;>omega
  have ho1:=(ha.2.1) x1 (by rw [hx1];exact List.getElem_mem hk1')
  obtain ⟨es1,hlk1⟩:=cE (g:=kE) hk1' hx1 hT12
  simp only [go_sem,aq,inL,boL,vc,bH,bJ,bD,bz,bE,bF,bI,bG,bK,bA,br,bw,bv,AV.cells,ah,aK,ar,ax,aj,aQ,aD,aL,aR,aJ,az,ak,ybb,zky,Int.toNat_natCast,ybb,hg1,aQ,af]
  refine ⟨by omega,?_⟩
  rw [show kE x1=((gr x1.name 24).add ((bQ x1.field 2).add (bQ x1.kind 1))) from rfl] at es1 hlk1
  rw [← ap,← ap] at hlk1
  rw [← ap,← ap] at es1
  have hm11:=aF hlk1
  have hm10:=aF hm11
  try simp only [go_sem,aq,inL,boL,vc,bH,bJ,bD,bz,bE,bF,bI,bG,bK,bA,br,bw,bv,AV.cells,ah,aK,ar,ax,aj,aQ,aD,aL,aR,aJ,az,ak,ybb,zky,Int.toNat_natCast,ybb,hg1,aQ,af]
  refine jv (ho1) ((hW.next _).push2 _ _) hm10 ?_
  rw [hF.p2]
  try simp only [go_sem,aq,inL,boL,vc,bH,bJ,bD,bz,bE,bF,bI,bG,bK,bA,br,bw,bv,AV.cells,ah,aK,ar,ax,aj,aQ,aD,aL,aR,aJ,az,ak,ybb,zky,Int.toNat_natCast,ybb,hg1,aQ,af]
  refine cB (.inr rfl) ((hW.next _).push2 _ _) hm11 ?_
  rw [hF.p2]
  try simp only [go_sem,aq,inL,boL,vc,bH,bJ,bD,bz,bE,bF,bI,bG,bK,bA,br,bw,bv,AV.cells,ah,aK,ar,ax,aj,aQ,aD,aL,aR,aJ,az,ak,ybb,zky,Int.toNat_natCast,ybb,hg1,aQ,af]
  refine cB (.inl rfl) ((hW.next _).push2 _ _) hlk1 ?_
  rw [hF.p2]
  rw [es1]
  simp only [go_sem,e15]
  refine ⟨k1+1,by omega,by omega,by simp only [zkk,zkp,zky,af];omega,by repeat first|exact .refl _|refine .push ?_ _,ag (hcl1 _) (il (x:=aq a) fun _=>bh a),?_,?_⟩
  ·simp [ltF,zky,af,znh,zmz,zna,aa bO,aa bg,aa bX,aa bk,aa bC,aa bZ,aa ck,aa bN,aa cn,aa aS,aa aW,aa bh,aa aV,aa fun _=>ff,aa fun _=>of_eq_true zmz,aa fun _=>of_eq_true zna]
   try omega
  ·simp [bf,wk2,wk1,wkM,Fr.get]
 ·have hk1':k1=a.keys.length:=by simp at hc;omega
  subst hk1'
  rw [List.take_length]
  rw [← hE12]
  try simp only [go_sem,aq,inL,boL,vc,bH,bJ,bD,bz,bE,bF,bI,bG,bK,bA,br,bw,bv,AV.cells,ah,aK,ar,ax,aj,aQ,aD,aL,aR,aJ,az,ak,ybb,zky,af]
  refine ya ((hW.next _).push _) hl3 ?_
  rw [hF.p1]
  try simp only [go_sem,aq,inL,boL,vc,bH,bJ,bD,bz,bE,bF,bI,bG,bK,bA,br,bw,bv,AV.cells,ah,aK,ar,ax,aj,aQ,aD,aL,aR,aJ,az,ak,ybb,zky,af]
  refine cB (.inr rfl) ((hW.next _).push _) hl4 ?_
  rw [hF.p1]
  have hE15:(((((((((((s).add (bQ a.id 2))).add (gr a.name 24))).add (aT kE 4 a.keys))).add (aT jh 12 a.actions))).add (bQ a.dflt 2))).add (aT i5 4 a.dargs)=((((((((((((s).add (bQ a.id 2))).add (gr a.name 24))).add (aT kE 4 a.keys))).add (aT jh 12 a.actions))).add (bQ a.dflt 2))).add (cC a.dargs.length 4)).add (bP i5 a.dargs):=fL
  have hT15:=hl5
  rw [hE15] at hT15
  have hN15:=fA vf hT15
  try simp only [go_sem,aq,inL,boL,vc,bH,bJ,bD,bz,bE,bF,bI,bG,bK,bA,br,bw,bv,AV.cells,ah,aK,ar,ax,aj,aQ,aD,aL,aR,aJ,az,ak,ybb,zky,af]
  refine j6 ((hW.next _).push _) (aF hT15) ?_
  rw [hF.p1]
  try simp only [go_sem,aq,inL,boL,vc,bH,bJ,bD,bz,bE,bF,bI,bG,bK,bA,br,bw,bv,AV.cells,ah,aK,ar,ax,aj,aQ,aD,aL,aR,aJ,az,ak,ybb,zky,af]
  refine aA (A:=Nat) (fun k=>[(0,.ptr id 0),(3,.ptr H.nx 0),(55,.slice .any 2 (a.dargs.map (vv))),(56,.int .i64 (a.dargs.length:Int)),(57,.int .i64 (k:Int))]) (fun k=>(swH H id q (((((((((((((s).add (bQ a.id 2))).add (gr a.name 24))).add (aT kE 4 a.keys))).add (aT jh 12 a.actions))).add (bQ a.dflt 2))).add (cC a.dargs.length 4)).add (bP i5 (a.dargs.take k)))).push (.cells (bw a))) (fun k=>k≤a.dargs.length) (fun k=>a.dargs.length - k) 0 (by omega) ?_ fun k1 hk1=>?_
  ·rw [yar,bP,cz]
   refine ⟨by simp only [zkk,zkp,zky,af];omega,by repeat first|exact .refl _|refine .push ?_ _,ag (hcl1 _) (il (x:=aq a) fun _=>bh a),?_,?_⟩
   ·simp [ltF,zky,af,znh,zmz,zna,aa,aa bO,aa bg,aa bX,aa bk,aa bC,aa bZ,aa ck,aa bN,aa cn,aa aS,aa aW,aa bh,aa aV,aa fun _=>ff,aa fun _=>of_eq_true zmz,aa fun _=>of_eq_true zna]
    try omega
   ·simp [bf,wk2,wk1,wkM,Fr.get]
  simp only [go_sem]
  refine ai (fun hc=>?_) (fun hc=>?_)
  ·have hk1':k1<a.dargs.length:=by simp at hc;omega
   obtain ⟨x1,hx1⟩:∃ x1,x1=a.dargs[k1]:=⟨_,rfl⟩
   have hg1:=bc (f:=vv) (l:=a.dargs) (k:=k1) (x:=x1) (by rw [List.getElem?_eq_getElem hk1',hx1])
   have e15:IntKind.i64.wrap ((k1:Int)+1)=((k1+1:Nat):Int):=by rw [wrap_i64]<;>omega
   have ho1:=(ha.2.2.1) x1 (by rw [hx1];exact List.getElem_mem hk1')
   obtain ⟨es1,hlk1⟩:=cE (g:=i5) hk1' hx1 hT15
   simp only [go_sem,aq,inL,boL,vc,bH,bJ,bD,bz,bE,bF,bI,bG,bK,bA,br,bw,bv,AV.cells,ah,aK,ar,ax,aj,aQ,aD,aL,aR,aJ,az,ak,ybb,zky,Int.toNat_natCast,ybb,hg1,vv,af]
   refine ⟨by omega,?_⟩
   try skip
   refine pS (ho1) ((hW.next _).push2 _ _) hlk1 ?_
   rw [hF.p2]
   rw [es1]
   simp only [go_sem,e15]
   refine ⟨k1+1,by omega,by omega,by simp only [zkk,zkp,zky,af];omega,by repeat first|exact .refl _|refine .push ?_ _,ag (hcl1 _) (il (x:=aq a) fun _=>bh a),?_,?_⟩
   ·simp [ltF,zky,af,znh,zmz,zna,aa bO,aa bg,aa bX,aa bk,aa bC,aa bZ,aa ck,aa bN,aa cn,aa aS,aa aW,aa bh,aa aV,aa fun _=>ff,aa fun _=>of_eq_true zmz,aa fun _=>of_eq_true zna]
    try omega
   ·simp [bf,wk2,wk1,wkM,Fr.get]
  ·have hk1':k1=a.dargs.length:=by simp at hc;omega
   subst hk1'
   rw [List.take_length]
   rw [← hE15]
   try simp only [go_sem,aq,inL,boL,vc,bH,bJ,bD,bz,bE,bF,bI,bG,bK,bA,br,bw,bv,AV.cells,ah,aK,ar,ax,aj,aQ,aD,aL,aR,aJ,az,ak,ybb,zky,af]
   refine cB (.inr rfl) ((hW.next _).push _) hl6 ?_
   rw [hF.p1]
   try simp only [go_sem,aq,inL,boL,vc,bH,bJ,bD,bz,bE,bF,bI,bG,bK,bA,br,bw,bv,AV.cells,ah,aK,ar,ax,aj,aQ,aD,aL,aR,aJ,az,ak,ybb,zky,af]
   refine jv (ha.2.2.2) ((hW.next _).push _) hl ?_
   rw [hF.p1]
   try simp only [go_sem,aq,inL,boL,vc,bH,bJ,bD,bz,bE,bF,bI,bG,bK,bA,br,bw,bv,AV.cells,ah,aK,ar,ax,aj,aQ,aD,aL,aR,aJ,az,ak,ybb,zky,af]
   refine ⟨?_,by repeat first|exact .refl _|refine .push ?_ _,hcl1 _,?_⟩
   ·simp [wk,wk2,wk1,aG]
   ·simp [znm,znp]
end Go.AL
open Go Go.AL Go.Proofs
namespace Go.AL
set_option linter.all false
set_option maxRecDepth 10000
abbrev fR (x:Sch):List AV:=(cN x).cells
theorem j4 {n:Nat} (x:Sch):(cN x).lt n:=ks x
theorem Gq:EntOk Tryz.prog 36 (Ent.effect CZ):=by
 unfold CZ
 refine EntOk.effect fun args H K h=>?_
 unfold eW at h
 split at h
 rotate_left
 ·exact h.elim
 rename_i id x
 obtain ⟨q,s,a,⟨hW,rfl,ha,hl⟩,hK⟩:=h
 refine ⟨_,_,hK,?_⟩
 clear hK
 have hF:=hW.facts
 have hcl0:=fun t=>hW.closed (t:=t)
 have hid:=AHeap.get_lt hW.o
 have hq:=AHeap.get_lt hW.bu
 refine ACalls.fW aB (TblOk.cons mT (TblOk.cons nk (TblOk.cons sg (TblOk.cons FQ (TblOk.cons qp TblOk.nil))))) Tryz.func36 [] (by rw [af];omega) (T:=ay []) (h:=fun hcl hlt=>?_)
 clear hlt
 have hcl1:=fun t=>hcl0 t hcl
 unfold gL at hl ⊢
 rw [← ap,← ap,← ap,← ap,← ap] at hl ⊢
 have hl4:=aF hl
 have hl3:=aF hl4
 have hl2:=aF hl3
 have hl1:=aF hl2
 have hl0:=aF hl1
 try simp only [go_sem,aJ,inL,boL,vc,bH,bJ,bD,bz,bE,bF,bI,bG,bK,bA,br,bw,bv,AV.cells,ah,aK,ar,ax,aj,aQ,aD,aL,aR,az,ak,aq,ybb,zky,af]
 refine cB (.inr rfl) (hW.push _) hl0 ?_
 rw [hF.p0]
 try simp only [go_sem,aJ,inL,boL,vc,bH,bJ,bD,bz,bE,bF,bI,bG,bK,bA,br,bw,bv,AV.cells,ah,aK,ar,ax,aj,aQ,aD,aL,aR,az,ak,aq,ybb,zky,af]
 refine jv (ha) ((hW.next _).push _) hl1 ?_
 rw [hF.p1]
 have hE12:(((((s).add (bQ a.id 2))).add (gr a.name 24))).add (aT fT 8 a.grants)=((((((s).add (bQ a.id 2))).add (gr a.name 24))).add (cC a.grants.length 8)).add (bP fT a.grants):=fL
 have hT12:=hl2
 rw [hE12] at hT12
 have hN12:=fA tF hT12
 try simp only [go_sem,aJ,inL,boL,vc,bH,bJ,bD,bz,bE,bF,bI,bG,bK,bA,br,bw,bv,AV.cells,ah,aK,ar,ax,aj,aQ,aD,aL,aR,az,ak,aq,ybb,zky,af]
 refine j6 ((hW.next _).push _) (aF hT12) ?_
 rw [hF.p1]
 try simp only [go_sem,aJ,inL,boL,vc,bH,bJ,bD,bz,bE,bF,bI,bG,bK,bA,br,bw,bv,AV.cells,ah,aK,ar,ax,aj,aQ,aD,aL,aR,az,ak,aq,ybb,zky,af]
 refine aA (A:=Nat) (fun k=>[(0,.ptr id 0),(3,.ptr H.nx 0),(22,.slice .any 4 (a.grants.map (ax))),(23,.int .i64 (a.grants.length:Int)),(24,.int .i64 (k:Int))]) (fun k=>(swH H id q (((((((s).add (bQ a.id 2))).add (gr a.name 24))).add (cC a.grants.length 8)).add (bP fT (a.grants.take k)))).push (.cells (bv a))) (fun k=>k≤a.grants.length) (fun k=>a.grants.length - k) 0 (by omega) ?_ fun k1 hk1=>?_
 ·rw [yar,bP,cz]
  refine ⟨by simp only [zkk,zkp,zky,af];omega,by repeat first|exact .refl _|refine .push ?_ _,ag (hcl1 _) (il (x:=aJ a) fun _=>aV a),?_,?_⟩
  ·simp [ltF,zky,af,znh,zmz,zna,aa,aa bO,aa bg,aa bX,aa bk,aa bC,aa bZ,aa ck,aa bN,aa cn,aa aS,aa aW,aa bh,aa aV,aa fun _=>ff,aa fun _=>of_eq_true zmz,aa fun _=>of_eq_true zna]
   try omega
  ·simp [bf,wk2,wk1,wkM,Fr.get]
 simp only [go_sem]
 refine ai (fun hc=>?_) (fun hc=>?_)
 ·have hk1':k1<a.grants.length:=by simp at hc;omega
  obtain ⟨x1,hx1⟩:∃ x1,x1=a.grants[k1]:=⟨_,rfl⟩
  have hg1:=bc (f:=ax) (l:=a.grants) (k:=k1) (x:=x1) (by rw [List.getElem?_eq_getElem hk1',hx1])
  have e15:IntKind.i64.wrap ((k1:Int)+1)=((k1+1:Nat):Int):=by rw [wrap_i64]<;>omega
  obtain ⟨es1,hlk1⟩:=cE (g:=fT) hk1' hx1 hT12
  simp only [go_sem,aJ,inL,boL,vc,bH,bJ,bD,bz,bE,bF,bI,bG,bK,bA,br,bw,bv,AV.cells,ah,aK,ar,ax,aj,aQ,aD,aL,aR,az,ak,aq,ybb,zky,Int.toNat_natCast,ybb,hg1,ax,af]
  refine ⟨by omega,?_⟩
  rw [show fT x1=((bQ x1.table 2).add ((g7 x1.read).add ((g7 x1.write).add (aT g7 4 x1.keys)))) from rfl] at es1 hlk1
  rw [← ap,← ap,← ap] at hlk1
  rw [← ap,← ap,← ap] at es1
  have hm12:=aF hlk1
  have hm11:=aF hm12
  have hm10:=aF hm11
  try simp only [go_sem,aJ,inL,boL,vc,bH,bJ,bD,bz,bE,bF,bI,bG,bK,bA,br,bw,bv,AV.cells,ah,aK,ar,ax,aj,aQ,aD,aL,aR,az,ak,aq,ybb,zky,Int.toNat_natCast,ybb,hg1,ax,af]
  refine cB (.inr rfl) ((hW.next _).push2 _ _) hm10 ?_
  rw [hF.p2]
  try simp only [go_sem,aJ,inL,boL,vc,bH,bJ,bD,bz,bE,bF,bI,bG,bK,bA,br,bw,bv,AV.cells,ah,aK,ar,ax,aj,aQ,aD,aL,aR,az,ak,aq,ybb,zky,Int.toNat_natCast,ybb,hg1,ax,af]
  refine pR ((hW.next _).push2 _ _) hm11 ?_
  rw [hF.p2]
  try simp only [go_sem,aJ,inL,boL,vc,bH,bJ,bD,bz,bE,bF,bI,bG,bK,bA,br,bw,bv,AV.cells,ah,aK,ar,ax,aj,aQ,aD,aL,aR,az,ak,aq,ybb,zky,Int.toNat_natCast,ybb,hg1,ax,af]
  refine pR ((hW.next _).push2 _ _) hm12 ?_
  rw [hF.p2]
  have hE23:((((((((((((((s).add (bQ a.id 2))).add (gr a.name 24))).add (cC a.grants.length 8)).add (bP fT (a.grants.take k1)))).add (bQ x1.table 2))).add (g7 x1.read))).add (g7 x1.write))).add (aT g7 4 x1.keys)=(((((((((((((((s).add (bQ a.id 2))).add (gr a.name 24))).add (cC a.grants.length 8)).add (bP fT (a.grants.take k1)))).add (bQ x1.table 2))).add (g7 x1.read))).add (g7 x1.write))).add (cC x1.keys.length 4)).add (bP g7 x1.keys):=fL
  have hT23:=hlk1
  rw [hE23] at hT23
  have hN23:=fA wW hT23
  try simp only [go_sem,aJ,inL,boL,vc,bH,bJ,bD,bz,bE,bF,bI,bG,bK,bA,br,bw,bv,AV.cells,ah,aK,ar,ax,aj,aQ,aD,aL,aR,az,ak,aq,ybb,zky,Int.toNat_natCast,ybb,hg1,ax,af]
  refine j6 ((hW.next _).push2 _ _) (aF hT23) ?_
  rw [hF.p2]
  try simp only [go_sem,aJ,inL,boL,vc,bH,bJ,bD,bz,bE,bF,bI,bG,bK,bA,br,bw,bv,AV.cells,ah,aK,ar,ax,aj,aQ,aD,aL,aR,az,ak,aq,ybb,zky,Int.toNat_natCast,ybb,hg1,ax,af]
  refine aA (A:=Nat) (fun k=>[(0,.ptr id 0),(3,.ptr H.nx 0),(22,.slice .any 4 (a.grants.map (ax))),(23,.int .i64 (a.grants.length:Int)),(24,.int .i64 (k1:Int)),(46,.slice .any 1 (x1.keys.map (.bool))),(47,.int .i64 (x1.keys.length:Int)),(48,.int .i64 (k:Int))]) (fun k=>((swH H id q ((((((((((((((((s).add (bQ a.id 2))).add (gr a.name 24))).add (cC a.grants.length 8)).add (bP fT (a.grants.take k1)))).add (bQ x1.table 2))).add (g7 x1.read))).add (g7 x1.write))).add (cC x1.keys.length 4)).add (bP g7 (x1.keys.take k)))).push (.cells (bv a))).push (.cells (bA x1))) (fun k=>k≤x1.keys.length) (fun k=>x1.keys.length - k) 0 (by omega) ?_ fun k2 hk2=>?_
  ·rw [yar,bP,cz]
   refine ⟨by simp only [zkk,zkp,zky,af];omega,by repeat first|exact .refl _|refine .push ?_ _,ag (ag (hcl1 _) (il (x:=aJ a) fun _=>aV a)) (il (x:=ax x1) fun _=>aS x1),?_,?_⟩
   ·simp [ltF,zky,af,znh,zmz,zna,aa,aa bO,aa bg,aa bX,aa bk,aa bC,aa bZ,aa ck,aa bN,aa cn,aa aS,aa aW,aa bh,aa aV,aa fun _=>ff,aa fun _=>of_eq_true zmz,aa fun _=>of_eq_true zna]
    try omega
   ·simp [bf,wk2,wk1,wkM,Fr.get]
  simp only [go_sem]
  refine ai (fun hc=>?_) (fun hc=>?_)
  ·have hk2':k2<x1.keys.length:=by simp at hc;omega
   obtain ⟨x2,hx2⟩:∃ x2,x2=x1.keys[k2]:=⟨_,rfl⟩
   have hg2:=bc (f:=.bool) (l:=x1.keys) (k:=k2) (x:=x2) (by rw [List.getElem?_eq_getElem hk2',hx2])
   have e25:IntKind.i64.wrap ((k2:Int)+1)=((k2+1:Nat):Int):=by rw [wrap_i64]<;>omega
   obtain ⟨es2,hlk2⟩:=cE (g:=g7) hk2' hx2 hT23
   simp only [go_sem,aJ,inL,boL,vc,bH,bJ,bD,bz,bE,bF,bI,bG,bK,bA,br,bw,bv,AV.cells,ah,aK,ar,ax,aj,aQ,aD,aL,aR,az,ak,aq,ybb,zky,Int.toNat_natCast,ybb,hg1,ax,Int.toNat_natCast,ybb,hg2,af]
   refine ⟨by omega,?_⟩
   try skip
   refine pR ((hW.next _).push2 _ _) hlk2 ?_
   rw [hF.p2]
   rw [es2]
   simp only [go_sem,e25]
   refine ⟨k2+1,by omega,by omega,by simp only [zkk,zkp,zky,af];omega,by repeat first|exact .refl _|refine .push ?_ _,ag (ag (hcl1 _) (il (x:=aJ a) fun _=>aV a)) (il (x:=ax x1) fun _=>aS x1),?_,?_⟩
   ·simp [ltF,zky,af,znh,zmz,zna,aa bO,aa bg,aa bX,aa bk,aa bC,aa bZ,aa ck,aa bN,aa cn,aa aS,aa aW,aa bh,aa aV,aa fun _=>ff,aa fun _=>of_eq_true zmz,aa fun _=>of_eq_true zna]
    try omega
   ·simp [bf,wk2,wk1,wkM,Fr.get]
  ·have hk2':k2=x1.keys.length:=by simp at hc;omega
   subst hk2'
   rw [List.take_length]
   rw [← hE23]
   rw [es1]
   simp only [go_sem,e15]
   refine ⟨k1+1,by omega,by omega,by simp only [zkk,zkp,zky,af];omega,by repeat first|exact .refl _|refine .push ?_ _,ag (hcl1 _) (il (x:=aJ a) fun _=>aV a),?_,?_⟩
   ·simp [ltF,zky,af,znh,zmz,zna,aa bO,aa bg,aa bX,aa bk,aa bC,aa bZ,aa ck,aa bN,aa cn,aa aS,aa aW,aa bh,aa aV,aa fun _=>ff,aa fun _=>of_eq_true zmz,aa fun _=>of_eq_true zna]
    try omega
   ·simp [bf,wk2,wk1,wkM,Fr.get]
 ·have hk1':k1=a.grants.length:=by simp at hc;omega
  subst hk1'
  rw [List.take_length]
  rw [← hE12]
  try simp only [go_sem,aJ,inL,boL,vc,bH,bJ,bD,bz,bE,bF,bI,bG,bK,bA,br,bw,bv,AV.cells,ah,aK,ar,ax,aj,aQ,aD,aL,aR,az,ak,aq,ybb,zky,af]
  refine ya ((hW.next _).push _) hl3 ?_
  rw [hF.p1]
  try simp only [go_sem,aJ,inL,boL,vc,bH,bJ,bD,bz,bE,bF,bI,bG,bK,bA,br,bw,bv,AV.cells,ah,aK,ar,ax,aj,aQ,aD,aL,aR,az,ak,aq,ybb,zky,af]
  refine cB (.inr rfl) ((hW.next _).push _) hl4 ?_
  rw [hF.p1]
  try simp only [go_sem,aJ,inL,boL,vc,bH,bJ,bD,bz,bE,bF,bI,bG,bK,bA,br,bw,bv,AV.cells,ah,aK,ar,ax,aj,aQ,aD,aL,aR,az,ak,aq,ybb,zky,af]
  refine pR ((hW.next _).push _) hl ?_
  rw [hF.p1]
  try simp only [go_sem,aJ,inL,boL,vc,bH,bJ,bD,bz,bE,bF,bI,bG,bK,bA,br,bw,bv,AV.cells,ah,aK,ar,ax,aj,aQ,aD,aL,aR,az,ak,aq,ybb,zky,af]
  refine ⟨?_,by repeat first|exact .refl _|refine .push ?_ _,hcl1 _,?_⟩
  ·simp [wk,wk2,wk1,aG]
  ·simp [znm,znp]
theorem Fp:EntOk Tryz.prog 32 (Ent.effect Do):=by
 unfold Do
 refine EntOk.effect fun args H K h=>?_
 unfold eW at h
 split at h
 rotate_left
 ·exact h.elim
 rename_i id x
 obtain ⟨q,s,a,⟨hW,rfl,ha,hl⟩,hK⟩:=h
 refine ⟨_,_,hK,?_⟩
 clear hK
 have hF:=hW.facts
 have hcl0:=fun t=>hW.closed (t:=t)
 have hid:=AHeap.get_lt hW.o
 have hq:=AHeap.get_lt hW.bu
 refine ACalls.fW aB (TblOk.cons mT (TblOk.cons nk (TblOk.cons sg (TblOk.cons qp (TblOk.cons uT TblOk.nil))))) Tryz.func32 [] (by rw [af];omega) (T:=ay []) (h:=fun hcl hlt=>?_)
 clear hlt
 have hcl1:=fun t=>hcl0 t hcl
 unfold dZ at hl ⊢
 rw [← ap,← ap] at hl ⊢
 have hl1:=aF hl
 have hl0:=aF hl1
 have hE10:(s).add (aT dT 32 a.fields)=((s).add (cC a.fields.length 32)).add (bP dT a.fields):=fL
 have hT10:=hl0
 rw [hE10] at hT10
 have hN10:=fA tt hT10
 try simp only [go_sem,cN,bL,inL,boL,vc,fR,bH,bJ,bD,bz,bE,bF,bI,bG,bK,bA,br,bw,bv,AV.cells,ah,aK,ar,ax,aj,aQ,aD,aL,aR,aJ,az,ak,aq,ybb,zky,af]
 refine j6 (hW.push _) (aF hT10) ?_
 rw [hF.p0]
 try simp only [go_sem,cN,bL,inL,boL,vc,fR,bH,bJ,bD,bz,bE,bF,bI,bG,bK,bA,br,bw,bv,AV.cells,ah,aK,ar,ax,aj,aQ,aD,aL,aR,aJ,az,ak,aq,ybb,zky,af]
 refine aA (A:=Nat) (fun k=>[(0,.ptr id 0),(3,.ptr H.nx 0),(18,.slice .any 3 (a.fields.map (ar))),(19,.int .i64 (a.fields.length:Int)),(20,.int .i64 (k:Int))]) (fun k=>(swH H id q (((s).add (cC a.fields.length 32)).add (bP dT (a.fields.take k)))).push (.cells (fR a))) (fun k=>k≤a.fields.length) (fun k=>a.fields.length - k) 0 (by omega) ?_ fun k1 hk1=>?_
 ·rw [yar,bP,cz]
  refine ⟨by simp only [zkk,zkp,zky,af];omega,by repeat first|exact .refl _|refine .push ?_ _,ag (hcl1 _) (il (x:=cN a) fun _=>j4 a),?_,?_⟩
  ·simp [ltF,zky,af,znh,zmz,zna,aa,aa bO,aa bg,aa bX,aa bk,aa bC,aa bZ,aa ck,aa bN,aa cn,aa aS,aa aW,aa bh,aa aV,aa fun _=>ff,aa fun _=>of_eq_true zmz,aa fun _=>of_eq_true zna]
   try omega
  ·simp [bf,wk2,wk1,wkM,Fr.get]
 simp only [go_sem]
 refine ai (fun hc=>?_) (fun hc=>?_)
 ·have hk1':k1<a.fields.length:=by simp at hc;omega
  obtain ⟨x1,hx1⟩:∃ x1,x1=a.fields[k1]:=⟨_,rfl⟩
  have hg1:=bc (f:=ar) (l:=a.fields) (k:=k1) (x:=x1) (by rw [List.getElem?_eq_getElem hk1',hx1])
  have e15:IntKind.i64.wrap ((k1:Int)+1)=((k1+1:Nat):Int):=by rw [wrap_i64]<;>omega
  have ho1:=(ha.f) x1 (by rw [hx1];exact List.getElem_mem hk1')
  obtain ⟨es1,hlk1⟩:=cE (g:=dT) hk1' hx1 hT10
  simp only [go_sem,cN,bL,inL,boL,vc,fR,bH,bJ,bD,bz,bE,bF,bI,bG,bK,bA,br,bw,bv,AV.cells,ah,aK,ar,ax,aj,aQ,aD,aL,aR,aJ,az,ak,aq,ybb,zky,Int.toNat_natCast,ybb,hg1,ar,af]
  refine ⟨by omega,?_⟩
  rw [show dT x1=((bQ x1.id 2).add ((gr x1.name 24).add (bQ x1.bits 1))) from rfl] at es1 hlk1
  rw [← ap,← ap] at hlk1
  rw [← ap,← ap] at es1
  have hm11:=aF hlk1
  have hm10:=aF hm11
  try simp only [go_sem,cN,bL,inL,boL,vc,fR,bH,bJ,bD,bz,bE,bF,bI,bG,bK,bA,br,bw,bv,AV.cells,ah,aK,ar,ax,aj,aQ,aD,aL,aR,aJ,az,ak,aq,ybb,zky,Int.toNat_natCast,ybb,hg1,ar,af]
  refine cB (.inr rfl) ((hW.next _).push2 _ _) hm10 ?_
  rw [hF.p2]
  try simp only [go_sem,cN,bL,inL,boL,vc,fR,bH,bJ,bD,bz,bE,bF,bI,bG,bK,bA,br,bw,bv,AV.cells,ah,aK,ar,ax,aj,aQ,aD,aL,aR,aJ,az,ak,aq,ybb,zky,Int.toNat_natCast,ybb,hg1,ar,af]
  refine jv (ho1) ((hW.next _).push2 _ _) hm11 ?_
  rw [hF.p2]
  try simp only [go_sem,cN,bL,inL,boL,vc,fR,bH,bJ,bD,bz,bE,bF,bI,bG,bK,bA,br,bw,bv,AV.cells,ah,aK,ar,ax,aj,aQ,aD,aL,aR,aJ,az,ak,aq,ybb,zky,Int.toNat_natCast,ybb,hg1,ar,af]
  refine cB (.inl rfl) ((hW.next _).push2 _ _) hlk1 ?_
  rw [hF.p2]
  rw [es1]
  simp only [go_sem,e15]
  refine ⟨k1+1,by omega,by omega,by simp only [zkk,zkp,zky,af];omega,by repeat first|exact .refl _|refine .push ?_ _,ag (hcl1 _) (il (x:=cN a) fun _=>j4 a),?_,?_⟩
  ·simp [ltF,zky,af,znh,zmz,zna,aa bO,aa bg,aa bX,aa bk,aa bC,aa bZ,aa ck,aa bN,aa cn,aa aS,aa aW,aa bh,aa aV,aa fun _=>ff,aa fun _=>of_eq_true zmz,aa fun _=>of_eq_true zna]
   try omega
  ·simp [bf,wk2,wk1,wkM,Fr.get]
 ·have hk1':k1=a.fields.length:=by simp at hc;omega
  subst hk1'
  rw [List.take_length]
  rw [← hE10]
  have hE11:(((s).add (aT dT 32 a.fields))).add (aT dm 8 a.headers)=((((s).add (aT dT 32 a.fields))).add (cC a.headers.length 8)).add (bP dm a.headers):=fL
  have hT11:=hl1
  rw [hE11] at hT11
  have hN11:=fA sn hT11
  try simp only [go_sem,cN,bL,inL,boL,vc,fR,bH,bJ,bD,bz,bE,bF,bI,bG,bK,bA,br,bw,bv,AV.cells,ah,aK,ar,ax,aj,aQ,aD,aL,aR,aJ,az,ak,aq,ybb,zky,af]
  refine j6 ((hW.next _).push _) (aF hT11) ?_
  rw [hF.p1]
  try simp only [go_sem,cN,bL,inL,boL,vc,fR,bH,bJ,bD,bz,bE,bF,bI,bG,bK,bA,br,bw,bv,AV.cells,ah,aK,ar,ax,aj,aQ,aD,aL,aR,aJ,az,ak,aq,ybb,zky,af]
  refine aA (A:=Nat) (fun k=>[(0,.ptr id 0),(3,.ptr H.nx 0),(43,.slice .any 3 (a.headers.map (aj))),(44,.int .i64 (a.headers.length:Int)),(45,.int .i64 (k:Int))]) (fun k=>(swH H id q (((((s).add (aT dT 32 a.fields))).add (cC a.headers.length 8)).add (bP dm (a.headers.take k)))).push (.cells (fR a))) (fun k=>k≤a.headers.length) (fun k=>a.headers.length - k) 0 (by omega) ?_ fun k1 hk1=>?_
  ·rw [yar,bP,cz]
   refine ⟨by simp only [zkk,zkp,zky,af];omega,by repeat first|exact .refl _|refine .push ?_ _,ag (hcl1 _) (il (x:=cN a) fun _=>j4 a),?_,?_⟩
   ·simp [ltF,zky,af,znh,zmz,zna,aa,aa bO,aa bg,aa bX,aa bk,aa bC,aa bZ,aa ck,aa bN,aa cn,aa aS,aa aW,aa bh,aa aV,aa fun _=>ff,aa fun _=>of_eq_true zmz,aa fun _=>of_eq_true zna]
    try omega
   ·simp [bf,wk2,wk1,wkM,Fr.get]
  simp only [go_sem]
  refine ai (fun hc=>?_) (fun hc=>?_)
  ·have hk1':k1<a.headers.length:=by simp at hc;omega
   obtain ⟨x1,hx1⟩:∃ x1,x1=a.headers[k1]:=⟨_,rfl⟩
   have hg1:=bc (f:=aj) (l:=a.headers) (k:=k1) (x:=x1) (by rw [List.getElem?_eq_getElem hk1',hx1])
   have e15:IntKind.i64.wrap ((k1:Int)+1)=((k1+1:Nat):Int):=by rw [wrap_i64]<;>omega
   have ho1:=(ha.h) x1 (by rw [hx1];exact List.getElem_mem hk1')
   obtain ⟨es1,hlk1⟩:=cE (g:=dm) hk1' hx1 hT11
   simp only [go_sem,cN,bL,inL,boL,vc,fR,bH,bJ,bD,bz,bE,bF,bI,bG,bK,bA,br,bw,bv,AV.cells,ah,aK,ar,ax,aj,aQ,aD,aL,aR,aJ,az,ak,aq,ybb,zky,Int.toNat_natCast,ybb,hg1,aj,af]
   refine ⟨by omega,?_⟩
   rw [show dm x1=((bQ x1.id 2).add ((gr x1.name 24).add (aT jh 32 x1.fields))) from rfl] at es1 hlk1
   rw [← ap,← ap] at hlk1
   rw [← ap,← ap] at es1
   have hm11:=aF hlk1
   have hm10:=aF hm11
   try simp only [go_sem,cN,bL,inL,boL,vc,fR,bH,bJ,bD,bz,bE,bF,bI,bG,bK,bA,br,bw,bv,AV.cells,ah,aK,ar,ax,aj,aQ,aD,aL,aR,aJ,az,ak,aq,ybb,zky,Int.toNat_natCast,ybb,hg1,aj,af]
   refine cB (.inr rfl) ((hW.next _).push2 _ _) hm10 ?_
   rw [hF.p2]
   try simp only [go_sem,cN,bL,inL,boL,vc,fR,bH,bJ,bD,bz,bE,bF,bI,bG,bK,bA,br,bw,bv,AV.cells,ah,aK,ar,ax,aj,aQ,aD,aL,aR,aJ,az,ak,aq,ybb,zky,Int.toNat_natCast,ybb,hg1,aj,af]
   refine jv (ho1) ((hW.next _).push2 _ _) hm11 ?_
   rw [hF.p2]
   try simp only [go_sem,cN,bL,inL,boL,vc,fR,bH,bJ,bD,bz,bE,bF,bI,bG,bK,bA,br,bw,bv,AV.cells,ah,aK,ar,ax,aj,aQ,aD,aL,aR,aJ,az,ak,aq,ybb,zky,Int.toNat_natCast,ybb,hg1,aj,af]
   refine ya ((hW.next _).push2 _ _) hlk1 ?_
   rw [hF.p2]
   rw [es1]
   simp only [go_sem,e15]
   refine ⟨k1+1,by omega,by omega,by simp only [zkk,zkp,zky,af];omega,by repeat first|exact .refl _|refine .push ?_ _,ag (hcl1 _) (il (x:=cN a) fun _=>j4 a),?_,?_⟩
   ·simp [ltF,zky,af,znh,zmz,zna,aa bO,aa bg,aa bX,aa bk,aa bC,aa bZ,aa ck,aa bN,aa cn,aa aS,aa aW,aa bh,aa aV,aa fun _=>ff,aa fun _=>of_eq_true zmz,aa fun _=>of_eq_true zna]
    try omega
   ·simp [bf,wk2,wk1,wkM,Fr.get]
  ·have hk1':k1=a.headers.length:=by simp at hc;omega
   subst hk1'
   rw [List.take_length]
   rw [← hE11]
   have hE12:(((((s).add (aT dT 32 a.fields))).add (aT dm 8 a.headers))).add (aT fk 12 a.states)=((((((s).add (aT dT 32 a.fields))).add (aT dm 8 a.headers))).add (cC a.states.length 12)).add (bP fk a.states):=fL
   have hT12:=hl
   rw [hE12] at hT12
   have hN12:=fA tE hT12
   try simp only [go_sem,cN,bL,inL,boL,vc,fR,bH,bJ,bD,bz,bE,bF,bI,bG,bK,bA,br,bw,bv,AV.cells,ah,aK,ar,ax,aj,aQ,aD,aL,aR,aJ,az,ak,aq,ybb,zky,af]
   refine j6 ((hW.next _).push _) (aF hT12) ?_
   rw [hF.p1]
   try simp only [go_sem,cN,bL,inL,boL,vc,fR,bH,bJ,bD,bz,bE,bF,bI,bG,bK,bA,br,bw,bv,AV.cells,ah,aK,ar,ax,aj,aQ,aD,aL,aR,aJ,az,ak,aq,ybb,zky,af]
   refine aA (A:=Nat) (fun k=>[(0,.ptr id 0),(3,.ptr H.nx 0),(68,.slice .any 5 (a.states.map (ak))),(69,.int .i64 (a.states.length:Int)),(70,.int .i64 (k:Int))]) (fun k=>(swH H id q (((((((s).add (aT dT 32 a.fields))).add (aT dm 8 a.headers))).add (cC a.states.length 12)).add (bP fk (a.states.take k)))).push (.cells (fR a))) (fun k=>k≤a.states.length) (fun k=>a.states.length - k) 0 (by omega) ?_ fun k1 hk1=>?_
   ·rw [yar,bP,cz]
    refine ⟨by simp only [zkk,zkp,zky,af];omega,by repeat first|exact .refl _|refine .push ?_ _,ag (hcl1 _) (il (x:=cN a) fun _=>j4 a),?_,?_⟩
    ·simp [ltF,zky,af,znh,zmz,zna,aa,aa bO,aa bg,aa bX,aa bk,aa bC,aa bZ,aa ck,aa bN,aa cn,aa aS,aa aW,aa bh,aa aV,aa fun _=>ff,aa fun _=>of_eq_true zmz,aa fun _=>of_eq_true zna]
     try omega
    ·simp [bf,wk2,wk1,wkM,Fr.get]
   simp only [go_sem]
   refine ai (fun hc=>?_) (fun hc=>?_)
   ·have hk1':k1<a.states.length:=by simp at hc;omega
    obtain ⟨x1,hx1⟩:∃ x1,x1=a.states[k1]:=⟨_,rfl⟩
    have hg1:=bc (f:=ak) (l:=a.states) (k:=k1) (x:=x1) (by rw [List.getElem?_eq_getElem hk1',hx1])
    have e15:IntKind.i64.wrap ((k1:Int)+1)=((k1+1:Nat):Int):=by rw [wrap_i64]<;>omega
    have ho1:=(ha.s) x1 (by rw [hx1];exact List.getElem_mem hk1')
    obtain ⟨es1,hlk1⟩:=cE (g:=fk) hk1' hx1 hT12
    simp only [go_sem,cN,bL,inL,boL,vc,fR,bH,bJ,bD,bz,bE,bF,bI,bG,bK,bA,br,bw,bv,AV.cells,ah,aK,ar,ax,aj,aQ,aD,aL,aR,aJ,az,ak,aq,ybb,zky,Int.toNat_natCast,ybb,hg1,ak,af]
    refine ⟨by omega,?_⟩
    rw [show fk x1=((bQ x1.id 2).add ((bQ x1.header 2).add ((bQ x1.select 2).add ((aT i7 6 x1.cases).add (bQ x1.dflt 2))))) from rfl] at es1 hlk1
    rw [← ap,← ap,← ap,← ap] at hlk1
    rw [← ap,← ap,← ap,← ap] at es1
    have hm13:=aF hlk1
    have hm12:=aF hm13
    have hm11:=aF hm12
    have hm10:=aF hm11
    try simp only [go_sem,cN,bL,inL,boL,vc,fR,bH,bJ,bD,bz,bE,bF,bI,bG,bK,bA,br,bw,bv,AV.cells,ah,aK,ar,ax,aj,aQ,aD,aL,aR,aJ,az,ak,aq,ybb,zky,Int.toNat_natCast,ybb,hg1,ak,af]
    refine cB (.inr rfl) ((hW.next _).push2 _ _) hm10 ?_
    rw [hF.p2]
    try simp only [go_sem,cN,bL,inL,boL,vc,fR,bH,bJ,bD,bz,bE,bF,bI,bG,bK,bA,br,bw,bv,AV.cells,ah,aK,ar,ax,aj,aQ,aD,aL,aR,aJ,az,ak,aq,ybb,zky,Int.toNat_natCast,ybb,hg1,ak,af]
    refine cB (.inr rfl) ((hW.next _).push2 _ _) hm11 ?_
    rw [hF.p2]
    try simp only [go_sem,cN,bL,inL,boL,vc,fR,bH,bJ,bD,bz,bE,bF,bI,bG,bK,bA,br,bw,bv,AV.cells,ah,aK,ar,ax,aj,aQ,aD,aL,aR,aJ,az,ak,aq,ybb,zky,Int.toNat_natCast,ybb,hg1,ak,af]
    refine cB (.inr rfl) ((hW.next _).push2 _ _) hm12 ?_
    rw [hF.p2]
    have hE23:((((((((((((((s).add (aT dT 32 a.fields))).add (aT dm 8 a.headers))).add (cC a.states.length 12)).add (bP fk (a.states.take k1)))).add (bQ x1.id 2))).add (bQ x1.header 2))).add (bQ x1.select 2))).add (aT i7 6 x1.cases)=(((((((((((((((s).add (aT dT 32 a.fields))).add (aT dm 8 a.headers))).add (cC a.states.length 12)).add (bP fk (a.states.take k1)))).add (bQ x1.id 2))).add (bQ x1.header 2))).add (bQ x1.select 2))).add (cC x1.cases.length 6)).add (bP i7 x1.cases):=fL
    have hT23:=hm13
    rw [hE23] at hT23
    have hN23:=fA vr hT23
    try simp only [go_sem,cN,bL,inL,boL,vc,fR,bH,bJ,bD,bz,bE,bF,bI,bG,bK,bA,br,bw,bv,AV.cells,ah,aK,ar,ax,aj,aQ,aD,aL,aR,aJ,az,ak,aq,ybb,zky,Int.toNat_natCast,ybb,hg1,ak,af]
    refine j6 ((hW.next _).push2 _ _) (aF hT23) ?_
    rw [hF.p2]
    try simp only [go_sem,cN,bL,inL,boL,vc,fR,bH,bJ,bD,bz,bE,bF,bI,bG,bK,bA,br,bw,bv,AV.cells,ah,aK,ar,ax,aj,aQ,aD,aL,aR,aJ,az,ak,aq,ybb,zky,Int.toNat_natCast,ybb,hg1,ak,af]
    refine aA (A:=Nat) (fun k=>[(0,.ptr id 0),(3,.ptr H.nx 0),(68,.slice .any 5 (a.states.map (ak))),(69,.int .i64 (a.states.length:Int)),(70,.int .i64 (k1:Int)),(9,.ptr (H.nx+1) 0),(92,.slice .any 5 (x1.cases.map (aK))),(93,.int .i64 (x1.cases.length:Int)),(94,.int .i64 (k:Int))]) (fun k=>((swH H id q ((((((((((((((((s).add (aT dT 32 a.fields))).add (aT dm 8 a.headers))).add (cC a.states.length 12)).add (bP fk (a.states.take k1)))).add (bQ x1.id 2))).add (bQ x1.header 2))).add (bQ x1.select 2))).add (cC x1.cases.length 6)).add (bP i7 (x1.cases.take k)))).push (.cells (fR a))).push (.cells (bz x1))) (fun k=>k≤x1.cases.length) (fun k=>x1.cases.length - k) 0 (by omega) ?_ fun k2 hk2=>?_
    ·rw [yar,bP,cz]
     refine ⟨by simp only [zkk,zkp,zky,af];omega,by repeat first|exact .refl _|refine .push ?_ _,ag (ag (hcl1 _) (il (x:=cN a) fun _=>j4 a)) (il (x:=ak x1) fun _=>bk x1),?_,?_⟩
     ·simp [ltF,zky,af,znh,zmz,zna,aa,aa bO,aa bg,aa bX,aa bk,aa bC,aa bZ,aa ck,aa bN,aa cn,aa aS,aa aW,aa bh,aa aV,aa fun _=>ff,aa fun _=>of_eq_true zmz,aa fun _=>of_eq_true zna]
      try omega
     ·simp [bf,wk2,wk1,wkM,Fr.get]
    simp only [go_sem]
    refine ai (fun hc=>?_) (fun hc=>?_)
    ·have hk2':k2<x1.cases.length:=by simp at hc;omega
     obtain ⟨x2,hx2⟩:∃ x2,x2=x1.cases[k2]:=⟨_,rfl⟩
     have hg2:=bc (f:=aK) (l:=x1.cases) (k:=k2) (x:=x2) (by rw [List.getElem?_eq_getElem hk2',hx2])
     have e25:IntKind.i64.wrap ((k2:Int)+1)=((k2+1:Nat):Int):=by rw [wrap_i64]<;>omega
     have ho2:=(ho1) x2 (by rw [hx2];exact List.getElem_mem hk2')
     obtain ⟨es2,hlk2⟩:=cE (g:=i7) hk2' hx2 hT23
     simp only [go_sem,cN,bL,inL,boL,vc,fR,bH,bJ,bD,bz,bE,bF,bI,bG,bK,bA,br,bw,bv,AV.cells,ah,aK,ar,ax,aj,aQ,aD,aL,aR,aJ,az,ak,aq,ybb,zky,Int.toNat_natCast,ybb,hg1,ak,Int.toNat_natCast,ybb,hg2,aK,vc,af]
     refine ⟨by omega,?_⟩
     rw [show i7 x2=((i5 x2.value).add ((i5 x2.mask).add (bQ x2.next 2))) from rfl] at es2 hlk2
     rw [← ap,← ap] at hlk2
     rw [← ap,← ap] at es2
     have hm21:=aF hlk2
     have hm20:=aF hm21
     try simp only [go_sem,cN,bL,inL,boL,vc,fR,bH,bJ,bD,bz,bE,bF,bI,bG,bK,bA,br,bw,bv,AV.cells,ah,aK,ar,ax,aj,aQ,aD,aL,aR,aJ,az,ak,aq,ybb,zky,Int.toNat_natCast,ybb,hg1,ak,Int.toNat_natCast,ybb,hg2,aK,vc,af]
     refine pS (ho2.1) ((hW.next _).push3 _ _ _) hm20 ?_
     rw [hF.p3]
     try simp only [go_sem,cN,bL,inL,boL,vc,fR,bH,bJ,bD,bz,bE,bF,bI,bG,bK,bA,br,bw,bv,AV.cells,ah,aK,ar,ax,aj,aQ,aD,aL,aR,aJ,az,ak,aq,ybb,zky,Int.toNat_natCast,ybb,hg1,ak,Int.toNat_natCast,ybb,hg2,aK,vc,af]
     refine pS (ho2.2) ((hW.next _).push3 _ _ _) hm21 ?_
     rw [hF.p3]
     try simp only [go_sem,cN,bL,inL,boL,vc,fR,bH,bJ,bD,bz,bE,bF,bI,bG,bK,bA,br,bw,bv,AV.cells,ah,aK,ar,ax,aj,aQ,aD,aL,aR,aJ,az,ak,aq,ybb,zky,Int.toNat_natCast,ybb,hg1,ak,Int.toNat_natCast,ybb,hg2,aK,vc,af]
     refine cB (.inr rfl) ((hW.next _).push3 _ _ _) hlk2 ?_
     rw [hF.p3]
     rw [es2]
     simp only [go_sem,e25]
     refine ⟨k2+1,by omega,by omega,by simp only [zkk,zkp,zky,af];omega,by repeat first|exact .refl _|refine .push ?_ _,ag (ag (hcl1 _) (il (x:=cN a) fun _=>j4 a)) (il (x:=ak x1) fun _=>bk x1),?_,?_⟩
     ·simp [ltF,zky,af,znh,zmz,zna,aa bO,aa bg,aa bX,aa bk,aa bC,aa bZ,aa ck,aa bN,aa cn,aa aS,aa aW,aa bh,aa aV,aa fun _=>ff,aa fun _=>of_eq_true zmz,aa fun _=>of_eq_true zna]
      try omega
     ·simp [bf,wk2,wk1,wkM,Fr.get]
    ·have hk2':k2=x1.cases.length:=by simp at hc;omega
     subst hk2'
     rw [List.take_length]
     rw [← hE23]
     try simp only [go_sem,cN,bL,inL,boL,vc,fR,bH,bJ,bD,bz,bE,bF,bI,bG,bK,bA,br,bw,bv,AV.cells,ah,aK,ar,ax,aj,aQ,aD,aL,aR,aJ,az,ak,aq,ybb,zky,Int.toNat_natCast,ybb,hg1,ak,af]
     refine cB (.inr rfl) ((hW.next _).push2 _ _) hlk1 ?_
     rw [hF.p2]
     rw [es1]
     simp only [go_sem,e15]
     refine ⟨k1+1,by omega,by omega,by simp only [zkk,zkp,zky,af];omega,by repeat first|exact .refl _|refine .push ?_ _,ag (hcl1 _) (il (x:=cN a) fun _=>j4 a),?_,?_⟩
     ·simp [ltF,zky,af,znh,zmz,zna,aa bO,aa bg,aa bX,aa bk,aa bC,aa bZ,aa ck,aa bN,aa cn,aa aS,aa aW,aa bh,aa aV,aa fun _=>ff,aa fun _=>of_eq_true zmz,aa fun _=>of_eq_true zna]
      try omega
     ·simp [bf,wk2,wk1,wkM,Fr.get]
   ·have hk1':k1=a.states.length:=by simp at hc;omega
    subst hk1'
    rw [List.take_length]
    rw [← hE12]
    try simp only [go_sem,cN,bL,inL,boL,vc,fR,bH,bJ,bD,bz,bE,bF,bI,bG,bK,bA,br,bw,bv,AV.cells,ah,aK,ar,ax,aj,aQ,aD,aL,aR,aJ,az,ak,aq,ybb,zky,af]
    refine ⟨?_,by repeat first|exact .refl _|refine .push ?_ _,hcl1 _,?_⟩
    ·simp [wk,wk2,wk1,aG]
    ·simp [znm,znp]
end Go.AL
