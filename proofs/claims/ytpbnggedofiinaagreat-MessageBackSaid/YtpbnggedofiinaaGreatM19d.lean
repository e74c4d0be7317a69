/- Lemmas of the proof; no condition. -/
import Derived.Test.YtpbnggedofiinaaGreatS11r
set_option linter.all false
set_option maxRecDepth 10000
set_option maxHeartbeats 32000000
open List renaming length_cons → yaz, length_nil → yba, take_of_length_le → ybc, drop_append → ybd, take_append → ybe, drop_eq_nil_of_le → ybf, cons_append → yal, nil_append → yak, length_map → ybb, map_nil → yaf
open Go Go.AL Go.Proofs
namespace Go.AL
theorem GB:ti Tryz.prog 101=some ⟨.struct [(0,22,false),(1,4,false)],2,32,.agg [.slice .nil 1 [],.bool false]⟩:=by kernel_rfl
theorem Fi:ti Tryz.prog 110=some ⟨.ptr 101,1,8,.nilp⟩:=by kernel_rfl
attribute [go_sem] GB Fi
def rg (n w:Int):Bool:=decide (0≤n∧n<256^w.toNat)
def eg:List AV→AHeap→(AV→Prop)→Prop
 |[.int .i64 n,.int .i64 w],_,K=>(w=1∨w=2∨w=4)∧K (.bool (rg n w))
 |_,_,_=>False
theorem fg:EntOk Tryz.prog 111 (Ent.pure eg):=by
 refine Ype fun _ H K h=>?_
 unfold eg at h
 split at h
 rotate_left
 ·exact h.elim
 rename_i n w
 obtain ⟨hw,hK⟩:=h
 refine ⟨_,hK,?_⟩
 clear hK
 by_cases h0:0≤n
 ·have d0:decide (n ≥ 0)=true:=dtq h0
  rcases hw with rfl|rfl|rfl
  ·have e:rg n 1=decide (n<256):=by unfold rg;rw [decide_eq_decide];exact ⟨fun h=>h.2,fun h=>⟨h0,h⟩⟩
   rw [e]
   have s1:IntKind.u64.wrap (IntKind.i64.wrap 8)=8:=by decide
   have s2:mX .i64 1 8=256:=by decide
   refine ACalls.fW ah tNq Tryz.func111 [.tmp 4] (nrq _) (T:=ae []) (h:=fun hcl hlt=>?_)
   clear hlt
   simp only [go_sem,d0,s1,s2]
   exact Z2
  ·have e:rg n 2=decide (n<65536):=by unfold rg;rw [decide_eq_decide];exact ⟨fun h=>h.2,fun h=>⟨h0,h⟩⟩
   rw [e]
   have s1:IntKind.u64.wrap (IntKind.i64.wrap 16)=16:=by decide
   have s2:mX .i64 1 16=65536:=by decide
   refine ACalls.fW ah tNq Tryz.func111 [.tmp 4] (nrq _) (T:=ae []) (h:=fun hcl hlt=>?_)
   clear hlt
   simp only [go_sem,d0,s1,s2]
   exact Z2
  ·have e:rg n 4=decide (n<4294967296):=by unfold rg;rw [decide_eq_decide];exact ⟨fun h=>h.2,fun h=>⟨h0,h⟩⟩
   rw [e]
   have s1:IntKind.u64.wrap (IntKind.i64.wrap 32)=32:=by decide
   have s2:mX .i64 1 32=4294967296:=by decide
   refine ACalls.fW ah tNq Tryz.func111 [.tmp 4] (nrq _) (T:=ae []) (h:=fun hcl hlt=>?_)
   clear hlt
   simp only [go_sem,d0,s1,s2]
   exact Z2
 ·have d0:decide (n ≥ 0)=false:=dfq h0
  have e:rg n w=false:=dfq fun h=>h0 h.1
  rw [e]
  refine ACalls.fW ah tNq Tryz.func111 [.tmp 4] (nrq _) (T:=ae []) (h:=fun hcl hlt=>?_)
  clear hlt
  simp only [go_sem,d0]
  exact Z2
structure WOn (H:AHeap) (id q:Nat) (b:List UInt8) (wr:Bool):Prop where
 o:H.get id=some (.cells [.slice (.own q) 1 (bys b),.bool wr])
 bu:H.get q=some (.buf 1 b.length)
 l:b.length≤10000000
def wrH (H:AHeap) (id q:Nat) (b:List UInt8) (wr:Bool):AHeap:=(H.set q (.buf 1 b.length)).set id (.cells [.slice (.own q) 1 (bys b),.bool wr])
theorem WOn.ne {H:AHeap} {id q:Nat} {b:List UInt8} {wr:Bool} (h:WOn H id q b wr):id≠q:=fun e=>by
 have h1:=h.o
 rw [e,h.bu] at h1;cases h1
theorem WOn.closed {H:AHeap} {id q:Nat} {b b':List UInt8} {wr wr':Bool} (h:WOn H id q b wr) (hc:H.Closed):(wrH H id q b' wr').Closed:=by
 refine aP (km hc) ?_
 have hq:=glq h.bu
 simp only [znu,znv,and_true,zlf,zms,zng]
 intro i e;cases e;exact hq
theorem WOn.next {H:AHeap} {id q:Nat} {b b':List UInt8} {wr wr':Bool} (h:WOn H id q b wr) (hl:b'.length≤10000000):WOn (wrH H id q b' wr') id q b' wr':=by
 have h1:=glq h.o
 have h2:=glq h.bu
 refine ⟨by unfold wrH;exact AHeap.get_set_same _ _ (by rw [zlf];exact h1),?_,hl⟩
 unfold wrH
 rw [AHeap.get_set_ne _ _ (fun e=>h.ne e.symm)]
 exact AHeap.get_set_same _ _ h2
theorem bP {H:AHeap} {id q:Nat} {b b':List UInt8} {wr wr':Bool} (h:id≠q):wrH (wrH H id q b wr) id q b' wr'=wrH H id q b' wr':=by
 unfold wrH AHeap.set
 congr 1
 funext j
 dsimp only
 by_cases h1:j=id
 ·simp [h1]
 ·simp only [if_neg h1]
  by_cases h2:j=q
  ·simp [h2]
  ·simp [h2]
def cx:List AV→AHeap→(AEnd→AHeap→Prop)→Prop
 |[.ptr id 0,.int .i64 n,.int .i64 w],H,K=>∃ q b wr,(WOn H id q b wr∧(w=1∨w=2∨w=4))∧K (.ret (.tup [])) (wrH H id q (b++aa n w) (wr||!rg n w))
 |_,_,_=>False
theorem ip:EntOk Tryz.prog 36 (Ent.effect cx):=by
 refine EntOk.effect fun args H K h=>?_
 unfold cx at h
 split at h
 rotate_left
 ·exact h.elim
 rename_i id n w
 obtain ⟨q,b,wr,⟨hW,hw⟩,hK⟩:=h
 refine ⟨_,_,hK,?_⟩
 clear hK
 have l1:=bW n w
 have hl:=hW.l
 have hid:=glq hW.o
 have hq:=glq hW.bu
 have hne:=dd hid
 have hneq:=dd hq
 have n1:(id=q)=False:=eq_false hW.ne
 have n2:(q=id)=False:=eq_false fun e=>hW.ne e.symm
 have hcs:=aM hW.o
 have hb0:=hW.bu
 have hi0:=hW.o
 refine ACalls.fW ah (tCq fg (tCq oM tNq)) Tryz.func36 [] (by unfold wrH;simp only [zlf];omega) (T:=ae [(1,[[],[],[],[],[],[],[],[],[4,7],[],[],[4,7]])]) (h:=fun hcl hlt=>?_)
 clear hlt
 have hcl1:=hW.closed (b':=b++aa n w) (wr':=wr||!rg n w) hcl
 have hcm:=fun cs=>@bd H id cs hid
 have hA:∀ X Y,ai ((H.set id (.cells X)).set q Y) id=some X:=fun X Y=>by
  unfold ai;rw [AHeap.get_set_ne _ _ hW.ne,AHeap.get_set_same _ _ hid]
 have hB:∀ X,(H.set id X).get q=some (.buf 1 b.length):=fun X=>by rw [AHeap.get_set_ne _ _ (fun e=>hW.ne e.symm)];exact hb0
 have eh:∀ X Y Z,((H.set id X).set q Y).set id Z=(H.set q Y).set id Z:=fun X Y Z=>by
  unfold AHeap.set;congr 1;funext j;dsimp only;by_cases h1:j=id<;>simp [h1]
 unfold wrH at hcl1 ⊢
 have hlb:(b++aa n w).length=b.length+(aa n w).length:=lAq
 cases wr
 ·simp only [go_sem,byq,hne,hneq,n1,n2,hcs,hcm,hA,hB,eh,hi0,hb0,eg,fZ,Bool.false_or] at hcl1 ⊢
  refine ⟨hw,⟨by omega,by omega⟩,?_⟩
  rw [hlb] at hcl1
  exact Z6
 ·simp only [go_sem,byq,hne,hneq,n1,n2,hcs,hcm,hA,hB,eh,hi0,hb0,eg,fZ,Bool.true_or] at hcl1 ⊢
  refine ⟨⟨by omega,by omega⟩,?_⟩
  rw [hlb] at hcl1
  exact Z6
theorem GS:ti Tryz.prog 92=some ⟨.struct [(0,3,false),(1,90,false)],6,80,.agg [.int .i64 0,.int .i64 0,.slice .nil 1 [],.int .i64 0,.int .i64 0,.slice .nil 1 []]⟩:=by kernel_rfl
theorem Fj:ti Tryz.prog 39=some ⟨.slice 92,1,24,.slice .nil 1 []⟩:=by kernel_rfl
attribute [go_sem] GS Fj
def iw:List AV→AHeap→(AEnd→AHeap→Prop)→Prop
 |[.ptr id 0,.agg [.int .u64 hi,.int .u64 lo]],H,K=>∃ q b wr,(WOn H id q b wr∧isV hi lo)∧K (.ret (.tup [])) (wrH H id q (b++bx (vOf hi.toNat lo.toNat)) wr)
 |_,_,_=>False
theorem BK:EntOk Tryz.prog 115 (Ent.effect iw):=by
 refine EntOk.effect fun args H K h=>?_
 unfold iw at h
 split at h
 rotate_left
 ·exact h.elim
 rename_i id hi lo
 obtain ⟨q,b,wr,⟨hW,hab⟩,hK⟩:=h
 refine ⟨_,_,hK,?_⟩
 clear hK
 obtain ⟨v,hv,rfl,rfl,ev⟩:=FE hab
 rw [ev]
 have iv:=ga hv
 have lB:=cM hv
 have hl:=hW.l
 have hid:=glq hW.o
 have hq:=glq hW.bu
 have hne:=dd hid
 have hneq:=dd hq
 have n1:(id=q)=False:=eq_false hW.ne
 have n2:(q=id)=False:=eq_false fun e=>hW.ne e.symm
 have hcs:=aM hW.o
 have hb0:=hW.bu
 have hi0:=hW.o
 generalize hBB:bx v=BB at *
 refine ACalls.fW ah (tCq nC tNq) Tryz.func115 [] (by unfold wrH;simp only [zlf];omega) (T:=ae [(1,[[],[],[],[],[],[],[5],[4,5,6],[],[],[4,5,6]])]) (h:=fun hcl hlt=>?_)
 clear hlt
 have hcl1:=hW.closed (b':=b++BB) (wr':=wr) hcl
 have hC:∀ Y,ai (H.set q Y) id=some [.slice (.own q) 1 (bys b),.bool wr]:=fun Y=>by
  unfold ai;rw [AHeap.get_set_ne _ _ hW.ne,hi0]
 unfold wrH at hcl1 ⊢
 have hlb:(b++BB).length=b.length+BB.length:=lAq
 simp only [go_sem,byq,hne,hneq,n1,n2,hcs,hC,hi0,hb0,ic,iv,ev,iNq,dr,hBB] at hcl1 ⊢
 (repeat with_reducible refine And.intro (by first|assumption|decide|omega|exact ⟨by omega,by omega⟩) ?_)
 rw [hlb] at hcl1
 simp (disch:=first|exact Zd|omega) [↓zmo,beq,ybc,ybd,ybe,ag,wk,wk2,wk1,wkM,wkL,ak,ybf,hcl1,hlb]
 first|done|repeat first|exact .refl _|refine .push ?_ _
def jM:List AV→AHeap→(AEnd→AHeap→Prop)→Prop
 |[.ptr id 0,.bool x],H,K=>∃ q b wr,(WOn H id q b wr)∧K (.ret (.tup [])) (wrH H id q (b++([if x then 1 else 0]:List UInt8)) wr)
 |_,_,_=>False
theorem Gd:EntOk Tryz.prog 40 (Ent.effect jM):=by
 refine EntOk.effect fun args H K h=>?_
 unfold jM at h
 split at h
 rotate_left
 ·exact h.elim
 rename_i id x
 obtain ⟨q,b,wr,hW,hK⟩:=h
 refine ⟨_,_,hK,?_⟩
 clear hK
 have lB:([if x then 1 else 0]:List UInt8).length≤1:=by simp
 have hl:=hW.l
 have hid:=glq hW.o
 have hq:=glq hW.bu
 have hne:=dd hid
 have hneq:=dd hq
 have n1:(id=q)=False:=eq_false hW.ne
 have n2:(q=id)=False:=eq_false fun e=>hW.ne e.symm
 have hcs:=aM hW.o
 have hb0:=hW.bu
 have hi0:=hW.o
 generalize hBB:([if x then 1 else 0]:List UInt8)=BB at *
 refine ACalls.fW ah (tCq oS tNq) Tryz.func40 [] (by unfold wrH;simp only [zlf];omega) (T:=ae [(0,[[],[],[],[],[],[],[],[4,6],[],[],[4,6]])]) (h:=fun hcl hlt=>?_)
 clear hlt
 have hcl1:=hW.closed (b':=b++BB) (wr':=wr) hcl
 have hC:∀ Y,ai (H.set q Y) id=some [.slice (.own q) 1 (bys b),.bool wr]:=fun Y=>by
  unfold ai;rw [AHeap.get_set_ne _ _ hW.ne,hi0]
 unfold wrH at hcl1 ⊢
 have hlb:(b++BB).length=b.length+BB.length:=lAq
 simp only [go_sem,byq,hne,hneq,n1,n2,hcs,hC,hi0,hb0,iL,hBB] at hcl1 ⊢
 (repeat with_reducible refine And.intro (by first|assumption|decide|omega|exact ⟨by omega,by omega⟩) ?_)
 rw [hlb] at hcl1
 simp (disch:=first|exact Zd|omega) [↓zmo,beq,ybc,ybd,ybe,ag,wk,wk2,wk1,wkM,wkL,ak,ybf,hcl1,hlb]
 first|done|repeat first|exact .refl _|refine .push ?_ _
def fm:List AV→AHeap→(AEnd→AHeap→Prop)→Prop
 |[.ptr id 0,.slice _ 1 l],H,K=>∃ q b wr s,(WOn H id q b wr∧l=bys s)∧K (.ret (.tup [])) (wrH H id q (b++ge s) wr)
 |_,_,_=>False
theorem Bw:EntOk Tryz.prog 43 (Ent.effect fm):=by
 refine EntOk.effect fun args H K h=>?_
 unfold fm at h
 split at h
 rotate_left
 ·exact h.elim
 rename_i id m l
 obtain ⟨q,b,wr,s,⟨hW,rfl⟩,hK⟩:=h
 refine ⟨_,_,hK,?_⟩
 clear hK
 have lB:=iB s
 have hl:=hW.l
 have hid:=glq hW.o
 have hq:=glq hW.bu
 have hne:=dd hid
 have hneq:=dd hq
 have n1:(id=q)=False:=eq_false hW.ne
 have n2:(q=id)=False:=eq_false fun e=>hW.ne e.symm
 have hcs:=aM hW.o
 have hb0:=hW.bu
 have hi0:=hW.o
 generalize hBB:ge s=BB at *
 refine ACalls.fW ah (tCq tB tNq) Tryz.func43 [] (by unfold wrH;simp only [zlf];omega) (T:=ae [(0,[[],[],[],[],[],[],[],[4,6],[],[],[4,6]])]) (h:=fun hcl hlt=>?_)
 clear hlt
 have hcl1:=hW.closed (b':=b++BB) (wr':=wr) hcl
 have hC:∀ Y,ai (H.set q Y) id=some [.slice (.own q) 1 (bys b),.bool wr]:=fun Y=>by
  unfold ai;rw [AHeap.get_set_ne _ _ hW.ne,hi0]
 unfold wrH at hcl1 ⊢
 have hlb:(b++BB).length=b.length+BB.length:=lAq
 simp only [go_sem,byq,hne,hneq,n1,n2,hcs,hC,hi0,hb0,lq,hBB] at hcl1 ⊢
 (repeat with_reducible refine And.intro (by first|assumption|decide|omega|exact ⟨by omega,by omega⟩) ?_)
 rw [hlb] at hcl1
 simp (disch:=first|exact Zd|omega) [↓zmo,beq,ybc,ybd,ybe,ag,wk,wk2,wk1,wkM,wkL,ak,ybf,hcl1,hlb]
 first|done|repeat first|exact .refl _|refine .push ?_ _
def qd {α:Type} (p:α→Bool):List α→Nat→Int
 |[],_ => -1
 |x::l,k=>if p x=true then k else qd p l (k+1)
theorem tz {α:Type} (p:α→Bool):∀ (l:List α) (k:Nat),decide (qd p l k ≥ 0)=l.any p
 |[],k=>by simp [qd]
 |x::l,k=>by
  unfold qd
  rw [List.any_cons]
  split
  ·rename_i h;rw [h];simp
  ·rename_i h;rw [tz p l (k+1)];simp [h]
def rgM (m:SMatch):Bool:=rg m.pfx 1&&(m.present||decide (m=dV))
theorem yF {m:SMatch}:teq Tryz.prog 9 254 (.agg (cR m)) (.agg [.bool false,.int .u64 0,.int .u64 0,.int .u64 0,.int .u64 0,.int .i64 0,.int .u64 0,.int .u64 0])=some (decide (m=dV)):=by
 have h:=pj (m:=m) (n:=dV)
 generalize decide (m=dV)=R at *
 simp only [dV,Nat.zero_div,Nat.zero_mod,Int.natCast_zero] at h
 simpa only [cR,vc,yal,yak] using h
def Aw:List AV→AHeap→(AV→Prop)→Prop
 |[.agg l],_,K=>∃ m:SMatch,(l=cR m∧MOk m)∧K (.bool (!rgM m))
 |_,_,_=>False
theorem FW:EntOk Tryz.prog 212 (Ent.pure Aw):=by
 refine Ype fun _ H K h=>?_
 unfold Aw at h
 split at h
 rotate_left
 ·exact h.elim
 rename_i l
 obtain ⟨m,⟨rfl,hm⟩,hK⟩:=h
 refine ⟨_,hK,?_⟩
 clear hK
 have tm:=yF (m:=m)
 by_cases h1:rg m.pfx 1=true
 ·cases hp:m.present
  ·have e:rgM m=decide (m=dV):=by unfold rgM;rw [h1,hp];simp
   rw [e]
   by_cases hn:m=dV
   ·have dn:decide (m=dV)=true:=dtq hn
    rw [dn] at tm ⊢
    refine ACalls.fW ah (tCq fg tNq) Tryz.func212 [.tmp 2] (nrq _) (T:=ae []) (h:=fun hcl hlt=>?_)
    clear hlt
    simp only [cR,vc,yal,yak,hp] at tm
    simp only [go_sem,cR,vc,yal,yak,eg,h1,hp,tm,mF,Bool.bne_true,Bool.bne_false]
    simp (disch:=first|exact Zd|omega) [↓zmo,beq,ybc,ybd,ybe,ag,wk,wk2,wk1,wkM,wkL,ak,ybf,hcl]
    first|done|repeat first|exact .refl _|refine .push ?_ _
   ·have dn:decide (m=dV)=false:=dfq hn
    rw [dn] at tm ⊢
    refine ACalls.fW ah (tCq fg tNq) Tryz.func212 [.tmp 2] (nrq _) (T:=ae []) (h:=fun hcl hlt=>?_)
    clear hlt
    simp only [cR,vc,yal,yak,hp] at tm
    simp only [go_sem,cR,vc,yal,yak,eg,h1,hp,tm,mF,Bool.bne_true,Bool.bne_false]
    simp (disch:=first|exact Zd|omega) [↓zmo,beq,ybc,ybd,ybe,ag,wk,wk2,wk1,wkM,wkL,ak,ybf,hcl]
    first|done|repeat first|exact .refl _|refine .push ?_ _
  ·have e:rgM m=true:=by unfold rgM;rw [h1,hp];rfl
   rw [e]
   refine ACalls.fW ah (tCq fg tNq) Tryz.func212 [.tmp 2] (nrq _) (T:=ae []) (h:=fun hcl hlt=>?_)
   clear hlt
   simp only [go_sem,cR,vc,yal,yak,eg,h1,hp]
   simp (disch:=first|exact Zd|omega) [↓zmo,beq,ybc,ybd,ybe,ag,wk,wk2,wk1,wkM,wkL,ak,ybf,hcl]
   first|done|repeat first|exact .refl _|refine .push ?_ _
 ·have h1':rg m.pfx 1=false:=by simpa using h1
  have e:rgM m=false:=by unfold rgM;rw [h1'];rfl
  rw [e]
  refine ACalls.fW ah (tCq fg tNq) Tryz.func212 [.tmp 2] (nrq _) (T:=ae []) (h:=fun hcl hlt=>?_)
  clear hlt
  simp only [go_sem,cR,vc,yal,yak,eg,h1']
  simp (disch:=first|exact Zd|omega) [↓zmo,beq,ybc,ybd,ybe,ag,wk,wk2,wk1,wkM,wkL,ak,ybf,hcl]
  first|done|repeat first|exact .refl _|refine .push ?_ _
def kB (u:Int × SEntry):List AV:=.int .i64 u.1::aN u.2
def cV (u:Int × SEntry):AV:=.agg (kB u)
theorem kq {n:Nat} (x:Int × SEntry):AV.lt n (cV x):=by
 have:=dJ (n:=n) x.2
 simp only [bc,znr] at this
 simp only [cV,kB,znr,znu,znf,true_and]
 exact this
def zR:List AV→AHeap→(AV→Prop)→Prop
 |[.agg l],_,K=>∃ u:Int × SEntry,l=kB u∧K (.bool (decide (u.1<1)||decide (3<u.1)))
 |_,_,_=>False
theorem Fv:EntOk Tryz.prog 110 (Ent.pure zR):=by
 refine Ype fun _ H K h=>?_
 unfold zR at h
 split at h
 rotate_left
 ·exact h.elim
 rename_i l
 obtain ⟨u,rfl,hK⟩:=h
 refine ⟨_,hK,?_⟩
 clear hK
 obtain ⟨k,e⟩:=u
 dsimp only
 by_cases h1:k<1
 ·have d1:decide (k<1)=true:=dtq h1
  rw [d1,Bool.true_or]
  refine ACalls.fW ah tNq Tryz.func110 [.tmp 2] (nrq _) (T:=ae []) (h:=fun hcl hlt=>?_)
  clear hlt
  simp only [go_sem,kB,aN,d1]
  simp (disch:=first|exact Zd|omega) [↓zmo,beq,ybc,ybd,ybe,ag,wk,wk2,wk1,wkM,wkL,ak,ybf,hcl]
  first|done|repeat first|exact .refl _|refine .push ?_ _
 ·have d1:decide (k<1)=false:=dfq h1
  rw [d1,Bool.false_or]
  have d2:decide (k > 3)=decide (3<k):=rfl
  refine ACalls.fW ah tNq Tryz.func110 [.tmp 2] (nrq _) (T:=ae []) (h:=fun hcl hlt=>?_)
  clear hlt
  simp only [go_sem,kB,aN,d1,d2]
  simp (disch:=first|exact Zd|omega) [↓zmo,beq,ybc,ybd,ybe,ag,wk,wk2,wk1,wkM,wkL,ak,ybf,hcl]
  first|done|repeat first|exact .refl _|refine .push ?_ _
def zx:List AV→AHeap→(AV→Prop)→Prop
 |[.slice _ 8 l,.func (.func 212) [] []],_,K=>∃ xs:List (SMatch),(l=xs.map aR∧xs.length≤140737488355328∧∀ x∈xs,MOk x)∧K (.int .i64 (qd (fun m=>!rgM m) xs 0))
 |_,_,_=>False
theorem Ff:EntOk Tryz.prog 242 (Ent.pure zx):=by
 refine Ype fun _ H K h=>?_
 unfold zx at h
 split at h
 rotate_left
 ·exact h.elim
 rename_i m1 l
 obtain ⟨xs,⟨rfl,hl,hm⟩,hK⟩:=h
 refine ⟨_,hK,?_⟩
 clear hK
 obtain ⟨R,hR⟩:∃ R,qd (fun m=>!rgM m) xs 0=R:=⟨_,rfl⟩
 rw [hR]
 refine ACalls.fW ah (tCq FW tNq) Tryz.func242 [.tmp 4] (nrq _) (T:=ae []) (h:=fun hcl hlt=>?_)
 have hs1:=hlt (.slice m1 8 (xs.map aR)) (by simp)
 have hf:AV.lt H.nx (.func (.func 212) [] []):=hlt _ (by simp)
 clear hlt
 simp only [go_sem,ybb]
 refine aK (A:=Nat) (fun k=>[(0,.slice m1 8 (xs.map aR)),(1,.func (.func 212) [] []),(7,.int .i64 (xs.length:Int)),(8,.int .i64 (k:Int))]) (fun _=>H) (fun k=>k≤xs.length∧qd (fun m=>!rgM m) (xs.drop k) k=R) (fun k=>xs.length - k) 0 ⟨by omega,hR⟩ ?_ fun k hk=>?_
 ·refine ⟨by simp only [zkq,zkv];omega,lRq _,hcl,?_,?_⟩
  ·simp only [ltF,znf,and_true]
   exact ⟨hs1,hf⟩
  ·simp [cf,wk2,wk1,wkM,Fr.get]
 obtain ⟨hk,hq⟩:=hk
 simp only [go_sem]
 refine af (fun hc=>?_) (fun hc=>?_)
 ·have hk':k<xs.length:=by simp at hc;omega
  obtain ⟨x,hx⟩:∃ x,x=xs[k]:=⟨_,rfl⟩
  have hd:xs.drop k=x::xs.drop (k+1):=by rw [hx];exact dcq hk'
  have hg:=bH (f:=aR) (l:=xs) (k:=k) (x:=x) (by rw [gQq hk',hx])
  have e5:=Yk5 k
  have hmx:=hm x (by rw [hx];exact gMq hk')
  rw [hd] at hq
  unfold qd at hq
  have hgC:((xs.map aR).getD k .junk)=.agg (cR x):=hg
  have htk:List.take 8 (cR x)=cR x:=rfl
  simp only [go_sem,iNq,ybb,hgC,htk,Aw]
  refine ⟨by omega,nrq 8,x,⟨rfl,hmx⟩,?_⟩
  refine af (fun hb=>?_) (fun hb=>?_)
  ·rw [if_pos hb] at hq
   rw [← hq]
   simp only [go_sem]
   exact Z2
  ·rw [if_neg (by rw [hb];decide)] at hq
   simp only [go_sem,e5]
   refine ⟨k+1,⟨by omega,hq⟩,by omega,by omega,lRq _,hcl,?_,?_⟩
   ·simp only [ltF,znf,and_true]
    exact ⟨hs1,hf⟩
   ·simp [cf,wk2,wk1,wkM,Fr.get]
 ·have hk':k=xs.length:=by simp at hc;omega
  subst hk'
  rw [List.drop_length] at hq
  rw [← hq]
  simp only [go_sem]
  exact Z7
def zC:List AV→AHeap→(AV→Prop)→Prop
 |[.slice _ 8 l,.func (.func 212) [] []],_,K=>∃ xs:List (SMatch),(l=xs.map aR∧xs.length≤140737488355328∧∀ x∈xs,MOk x)∧K (.bool (xs.any (fun m=>!rgM m)))
 |_,_,_=>False
theorem nT:EntOk Tryz.prog 213 (Ent.pure zC):=by
 refine Ype fun _ H K h=>?_
 unfold zC at h
 split at h
 rotate_left
 ·exact h.elim
 rename_i m1 l
 obtain ⟨xs,⟨rfl,hl,hm⟩,hK⟩:=h
 refine ⟨_,hK,?_⟩
 clear hK
 refine ACalls.fW ah (tCq Ff tNq) Tryz.func213 [.tmp 4] (nrq _) (T:=ae []) (h:=fun hcl hlt=>?_)
 clear hlt
 simp only [go_sem,zx]
 refine ⟨xs,⟨rfl,hl,hm⟩,?_⟩
 simp only [go_sem,tz]
 exact Z2
def Ah:List AV→AHeap→(AV→Prop)→Prop
 |[.slice _ 6 l,.func (.func 110) [] []],_,K=>∃ xs:List (Int × SEntry),(l=xs.map cV∧xs.length≤140737488355328)∧K (.int .i64 (qd (fun u=>decide (u.1<1)||decide (3<u.1)) xs 0))
 |_,_,_=>False
theorem FF:EntOk Tryz.prog 207 (Ent.pure Ah):=by
 refine Ype fun _ H K h=>?_
 unfold Ah at h
 split at h
 rotate_left
 ·exact h.elim
 rename_i m1 l
 obtain ⟨xs,⟨rfl,hl⟩,hK⟩:=h
 refine ⟨_,hK,?_⟩
 clear hK
 obtain ⟨R,hR⟩:∃ R,qd (fun u=>decide (u.1<1)||decide (3<u.1)) xs 0=R:=⟨_,rfl⟩
 rw [hR]
 refine ACalls.fW ah (tCq Fv tNq) Tryz.func207 [.tmp 4] (nrq _) (T:=ae []) (h:=fun hcl hlt=>?_)
 have hs1:=hlt (.slice m1 6 (xs.map cV)) (by simp)
 have hf:AV.lt H.nx (.func (.func 110) [] []):=hlt _ (by simp)
 clear hlt
 simp only [go_sem,ybb]
 refine aK (A:=Nat) (fun k=>[(0,.slice m1 6 (xs.map cV)),(1,.func (.func 110) [] []),(7,.int .i64 (xs.length:Int)),(8,.int .i64 (k:Int))]) (fun _=>H) (fun k=>k≤xs.length∧qd (fun u=>decide (u.1<1)||decide (3<u.1)) (xs.drop k) k=R) (fun k=>xs.length - k) 0 ⟨by omega,hR⟩ ?_ fun k hk=>?_
 ·refine ⟨by simp only [zkq,zkv];omega,lRq _,hcl,?_,?_⟩
  ·simp only [ltF,znf,and_true]
   exact ⟨hs1,hf⟩
  ·simp [cf,wk2,wk1,wkM,Fr.get]
 obtain ⟨hk,hq⟩:=hk
 simp only [go_sem]
 refine af (fun hc=>?_) (fun hc=>?_)
 ·have hk':k<xs.length:=by simp at hc;omega
  obtain ⟨x,hx⟩:∃ x,x=xs[k]:=⟨_,rfl⟩
  have hd:xs.drop k=x::xs.drop (k+1):=by rw [hx];exact dcq hk'
  have hg:=bH (f:=cV) (l:=xs) (k:=k) (x:=x) (by rw [gQq hk',hx])
  have e5:=Yk5 k
  rw [hd] at hq
  unfold qd at hq
  have hgC:((xs.map cV).getD k .junk)=.agg (kB x):=hg
  have htk:List.take 6 (kB x)=kB x:=rfl
  simp only [go_sem,iNq,ybb,hgC,htk,zR]
  refine ⟨by omega,nrq 6,x,rfl,?_⟩
  refine af (fun hb=>?_) (fun hb=>?_)
  ·rw [if_pos hb] at hq
   rw [← hq]
   simp only [go_sem]
   exact Z2
  ·rw [if_neg (by rw [hb];decide)] at hq
   simp only [go_sem,e5]
   refine ⟨k+1,⟨by omega,hq⟩,by omega,by omega,lRq _,hcl,?_,?_⟩
   ·simp only [ltF,znf,and_true]
    exact ⟨hs1,hf⟩
   ·simp [cf,wk2,wk1,wkM,Fr.get]
 ·have hk':k=xs.length:=by simp at hc;omega
  subst hk'
  rw [List.drop_length] at hq
  rw [← hq]
  simp only [go_sem]
  exact Z7
def xf:List AV→AHeap→(AV→Prop)→Prop
 |[.slice _ 6 l,.func (.func 110) [] []],_,K=>∃ xs:List (Int × SEntry),(l=xs.map cV∧xs.length≤140737488355328)∧K (.bool (xs.any (fun u=>decide (u.1<1)||decide (3<u.1))))
 |_,_,_=>False
theorem sB:EntOk Tryz.prog 109 (Ent.pure xf):=by
 refine Ype fun _ H K h=>?_
 unfold xf at h
 split at h
 rotate_left
 ·exact h.elim
 rename_i m1 l
 obtain ⟨xs,⟨rfl,hl⟩,hK⟩:=h
 refine ⟨_,hK,?_⟩
 clear hK
 refine ACalls.fW ah (tCq FF tNq) Tryz.func109 [.tmp 4] (nrq _) (T:=ae []) (h:=fun hcl hlt=>?_)
 clear hlt
 simp only [go_sem,Ah]
 refine ⟨xs,⟨rfl,hl⟩,?_⟩
 simp only [go_sem,tz]
 exact Z2
def rgE (e:SEntry):Bool:=rg e.table 2&&(rg e.prio 2&&(rg e.act 2&&(decide (e.ms.length≤4)&&(decide (e.args.length≤4)&&e.ms.all rgM))))
theorem A2 {α:Type} (p:α→Bool) (l:List α):(!l.any fun x=>!p x)=l.all p:=by
 induction l with
 |nil=>rfl
 |cons x l ih=>simp only [List.any_cons,List.all_cons,Bool.not_or,Bool.not_not,ih]
def ww:List AV→AHeap→(AV→Prop)→Prop
 |[.agg l],_,K=>∃ e:SEntry,(l=aN e∧COk e)∧K (.bool (rgE e))
 |_,_,_=>False
theorem Bp:EntOk Tryz.prog 139 (Ent.pure ww):=by
 refine Ype fun _ H K h=>?_
 unfold ww at h
 split at h
 rotate_left
 ·exact h.elim
 rename_i l
 obtain ⟨e,⟨rfl,he⟩,hK⟩:=h
 refine ⟨_,hK,?_⟩
 clear hK
 cases h0:rg e.table 2
 ·rw [show rgE e=false by unfold rgE;simp only [h0,Bool.false_and,Bool.and_false,Bool.true_and]]
  refine ACalls.fW ah (tCq fg (tCq nT tNq)) Tryz.func139 [.tmp 2] (nrq _) (T:=ae []) (h:=fun hcl hlt=>?_)
  clear hlt
  skip
  skip
  simp only [go_sem,aN,ybb,eg,h0]
  simp (disch:=first|exact Zd|omega) [↓zmo,beq,ybc,ybd,ybe,ag,wk,wk2,wk1,wkM,wkL,ak,ybf,hcl]
  first|done|repeat first|exact .refl _|refine .push ?_ _
 cases h1:rg e.prio 2
 ·rw [show rgE e=false by unfold rgE;simp only [h0,h1,Bool.false_and,Bool.and_false,Bool.true_and]]
  refine ACalls.fW ah (tCq fg (tCq nT tNq)) Tryz.func139 [.tmp 2] (nrq _) (T:=ae []) (h:=fun hcl hlt=>?_)
  clear hlt
  skip
  skip
  simp only [go_sem,aN,ybb,eg,h0,h1]
  simp (disch:=first|exact Zd|omega) [↓zmo,beq,ybc,ybd,ybe,ag,wk,wk2,wk1,wkM,wkL,ak,ybf,hcl]
  first|done|repeat first|exact .refl _|refine .push ?_ _
 cases h2:rg e.act 2
 ·rw [show rgE e=false by unfold rgE;simp only [h0,h1,h2,Bool.false_and,Bool.and_false,Bool.true_and]]
  refine ACalls.fW ah (tCq fg (tCq nT tNq)) Tryz.func139 [.tmp 2] (nrq _) (T:=ae []) (h:=fun hcl hlt=>?_)
  clear hlt
  skip
  skip
  simp only [go_sem,aN,ybb,eg,h0,h1,h2]
  simp (disch:=first|exact Zd|omega) [↓zmo,beq,ybc,ybd,ybe,ag,wk,wk2,wk1,wkM,wkL,ak,ybf,hcl]
  first|done|repeat first|exact .refl _|refine .push ?_ _
 cases h3:decide (e.ms.length≤4)
 ·rw [show rgE e=false by unfold rgE;simp only [h0,h1,h2,h3,Bool.false_and,Bool.and_false,Bool.true_and]]
  refine ACalls.fW ah (tCq fg (tCq nT tNq)) Tryz.func139 [.tmp 2] (nrq _) (T:=ae []) (h:=fun hcl hlt=>?_)
  clear hlt
  have d3:decide ((e.ms.length:Int)≤4)=false:=by rw [← h3,decide_eq_decide];omega
  skip
  simp only [go_sem,aN,ybb,eg,h0,h1,h2,h3,d3]
  simp (disch:=first|exact Zd|omega) [↓zmo,beq,ybc,ybd,ybe,ag,wk,wk2,wk1,wkM,wkL,ak,ybf,hcl]
  first|done|repeat first|exact .refl _|refine .push ?_ _
 cases h4:decide (e.args.length≤4)
 ·rw [show rgE e=false by unfold rgE;simp only [h0,h1,h2,h3,h4,Bool.false_and,Bool.and_false,Bool.true_and]]
  refine ACalls.fW ah (tCq fg (tCq nT tNq)) Tryz.func139 [.tmp 2] (nrq _) (T:=ae []) (h:=fun hcl hlt=>?_)
  clear hlt
  have d4:decide ((e.args.length:Int)≤4)=false:=by rw [← h4,decide_eq_decide];omega
  have d3:decide ((e.ms.length:Int)≤4)=true:=by rw [← h3,decide_eq_decide];omega
  simp only [go_sem,aN,ybb,eg,h0,h1,h2,h3,h4,d3,d4]
  simp (disch:=first|exact Zd|omega) [↓zmo,beq,ybc,ybd,ybe,ag,wk,wk2,wk1,wkM,wkL,ak,ybf,hcl]
  first|done|repeat first|exact .refl _|refine .push ?_ _
 rw [show rgE e=e.ms.all rgM by unfold rgE;simp only [h0,h1,h2,h3,h4,Bool.true_and]]
 have d3:decide ((e.ms.length:Int)≤4)=true:=by rw [← h3,decide_eq_decide];omega
 have d4:decide ((e.args.length:Int)≤4)=true:=by rw [← h4,decide_eq_decide];omega
 refine ACalls.fW ah (tCq fg (tCq nT tNq)) Tryz.func139 [.tmp 2] (nrq _) (T:=ae []) (h:=fun hcl hlt=>?_)
 clear hlt
 simp only [go_sem,aN,ybb,eg,zC,h0,h1,h2,d3,d4]
 refine ⟨e.ms,⟨rfl,he.ok.ml,he.ok.mo⟩,?_⟩
 simp only [go_sem,A2]
 simp (disch:=first|exact Zd|omega) [↓zmo,beq,ybc,ybd,ybe,ag,wk,wk2,wk1,wkM,wkL,ak,ybf,hcl]
 first|done|repeat first|exact .refl _|refine .push ?_ _
def pq (H:AHeap) (id q:Nat) (b:List UInt8) (wr:Bool) (e:SEntry):AHeap:=if rgE e then wrH H id q (b++eO e) wr else wrH H id q b true
theorem nJ {e:SEntry} (h:COk e) (h1:e.ms.length≤4) (h2:e.args.length≤4):(eO e).length≤400:=by
 have h0:∀ n,(aa n 2).length≤4:=fun n=>bW n 2
 have h3:∀ l:List SMatch,(∀ m∈l,MOk m)→(l.flatMap jo).length≤60*l.length:=fun l=>by
  induction l with
  |nil=>intro _;simp
  |cons m l ih =>
   intro h
   rw [List.flatMap_cons,lAq,yaz]
   have:=tQ (h m List.mem_cons_self)
   have:=ih fun x hx=>h x (List.mem_cons_of_mem _ hx)
   omega
 have h4:∀ l:List Nat,(∀ m∈l,m<2^128)→(l.flatMap bx).length≤17*l.length:=fun l=>by
  induction l with
  |nil=>intro _;simp
  |cons m l ih =>
   intro h
   rw [List.flatMap_cons,lAq,yaz]
   have:=cM (h m List.mem_cons_self)
   have:=ih fun x hx=>h x (List.mem_cons_of_mem _ hx)
   omega
 have a1:=h0 e.table
 have a2:=h0 e.ms.length
 have a3:=h0 e.prio
 have a4:=h0 e.act
 have a5:=h0 e.args.length
 have a6:=h3 e.ms h.ok.mo
 have a7:=h4 e.args h.ar
 unfold eO
 simp only [lAq]
 omega
theorem wC {e:SEntry} (h:rgE e=true):e.ms.length≤4∧e.args.length≤4:=by
 unfold rgE at h
 simp only [Bool.and_eq_true,decide_eq_true_eq] at h
 exact ⟨h.2.2.2.1,h.2.2.2.2.1⟩
def uB:List AV→AHeap→(AEnd→AHeap→Prop)→Prop
 |[.ptr id 0,.agg l],H,K=>∃ q b wr e,(WOn H id q b wr∧l=aN e∧COk e)∧K (.ret (.tup [])) (pq H id q b wr e)
 |_,_,_=>False
theorem Bn:EntOk Tryz.prog 41 (Ent.effect uB):=by
 refine EntOk.effect fun args H K h=>?_
 unfold uB at h
 split at h
 rotate_left
 ·exact h.elim
 rename_i id l
 obtain ⟨q,b,wr,e,⟨hW,rfl,he⟩,hK⟩:=h
 refine ⟨_,_,hK,?_⟩
 clear hK
 have hl:=hW.l
 have hid:=glq hW.o
 have hq:=glq hW.bu
 have hne:=dd hid
 have hneq:=dd hq
 have n1:(id=q)=False:=eq_false hW.ne
 have n2:(q=id)=False:=eq_false fun e=>hW.ne e.symm
 have hcs:=aM hW.o
 have hb0:=hW.bu
 have hi0:=hW.o
 cases hr:rgE e
 ·rw [show pq H id q b wr e=wrH H id q b true by unfold pq;rw [hr];rfl]
  have eh:∀ X,wrH H id q b X=H.set id (.cells [.slice (.own q) 1 (bys b),.bool X]):=fun X=>by
   unfold wrH;rw [cL hb0]
  refine ACalls.fW ah (tCq Bp (tCq sV tNq)) Tryz.func41 [] (by unfold wrH;simp only [zlf];omega) (T:=ae [(3,[[],[],[],[],[],[],[5],[4,5,6],[],[],[4,5,6]])]) (h:=fun hcl hlt=>?_)
  clear hlt
  have hcl1:=hW.closed (b':=b) (wr':=true) hcl
  rw [eh] at hcl1 ⊢
  simp only [go_sem,byq,hne,hneq,n1,n2,hcs,hi0,hb0,aN,ww]
  refine ⟨e,⟨rfl,he⟩,?_⟩
  rw [hr]
  simp only [go_sem,byq,hne,hneq,n1,n2,hcs,hi0,hb0,aN]
  simp (disch:=first|exact Zd|omega) [↓zmo,beq,ybc,ybd,ybe,ag,wk,wk2,wk1,wkM,wkL,ak,ybf,hcl1]
  first|done|repeat first|exact .refl _|refine .push ?_ _
 ·obtain ⟨r1,r2⟩:=wC hr
  have lB:=nJ he r1 r2
  rw [show pq H id q b wr e=wrH H id q (b++eO e) wr by unfold pq;rw [hr];rfl]
  generalize hBB:eO e=BB at *
  refine ACalls.fW ah (tCq Bp (tCq sV tNq)) Tryz.func41 [] (by unfold wrH;simp only [zlf];omega) (T:=ae [(3,[[],[],[],[],[],[],[5],[4,5,6],[],[],[4,5,6]])]) (h:=fun hcl hlt=>?_)
  clear hlt
  have hcl1:=hW.closed (b':=b++BB) (wr':=wr) hcl
  have hC:∀ Y,ai (H.set q Y) id=some [.slice (.own q) 1 (bys b),.bool wr]:=fun Y=>by
   unfold ai;rw [AHeap.get_set_ne _ _ hW.ne,hi0]
  unfold wrH at hcl1 ⊢
  have hlb:(b++BB).length=b.length+BB.length:=lAq
  simp only [go_sem,byq,hne,hneq,n1,n2,hcs,hC,hi0,hb0,aN,ww] at hcl1 ⊢
  refine ⟨e,⟨rfl,he⟩,?_⟩
  rw [hr]
  simp only [go_sem,byq,hne,hneq,n1,n2,hcs,hC,hi0,hb0,aN,qL]
  refine ⟨e,[],⟨rfl,rfl,by decide,by omega,by omega,he⟩,?_⟩
  try simp only [yak,hBB]
  try simp only [go_sem,byq,hne,hneq,n1,n2,hcs,hC,hi0,hb0,aN]
  (repeat with_reducible refine And.intro (by first|assumption|decide|omega|exact ⟨by omega,by omega⟩) ?_)
  rw [hlb] at hcl1
  simp (disch:=first|exact Zd|omega) [↓zmo,beq,ybc,ybd,ybe,ag,wk,wk2,wk1,wkM,wkL,ak,ybf,hcl1,hlb]
  first|done|repeat first|exact .refl _|refine .push ?_ _
theorem Hb:ti Tryz.prog 41=some ⟨.struct [(0,3,false),(1,3,false),(2,38,false),(4,39,false),(5,3,false),(6,3,false),(7,3,false),(8,3,false),(9,22,false)],10,112,.agg [.int .i64 0,.int .i64 0,.int .u64 0,.int .u64 0,.slice .nil 1 [],.int .i64 0,.int .i64 0,.int .i64 0,.int .i64 0,.slice .nil 1 []]⟩:=by kernel_rfl
attribute [go_sem] Hb
structure SReq where
 kind:Int
 role:Int
 el:Nat
 ups:List (Int × SEntry)
 table:Int
 frm:Int
 count:Int
 port:Int
 data:List UInt8
def aF (r:SReq):List AV:=[.int .i64 r.kind,.int .i64 r.role,.int .u64 ((r.el/2^64:Nat):Int),.int .u64 ((r.el % 2^64:Nat):Int),.slice .any 6 (r.ups.map cV),.int .i64 r.table,.int .i64 r.frm,.int .i64 r.count,.int .i64 r.port,.slice .any 1 (bys r.data)]
def bb (r:SReq):AV:=.agg (aF r)
def cm:SReq:=⟨0,0,0,[],0,0,0,0,[]⟩
structure ROk (r:SReq):Prop where
 el:r.el<2^128
 ul:r.ups.length≤1000
 dl:r.data.length≤10000
 uo:∀ u∈r.ups,COk u.2
theorem dN {n:Nat} (r:SReq):AV.lt n (bb r):=by
 have h1:AV.lt n (.slice .any 6 (r.ups.map cV)):=bg kq
 simp only [bb,aF,znr,znu,znv,znf,h1,zms,and_true,true_and]
 intro i e;cases e
def cC (k:Int) (r:SReq):SReq :=
 if k=1 then { cm with role:=r.role,el:=r.el } else if k=2 then cm else if k=3 then { cm with role:=r.role,el:=r.el,ups:=r.ups }
 else if k=4 then { cm with role:=r.role,table:=r.table } else if k=5 then { cm with role:=r.role,frm:=r.frm,count:=r.count } else { cm with port:=r.port,data:=r.data }
def eY (u:Int × SEntry):List UInt8:=aa u.1 1++(if rgE u.2 then eO u.2 else [])
def cd (k:Int) (r:SReq):List UInt8 :=
 if k=1 then aa r.role 2++bx r.el else if k=2 then [] else if k=3 then aa r.role 2++bx r.el++aa r.ups.length 2++r.ups.flatMap eY
 else if k=4 then aa r.role 2++aa r.table 2 else if k=5 then aa r.role 2++aa r.frm 4++aa r.count 2 else aa r.port 2++ge r.data
def ph (u:Int × SEntry):Bool:=!rg u.1 1||!rgE u.2
def eI (k:Int) (r:SReq):Bool :=
 if k=1 then !rg r.role 2 else if k=2 then false else if k=3 then !rg r.role 2||!rg r.ups.length 2||r.ups.any ph
 else if k=4 then !rg r.role 2||!rg r.table 2 else if k=5 then !rg r.role 2||!rg r.frm 4||!rg r.count 2 else !rg r.port 2
theorem WOn.push {H:AHeap} {id q:Nat} {b:List UInt8} {wr:Bool} (h:WOn H id q b wr) (x:AObj):WOn (H.push x) id q b wr :=
 ⟨by rw [gPq _ _ (glq h.o)];exact h.o,by rw [gPq _ _ (glq h.bu)];exact h.bu,h.l⟩
theorem cN {H:AHeap} {id q:Nat} {b:List UInt8} {wr:Bool} {x:AObj} (h1:id<H.nx) (h2:q<H.nx):wrH (H.push x) id q b wr=(wrH H id q b wr).push x:=by
 unfold wrH AHeap.set AHeap.push
 congr 1
 funext j
 dsimp only
 by_cases e1:j=id
 ·subst e1;rw [if_pos rfl,if_neg (by omega),if_pos rfl]
 ·rw [if_neg e1]
  by_cases e2:j=q
  ·subst e2;rw [if_pos rfl,if_neg (by omega),if_neg e1,if_pos rfl]
  ·rw [if_neg e2]
   by_cases e3:j=H.nx
   ·rw [if_pos e3,if_pos e3]
   ·rw [if_neg e3,if_neg e3,if_neg e1,if_neg e2]
theorem bC {H:AHeap} {id q:Nat} {b:List UInt8} {wr:Bool}:(wrH H id q b wr).nx=H.nx:=rfl
theorem Dq {H:AHeap} {id q:Nat} {b:List UInt8} {wr:Bool} (h:WOn H id q b wr):wrH H id q b wr=H:=by
 unfold wrH;rw [cL h.bu,cL h.o]
def wh:List AV→AHeap→(AV→Prop)→Prop
 |[.agg l],_,K=>∃ r:SReq,l=aF r∧K (bb (cC 1 r))
 |_,_,_=>False
theorem pS:EntOk Tryz.prog 113 (Ent.pure wh):=by
 refine Ype fun _ H K h=>?_
 unfold wh at h
 split at h
 rotate_left
 ·exact h.elim
 rename_i l
 obtain ⟨r,rfl,hK⟩:=h
 refine ⟨_,hK,?_⟩
 clear hK
 rw [show cC 1 r={ cm with role:=r.role,el:=r.el } from rfl]
 have lr:=dN (n:=H.nx) ({ cm with role:=r.role,el:=r.el })
 refine ACalls.fW ah tNq Tryz.func113 [.cell 2 41] (nrq _) (T:=ae []) (h:=fun hcl hlt=>?_)
 clear hlt
 simp only [bb,aF,cm,Nat.zero_div,Nat.zero_mod,Int.natCast_zero,yaf,zll] at lr ⊢
 simp only [go_sem]
 refine ⟨?_,by repeat first|exact .refl _|refine .push ?_ _,hcl,lr⟩
 simp [wk,wk2,wk1,wkL,wkM]
def wH:List AV→AHeap→(AV→Prop)→Prop
 |[.agg l],_,K=>∃ r:SReq,l=aF r∧K (bb (cC 2 r))
 |_,_,_=>False
theorem pL:EntOk Tryz.prog 118 (Ent.pure wH):=by
 refine Ype fun _ H K h=>?_
 unfold wH at h
 split at h
 rotate_left
 ·exact h.elim
 rename_i l
 obtain ⟨r,rfl,hK⟩:=h
 refine ⟨_,hK,?_⟩
 clear hK
 rw [show cC 2 r=cm from rfl]
 have lr:=dN (n:=H.nx) (cm)
 refine ACalls.fW ah tNq Tryz.func118 [.cell 2 41] (nrq _) (T:=ae []) (h:=fun hcl hlt=>?_)
 clear hlt
 simp only [bb,aF,cm,Nat.zero_div,Nat.zero_mod,Int.natCast_zero,yaf,zll] at lr ⊢
 simp only [go_sem]
 refine ⟨?_,by repeat first|exact .refl _|refine .push ?_ _,hcl,lr⟩
 simp [wk,wk2,wk1,wkL,wkM]
def wJ:List AV→AHeap→(AV→Prop)→Prop
 |[.agg l],_,K=>∃ r:SReq,l=aF r∧K (bb (cC 3 r))
 |_,_,_=>False
theorem p4:EntOk Tryz.prog 121 (Ent.pure wJ):=by
 refine Ype fun _ H K h=>?_
 unfold wJ at h
 split at h
 rotate_left
 ·exact h.elim
 rename_i l
 obtain ⟨r,rfl,hK⟩:=h
 refine ⟨_,hK,?_⟩
 clear hK
 rw [show cC 3 r={ cm with role:=r.role,el:=r.el,ups:=r.ups } from rfl]
 have lr:=dN (n:=H.nx) ({ cm with role:=r.role,el:=r.el,ups:=r.ups })
 refine ACalls.fW ah tNq Tryz.func121 [.cell 2 41] (nrq _) (T:=ae []) (h:=fun hcl hlt=>?_)
 clear hlt
 simp only [bb,aF,cm,Nat.zero_div,Nat.zero_mod,Int.natCast_zero,yaf,zll] at lr ⊢
 simp only [go_sem]
 refine ⟨?_,by repeat first|exact .refl _|refine .push ?_ _,hcl,lr⟩
 simp [wk,wk2,wk1,wkL,wkM]
def wg:List AV→AHeap→(AV→Prop)→Prop
 |[.agg l],_,K=>∃ r:SReq,l=aF r∧K (bb (cC 4 r))
 |_,_,_=>False
theorem pK:EntOk Tryz.prog 125 (Ent.pure wg):=by
 refine Ype fun _ H K h=>?_
 unfold wg at h
 split at h
 rotate_left
 ·exact h.elim
 rename_i l
 obtain ⟨r,rfl,hK⟩:=h
 refine ⟨_,hK,?_⟩
 clear hK
 rw [show cC 4 r={ cm with role:=r.role,table:=r.table } from rfl]
 have lr:=dN (n:=H.nx) ({ cm with role:=r.role,table:=r.table })
 refine ACalls.fW ah tNq Tryz.func125 [.cell 2 41] (nrq _) (T:=ae []) (h:=fun hcl hlt=>?_)
 clear hlt
 simp only [bb,aF,cm,Nat.zero_div,Nat.zero_mod,Int.natCast_zero,yaf,zll] at lr ⊢
 simp only [go_sem]
 refine ⟨?_,by repeat first|exact .refl _|refine .push ?_ _,hcl,lr⟩
 simp [wk,wk2,wk1,wkL,wkM]
def xw:List AV→AHeap→(AV→Prop)→Prop
 |[.agg l],_,K=>∃ r:SReq,l=aF r∧K (bb (cC 5 r))
 |_,_,_=>False
theorem pT:EntOk Tryz.prog 128 (Ent.pure xw):=by
 refine Ype fun _ H K h=>?_
 unfold xw at h
 split at h
 rotate_left
 ·exact h.elim
 rename_i l
 obtain ⟨r,rfl,hK⟩:=h
 refine ⟨_,hK,?_⟩
 clear hK
 rw [show cC 5 r={ cm with role:=r.role,frm:=r.frm,count:=r.count } from rfl]
 have lr:=dN (n:=H.nx) ({ cm with role:=r.role,frm:=r.frm,count:=r.count })
 refine ACalls.fW ah tNq Tryz.func128 [.cell 2 41] (nrq _) (T:=ae []) (h:=fun hcl hlt=>?_)
 clear hlt
 simp only [bb,aF,cm,Nat.zero_div,Nat.zero_mod,Int.natCast_zero,yaf,zll] at lr ⊢
 simp only [go_sem]
 refine ⟨?_,by repeat first|exact .refl _|refine .push ?_ _,hcl,lr⟩
 simp [wk,wk2,wk1,wkL,wkM]
def wV:List AV→AHeap→(AV→Prop)→Prop
 |[.agg l],_,K=>∃ r:SReq,l=aF r∧K (bb (cC 6 r))
 |_,_,_=>False
theorem qw:EntOk Tryz.prog 131 (Ent.pure wV):=by
 refine Ype fun _ H K h=>?_
 unfold wV at h
 split at h
 rotate_left
 ·exact h.elim
 rename_i l
 obtain ⟨r,rfl,hK⟩:=h
 refine ⟨_,hK,?_⟩
 clear hK
 rw [show cC 6 r={ cm with port:=r.port,data:=r.data } from rfl]
 have lr:=dN (n:=H.nx) ({ cm with port:=r.port,data:=r.data })
 refine ACalls.fW ah tNq Tryz.func131 [.cell 2 41] (nrq _) (T:=ae []) (h:=fun hcl hlt=>?_)
 clear hlt
 simp only [bb,aF,cm,Nat.zero_div,Nat.zero_mod,Int.natCast_zero,yaf,zll] at lr ⊢
 simp only [go_sem]
 refine ⟨?_,by repeat first|exact .refl _|refine .push ?_ _,hcl,lr⟩
 simp [wk,wk2,wk1,wkL,wkM]
def BP:List AV→AHeap→(AEnd→AHeap→Prop)→Prop
 |[.ptr id 0,.agg l],H,K=>∃ q b wr r,(WOn H id q b wr∧l=aF r∧ROk r∧b.length≤1000)∧K (.ret (.tup [])) (wrH H id q (b++cd 1 r) (wr||eI 1 r))
 |_,_,_=>False
theorem tZ:EntOk Tryz.prog 114 (Ent.effect BP):=by
 refine EntOk.effect fun args H K h=>?_
 unfold BP at h
 split at h
 rotate_left
 ·exact h.elim
 rename_i id l
 obtain ⟨q,b,wr,r,⟨hW,rfl,hr,hb⟩,hK⟩:=h
 refine ⟨_,_,hK,?_⟩
 clear hK
 have hid:=glq hW.o
 have hq:=glq hW.bu
 have iv:=ga hr.el
 have lv:=cM hr.el
 have ln:=fun n w=>bW n w
 have lb:=iB r.data
 refine ACalls.fW ah (tCq ip (tCq BK tNq)) Tryz.func114 [] (by rw [bC];omega) (T:=ae []) (h:=fun hcl hlt=>?_)
 clear hlt
 have hcl1:=hW.closed (b':=b++cd 1 r) (wr':=wr||eI 1 r) hcl
 simp only [go_sem,byq,aF,cx,iw,fm]
 refine ⟨q,b,wr,(hW).push _,?_⟩
 rw [cN ?_ ?_]
 rotate_left
 ·exact hid
 ·exact hq
 have hl1:(b++aa r.role 2).length≤67000:=by simp only [lAq] at *;have:=ln r.role 2;omega
 have hW1:WOn (wrH H id q (b++aa r.role 2) (wr||!rg r.role 2)) id q (b++aa r.role 2) (wr||!rg r.role 2):=hW.next (by omega)
 simp only [go_sem,byq,bC,aF,cx,iw,fm]
 refine ⟨q,(b++aa r.role 2),(wr||!rg r.role 2),⟨(hW1).push _,of_eq_true iv⟩,?_⟩
 rw [cN ?_ ?_]
 rotate_left
 ·exact hid
 ·exact hq
 try simp only [iNq,dr]
 rw [bP hW.ne]
 have hl2:((b++aa r.role 2)++bx r.el).length≤133000:=by simp only [lAq] at *;have:=lv;omega
 try simp only [iNq,dr]
 try simp only [iNq,dr]
 try simp only [go_sem,byq,bC]
 have eb:b++cd 1 r=((b++aa r.role 2)++bx r.el):=by
  show b++(aa r.role 2++bx r.el)=_
  simp [List.append_assoc]
 have ew:(wr||eI 1 r)=(wr||!rg r.role 2):=by
  show (wr||(!rg r.role 2))=_
  simp [Bool.or_assoc]
 rw [eb,ew] at hcl1 ⊢
 skip
 refine ⟨?_,by repeat first|exact .refl _|refine .push ?_ _,hcl1,?_⟩
 ·simp [wk,wk2,wk1,ak]
 ·simp [zns,znv]
def Bc:List AV→AHeap→(AEnd→AHeap→Prop)→Prop
 |[.ptr id 0,.agg l],H,K=>∃ q b wr r,(WOn H id q b wr∧l=aF r∧ROk r∧b.length≤1000)∧K (.ret (.tup [])) (wrH H id q (b++cd 2 r) (wr||eI 2 r))
 |_,_,_=>False
theorem sF:EntOk Tryz.prog 119 (Ent.effect Bc):=by
 refine EntOk.effect fun args H K h=>?_
 unfold Bc at h
 split at h
 rotate_left
 ·exact h.elim
 rename_i id l
 obtain ⟨q,b,wr,r,⟨hW,rfl,hr,hb⟩,hK⟩:=h
 refine ⟨_,_,hK,?_⟩
 clear hK
 have hid:=glq hW.o
 have hq:=glq hW.bu
 have iv:=ga hr.el
 have lv:=cM hr.el
 have ln:=fun n w=>bW n w
 have lb:=iB r.data
 refine ACalls.fW ah tNq Tryz.func119 [] (by rw [bC];omega) (T:=ae []) (h:=fun hcl hlt=>?_)
 clear hlt
 have hcl1:=hW.closed (b':=b++cd 2 r) (wr':=wr||eI 2 r) hcl
 simp only [go_sem,byq,aF,cx,iw,fm]
 try simp only [iNq,dr]
 try simp only [go_sem,byq,bC]
 have eb:b++cd 2 r=b:=by
  show b++(([]:List UInt8))=_
  simp [List.append_assoc]
 have ew:(wr||eI 2 r)=wr:=by
  show (wr||(false))=_
  simp [Bool.or_assoc]
 rw [eb,ew] at hcl1 ⊢
 rw [Dq hW] at hcl1 ⊢
 refine ⟨?_,by repeat first|exact .refl _|refine .push ?_ _,hcl1,?_⟩
 ·simp [wk,wk2,wk1,ak]
 ·simp [zns,znv]
def Bu:List AV→AHeap→(AEnd→AHeap→Prop)→Prop
 |[.ptr id 0,.agg l],H,K=>∃ q b wr r,(WOn H id q b wr∧l=aF r∧ROk r∧b.length≤1000)∧K (.ret (.tup [])) (wrH H id q (b++cd 4 r) (wr||eI 4 r))
 |_,_,_=>False
theorem uf:EntOk Tryz.prog 126 (Ent.effect Bu):=by
 refine EntOk.effect fun args H K h=>?_
 unfold Bu at h
 split at h
 rotate_left
 ·exact h.elim
 rename_i id l
 obtain ⟨q,b,wr,r,⟨hW,rfl,hr,hb⟩,hK⟩:=h
 refine ⟨_,_,hK,?_⟩
 clear hK
 have hid:=glq hW.o
 have hq:=glq hW.bu
 have iv:=ga hr.el
 have lv:=cM hr.el
 have ln:=fun n w=>bW n w
 have lb:=iB r.data
 refine ACalls.fW ah (tCq ip tNq) Tryz.func126 [] (by rw [bC];omega) (T:=ae []) (h:=fun hcl hlt=>?_)
 clear hlt
 have hcl1:=hW.closed (b':=b++cd 4 r) (wr':=wr||eI 4 r) hcl
 simp only [go_sem,byq,aF,cx,iw,fm]
 refine ⟨q,b,wr,(hW).push _,?_⟩
 rw [cN ?_ ?_]
 rotate_left
 ·exact hid
 ·exact hq
 have hl1:(b++aa r.role 2).length≤67000:=by simp only [lAq] at *;have:=ln r.role 2;omega
 have hW1:WOn (wrH H id q (b++aa r.role 2) (wr||!rg r.role 2)) id q (b++aa r.role 2) (wr||!rg r.role 2):=hW.next (by omega)
 simp only [go_sem,byq,bC,aF,cx,iw,fm]
 refine ⟨q,(b++aa r.role 2),(wr||!rg r.role 2),(hW1).push _,?_⟩
 rw [cN ?_ ?_]
 rotate_left
 ·exact hid
 ·exact hq
 rw [bP hW.ne]
 have hl2:((b++aa r.role 2)++aa r.table 2).length≤133000:=by simp only [lAq] at *;have:=ln r.table 2;omega
 try simp only [iNq,dr]
 try simp only [go_sem,byq,bC]
 have eb:b++cd 4 r=((b++aa r.role 2)++aa r.table 2):=by
  show b++(aa r.role 2++aa r.table 2)=_
  simp [List.append_assoc]
 have ew:(wr||eI 4 r)=((wr||!rg r.role 2)||!rg r.table 2):=by
  show (wr||(!rg r.role 2||!rg r.table 2))=_
  simp [Bool.or_assoc]
 rw [eb,ew] at hcl1 ⊢
 skip
 refine ⟨?_,by repeat first|exact .refl _|refine .push ?_ _,hcl1,?_⟩
 ·simp [wk,wk2,wk1,ak]
 ·simp [zns,znv]
def Bs:List AV→AHeap→(AEnd→AHeap→Prop)→Prop
 |[.ptr id 0,.agg l],H,K=>∃ q b wr r,(WOn H id q b wr∧l=aF r∧ROk r∧b.length≤1000)∧K (.ret (.tup [])) (wrH H id q (b++cd 5 r) (wr||eI 5 r))
 |_,_,_=>False
theorem t9:EntOk Tryz.prog 129 (Ent.effect Bs):=by
 refine EntOk.effect fun args H K h=>?_
 unfold Bs at h
 split at h
 rotate_left
 ·exact h.elim
 rename_i id l
 obtain ⟨q,b,wr,r,⟨hW,rfl,hr,hb⟩,hK⟩:=h
 refine ⟨_,_,hK,?_⟩
 clear hK
 have hid:=glq hW.o
 have hq:=glq hW.bu
 have iv:=ga hr.el
 have lv:=cM hr.el
 have ln:=fun n w=>bW n w
 have lb:=iB r.data
 refine ACalls.fW ah (tCq ip tNq) Tryz.func129 [] (by rw [bC];omega) (T:=ae []) (h:=fun hcl hlt=>?_)
 clear hlt
 have hcl1:=hW.closed (b':=b++cd 5 r) (wr':=wr||eI 5 r) hcl
 simp only [go_sem,byq,aF,cx,iw,fm]
 refine ⟨q,b,wr,(hW).push _,?_⟩
 rw [cN ?_ ?_]
 rotate_left
 ·exact hid
 ·exact hq
 have hl1:(b++aa r.role 2).length≤67000:=by simp only [lAq] at *;have:=ln r.role 2;omega
 have hW1:WOn (wrH H id q (b++aa r.role 2) (wr||!rg r.role 2)) id q (b++aa r.role 2) (wr||!rg r.role 2):=hW.next (by omega)
 simp only [go_sem,byq,bC,aF,cx,iw,fm]
 refine ⟨q,(b++aa r.role 2),(wr||!rg r.role 2),(hW1).push _,?_⟩
 rw [cN ?_ ?_]
 rotate_left
 ·exact hid
 ·exact hq
 rw [bP hW.ne]
 have hl2:((b++aa r.role 2)++aa r.frm 4).length≤133000:=by simp only [lAq] at *;have:=ln r.frm 4;omega
 have hW2:WOn (wrH H id q ((b++aa r.role 2)++aa r.frm 4) ((wr||!rg r.role 2)||!rg r.frm 4)) id q ((b++aa r.role 2)++aa r.frm 4) ((wr||!rg r.role 2)||!rg r.frm 4):=hW.next (by omega)
 simp only [go_sem,byq,bC,aF,cx,iw,fm]
 refine ⟨q,((b++aa r.role 2)++aa r.frm 4),((wr||!rg r.role 2)||!rg r.frm 4),(hW2).push _,?_⟩
 rw [cN ?_ ?_]
 rotate_left
 ·exact hid
 ·exact hq
 rw [bP hW.ne]
 have hl3:(((b++aa r.role 2)++aa r.frm 4)++aa r.count 2).length≤199000:=by simp only [lAq] at *;have:=ln r.count 2;omega
 try simp only [iNq,dr]
 try simp only [go_sem,byq,bC]
 have eb:b++cd 5 r=(((b++aa r.role 2)++aa r.frm 4)++aa r.count 2):=by
  show b++(aa r.role 2++aa r.frm 4++aa r.count 2)=_
  simp [List.append_assoc]
 have ew:(wr||eI 5 r)=(((wr||!rg r.role 2)||!rg r.frm 4)||!rg r.count 2):=by
  show (wr||(!rg r.role 2||!rg r.frm 4||!rg r.count 2))=_
  simp [Bool.or_assoc]
 rw [eb,ew] at hcl1 ⊢
 skip
 refine ⟨?_,by repeat first|exact .refl _|refine .push ?_ _,hcl1,?_⟩
 ·simp [wk,wk2,wk1,ak]
 ·simp [zns,znv]
def Bq:List AV→AHeap→(AEnd→AHeap→Prop)→Prop
 |[.ptr id 0,.agg l],H,K=>∃ q b wr r,(WOn H id q b wr∧l=aF r∧ROk r∧b.length≤1000)∧K (.ret (.tup [])) (wrH H id q (b++cd 6 r) (wr||eI 6 r))
 |_,_,_=>False
theorem ui:EntOk Tryz.prog 132 (Ent.effect Bq):=by
 refine EntOk.effect fun args H K h=>?_
 unfold Bq at h
 split at h
 rotate_left
 ·exact h.elim
 rename_i id l
 obtain ⟨q,b,wr,r,⟨hW,rfl,hr,hb⟩,hK⟩:=h
 refine ⟨_,_,hK,?_⟩
 clear hK
 have hid:=glq hW.o
 have hq:=glq hW.bu
 have iv:=ga hr.el
 have lv:=cM hr.el
 have ln:=fun n w=>bW n w
 have lb:=iB r.data
 refine ACalls.fW ah (tCq Bw (tCq ip tNq)) Tryz.func132 [] (by rw [bC];omega) (T:=ae []) (h:=fun hcl hlt=>?_)
 clear hlt
 have hcl1:=hW.closed (b':=b++cd 6 r) (wr':=wr||eI 6 r) hcl
 simp only [go_sem,byq,aF,cx,iw,fm]
 refine ⟨q,b,wr,(hW).push _,?_⟩
 rw [cN ?_ ?_]
 rotate_left
 ·exact hid
 ·exact hq
 have hl1:(b++aa r.port 2).length≤67000:=by simp only [lAq] at *;have:=ln r.port 2;omega
 have hW1:WOn (wrH H id q (b++aa r.port 2) (wr||!rg r.port 2)) id q (b++aa r.port 2) (wr||!rg r.port 2):=hW.next (by omega)
 simp only [go_sem,byq,bC,aF,cx,iw,fm]
 refine ⟨q,(b++aa r.port 2),(wr||!rg r.port 2),r.data,⟨(hW1).push _,rfl⟩,?_⟩
 rw [cN ?_ ?_]
 rotate_left
 ·exact hid
 ·exact hq
 rw [bP hW.ne]
 have hl2:((b++aa r.port 2)++ge r.data).length≤133000:=by simp only [lAq] at *;have:=lb;omega
 try simp only [iNq,dr]
 try simp only [go_sem,byq,bC]
 have eb:b++cd 6 r=((b++aa r.port 2)++ge r.data):=by
  show b++(aa r.port 2++ge r.data)=_
  simp [List.append_assoc]
 have ew:(wr||eI 6 r)=(wr||!rg r.port 2):=by
  show (wr||(!rg r.port 2))=_
  simp [Bool.or_assoc]
 rw [eb,ew] at hcl1 ⊢
 skip
 refine ⟨?_,by repeat first|exact .refl _|refine .push ?_ _,hcl1,?_⟩
 ·simp [wk,wk2,wk1,ak]
 ·simp [zns,znv]
end Go.AL
