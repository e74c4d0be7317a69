/- Contracts and plain laws, a part of the proof; no condition of its own. -/
import Derived.Test.YthpglnacipgolaaGreatCL
import Derived.Test.YthpglnacipgolaaGreatS10e
open List renaming nil_append → yak, cons_append → yal, length_cons → yaz, length_nil → yba, take_of_length_le → ybc, drop_append → ybd, take_append → ybe, drop_eq_nil_of_le → ybf, take_zero → yar
open Go Go.AL Go.Proofs
namespace Go.AL
set_option linter.all false
set_option maxRecDepth 10000
theorem ti_swrt:ti Tryz.prog 131=some ⟨.struct [(0,32,false),(1,4,false),(2,4,false),(3,4,false)],4,32,.agg [.slice .nil 1 [],.bool false,.bool false,.bool false]⟩:=by kernel_rfl
theorem ti_pswrt:ti Tryz.prog 134=some ⟨.ptr 131,1,8,.nilp⟩:=by kernel_rfl
attribute [go_sem] ti_swrt ti_pswrt
/-- a number in so many bytes -/
def rg (n w:Int):Bool:=decide (0≤n∧n<256^w.toNat)
theorem isV_of {x:Nat} (h:x<2^128):isV ((x/2^64:Nat):Int) ((x % 2^64:Nat):Int)=True:=eq_true (by unfold isV;omega)
theorem getD_map {α:Type} {f:α→AV} {l:List α} {k:Nat} {x:α} (hx:l[k]?=some x):(l.map f).getD k .junk=f x:=by
  simp [List.getD_eq_getElem?_getD,hx]
/-- bytes that are written, and what is wrong: too long, a byte of a text, a number -/
structure Enc where
  b:List UInt8
  l:Bool
  f:Bool
  a:Bool
def Enc.add (x y:Enc):Enc:=⟨x.b++y.b,x.l||y.l,x.f||y.f,x.a||y.a⟩
def enc0:Enc:=⟨[],false,false,false⟩
theorem enc_assoc (x y z:Enc):(x.add y).add z=x.add (y.add z):=by simp [Enc.add,List.append_assoc,Bool.or_assoc]
theorem enc_add0 (x:Enc):x.add enc0=x:=by simp [Enc.add,enc0]
theorem enc_0add (x:Enc):enc0.add x=x:=by simp [Enc.add,enc0]
theorem enc_len (x y:Enc):(x.add y).b.length=x.b.length+y.b.length:=List.length_append
def badC (c:UInt8):Bool:=decide ((c.toNat:Int)<32)||decide ((c.toNat:Int) > 126)
def eNum (n w:Int):Enc:=⟨wUint n w,false,false,!rg n w⟩
def eTxt (s:List UInt8) (most:Int):Enc:=⟨wBytes s,decide ((s.length:Int) > most),s.any badC,false⟩
def eVal (v:Nat):Enc:=⟨wValue v,false,false,false⟩
def eTru (x:Bool):Enc:=⟨[if x then 1 else 0],false,false,false⟩
def eCnt (n:Nat) (most:Int):Enc:=⟨wUint (n:Int) 2,decide ((n:Int) > most),false,false⟩
def eAll {α:Type} (g:α→Enc):List α→Enc
  | []=>enc0
  | x::l=>(g x).add (eAll g l)
theorem eAll_app {α:Type} (g:α→Enc):∀ l k:List α,eAll g (l++k)=(eAll g l).add (eAll g k)
  | [],k=>by rw [yak,eAll,enc_0add]
  | x::l,k=>by rw [yal,eAll,eAll,eAll_app g l k,enc_assoc]
theorem eAll_snoc {α:Type} (g:α→Enc) (l:List α) (x:α):eAll g (l++[x])=(eAll g l).add (g x):=by
  rw [eAll_app,eAll,eAll,enc_add0]
theorem eAll_take {α:Type} (g:α→Enc) (l:List α) (k:Nat):(eAll g (l.take k)).b.length≤(eAll g l).b.length:=by
  have h:=eAll_app g (l.take k) (l.drop k)
  rw [List.take_append_drop] at h
  rw [h,enc_len];omega
def eList {α:Type} (g:α→Enc) (most:Int) (l:List α):Enc:=(eCnt l.length most).add (eAll g l)
/-- such a writer in memory -/
structure SOn (H:AHeap) (id q:Nat) (s:Enc):Prop where
  o:H.get id=some (.cells [.slice (.own q) 1 (bys s.b),.bool s.l,.bool s.f,.bool s.a])
  bu:H.get q=some (.buf 1 s.b.length)
def swH (H:AHeap) (id q:Nat) (s:Enc):AHeap:=(H.set q (.buf 1 s.b.length)).set id (.cells [.slice (.own q) 1 (bys s.b),.bool s.l,.bool s.f,.bool s.a])
theorem SOn.ne {H:AHeap} {id q:Nat} {s:Enc} (h:SOn H id q s):id≠q:=fun e=>by
  have h1:=h.o
  rw [e,h.bu] at h1;cases h1
theorem SOn.closed {H:AHeap} {id q:Nat} {s:Enc} (h:SOn H id q s) (hc:H.Closed) (t:Enc):(swH H id q t).Closed:=by
  refine closed_set (closed_set_buf hc) ?_
  have hq:=AHeap.get_lt h.bu
  simp only [zno,znp,and_true,zkz,zmm,zna]
  intro i e;cases e;exact hq
theorem SOn.next {H:AHeap} {id q:Nat} {s:Enc} (h:SOn H id q s) (t:Enc):SOn (swH H id q t) id q t:=by
  have h1:=AHeap.get_lt h.o
  have h2:=AHeap.get_lt h.bu
  unfold swH
  refine ⟨?_,?_⟩
  · rw [AHeap.get_set_same _ _ (by rw [zkz];exact h1)]
  · rw [AHeap.get_set_ne _ _ (fun e=>h.ne e.symm),AHeap.get_set_same _ _ h2]
theorem swH_swH {H:AHeap} {id q:Nat} {s t:Enc} (h:id≠q):swH (swH H id q s) id q t=swH H id q t:=by
  unfold swH AHeap.set
  dsimp only
  congr 1
  funext j
  by_cases h1:j=id
  · simp [h1]
  · by_cases h2:j=q<;>simp [h1,h2]
theorem swH_nx {H:AHeap} {id q:Nat} {s:Enc}:(swH H id q s).nx=H.nx:=rfl
theorem SOn.push {H:AHeap} {id q:Nat} {s:Enc} (h:SOn H id q s) (x:AObj):SOn (H.push x) id q s :=
  ⟨by rw [AHeap.get_push_lt _ _ (AHeap.get_lt h.o)];exact h.o,by rw [AHeap.get_push_lt _ _ (AHeap.get_lt h.bu)];exact h.bu⟩
theorem swH_push {H:AHeap} {id q:Nat} {s:Enc} {x:AObj} (h1:id<H.nx) (h2:q<H.nx):swH (H.push x) id q s=(swH H id q s).push x:=by
  unfold swH AHeap.set AHeap.push
  dsimp only
  congr 1
  funext j
  by_cases e1:j=id
  · have:id≠H.nx:=by omega
    simp [e1,this]
  · by_cases e2:j=q
    · have:q≠H.nx:=by omega
      simp [e1,e2,this]
    · simp [e1,e2]
theorem swH_cells {H:AHeap} {id q j:Nat} {s:Enc} (h1:j≠id) (h2:j≠q):cellsOf? (swH H id q s) j=cellsOf? H j:=by
  unfold cellsOf? swH
  rw [AHeap.get_set_ne _ _ h1,AHeap.get_set_ne _ _ h2]
def e_zNum:List AV→AHeap→(AEnd→AHeap→Prop)→Prop
  | [.ptr id 0,.int .i64 n,.int .i64 w],H,K=>∃ q s,(SOn H id q s∧(w=1∨w=2)∧s.b.length≤100000000000000)∧K (.ret (.tup [])) (swH H id q (s.add (eNum n w)))
  | _,_,_=>False
theorem rg_neg {n w:Int} (h:n<0):rg n w=false:=decide_eq_false fun h'=>by omega
theorem rg_1 {n:Int} (h:¬ n<0):(!rg n 1)=decide (n ≥ 256):=by
  unfold rg
  by_cases h':n<256
  · rw [decide_eq_true (by exact ⟨by omega,h'⟩),decide_eq_false (by omega)];rfl
  · rw [decide_eq_false (fun x=>h' x.2),decide_eq_true (by omega)];rfl
theorem rg_2 {n:Int} (h:¬ n<0):(!rg n 2)=decide (n ≥ 65536):=by
  unfold rg
  by_cases h':n<65536
  · rw [decide_eq_true (by exact ⟨by omega,h'⟩),decide_eq_false (by omega)];rfl
  · rw [decide_eq_false (fun x=>h' x.2),decide_eq_true (by omega)];rfl
set_option maxHeartbeats 4000000 in
theorem ok_zNum:EntOk Tryz.prog 55 (Ent.effect e_zNum):=by
  refine EntOk.effect fun args H K h=>?_
  unfold e_zNum at h
  split at h
  rotate_left
  · exact h.elim
  rename_i id n w
  obtain ⟨q,s,⟨hW,hw,hl⟩,hK⟩:=h
  refine ⟨_,_,hK,?_⟩
  clear hK
  have hcl0:=hW.closed (t:=s.add (eNum n w))
  obtain ⟨b,sl,sf,sa⟩:=s
  simp only [Enc.add,eNum,Bool.or_false] at hcl0 ⊢
  have l1:=wUint_len n w
  dsimp only at hl
  have hid:=AHeap.get_lt hW.o
  have hq:=AHeap.get_lt hW.bu
  have hne:=far_of hid
  have hneq:=far_of hq
  have n1:(id=q)=False:=eq_false hW.ne
  have n2:(q=id)=False:=eq_false fun e=>hW.ne e.symm
  have hcs:=cells_some hW.o
  have hb0:=hW.bu
  have hi0:=hW.o
  have hnn:=hW.ne
  dsimp only at hcs hb0 hi0
  refine ACalls.of_aw (Ω:=[(175,Ent.pure p_AppendUint)]) (T:=assoc [(1,[[],[],[],[],[],[],[],[],[4,7],[],[],[4,7]])]) mixed (TblOk.cons ok_AppendUint TblOk.nil) Tryz.func55 (by kernel_rfl) (by rfl) (rs:=[]) (by rfl) (by kernel_rfl) (by simp only [Tryz.ntmps55,yaz,yba];decide) (by unfold swH;simp only [zkz];omega) fun hcl hlt=>?_
  change aw _ _ _ (KI Tryz.prog [(175,Ent.pure p_AppendUint)] (aEnd Tryz.prog [] H.nx _ _ (assoc [(1,[[],[],[],[],[],[],[],[],[4,7],[],[],[4,7]])])) []) _ _
  clear hlt
  have hcl1:=hcl0 hcl
  have hcm:=fun cs=>@cells_set_same H id cs hid
  have hA:∀ X Y,cellsOf? ((H.set id (.cells X)).set q Y) id=some X:=fun X Y=>by
    unfold cellsOf?;rw [AHeap.get_set_ne _ _ hnn,AHeap.get_set_same _ _ hid]
  have hB:∀ X,(H.set id X).get q=some (.buf 1 b.length):=fun X=>by rw [AHeap.get_set_ne _ _ (fun e=>hnn e.symm)];exact hb0
  have eh:∀ X Y Z,((H.set id X).set q Y).set id Z=(H.set q Y).set id Z:=fun X Y Z=>by
    unfold AHeap.set;congr 1;funext j;dsimp only;by_cases h1:j=id<;>simp [h1]
  unfold swH at hcl1 ⊢
  dsimp only at hcl1 ⊢
  have hlb:(b++wUint n w).length=b.length+(wUint n w).length:=List.length_append
  have s1:IntKind.u64.wrap (IntKind.i64.wrap 8)=8:=by decide
  have s2:ishl .i64 1 8=256:=by decide
  have s3:IntKind.u64.wrap (IntKind.i64.wrap 16)=16:=by decide
  have s4:ishl .i64 1 16=65536:=by decide
  cases sa
  · by_cases h0:n<0
    · have d0:decide (n<0)=true:=decide_eq_true h0
      rw [rg_neg h0,Bool.not_false,Bool.or_true] at hcl1 ⊢
      simp only [go_sem,byq,d0,hne,hneq,n1,n2,hcs,hcm,hA,hB,eh,hi0,hb0,p_AppendUint,Bool.false_or] at hcl1 ⊢
      (repeat with_reducible refine And.intro (by first | assumption | decide | omega | exact ⟨by omega,by omega⟩) ?_)
      rw [hlb] at hcl1
      simp (disch:=first | assumption | omega | (simp;done) | (simp;omega) | (simp only [bt,and_true];first | done | omega | (simp;done))) [↓zmi,beq,ybc,ybd,ybe,endOk,wk,wk2,wk1,wkM,wkL,wkLL,ybf,hcl1,hlb]
    · have d0:decide (n<0)=false:=decide_eq_false h0
      rcases hw with rfl | rfl
      · rw [rg_1 h0,Bool.false_or] at hcl1 ⊢
        simp only [go_sem,byq,d0,s1,s2,hne,hneq,n1,n2,hcs,hcm,hA,hB,eh,hi0,hb0,p_AppendUint,Bool.false_or] at hcl1 ⊢
        (repeat with_reducible refine And.intro (by first | assumption | decide | omega | exact ⟨by omega,by omega⟩) ?_)
        rw [hlb] at hcl1
        simp (disch:=first | assumption | omega | (simp;done) | (simp;omega) | (simp only [bt,and_true];first | done | omega | (simp;done))) [↓zmi,beq,ybc,ybd,ybe,endOk,wk,wk2,wk1,wkM,wkL,wkLL,ybf,hcl1,hlb]
      · rw [rg_2 h0,Bool.false_or] at hcl1 ⊢
        simp only [go_sem,byq,d0,s3,s4,hne,hneq,n1,n2,hcs,hcm,hA,hB,eh,hi0,hb0,p_AppendUint,Bool.false_or] at hcl1 ⊢
        (repeat with_reducible refine And.intro (by first | assumption | decide | omega | exact ⟨by omega,by omega⟩) ?_)
        rw [hlb] at hcl1
        simp (disch:=first | assumption | omega | (simp;done) | (simp;omega) | (simp only [bt,and_true];first | done | omega | (simp;done))) [↓zmi,beq,ybc,ybd,ybe,endOk,wk,wk2,wk1,wkM,wkL,wkLL,ybf,hcl1,hlb]
  · simp only [go_sem,byq,hne,hneq,n1,n2,hcs,hcm,hA,hB,eh,hi0,hb0,p_AppendUint,Bool.true_or] at hcl1 ⊢
    (repeat with_reducible refine And.intro (by first | assumption | decide | omega | exact ⟨by omega,by omega⟩) ?_)
    rw [hlb] at hcl1
    simp (disch:=first | assumption | omega | (simp;done) | (simp;omega) | (simp only [bt,and_true];first | done | omega | (simp;done))) [↓zmi,beq,ybc,ybd,ybe,endOk,wk,wk2,wk1,wkM,wkL,wkLL,ybf,hcl1,hlb]
end Go.AL


open Go Go.AL Go.Proofs
namespace Go.AL
set_option linter.all false
set_option maxRecDepth 10000

/-- the greatest length of an encoding here -/
def encMax:Nat:=100000000000000
theorem encMax_eq:encMax=100000000000000:=rfl
theorem enc_pre {x y:Enc} (h:(x.add y).b.length≤encMax):x.b.length≤encMax:=by rw [enc_len] at h;omega
theorem SOn.same {H:AHeap} {id q:Nat} {s:Enc} (h:SOn H id q s):swH H id q s=H:=by
  have h1:=set_same h.bu
  unfold swH
  rw [h1]
  exact set_same h.o
def e_zTru:List AV→AHeap→(AEnd→AHeap→Prop)→Prop
  | [.ptr id 0,.bool x],H,K=>∃ q s,(SOn H id q s∧(s.add (eTru x)).b.length≤encMax)∧K (.ret (.tup [])) (swH H id q (s.add (eTru x)))
  | _,_,_=>False
set_option maxHeartbeats 4000000 in
theorem ok_zTru:EntOk Tryz.prog 211 (Ent.effect e_zTru):=by
  refine EntOk.effect fun args H K h=>?_
  unfold e_zTru at h
  split at h
  rotate_left
  · exact h.elim
  rename_i id x
  obtain ⟨q,s,⟨hW,hl⟩,hK⟩:=h
  refine ⟨_,_,hK,?_⟩
  clear hK
  have hcl0:=hW.closed (t:=s.add (eTru x))
  rw [encMax_eq] at hl
  obtain ⟨b,sl,sf,sa⟩:=s
  simp only [Enc.add,eTru,Bool.or_false,List.length_append,List.length_singleton] at hcl0 hl ⊢
  have hid:=AHeap.get_lt hW.o
  have hq:=AHeap.get_lt hW.bu
  have hne:=far_of hid
  have hneq:=far_of hq
  have n1:(id=q)=False:=eq_false hW.ne
  have n2:(q=id)=False:=eq_false fun e=>hW.ne e.symm
  have hcs:=cells_some hW.o
  have hb0:=hW.bu
  have hi0:=hW.o
  have hnn:=hW.ne
  dsimp only at hcs hb0 hi0
  refine ACalls.of_aw (Ω:=[(223,Ent.pure p_AppendBool)]) (T:=assoc [(0,[[],[],[],[],[],[],[],[4,6],[],[],[4,6]])]) mixed (TblOk.cons ok_AppendBool TblOk.nil) Tryz.func211 (by kernel_rfl) (by rfl) (rs:=[]) (by rfl) (by kernel_rfl) (by simp only [Tryz.ntmps211,yaz,yba];decide) (by unfold swH;simp only [zkz];omega) fun hcl hlt=>?_
  change aw _ _ _ (KI Tryz.prog [(223,Ent.pure p_AppendBool)] (aEnd Tryz.prog [] H.nx _ _ (assoc [(0,[[],[],[],[],[],[],[],[4,6],[],[],[4,6]])])) []) _ _
  clear hlt
  have hcl1:=hcl0 hcl
  have hcm:=fun cs=>@cells_set_same H id cs hid
  have hA:∀ X Y,cellsOf? ((H.set id (.cells X)).set q Y) id=some X:=fun X Y=>by
    unfold cellsOf?;rw [AHeap.get_set_ne _ _ hnn,AHeap.get_set_same _ _ hid]
  have hA0:∀ Y,cellsOf? (H.set q Y) id=cellsOf? H id:=fun Y=>by
    unfold cellsOf?;rw [AHeap.get_set_ne _ _ hnn]
  have hB:∀ X,(H.set id X).get q=some (.buf 1 b.length):=fun X=>by rw [AHeap.get_set_ne _ _ (fun e=>hnn e.symm)];exact hb0
  have eh:∀ X Y Z,((H.set id X).set q Y).set id Z=(H.set q Y).set id Z:=fun X Y Z=>by
    unfold AHeap.set;congr 1;funext j;dsimp only;by_cases h1:j=id<;>simp [h1]
  unfold swH at hcl1 ⊢
  dsimp only at hcl1 ⊢
  simp only [go_sem,byq,hne,hneq,n1,n2,hcs,hcm,hA,hA0,hB,eh,hi0,hb0,p_AppendBool] at hcl1 ⊢
  (repeat with_reducible refine And.intro (by first | assumption | decide | omega | exact ⟨by omega,by omega⟩) ?_)
  simp (disch:=first | assumption | omega | (simp;done) | (simp;omega) | (simp only [bt,and_true];first | done | omega | (simp;done))) [↓zmi,beq,ybc,ybd,ybe,endOk,wk,wk2,wk1,wkM,wkL,wkLL,ybf,hcl1]
  first | done | exact hcl1 | simpa using hcl1
def e_zVal:List AV→AHeap→(AEnd→AHeap→Prop)→Prop
  | [.ptr id 0,.agg [.int .u64 hi,.int .u64 lo]],H,K=>∃ q s v,(SOn H id q s∧v<2^128∧hi=((v/2^64:Nat):Int)∧lo=((v % 2^64:Nat):Int)∧(s.add (eVal v)).b.length≤encMax)∧K (.ret (.tup [])) (swH H id q (s.add (eVal v)))
  | _,_,_=>False
set_option maxHeartbeats 4000000 in
theorem ok_zVal:EntOk Tryz.prog 310 (Ent.effect e_zVal):=by
  refine EntOk.effect fun args H K h=>?_
  unfold e_zVal at h
  split at h
  rotate_left
  · exact h.elim
  rename_i id hi lo
  obtain ⟨q,s,v,⟨hW,hv,rfl,rfl,hl⟩,hK⟩:=h
  refine ⟨_,_,hK,?_⟩
  clear hK
  have iv:=isV_of hv
  have hcl0:=hW.closed (t:=s.add (eVal v))
  rw [encMax_eq] at hl
  obtain ⟨b,sl,sf,sa⟩:=s
  simp only [Enc.add,eVal,Bool.or_false,List.length_append,List.length_singleton] at hcl0 hl ⊢
  have hid:=AHeap.get_lt hW.o
  have hq:=AHeap.get_lt hW.bu
  have hne:=far_of hid
  have hneq:=far_of hq
  have n1:(id=q)=False:=eq_false hW.ne
  have n2:(q=id)=False:=eq_false fun e=>hW.ne e.symm
  have hcs:=cells_some hW.o
  have hb0:=hW.bu
  have hi0:=hW.o
  have hnn:=hW.ne
  dsimp only at hcs hb0 hi0
  refine ACalls.of_aw (Ω:=[(330,Ent.pure p_AppendValue)]) (T:=assoc [(1,[[],[],[],[],[],[],[5],[4,5,6],[],[],[4,5,6]])]) mixed (TblOk.cons ok_AppendValue TblOk.nil) Tryz.func310 (by kernel_rfl) (by rfl) (rs:=[]) (by rfl) (by kernel_rfl) (by simp only [Tryz.ntmps310,yaz,yba];decide) (by unfold swH;simp only [zkz];omega) fun hcl hlt=>?_
  change aw _ _ _ (KI Tryz.prog [(330,Ent.pure p_AppendValue)] (aEnd Tryz.prog [] H.nx _ _ (assoc [(1,[[],[],[],[],[],[],[5],[4,5,6],[],[],[4,5,6]])])) []) _ _
  clear hlt
  have hcl1:=hcl0 hcl
  have hcm:=fun cs=>@cells_set_same H id cs hid
  have hA:∀ X Y,cellsOf? ((H.set id (.cells X)).set q Y) id=some X:=fun X Y=>by
    unfold cellsOf?;rw [AHeap.get_set_ne _ _ hnn,AHeap.get_set_same _ _ hid]
  have hA0:∀ Y,cellsOf? (H.set q Y) id=cellsOf? H id:=fun Y=>by
    unfold cellsOf?;rw [AHeap.get_set_ne _ _ hnn]
  have hB:∀ X,(H.set id X).get q=some (.buf 1 b.length):=fun X=>by rw [AHeap.get_set_ne _ _ (fun e=>hnn e.symm)];exact hb0
  have eh:∀ X Y Z,((H.set id X).set q Y).set id Z=(H.set q Y).set id Z:=fun X Y Z=>by
    unfold AHeap.set;congr 1;funext j;dsimp only;by_cases h1:j=id<;>simp [h1]
  unfold swH at hcl1 ⊢
  dsimp only at hcl1 ⊢
  simp only [go_sem,byq,hne,hneq,n1,n2,hcs,hcm,hA,hA0,hB,eh,hi0,hb0,p_AppendValue,iv,Int.toNat_natCast,vOf_back] at hcl1 ⊢
  (repeat with_reducible refine And.intro (by first | assumption | decide | omega | exact ⟨by omega,by omega⟩) ?_)
  simp (disch:=first | assumption | omega | (simp;done) | (simp;omega) | (simp only [bt,and_true];first | done | omega | (simp;done))) [↓zmi,beq,ybc,ybd,ybe,endOk,wk,wk2,wk1,wkM,wkL,wkLL,ybf,hcl1]
  first | done | exact hcl1 | simpa using hcl1
def e_zTxt:List AV→AHeap→(AEnd→AHeap→Prop)→Prop
  | [.ptr id 0,.str x,.int .i64 most],H,K=>∃ q s,(SOn H id q s∧x.length≤encMax∧(s.add (eTxt x most)).b.length≤encMax)∧K (.ret (.tup [])) (swH H id q (s.add (eTxt x most)))
  | _,_,_=>False
theorem any_take_succ {α:Type} {p:α→Bool} {l:List α} {k:Nat} (h:k<l.length):(l.take (k+1)).any p=((l.take k).any p||p l[k]):=by
  rw [List.take_succ_eq_append_getElem h,List.any_append,List.any_cons,List.any_nil,Bool.or_false]
def swC (q:Nat) (b:List UInt8) (l f a:Bool):List AV:=[.slice (.own q) 1 (bys b),.bool l,.bool f,.bool a]
set_option maxHeartbeats 8000000 in
theorem ok_zTxt:EntOk Tryz.prog 177 (Ent.effect e_zTxt):=by
  refine EntOk.effect fun args H K h=>?_
  unfold e_zTxt at h
  split at h
  rotate_left
  · exact h.elim
  rename_i id x most
  obtain ⟨q,s,⟨hW,hx,hl⟩,hK⟩:=h
  refine ⟨_,_,hK,?_⟩
  clear hK
  have hcl0:=fun t=>hW.closed (t:=t)
  rw [encMax_eq] at hl hx
  obtain ⟨b,sl,sf,sa⟩:=s
  simp only [Enc.add,eTxt,Bool.or_false,List.length_append] at hl ⊢
  have hid:=AHeap.get_lt hW.o
  have hq:=AHeap.get_lt hW.bu
  have hne:=far_of hid
  have hneq:=far_of hq
  have n1:(id=q)=False:=eq_false hW.ne
  have n2:(q=id)=False:=eq_false fun e=>hW.ne e.symm
  have hcs:=cells_some hW.o
  have hb0:=hW.bu
  have hi0:=hW.o
  have hnn:=hW.ne
  dsimp only at hcs hb0 hi0
  refine ACalls.of_aw (Ω:=[(305,Ent.pure p_AppendText)]) (T:=assoc [(6,[[],[],[],[],[],[],[],[4,6],[],[],[4,6]])]) mixed (TblOk.cons ok_AppendText TblOk.nil) Tryz.func177 (by kernel_rfl) (by rfl) (rs:=[]) (by rfl) (by kernel_rfl) (by simp only [Tryz.ntmps177,yaz,yba];decide) (by unfold swH;simp only [zkz];omega) fun hcl hlt=>?_
  change aw _ _ _ (KI Tryz.prog [(305,Ent.pure p_AppendText)] (aEnd Tryz.prog [] H.nx _ _ (assoc [(6,[[],[],[],[],[],[],[],[4,6],[],[],[4,6]])])) []) _ _
  clear hlt
  have hcl1:=fun t=>hcl0 t hcl
  have hcm:=fun cs=>@cells_set_same H id cs hid
  have hgm:=fun o=>@get_set_same' H id o hid
  have hA:∀ X Y,cellsOf? ((H.set id (.cells X)).set q Y) id=some X:=fun X Y=>by
    unfold cellsOf?;rw [AHeap.get_set_ne _ _ hnn,AHeap.get_set_same _ _ hid]
  have hB:∀ X,(H.set id X).get q=some (.buf 1 b.length):=fun X=>by rw [AHeap.get_set_ne _ _ (fun e=>hnn e.symm)];exact hb0
  have eh:∀ X Y Z,((H.set id X).set q Y).set id Z=(H.set q Y).set id Z:=fun X Y Z=>by
    unfold AHeap.set;congr 1;funext j;dsimp only;by_cases h1:j=id<;>simp [h1]
  have hclk:∀ L F,(H.set id (.cells (swC q b L F sa))).Closed:=fun L F=>by
    have:=hcl1 ⟨b,L,F,sa⟩
    unfold swH at this
    dsimp only at this
    rw [set_same hb0] at this
    exact this
  have hend:=hcl1 ⟨b++wBytes x,sl||decide ((x.length:Int) > most),sf||x.any badC,sa⟩
  have e0:(sf||(x.take 0).any badC)=sf:=by rw [yar,List.any_nil,Bool.or_false]
  have hL2:sl=true→(sl||decide ((x.length:Int) > most))=true:=fun h=>by rw [h,Bool.true_or]
  have hL3:sl=false→decide ((x.length:Int) > most)=(sl||decide ((x.length:Int) > most)):=fun h=>by rw [h,Bool.false_or]
  generalize (sl||decide ((x.length:Int) > most))=L at *
  cases sl
  · simp only [go_sem,byq,hne,hneq,n1,n2,hcs,hcm,hA,hB,eh,hi0,hb0,hL3 rfl]
    try (repeat with_reducible refine And.intro (by first | exact True.intro | decide | omega | (simp [zik,zgl,zgm,zgn,zgp,zgo,zgt];first | done | omega)) ?_)
    refine loop_introW (A:=Nat) (fun k=>[(0,.ptr id 0),(1,.str x),(22,.slice .any 1 (bys x)),(23,.int .i64 (x.length:Int)),(24,.int .i64 (k:Int))]) (fun k=>H.set id (.cells (swC q b L (sf||(x.take k).any badC) sa))) (fun k=>k≤x.length) (fun k=>x.length - k) 0 (by omega) ?_ fun k hk=>?_
    · rw [e0]
      refine ⟨by simp only [zkk,zkp,zkz,swH];omega,by repeat (first | exact AHeap.Le.refl _ | refine AHeap.Le.push ?_ _),hclk _ _,?_,?_⟩
      · simp [ltF,zkz,znh,zmz,znb,zmm]
        omega
      · simp [subW,wk2,wk1,wkM,Fr.get]
    simp only [go_sem]
    refine cond_split (fun hc=>?_) (fun hc=>?_)
    · have hk':k<x.length:=by simp at hc;omega
      have hg:=bys_get hk'
      have e5:IntKind.i64.wrap ((k:Int)+1)=((k+1:Nat):Int):=by rw [wrap_i64]<;>omega
      have ht:=any_take_succ (p:=badC) hk'
      have hgd:x.getD k 0=x[k]:=by simp [List.getD_eq_getElem?_getD,hk']
      rw [hgd] at hg
      have hT:(sf||(x.take (k+1)).any badC)=((sf||(x.take k).any badC)||badC x[k]):=by rw [ht,Bool.or_assoc]
      generalize (sf||(x.take k).any badC)=F at *
      generalize x[k]=c at *
      have hfin:∀ F',F'=(F||badC c)→F'=(sf||(x.take (k+1)).any badC):=fun F' h=>by rw [h,hT]
      cases F
      · by_cases hc1:(c.toNat:Int)<32
        · have d1:decide ((c.toNat:Int)<32)=true:=decide_eq_true hc1
          simp only [go_sem,byq,swC,hne,hneq,n1,n2,hcs,hcm,hA,hB,eh,hi0,hb0,Int.toNat_natCast,zle,hg,ofByte,d1,e5]
          (repeat with_reducible refine And.intro (by first | assumption | decide | omega | simp) ?_)
          refine ⟨k+1,by omega,by omega,by simp only [zkk,zkp,zkz,swH];omega,?_,hclk _ _,?_,?_⟩
          · rw [← hfin true (by simp [badC,d1])]
            repeat (first | exact AHeap.Le.refl _ | refine AHeap.Le.push ?_ _)
          · simp [ltF,zkz,znh,zmz,znb,zmm]
            omega
          · simp [subW,wk2,wk1,wkM,Fr.get]
        · have d1:decide ((c.toNat:Int)<32)=false:=decide_eq_false hc1
          simp only [go_sem,byq,swC,hne,hneq,n1,n2,hcs,hcm,hA,hB,eh,hi0,hb0,Int.toNat_natCast,zle,hg,ofByte,d1,e5]
          (repeat with_reducible refine And.intro (by first | assumption | decide | omega | simp) ?_)
          refine ⟨k+1,by omega,by omega,by simp only [zkk,zkp,zkz,swH];omega,?_,hclk _ _,?_,?_⟩
          · rw [← hfin _ (show decide ((c.toNat:Int) > 126)=_ by simp [badC,d1])]
            repeat (first | exact AHeap.Le.refl _ | refine AHeap.Le.push ?_ _)
          · simp [ltF,zkz,znh,zmz,znb,zmm]
            omega
          · simp [subW,wk2,wk1,wkM,Fr.get]
      · simp only [go_sem,byq,swC,hne,hneq,n1,n2,hcs,hcm,hA,hB,eh,hi0,hb0,Int.toNat_natCast,zle,hg,ofByte,e5]
        (repeat with_reducible refine And.intro (by first | assumption | decide | omega | simp) ?_)
        refine ⟨k+1,by omega,by omega,by simp only [zkk,zkp,zkz,swH];omega,?_,hclk _ _,?_,?_⟩
        · rw [← hfin true (by simp)]
          repeat (first | exact AHeap.Le.refl _ | refine AHeap.Le.push ?_ _)
        · simp [ltF,zkz,znh,zmz,znb,zmm]
          omega
        · simp [subW,wk2,wk1,wkM,Fr.get]
    · have hk':k=x.length:=by simp at hc;omega
      subst hk'
      rw [List.take_length]
      unfold swH at hend ⊢
      dsimp only at hend ⊢
      simp only [go_sem,byq,swC,hne,hneq,n1,n2,hcs,hcm,hA,hB,eh,hi0,hb0,p_AppendText] at hend ⊢
      (repeat with_reducible refine And.intro (by first | assumption | decide | omega | exact ⟨by omega,by omega⟩ | exact ⟨by omega,by omega,by omega⟩) ?_)
      rw [List.length_append] at hend
      simp (disch:=first | assumption | omega | (simp;done) | (simp;omega) | (simp only [bt,and_true];first | done | omega | (simp;done))) [↓zmi,beq,ybc,ybd,ybe,endOk,wk,wk2,wk1,wkM,wkL,wkLL,ybf,hend,List.length_append]
      first | done | exact hend | simpa using hend
  · obtain rfl:L=true:=hL2 rfl
    simp only [go_sem,byq,hne,hneq,n1,n2,hcs,hcm,hA,hB,eh,hi0,hb0]
    try (repeat with_reducible refine And.intro (by first | exact True.intro | decide | omega | (simp [zik,zgl,zgm,zgn,zgp,zgo,zgt];first | done | omega)) ?_)
    refine loop_introW (A:=Nat) (fun k=>[(0,.ptr id 0),(1,.str x),(22,.slice .any 1 (bys x)),(23,.int .i64 (x.length:Int)),(24,.int .i64 (k:Int))]) (fun k=>H.set id (.cells (swC q b true (sf||(x.take k).any badC) sa))) (fun k=>k≤x.length) (fun k=>x.length - k) 0 (by omega) ?_ fun k hk=>?_
    · rw [e0]
      refine ⟨by simp only [zkk,zkp,zkz,swH];omega,by repeat (first | exact AHeap.Le.refl _ | refine AHeap.Le.push ?_ _),hclk _ _,?_,?_⟩
      · simp [ltF,zkz,znh,zmz,znb,zmm]
        omega
      · simp [subW,wk2,wk1,wkM,Fr.get]
    simp only [go_sem]
    refine cond_split (fun hc=>?_) (fun hc=>?_)
    · have hk':k<x.length:=by simp at hc;omega
      have hg:=bys_get hk'
      have e5:IntKind.i64.wrap ((k:Int)+1)=((k+1:Nat):Int):=by rw [wrap_i64]<;>omega
      have ht:=any_take_succ (p:=badC) hk'
      have hgd:x.getD k 0=x[k]:=by simp [List.getD_eq_getElem?_getD,hk']
      rw [hgd] at hg
      have hT:(sf||(x.take (k+1)).any badC)=((sf||(x.take k).any badC)||badC x[k]):=by rw [ht,Bool.or_assoc]
      generalize (sf||(x.take k).any badC)=F at *
      generalize x[k]=c at *
      have hfin:∀ F',F'=(F||badC c)→F'=(sf||(x.take (k+1)).any badC):=fun F' h=>by rw [h,hT]
      cases F
      · by_cases hc1:(c.toNat:Int)<32
        · have d1:decide ((c.toNat:Int)<32)=true:=decide_eq_true hc1
          simp only [go_sem,byq,swC,hne,hneq,n1,n2,hcs,hcm,hA,hB,eh,hi0,hb0,Int.toNat_natCast,zle,hg,ofByte,d1,e5]
          (repeat with_reducible refine And.intro (by first | assumption | decide | omega | simp) ?_)
          refine ⟨k+1,by omega,by omega,by simp only [zkk,zkp,zkz,swH];omega,?_,hclk _ _,?_,?_⟩
          · rw [← hfin true (by simp [badC,d1])]
            repeat (first | exact AHeap.Le.refl _ | refine AHeap.Le.push ?_ _)
          · simp [ltF,zkz,znh,zmz,znb,zmm]
            omega
          · simp [subW,wk2,wk1,wkM,Fr.get]
        · have d1:decide ((c.toNat:Int)<32)=false:=decide_eq_false hc1
          simp only [go_sem,byq,swC,hne,hneq,n1,n2,hcs,hcm,hA,hB,eh,hi0,hb0,Int.toNat_natCast,zle,hg,ofByte,d1,e5]
          (repeat with_reducible refine And.intro (by first | assumption | decide | omega | simp) ?_)
          refine ⟨k+1,by omega,by omega,by simp only [zkk,zkp,zkz,swH];omega,?_,hclk _ _,?_,?_⟩
          · rw [← hfin _ (show decide ((c.toNat:Int) > 126)=_ by simp [badC,d1])]
            repeat (first | exact AHeap.Le.refl _ | refine AHeap.Le.push ?_ _)
          · simp [ltF,zkz,znh,zmz,znb,zmm]
            omega
          · simp [subW,wk2,wk1,wkM,Fr.get]
      · simp only [go_sem,byq,swC,hne,hneq,n1,n2,hcs,hcm,hA,hB,eh,hi0,hb0,Int.toNat_natCast,zle,hg,ofByte,e5]
        (repeat with_reducible refine And.intro (by first | assumption | decide | omega | simp) ?_)
        refine ⟨k+1,by omega,by omega,by simp only [zkk,zkp,zkz,swH];omega,?_,hclk _ _,?_,?_⟩
        · rw [← hfin true (by simp)]
          repeat (first | exact AHeap.Le.refl _ | refine AHeap.Le.push ?_ _)
        · simp [ltF,zkz,znh,zmz,znb,zmm]
          omega
        · simp [subW,wk2,wk1,wkM,Fr.get]
    · have hk':k=x.length:=by simp at hc;omega
      subst hk'
      rw [List.take_length]
      unfold swH at hend ⊢
      dsimp only at hend ⊢
      simp only [go_sem,byq,swC,hne,hneq,n1,n2,hcs,hcm,hA,hB,eh,hi0,hb0,p_AppendText] at hend ⊢
      (repeat with_reducible refine And.intro (by first | assumption | decide | omega | exact ⟨by omega,by omega⟩ | exact ⟨by omega,by omega,by omega⟩) ?_)
      rw [List.length_append] at hend
      simp (disch:=first | assumption | omega | (simp;done) | (simp;omega) | (simp only [bt,and_true];first | done | omega | (simp;done))) [↓zmi,beq,ybc,ybd,ybe,endOk,wk,wk2,wk1,wkM,wkL,wkLL,ybf,hend,List.length_append]
      first | done | exact hend | simpa using hend
end Go.AL


open Go Go.AL Go.Proofs
namespace Go.AL
set_option linter.all false
set_option maxRecDepth 10000

/-! ### What is written of each element -/
def eInt (n:Int):Enc:=eNum n 2
def eField (x:SField):Enc:=(eNum x.id 2).add ((eTxt x.name 24).add (eNum x.bits 1))
def eHeader (x:SHeader):Enc:=(eNum x.id 2).add ((eTxt x.name 24).add (eList eInt 32 x.fields))
def eCase (x:SCase):Enc:=(eVal x.value).add ((eVal x.mask).add (eNum x.next 2))
def eState (x:SState):Enc:=(eNum x.id 2).add ((eNum x.header 2).add ((eNum x.select 2).add ((eList eCase 6 x.cases).add (eNum x.dflt 2))))
def eParam (x:SParam):Enc:=(eTxt x.name 24).add (eNum x.bits 1)
def ePrim (x:SPrim):Enc:=(eNum x.op 1).add ((eNum x.dst 2).add ((eNum x.kind 1).add ((eNum x.n 2).add (eVal x.value))))
def eAction (x:SAction):Enc:=(eNum x.id 2).add ((eTxt x.name 24).add ((eList eParam 4 x.params).add ((eList ePrim 12 x.body).add (eTxt x.restr 400))))
def eKey (x:SKey):Enc:=(eTxt x.name 24).add ((eNum x.field 2).add (eNum x.kind 1))
def eTable (x:STable):Enc:=(eNum x.id 2).add ((eTxt x.name 24).add ((eList eKey 4 x.keys).add ((eList eInt 12 x.actions).add ((eNum x.dflt 2).add ((eList eVal 4 x.dargs).add ((eNum x.size 2).add (eTxt x.restr 400)))))))
def eStage (x:SStage):Enc:=(eNum x.table 2).add (eNum x.header 2)
def eGrant (x:SGrant):Enc:=(eNum x.table 2).add ((eTru x.read).add ((eTru x.write).add (eList eTru 4 x.keys)))
def eRole (x:SRole):Enc:=(eNum x.id 2).add ((eTxt x.name 24).add ((eList eGrant 8 x.grants).add ((eList eInt 12 x.actions).add ((eNum x.quota 2).add (eTru x.audit)))))
def eRef (x:SRef):Enc:=(eNum x.table 2).add ((eNum x.key 1).add ((eNum x.action 2).add ((eNum x.param 1).add ((eNum x.toTable 2).add (eNum x.toKey 1)))))
def ePacket (x:Sch):Enc:=(eList eField 32 x.fields).add ((eList eHeader 8 x.headers).add (eList eState 12 x.states))
def eSch (x:Sch):Enc:=(eNum x.maxBatch 2).add ((eNum x.budget 2).add ((ePacket x).add ((eList eAction 12 x.actions).add ((eList eTable 8 x.tables).add ((eList eStage 12 x.stages).add ((eList eRole 6 x.roles).add (eList eRef 8 x.refs)))))))
/-! ### What is asked of an element -/
def okTx (s:List UInt8):Prop:=s.length≤encMax
def okAny {α:Type} (_:α):Prop:=True
def okVal (v:Nat):Prop:=v<2^128
def okField (x:SField):Prop:=okTx x.name
def okHeader (x:SHeader):Prop:=okTx x.name
def okCase (x:SCase):Prop:=okVal x.value∧okVal x.mask
def okState (x:SState):Prop:=∀ c∈x.cases,okCase c
def okParam (x:SParam):Prop:=okTx x.name
def okPrim (x:SPrim):Prop:=okVal x.value
def okAction (x:SAction):Prop:=okTx x.name∧(∀ p∈x.params,okParam p)∧(∀ p∈x.body,okPrim p)∧okTx x.restr
def okKey (x:SKey):Prop:=okTx x.name
def okTable (x:STable):Prop:=okTx x.name∧(∀ k∈x.keys,okKey k)∧(∀ v∈x.dargs,okVal v)∧okTx x.restr
def okRole (x:SRole):Prop:=okTx x.name
structure OkSch (x:Sch):Prop where
  f:∀ a∈x.fields,okField a
  h:∀ a∈x.headers,okHeader a
  s:∀ a∈x.states,okState a
  a:∀ a∈x.actions,okAction a
  t:∀ a∈x.tables,okTable a
  r:∀ a∈x.roles,okRole a
/-! ### Each element takes a byte at least -/
theorem one_num {n w:Int} (h:w=1∨w=2):1≤(eNum n w).b.length:=by
  rcases h with rfl | rfl<;>simp [eNum,wUint,be_len]
theorem one_txt {s:List UInt8} {m:Int}:1≤(eTxt s m).b.length:=by
  unfold eTxt wBytes
  rw [List.length_append,be_len];omega
theorem one_val {v:Nat}:1≤(eVal v).b.length:=by simp [eVal,wValue]
theorem one_tru {x:Bool}:1≤(eTru x).b.length:=by simp [eTru]
theorem one_add {x y:Enc} (h:1≤x.b.length):1≤(x.add y).b.length:=by rw [enc_len];omega
theorem one_all {α:Type} {g:α→Enc} (h:∀ x,1≤(g x).b.length):∀ l:List α,l.length≤(eAll g l).b.length
  | []=>Nat.zero_le _
  | x::l=>by
    rw [eAll,enc_len,yaz]
    have:=h x
    have:=one_all h l
    omega
theorem one_eInt (n:Int):1≤(eInt n).b.length:=one_num (.inr rfl)
theorem one_field (x:SField):1≤(eField x).b.length:=one_add (one_num (.inr rfl))
theorem one_header (x:SHeader):1≤(eHeader x).b.length:=one_add (one_num (.inr rfl))
theorem one_case (x:SCase):1≤(eCase x).b.length:=one_add one_val
theorem one_state (x:SState):1≤(eState x).b.length:=one_add (one_num (.inr rfl))
theorem one_param (x:SParam):1≤(eParam x).b.length:=one_add one_txt
theorem one_prim (x:SPrim):1≤(ePrim x).b.length:=one_add (one_num (.inl rfl))
theorem one_action (x:SAction):1≤(eAction x).b.length:=one_add (one_num (.inr rfl))
theorem one_key (x:SKey):1≤(eKey x).b.length:=one_add one_txt
theorem one_table (x:STable):1≤(eTable x).b.length:=one_add (one_num (.inr rfl))
theorem one_stage (x:SStage):1≤(eStage x).b.length:=one_add (one_num (.inr rfl))
theorem one_grant (x:SGrant):1≤(eGrant x).b.length:=one_add (one_num (.inr rfl))
theorem one_role (x:SRole):1≤(eRole x).b.length:=one_add (one_num (.inr rfl))
theorem one_ref (x:SRef):1≤(eRef x).b.length:=one_add (one_num (.inr rfl))
theorem one_eVal (v:Nat):1≤(eVal v).b.length:=one_val
theorem one_eTru (x:Bool):1≤(eTru x).b.length:=one_tru
/-! ### Contracts of what writes an element, a list -/
def eW {α:Type} (c:α→AV) (ok:α→Prop) (g:α→Enc):List AV→AHeap→(AEnd→AHeap→Prop)→Prop
  | [.ptr id 0,x],H,K=>∃ q s a,(SOn H id q s∧x=c a∧ok a∧(s.add (g a)).b.length≤encMax)∧K (.ret (.tup [])) (swH H id q (s.add (g a)))
  | _,_,_=>False
def ePut {α:Type} (f sz:Nat) (c:α→AV) (ok:α→Prop) (g:α→Enc):List AV→AHeap→(AEnd→AHeap→Prop)→Prop
  | [.ptr id 0,.agg [.int .i64 most,.func (.func f') [] [],.func (.func r) [] []],.slice .any sz' xs],H,K=>∃ q s l,(SOn H id q s∧f'=f∧sz'=sz∧xs=l.map c∧(∀ a∈l,ok a)∧(s.add (eList g most l)).b.length≤encMax) ∧
      K (.ret (.tup [])) (swH H id q (s.add (eList g most l)))
  | _,_,_=>False
theorem w_num {id q:Nat} {H:AHeap} {s:Enc} {n w:Int} {K:AEnd→AHeap→Prop} (hw:w=1∨w=2) (h:SOn H id q s) (hl:(s.add (eNum n w)).b.length≤encMax) (hK:K (.ret (.tup [])) (swH H id q (s.add (eNum n w)))) :
    e_zNum [.ptr id 0,.int .i64 n,.int .i64 w] H K:=⟨q,s,⟨h,hw,enc_pre hl⟩,hK⟩
theorem w_txt {id q:Nat} {H:AHeap} {s:Enc} {x:List UInt8} {m:Int} {K:AEnd→AHeap→Prop} (hx:okTx x) (h:SOn H id q s) (hl:(s.add (eTxt x m)).b.length≤encMax) (hK:K (.ret (.tup [])) (swH H id q (s.add (eTxt x m)))) :
    e_zTxt [.ptr id 0,.str x,.int .i64 m] H K:=⟨q,s,⟨h,hx,hl⟩,hK⟩
theorem w_tru {id q:Nat} {H:AHeap} {s:Enc} {x:Bool} {K:AEnd→AHeap→Prop} (h:SOn H id q s) (hl:(s.add (eTru x)).b.length≤encMax) (hK:K (.ret (.tup [])) (swH H id q (s.add (eTru x)))) :
    e_zTru [.ptr id 0,.bool x] H K:=⟨q,s,⟨h,hl⟩,hK⟩
theorem w_val {id q:Nat} {H:AHeap} {s:Enc} {v:Nat} {K:AEnd→AHeap→Prop} (hv:okVal v) (h:SOn H id q s) (hl:(s.add (eVal v)).b.length≤encMax) (hK:K (.ret (.tup [])) (swH H id q (s.add (eVal v)))) :
    e_zVal [.ptr id 0,.agg [.int .u64 ((v/2^64:Nat):Int),.int .u64 ((v % 2^64:Nat):Int)]] H K:=⟨q,s,v,⟨h,hv,rfl,rfl,hl⟩,hK⟩
theorem w_el {α:Type} {c:α→AV} {ok:α→Prop} {g:α→Enc} {id q:Nat} {H:AHeap} {s:Enc} {a:α} {K:AEnd→AHeap→Prop} (ha:ok a) (h:SOn H id q s) (hl:(s.add (g a)).b.length≤encMax) (hK:K (.ret (.tup [])) (swH H id q (s.add (g a)))) :
    eW c ok g [.ptr id 0,c a] H K:=⟨q,s,a,⟨h,rfl,ha,hl⟩,hK⟩
theorem w_put {α:Type} {f sz r:Nat} {c:α→AV} {ok:α→Prop} {g:α→Enc} {id q:Nat} {H:AHeap} {s:Enc} {l:List α} {m:Int} {K:AEnd→AHeap→Prop} (ha:∀ a∈l,ok a) (h:SOn H id q s) (hl:(s.add (eList g m l)).b.length≤encMax) (hK:K (.ret (.tup [])) (swH H id q (s.add (eList g m l)))) :
    ePut f sz c ok g [.ptr id 0,.agg [.int .i64 m,.func (.func f) [] [],.func (.func r) [] []],.slice .any sz (l.map c)] H K:=⟨q,s,l,⟨h,rfl,rfl,rfl,ha,hl⟩,hK⟩
structure WFacts (H:AHeap) (id q:Nat):Prop where
  p0:∀ t x,swH (H.push x) id q t=(swH H id q t).push x
  p1:∀ s t x,swH ((swH H id q s).push x) id q t=(swH H id q t).push x
  p2:∀ s t x y,swH (((swH H id q s).push x).push y) id q t=((swH H id q t).push x).push y
  p3:∀ s t x y z,swH ((((swH H id q s).push x).push y).push z) id q t=(((swH H id q t).push x).push y).push z
  pp:∀ s t,swH (swH H id q s) id q t=swH H id q t
theorem SOn.facts {H:AHeap} {id q:Nat} {s:Enc} (h:SOn H id q s):WFacts H id q:=by
  have h1:=AHeap.get_lt h.o
  have h2:=AHeap.get_lt h.bu
  refine ⟨fun t x=>swH_push h1 h2,fun s t x=>?_,fun s t x y=>?_,fun s t x y z=>?_,fun s t=>swH_swH h.ne⟩
  · rw [swH_push (by exact h1) (by exact h2),swH_swH h.ne]
  · rw [swH_push (by rw [zky];exact Nat.lt_succ_of_lt h1) (by rw [zky];exact Nat.lt_succ_of_lt h2),swH_push (by exact h1) (by exact h2),swH_swH h.ne]
  · rw [swH_push (by rw [zky,zky];exact Nat.lt_succ_of_lt (Nat.lt_succ_of_lt h1)) (by rw [zky,zky];exact Nat.lt_succ_of_lt (Nat.lt_succ_of_lt h2)),
      swH_push (by rw [zky];exact Nat.lt_succ_of_lt h1) (by rw [zky];exact Nat.lt_succ_of_lt h2),swH_push (by exact h1) (by exact h2),swH_swH h.ne]
end Go.AL

