/- Contracts and plain laws, a part of the proof; no condition of its own. -/
import Derived.Test.YthpglnacipgolaaGreatS11r
open List renaming length_cons → yaz, length_nil → yba, take_of_length_le → ybc, drop_append → ybd, take_append → ybe, drop_eq_nil_of_le → ybf, cons_append → yal, nil_append → yak, length_map → ybb, map_nil → yaf
open Go Go.AL Go.Proofs
namespace Go.AL
set_option linter.all false
set_option maxRecDepth 10000
theorem ti_wrt:ti Tryz.prog 195=some ⟨.struct [(0,32,false),(1,4,false)],2,32,.agg [.slice .nil 1 [],.bool false]⟩:=by kernel_rfl
theorem ti_pwrt:ti Tryz.prog 266=some ⟨.ptr 195,1,8,.nilp⟩:=by kernel_rfl
attribute [go_sem] ti_wrt ti_pwrt
/-- a number in so many bytes -/
def rg (n w:Int):Bool:=decide (0≤n∧n<256^w.toNat)
def p_mRanged:List AV→AHeap→(AV→Prop)→Prop
  | [.int .i64 n,.int .i64 w],_,K=>(w=1∨w=2∨w=4)∧K (.bool (rg n w))
  | _,_,_=>False
theorem ok_mRanged:EntOk Tryz.prog 222 (Ent.pure p_mRanged):=by
  refine EntOk.pure fun args H K h=>?_
  unfold p_mRanged at h
  split at h
  rotate_left
  · exact h.elim
  rename_i n w
  obtain ⟨hw,hK⟩:=h
  refine ⟨_,hK,?_⟩
  clear hK
  by_cases h0:0≤n
  · have d0:decide (n ≥ 0)=true:=decide_eq_true h0
    rcases hw with rfl | rfl | rfl
    · have e:rg n 1=decide (n<256):=by unfold rg;rw [decide_eq_decide];exact ⟨fun h=>h.2,fun h=>⟨h0,h⟩⟩
      rw [e]
      have s1:IntKind.u64.wrap (IntKind.i64.wrap 8)=8:=by decide
      have s2:ishl .i64 1 8=256:=by decide
      refine ACalls.of_aw (Ω:=[]) (T:=assoc []) mixed TblOk.nil Tryz.func222 (by kernel_rfl) (by rfl) (rs:=[.tmp 4]) (by rfl) (by kernel_rfl) (by simp only [Tryz.ntmps222,yaz,yba];decide) (Nat.le_refl _) fun hcl hlt=>?_
      change aw _ _ _ (KI Tryz.prog [] (aEnd Tryz.prog [.tmp 4] H.nx _ _ (assoc [])) []) _ _
      clear hlt
      simp only [go_sem,d0,s1,s2]
      simp (disch:=first | assumption | omega | (simp;done) | (simp;omega) | (simp only [bt,and_true];first | done | omega | (simp;done))) [↓zlw,beq,ybc,ybd,ybe,endOk,wk,wk2,wk1,wkM,wkL,wkLL,ybf,hcl]
    · have e:rg n 2=decide (n<65536):=by unfold rg;rw [decide_eq_decide];exact ⟨fun h=>h.2,fun h=>⟨h0,h⟩⟩
      rw [e]
      have s1:IntKind.u64.wrap (IntKind.i64.wrap 16)=16:=by decide
      have s2:ishl .i64 1 16=65536:=by decide
      refine ACalls.of_aw (Ω:=[]) (T:=assoc []) mixed TblOk.nil Tryz.func222 (by kernel_rfl) (by rfl) (rs:=[.tmp 4]) (by rfl) (by kernel_rfl) (by simp only [Tryz.ntmps222,yaz,yba];decide) (Nat.le_refl _) fun hcl hlt=>?_
      change aw _ _ _ (KI Tryz.prog [] (aEnd Tryz.prog [.tmp 4] H.nx _ _ (assoc [])) []) _ _
      clear hlt
      simp only [go_sem,d0,s1,s2]
      simp (disch:=first | assumption | omega | (simp;done) | (simp;omega) | (simp only [bt,and_true];first | done | omega | (simp;done))) [↓zlw,beq,ybc,ybd,ybe,endOk,wk,wk2,wk1,wkM,wkL,wkLL,ybf,hcl]
    · have e:rg n 4=decide (n<4294967296):=by unfold rg;rw [decide_eq_decide];exact ⟨fun h=>h.2,fun h=>⟨h0,h⟩⟩
      rw [e]
      have s1:IntKind.u64.wrap (IntKind.i64.wrap 32)=32:=by decide
      have s2:ishl .i64 1 32=4294967296:=by decide
      refine ACalls.of_aw (Ω:=[]) (T:=assoc []) mixed TblOk.nil Tryz.func222 (by kernel_rfl) (by rfl) (rs:=[.tmp 4]) (by rfl) (by kernel_rfl) (by simp only [Tryz.ntmps222,yaz,yba];decide) (Nat.le_refl _) fun hcl hlt=>?_
      change aw _ _ _ (KI Tryz.prog [] (aEnd Tryz.prog [.tmp 4] H.nx _ _ (assoc [])) []) _ _
      clear hlt
      simp only [go_sem,d0,s1,s2]
      simp (disch:=first | assumption | omega | (simp;done) | (simp;omega) | (simp only [bt,and_true];first | done | omega | (simp;done))) [↓zlw,beq,ybc,ybd,ybe,endOk,wk,wk2,wk1,wkM,wkL,wkLL,ybf,hcl]
  · have d0:decide (n ≥ 0)=false:=decide_eq_false h0
    have e:rg n w=false:=decide_eq_false fun h=>h0 h.1
    rw [e]
    refine ACalls.of_aw (Ω:=[]) (T:=assoc []) mixed TblOk.nil Tryz.func222 (by kernel_rfl) (by rfl) (rs:=[.tmp 4]) (by rfl) (by kernel_rfl) (by simp only [Tryz.ntmps222,yaz,yba];decide) (Nat.le_refl _) fun hcl hlt=>?_
    change aw _ _ _ (KI Tryz.prog [] (aEnd Tryz.prog [.tmp 4] H.nx _ _ (assoc [])) []) _ _
    clear hlt
    simp only [go_sem,d0]
    simp (disch:=first | assumption | omega | (simp;done) | (simp;omega) | (simp only [bt,and_true];first | done | omega | (simp;done))) [↓zlw,beq,ybc,ybd,ybe,endOk,wk,wk2,wk1,wkM,wkL,wkLL,ybf,hcl]
/-- a writer in memory -/
structure WOn (H:AHeap) (id q:Nat) (b:List UInt8) (wr:Bool):Prop where
  o:H.get id=some (.cells [.slice (.own q) 1 (bys b),.bool wr])
  bu:H.get q=some (.buf 1 b.length)
  l:b.length≤10000000
def wrH (H:AHeap) (id q:Nat) (b:List UInt8) (wr:Bool):AHeap:=(H.set q (.buf 1 b.length)).set id (.cells [.slice (.own q) 1 (bys b),.bool wr])
theorem WOn.ne {H:AHeap} {id q:Nat} {b:List UInt8} {wr:Bool} (h:WOn H id q b wr):id≠q:=fun e=>by
  have h1:=h.o
  rw [e,h.bu] at h1;cases h1
theorem WOn.closed {H:AHeap} {id q:Nat} {b b':List UInt8} {wr wr':Bool} (h:WOn H id q b wr) (hc:H.Closed):(wrH H id q b' wr').Closed:=by
  refine closed_set (closed_set_buf hc) ?_
  have hq:=AHeap.get_lt h.bu
  simp only [znc,znd,and_true,zkn,zma,zmo]
  intro i e;cases e;exact hq
theorem WOn.next {H:AHeap} {id q:Nat} {b b':List UInt8} {wr wr':Bool} (h:WOn H id q b wr) (hl:b'.length≤10000000):WOn (wrH H id q b' wr') id q b' wr':=by
  have h1:=AHeap.get_lt h.o
  have h2:=AHeap.get_lt h.bu
  refine ⟨by unfold wrH;exact AHeap.get_set_same _ _ (by rw [zkn];exact h1),?_,hl⟩
  unfold wrH
  rw [AHeap.get_set_ne _ _ (fun e=>h.ne e.symm)]
  exact AHeap.get_set_same _ _ h2
theorem wrH_wrH {H:AHeap} {id q:Nat} {b b':List UInt8} {wr wr':Bool} (h:id≠q):wrH (wrH H id q b wr) id q b' wr'=wrH H id q b' wr':=by
  unfold wrH AHeap.set
  congr 1
  funext j
  dsimp only
  by_cases h1:j=id
  · simp [h1]
  · simp only [if_neg h1]
    by_cases h2:j=q
    · simp [h2]
    · simp [h2]
def e_wNum:List AV→AHeap→(AEnd→AHeap→Prop)→Prop
  | [.ptr id 0,.int .i64 n,.int .i64 w],H,K=>∃ q b wr,(WOn H id q b wr∧(w=1∨w=2∨w=4))∧K (.ret (.tup [])) (wrH H id q (b++wUint n w) (wr||!rg n w))
  | _,_,_=>False
set_option maxHeartbeats 2000000 in
theorem ok_wNum:EntOk Tryz.prog 81 (Ent.effect e_wNum):=by
  refine EntOk.effect fun args H K h=>?_
  unfold e_wNum at h
  split at h
  rotate_left
  · exact h.elim
  rename_i id n w
  obtain ⟨q,b,wr,⟨hW,hw⟩,hK⟩:=h
  refine ⟨_,_,hK,?_⟩
  clear hK
  have l1:=wUint_len n w
  have hl:=hW.l
  have hid:=AHeap.get_lt hW.o
  have hq:=AHeap.get_lt hW.bu
  have hne:=far_of hid
  have hneq:=far_of hq
  have n1:(id=q)=False:=eq_false hW.ne
  have n2:(q=id)=False:=eq_false fun e=>hW.ne e.symm
  have hcs:=cells_some hW.o
  have hb0:=hW.bu
  have hi0:=hW.o
  refine ACalls.of_aw (Ω:=[(222,Ent.pure p_mRanged),(175,Ent.pure p_AppendUint)]) (T:=assoc [(1,[[],[],[],[],[],[],[],[],[4,7],[],[],[4,7]])]) mixed (TblOk.cons ok_mRanged (TblOk.cons ok_AppendUint TblOk.nil)) Tryz.func81 (by kernel_rfl) (by rfl) (rs:=[]) (by rfl) (by kernel_rfl) (by simp only [Tryz.ntmps81,yaz,yba];decide) (by unfold wrH;simp only [zkn];omega) fun hcl hlt=>?_
  change aw _ _ _ (KI Tryz.prog [(222,Ent.pure p_mRanged),(175,Ent.pure p_AppendUint)] (aEnd Tryz.prog [] H.nx _ _ (assoc [(1,[[],[],[],[],[],[],[],[],[4,7],[],[],[4,7]])])) []) _ _
  clear hlt
  have hcl1:=hW.closed (b':=b++wUint n w) (wr':=wr||!rg n w) hcl
  have hcm:=fun cs=>@cells_set_same H id cs hid
  have hA:∀ X Y,cellsOf? ((H.set id (.cells X)).set q Y) id=some X:=fun X Y=>by
    unfold cellsOf?;rw [AHeap.get_set_ne _ _ hW.ne,AHeap.get_set_same _ _ hid]
  have hB:∀ X,(H.set id X).get q=some (.buf 1 b.length):=fun X=>by rw [AHeap.get_set_ne _ _ (fun e=>hW.ne e.symm)];exact hb0
  have eh:∀ X Y Z,((H.set id X).set q Y).set id Z=(H.set q Y).set id Z:=fun X Y Z=>by
    unfold AHeap.set;congr 1;funext j;dsimp only;by_cases h1:j=id<;>simp [h1]
  unfold wrH at hcl1 ⊢
  have hlb:(b++wUint n w).length=b.length+(wUint n w).length:=List.length_append
  cases wr
  · simp only [go_sem,byq,hne,hneq,n1,n2,hcs,hcm,hA,hB,eh,hi0,hb0,p_mRanged,p_AppendUint,Bool.false_or] at hcl1 ⊢
    refine ⟨hw,⟨by omega,by omega⟩,?_⟩
    rw [hlb] at hcl1
    simp (disch:=first | assumption | omega | (simp;done) | (simp;omega) | (simp only [bt,and_true];first | done | omega | (simp;done))) [↓zlw,beq,ybc,ybd,ybe,endOk,wk,wk2,wk1,wkM,wkL,wkLL,ybf,hcl1,hlb]
  · simp only [go_sem,byq,hne,hneq,n1,n2,hcs,hcm,hA,hB,eh,hi0,hb0,p_mRanged,p_AppendUint,Bool.true_or] at hcl1 ⊢
    refine ⟨⟨by omega,by omega⟩,?_⟩
    rw [hlb] at hcl1
    simp (disch:=first | assumption | omega | (simp;done) | (simp;omega) | (simp only [bt,and_true];first | done | omega | (simp;done))) [↓zlw,beq,ybc,ybd,ybe,endOk,wk,wk2,wk1,wkM,wkL,wkLL,ybf,hcl1,hlb]
end Go.AL


open Go Go.AL Go.Proofs
namespace Go.AL
set_option linter.all false
set_option maxRecDepth 10000
theorem ti_upd:ti Tryz.prog 255=some ⟨.struct [(0,3,false),(1,199,false)],6,80,.agg [.int .i64 0,.int .i64 0,.slice .nil 1 [],.int .i64 0,.int .i64 0,.slice .nil 1 []]⟩:=by kernel_rfl
theorem ti_supd:ti Tryz.prog 84=some ⟨.slice 255,1,24,.slice .nil 1 []⟩:=by kernel_rfl
attribute [go_sem] ti_upd ti_supd
def e_wVal:List AV→AHeap→(AEnd→AHeap→Prop)→Prop
  | [.ptr id 0,.agg [.int .u64 hi,.int .u64 lo]],H,K=>∃ q b wr,(WOn H id q b wr∧isV hi lo)∧K (.ret (.tup [])) (wrH H id q (b++wValue (vOf hi.toNat lo.toNat)) wr)
  | _,_,_=>False
set_option maxHeartbeats 2000000 in
theorem ok_wVal:EntOk Tryz.prog 259 (Ent.effect e_wVal):=by
  refine EntOk.effect fun args H K h=>?_
  unfold e_wVal at h
  split at h
  rotate_left
  · exact h.elim
  rename_i id hi lo
  obtain ⟨q,b,wr,⟨hW,hab⟩,hK⟩:=h
  refine ⟨_,_,hK,?_⟩
  clear hK
  obtain ⟨v,hv,rfl,rfl,ev⟩:=isV_out hab
  rw [ev]
  have iv:=isV_of hv
  have lB:=wValue_len hv
  have hl:=hW.l
  have hid:=AHeap.get_lt hW.o
  have hq:=AHeap.get_lt hW.bu
  have hne:=far_of hid
  have hneq:=far_of hq
  have n1:(id=q)=False:=eq_false hW.ne
  have n2:(q=id)=False:=eq_false fun e=>hW.ne e.symm
  have hcs:=cells_some hW.o
  have hb0:=hW.bu
  have hi0:=hW.o
  generalize hBB:wValue v=BB at *
  refine ACalls.of_aw (Ω:=[(330,Ent.pure p_AppendValue)]) (T:=assoc [(1,[[],[],[],[],[],[],[5],[4,5,6],[],[],[4,5,6]])]) mixed (TblOk.cons ok_AppendValue TblOk.nil) Tryz.func259 (by kernel_rfl) (by rfl) (rs:=[]) (by rfl) (by kernel_rfl) (by simp only [Tryz.ntmps259,yaz,yba];decide) (by unfold wrH;simp only [zkn];omega) fun hcl hlt=>?_
  change aw _ _ _ (KI Tryz.prog [(330,Ent.pure p_AppendValue)] (aEnd Tryz.prog [] H.nx _ _ (assoc [(1,[[],[],[],[],[],[],[5],[4,5,6],[],[],[4,5,6]])])) []) _ _
  clear hlt
  have hcl1:=hW.closed (b':=b++BB) (wr':=wr) hcl
  have hC:∀ Y,cellsOf? (H.set q Y) id=some [.slice (.own q) 1 (bys b),.bool wr]:=fun Y=>by
    unfold cellsOf?;rw [AHeap.get_set_ne _ _ hW.ne,hi0]
  unfold wrH at hcl1 ⊢
  have hlb:(b++BB).length=b.length+BB.length:=List.length_append
  simp only [go_sem,byq,hne,hneq,n1,n2,hcs,hC,hi0,hb0,p_AppendValue,iv,ev,Int.toNat_natCast,vOf_back,hBB] at hcl1 ⊢
  (repeat with_reducible refine And.intro (by first | assumption | decide | omega | exact ⟨by omega,by omega⟩) ?_)
  rw [hlb] at hcl1
  simp (disch:=first | assumption | omega | (simp;done) | (simp;omega) | (simp only [bt,and_true];first | done | omega | (simp;done))) [↓zlw,beq,ybc,ybd,ybe,endOk,wk,wk2,wk1,wkM,wkL,wkLL,ybf,hcl1,hlb]
  first | done | repeat (first | exact AHeap.Le.refl _ | refine AHeap.Le.push ?_ _)
def e_wTru:List AV→AHeap→(AEnd→AHeap→Prop)→Prop
  | [.ptr id 0,.bool x],H,K=>∃ q b wr,(WOn H id q b wr)∧K (.ret (.tup [])) (wrH H id q (b++([if x then 1 else 0]:List UInt8)) wr)
  | _,_,_=>False
set_option maxHeartbeats 2000000 in
theorem ok_wTru:EntOk Tryz.prog 82 (Ent.effect e_wTru):=by
  refine EntOk.effect fun args H K h=>?_
  unfold e_wTru at h
  split at h
  rotate_left
  · exact h.elim
  rename_i id x
  obtain ⟨q,b,wr,hW,hK⟩:=h
  refine ⟨_,_,hK,?_⟩
  clear hK
  have lB:([if x then 1 else 0]:List UInt8).length≤1:=by simp
  have hl:=hW.l
  have hid:=AHeap.get_lt hW.o
  have hq:=AHeap.get_lt hW.bu
  have hne:=far_of hid
  have hneq:=far_of hq
  have n1:(id=q)=False:=eq_false hW.ne
  have n2:(q=id)=False:=eq_false fun e=>hW.ne e.symm
  have hcs:=cells_some hW.o
  have hb0:=hW.bu
  have hi0:=hW.o
  generalize hBB:([if x then 1 else 0]:List UInt8)=BB at *
  refine ACalls.of_aw (Ω:=[(223,Ent.pure p_AppendBool)]) (T:=assoc [(0,[[],[],[],[],[],[],[],[4,6],[],[],[4,6]])]) mixed (TblOk.cons ok_AppendBool TblOk.nil) Tryz.func82 (by kernel_rfl) (by rfl) (rs:=[]) (by rfl) (by kernel_rfl) (by simp only [Tryz.ntmps82,yaz,yba];decide) (by unfold wrH;simp only [zkn];omega) fun hcl hlt=>?_
  change aw _ _ _ (KI Tryz.prog [(223,Ent.pure p_AppendBool)] (aEnd Tryz.prog [] H.nx _ _ (assoc [(0,[[],[],[],[],[],[],[],[4,6],[],[],[4,6]])])) []) _ _
  clear hlt
  have hcl1:=hW.closed (b':=b++BB) (wr':=wr) hcl
  have hC:∀ Y,cellsOf? (H.set q Y) id=some [.slice (.own q) 1 (bys b),.bool wr]:=fun Y=>by
    unfold cellsOf?;rw [AHeap.get_set_ne _ _ hW.ne,hi0]
  unfold wrH at hcl1 ⊢
  have hlb:(b++BB).length=b.length+BB.length:=List.length_append
  simp only [go_sem,byq,hne,hneq,n1,n2,hcs,hC,hi0,hb0,p_AppendBool,hBB] at hcl1 ⊢
  (repeat with_reducible refine And.intro (by first | assumption | decide | omega | exact ⟨by omega,by omega⟩) ?_)
  rw [hlb] at hcl1
  simp (disch:=first | assumption | omega | (simp;done) | (simp;omega) | (simp only [bt,and_true];first | done | omega | (simp;done))) [↓zlw,beq,ybc,ybd,ybe,endOk,wk,wk2,wk1,wkM,wkL,wkLL,ybf,hcl1,hlb]
  first | done | repeat (first | exact AHeap.Le.refl _ | refine AHeap.Le.push ?_ _)
def e_wByt:List AV→AHeap→(AEnd→AHeap→Prop)→Prop
  | [.ptr id 0,.slice _ 1 l],H,K=>∃ q b wr s,(WOn H id q b wr∧l=bys s)∧K (.ret (.tup [])) (wrH H id q (b++wBytes s) wr)
  | _,_,_=>False
set_option maxHeartbeats 2000000 in
theorem ok_wByt:EntOk Tryz.prog 85 (Ent.effect e_wByt):=by
  refine EntOk.effect fun args H K h=>?_
  unfold e_wByt at h
  split at h
  rotate_left
  · exact h.elim
  rename_i id m l
  obtain ⟨q,b,wr,s,⟨hW,rfl⟩,hK⟩:=h
  refine ⟨_,_,hK,?_⟩
  clear hK
  have lB:=wBytes_len s
  have hl:=hW.l
  have hid:=AHeap.get_lt hW.o
  have hq:=AHeap.get_lt hW.bu
  have hne:=far_of hid
  have hneq:=far_of hq
  have n1:(id=q)=False:=eq_false hW.ne
  have n2:(q=id)=False:=eq_false fun e=>hW.ne e.symm
  have hcs:=cells_some hW.o
  have hb0:=hW.bu
  have hi0:=hW.o
  generalize hBB:wBytes s=BB at *
  refine ACalls.of_aw (Ω:=[(226,Ent.pure p_AppendBytes)]) (T:=assoc [(0,[[],[],[],[],[],[],[],[4,6],[],[],[4,6]])]) mixed (TblOk.cons ok_AppendBytes TblOk.nil) Tryz.func85 (by kernel_rfl) (by rfl) (rs:=[]) (by rfl) (by kernel_rfl) (by simp only [Tryz.ntmps85,yaz,yba];decide) (by unfold wrH;simp only [zkn];omega) fun hcl hlt=>?_
  change aw _ _ _ (KI Tryz.prog [(226,Ent.pure p_AppendBytes)] (aEnd Tryz.prog [] H.nx _ _ (assoc [(0,[[],[],[],[],[],[],[],[4,6],[],[],[4,6]])])) []) _ _
  clear hlt
  have hcl1:=hW.closed (b':=b++BB) (wr':=wr) hcl
  have hC:∀ Y,cellsOf? (H.set q Y) id=some [.slice (.own q) 1 (bys b),.bool wr]:=fun Y=>by
    unfold cellsOf?;rw [AHeap.get_set_ne _ _ hW.ne,hi0]
  unfold wrH at hcl1 ⊢
  have hlb:(b++BB).length=b.length+BB.length:=List.length_append
  simp only [go_sem,byq,hne,hneq,n1,n2,hcs,hC,hi0,hb0,p_AppendBytes,hBB] at hcl1 ⊢
  (repeat with_reducible refine And.intro (by first | assumption | decide | omega | exact ⟨by omega,by omega⟩) ?_)
  rw [hlb] at hcl1
  simp (disch:=first | assumption | omega | (simp;done) | (simp;omega) | (simp only [bt,and_true];first | done | omega | (simp;done))) [↓zlw,beq,ybc,ybd,ybe,endOk,wk,wk2,wk1,wkM,wkL,wkLL,ybf,hcl1,hlb]
  first | done | repeat (first | exact AHeap.Le.refl _ | refine AHeap.Le.push ?_ _)
/-- where the first one stands -/
def idxL {α:Type} (p:α→Bool):List α→Nat→Int
  | [],_ => -1
  | x::l,k=>if p x=true then k else idxL p l (k+1)
theorem idxL_any {α:Type} (p:α→Bool):∀ (l:List α) (k:Nat),decide (idxL p l k ≥ 0)=l.any p
  | [],k=>by simp [idxL]
  | x::l,k=>by
    unfold idxL
    rw [List.any_cons]
    split
    · rename_i h;rw [h];simp
    · rename_i h;rw [idxL_any p l (k+1)];simp [h]
def rgM (m:SMatch):Bool:=rg m.pfx 1&&(m.present||decide (m=noMatch))
theorem teq_noMatch {m:SMatch}:teq Tryz.prog 9 367 (.agg (matchC m)) (.agg [.bool false,.int .u64 0,.int .u64 0,.int .u64 0,.int .u64 0,.int .i64 0,.int .u64 0,.int .u64 0])=some (decide (m=noMatch)):=by
  have h:=teq_matchV (m:=m) (n:=noMatch)
  generalize decide (m=noMatch)=R at *
  simp only [noMatch,Nat.zero_div,Nat.zero_mod,Int.natCast_zero] at h
  simpa only [matchC,vc,yal,yak] using h
def p_mBad:List AV→AHeap→(AV→Prop)→Prop
  | [.agg l],_,K=>∃ m:SMatch,(l=matchC m∧MOk m)∧K (.bool (!rgM m))
  | _,_,_=>False
set_option maxHeartbeats 2000000 in
theorem ok_mBad:EntOk Tryz.prog 328 (Ent.pure p_mBad):=by
  refine EntOk.pure fun args H K h=>?_
  unfold p_mBad at h
  split at h
  rotate_left
  · exact h.elim
  rename_i l
  obtain ⟨m,⟨rfl,hm⟩,hK⟩:=h
  refine ⟨_,hK,?_⟩
  clear hK
  have tm:=teq_noMatch (m:=m)
  by_cases h1:rg m.pfx 1=true
  · cases hp:m.present
    · have e:rgM m=decide (m=noMatch):=by unfold rgM;rw [h1,hp];simp
      rw [e]
      by_cases hn:m=noMatch
      · have dn:decide (m=noMatch)=true:=decide_eq_true hn
        rw [dn] at tm ⊢
        refine ACalls.of_aw (Ω:=[(222,Ent.pure p_mRanged)]) (T:=assoc []) mixed (TblOk.cons ok_mRanged TblOk.nil) Tryz.func328 (by kernel_rfl) (by rfl) (rs:=[.tmp 2]) (by rfl) (by kernel_rfl) (by simp only [Tryz.ntmps328,yaz,yba];decide) (Nat.le_refl _) fun hcl hlt=>?_
        change aw _ _ _ (KI Tryz.prog [(222,Ent.pure p_mRanged)] (aEnd Tryz.prog [.tmp 2] H.nx _ _ (assoc [])) []) _ _
        clear hlt
        simp only [matchC,vc,yal,yak,hp] at tm
        simp only [go_sem,matchC,vc,yal,yak,p_mRanged,h1,hp,tm,eqg_matchV,Bool.bne_true,Bool.bne_false]
        simp (disch:=first | assumption | omega | (simp;done) | (simp;omega) | (simp only [bt,and_true];first | done | omega | (simp;done))) [↓zlw,beq,ybc,ybd,ybe,endOk,wk,wk2,wk1,wkM,wkL,wkLL,ybf,hcl]
        first | done | repeat (first | exact AHeap.Le.refl _ | refine AHeap.Le.push ?_ _)
      · have dn:decide (m=noMatch)=false:=decide_eq_false hn
        rw [dn] at tm ⊢
        refine ACalls.of_aw (Ω:=[(222,Ent.pure p_mRanged)]) (T:=assoc []) mixed (TblOk.cons ok_mRanged TblOk.nil) Tryz.func328 (by kernel_rfl) (by rfl) (rs:=[.tmp 2]) (by rfl) (by kernel_rfl) (by simp only [Tryz.ntmps328,yaz,yba];decide) (Nat.le_refl _) fun hcl hlt=>?_
        change aw _ _ _ (KI Tryz.prog [(222,Ent.pure p_mRanged)] (aEnd Tryz.prog [.tmp 2] H.nx _ _ (assoc [])) []) _ _
        clear hlt
        simp only [matchC,vc,yal,yak,hp] at tm
        simp only [go_sem,matchC,vc,yal,yak,p_mRanged,h1,hp,tm,eqg_matchV,Bool.bne_true,Bool.bne_false]
        simp (disch:=first | assumption | omega | (simp;done) | (simp;omega) | (simp only [bt,and_true];first | done | omega | (simp;done))) [↓zlw,beq,ybc,ybd,ybe,endOk,wk,wk2,wk1,wkM,wkL,wkLL,ybf,hcl]
        first | done | repeat (first | exact AHeap.Le.refl _ | refine AHeap.Le.push ?_ _)
    · have e:rgM m=true:=by unfold rgM;rw [h1,hp];rfl
      rw [e]
      refine ACalls.of_aw (Ω:=[(222,Ent.pure p_mRanged)]) (T:=assoc []) mixed (TblOk.cons ok_mRanged TblOk.nil) Tryz.func328 (by kernel_rfl) (by rfl) (rs:=[.tmp 2]) (by rfl) (by kernel_rfl) (by simp only [Tryz.ntmps328,yaz,yba];decide) (Nat.le_refl _) fun hcl hlt=>?_
      change aw _ _ _ (KI Tryz.prog [(222,Ent.pure p_mRanged)] (aEnd Tryz.prog [.tmp 2] H.nx _ _ (assoc [])) []) _ _
      clear hlt
      simp only [go_sem,matchC,vc,yal,yak,p_mRanged,h1,hp]
      simp (disch:=first | assumption | omega | (simp;done) | (simp;omega) | (simp only [bt,and_true];first | done | omega | (simp;done))) [↓zlw,beq,ybc,ybd,ybe,endOk,wk,wk2,wk1,wkM,wkL,wkLL,ybf,hcl]
      first | done | repeat (first | exact AHeap.Le.refl _ | refine AHeap.Le.push ?_ _)
  · have h1':rg m.pfx 1=false:=by simpa using h1
    have e:rgM m=false:=by unfold rgM;rw [h1'];rfl
    rw [e]
    refine ACalls.of_aw (Ω:=[(222,Ent.pure p_mRanged)]) (T:=assoc []) mixed (TblOk.cons ok_mRanged TblOk.nil) Tryz.func328 (by kernel_rfl) (by rfl) (rs:=[.tmp 2]) (by rfl) (by kernel_rfl) (by simp only [Tryz.ntmps328,yaz,yba];decide) (Nat.le_refl _) fun hcl hlt=>?_
    change aw _ _ _ (KI Tryz.prog [(222,Ent.pure p_mRanged)] (aEnd Tryz.prog [.tmp 2] H.nx _ _ (assoc [])) []) _ _
    clear hlt
    simp only [go_sem,matchC,vc,yal,yak,p_mRanged,h1']
    simp (disch:=first | assumption | omega | (simp;done) | (simp;omega) | (simp only [bt,and_true];first | done | omega | (simp;done))) [↓zlw,beq,ybc,ybd,ybe,endOk,wk,wk2,wk1,wkM,wkL,wkLL,ybf,hcl]
    first | done | repeat (first | exact AHeap.Le.refl _ | refine AHeap.Le.push ?_ _)
/-- an update -/
def updC (u:Int × SEntry):List AV:=.int .i64 u.1::entryC u.2
def updAV (u:Int × SEntry):AV:=.agg (updC u)
theorem lt_upd {n:Nat} (x:Int × SEntry):AV.lt n (updAV x):=by
  have:=lt_entry (n:=n) x.2
  simp only [entryAV,zmz] at this
  simp only [updAV,updC,zmz,znc,zmn,true_and]
  exact this
def p_uBad:List AV→AHeap→(AV→Prop)→Prop
  | [.agg l],_,K=>∃ u:Int × SEntry,l=updC u∧K (.bool (decide (u.1<1)||decide (3<u.1)))
  | _,_,_=>False
theorem ok_uBad:EntOk Tryz.prog 256 (Ent.pure p_uBad):=by
  refine EntOk.pure fun args H K h=>?_
  unfold p_uBad at h
  split at h
  rotate_left
  · exact h.elim
  rename_i l
  obtain ⟨u,rfl,hK⟩:=h
  refine ⟨_,hK,?_⟩
  clear hK
  obtain ⟨k,e⟩:=u
  dsimp only
  by_cases h1:k<1
  · have d1:decide (k<1)=true:=decide_eq_true h1
    rw [d1,Bool.true_or]
    refine ACalls.of_aw (Ω:=[]) (T:=assoc []) mixed TblOk.nil Tryz.func256 (by kernel_rfl) (by rfl) (rs:=[.tmp 2]) (by rfl) (by kernel_rfl) (by simp only [Tryz.ntmps256,yaz,yba];decide) (Nat.le_refl _) fun hcl hlt=>?_
    change aw _ _ _ (KI Tryz.prog [] (aEnd Tryz.prog [.tmp 2] H.nx _ _ (assoc [])) []) _ _
    clear hlt
    simp only [go_sem,updC,entryC,d1]
    simp (disch:=first | assumption | omega | (simp;done) | (simp;omega) | (simp only [bt,and_true];first | done | omega | (simp;done))) [↓zlw,beq,ybc,ybd,ybe,endOk,wk,wk2,wk1,wkM,wkL,wkLL,ybf,hcl]
    first | done | repeat (first | exact AHeap.Le.refl _ | refine AHeap.Le.push ?_ _)
  · have d1:decide (k<1)=false:=decide_eq_false h1
    rw [d1,Bool.false_or]
    have d2:decide (k > 3)=decide (3<k):=rfl
    refine ACalls.of_aw (Ω:=[]) (T:=assoc []) mixed TblOk.nil Tryz.func256 (by kernel_rfl) (by rfl) (rs:=[.tmp 2]) (by rfl) (by kernel_rfl) (by simp only [Tryz.ntmps256,yaz,yba];decide) (Nat.le_refl _) fun hcl hlt=>?_
    change aw _ _ _ (KI Tryz.prog [] (aEnd Tryz.prog [.tmp 2] H.nx _ _ (assoc [])) []) _ _
    clear hlt
    simp only [go_sem,updC,entryC,d1,d2]
    simp (disch:=first | assumption | omega | (simp;done) | (simp;omega) | (simp only [bt,and_true];first | done | omega | (simp;done))) [↓zlw,beq,ybc,ybd,ybe,endOk,wk,wk2,wk1,wkM,wkL,wkLL,ybf,hcl]
    first | done | repeat (first | exact AHeap.Le.refl _ | refine AHeap.Le.push ?_ _)
def p_IdxM:List AV→AHeap→(AV→Prop)→Prop
  | [.slice _ 8 l,.func (.func 328) [] []],_,K=>∃ xs:List (SMatch),(l=xs.map matchAV∧xs.length≤140737488355328∧∀ x∈xs,MOk x)∧K (.int .i64 (idxL (fun m=>!rgM m) xs 0))
  | _,_,_=>False
set_option maxHeartbeats 2000000 in
theorem ok_IdxM:EntOk Tryz.prog 363 (Ent.pure p_IdxM):=by
  refine EntOk.pure fun args H K h=>?_
  unfold p_IdxM at h
  split at h
  rotate_left
  · exact h.elim
  rename_i m1 l
  obtain ⟨xs,⟨rfl,hl,hm⟩,hK⟩:=h
  refine ⟨_,hK,?_⟩
  clear hK
  obtain ⟨R,hR⟩:∃ R,idxL (fun m=>!rgM m) xs 0=R:=⟨_,rfl⟩
  rw [hR]
  refine ACalls.of_aw (Ω:=[(328,Ent.pure p_mBad)]) (T:=assoc []) mixed (TblOk.cons ok_mBad TblOk.nil) Tryz.func363 (by kernel_rfl) (by rfl) (rs:=[.tmp 4]) (by rfl) (by kernel_rfl) (by simp only [Tryz.ntmps363,yaz,yba];decide) (Nat.le_refl _) fun hcl hlt=>?_
  change aw _ _ _ (KI Tryz.prog [(328,Ent.pure p_mBad)] (aEnd Tryz.prog [.tmp 4] H.nx _ _ (assoc [])) []) _ _
  have hs1:=hlt (.slice m1 8 (xs.map matchAV)) (by simp)
  have hf:AV.lt H.nx (.func (.func 328) [] []):=hlt _ (by simp)
  clear hlt
  simp only [go_sem,ybb]
  refine loop_introW (A:=Nat) (fun k=>[(0,.slice m1 8 (xs.map matchAV)),(1,.func (.func 328) [] []),(7,.int .i64 (xs.length:Int)),(8,.int .i64 (k:Int))]) (fun _=>H) (fun k=>k≤xs.length∧idxL (fun m=>!rgM m) (xs.drop k) k=R) (fun k=>xs.length - k) 0 ⟨by omega,hR⟩ ?_ fun k hk=>?_
  · refine ⟨by simp only [zjy,zkd];omega,AHeap.Le.refl _,hcl,?_,?_⟩
    · simp only [ltF,zmn,and_true]
      exact ⟨hs1,hf⟩
    · simp [subW,wk2,wk1,wkM,Fr.get]
  obtain ⟨hk,hq⟩:=hk
  simp only [go_sem]
  refine cond_split (fun hc=>?_) (fun hc=>?_)
  · have hk':k<xs.length:=by simp at hc;omega
    obtain ⟨x,hx⟩:∃ x,x=xs[k]:=⟨_,rfl⟩
    have hd:xs.drop k=x::xs.drop (k+1):=by rw [hx];exact List.drop_eq_getElem_cons hk'
    have hg:=getD_map (f:=matchAV) (l:=xs) (k:=k) (x:=x) (by rw [List.getElem?_eq_getElem hk',hx])
    have e5:IntKind.i64.wrap ((k:Int)+1)=((k+1:Nat):Int):=by rw [wrap_i64]<;>omega
    have hmx:=hm x (by rw [hx];exact List.getElem_mem hk')
    rw [hd] at hq
    unfold idxL at hq
    have hgC:((xs.map matchAV).getD k .junk)=.agg (matchC x):=hg
    have htk:List.take 8 (matchC x)=matchC x:=rfl
    simp only [go_sem,Int.toNat_natCast,ybb,hgC,htk,p_mBad]
    refine ⟨by omega,Nat.le_refl 8,x,⟨rfl,hmx⟩,?_⟩
    refine cond_split (fun hb=>?_) (fun hb=>?_)
    · rw [if_pos hb] at hq
      rw [← hq]
      simp only [go_sem]
      simp (disch:=first | assumption | omega | (simp;done) | (simp;omega) | (simp only [bt,and_true];first | done | omega | (simp;done))) [↓zlw,beq,ybc,ybd,ybe,endOk,wk,wk2,wk1,wkM,wkL,wkLL,ybf,hcl]
    · rw [if_neg (by rw [hb];decide)] at hq
      simp only [go_sem,e5]
      refine ⟨k+1,⟨by omega,hq⟩,by omega,by omega,AHeap.Le.refl _,hcl,?_,?_⟩
      · simp only [ltF,zmn,and_true]
        exact ⟨hs1,hf⟩
      · simp [subW,wk2,wk1,wkM,Fr.get]
  · have hk':k=xs.length:=by simp at hc;omega
    subst hk'
    rw [List.drop_length] at hq
    rw [← hq]
    simp only [go_sem]
    simp (disch:=first | assumption | omega | (simp;done) | (simp;omega) | (simp only [bt,and_true];first | done | omega | (simp;done))) [↓zlw,beq,ybc,ybd,ybe,endOk,wk,wk2,wk1,wkM,wkL,wkLL,ybf,hcl,idxL]
def p_ConM:List AV→AHeap→(AV→Prop)→Prop
  | [.slice _ 8 l,.func (.func 328) [] []],_,K=>∃ xs:List (SMatch),(l=xs.map matchAV∧xs.length≤140737488355328∧∀ x∈xs,MOk x)∧K (.bool (xs.any (fun m=>!rgM m)))
  | _,_,_=>False
theorem ok_ConM:EntOk Tryz.prog 329 (Ent.pure p_ConM):=by
  refine EntOk.pure fun args H K h=>?_
  unfold p_ConM at h
  split at h
  rotate_left
  · exact h.elim
  rename_i m1 l
  obtain ⟨xs,⟨rfl,hl,hm⟩,hK⟩:=h
  refine ⟨_,hK,?_⟩
  clear hK
  refine ACalls.of_aw (Ω:=[(363,Ent.pure p_IdxM)]) (T:=assoc []) mixed (TblOk.cons ok_IdxM TblOk.nil) Tryz.func329 (by kernel_rfl) (by rfl) (rs:=[.tmp 4]) (by rfl) (by kernel_rfl) (by simp only [Tryz.ntmps329,yaz,yba];decide) (Nat.le_refl _) fun hcl hlt=>?_
  change aw _ _ _ (KI Tryz.prog [(363,Ent.pure p_IdxM)] (aEnd Tryz.prog [.tmp 4] H.nx _ _ (assoc [])) []) _ _
  clear hlt
  simp only [go_sem,p_IdxM]
  refine ⟨xs,⟨rfl,hl,hm⟩,?_⟩
  simp only [go_sem,idxL_any]
  simp (disch:=first | assumption | omega | (simp;done) | (simp;omega) | (simp only [bt,and_true];first | done | omega | (simp;done))) [↓zlw,beq,ybc,ybd,ybe,endOk,wk,wk2,wk1,wkM,wkL,wkLL,ybf,hcl]
def p_IdxU:List AV→AHeap→(AV→Prop)→Prop
  | [.slice _ 6 l,.func (.func 256) [] []],_,K=>∃ xs:List (Int × SEntry),(l=xs.map updAV∧xs.length≤140737488355328)∧K (.int .i64 (idxL (fun u=>decide (u.1<1)||decide (3<u.1)) xs 0))
  | _,_,_=>False
set_option maxHeartbeats 2000000 in
theorem ok_IdxU:EntOk Tryz.prog 334 (Ent.pure p_IdxU):=by
  refine EntOk.pure fun args H K h=>?_
  unfold p_IdxU at h
  split at h
  rotate_left
  · exact h.elim
  rename_i m1 l
  obtain ⟨xs,⟨rfl,hl⟩,hK⟩:=h
  refine ⟨_,hK,?_⟩
  clear hK
  obtain ⟨R,hR⟩:∃ R,idxL (fun u=>decide (u.1<1)||decide (3<u.1)) xs 0=R:=⟨_,rfl⟩
  rw [hR]
  refine ACalls.of_aw (Ω:=[(256,Ent.pure p_uBad)]) (T:=assoc []) mixed (TblOk.cons ok_uBad TblOk.nil) Tryz.func334 (by kernel_rfl) (by rfl) (rs:=[.tmp 4]) (by rfl) (by kernel_rfl) (by simp only [Tryz.ntmps334,yaz,yba];decide) (Nat.le_refl _) fun hcl hlt=>?_
  change aw _ _ _ (KI Tryz.prog [(256,Ent.pure p_uBad)] (aEnd Tryz.prog [.tmp 4] H.nx _ _ (assoc [])) []) _ _
  have hs1:=hlt (.slice m1 6 (xs.map updAV)) (by simp)
  have hf:AV.lt H.nx (.func (.func 256) [] []):=hlt _ (by simp)
  clear hlt
  simp only [go_sem,ybb]
  refine loop_introW (A:=Nat) (fun k=>[(0,.slice m1 6 (xs.map updAV)),(1,.func (.func 256) [] []),(7,.int .i64 (xs.length:Int)),(8,.int .i64 (k:Int))]) (fun _=>H) (fun k=>k≤xs.length∧idxL (fun u=>decide (u.1<1)||decide (3<u.1)) (xs.drop k) k=R) (fun k=>xs.length - k) 0 ⟨by omega,hR⟩ ?_ fun k hk=>?_
  · refine ⟨by simp only [zjy,zkd];omega,AHeap.Le.refl _,hcl,?_,?_⟩
    · simp only [ltF,zmn,and_true]
      exact ⟨hs1,hf⟩
    · simp [subW,wk2,wk1,wkM,Fr.get]
  obtain ⟨hk,hq⟩:=hk
  simp only [go_sem]
  refine cond_split (fun hc=>?_) (fun hc=>?_)
  · have hk':k<xs.length:=by simp at hc;omega
    obtain ⟨x,hx⟩:∃ x,x=xs[k]:=⟨_,rfl⟩
    have hd:xs.drop k=x::xs.drop (k+1):=by rw [hx];exact List.drop_eq_getElem_cons hk'
    have hg:=getD_map (f:=updAV) (l:=xs) (k:=k) (x:=x) (by rw [List.getElem?_eq_getElem hk',hx])
    have e5:IntKind.i64.wrap ((k:Int)+1)=((k+1:Nat):Int):=by rw [wrap_i64]<;>omega

    rw [hd] at hq
    unfold idxL at hq
    have hgC:((xs.map updAV).getD k .junk)=.agg (updC x):=hg
    have htk:List.take 6 (updC x)=updC x:=rfl
    simp only [go_sem,Int.toNat_natCast,ybb,hgC,htk,p_uBad]
    refine ⟨by omega,Nat.le_refl 6,x,rfl,?_⟩
    refine cond_split (fun hb=>?_) (fun hb=>?_)
    · rw [if_pos hb] at hq
      rw [← hq]
      simp only [go_sem]
      simp (disch:=first | assumption | omega | (simp;done) | (simp;omega) | (simp only [bt,and_true];first | done | omega | (simp;done))) [↓zlw,beq,ybc,ybd,ybe,endOk,wk,wk2,wk1,wkM,wkL,wkLL,ybf,hcl]
    · rw [if_neg (by rw [hb];decide)] at hq
      simp only [go_sem,e5]
      refine ⟨k+1,⟨by omega,hq⟩,by omega,by omega,AHeap.Le.refl _,hcl,?_,?_⟩
      · simp only [ltF,zmn,and_true]
        exact ⟨hs1,hf⟩
      · simp [subW,wk2,wk1,wkM,Fr.get]
  · have hk':k=xs.length:=by simp at hc;omega
    subst hk'
    rw [List.drop_length] at hq
    rw [← hq]
    simp only [go_sem]
    simp (disch:=first | assumption | omega | (simp;done) | (simp;omega) | (simp only [bt,and_true];first | done | omega | (simp;done))) [↓zlw,beq,ybc,ybd,ybe,endOk,wk,wk2,wk1,wkM,wkL,wkLL,ybf,hcl,idxL]
def p_ConU:List AV→AHeap→(AV→Prop)→Prop
  | [.slice _ 6 l,.func (.func 256) [] []],_,K=>∃ xs:List (Int × SEntry),(l=xs.map updAV∧xs.length≤140737488355328)∧K (.bool (xs.any (fun u=>decide (u.1<1)||decide (3<u.1))))
  | _,_,_=>False
theorem ok_ConU:EntOk Tryz.prog 255 (Ent.pure p_ConU):=by
  refine EntOk.pure fun args H K h=>?_
  unfold p_ConU at h
  split at h
  rotate_left
  · exact h.elim
  rename_i m1 l
  obtain ⟨xs,⟨rfl,hl⟩,hK⟩:=h
  refine ⟨_,hK,?_⟩
  clear hK
  refine ACalls.of_aw (Ω:=[(334,Ent.pure p_IdxU)]) (T:=assoc []) mixed (TblOk.cons ok_IdxU TblOk.nil) Tryz.func255 (by kernel_rfl) (by rfl) (rs:=[.tmp 4]) (by rfl) (by kernel_rfl) (by simp only [Tryz.ntmps255,yaz,yba];decide) (Nat.le_refl _) fun hcl hlt=>?_
  change aw _ _ _ (KI Tryz.prog [(334,Ent.pure p_IdxU)] (aEnd Tryz.prog [.tmp 4] H.nx _ _ (assoc [])) []) _ _
  clear hlt
  simp only [go_sem,p_IdxU]
  refine ⟨xs,⟨rfl,hl⟩,?_⟩
  simp only [go_sem,idxL_any]
  simp (disch:=first | assumption | omega | (simp;done) | (simp;omega) | (simp only [bt,and_true];first | done | omega | (simp;done))) [↓zlw,beq,ybc,ybd,ybe,endOk,wk,wk2,wk1,wkM,wkL,wkLL,ybf,hcl]
end Go.AL


open Go Go.AL Go.Proofs
namespace Go.AL
set_option linter.all false
set_option maxRecDepth 10000

def rgE (e:SEntry):Bool:=rg e.table 2&&(rg e.prio 2&&(rg e.act 2&&(decide (e.ms.length≤4)&&(decide (e.args.length≤4)&&e.ms.all rgM))))
theorem any_not {α:Type} (p:α→Bool) (l:List α):(!l.any fun x=>!p x)=l.all p:=by
  induction l with
  | nil=>rfl
  | cons x l ih=>simp only [List.any_cons,List.all_cons,Bool.not_or,Bool.not_not,ih]
def p_mInR:List AV→AHeap→(AV→Prop)→Prop
  | [.agg l],_,K=>∃ e:SEntry,(l=entryC e∧COk e)∧K (.bool (rgE e))
  | _,_,_=>False
set_option maxHeartbeats 4000000 in
theorem ok_mInR:EntOk Tryz.prog 224 (Ent.pure p_mInR):=by
  refine EntOk.pure fun args H K h=>?_
  unfold p_mInR at h
  split at h
  rotate_left
  · exact h.elim
  rename_i l
  obtain ⟨e,⟨rfl,he⟩,hK⟩:=h
  refine ⟨_,hK,?_⟩
  clear hK
  cases h0:rg e.table 2
  · rw [show rgE e=false by unfold rgE;simp only [h0,Bool.false_and,Bool.and_false,Bool.true_and]]
    refine ACalls.of_aw (Ω:=[(222,Ent.pure p_mRanged),(329,Ent.pure p_ConM)]) (T:=assoc []) mixed (TblOk.cons ok_mRanged (TblOk.cons ok_ConM TblOk.nil)) Tryz.func224 (by kernel_rfl) (by rfl) (rs:=[.tmp 2]) (by rfl) (by kernel_rfl) (by simp only [Tryz.ntmps224,yaz,yba];decide) (Nat.le_refl _) fun hcl hlt=>?_
    change aw _ _ _ (KI Tryz.prog [(222,Ent.pure p_mRanged),(329,Ent.pure p_ConM)] (aEnd Tryz.prog [.tmp 2] H.nx _ _ (assoc [])) []) _ _
    clear hlt
    skip
    skip
    simp only [go_sem,entryC,ybb,p_mRanged,h0]
    simp (disch:=first | assumption | omega | (simp;done) | (simp;omega) | (simp only [bt,and_true];first | done | omega | (simp;done))) [↓zlw,beq,ybc,ybd,ybe,endOk,wk,wk2,wk1,wkM,wkL,wkLL,ybf,hcl]
    first | done | repeat (first | exact AHeap.Le.refl _ | refine AHeap.Le.push ?_ _)
  cases h1:rg e.prio 2
  · rw [show rgE e=false by unfold rgE;simp only [h0,h1,Bool.false_and,Bool.and_false,Bool.true_and]]
    refine ACalls.of_aw (Ω:=[(222,Ent.pure p_mRanged),(329,Ent.pure p_ConM)]) (T:=assoc []) mixed (TblOk.cons ok_mRanged (TblOk.cons ok_ConM TblOk.nil)) Tryz.func224 (by kernel_rfl) (by rfl) (rs:=[.tmp 2]) (by rfl) (by kernel_rfl) (by simp only [Tryz.ntmps224,yaz,yba];decide) (Nat.le_refl _) fun hcl hlt=>?_
    change aw _ _ _ (KI Tryz.prog [(222,Ent.pure p_mRanged),(329,Ent.pure p_ConM)] (aEnd Tryz.prog [.tmp 2] H.nx _ _ (assoc [])) []) _ _
    clear hlt
    skip
    skip
    simp only [go_sem,entryC,ybb,p_mRanged,h0,h1]
    simp (disch:=first | assumption | omega | (simp;done) | (simp;omega) | (simp only [bt,and_true];first | done | omega | (simp;done))) [↓zlw,beq,ybc,ybd,ybe,endOk,wk,wk2,wk1,wkM,wkL,wkLL,ybf,hcl]
    first | done | repeat (first | exact AHeap.Le.refl _ | refine AHeap.Le.push ?_ _)
  cases h2:rg e.act 2
  · rw [show rgE e=false by unfold rgE;simp only [h0,h1,h2,Bool.false_and,Bool.and_false,Bool.true_and]]
    refine ACalls.of_aw (Ω:=[(222,Ent.pure p_mRanged),(329,Ent.pure p_ConM)]) (T:=assoc []) mixed (TblOk.cons ok_mRanged (TblOk.cons ok_ConM TblOk.nil)) Tryz.func224 (by kernel_rfl) (by rfl) (rs:=[.tmp 2]) (by rfl) (by kernel_rfl) (by simp only [Tryz.ntmps224,yaz,yba];decide) (Nat.le_refl _) fun hcl hlt=>?_
    change aw _ _ _ (KI Tryz.prog [(222,Ent.pure p_mRanged),(329,Ent.pure p_ConM)] (aEnd Tryz.prog [.tmp 2] H.nx _ _ (assoc [])) []) _ _
    clear hlt
    skip
    skip
    simp only [go_sem,entryC,ybb,p_mRanged,h0,h1,h2]
    simp (disch:=first | assumption | omega | (simp;done) | (simp;omega) | (simp only [bt,and_true];first | done | omega | (simp;done))) [↓zlw,beq,ybc,ybd,ybe,endOk,wk,wk2,wk1,wkM,wkL,wkLL,ybf,hcl]
    first | done | repeat (first | exact AHeap.Le.refl _ | refine AHeap.Le.push ?_ _)
  cases h3:decide (e.ms.length≤4)
  · rw [show rgE e=false by unfold rgE;simp only [h0,h1,h2,h3,Bool.false_and,Bool.and_false,Bool.true_and]]
    refine ACalls.of_aw (Ω:=[(222,Ent.pure p_mRanged),(329,Ent.pure p_ConM)]) (T:=assoc []) mixed (TblOk.cons ok_mRanged (TblOk.cons ok_ConM TblOk.nil)) Tryz.func224 (by kernel_rfl) (by rfl) (rs:=[.tmp 2]) (by rfl) (by kernel_rfl) (by simp only [Tryz.ntmps224,yaz,yba];decide) (Nat.le_refl _) fun hcl hlt=>?_
    change aw _ _ _ (KI Tryz.prog [(222,Ent.pure p_mRanged),(329,Ent.pure p_ConM)] (aEnd Tryz.prog [.tmp 2] H.nx _ _ (assoc [])) []) _ _
    clear hlt
    have d3:decide ((e.ms.length:Int)≤4)=false:=by rw [← h3,decide_eq_decide];omega
    skip
    simp only [go_sem,entryC,ybb,p_mRanged,h0,h1,h2,h3,d3]
    simp (disch:=first | assumption | omega | (simp;done) | (simp;omega) | (simp only [bt,and_true];first | done | omega | (simp;done))) [↓zlw,beq,ybc,ybd,ybe,endOk,wk,wk2,wk1,wkM,wkL,wkLL,ybf,hcl]
    first | done | repeat (first | exact AHeap.Le.refl _ | refine AHeap.Le.push ?_ _)
  cases h4:decide (e.args.length≤4)
  · rw [show rgE e=false by unfold rgE;simp only [h0,h1,h2,h3,h4,Bool.false_and,Bool.and_false,Bool.true_and]]
    refine ACalls.of_aw (Ω:=[(222,Ent.pure p_mRanged),(329,Ent.pure p_ConM)]) (T:=assoc []) mixed (TblOk.cons ok_mRanged (TblOk.cons ok_ConM TblOk.nil)) Tryz.func224 (by kernel_rfl) (by rfl) (rs:=[.tmp 2]) (by rfl) (by kernel_rfl) (by simp only [Tryz.ntmps224,yaz,yba];decide) (Nat.le_refl _) fun hcl hlt=>?_
    change aw _ _ _ (KI Tryz.prog [(222,Ent.pure p_mRanged),(329,Ent.pure p_ConM)] (aEnd Tryz.prog [.tmp 2] H.nx _ _ (assoc [])) []) _ _
    clear hlt
    have d4:decide ((e.args.length:Int)≤4)=false:=by rw [← h4,decide_eq_decide];omega
    have d3:decide ((e.ms.length:Int)≤4)=true:=by rw [← h3,decide_eq_decide];omega
    simp only [go_sem,entryC,ybb,p_mRanged,h0,h1,h2,h3,h4,d3,d4]
    simp (disch:=first | assumption | omega | (simp;done) | (simp;omega) | (simp only [bt,and_true];first | done | omega | (simp;done))) [↓zlw,beq,ybc,ybd,ybe,endOk,wk,wk2,wk1,wkM,wkL,wkLL,ybf,hcl]
    first | done | repeat (first | exact AHeap.Le.refl _ | refine AHeap.Le.push ?_ _)
  rw [show rgE e=e.ms.all rgM by unfold rgE;simp only [h0,h1,h2,h3,h4,Bool.true_and]]
  have d3:decide ((e.ms.length:Int)≤4)=true:=by rw [← h3,decide_eq_decide];omega
  have d4:decide ((e.args.length:Int)≤4)=true:=by rw [← h4,decide_eq_decide];omega
  refine ACalls.of_aw (Ω:=[(222,Ent.pure p_mRanged),(329,Ent.pure p_ConM)]) (T:=assoc []) mixed (TblOk.cons ok_mRanged (TblOk.cons ok_ConM TblOk.nil)) Tryz.func224 (by kernel_rfl) (by rfl) (rs:=[.tmp 2]) (by rfl) (by kernel_rfl) (by simp only [Tryz.ntmps224,yaz,yba];decide) (Nat.le_refl _) fun hcl hlt=>?_
  change aw _ _ _ (KI Tryz.prog [(222,Ent.pure p_mRanged),(329,Ent.pure p_ConM)] (aEnd Tryz.prog [.tmp 2] H.nx _ _ (assoc [])) []) _ _
  clear hlt
  simp only [go_sem,entryC,ybb,p_mRanged,p_ConM,h0,h1,h2,d3,d4]
  refine ⟨e.ms,⟨rfl,he.ok.ml,he.ok.mo⟩,?_⟩
  simp only [go_sem,any_not]
  simp (disch:=first | assumption | omega | (simp;done) | (simp;omega) | (simp only [bt,and_true];first | done | omega | (simp;done))) [↓zlw,beq,ybc,ybd,ybe,endOk,wk,wk2,wk1,wkM,wkL,wkLL,ybf,hcl]
  first | done | repeat (first | exact AHeap.Le.refl _ | refine AHeap.Le.push ?_ _)
def entH19 (H:AHeap) (id q:Nat) (b:List UInt8) (wr:Bool) (e:SEntry):AHeap:=if rgE e then wrH H id q (b++wEntry e) wr else wrH H id q b true
theorem wEntry_len4 {e:SEntry} (h:COk e) (h1:e.ms.length≤4) (h2:e.args.length≤4):(wEntry e).length≤400:=by
  have h0:∀ n,(wUint n 2).length≤4:=fun n=>wUint_len n 2
  have h3:∀ l:List SMatch,(∀ m∈l,MOk m)→(l.flatMap wMatch).length≤60*l.length:=fun l=>by
    induction l with
    | nil=>intro _;simp
    | cons m l ih =>
      intro h
      rw [List.flatMap_cons,List.length_append,yaz]
      have:=wMatch_len (h m List.mem_cons_self)
      have:=ih fun x hx=>h x (List.mem_cons_of_mem _ hx)
      omega
  have h4:∀ l:List Nat,(∀ m∈l,m<2^128)→(l.flatMap wValue).length≤17*l.length:=fun l=>by
    induction l with
    | nil=>intro _;simp
    | cons m l ih =>
      intro h
      rw [List.flatMap_cons,List.length_append,yaz]
      have:=wValue_len (h m List.mem_cons_self)
      have:=ih fun x hx=>h x (List.mem_cons_of_mem _ hx)
      omega
  have a1:=h0 e.table
  have a2:=h0 e.ms.length
  have a3:=h0 e.prio
  have a4:=h0 e.act
  have a5:=h0 e.args.length
  have a6:=h3 e.ms h.ok.mo
  have a7:=h4 e.args h.ar
  unfold wEntry
  simp only [List.length_append]
  omega
theorem rgE_len {e:SEntry} (h:rgE e=true):e.ms.length≤4∧e.args.length≤4:=by
  unfold rgE at h
  simp only [Bool.and_eq_true,decide_eq_true_eq] at h
  exact ⟨h.2.2.2.1,h.2.2.2.2.1⟩
def e_wEnt:List AV→AHeap→(AEnd→AHeap→Prop)→Prop
  | [.ptr id 0,.agg l],H,K=>∃ q b wr e,(WOn H id q b wr∧l=entryC e∧COk e)∧K (.ret (.tup [])) (entH19 H id q b wr e)
  | _,_,_=>False
set_option maxHeartbeats 4000000 in
theorem ok_wEnt:EntOk Tryz.prog 83 (Ent.effect e_wEnt):=by
  refine EntOk.effect fun args H K h=>?_
  unfold e_wEnt at h
  split at h
  rotate_left
  · exact h.elim
  rename_i id l
  obtain ⟨q,b,wr,e,⟨hW,rfl,he⟩,hK⟩:=h
  refine ⟨_,_,hK,?_⟩
  clear hK
  have hl:=hW.l
  have hid:=AHeap.get_lt hW.o
  have hq:=AHeap.get_lt hW.bu
  have hne:=far_of hid
  have hneq:=far_of hq
  have n1:(id=q)=False:=eq_false hW.ne
  have n2:(q=id)=False:=eq_false fun e=>hW.ne e.symm
  have hcs:=cells_some hW.o
  have hb0:=hW.bu
  have hi0:=hW.o
  cases hr:rgE e
  · rw [show entH19 H id q b wr e=wrH H id q b true by unfold entH19;rw [hr];rfl]
    have eh:∀ X,wrH H id q b X=H.set id (.cells [.slice (.own q) 1 (bys b),.bool X]):=fun X=>by
      unfold wrH;rw [set_same hb0]
    refine ACalls.of_aw (Ω:=[(224,Ent.pure p_mInR),(225,Ent.pure p_eAppend)]) (T:=assoc [(3,[[],[],[],[],[],[],[5],[4,5,6],[],[],[4,5,6]])]) mixed (TblOk.cons ok_mInR (TblOk.cons ok_eAppend TblOk.nil)) Tryz.func83 (by kernel_rfl) (by rfl) (rs:=[]) (by rfl) (by kernel_rfl) (by simp only [Tryz.ntmps83,yaz,yba];decide) (by unfold wrH;simp only [zkn];omega) fun hcl hlt=>?_
    change aw _ _ _ (KI Tryz.prog [(224,Ent.pure p_mInR),(225,Ent.pure p_eAppend)] (aEnd Tryz.prog [] H.nx _ _ (assoc [(3,[[],[],[],[],[],[],[5],[4,5,6],[],[],[4,5,6]])])) []) _ _
    clear hlt
    have hcl1:=hW.closed (b':=b) (wr':=true) hcl
    rw [eh] at hcl1 ⊢
    simp only [go_sem,byq,hne,hneq,n1,n2,hcs,hi0,hb0,entryC,p_mInR]
    refine ⟨e,⟨rfl,he⟩,?_⟩
    rw [hr]
    simp only [go_sem,byq,hne,hneq,n1,n2,hcs,hi0,hb0,entryC]
    simp (disch:=first | assumption | omega | (simp;done) | (simp;omega) | (simp only [bt,and_true];first | done | omega | (simp;done))) [↓zlw,beq,ybc,ybd,ybe,endOk,wk,wk2,wk1,wkM,wkL,wkLL,ybf,hcl1]
    first | done | repeat (first | exact AHeap.Le.refl _ | refine AHeap.Le.push ?_ _)
  · obtain ⟨r1,r2⟩:=rgE_len hr
    have lB:=wEntry_len4 he r1 r2
    rw [show entH19 H id q b wr e=wrH H id q (b++wEntry e) wr by unfold entH19;rw [hr];rfl]
    generalize hBB:wEntry e=BB at *
    refine ACalls.of_aw (Ω:=[(224,Ent.pure p_mInR),(225,Ent.pure p_eAppend)]) (T:=assoc [(3,[[],[],[],[],[],[],[5],[4,5,6],[],[],[4,5,6]])]) mixed (TblOk.cons ok_mInR (TblOk.cons ok_eAppend TblOk.nil)) Tryz.func83 (by kernel_rfl) (by rfl) (rs:=[]) (by rfl) (by kernel_rfl) (by simp only [Tryz.ntmps83,yaz,yba];decide) (by unfold wrH;simp only [zkn];omega) fun hcl hlt=>?_
    change aw _ _ _ (KI Tryz.prog [(224,Ent.pure p_mInR),(225,Ent.pure p_eAppend)] (aEnd Tryz.prog [] H.nx _ _ (assoc [(3,[[],[],[],[],[],[],[5],[4,5,6],[],[],[4,5,6]])])) []) _ _
    clear hlt
    have hcl1:=hW.closed (b':=b++BB) (wr':=wr) hcl
    have hC:∀ Y,cellsOf? (H.set q Y) id=some [.slice (.own q) 1 (bys b),.bool wr]:=fun Y=>by
      unfold cellsOf?;rw [AHeap.get_set_ne _ _ hW.ne,hi0]
    unfold wrH at hcl1 ⊢
    have hlb:(b++BB).length=b.length+BB.length:=List.length_append
    simp only [go_sem,byq,hne,hneq,n1,n2,hcs,hC,hi0,hb0,entryC,p_mInR] at hcl1 ⊢
    refine ⟨e,⟨rfl,he⟩,?_⟩
    rw [hr]
    simp only [go_sem,byq,hne,hneq,n1,n2,hcs,hC,hi0,hb0,entryC,p_eAppend]
    refine ⟨e,[],⟨rfl,rfl,by decide,by omega,by omega,he⟩,?_⟩
    try simp only [yak,hBB]
    try simp only [go_sem,byq,hne,hneq,n1,n2,hcs,hC,hi0,hb0,entryC]
    (repeat with_reducible refine And.intro (by first | assumption | decide | omega | exact ⟨by omega,by omega⟩) ?_)
    rw [hlb] at hcl1
    simp (disch:=first | assumption | omega | (simp;done) | (simp;omega) | (simp only [bt,and_true];first | done | omega | (simp;done))) [↓zlw,beq,ybc,ybd,ybe,endOk,wk,wk2,wk1,wkM,wkL,wkLL,ybf,hcl1,hlb]
    first | done | repeat (first | exact AHeap.Le.refl _ | refine AHeap.Le.push ?_ _)
end Go.AL


open Go Go.AL Go.Proofs
namespace Go.AL
set_option linter.all false
set_option maxRecDepth 10000
theorem ti_req:ti Tryz.prog 86=some ⟨.struct [(0,3,false),(1,3,false),(2,83,false),(4,84,false),(5,3,false),(6,3,false),(7,3,false),(8,3,false),(9,32,false)],10,112,.agg [.int .i64 0,.int .i64 0,.int .u64 0,.int .u64 0,.slice .nil 1 [],.int .i64 0,.int .i64 0,.int .i64 0,.int .i64 0,.slice .nil 1 []]⟩:=by kernel_rfl
attribute [go_sem] ti_req
/-- a request -/
structure SReq where
  kind:Int
  role:Int
  el:Nat
  ups:List (Int × SEntry)
  table:Int
  frm:Int
  count:Int
  port:Int
  data:List UInt8
def reqC (r:SReq):List AV:=[.int .i64 r.kind,.int .i64 r.role,.int .u64 ((r.el/2^64:Nat):Int),.int .u64 ((r.el % 2^64:Nat):Int),.slice .any 6 (r.ups.map updAV),.int .i64 r.table,.int .i64 r.frm,.int .i64 r.count,.int .i64 r.port,.slice .any 1 (bys r.data)]
def reqAV (r:SReq):AV:=.agg (reqC r)
def zReq:SReq:=⟨0,0,0,[],0,0,0,0,[]⟩
structure ROk (r:SReq):Prop where
  el:r.el<2^128
  ul:r.ups.length≤1000
  dl:r.data.length≤10000
  uo:∀ u∈r.ups,COk u.2
theorem lt_req {n:Nat} (r:SReq):AV.lt n (reqAV r):=by
  have h1:AV.lt n (.slice .any 6 (r.ups.map updAV)):=lt_map lt_upd
  simp only [reqAV,reqC,zmz,znc,znd,zmn,h1,zma,and_true,true_and]
  intro i e;cases e
/-- the fields that a kind uses -/
def useR (k:Int) (r:SReq):SReq :=
  if k=1 then { zReq with role:=r.role,el:=r.el } else if k=2 then zReq else if k=3 then { zReq with role:=r.role,el:=r.el,ups:=r.ups }
  else if k=4 then { zReq with role:=r.role,table:=r.table } else if k=5 then { zReq with role:=r.role,frm:=r.frm,count:=r.count } else { zReq with port:=r.port,data:=r.data }
def bodyU (u:Int × SEntry):List UInt8:=wUint u.1 1++(if rgE u.2 then wEntry u.2 else [])
def bodyR (k:Int) (r:SReq):List UInt8 :=
  if k=1 then wUint r.role 2++wValue r.el else if k=2 then [] else if k=3 then wUint r.role 2++wValue r.el++wUint r.ups.length 2++r.ups.flatMap bodyU
  else if k=4 then wUint r.role 2++wUint r.table 2 else if k=5 then wUint r.role 2++wUint r.frm 4++wUint r.count 2 else wUint r.port 2++wBytes r.data
def badU (u:Int × SEntry):Bool:=!rg u.1 1||!rgE u.2
def badR (k:Int) (r:SReq):Bool :=
  if k=1 then !rg r.role 2 else if k=2 then false else if k=3 then !rg r.role 2||!rg r.ups.length 2||r.ups.any badU
  else if k=4 then !rg r.role 2||!rg r.table 2 else if k=5 then !rg r.role 2||!rg r.frm 4||!rg r.count 2 else !rg r.port 2
theorem WOn.push {H:AHeap} {id q:Nat} {b:List UInt8} {wr:Bool} (h:WOn H id q b wr) (x:AObj):WOn (H.push x) id q b wr :=
  ⟨by rw [AHeap.get_push_lt _ _ (AHeap.get_lt h.o)];exact h.o,by rw [AHeap.get_push_lt _ _ (AHeap.get_lt h.bu)];exact h.bu,h.l⟩
theorem wrH_push {H:AHeap} {id q:Nat} {b:List UInt8} {wr:Bool} {x:AObj} (h1:id<H.nx) (h2:q<H.nx):wrH (H.push x) id q b wr=(wrH H id q b wr).push x:=by
  unfold wrH AHeap.set AHeap.push
  congr 1
  funext j
  dsimp only
  by_cases e1:j=id
  · subst e1;rw [if_pos rfl,if_neg (by omega),if_pos rfl]
  · rw [if_neg e1]
    by_cases e2:j=q
    · subst e2;rw [if_pos rfl,if_neg (by omega),if_neg e1,if_pos rfl]
    · rw [if_neg e2]
      by_cases e3:j=H.nx
      · rw [if_pos e3,if_pos e3]
      · rw [if_neg e3,if_neg e3,if_neg e1,if_neg e2]
theorem wrH_nx {H:AHeap} {id q:Nat} {b:List UInt8} {wr:Bool}:(wrH H id q b wr).nx=H.nx:=rfl
theorem wrH_same {H:AHeap} {id q:Nat} {b:List UInt8} {wr:Bool} (h:WOn H id q b wr):wrH H id q b wr=H:=by
  unfold wrH;rw [set_same h.bu,set_same h.o]
def p_only1:List AV→AHeap→(AV→Prop)→Prop
  | [.agg l],_,K=>∃ r:SReq,l=reqC r∧K (reqAV (useR 1 r))
  | _,_,_=>False
theorem ok_only1:EntOk Tryz.prog 257 (Ent.pure p_only1):=by
  refine EntOk.pure fun args H K h=>?_
  unfold p_only1 at h
  split at h
  rotate_left
  · exact h.elim
  rename_i l
  obtain ⟨r,rfl,hK⟩:=h
  refine ⟨_,hK,?_⟩
  clear hK
  rw [show useR 1 r={ zReq with role:=r.role,el:=r.el } from rfl]
  have lr:=lt_req (n:=H.nx) ({ zReq with role:=r.role,el:=r.el })
  refine ACalls.of_aw (Ω:=[]) (T:=assoc []) mixed TblOk.nil Tryz.func257 (by kernel_rfl) (by rfl) (rs:=[.cell 2 86]) (by rfl) (by kernel_rfl) (by simp only [Tryz.ntmps257,yaz,yba];decide) (Nat.le_refl _) fun hcl hlt=>?_
  change aw _ _ _ (KI Tryz.prog [] (aEnd Tryz.prog [.cell 2 86] H.nx _ _ (assoc [])) []) _ _
  clear hlt
  simp only [reqAV,reqC,zReq,Nat.zero_div,Nat.zero_mod,Int.natCast_zero,yaf,zkt] at lr ⊢
  simp only [go_sem]
  refine ⟨?_,by repeat (first | exact AHeap.Le.refl _ | refine AHeap.Le.push ?_ _),hcl,lr⟩
  simp [wk,wk2,wk1,wkL,wkM]
def p_only2:List AV→AHeap→(AV→Prop)→Prop
  | [.agg l],_,K=>∃ r:SReq,l=reqC r∧K (reqAV (useR 2 r))
  | _,_,_=>False
theorem ok_only2:EntOk Tryz.prog 261 (Ent.pure p_only2):=by
  refine EntOk.pure fun args H K h=>?_
  unfold p_only2 at h
  split at h
  rotate_left
  · exact h.elim
  rename_i l
  obtain ⟨r,rfl,hK⟩:=h
  refine ⟨_,hK,?_⟩
  clear hK
  rw [show useR 2 r=zReq from rfl]
  have lr:=lt_req (n:=H.nx) (zReq)
  refine ACalls.of_aw (Ω:=[]) (T:=assoc []) mixed TblOk.nil Tryz.func261 (by kernel_rfl) (by rfl) (rs:=[.cell 2 86]) (by rfl) (by kernel_rfl) (by simp only [Tryz.ntmps261,yaz,yba];decide) (Nat.le_refl _) fun hcl hlt=>?_
  change aw _ _ _ (KI Tryz.prog [] (aEnd Tryz.prog [.cell 2 86] H.nx _ _ (assoc [])) []) _ _
  clear hlt
  simp only [reqAV,reqC,zReq,Nat.zero_div,Nat.zero_mod,Int.natCast_zero,yaf,zkt] at lr ⊢
  simp only [go_sem]
  refine ⟨?_,by repeat (first | exact AHeap.Le.refl _ | refine AHeap.Le.push ?_ _),hcl,lr⟩
  simp [wk,wk2,wk1,wkL,wkM]
def p_only3:List AV→AHeap→(AV→Prop)→Prop
  | [.agg l],_,K=>∃ r:SReq,l=reqC r∧K (reqAV (useR 3 r))
  | _,_,_=>False
theorem ok_only3:EntOk Tryz.prog 264 (Ent.pure p_only3):=by
  refine EntOk.pure fun args H K h=>?_
  unfold p_only3 at h
  split at h
  rotate_left
  · exact h.elim
  rename_i l
  obtain ⟨r,rfl,hK⟩:=h
  refine ⟨_,hK,?_⟩
  clear hK
  rw [show useR 3 r={ zReq with role:=r.role,el:=r.el,ups:=r.ups } from rfl]
  have lr:=lt_req (n:=H.nx) ({ zReq with role:=r.role,el:=r.el,ups:=r.ups })
  refine ACalls.of_aw (Ω:=[]) (T:=assoc []) mixed TblOk.nil Tryz.func264 (by kernel_rfl) (by rfl) (rs:=[.cell 2 86]) (by rfl) (by kernel_rfl) (by simp only [Tryz.ntmps264,yaz,yba];decide) (Nat.le_refl _) fun hcl hlt=>?_
  change aw _ _ _ (KI Tryz.prog [] (aEnd Tryz.prog [.cell 2 86] H.nx _ _ (assoc [])) []) _ _
  clear hlt
  simp only [reqAV,reqC,zReq,Nat.zero_div,Nat.zero_mod,Int.natCast_zero,yaf,zkt] at lr ⊢
  simp only [go_sem]
  refine ⟨?_,by repeat (first | exact AHeap.Le.refl _ | refine AHeap.Le.push ?_ _),hcl,lr⟩
  simp [wk,wk2,wk1,wkL,wkM]
def p_only4:List AV→AHeap→(AV→Prop)→Prop
  | [.agg l],_,K=>∃ r:SReq,l=reqC r∧K (reqAV (useR 4 r))
  | _,_,_=>False
theorem ok_only4:EntOk Tryz.prog 268 (Ent.pure p_only4):=by
  refine EntOk.pure fun args H K h=>?_
  unfold p_only4 at h
  split at h
  rotate_left
  · exact h.elim
  rename_i l
  obtain ⟨r,rfl,hK⟩:=h
  refine ⟨_,hK,?_⟩
  clear hK
  rw [show useR 4 r={ zReq with role:=r.role,table:=r.table } from rfl]
  have lr:=lt_req (n:=H.nx) ({ zReq with role:=r.role,table:=r.table })
  refine ACalls.of_aw (Ω:=[]) (T:=assoc []) mixed TblOk.nil Tryz.func268 (by kernel_rfl) (by rfl) (rs:=[.cell 2 86]) (by rfl) (by kernel_rfl) (by simp only [Tryz.ntmps268,yaz,yba];decide) (Nat.le_refl _) fun hcl hlt=>?_
  change aw _ _ _ (KI Tryz.prog [] (aEnd Tryz.prog [.cell 2 86] H.nx _ _ (assoc [])) []) _ _
  clear hlt
  simp only [reqAV,reqC,zReq,Nat.zero_div,Nat.zero_mod,Int.natCast_zero,yaf,zkt] at lr ⊢
  simp only [go_sem]
  refine ⟨?_,by repeat (first | exact AHeap.Le.refl _ | refine AHeap.Le.push ?_ _),hcl,lr⟩
  simp [wk,wk2,wk1,wkL,wkM]
def p_only5:List AV→AHeap→(AV→Prop)→Prop
  | [.agg l],_,K=>∃ r:SReq,l=reqC r∧K (reqAV (useR 5 r))
  | _,_,_=>False
theorem ok_only5:EntOk Tryz.prog 271 (Ent.pure p_only5):=by
  refine EntOk.pure fun args H K h=>?_
  unfold p_only5 at h
  split at h
  rotate_left
  · exact h.elim
  rename_i l
  obtain ⟨r,rfl,hK⟩:=h
  refine ⟨_,hK,?_⟩
  clear hK
  rw [show useR 5 r={ zReq with role:=r.role,frm:=r.frm,count:=r.count } from rfl]
  have lr:=lt_req (n:=H.nx) ({ zReq with role:=r.role,frm:=r.frm,count:=r.count })
  refine ACalls.of_aw (Ω:=[]) (T:=assoc []) mixed TblOk.nil Tryz.func271 (by kernel_rfl) (by rfl) (rs:=[.cell 2 86]) (by rfl) (by kernel_rfl) (by simp only [Tryz.ntmps271,yaz,yba];decide) (Nat.le_refl _) fun hcl hlt=>?_
  change aw _ _ _ (KI Tryz.prog [] (aEnd Tryz.prog [.cell 2 86] H.nx _ _ (assoc [])) []) _ _
  clear hlt
  simp only [reqAV,reqC,zReq,Nat.zero_div,Nat.zero_mod,Int.natCast_zero,yaf,zkt] at lr ⊢
  simp only [go_sem]
  refine ⟨?_,by repeat (first | exact AHeap.Le.refl _ | refine AHeap.Le.push ?_ _),hcl,lr⟩
  simp [wk,wk2,wk1,wkL,wkM]
def p_only6:List AV→AHeap→(AV→Prop)→Prop
  | [.agg l],_,K=>∃ r:SReq,l=reqC r∧K (reqAV (useR 6 r))
  | _,_,_=>False
theorem ok_only6:EntOk Tryz.prog 274 (Ent.pure p_only6):=by
  refine EntOk.pure fun args H K h=>?_
  unfold p_only6 at h
  split at h
  rotate_left
  · exact h.elim
  rename_i l
  obtain ⟨r,rfl,hK⟩:=h
  refine ⟨_,hK,?_⟩
  clear hK
  rw [show useR 6 r={ zReq with port:=r.port,data:=r.data } from rfl]
  have lr:=lt_req (n:=H.nx) ({ zReq with port:=r.port,data:=r.data })
  refine ACalls.of_aw (Ω:=[]) (T:=assoc []) mixed TblOk.nil Tryz.func274 (by kernel_rfl) (by rfl) (rs:=[.cell 2 86]) (by rfl) (by kernel_rfl) (by simp only [Tryz.ntmps274,yaz,yba];decide) (Nat.le_refl _) fun hcl hlt=>?_
  change aw _ _ _ (KI Tryz.prog [] (aEnd Tryz.prog [.cell 2 86] H.nx _ _ (assoc [])) []) _ _
  clear hlt
  simp only [reqAV,reqC,zReq,Nat.zero_div,Nat.zero_mod,Int.natCast_zero,yaf,zkt] at lr ⊢
  simp only [go_sem]
  refine ⟨?_,by repeat (first | exact AHeap.Le.refl _ | refine AHeap.Le.push ?_ _),hcl,lr⟩
  simp [wk,wk2,wk1,wkL,wkM]
def e_wr1:List AV→AHeap→(AEnd→AHeap→Prop)→Prop
  | [.ptr id 0,.agg l],H,K=>∃ q b wr r,(WOn H id q b wr∧l=reqC r∧ROk r∧b.length≤1000)∧K (.ret (.tup [])) (wrH H id q (b++bodyR 1 r) (wr||badR 1 r))
  | _,_,_=>False
set_option maxHeartbeats 2000000 in
theorem ok_wr1:EntOk Tryz.prog 258 (Ent.effect e_wr1):=by
  refine EntOk.effect fun args H K h=>?_
  unfold e_wr1 at h
  split at h
  rotate_left
  · exact h.elim
  rename_i id l
  obtain ⟨q,b,wr,r,⟨hW,rfl,hr,hb⟩,hK⟩:=h
  refine ⟨_,_,hK,?_⟩
  clear hK
  have hid:=AHeap.get_lt hW.o
  have hq:=AHeap.get_lt hW.bu
  have iv:=isV_of hr.el
  have lv:=wValue_len hr.el
  have ln:=fun n w=>wUint_len n w
  have lb:=wBytes_len r.data
  refine ACalls.of_aw (Ω:=[(81,Ent.effect e_wNum),(259,Ent.effect e_wVal)]) (T:=assoc []) mixed (TblOk.cons ok_wNum (TblOk.cons ok_wVal TblOk.nil)) Tryz.func258 (by kernel_rfl) (by rfl) (rs:=[]) (by rfl) (by kernel_rfl) (by simp only [Tryz.ntmps258,yaz,yba];decide) (by rw [wrH_nx];omega) fun hcl hlt=>?_
  change aw _ _ _ (KI Tryz.prog [(81,Ent.effect e_wNum),(259,Ent.effect e_wVal)] (aEnd Tryz.prog [] H.nx _ _ (assoc [])) []) _ _
  clear hlt
  have hcl1:=hW.closed (b':=b++bodyR 1 r) (wr':=wr||badR 1 r) hcl
  simp only [go_sem,byq,reqC,e_wNum,e_wVal,e_wByt]
  refine ⟨q,b,wr,(hW).push _,?_⟩
  rw [wrH_push ?_ ?_]
  rotate_left
  · exact hid
  · exact hq
  have hl1:(b++wUint r.role 2).length≤67000:=by simp only [List.length_append] at *;have:=ln r.role 2;omega
  have hW1:WOn (wrH H id q (b++wUint r.role 2) (wr||!rg r.role 2)) id q (b++wUint r.role 2) (wr||!rg r.role 2):=hW.next (by omega)
  simp only [go_sem,byq,wrH_nx,reqC,e_wNum,e_wVal,e_wByt]
  refine ⟨q,(b++wUint r.role 2),(wr||!rg r.role 2),⟨(hW1).push _,of_eq_true iv⟩,?_⟩
  rw [wrH_push ?_ ?_]
  rotate_left
  · exact hid
  · exact hq
  try simp only [Int.toNat_natCast,vOf_back]
  rw [wrH_wrH hW.ne]
  have hl2:((b++wUint r.role 2)++wValue r.el).length≤133000:=by simp only [List.length_append] at *;have:=lv;omega
  try simp only [Int.toNat_natCast,vOf_back]
  try simp only [Int.toNat_natCast,vOf_back]
  try simp only [go_sem,byq,wrH_nx]
  have eb:b++bodyR 1 r=((b++wUint r.role 2)++wValue r.el):=by
    show b++(wUint r.role 2++wValue r.el)=_
    simp [List.append_assoc]
  have ew:(wr||badR 1 r)=(wr||!rg r.role 2):=by
    show (wr||(!rg r.role 2))=_
    simp [Bool.or_assoc]
  rw [eb,ew] at hcl1 ⊢
  skip
  refine ⟨?_,by repeat (first | exact AHeap.Le.refl _ | refine AHeap.Le.push ?_ _),hcl1,?_⟩
  · simp [wk,wk2,wk1,wkLL]
  · simp [zna,znd]
def e_wr2:List AV→AHeap→(AEnd→AHeap→Prop)→Prop
  | [.ptr id 0,.agg l],H,K=>∃ q b wr r,(WOn H id q b wr∧l=reqC r∧ROk r∧b.length≤1000)∧K (.ret (.tup [])) (wrH H id q (b++bodyR 2 r) (wr||badR 2 r))
  | _,_,_=>False
set_option maxHeartbeats 2000000 in
theorem ok_wr2:EntOk Tryz.prog 262 (Ent.effect e_wr2):=by
  refine EntOk.effect fun args H K h=>?_
  unfold e_wr2 at h
  split at h
  rotate_left
  · exact h.elim
  rename_i id l
  obtain ⟨q,b,wr,r,⟨hW,rfl,hr,hb⟩,hK⟩:=h
  refine ⟨_,_,hK,?_⟩
  clear hK
  have hid:=AHeap.get_lt hW.o
  have hq:=AHeap.get_lt hW.bu
  have iv:=isV_of hr.el
  have lv:=wValue_len hr.el
  have ln:=fun n w=>wUint_len n w
  have lb:=wBytes_len r.data
  refine ACalls.of_aw (Ω:=[]) (T:=assoc []) mixed TblOk.nil Tryz.func262 (by kernel_rfl) (by rfl) (rs:=[]) (by rfl) (by kernel_rfl) (by simp only [Tryz.ntmps262,yaz,yba];decide) (by rw [wrH_nx];omega) fun hcl hlt=>?_
  change aw _ _ _ (KI Tryz.prog [] (aEnd Tryz.prog [] H.nx _ _ (assoc [])) []) _ _
  clear hlt
  have hcl1:=hW.closed (b':=b++bodyR 2 r) (wr':=wr||badR 2 r) hcl
  simp only [go_sem,byq,reqC,e_wNum,e_wVal,e_wByt]
  try simp only [Int.toNat_natCast,vOf_back]
  try simp only [go_sem,byq,wrH_nx]
  have eb:b++bodyR 2 r=b:=by
    show b++(([]:List UInt8))=_
    simp [List.append_assoc]
  have ew:(wr||badR 2 r)=wr:=by
    show (wr||(false))=_
    simp [Bool.or_assoc]
  rw [eb,ew] at hcl1 ⊢
  rw [wrH_same hW] at hcl1 ⊢
  refine ⟨?_,by repeat (first | exact AHeap.Le.refl _ | refine AHeap.Le.push ?_ _),hcl1,?_⟩
  · simp [wk,wk2,wk1,wkLL]
  · simp [zna,znd]
def e_wr4:List AV→AHeap→(AEnd→AHeap→Prop)→Prop
  | [.ptr id 0,.agg l],H,K=>∃ q b wr r,(WOn H id q b wr∧l=reqC r∧ROk r∧b.length≤1000)∧K (.ret (.tup [])) (wrH H id q (b++bodyR 4 r) (wr||badR 4 r))
  | _,_,_=>False
set_option maxHeartbeats 2000000 in
theorem ok_wr4:EntOk Tryz.prog 269 (Ent.effect e_wr4):=by
  refine EntOk.effect fun args H K h=>?_
  unfold e_wr4 at h
  split at h
  rotate_left
  · exact h.elim
  rename_i id l
  obtain ⟨q,b,wr,r,⟨hW,rfl,hr,hb⟩,hK⟩:=h
  refine ⟨_,_,hK,?_⟩
  clear hK
  have hid:=AHeap.get_lt hW.o
  have hq:=AHeap.get_lt hW.bu
  have iv:=isV_of hr.el
  have lv:=wValue_len hr.el
  have ln:=fun n w=>wUint_len n w
  have lb:=wBytes_len r.data
  refine ACalls.of_aw (Ω:=[(81,Ent.effect e_wNum)]) (T:=assoc []) mixed (TblOk.cons ok_wNum TblOk.nil) Tryz.func269 (by kernel_rfl) (by rfl) (rs:=[]) (by rfl) (by kernel_rfl) (by simp only [Tryz.ntmps269,yaz,yba];decide) (by rw [wrH_nx];omega) fun hcl hlt=>?_
  change aw _ _ _ (KI Tryz.prog [(81,Ent.effect e_wNum)] (aEnd Tryz.prog [] H.nx _ _ (assoc [])) []) _ _
  clear hlt
  have hcl1:=hW.closed (b':=b++bodyR 4 r) (wr':=wr||badR 4 r) hcl
  simp only [go_sem,byq,reqC,e_wNum,e_wVal,e_wByt]
  refine ⟨q,b,wr,(hW).push _,?_⟩
  rw [wrH_push ?_ ?_]
  rotate_left
  · exact hid
  · exact hq
  have hl1:(b++wUint r.role 2).length≤67000:=by simp only [List.length_append] at *;have:=ln r.role 2;omega
  have hW1:WOn (wrH H id q (b++wUint r.role 2) (wr||!rg r.role 2)) id q (b++wUint r.role 2) (wr||!rg r.role 2):=hW.next (by omega)
  simp only [go_sem,byq,wrH_nx,reqC,e_wNum,e_wVal,e_wByt]
  refine ⟨q,(b++wUint r.role 2),(wr||!rg r.role 2),(hW1).push _,?_⟩
  rw [wrH_push ?_ ?_]
  rotate_left
  · exact hid
  · exact hq
  rw [wrH_wrH hW.ne]
  have hl2:((b++wUint r.role 2)++wUint r.table 2).length≤133000:=by simp only [List.length_append] at *;have:=ln r.table 2;omega
  try simp only [Int.toNat_natCast,vOf_back]
  try simp only [go_sem,byq,wrH_nx]
  have eb:b++bodyR 4 r=((b++wUint r.role 2)++wUint r.table 2):=by
    show b++(wUint r.role 2++wUint r.table 2)=_
    simp [List.append_assoc]
  have ew:(wr||badR 4 r)=((wr||!rg r.role 2)||!rg r.table 2):=by
    show (wr||(!rg r.role 2||!rg r.table 2))=_
    simp [Bool.or_assoc]
  rw [eb,ew] at hcl1 ⊢
  skip
  refine ⟨?_,by repeat (first | exact AHeap.Le.refl _ | refine AHeap.Le.push ?_ _),hcl1,?_⟩
  · simp [wk,wk2,wk1,wkLL]
  · simp [zna,znd]
def e_wr5:List AV→AHeap→(AEnd→AHeap→Prop)→Prop
  | [.ptr id 0,.agg l],H,K=>∃ q b wr r,(WOn H id q b wr∧l=reqC r∧ROk r∧b.length≤1000)∧K (.ret (.tup [])) (wrH H id q (b++bodyR 5 r) (wr||badR 5 r))
  | _,_,_=>False
set_option maxHeartbeats 2000000 in
theorem ok_wr5:EntOk Tryz.prog 272 (Ent.effect e_wr5):=by
  refine EntOk.effect fun args H K h=>?_
  unfold e_wr5 at h
  split at h
  rotate_left
  · exact h.elim
  rename_i id l
  obtain ⟨q,b,wr,r,⟨hW,rfl,hr,hb⟩,hK⟩:=h
  refine ⟨_,_,hK,?_⟩
  clear hK
  have hid:=AHeap.get_lt hW.o
  have hq:=AHeap.get_lt hW.bu
  have iv:=isV_of hr.el
  have lv:=wValue_len hr.el
  have ln:=fun n w=>wUint_len n w
  have lb:=wBytes_len r.data
  refine ACalls.of_aw (Ω:=[(81,Ent.effect e_wNum)]) (T:=assoc []) mixed (TblOk.cons ok_wNum TblOk.nil) Tryz.func272 (by kernel_rfl) (by rfl) (rs:=[]) (by rfl) (by kernel_rfl) (by simp only [Tryz.ntmps272,yaz,yba];decide) (by rw [wrH_nx];omega) fun hcl hlt=>?_
  change aw _ _ _ (KI Tryz.prog [(81,Ent.effect e_wNum)] (aEnd Tryz.prog [] H.nx _ _ (assoc [])) []) _ _
  clear hlt
  have hcl1:=hW.closed (b':=b++bodyR 5 r) (wr':=wr||badR 5 r) hcl
  simp only [go_sem,byq,reqC,e_wNum,e_wVal,e_wByt]
  refine ⟨q,b,wr,(hW).push _,?_⟩
  rw [wrH_push ?_ ?_]
  rotate_left
  · exact hid
  · exact hq
  have hl1:(b++wUint r.role 2).length≤67000:=by simp only [List.length_append] at *;have:=ln r.role 2;omega
  have hW1:WOn (wrH H id q (b++wUint r.role 2) (wr||!rg r.role 2)) id q (b++wUint r.role 2) (wr||!rg r.role 2):=hW.next (by omega)
  simp only [go_sem,byq,wrH_nx,reqC,e_wNum,e_wVal,e_wByt]
  refine ⟨q,(b++wUint r.role 2),(wr||!rg r.role 2),(hW1).push _,?_⟩
  rw [wrH_push ?_ ?_]
  rotate_left
  · exact hid
  · exact hq
  rw [wrH_wrH hW.ne]
  have hl2:((b++wUint r.role 2)++wUint r.frm 4).length≤133000:=by simp only [List.length_append] at *;have:=ln r.frm 4;omega
  have hW2:WOn (wrH H id q ((b++wUint r.role 2)++wUint r.frm 4) ((wr||!rg r.role 2)||!rg r.frm 4)) id q ((b++wUint r.role 2)++wUint r.frm 4) ((wr||!rg r.role 2)||!rg r.frm 4):=hW.next (by omega)
  simp only [go_sem,byq,wrH_nx,reqC,e_wNum,e_wVal,e_wByt]
  refine ⟨q,((b++wUint r.role 2)++wUint r.frm 4),((wr||!rg r.role 2)||!rg r.frm 4),(hW2).push _,?_⟩
  rw [wrH_push ?_ ?_]
  rotate_left
  · exact hid
  · exact hq
  rw [wrH_wrH hW.ne]
  have hl3:(((b++wUint r.role 2)++wUint r.frm 4)++wUint r.count 2).length≤199000:=by simp only [List.length_append] at *;have:=ln r.count 2;omega
  try simp only [Int.toNat_natCast,vOf_back]
  try simp only [go_sem,byq,wrH_nx]
  have eb:b++bodyR 5 r=(((b++wUint r.role 2)++wUint r.frm 4)++wUint r.count 2):=by
    show b++(wUint r.role 2++wUint r.frm 4++wUint r.count 2)=_
    simp [List.append_assoc]
  have ew:(wr||badR 5 r)=(((wr||!rg r.role 2)||!rg r.frm 4)||!rg r.count 2):=by
    show (wr||(!rg r.role 2||!rg r.frm 4||!rg r.count 2))=_
    simp [Bool.or_assoc]
  rw [eb,ew] at hcl1 ⊢
  skip
  refine ⟨?_,by repeat (first | exact AHeap.Le.refl _ | refine AHeap.Le.push ?_ _),hcl1,?_⟩
  · simp [wk,wk2,wk1,wkLL]
  · simp [zna,znd]
def e_wr6:List AV→AHeap→(AEnd→AHeap→Prop)→Prop
  | [.ptr id 0,.agg l],H,K=>∃ q b wr r,(WOn H id q b wr∧l=reqC r∧ROk r∧b.length≤1000)∧K (.ret (.tup [])) (wrH H id q (b++bodyR 6 r) (wr||badR 6 r))
  | _,_,_=>False
set_option maxHeartbeats 2000000 in
theorem ok_wr6:EntOk Tryz.prog 275 (Ent.effect e_wr6):=by
  refine EntOk.effect fun args H K h=>?_
  unfold e_wr6 at h
  split at h
  rotate_left
  · exact h.elim
  rename_i id l
  obtain ⟨q,b,wr,r,⟨hW,rfl,hr,hb⟩,hK⟩:=h
  refine ⟨_,_,hK,?_⟩
  clear hK
  have hid:=AHeap.get_lt hW.o
  have hq:=AHeap.get_lt hW.bu
  have iv:=isV_of hr.el
  have lv:=wValue_len hr.el
  have ln:=fun n w=>wUint_len n w
  have lb:=wBytes_len r.data
  refine ACalls.of_aw (Ω:=[(85,Ent.effect e_wByt),(81,Ent.effect e_wNum)]) (T:=assoc []) mixed (TblOk.cons ok_wByt (TblOk.cons ok_wNum TblOk.nil)) Tryz.func275 (by kernel_rfl) (by rfl) (rs:=[]) (by rfl) (by kernel_rfl) (by simp only [Tryz.ntmps275,yaz,yba];decide) (by rw [wrH_nx];omega) fun hcl hlt=>?_
  change aw _ _ _ (KI Tryz.prog [(85,Ent.effect e_wByt),(81,Ent.effect e_wNum)] (aEnd Tryz.prog [] H.nx _ _ (assoc [])) []) _ _
  clear hlt
  have hcl1:=hW.closed (b':=b++bodyR 6 r) (wr':=wr||badR 6 r) hcl
  simp only [go_sem,byq,reqC,e_wNum,e_wVal,e_wByt]
  refine ⟨q,b,wr,(hW).push _,?_⟩
  rw [wrH_push ?_ ?_]
  rotate_left
  · exact hid
  · exact hq
  have hl1:(b++wUint r.port 2).length≤67000:=by simp only [List.length_append] at *;have:=ln r.port 2;omega
  have hW1:WOn (wrH H id q (b++wUint r.port 2) (wr||!rg r.port 2)) id q (b++wUint r.port 2) (wr||!rg r.port 2):=hW.next (by omega)
  simp only [go_sem,byq,wrH_nx,reqC,e_wNum,e_wVal,e_wByt]
  refine ⟨q,(b++wUint r.port 2),(wr||!rg r.port 2),r.data,⟨(hW1).push _,rfl⟩,?_⟩
  rw [wrH_push ?_ ?_]
  rotate_left
  · exact hid
  · exact hq
  rw [wrH_wrH hW.ne]
  have hl2:((b++wUint r.port 2)++wBytes r.data).length≤133000:=by simp only [List.length_append] at *;have:=lb;omega
  try simp only [Int.toNat_natCast,vOf_back]
  try simp only [go_sem,byq,wrH_nx]
  have eb:b++bodyR 6 r=((b++wUint r.port 2)++wBytes r.data):=by
    show b++(wUint r.port 2++wBytes r.data)=_
    simp [List.append_assoc]
  have ew:(wr||badR 6 r)=(wr||!rg r.port 2):=by
    show (wr||(!rg r.port 2))=_
    simp [Bool.or_assoc]
  rw [eb,ew] at hcl1 ⊢
  skip
  refine ⟨?_,by repeat (first | exact AHeap.Le.refl _ | refine AHeap.Le.push ?_ _),hcl1,?_⟩
  · simp [wk,wk2,wk1,wkLL]
  · simp [zna,znd]
end Go.AL

