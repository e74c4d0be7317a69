/- Contracts and plain laws, a part of the proof; no condition of its own. -/
import Derived.Test.YthpglnacipgolaaGreatS10z
import Derived.Test.YthpglnacipgolaaGreatAlBun
open List renaming length_cons → yaz, length_nil → yba, take_of_length_le → ybc, drop_append → ybd, take_append → ybe, drop_eq_nil_of_le → ybf, map_cons → yae, map_nil → yaf, drop_zero → yap
open Go Go.AL Go.Proofs
namespace Go.AL
set_option linter.all false
set_option maxRecDepth 10000
theorem ti_bytes:ti Tryz.prog 32=some ⟨.slice 5,1,24,.slice .nil 1 []⟩:=by kernel_rfl
theorem ti_int:ti Tryz.prog 3=some ⟨.int .i64,1,8,.int .i64 0⟩:=by kernel_rfl
theorem ti_uint:ti Tryz.prog 310=some ⟨.int .u64,1,8,.int .u64 0⟩:=by kernel_rfl
theorem ti_u8:ti Tryz.prog 5=some ⟨.int .u8,1,1,.int .u8 0⟩:=by kernel_rfl
theorem ti_bool:ti Tryz.prog 4=some ⟨.bool,1,1,.bool false⟩:=by kernel_rfl
theorem ti_string:ti Tryz.prog 9=some ⟨.string,1,16,.str []⟩:=by kernel_rfl
attribute [go_sem] ti_bytes ti_int ti_uint ti_u8 ti_bool ti_string

/-- wire.joined -/
def p_joined:List AV→AHeap→(AV→Prop)→Prop
  | [.slice _ 1 l1,.slice _ 1 l2],_,K=>(isB l1∧isB l2∧l1.length+l2.length≤140737488355328)∧K (.slice .any 1 (bys (unb l1++unb l2)))
  | _,_,_=>False

theorem ok_joined:EntOk Tryz.prog 303 (Ent.pure p_joined):=by
  refine EntOk.pure fun args H K h=>?_
  unfold p_joined at h
  split at h
  rotate_left
  · exact h.elim
  rename_i m1 l1 m2 l2
  obtain ⟨⟨c1,c2,hle⟩,hK⟩:=h
  refine ⟨_,hK,?_⟩
  obtain ⟨xs,rfl⟩:=isB_out c1
  obtain ⟨ys,rfl⟩:=isB_out c2
  simp only [zlt]
  rw [zle,zle] at hle
  refine ACalls.of_aw (Ω:=[]) (T:=assoc []) mixed TblOk.nil Tryz.func303 (by kernel_rfl) (by rfl) (rs:=[.tmp 4]) (by rfl) (by kernel_rfl) (by simp only [Tryz.ntmps303,yaz,yba];decide) (Nat.le_refl _) fun hcl hlt=>?_
  clear hK hlt
  change aw _ _ _ (KI Tryz.prog [] (aEnd Tryz.prog [.tmp 4] H.nx (.ret (.slice .any 1 (bys (xs++ys)))) H) []) _ _
  have hw:IntKind.i64.wrap (↑xs.length+↑ys.length)=((xs.length+ys.length:Nat):Int):=by rw [wrap_i64]<;>omega
  have e2:(↑(xs.length+ys.length) - ↑xs.length:Int).toNat=ys.length:=by omega
  simp only [go_sem,zav,reduceCtorEq,Nat.reduceEqDiff,Nat.reduceAdd,Nat.reduceMul,Nat.reduceSub,Nat.reduceLeDiff,Nat.reduceLT,Int.reduceMul,Int.reduceAdd,Int.reduceSub,Int.reduceToNat,byq,hw,e2]
  simp (disch:=first | assumption | omega | (simp;done) | (simp;omega) | (simp only [bt,and_true];first | done | omega | (simp;done))) [↓zmi,beq,ybc,ybd,ybe,endOk,wk,wk2,wk1,wkM,wkL,wkLL,ybf,byq,hcl]
  omega

def byteAt (n:Int) (j:Nat):UInt8:=UInt8.ofNat (ishr .i64 n (8*(j:Int)) % 256).toNat
/-- the low bytes of n, the most significant one first: all but the last k of them -/
def beHead (n:Int) (w k:Nat):List UInt8:=(List.range (w - k)).map fun i=>byteAt n (w - 1 - i)
def be (n:Int) (w:Nat):List UInt8:=beHead n w 0
theorem beHead_all (n:Int) (w:Nat):beHead n w w=[]:=by simp [beHead]
theorem beHead_len (n:Int) (w k:Nat):(beHead n w k).length=w - k:=by simp [beHead]
theorem beHead_step (n:Int) (w j:Nat) (h:j+1≤w):beHead n w (j+1)++[byteAt n j]=beHead n w j:=by
  unfold beHead
  have e:w - j=(w - (j+1))+1:=by omega
  rw [e,List.range_succ,List.map_append]
  congr 2
  simp only [yae,yaf]
  congr 2;omega

/-- wire.number -/
def e_number:List AV→AHeap→(AEnd→AHeap→Prop)→Prop
  | [.int .i64 n,.int .i64 w],H,K=>(0≤w∧w≤8)∧K (.ret (.slice (.own (H.nx+1)) 1 (bys (be n w.toNat)))) ((H.push (.buf 1 0)).push (.buf 1 w.toNat))
  | _,_,_=>False

theorem ok_number:EntOk Tryz.prog 304 (Ent.effect e_number):=by
  refine EntOk.effect fun args H K h=>?_
  unfold e_number at h
  split at h
  rotate_left
  · exact h.elim
  rename_i n w
  obtain ⟨hw,hK⟩:=h
  refine ⟨_,_,hK,?_⟩
  refine ACalls.of_aw (Ω:=[]) (T:=assoc []) mixed TblOk.nil Tryz.func304 (by kernel_rfl) (by rfl) (rs:=[.tmp 4]) (by rfl) (by kernel_rfl) (by simp only [Tryz.ntmps304,yaz,yba];decide) (by simp only [zky];omega) fun hcl hlt=>?_
  clear hK hlt
  change aw _ _ _ (KI Tryz.prog [] (aEnd Tryz.prog [.tmp 4] H.nx _ _) []) _ _
  simp only [go_sem,zav,reduceCtorEq,Nat.reduceEqDiff,Nat.reduceAdd,Nat.reduceMul,Nat.reduceSub,Nat.reduceLeDiff,Nat.reduceLT,Int.reduceMul,Int.reduceAdd,Int.reduceSub,Int.reduceToNat,byq]
  refine loop_intro (A:=Nat) (fun k=>[(6,.int .i64 ((k:Int) - 1)),(5,.slice (.own (H.nx+1)) 1 (bys (beHead n w.toNat k))),(0,.int .i64 n)])
    (fun k=>(H.push (.buf 1 0)).push (.buf 1 (w.toNat - k))) (fun k=>k≤w.toNat) (fun k=>k) w.toNat (Nat.le_refl _) ?_ fun k hk=>?_
  · have ew:IntKind.i64.wrap (w - 1)=w - 1:=by rw [wrap_i64]<;>omega
    simp only [bnq,enter,subF,ltF,ne_eq,Nat.reduceEqDiff,reduceCtorEq,beHead_all,zlf,ew,Nat.sub_self,true_or,and_true]
    congr 1;omega
  simp only [go_sem,byq]
  refine cond_split (fun hc=>?_) (fun hc=>?_)
  · have hk0:1≤k:=by simp at hc;omega
    obtain ⟨j,rfl⟩:∃ j,k=j+1:=⟨k - 1,by omega⟩
    have e1:IntKind.i64.wrap (8*(((j+1:Nat):Int) - 1))=8*j:=by rw [wrap_i64]<;>omega
    have e3:IntKind.u64.wrap (8*(j:Int))=8*j:=by rw [wrap_u64]<;>omega
    have e4:IntKind.i64.wrap (((j+1:Nat):Int) - 1 - 1)=(j:Int) - 1:=by rw [wrap_i64]<;>omega
    simp only [go_sem,byq,e1,e3,e4,wrap_u8,beHead_len]
    have e5:=beHead_step n w.toNat j hk
    unfold byteAt at e5
    refine ⟨by omega,⟨by omega,by omega⟩,j,by omega,by omega,?_⟩
    simp only [bnq,enter,subF,ltF,ne_eq,Nat.reduceEqDiff,reduceCtorEq,e5]
    rw [show w.toNat - (j+1)+1=w.toNat - j by omega]
    simp (disch:=first | assumption | omega | (simp;done) | (simp;omega) | (simp only [bt,and_true];first | done | omega | (simp;done))) [↓zmi,beq,ybc,ybd,ybe,endOk,wk,wk2,wk1,wkM,wkL,wkLL,ybf]
    exact .inr (by omega)
  · have hk0:k=0:=by simp at hc;omega
    subst hk0
    simp only [go_sem,byq]
    simp (disch:=first | assumption | omega | (simp;done) | (simp;omega) | (simp only [bt,and_true];first | done | omega | (simp;done))) [↓zmi,beq,ybc,ybd,ybe,endOk,wk,wk2,wk1,wkM,wkL,wkLL,ybf,byq,be]

/-- the bytes of a number of w bytes -/
def wUint (n w:Int):List UInt8:=if 1≤w∧w≤4 then be n w.toNat else []
theorem be_len (n:Int) (w:Nat):(be n w).length=w:=by simp [be,beHead_len]

/-- wire.AppendUint -/
def p_AppendUint:List AV→AHeap→(AV→Prop)→Prop
  | [.slice _ 1 l,.int .i64 n,.int .i64 w],_,K=>(isB l∧l.length≤140737488355000)∧K (.slice .any 1 (bys (unb l++wUint n w)))
  | _,_,_=>False

theorem ok_AppendUint:EntOk Tryz.prog 175 (Ent.pure p_AppendUint):=by
  refine EntOk.pure fun args H K h=>?_
  unfold p_AppendUint at h
  split at h
  rotate_left
  · exact h.elim
  rename_i m l n w
  obtain ⟨⟨c1,hle⟩,hK⟩:=h
  refine ⟨_,hK,?_⟩
  obtain ⟨xs,rfl⟩:=isB_out c1
  simp only [zlt]
  rw [zle] at hle
  refine ACalls.of_aw (Ω:=[(304,Ent.effect e_number),(303,Ent.pure p_joined)]) (T:=assoc []) mixed (TblOk.cons ok_number (TblOk.cons ok_joined TblOk.nil)) Tryz.func175 (by kernel_rfl) (by rfl) (rs:=[.tmp 6]) (by rfl) (by kernel_rfl) (by simp only [Tryz.ntmps175,yaz,yba];decide) (Nat.le_refl _) fun hcl hlt=>?_
  change aw _ _ _ (KI Tryz.prog [(304,Ent.effect e_number),(303,Ent.pure p_joined)] (aEnd Tryz.prog [.tmp 6] H.nx _ _) []) _ _
  clear hK hlt
  simp only [go_sem,zav,reduceCtorEq,Nat.reduceEqDiff,Nat.reduceAdd,Nat.reduceMul,Nat.reduceSub,Nat.reduceLeDiff,Nat.reduceLT,Int.reduceMul,Int.reduceAdd,Int.reduceSub,Int.reduceToNat,byq,p_joined,e_number]
  refine both_split (fun h1=>?_) (fun h1=>both_split (fun h2=>?_) (fun h2=>?_))
  all_goals simp only [decide_eq_true_eq,decide_eq_false_iff_not] at *
  · have e:wUint n w=[]:=by unfold wUint;rw [if_neg (by omega)]
    simp (disch:=first | assumption | omega | (simp;done) | (simp;omega) | (simp only [bt,and_true];first | done | omega | (simp;done))) [↓zmi,beq,ybc,ybd,ybe,endOk,wk,wk2,wk1,wkM,wkL,wkLL,ybf,byq,e,hcl]
    omega
  · have e:wUint n w=[]:=by unfold wUint;rw [if_neg (by omega)]
    simp (disch:=first | assumption | omega | (simp;done) | (simp;omega) | (simp only [bt,and_true];first | done | omega | (simp;done))) [↓zmi,beq,ybc,ybd,ybe,endOk,wk,wk2,wk1,wkM,wkL,wkLL,ybf,byq,e,hcl]
    omega
  · have e:wUint n w=be n w.toNat:=by unfold wUint;rw [if_pos (by omega)]
    simp (disch:=first | assumption | omega | (simp;done) | (simp;omega) | (simp only [bt,and_true];first | done | omega | (simp;done))) [↓zmi,beq,ybc,ybd,ybe,endOk,wk,wk2,wk1,wkM,wkL,wkLL,ybf,byq,e,be_len,hcl]
    omega

/-- wire.AppendBool -/
def p_AppendBool:List AV→AHeap→(AV→Prop)→Prop
  | [.slice _ 1 l,.bool b],_,K=>(isB l∧l.length≤140737488355000)∧K (.slice .any 1 (bys (unb l++[if b then 1 else 0])))
  | _,_,_=>False

theorem ok_AppendBool:EntOk Tryz.prog 223 (Ent.pure p_AppendBool):=by
  refine EntOk.pure fun args H K h=>?_
  unfold p_AppendBool at h
  split at h
  rotate_left
  · exact h.elim
  rename_i m l b
  obtain ⟨⟨c1,hle⟩,hK⟩:=h
  refine ⟨_,hK,?_⟩
  obtain ⟨xs,rfl⟩:=isB_out c1
  simp only [zlt]
  rw [zle] at hle
  refine ACalls.of_aw (Ω:=[(303,Ent.pure p_joined)]) (T:=assoc []) mixed (TblOk.cons ok_joined TblOk.nil) Tryz.func223 (by kernel_rfl) (by rfl) (rs:=[.tmp 4]) (by rfl) (by kernel_rfl) (by simp only [Tryz.ntmps223,yaz,yba];decide) (Nat.le_refl _) fun hcl hlt=>?_
  change aw _ _ _ (KI Tryz.prog [(303,Ent.pure p_joined)] (aEnd Tryz.prog [.tmp 4] H.nx _ _) []) _ _
  clear hK hlt
  have l1:AV.int .u8 1=ofByte 1:=rfl
  have l0:AV.int .u8 0=ofByte 0:=rfl
  simp only [go_sem,zav,reduceCtorEq,Nat.reduceEqDiff,Nat.reduceAdd,Nat.reduceMul,Nat.reduceSub,Nat.reduceLeDiff,Nat.reduceLT,Int.reduceMul,Int.reduceAdd,Int.reduceSub,Int.reduceToNat,byq,p_joined,l1,l0]
  refine both_split (fun h1=>?_) (fun h1=>?_)
  all_goals
    subst h1
    simp (disch:=first | assumption | omega | (simp;done) | (simp;omega) | (simp only [bt,and_true];first | done | omega | (simp;done))) [↓zmi,beq,ybc,ybd,ybe,endOk,wk,wk2,wk1,wkM,wkL,wkLL,ybf,byq,hcl]
    omega

/-- the bytes of a byte string -/
def wBytes (bs:List UInt8):List UInt8:=be (min (bs.length:Int) 65535) 2++bs.take (min (bs.length:Int) 65535).toNat
theorem wBytes_len (bs:List UInt8):(wBytes bs).length≤65537:=by
  unfold wBytes
  rw [List.length_append,be_len,List.length_take]
  omega

/-- wire.AppendBytes -/
def p_AppendBytes:List AV→AHeap→(AV→Prop)→Prop
  | [.slice _ 1 l,.slice _ 1 l2],_,K=>(isB l∧isB l2∧l.length≤140737488000000)∧K (.slice .any 1 (bys (unb l++wBytes (unb l2))))
  | _,_,_=>False

theorem ok_AppendBytes:EntOk Tryz.prog 226 (Ent.pure p_AppendBytes):=by
  refine EntOk.pure fun args H K h=>?_
  unfold p_AppendBytes at h
  split at h
  rotate_left
  · exact h.elim
  rename_i m l m2 l2
  obtain ⟨⟨c1,c2,hle⟩,hK⟩:=h
  refine ⟨_,hK,?_⟩
  obtain ⟨xs,rfl⟩:=isB_out c1
  obtain ⟨ys,rfl⟩:=isB_out c2
  simp only [zlt,zle] at *
  refine ACalls.of_aw (Ω:=[(304,Ent.effect e_number),(303,Ent.pure p_joined)]) (T:=assoc []) mixed (TblOk.cons ok_number (TblOk.cons ok_joined TblOk.nil)) Tryz.func226 (by kernel_rfl) (by rfl) (rs:=[.tmp 4]) (by rfl) (by kernel_rfl) (by simp only [Tryz.ntmps226,yaz,yba];decide) (Nat.le_refl _) fun hcl hlt=>?_
  change aw _ _ _ (KI Tryz.prog [(304,Ent.effect e_number),(303,Ent.pure p_joined)] (aEnd Tryz.prog [.tmp 4] H.nx _ _) []) _ _
  clear hK hlt
  have el:((ys.take (min (ys.length:Int) 65535).toNat).length:Int)=min (ys.length:Int) 65535:=by rw [List.length_take];omega
  have el2:(ys.take (min (ys.length:Int) 65535).toNat).length≤65535:=by rw [List.length_take];omega
  simp only [go_sem,zav,reduceCtorEq,Nat.reduceEqDiff,Nat.reduceAdd,Nat.reduceMul,Nat.reduceSub,Nat.reduceLeDiff,Nat.reduceLT,Int.reduceMul,Int.reduceAdd,Int.reduceSub,Int.reduceToNat,byq,p_joined,e_number,yap,el,Int.reduceToNat,be_len,List.length_append]
  have e:be (min (ys.length:Int) 65535) 2++ys.take (min (ys.length:Int) 65535).toNat=wBytes ys:=rfl
  simp only [e]
  refine ⟨by omega,by omega,⟨by omega,by omega⟩,by omega,?_⟩
  simp (disch:=first | assumption | omega | (simp;done) | (simp;omega) | (simp only [bt,and_true];first | done | omega | (simp;done))) [↓zmi,beq,ybc,ybd,ybe,endOk,wk,wk2,wk1,wkM,wkL,wkLL,ybf,byq,hcl]
/-- wire.AppendText -/
def p_AppendText:List AV→AHeap→(AV→Prop)→Prop
  | [.slice _ 1 l,.str s],_,K=>(isB l∧l.length≤140737488000000∧s.length≤140737488000000)∧K (.slice .any 1 (bys (unb l++wBytes s)))
  | _,_,_=>False

theorem ok_AppendText:EntOk Tryz.prog 305 (Ent.pure p_AppendText):=by
  refine EntOk.pure fun args H K h=>?_
  unfold p_AppendText at h
  split at h
  rotate_left
  · exact h.elim
  rename_i m l s
  obtain ⟨⟨c1,hle,hs⟩,hK⟩:=h
  refine ⟨_,hK,?_⟩
  obtain ⟨xs,rfl⟩:=isB_out c1
  simp only [zlt,zle] at *
  refine ACalls.of_aw (Ω:=[(226,Ent.pure p_AppendBytes)]) (T:=assoc []) mixed (TblOk.cons ok_AppendBytes TblOk.nil) Tryz.func305 (by kernel_rfl) (by rfl) (rs:=[.tmp 4]) (by rfl) (by kernel_rfl) (by simp only [Tryz.ntmps305,yaz,yba];decide) (Nat.le_refl _) fun hcl hlt=>?_
  change aw _ _ _ (KI Tryz.prog [(226,Ent.pure p_AppendBytes)] (aEnd Tryz.prog [.tmp 4] H.nx _ _) []) _ _
  clear hK hlt
  simp only [go_sem,zav,reduceCtorEq,Nat.reduceEqDiff,Nat.reduceAdd,Nat.reduceMul,Nat.reduceSub,Nat.reduceLeDiff,Nat.reduceLT,Int.reduceMul,Int.reduceAdd,Int.reduceSub,Int.reduceToNat,byq,p_AppendBytes]
  refine ⟨by omega,by omega,?_⟩
  simp (disch:=first | assumption | omega | (simp;done) | (simp;omega) | (simp only [bt,and_true];first | done | omega | (simp;done))) [↓zmi,beq,ybc,ybd,ybe,endOk,wk,wk2,wk1,wkM,wkL,wkLL,ybf,byq,hcl]

end Go.AL

