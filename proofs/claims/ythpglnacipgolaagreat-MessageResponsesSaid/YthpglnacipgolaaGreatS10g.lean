/- Contracts and plain laws, a part of the proof; no condition of its own. -/
import Derived.Test.YthpglnacipgolaaGreatS10e
import Derived.Test.YthpglnacipgolaaGreatLEntB
open List renaming length_cons → yaz, length_nil → yba, take_of_length_le → ybc, drop_append → ybd, take_append → ybe, drop_eq_nil_of_le → ybf, length_map → ybb, map_nil → yaf, getD_cons_zero → yau, getD_cons_succ → yav, take_succ_cons → yaq, take_zero → yar, drop_succ_cons → yao, drop_zero → yap, cons_append → yal, nil_append → yak
open Go Go.AL Go.Proofs
namespace Go.AL
set_option linter.all false
set_option maxRecDepth 10000

theorem vOf_mod {hi lo k:Nat} (h:lo<2^64):vOf hi lo % 2^(64+k)=vOf (hi % 2^k) lo:=by
  unfold vOf
  rw [Nat.pow_add,Nat.mod_mul,show (2^64*hi+lo) % 2^64=lo by omega,show (2^64*hi+lo)/2^64=hi by omega]
  omega
theorem vOf_mod_lo {hi lo k:Nat} (hk:k≤64):vOf hi lo % 2^k=lo % 2^k:=by
  unfold vOf
  rw [show (2:Nat)^64=2^k*2^(64 - k) by rw [← Nat.pow_add];congr 1;omega,Nat.mul_assoc,Nat.mul_add_mod]
theorem shl_one {k:Nat} (h:k<64):ishl .u64 1 (k:Int)=((2^k:Nat):Int):=by
  have:=ishl_u64 1 k
  rw [Nat.shiftLeft_eq,Nat.one_mul,Nat.mod_eq_of_lt (Nat.pow_lt_pow_right (by decide) h)] at this
  exact this
theorem two_pow_lt {k:Nat} (h:k<64):2^k<2^64:=Nat.pow_lt_pow_right (by decide) h
theorem wrap_pow1 {k:Nat} (h:k<64):IntKind.u64.wrap (((2^k:Nat):Int) - 1)=((2^k - 1:Nat):Int):=by
  have h1:=two_pow_lt h
  have h2:=Nat.two_pow_pos k
  generalize 2^k=p at *
  rw [wrap_u64]<;>omega
theorem and_mask {a k:Nat} (ha:a<2^64) (h:k<64):iand .u64 (a:Int) ((2^k - 1:Nat):Int)=((a % 2^k:Nat):Int):=by
  have h1:=two_pow_lt h
  rw [iand_u64 a _ ha (by have:=Nat.two_pow_pos k;omega),Nat.and_two_pow_sub_one_eq_mod]
def isVz (hi lo:Int):Prop:=0≤hi∧hi<18446744073709551616∧0≤lo∧lo<18446744073709551616
def p_cLow:List AV→AHeap→(AV→Prop)→Prop
  | [.agg [.int .u64 a,.int .u64 b],.int .i64 w],_,K=>(isVz a b ∧ -9223372036854775808≤w∧w<9223372036854775808)∧K (vv (low (vOf a.toNat b.toNat) w))
  | _,_,_=>False
theorem ok_cLow:EntOk Tryz.prog 327 (Ent.pure p_cLow):=by
  refine EntOk.pure fun args H K h=>?_
  unfold p_cLow at h
  split at h
  rotate_left
  · exact h.elim
  rename_i a b w
  obtain ⟨⟨⟨h0,h1,h2,h3⟩,hw1,hw2⟩,hK⟩:=h
  refine ⟨_,hK,?_⟩
  obtain ⟨x,rfl⟩:=u64_lift h0
  obtain ⟨y,rfl⟩:=u64_lift h2
  clear hK h0 h2
  simp only [Int.toNat_natCast]
  have hx:x<2^64:=by omega
  have hy:y<2^64:=by omega
  unfold low
  rcases (by omega:128≤w∨(64≤w∧w<128)∨w≤0∨(0<w∧w<64)) with h | h | h | h
  · rw [if_pos h,vv_vOf hy]
    have d1:decide (w ≥ 128)=true:=decide_eq_true h
    refine ACalls.of_aw (Ω:=[]) (T:=assoc []) mixed TblOk.nil Tryz.func327 (by kernel_rfl) (by rfl) (rs:=[.cell 4 83]) (by rfl) (by kernel_rfl) (by simp only [Tryz.ntmps327,yaz,yba];decide) (Nat.le_refl _) fun hcl hlt=>?_
    change aw _ _ _ (KI Tryz.prog [] (aEnd Tryz.prog [.cell 4 83] H.nx _ _) []) _ _
    clear hlt
    simp only [go_sem,d1]
    simp (disch:=first | assumption | omega | (simp;done) | (simp;omega) | (simp only [bt,and_true];first | done | omega | (simp;done))) [↓zlw,beq,ybc,ybd,ybe,endOk,wk,wk2,wk1,wkM,wkL,wkLL,ybf,hcl]
  · rw [if_neg (by omega)]
    obtain ⟨k,rfl⟩:∃ k:Nat,w=k+64:=⟨(w - 64).toNat,by omega⟩
    have hk:k<64:=by omega
    rw [show ((k:Int)+64).toNat=64+k by omega,vOf_mod hy,vv_vOf hy]
    have d1:decide ((k:Int)+64 ≥ 128)=false:=decide_eq_false (by omega)
    have d2:decide ((k:Int)+64 ≥ 64)=true:=decide_eq_true (by omega)
    have e1:IntKind.i64.wrap ((k:Int)+64 - 64)=(k:Int):=by rw [wrap_i64]<;>omega
    have e2:IntKind.u64.wrap (k:Int)=(k:Int):=by rw [wrap_u64]<;>omega
    refine ACalls.of_aw (Ω:=[]) (T:=assoc []) mixed TblOk.nil Tryz.func327 (by kernel_rfl) (by rfl) (rs:=[.cell 4 83]) (by rfl) (by kernel_rfl) (by simp only [Tryz.ntmps327,yaz,yba];decide) (Nat.le_refl _) fun hcl hlt=>?_
    change aw _ _ _ (KI Tryz.prog [] (aEnd Tryz.prog [.cell 4 83] H.nx _ _) []) _ _
    clear hlt
    simp only [go_sem,d1,d2,e1,e2,shl_one hk,wrap_pow1 hk,and_mask hx hk]
    (repeat with_reducible refine And.intro (by first | exact True.intro | decide | omega | (simp [zib,zge,zgf,zgg,zgi,zgh,zgm];first | done | omega)) ?_)
    simp (disch:=first | assumption | omega | (simp;done) | (simp;omega) | (simp only [bt,and_true];first | done | omega | (simp;done))) [↓zlw,beq,ybc,ybd,ybe,endOk,wk,wk2,wk1,wkM,wkL,wkLL,ybf,hcl]
  · rw [if_neg (by omega),show w.toNat=0 by omega,Nat.pow_zero,Nat.mod_one]
    have v0:vv 0=.agg [.int .u64 0,.int .u64 0]:=rfl
    have d1:decide (w ≥ 128)=false:=decide_eq_false (by omega)
    have d2:decide (w ≥ 64)=false:=decide_eq_false (by omega)
    have d3:decide (w≤0)=true:=decide_eq_true (by omega)
    refine ACalls.of_aw (Ω:=[]) (T:=assoc []) mixed TblOk.nil Tryz.func327 (by kernel_rfl) (by rfl) (rs:=[.cell 4 83]) (by rfl) (by kernel_rfl) (by simp only [Tryz.ntmps327,yaz,yba];decide) (Nat.le_refl _) fun hcl hlt=>?_
    change aw _ _ _ (KI Tryz.prog [] (aEnd Tryz.prog [.cell 4 83] H.nx _ _) []) _ _
    clear hlt
    simp only [go_sem,d1,d2,d3,v0]
    simp (disch:=first | assumption | omega | (simp;done) | (simp;omega) | (simp only [bt,and_true];first | done | omega | (simp;done))) [↓zlw,beq,ybc,ybd,ybe,endOk,wk,wk2,wk1,wkM,wkL,wkLL,ybf,hcl]
  · rw [if_neg (by omega)]
    obtain ⟨k,rfl⟩:∃ k:Nat,w=k:=⟨w.toNat,by omega⟩
    have hk:k<64:=by omega
    rw [Int.toNat_natCast,vOf_mod_lo (by omega)]
    have v0:vv (y % 2^k)=.agg [.int .u64 0,.int .u64 ((y % 2^k:Nat):Int)]:=by
      have:=vv_vOf (hi:=0) (lo:=y % 2^k) (Nat.lt_of_le_of_lt (Nat.mod_le _ _) hy)
      simpa [vOf] using this
    have d1:decide ((k:Int) ≥ 128)=false:=decide_eq_false (by omega)
    have d2:decide ((k:Int) ≥ 64)=false:=decide_eq_false (by omega)
    have d3:decide ((k:Int)≤0)=false:=decide_eq_false (by omega)
    have e2:IntKind.u64.wrap (k:Int)=(k:Int):=by rw [wrap_u64]<;>omega
    refine ACalls.of_aw (Ω:=[]) (T:=assoc []) mixed TblOk.nil Tryz.func327 (by kernel_rfl) (by rfl) (rs:=[.cell 4 83]) (by rfl) (by kernel_rfl) (by simp only [Tryz.ntmps327,yaz,yba];decide) (Nat.le_refl _) fun hcl hlt=>?_
    change aw _ _ _ (KI Tryz.prog [] (aEnd Tryz.prog [.cell 4 83] H.nx _ _) []) _ _
    clear hlt
    simp only [go_sem,d1,d2,d3,e2,shl_one hk,wrap_pow1 hk,and_mask hy hk,v0]
    (repeat with_reducible refine And.intro (by first | exact True.intro | decide | omega | (simp [zib,zge,zgf,zgg,zgi,zgh,zgm];first | done | omega)) ?_)
    simp (disch:=first | assumption | omega | (simp;done) | (simp;omega) | (simp only [bt,and_true];first | done | omega | (simp;done))) [↓zlw,beq,ybc,ybd,ybe,endOk,wk,wk2,wk1,wkM,wkL,wkLL,ybf,hcl]
def p_cMask:List AV→AHeap→(AV→Prop)→Prop
  | [.int .i64 w,.int .i64 n],_,K=>(1≤n∧n≤w∧w≤63)∧K (.agg [.int .u64 0,.int .u64 ((maskN w n:Nat):Int)])
  | _,_,_=>False
theorem ok_cMask:EntOk Tryz.prog 362 (Ent.pure p_cMask):=by
  refine EntOk.pure fun args H K h=>?_
  unfold p_cMask at h
  split at h
  rotate_left
  · exact h.elim
  rename_i w n
  obtain ⟨⟨h1,h2,h3⟩,hK⟩:=h
  refine ⟨_,hK,?_⟩
  clear hK
  obtain ⟨w,rfl⟩:∃ k:Nat,w=k:=⟨w.toNat,by omega⟩
  obtain ⟨n,rfl⟩:∃ k:Nat,n=k:=⟨n.toNat,by omega⟩
  have hw:w<64:=by omega
  have hk:w - n<64:=by omega
  have e1:IntKind.i64.wrap ((w:Int) - (n:Int))=((w - n:Nat):Int):=by rw [wrap_i64]<;>omega
  have e2:IntKind.u64.wrap (w:Int)=(w:Int):=by rw [wrap_u64]<;>omega
  have e3:IntKind.u64.wrap ((w - n:Nat):Int)=((w - n:Nat):Int):=by rw [wrap_u64]<;>omega
  have e4:IntKind.u64.wrap (((2^w - 1:Nat):Int) - ((2^(w - n) - 1:Nat):Int))=((2^w - 2^(w - n):Nat):Int):=by
    have q1:=two_pow_lt hw
    have q2:=Nat.two_pow_pos (w - n)
    have q3:2^(w - n)≤2^w:=Nat.pow_le_pow_right (by decide) (by omega)
    generalize 2^w=p at *
    generalize 2^(w - n)=q at *
    rw [wrap_u64]<;>omega
  have e5:maskN (w:Int) (n:Int)=2^w - 2^(w - n):=by
    unfold maskN
    rw [Int.toNat_natCast,show ((w:Int) - (n:Int)).toNat=w - n by omega]
  rw [e5]
  refine ACalls.of_aw (Ω:=[]) (T:=assoc []) mixed TblOk.nil Tryz.func362 (by kernel_rfl) (by rfl) (rs:=[.cell 4 83]) (by rfl) (by kernel_rfl) (by simp only [Tryz.ntmps362,yaz,yba];decide) (Nat.le_refl _) fun hcl hlt=>?_
  change aw _ _ _ (KI Tryz.prog [] (aEnd Tryz.prog [.cell 4 83] H.nx _ _) []) _ _
  clear hlt
  simp only [go_sem,e1,e2,e3,shl_one hw,shl_one hk,wrap_pow1 hw,wrap_pow1 hk,e4]
  (repeat with_reducible refine And.intro (by first | exact True.intro | decide | omega | (simp [zib,zge,zgf,zgg,zgi,zgh,zgm];first | done | omega)) ?_)
  simp (disch:=first | assumption | omega | (simp;done) | (simp;omega) | (simp only [bt,and_true];first | done | omega | (simp;done))) [↓zlw,beq,ybc,ybd,ybe,endOk,wk,wk2,wk1,wkM,wkL,wkLL,ybf,hcl]
theorem getD_map {α:Type} {f:α→AV} {l:List α} {k:Nat} {x:α} (hx:l[k]?=some x):(l.map f).getD k .junk=f x:=by
  rw [List.getD_eq_getElem?_getD,List.getElem?_map,hx];rfl
def p_cBitsOf:List AV→AHeap→(AV→Prop)→Prop
  | [.agg l,.int .i64 id],_,K=>∃ S:Sch,(l=schC S∧S.fields.length≤1000000)∧K (.int .i64 (bitsF S id))
  | _,_,_=>False
theorem ok_cBitsOf:EntOk Tryz.prog 361 (Ent.pure p_cBitsOf):=by
  refine EntOk.pure fun args H K h=>?_
  unfold p_cBitsOf at h
  split at h
  rotate_left
  · exact h.elim
  rename_i l id
  obtain ⟨S,⟨rfl,hl⟩,hK⟩:=h
  refine ⟨_,hK,?_⟩
  clear hK
  generalize hR:bitsF S id=R
  unfold bitsF at hR
  refine ACalls.of_aw (Ω:=[]) (T:=assoc []) mixed TblOk.nil Tryz.func361 (by kernel_rfl) (by rfl) (rs:=[.tmp 4]) (by rfl) (by kernel_rfl) (by simp only [Tryz.ntmps361,yaz,yba];decide) (Nat.le_refl _) fun hcl hlt=>?_
  change aw _ _ _ (KI Tryz.prog [] (aEnd Tryz.prog [.tmp 4] H.nx _ _) []) _ _
  clear hlt
  simp only [go_sem,schC,ybb]
  refine loop_introW (A:=Nat) (fun k=>[(1,.int .i64 id),(8,.slice .any 3 (S.fields.map fieldAV)),(9,.int .i64 (S.fields.length:Int)),(10,.int .i64 (k:Int))]) (fun _=>H) (fun k=>k≤S.fields.length∧bitsL (S.fields.drop k) id=R) (fun k=>S.fields.length - k) 0 ⟨by omega,hR⟩ ?_ fun k hk=>?_
  · refine ⟨Nat.le_refl _,(AHeap.Le.refl _).push _,hcl,?_,?_⟩
    · simp [ltF,zmn,lt_map lt_field]
    · simp [subW,wk2,wk1,wkM,Fr.get]
  clear hR
  obtain ⟨hk,hR⟩:=hk
  simp only [go_sem]
  refine cond_split (fun hc=>?_) (fun hc=>?_)
  · have hk':k<S.fields.length:=by simp at hc;omega
    obtain ⟨x,hx⟩:∃ x,x=S.fields[k]:=⟨_,rfl⟩
    have hd:S.fields.drop k=x::S.fields.drop (k+1):=by rw [hx];exact List.drop_eq_getElem_cons hk'
    have hg:=getD_map (f:=fieldAV) (l:=S.fields) (k:=k) (x:=x) (by rw [List.getElem?_eq_getElem hk',hx])
    have e5:IntKind.i64.wrap ((k:Int)+1)=((k+1:Nat):Int):=by rw [wrap_i64]<;>omega
    rw [hd] at hR
    unfold bitsL at hR
    by_cases he:x.id=id
    · rw [if_pos he] at hR
      subst he
      simp only [go_sem,Int.toNat_natCast,ybb,hg,fieldAV,beq_self_eq_true,hR]
      (repeat with_reducible refine And.intro (by first | exact True.intro | decide | omega | (simp [zib,zge,zgf,zgg,zgi,zgh,zgm];first | done | omega)) ?_)
      simp (disch:=first | assumption | omega | (simp;done) | (simp;omega) | (simp only [bt,and_true];first | done | omega | (simp;done))) [↓zlw,beq,ybc,ybd,ybe,endOk,wk,wk2,wk1,wkM,wkL,wkLL,ybf,hcl]
    · rw [if_neg he] at hR
      have d1:(x.id==id)=false:=by simpa using he
      simp only [go_sem,Int.toNat_natCast,ybb,hg,fieldAV,d1,e5]
      (repeat with_reducible refine And.intro (by first | exact True.intro | decide | omega | (simp [zib,zge,zgf,zgg,zgi,zgh,zgm];first | done | omega)) ?_)
      refine ⟨k+1,⟨by omega,hR⟩,by omega,Nat.le_refl _,(AHeap.Le.refl _).push _,hcl,?_,?_⟩
      · simp [ltF,zmn,lt_map lt_field]
      · simp [subW,wk2,wk1,wkM,Fr.get]
  · have hk':k=S.fields.length:=by simp at hc;omega
    subst hk'
    rw [List.drop_length] at hR
    unfold bitsL at hR
    simp only [go_sem,hR]
    simp (disch:=first | assumption | omega | (simp;done) | (simp;omega) | (simp only [bt,and_true];first | done | omega | (simp;done))) [↓zlw,beq,ybc,ybd,ybe,endOk,wk,wk2,wk1,wkM,wkL,wkLL,ybf,hcl]
def p_cActionIn:List AV→AHeap→(AV→Prop)→Prop
  | [.agg l,.int .i64 id],_,K=>∃ S:Sch,(l=schC S∧S.actions.length≤1000000)∧K (actionAV (actionL S.actions id))
  | _,_,_=>False
theorem ok_cActionIn:EntOk Tryz.prog 326 (Ent.pure p_cActionIn):=by
  refine EntOk.pure fun args H K h=>?_
  unfold p_cActionIn at h
  split at h
  rotate_left
  · exact h.elim
  rename_i l id
  obtain ⟨S,⟨rfl,hl⟩,hK⟩:=h
  refine ⟨_,hK,?_⟩
  clear hK
  generalize hR:actionL S.actions id=R
  refine ACalls.of_aw (Ω:=[]) (T:=assoc []) mixed TblOk.nil Tryz.func326 (by kernel_rfl) (by rfl) (rs:=[.cell 4 53]) (by rfl) (by kernel_rfl) (by simp only [Tryz.ntmps326,yaz,yba];decide) (Nat.le_refl _) fun hcl hlt=>?_
  change aw _ _ _ (KI Tryz.prog [] (aEnd Tryz.prog [.cell 4 53] H.nx _ _) []) _ _
  clear hlt
  simp only [go_sem,schC,ybb]
  have hcz:((H.push (.cells (schC S))).push (.cells [.int .i64 0,.str [],.slice .nil 1 [],.slice .nil 1 [],.str []])).Closed :=
    closed_cells (closed_cells hcl (ltL_iff.2 fun j hj=>AV.lt_cells (lt_sch S) j hj)) (by simp [znc,znd,zmn,zmp,lt_sliceL])
  refine loop_introW (A:=Nat) (fun k=>[(1,.int .i64 id),(4,.ptr (H.nx+1) 0),(8,.slice .any 5 (S.actions.map actionAV)),(9,.int .i64 (S.actions.length:Int)),(10,.int .i64 (k:Int))]) (fun _=>(H.push (.cells (schC S))).push (.cells [.int .i64 0,.str [],.slice .nil 1 [],.slice .nil 1 [],.str []])) (fun k=>k≤S.actions.length∧actionL (S.actions.drop k) id=R) (fun k=>S.actions.length - k) 0 ⟨by omega,hR⟩ ?_ fun k hk=>?_
  · refine ⟨by simp only [zkm,zjy,zkd];omega,AHeap.Le.refl _,hcz,?_,?_⟩
    · simp [ltF,zmn,zmv,zkm,lt_map lt_action]
    · simp [subW,wk2,wk1,wkM,Fr.get]
  clear hR
  obtain ⟨hk,hR⟩:=hk
  simp only [go_sem]
  refine cond_split (fun hc=>?_) (fun hc=>?_)
  · have hk':k<S.actions.length:=by simp at hc;omega
    obtain ⟨x,hx⟩:∃ x,x=S.actions[k]:=⟨_,rfl⟩
    have hd:S.actions.drop k=x::S.actions.drop (k+1):=by rw [hx];exact List.drop_eq_getElem_cons hk'
    have hg:=getD_map (f:=actionAV) (l:=S.actions) (k:=k) (x:=x) (by rw [List.getElem?_eq_getElem hk',hx])
    have e5:IntKind.i64.wrap ((k:Int)+1)=((k+1:Nat):Int):=by rw [wrap_i64]<;>omega
    rw [hd] at hR
    unfold actionL at hR
    by_cases he:x.id=id
    · rw [if_pos he] at hR
      subst he
      subst hR
      simp only [go_sem,Int.toNat_natCast,ybb,hg,actionAV,beq_self_eq_true]
      (repeat with_reducible refine And.intro (by first | exact True.intro | decide | omega | (simp [zib,zge,zgf,zgg,zgi,zgh,zgm];first | done | omega)) ?_)
      have:=lt_action (n:=H.nx) x
      simp only [actionAV] at this
      simp (disch:=first | assumption | omega | (simp;done) | (simp;omega) | (simp only [bt,and_true];first | done | omega | (simp;done))) [↓zlw,beq,ybc,ybd,ybe,endOk,wk,wk2,wk1,wkM,wkL,wkLL,ybf,hcl,this]
    · rw [if_neg he] at hR
      have d1:(x.id==id)=false:=by simpa using he
      simp only [go_sem,Int.toNat_natCast,ybb,hg,actionAV,d1,e5]
      (repeat with_reducible refine And.intro (by first | exact True.intro | decide | omega | (simp [zib,zge,zgf,zgg,zgi,zgh,zgm];first | done | omega)) ?_)
      refine ⟨k+1,⟨by omega,hR⟩,by omega,by simp only [zkm];omega,(AHeap.Le.refl _).push _,hcz,?_,?_⟩
      · simp [ltF,zmn,zmv,zkm,lt_map lt_action]
      · simp [subW,wk2,wk1,wkM,Fr.get,actionAV]
  · have hk':k=S.actions.length:=by simp at hc;omega
    subst hk'
    rw [List.drop_length] at hR
    unfold actionL at hR
    subst hR
    simp only [go_sem,actionAV,yaf]
    simp (disch:=first | assumption | omega | (simp;done) | (simp;omega) | (simp only [bt,and_true];first | done | omega | (simp;done))) [↓zlw,beq,ybc,ybd,ybe,endOk,wk,wk2,wk1,wkM,wkL,wkLL,ybf,hcl]
end Go.AL


open Go Go.AL Go.Proofs
namespace Go.AL
set_option linter.all false
set_option maxRecDepth 10000

def gsMatch (w kind:Int):List UInt8→Nat→AV × Nat:=fun b v=>(matchAV (gMatch b v w kind).1,(gMatch b v w kind).2)
theorem gNum_min {b:List UInt8} {v:Nat}:gNum b (min v b.length)=gNum b v:=by unfold gNum;simp only [cv_min_add,cv_min]
theorem gPfx_min {b:List UInt8} {v k:Nat} {w:Int}:gPfx b (min v b.length+k) w=gPfx b (v+k) w:=by unfold gPfx ci;simp only [Nat.add_assoc,cv_min_add]
theorem gMask_min {b:List UInt8} {v k:Nat}:gMask b (min v b.length+k)=gMask b (v+k):=by unfold gMask;simp only [Nat.add_assoc,cv_min_add]
theorem st_match (w kind:Int):Stable (gsMatch w kind):=fun b v=>by
  unfold gsMatch gMatch
  simp only [gNum_min,gPfx_min,gMask_min,cv_min_add]
  by_cases h2:kind=2
  · simp only [if_pos h2]
    by_cases h:0<cv b (v+3) 5
    · simp only [if_pos h];first | exact ⟨rfl,6,rfl,rfl⟩ | exact ⟨trivial,6,rfl,rfl⟩
    · simp only [if_neg h];first | exact ⟨rfl,4,rfl,rfl⟩ | exact ⟨trivial,4,rfl,rfl⟩
  by_cases h3:kind=3
  · simp only [if_neg h2,if_pos h3]
    split<;>first | exact ⟨rfl,5,rfl,rfl⟩ | exact ⟨trivial,5,rfl,rfl⟩
  by_cases h4:kind=4
  · simp only [if_neg h2,if_neg h3,if_pos h4]
    split<;>first | exact ⟨rfl,5,rfl,rfl⟩ | exact ⟨trivial,5,rfl,rfl⟩
  · simp only [if_neg h2,if_neg h3,if_neg h4]
    first | exact ⟨rfl,3,rfl,rfl⟩ | exact ⟨trivial,3,rfl,rfl⟩
def e_CMatch:List AV→AHeap→(AEnd→AHeap→Prop)→Prop
  | [.ptr id 0,.agg l,.agg [.str nm,.int .i64 fld,.int .i64 kind]],H,K=>∃ S:Sch,(l=schC S∧S.fields.length≤1000000∧1≤bitsF S fld∧bitsF S fld≤32∧(kind=2→16≤bitsF S fld)) ∧
      onS (H.get id) (gsMatch (bitsF S fld) kind) fun x o=>K (.ret x) (H.set id o)
  | _,_,_=>False
theorem vv_small {x:Nat} (h:x<2^64):vv x=.agg [.int .u64 0,.int .u64 (x:Int)]:=by
  unfold vv
  rw [Nat.div_eq_of_lt h,Nat.mod_eq_of_lt h];rfl
theorem vOf_zero (x:Nat):vOf 0 x=x:=by unfold vOf;omega
theorem low_lt32 {x:Nat} {w:Int} (h1:1≤w) (h2:w≤32):low x w<2^32:=by
  unfold low
  rw [if_neg (by omega)]
  exact Nat.lt_of_lt_of_le (Nat.mod_lt _ (Nat.two_pow_pos _)) (Nat.pow_le_pow_right (by decide) (by omega))
theorem gPfx_get {b:List UInt8} {u:Nat} {w:Int}:([.int .i64 w,.int .i64 8,.int .i64 16,.int .i64 1,.int .i64 (1+((cv b (cp u 0) w.toNat:Nat):Int))]:List AV).getD (cv b (cp u 1) 5) .junk=.int .i64 (gPfx b u w):=by
  have h:=cv_lt (b:=b) (v:=u+1) (n:=5) (by decide)
  unfold gPfx cp ci
  rw [Nat.add_zero]
  rcases (by omega:cv b (u+1) 5=0∨cv b (u+1) 5=1∨cv b (u+1) 5=2∨cv b (u+1) 5=3∨cv b (u+1) 5=4) with e | e | e | e | e<;>rw [e]<;>rfl
theorem gPfx_in {b:List UInt8} {u:Nat} {w:Int} (h1:16≤w):1≤gPfx b u w∧gPfx b u w≤w:=by
  have h:=cv_lt (b:=b) (v:=u+1) (n:=5) (by decide)
  have h':=cv_lt (b:=b) (v:=u) (n:=w.toNat) (by omega)
  unfold gPfx ci
  rcases (by omega:cv b (u+1) 5=0∨cv b (u+1) 5=1∨cv b (u+1) 5=2∨cv b (u+1) 5=3∨cv b (u+1) 5=4) with e | e | e | e | e<;>rw [e]<;>simp only [yau,yav]<;>omega
theorem gMask_get {b:List UInt8} {u:Nat}:([.int .i64 255,.int .i64 15,.int .i64 1,.int .i64 12,.int .i64 ((cv b (cp u 0) 256:Nat):Int)]:List AV).getD (cv b (cp u 1) 5) .junk=.int .i64 ((gMask b u:Nat):Int):=by
  have h:=cv_lt (b:=b) (v:=u+1) (n:=5) (by decide)
  unfold gMask cp
  rw [Nat.add_zero]
  rcases (by omega:cv b (u+1) 5=0∨cv b (u+1) 5=1∨cv b (u+1) 5=2∨cv b (u+1) 5=3∨cv b (u+1) 5=4) with e | e | e | e | e<;>rw [e]<;>rfl
theorem gMask_lt {b:List UInt8} {u:Nat}:gMask b u<256:=by
  have h:=cv_lt (b:=b) (v:=u+1) (n:=5) (by decide)
  have h':=cv_lt (b:=b) (v:=u) (n:=256) (by decide)
  unfold gMask
  rcases (by omega:cv b (u+1) 5=0∨cv b (u+1) 5=1∨cv b (u+1) 5=2∨cv b (u+1) 5=3∨cv b (u+1) 5=4) with e | e | e | e | e<;>rw [e]<;>simp only [yau,yav]<;>omega
theorem gNum_lt {b:List UInt8} {v:Nat}:gNum b v<2^32:=by
  unfold gNum
  refine Nat.or_lt_two_pow (Nat.or_lt_two_pow ?_ ?_) ?_
  · have:=cv_lt (b:=b) (v:=v) (n:=256) (by decide)
    rw [Nat.shiftLeft_eq];omega
  · have:=cv_lt (b:=b) (v:=v+1) (n:=16) (by decide)
    rw [Nat.shiftLeft_eq];omega
  · have:=cv_lt (b:=b) (v:=v+2) (n:=16) (by decide)
    omega
theorem maskN_lt {w n:Int} (h:w≤32):maskN w n<2^33:=by
  unfold maskN
  have:2^w.toNat≤2^32:=Nat.pow_le_pow_right (by decide) (by omega)
  have:=Nat.sub_le (2^w.toNat) (2^(w - n).toNat)
  omega
theorem of_decE {p:Prop} [Decidable p] {t:Bool} (h:decide p=t):p=(t=true):=by subst h;simp
set_option maxHeartbeats 4000000 in
theorem ok_CMatch:EntOk Tryz.prog 325 (Ent.effect e_CMatch):=by
  refine EntOk.effect fun args H K h=>?_
  unfold e_CMatch at h
  split at h
  rotate_left
  · exact h.elim
  rename_i id l nm fld kind
  obtain ⟨S,⟨rfl,hf,hw1,hw2,hk2⟩,h⟩:=h
  generalize hwo:bitsF S fld=w at *
  obtain ⟨w,rfl⟩:∃ k:Nat,w=k:=⟨w.toNat,by omega⟩
  unfold onS at h
  obtain ⟨b,v,hg,hb,hv,hK⟩:=onC_out h
  refine ⟨_,_,hK,?_⟩
  clear hK h
  unfold gsMatch
  dsimp only
  generalize hr:gMatch b v w kind=r
  obtain ⟨m,p⟩:=r
  dsimp only
  refine ACalls.of_aw (Ω:=[(48,Ent.effect e_ZNext),(361,Ent.pure p_cBitsOf),(327,Ent.pure p_cLow),(362,Ent.pure p_cMask)]) (T:=assoc [(8,[[],[],[],[],[],[],[],[],[],[],[2,5]]),(14,[[],[],[],[],[3]])]) mixed (TblOk.cons ok_ZNext (TblOk.cons ok_cBitsOf (TblOk.cons ok_cLow (TblOk.cons ok_cMask TblOk.nil)))) Tryz.func325 (by kernel_rfl) (by rfl) (rs:=[.cell 6 367]) (by rfl) (by kernel_rfl) (by simp only [Tryz.ntmps325,yaz,yba];decide) (Nat.le_refl _) fun hcl hlt=>?_
  change aw _ _ _ (KI Tryz.prog [(48,Ent.effect e_ZNext),(361,Ent.pure p_cBitsOf),(327,Ent.pure p_cLow),(362,Ent.pure p_cMask)] (aEnd Tryz.prog [.cell 6 367] H.nx _ _ (assoc [(8,[[],[],[],[],[],[],[],[],[],[],[2,5]]),(14,[[],[],[],[],[3]])])) []) _ _
  clear hlt
  have hid:=AHeap.get_lt hg
  have hne:=ne_nx hid
  have hgc:=get_codV (b:=b) hid
  have hcl2:∀ w,(H.set id (codV b w)).Closed:=fun w=>closed_set hcl codV_lt
  have e256:(256:Int).toNat=256:=rfl
  have e16:(16:Int).toNat=16:=rfl
  have e5:(5:Int).toNat=5:=rfl
  have c256:∀ u,cv b u 256<256:=fun u=>cv_lt (by decide)
  have c16:∀ u,cv b u 16<16:=fun u=>cv_lt (by decide)
  have c5:∀ u,cv b u 5<5:=fun u=>cv_lt (by decide)
  have u256:∀ u,IntKind.u64.wrap ((cv b u 256:Nat):Int)=((cv b u 256:Nat):Int):=fun u=>by have:=c256 u;rw [wrap_u64 (by omega) (by omega)]
  have u16:∀ u,IntKind.u64.wrap ((cv b u 16:Nat):Int)=((cv b u 16:Nat):Int):=fun u=>by have:=c16 u;rw [wrap_u64 (by omega) (by omega)]
  have s24:∀ u,ishl .u64 ((cv b u 256:Nat):Int) 24=((cv b u 256 <<< 24:Nat):Int):=fun u=>by
    have:=c256 u
    have e:=ishl_u64 (cv b u 256) 24
    rw [Nat.mod_eq_of_lt (by rw [Nat.shiftLeft_eq];omega)] at e
    exact e
  have s8:∀ u,ishl .u64 ((cv b u 16:Nat):Int) 8=((cv b u 16 <<< 8:Nat):Int):=fun u=>by
    have:=c16 u
    have e:=ishl_u64 (cv b u 16) 8
    rw [Nat.mod_eq_of_lt (by rw [Nat.shiftLeft_eq];omega)] at e
    exact e
  have l24:∀ u,cv b u 256 <<< 24<2^64:=fun u=>by have:=c256 u;rw [Nat.shiftLeft_eq];omega
  have l8:∀ u,cv b u 16 <<< 8<2^64:=fun u=>by have:=c16 u;rw [Nat.shiftLeft_eq];omega
  have o1:∀ u u',ior .u64 ((cv b u 256 <<< 24:Nat):Int) ((cv b u' 16 <<< 8:Nat):Int)=((cv b u 256 <<< 24 ||| cv b u' 16 <<< 8:Nat):Int):=fun u u'=>ior_u64 _ _ (l24 u) (l8 u')
  have o2:∀ u u' u'',ior .u64 ((cv b u 256 <<< 24 ||| cv b u' 16 <<< 8:Nat):Int) ((cv b u'' 16:Nat):Int)=((cv b u 256 <<< 24 ||| cv b u' 16 <<< 8 ||| cv b u'' 16:Nat):Int):=fun u u' u''=>ior_u64 _ _ (Nat.or_lt_two_pow (l24 u) (l8 u')) (by have:=c16 u'';omega)
  have hN:(cv b (cp v 0) 256 <<< 24 ||| cv b (cp v 1) 16 <<< 8 ||| cv b (cp v 2) 16)=gNum b v:=rfl
  have hNl:=gNum_lt (b:=b) (v:=v)
  have hXl:=low_lt32 (x:=gNum b v) hw1 hw2
  have hvv:∀ x:Nat,x<2^32→vv x=.agg [.int .u64 0,.int .u64 (x:Int)]:=fun x hx=>vv_small (by omega)
  simp only [go_sem,e_ZNext,p_cBitsOf,p_cLow,isVz,schC,hg,hgc,onC_cod hb,cv_min,codV_min,cp_add,hne,e256,e16,e5,u256,u16,s24,s8,o1,o2,hN,Int.toNat_natCast,Int.toNat_zero,vOf_zero]
  (repeat with_reducible refine And.intro (by first | exact True.intro | decide | omega | (simp [zib,zge,zgf,zgg,zgi,zgh,zgm];first | done | omega)) ?_)
  refine ⟨S,⟨rfl,hf⟩,?_⟩
  rw [hwo]
  simp only [blkE,blkP,bhq,Nat.reduceMod,Nat.reduceDiv,stepH,stepM,toMs1,toMs,toMs0,strK,pubK,pubF,pubV,yaq,yar,yao,yap,go_sem,e_ZNext,p_cBitsOf,p_cLow,isVz,schC,hg,hgc,onC_cod hb,cv_min,codV_min,cp_add,hne,e256,e16,e5,u256,u16,s24,s8,o1,o2,hN,Int.toNat_natCast,Int.toNat_zero,vOf_zero,hvv _ hXl]
  (repeat with_reducible refine And.intro (by first | exact True.intro | decide | omega | (simp [zib,zge,zgf,zgg,zgi,zgh,zgm];first | done | omega)) ?_)
  have hX64:low (gNum b v) (w:Int)<2^64:=by omega
  have i5:∀ u,(0≤((cv b u 5:Nat):Int)∧((cv b u 5:Nat):Int)<((5:Nat):Int))=True:=fun u=>cv_in (by decide)
  have zm:matchAV noMatch=.agg [.bool false,.int .u64 0,.int .u64 0,.int .u64 0,.int .u64 0,.int .i64 0,.int .u64 0,.int .u64 0]:=rfl
  have v0:vc 0=[.int .u64 0,.int .u64 0]:=rfl
  generalize hX:low (gNum b v) (w:Int)=X at *
  unfold gMatch at hr
  dsimp only at hr
  rw [hX] at hr
  by_cases q2:kind=2
  · subst q2
    have hw16:=hk2 rfl
    rw [if_pos rfl] at hr
    obtain ⟨p1,p2⟩:=gPfx_in (b:=b) (u:=v+4) hw16
    have pg:([.int .i64 (w:Int),.int .i64 8,.int .i64 16,.int .i64 1,.int .i64 (1+((cv b (cp v 4) w:Nat):Int))]:List AV).getD (cv b (cp v 5) 5) .junk=.int .i64 (gPfx b (v+4) (w:Int)):=gPfx_get (u:=v+4) (w:=(w:Int))
    have pl:cv b (cp v 4) w<w:=cv_lt (by omega)
    have pw:IntKind.i64.wrap (1+((cv b (cp v 4) w:Nat):Int))=1+((cv b (cp v 4) w:Nat):Int):=by rw [wrap_i64]<;>omega
    have hM:=maskN_lt (w:=(w:Int)) (n:=gPfx b (v+4) (w:Int)) hw2
    generalize gPfx b (v+4) (w:Int)=n at *
    have ia:iand .u64 (X:Int) ((maskN (w:Int) n:Nat):Int)=((X &&& maskN (w:Int) n:Nat):Int):=iand_u64 _ _ hX64 (by omega)
    have iv:vc (X &&& maskN (w:Int) n)=[.int .u64 0,.int .u64 ((X &&& maskN (w:Int) n:Nat):Int)]:=vc_small (Nat.lt_of_le_of_lt Nat.and_le_left hX64)
    by_cases h5:0<cv b (v+3) 5
    · rw [if_pos h5] at hr
      cases hr
      have d1:decide (((cv b (cp v 3) 5:Nat):Int) > 0)=true:=decide_eq_true (by unfold cp;omega)
      simp only [blkE,blkP,bhq,Nat.reduceMod,Nat.reduceDiv,stepH,stepM,toMs1,toMs,toMs0,strK,pubK,pubF,pubV,yaq,yar,yao,yap,go_sem,e_ZNext,p_cBitsOf,p_cLow,isVz,schC,hg,hgc,onC_cod hb,cv_min,codV_min,cp_add,hne,e256,e16,e5,u256,u16,s24,s8,o1,o2,hN,Int.toNat_natCast,Int.toNat_zero,vOf_zero,hvv _ hXl,beq_self_eq_true,d1,pw,i5,pg,p_cMask,ia,matchAV,matchC,iv,v0,yal,yak]
      (repeat with_reducible refine And.intro (by first | exact True.intro | decide | omega | (simp [zib,zge,zgf,zgg,zgi,zgh,zgm];first | done | omega)) ?_)
      simp (disch:=first | assumption | omega | (simp;done) | (simp;omega) | (simp only [bt,and_true];first | done | omega | (simp;done))) [↓zlw,beq,ybc,ybd,ybe,endOk,wk,wk2,wk1,wkM,wkL,wkLL,ybf,hcl2]
      first | done | repeat (first | exact AHeap.Le.refl _ | refine AHeap.Le.push ?_ _)
    · rw [if_neg h5] at hr
      cases hr
      have d1:decide (((cv b (cp v 3) 5:Nat):Int) > 0)=false:=decide_eq_false (by unfold cp;omega)
      simp only [blkE,blkP,bhq,Nat.reduceMod,Nat.reduceDiv,stepH,stepM,toMs1,toMs,toMs0,strK,pubK,pubF,pubV,yaq,yar,yao,yap,go_sem,e_ZNext,p_cBitsOf,p_cLow,isVz,schC,hg,hgc,onC_cod hb,cv_min,codV_min,cp_add,hne,e256,e16,e5,u256,u16,s24,s8,o1,o2,hN,Int.toNat_natCast,Int.toNat_zero,vOf_zero,hvv _ hXl,beq_self_eq_true,d1,zm]
      (repeat with_reducible refine And.intro (by first | exact True.intro | decide | omega | (simp [zib,zge,zgf,zgg,zgi,zgh,zgm];first | done | omega)) ?_)
      simp (disch:=first | assumption | omega | (simp;done) | (simp;omega) | (simp only [bt,and_true];first | done | omega | (simp;done))) [↓zlw,beq,ybc,ybd,ybe,endOk,wk,wk2,wk1,wkM,wkL,wkLL,ybf,hcl2]
      first | done | repeat (first | exact AHeap.Le.refl _ | refine AHeap.Le.push ?_ _)
  rw [if_neg q2] at hr
  have k2:(kind==2)=false:=by simpa using q2
  by_cases q3:kind=3
  · subst q3
    rw [if_pos rfl] at hr
    have pg:([.int .i64 255,.int .i64 15,.int .i64 1,.int .i64 12,.int .i64 ((cv b (cp v 3) 256:Nat):Int)]:List AV).getD (cv b (cp v 4) 5) .junk=.int .i64 ((gMask b (v+3):Nat):Int):=gMask_get (u:=v+3)
    have hMl:=gMask_lt (b:=b) (u:=v+3)
    generalize gMask b (v+3)=g at *
    have ug:IntKind.u64.wrap (g:Int)=(g:Int):=by rw [wrap_u64]<;>omega
    have hYl:=low_lt32 (x:=g) hw1 hw2
    have hYv:=hvv _ hYl
    obtain ⟨Y,hY⟩:∃ Y,low g (w:Int)=Y:=⟨_,rfl⟩
    rw [hY] at hYl hYv hr
    have ia:iand .u64 (X:Int) (Y:Int)=((X &&& Y:Nat):Int):=iand_u64 _ _ hX64 (by omega)
    have iv:vc (X &&& Y)=[.int .u64 0,.int .u64 ((X &&& Y:Nat):Int)]:=vc_small (Nat.lt_of_le_of_lt Nat.and_le_left hX64)
    have iv2:vc Y=[.int .u64 0,.int .u64 (Y:Int)]:=vc_small (by omega)
    by_cases h5:Y≠0
    · rw [if_pos h5] at hr
      cases hr
      have d1:((Y:Int) != 0)=true:=by simpa using h5
      simp only [blkE,blkP,bhq,Nat.reduceMod,Nat.reduceDiv,stepH,stepM,toMs1,toMs,toMs0,strK,pubK,pubF,pubV,yaq,yar,yao,yap,go_sem,e_ZNext,p_cBitsOf,p_cLow,isVz,schC,hg,hgc,onC_cod hb,cv_min,codV_min,cp_add,hne,e256,e16,e5,u256,u16,s24,s8,o1,o2,hN,Int.toNat_natCast,Int.toNat_zero,vOf_zero,hvv _ hXl,k2,beq_self_eq_true,d1,i5,pg,ug,hY,hYv,ia,matchAV,matchC,iv,iv2,v0,yal,yak]
      (repeat with_reducible refine And.intro (by first | exact True.intro | decide | omega | (simp [zib,zge,zgf,zgg,zgi,zgh,zgm];first | done | omega)) ?_)
      simp (disch:=first | assumption | omega | (simp;done) | (simp;omega) | (simp only [bt,and_true];first | done | omega | (simp;done))) [↓zlw,beq,ybc,ybd,ybe,endOk,wk,wk2,wk1,wkM,wkL,wkLL,ybf,hcl2]
      first | done | repeat (first | exact AHeap.Le.refl _ | refine AHeap.Le.push ?_ _)
    · rw [if_neg h5] at hr
      cases hr
      have d1:((Y:Int) != 0)=false:=by simpa using h5
      simp only [blkE,blkP,bhq,Nat.reduceMod,Nat.reduceDiv,stepH,stepM,toMs1,toMs,toMs0,strK,pubK,pubF,pubV,yaq,yar,yao,yap,go_sem,e_ZNext,p_cBitsOf,p_cLow,isVz,schC,hg,hgc,onC_cod hb,cv_min,codV_min,cp_add,hne,e256,e16,e5,u256,u16,s24,s8,o1,o2,hN,Int.toNat_natCast,Int.toNat_zero,vOf_zero,hvv _ hXl,k2,beq_self_eq_true,d1,i5,pg,ug,hY,hYv,zm]
      (repeat with_reducible refine And.intro (by first | exact True.intro | decide | omega | (simp [zib,zge,zgf,zgg,zgi,zgh,zgm];first | done | omega)) ?_)
      simp (disch:=first | assumption | omega | (simp;done) | (simp;omega) | (simp only [bt,and_true];first | done | omega | (simp;done))) [↓zlw,beq,ybc,ybd,ybe,endOk,wk,wk2,wk1,wkM,wkL,wkLL,ybf,hcl2]
      first | done | repeat (first | exact AHeap.Le.refl _ | refine AHeap.Le.push ?_ _)
  rw [if_neg q3] at hr
  have k3:(kind==3)=false:=by simpa using q3
  have iv2:vc X=[.int .u64 0,.int .u64 (X:Int)]:=vc_small hX64
  by_cases q4:kind=4
  · subst q4
    rw [if_pos rfl] at hr
    have uw:IntKind.u64.wrap (w:Int)=(w:Int):=by rw [wrap_u64]<;>omega
    have hw64:w<64:=by omega
    have c9:=c256 (cp v 3)
    have ws:IntKind.u64.wrap ((X:Int)+((cv b (cp v 3) 256:Nat):Int))=((X+cv b (cp v 3) 256:Nat):Int):=by rw [wrap_u64]<;>omega
    have mn:min (((X+cv b (cp v 3) 256:Nat):Int)) (((2^w - 1:Nat):Int))=((gHigh X (cv b (cp v 3) 256) (w:Int):Nat):Int):=by
      unfold gHigh;rw [Int.toNat_natCast];omega
    have hHl:gHigh X (cv b (cp v 3) 256) (w:Int)<2^64:=by
      unfold gHigh;omega
    have hHc:gHigh X (cv b (v+3) 256) (w:Int)=gHigh X (cv b (cp v 3) 256) (w:Int):=rfl
    rw [hHc,Int.toNat_natCast] at hr
    clear hHc
    generalize gHigh X (cv b (cp v 3) 256) (w:Int)=Z at *
    have iv3:vc Z=[.int .u64 0,.int .u64 (Z:Int)]:=vc_small hHl
    have kk2:((4:Int)==2)=false:=rfl
    have kk3:((4:Int)==3)=false:=rfl
    have dz:((X:Int)==0)=decide (X=0):=by rw [Bool.eq_iff_iff];simp
    have dh:((Z:Int)==((2^w - 1:Nat):Int))=decide (Z=2^w - 1):=by rw [Bool.eq_iff_iff];simp only [beq_iff_eq,decide_eq_true_eq];omega
    have dc:decide (((cv b (cp v 4) 5:Nat):Int) > 0)=decide (0<cv b (v+4) 5):=by rw [decide_eq_decide];unfold cp;omega
    cases hz:((X:Int)==0)<;>cases hh:((Z:Int)==((2^w - 1:Nat):Int))<;>cases hcv:decide (((cv b (cp v 4) 5:Nat):Int) > 0)
    all_goals
      have g1:=of_decE (dc.symm.trans hcv)
      have g2:=of_decE (dz.symm.trans hz)
      have g3:=of_decE (dh.symm.trans hh)
      simp only [g1,g2,g3,Bool.false_eq_true,not_true_eq_false,not_false_eq_true,and_self,and_true,and_false,true_and,false_and,if_true,if_false] at hr
      cases hr
    all_goals
      simp only [blkE,blkP,bhq,Nat.reduceMod,Nat.reduceDiv,stepH,stepM,toMs1,toMs,toMs0,strK,pubK,pubF,pubV,yaq,yar,yao,yap,go_sem,e_ZNext,p_cBitsOf,p_cLow,isVz,schC,hg,hgc,onC_cod hb,cv_min,codV_min,cp_add,hne,e256,e16,e5,u256,u16,s24,s8,o1,o2,hN,Int.toNat_natCast,Int.toNat_zero,vOf_zero,hvv _ hXl,kk2,kk3,beq_self_eq_true,uw,ws,shl_one hw64,wrap_pow1 hw64,mn,hz,hh,hcv,↓zm,matchAV,matchC,iv2,iv3,v0,yal,yak,Bool.not_true,Bool.not_false]
      (repeat with_reducible refine And.intro (by first | exact True.intro | decide | omega | (simp [zib,zge,zgf,zgg,zgi,zgh,zgm];first | done | omega)) ?_)
      simp (disch:=first | assumption | omega | (simp;done) | (simp;omega) | (simp only [bt,and_true];first | done | omega | (simp;done))) [↓zlw,beq,ybc,ybd,ybe,endOk,wk,wk2,wk1,wkM,wkL,wkLL,ybf,hcl2]
      first | done | repeat (first | exact AHeap.Le.refl _ | refine AHeap.Le.push ?_ _)
  rw [if_neg q4] at hr
  cases hr
  have k4:(kind==4)=false:=by simpa using q4
  simp only [blkE,blkP,bhq,Nat.reduceMod,Nat.reduceDiv,stepH,stepM,toMs1,toMs,toMs0,strK,pubK,pubF,pubV,yaq,yar,yao,yap,go_sem,e_ZNext,p_cBitsOf,p_cLow,isVz,schC,hg,hgc,onC_cod hb,cv_min,codV_min,cp_add,hne,e256,e16,e5,u256,u16,s24,s8,o1,o2,hN,Int.toNat_natCast,Int.toNat_zero,vOf_zero,hvv _ hXl,k2,k3,k4,matchAV,matchC,iv2,v0,yal,yak]
  (repeat with_reducible refine And.intro (by first | exact True.intro | decide | omega | (simp [zib,zge,zgf,zgg,zgi,zgh,zgm];first | done | omega)) ?_)
  simp (disch:=first | assumption | omega | (simp;done) | (simp;omega) | (simp only [bt,and_true];first | done | omega | (simp;done))) [↓zlw,beq,ybc,ybd,ybe,endOk,wk,wk2,wk1,wkM,wkL,wkLL,ybf,hcl2]
  first | done | repeat (first | exact AHeap.Le.refl _ | refine AHeap.Le.push ?_ _)
end Go.AL

