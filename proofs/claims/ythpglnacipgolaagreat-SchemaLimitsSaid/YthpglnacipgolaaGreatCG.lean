/- Contracts and plain laws, a part of the proof; no condition of its own. -/
import Derived.Test.YthpglnacipgolaaGreatCE
import Derived.Test.YthpglnacipgolaaGreatLRd2
open List renaming length_cons → yaz, length_nil → yba, take_of_length_le → ybc, drop_append → ybd, take_append → ybe, drop_eq_nil_of_le → ybf, take_zero → yar
open Go Go.AL Go.Proofs
namespace Go.AL
set_option linter.all false
set_option maxRecDepth 10000

def p_vOfF:List AV→AHeap→(AV→Prop)→Prop
  | [.int .u64 n],_,K=>(0≤n∧n<18446744073709551616)∧K (vv n.toNat)
  | _,_,_=>False
theorem ok_vOfF:EntOk Tryz.prog 290 (Ent.pure p_vOfF):=by
  refine EntOk.pure fun args H K h=>?_
  unfold p_vOfF at h
  split at h
  rotate_left
  · exact h.elim
  rename_i n
  obtain ⟨⟨h0,h1⟩,hK⟩:=h
  refine ⟨_,hK,?_⟩
  obtain ⟨x,rfl⟩:=u64_lift h0
  clear hK h0
  rw [Int.toNat_natCast]
  have e:vv x=.agg [.int .u64 0,.int .u64 (x:Int)]:=by
    have:=vv_vOf (hi:=0) (lo:=x) (by omega)
    simpa [vOf] using this
  rw [e]
  refine ACalls.of_aw (Ω:=[]) (T:=assoc []) mixed TblOk.nil Tryz.func290 (by kernel_rfl) (by rfl) (rs:=[.cell 2 83]) (by rfl) (by kernel_rfl) (by simp only [Tryz.ntmps290,yaz,yba];decide) (Nat.le_refl _) fun hcl hlt=>?_
  change aw _ _ _ (KI Tryz.prog [] (aEnd Tryz.prog [.cell 2 83] H.nx _ _) []) _ _
  clear hlt
  simp only [go_sem,zav,reduceCtorEq,Nat.reduceEqDiff,Nat.reduceAdd,Nat.reduceMul,Nat.reduceSub,Nat.reduceLeDiff,Nat.reduceLT,Int.reduceMul,Int.reduceAdd,Int.reduceSub,Int.reduceToNat,byq]
  simp (disch:=first | assumption | omega | (simp;done) | (simp;omega) | (simp only [bt,and_true];first | done | omega | (simp;done))) [↓zmi,beq,ybc,ybd,ybe,endOk,wk,wk2,wk1,wkM,wkL,wkLL,ybf,hcl]

def p_vOr:List AV→AHeap→(AV→Prop)→Prop
  | [.agg [.int .u64 a,.int .u64 b],.agg [.int .u64 c,.int .u64 d]],_,K=>(isV a b∧isV c d)∧K (vv (vOf a.toNat b.toNat ||| vOf c.toNat d.toNat))
  | _,_,_=>False
theorem ok_vOr:EntOk Tryz.prog 366 (Ent.pure p_vOr):=by
  refine EntOk.pure fun args H K h=>?_
  unfold p_vOr at h
  split at h
  rotate_left
  · exact h.elim
  rename_i a b c d
  obtain ⟨⟨⟨h0,h1,h2,h3⟩,k0,k1,k2,k3⟩,hK⟩:=h
  refine ⟨_,hK,?_⟩
  obtain ⟨x,rfl⟩:=u64_lift h0
  obtain ⟨y,rfl⟩:=u64_lift h2
  obtain ⟨z,rfl⟩:=u64_lift k0
  obtain ⟨w,rfl⟩:=u64_lift k2
  clear hK h0 h2 k0 k2
  simp only [Int.toNat_natCast]
  have hx:x<2^64:=by omega
  have hy:y<2^64:=by omega
  have hz:z<2^64:=by omega
  have hw:w<2^64:=by omega
  rw [or_vOf x y z w hy hw,vv_vOf (Nat.or_lt_two_pow hy hw)]
  refine ACalls.of_aw (Ω:=[]) (T:=assoc []) mixed TblOk.nil Tryz.func366 (by kernel_rfl) (by rfl) (rs:=[.cell 4 83]) (by rfl) (by kernel_rfl) (by simp only [Tryz.ntmps366,yaz,yba];decide) (Nat.le_refl _) fun hcl hlt=>?_
  change aw _ _ _ (KI Tryz.prog [] (aEnd Tryz.prog [.cell 4 83] H.nx _ _) []) _ _
  clear hlt
  simp only [go_sem,zav,reduceCtorEq,Nat.reduceEqDiff,Nat.reduceAdd,Nat.reduceMul,Nat.reduceSub,Nat.reduceLeDiff,Nat.reduceLT,Int.reduceMul,Int.reduceAdd,Int.reduceSub,Int.reduceToNat,byq,ior_u64 x z hx hz,ior_u64 y w hy hw]
  simp (disch:=first | assumption | omega | (simp;done) | (simp;omega) | (simp only [bt,and_true];first | done | omega | (simp;done))) [↓zmi,beq,ybc,ybd,ybe,endOk,wk,wk2,wk1,wkM,wkL,wkLL,ybf,hcl]

def p_vLeft:List AV→AHeap→(AV→Prop)→Prop
  | [.agg [.int .u64 hi,.int .u64 lo],.int .i64 n],_,K=>(isV hi lo∧n<9223372036854775808)∧K (vv ((vOf hi.toNat lo.toNat <<< n.toNat) % 2^128))
  | _,_,_=>False
theorem ok_vLeft:EntOk Tryz.prog 367 (Ent.pure p_vLeft):=by
  refine EntOk.pure fun args H K h=>?_
  unfold p_vLeft at h
  split at h
  rotate_left
  · exact h.elim
  rename_i hi lo n
  obtain ⟨⟨⟨h0,h1,h2,h3⟩,hn⟩,hK⟩:=h
  refine ⟨_,hK,?_⟩
  obtain ⟨x,rfl⟩:=u64_lift h0
  obtain ⟨y,rfl⟩:=u64_lift h2
  clear hK h0 h2
  rw [Int.toNat_natCast,Int.toNat_natCast]
  have hx:x<2^64:=by omega
  have hy:y<2^64:=by omega
  refine ACalls.of_aw (Ω:=[]) (T:=assoc []) mixed TblOk.nil Tryz.func367 (by kernel_rfl) (by rfl) (rs:=[.cell 4 83]) (by rfl) (by kernel_rfl) (by simp only [Tryz.ntmps367,yaz,yba];decide) (Nat.le_refl _) fun hcl hlt=>?_
  change aw _ _ _ (KI Tryz.prog [] (aEnd Tryz.prog [.cell 4 83] H.nx _ _) []) _ _
  clear hlt
  simp only [go_sem,zav,reduceCtorEq,Nat.reduceEqDiff,Nat.reduceAdd,Nat.reduceMul,Nat.reduceSub,Nat.reduceLeDiff,Nat.reduceLT,Int.reduceMul,Int.reduceAdd,Int.reduceSub,Int.reduceToNat,byq]
  refine both_split (fun t=>?_) (fun t=>both_split (fun s=>?_) (fun s=>?_))
  · have t':n.toNat=0:=by simp at t;omega
    rw [t',Nat.shiftLeft_zero,Nat.mod_eq_of_lt (vOf_lt hx hy),vv_vOf hy]
    simp (disch:=first | assumption | omega | (simp;done) | (simp;omega) | (simp only [bt,and_true];first | done | omega | (simp;done))) [↓zmi,beq,ybc,ybd,ybe,endOk,wk,wk2,wk1,wkM,wkL,wkLL,ybf,hcl]
  · simp at t s
    obtain ⟨m,rfl⟩:∃ m:Nat,n=m+64:=⟨(n - 64).toNat,by omega⟩
    have e1:IntKind.i64.wrap ((m:Int)+64 - 64)=m:=by rw [wrap_i64]<;>omega
    have e2:IntKind.u64.wrap (m:Int)=m:=by rw [wrap_u64]<;>omega
    have e3:((m:Int)+64).toNat=m+64:=by omega
    have e4:vv ((vOf x y <<< (m+64)) % 2^128)=.agg [.int .u64 (((y <<< m) % 2^64:Nat):Int),.int .u64 0]:=by
      rw [left_far x y _ (by omega),Nat.add_sub_cancel,vv_vOf (by decide)];rfl
    rw [e3,e4,e1,e2,ishl_u64]
    repeat refine ⟨by omega,?_⟩
    simp (disch:=first | assumption | omega | (simp;done) | (simp;omega) | (simp only [bt,and_true];first | done | omega | (simp;done))) [↓zmi,beq,ybc,ybd,ybe,endOk,wk,wk2,wk1,wkM,wkL,wkLL,ybf,hcl]
  · simp at t s
    obtain ⟨m,rfl⟩:∃ m:Nat,n=m:=⟨n.toNat,by omega⟩
    have hm:m<64:=by omega
    have e1:IntKind.i64.wrap (64 - (m:Int))=((64 - m:Nat):Int):=by rw [wrap_i64]<;>omega
    have e2:IntKind.u64.wrap (m:Int)=m:=by rw [wrap_u64]<;>omega
    have e3:IntKind.u64.wrap ((64 - m:Nat):Int)=((64 - m:Nat):Int):=by rw [wrap_u64]<;>omega
    have e4:vv ((vOf x y <<< m) % 2^128)=.agg [.int .u64 ((((x <<< m) % 2^64 ||| y >>> (64 - m):Nat)):Int),.int .u64 (((y <<< m) % 2^64:Nat):Int)]:=by
      unfold vv
      rw [left_hi x y m hy hm,left_lo x y m hy]
    rw [e1,e2,e3,Int.toNat_natCast,e4,ishl_u64,ishl_u64,ishr_u64 y _ hy,ior_u64 _ _ (Nat.mod_lt _ (by decide)) (shr_lt hy)]
    repeat refine ⟨by omega,?_⟩
    simp (disch:=first | assumption | omega | (simp;done) | (simp;omega) | (simp only [bt,and_true];first | done | omega | (simp;done))) [↓zmi,beq,ybc,ybd,ybe,endOk,wk,wk2,wk1,wkM,wkL,wkLL,ybf,hcl]

def p_vParse:List AV→AHeap→(AV→Prop)→Prop
  | [.slice _ 1 l],_,K=>(isB l∧l.length≤140737488355328)∧K (.tup [vv (parseV (unb l)).1,.int .i64 (parseV (unb l)).2])
  | _,_,_=>False
theorem ok_vParse:EntOk Tryz.prog 332 (Ent.pure p_vParse):=by
  refine EntOk.pure fun args H K h=>?_
  unfold p_vParse at h
  split at h
  rotate_left
  · exact h.elim
  rename_i m l
  obtain ⟨⟨c1,hle⟩,hK⟩:=h
  refine ⟨_,hK,?_⟩
  obtain ⟨xs,rfl⟩:=isB_out c1
  clear hK
  simp only [zlt,zle] at *
  have v0:vv 0=.agg [.int .u64 0,.int .u64 0]:=rfl
  by_cases h1:xs.length=0
  · rw [show parseV xs=(0,1) by simp [parseV,h1]]
    dsimp only
    have d1:((xs.length:Int)==0)=true:=by simp [h1]
    refine ACalls.of_aw (Ω:=[(367,Ent.pure p_vLeft),(290,Ent.pure p_vOfF),(366,Ent.pure p_vOr)]) (T:=assoc []) mixed (TblOk.cons ok_vLeft (TblOk.cons ok_vOfF (TblOk.cons ok_vOr TblOk.nil))) Tryz.func332 (by kernel_rfl) (by rfl) (rs:=[.cell 2 83,.tmp 3]) (by rfl) (by kernel_rfl) (by simp only [Tryz.ntmps332,yaz,yba];decide) (Nat.le_refl _) fun hcl hlt=>?_
    change aw _ _ _ (KI Tryz.prog [(367,Ent.pure p_vLeft),(290,Ent.pure p_vOfF),(366,Ent.pure p_vOr)] (aEnd Tryz.prog [.cell 2 83,.tmp 3] H.nx _ _) []) _ _
    clear hlt
    simp only [go_sem,zav,reduceCtorEq,Nat.reduceEqDiff,Nat.reduceAdd,Nat.reduceMul,Nat.reduceSub,Nat.reduceLeDiff,Nat.reduceLT,Int.reduceMul,Int.reduceAdd,Int.reduceSub,Int.reduceToNat,byq,d1,v0]
    simp (disch:=first | assumption | omega | (simp;done) | (simp;omega) | (simp only [bt,and_true];first | done | omega | (simp;done))) [↓zmi,beq,ybc,ybd,ybe,endOk,wk,wk2,wk1,wkM,wkL,wkLL,ybf,hcl]
  have d1:((xs.length:Int)==0)=false:=by simp;intro e;exact h1 (by rw [e];rfl)
  by_cases h2:16<xs.length
  · rw [show parseV xs=(0,3) by simp [parseV,h1,h2]]
    dsimp only
    have d2:decide ((xs.length:Int) > 16)=true:=by simp;omega
    refine ACalls.of_aw (Ω:=[(367,Ent.pure p_vLeft),(290,Ent.pure p_vOfF),(366,Ent.pure p_vOr)]) (T:=assoc []) mixed (TblOk.cons ok_vLeft (TblOk.cons ok_vOfF (TblOk.cons ok_vOr TblOk.nil))) Tryz.func332 (by kernel_rfl) (by rfl) (rs:=[.cell 2 83,.tmp 3]) (by rfl) (by kernel_rfl) (by simp only [Tryz.ntmps332,yaz,yba];decide) (Nat.le_refl _) fun hcl hlt=>?_
    change aw _ _ _ (KI Tryz.prog [(367,Ent.pure p_vLeft),(290,Ent.pure p_vOfF),(366,Ent.pure p_vOr)] (aEnd Tryz.prog [.cell 2 83,.tmp 3] H.nx _ _) []) _ _
    clear hlt
    simp only [go_sem,zav,reduceCtorEq,Nat.reduceEqDiff,Nat.reduceAdd,Nat.reduceMul,Nat.reduceSub,Nat.reduceLeDiff,Nat.reduceLT,Int.reduceMul,Int.reduceAdd,Int.reduceSub,Int.reduceToNat,byq,d1,d2,v0]
    simp (disch:=first | assumption | omega | (simp;done) | (simp;omega) | (simp only [bt,and_true];first | done | omega | (simp;done))) [↓zmi,beq,ybc,ybd,ybe,endOk,wk,wk2,wk1,wkM,wkL,wkLL,ybf,hcl]
  have d2:decide ((xs.length:Int) > 16)=false:=by simp;omega
  have dg:(bys xs).getD 0 .junk=ofByte (b0 xs):=b0_get' xs (by omega)
  by_cases h3:1<xs.length∧(b0 xs).toNat=0
  · rw [show parseV xs=(0,5) by simp [parseV,h1,h2,h3]]
    dsimp only
    have d3:decide ((xs.length:Int) > 1)=true:=by simp;omega
    have d4:(((b0 xs).toNat:Int)==0)=true:=by simp [h3.2]
    refine ACalls.of_aw (Ω:=[(367,Ent.pure p_vLeft),(290,Ent.pure p_vOfF),(366,Ent.pure p_vOr)]) (T:=assoc []) mixed (TblOk.cons ok_vLeft (TblOk.cons ok_vOfF (TblOk.cons ok_vOr TblOk.nil))) Tryz.func332 (by kernel_rfl) (by rfl) (rs:=[.cell 2 83,.tmp 3]) (by rfl) (by kernel_rfl) (by simp only [Tryz.ntmps332,yaz,yba];decide) (Nat.le_refl _) fun hcl hlt=>?_
    change aw _ _ _ (KI Tryz.prog [(367,Ent.pure p_vLeft),(290,Ent.pure p_vOfF),(366,Ent.pure p_vOr)] (aEnd Tryz.prog [.cell 2 83,.tmp 3] H.nx _ _) []) _ _
    clear hlt
    simp only [go_sem,zav,reduceCtorEq,Nat.reduceEqDiff,Nat.reduceAdd,Nat.reduceMul,Nat.reduceSub,Nat.reduceLeDiff,Nat.reduceLT,Int.reduceMul,Int.reduceAdd,Int.reduceSub,Int.reduceToNat,byq,d1,d2,d3,dg,ofByte,d4,v0]
    refine ⟨by omega,?_⟩
    simp (disch:=first | assumption | omega | (simp;done) | (simp;omega) | (simp only [bt,and_true];first | done | omega | (simp;done))) [↓zmi,beq,ybc,ybd,ybe,endOk,wk,wk2,wk1,wkM,wkL,wkLL,ybf,hcl]
  rw [show parseV xs=(beVal xs,0) by simp only [parseV];rw [if_neg h1,if_neg h2,if_neg h3]]
  dsimp only
  have hv0:∀ k,k≤xs.length→beVal (xs.take k)<2^128:=fun k hk=>by
    have:=beVal_take_lt xs k 16 (by omega)
    omega
  have v1:∀ v,vv v=.agg [.int .u64 ((v/2^64:Nat):Int),.int .u64 ((v % 2^64:Nat):Int)]:=fun _=>rfl
  have fin:∀ (v:Nat),v<2^128→isV ((v/2^64:Nat):Int) ((v % 2^64:Nat):Int):=fun v hv=>⟨by omega,by omega,by omega,by omega⟩
  have hcase:(decide ((xs.length:Int) > 1)=true∧(((b0 xs).toNat:Int)==0)=false)∨(decide ((xs.length:Int) > 1)=false∧True):=by
    by_cases h4:1<xs.length
    · refine .inl ⟨by simp;omega,?_⟩
      have:(b0 xs).toNat≠0:=fun e=>h3 ⟨h4,e⟩
      simp;omega
    · exact .inr ⟨by simp;omega,trivial⟩
  have sp:splice [AV.int .u64 0,AV.int .u64 0] 0 [AV.int .u64 ((beVal xs/2^64:Nat):Int),AV.int .u64 ((beVal xs % 2^64:Nat):Int)]=[AV.int .u64 ((beVal xs/2^64:Nat):Int),AV.int .u64 ((beVal xs % 2^64:Nat):Int)]:=rfl
  rw [v1]
  refine ACalls.of_aw (Ω:=[(367,Ent.pure p_vLeft),(290,Ent.pure p_vOfF),(366,Ent.pure p_vOr)]) (T:=assoc []) mixed (TblOk.cons ok_vLeft (TblOk.cons ok_vOfF (TblOk.cons ok_vOr TblOk.nil))) Tryz.func332 (by kernel_rfl) (by rfl) (rs:=[.cell 2 83,.tmp 3]) (by rfl) (by kernel_rfl) (by simp only [Tryz.ntmps332,yaz,yba];decide) (Nat.le_refl _) fun hcl hlt=>?_
  change aw _ _ _ (KI Tryz.prog [(367,Ent.pure p_vLeft),(290,Ent.pure p_vOfF),(366,Ent.pure p_vOr)] (aEnd Tryz.prog [.cell 2 83,.tmp 3] H.nx _ _) []) _ _
  clear hlt
  rcases hcase with ⟨d3,d4⟩ | ⟨d3,d4⟩
  all_goals simp only [go_sem,byq,d1,d2,d3,dg,ofByte,d4]
  all_goals try refine ⟨by omega,?_⟩
  all_goals
   refine loop_intro (A:=Nat) (fun k=>[(30,.int .i64 (k:Int)),(29,.int .i64 (xs.length:Int)),(28,.slice m 1 (bys xs)),(4,.ptr (H.nx+1) 0),(2,.ptr H.nx 0)])
    (fun k=>(H.push (.cells [.int .u64 0,.int .u64 0])).push (.cells [.int .u64 ((beVal (xs.take k)/2^64:Nat):Int),.int .u64 ((beVal (xs.take k) % 2^64:Nat):Int)])) (fun k=>k≤xs.length) (fun k=>xs.length - k) 0 (by omega) ?_ fun k hk=>?_
  iterate 2
    · simp only [bnq,enter,subF,ltF,ne_eq,Nat.reduceEqDiff,reduceCtorEq,yar,beVal_nil,true_or,and_true]
      all_goals first | rfl | exact .inl rfl
    simp only [go_sem,byq]
    refine cond_split (fun hc=>?_) (fun hc=>?_)
    · have hk:k<xs.length:=by simp at hc;omega
      have e1:IntKind.i64.wrap ((k:Int)+1)=((k+1:Nat):Int):=by rw [wrap_i64]<;>omega
      have hb:=hv0 k (by omega)
      have hb2:beVal (xs.take k)<2^120:=by
        have:=beVal_lt (xs.take k)
        have h5:(256:Nat)^(xs.take k).length≤256^15:=Nat.pow_le_pow_right (by decide) (by rw [List.length_take];omega)
        omega
      have hx:(bys xs).getD k .junk=ofByte (xs.getD k 0):=bys_get hk
      have hxl:=UInt8.toNat_lt (xs.getD k 0)
      have e2:IntKind.u64.wrap (((xs.getD k 0).toNat:Nat):Int)=(((xs.getD k 0).toNat:Nat):Int):=by rw [wrap_u64]<;>omega
      have e3:=byte_in (beVal (xs.take k)) (xs.getD k 0).toNat hb2 hxl
      rw [← beVal_step xs k hk] at e3
      have f1:=fin (beVal (xs.take k)) hb
      have f2:=fin (xs.getD k 0).toNat (by omega)
      have f3:=fin ((beVal (xs.take k) <<< 8) % 2^128) (Nat.mod_lt _ (by decide))
      simp only [go_sem,byq,Int.toNat_natCast,hx,e1,zle,ofByte,p_vLeft,p_vOfF,p_vOr,e2,v1,vOf_back,e3,f1,f2,f3]
      refine ⟨by omega,by decide,by omega,k+1,by omega,by omega,?_⟩
      simp only [bnq,enter,subF,ltF,ne_eq,Nat.reduceEqDiff,reduceCtorEq,true_or,and_self]
    · have hk:k=xs.length:=by simp at hc;omega
      subst hk
      simp only [go_sem,byq,List.take_length,sp]
      simp (disch:=first | assumption | omega | (simp;done) | (simp;omega) | (simp only [bt,and_true];first | done | omega | (simp;done))) [↓zmi,beq,ybc,ybd,ybe,endOk,wk,wk2,wk1,wkM,wkL,wkLL,ybf,hcl]
end Go.AL


open Go Go.AL Go.Proofs
namespace Go.AL
set_option linter.all false
set_option maxRecDepth 10000
theorem ti_rreader:ti Tryz.prog 218=some ⟨.struct [(0,32,false),(1,40,false)],2,32,.agg [.slice .nil 1 [],.int .i64 0]⟩:=by kernel_rfl
theorem ti_prreader:ti Tryz.prog 216=some ⟨.ptr 218,1,8,.nilp⟩:=by kernel_rfl
attribute [go_sem] ti_rreader ti_prreader

end Go.AL

