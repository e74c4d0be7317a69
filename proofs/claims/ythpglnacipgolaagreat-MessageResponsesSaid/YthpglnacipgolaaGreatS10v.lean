/- Contracts and plain laws, a part of the proof; no condition of its own. -/
import Derived.Test.YthpglnacipgolaaGreatCE
import Derived.Test.YthpglnacipgolaaGreatLBack
import Derived.Test.YthpglnacipgolaaGreatS10z
import Derived.Test.YthpglnacipgolaaGreatLEntB
open List renaming length_cons → yaz, length_nil → yba, take_of_length_le → ybc, drop_append → ybd, take_append → ybe, drop_eq_nil_of_le → ybf, take_zero → yar
open Go Go.AL Go.Proofs
namespace Go.AL
set_option linter.all false
set_option maxRecDepth 10000

def p_vOfF:List AV→AHeap→(AV→Prop)→Prop
  | [.int .u64 n],_,K=>(0≤n∧n<18446744073709551616)∧K (vv n.toNat)
  | _,_,_=>False
theorem ok_vOfF:EntOk Tryz.prog 290 (Ent.pure p_vOfF):=by
  refine EntOk.pure fun args H K h=>?_
  unfold p_vOfF at h
  split at h
  rotate_left
  · exact h.elim
  rename_i n
  obtain ⟨⟨h0,h1⟩,hK⟩:=h
  refine ⟨_,hK,?_⟩
  obtain ⟨x,rfl⟩:=u64_lift h0
  clear hK h0
  rw [Int.toNat_natCast]
  have e:vv x=.agg [.int .u64 0,.int .u64 (x:Int)]:=by
    have:=vv_vOf (hi:=0) (lo:=x) (by omega)
    simpa [vOf] using this
  rw [e]
  refine ACalls.of_aw (Ω:=[]) (T:=assoc []) mixed TblOk.nil Tryz.func290 (by kernel_rfl) (by rfl) (rs:=[.cell 2 83]) (by rfl) (by kernel_rfl) (by simp only [Tryz.ntmps290,yaz,yba];decide) (Nat.le_refl _) fun hcl hlt=>?_
  change aw _ _ _ (KI Tryz.prog [] (aEnd Tryz.prog [.cell 2 83] H.nx _ _) []) _ _
  clear hlt
  simp only [go_sem,zav,reduceCtorEq,Nat.reduceEqDiff,Nat.reduceAdd,Nat.reduceMul,Nat.reduceSub,Nat.reduceLeDiff,Nat.reduceLT,Int.reduceMul,Int.reduceAdd,Int.reduceSub,Int.reduceToNat,byq]
  simp (disch:=first | assumption | omega | (simp;done) | (simp;omega) | (simp only [bt,and_true];first | done | omega | (simp;done))) [↓zlw,beq,ybc,ybd,ybe,endOk,wk,wk2,wk1,wkM,wkL,wkLL,ybf,hcl]

def p_vOr:List AV→AHeap→(AV→Prop)→Prop
  | [.agg [.int .u64 a,.int .u64 b],.agg [.int .u64 c,.int .u64 d]],_,K=>(isV a b∧isV c d)∧K (vv (vOf a.toNat b.toNat ||| vOf c.toNat d.toNat))
  | _,_,_=>False
theorem ok_vOr:EntOk Tryz.prog 366 (Ent.pure p_vOr):=by
  refine EntOk.pure fun args H K h=>?_
  unfold p_vOr at h
  split at h
  rotate_left
  · exact h.elim
  rename_i a b c d
  obtain ⟨⟨⟨h0,h1,h2,h3⟩,k0,k1,k2,k3⟩,hK⟩:=h
  refine ⟨_,hK,?_⟩
  obtain ⟨x,rfl⟩:=u64_lift h0
  obtain ⟨y,rfl⟩:=u64_lift h2
  obtain ⟨z,rfl⟩:=u64_lift k0
  obtain ⟨w,rfl⟩:=u64_lift k2
  clear hK h0 h2 k0 k2
  simp only [Int.toNat_natCast]
  have hx:x<2^64:=by omega
  have hy:y<2^64:=by omega
  have hz:z<2^64:=by omega
  have hw:w<2^64:=by omega
  rw [or_vOf x y z w hy hw,vv_vOf (Nat.or_lt_two_pow hy hw)]
  refine ACalls.of_aw (Ω:=[]) (T:=assoc []) mixed TblOk.nil Tryz.func366 (by kernel_rfl) (by rfl) (rs:=[.cell 4 83]) (by rfl) (by kernel_rfl) (by simp only [Tryz.ntmps366,yaz,yba];decide) (Nat.le_refl _) fun hcl hlt=>?_
  change aw _ _ _ (KI Tryz.prog [] (aEnd Tryz.prog [.cell 4 83] H.nx _ _) []) _ _
  clear hlt
  simp only [go_sem,zav,reduceCtorEq,Nat.reduceEqDiff,Nat.reduceAdd,Nat.reduceMul,Nat.reduceSub,Nat.reduceLeDiff,Nat.reduceLT,Int.reduceMul,Int.reduceAdd,Int.reduceSub,Int.reduceToNat,byq,ior_u64 x z hx hz,ior_u64 y w hy hw]
  simp (disch:=first | assumption | omega | (simp;done) | (simp;omega) | (simp only [bt,and_true];first | done | omega | (simp;done))) [↓zlw,beq,ybc,ybd,ybe,endOk,wk,wk2,wk1,wkM,wkL,wkLL,ybf,hcl]

def p_vLeft:List AV→AHeap→(AV→Prop)→Prop
  | [.agg [.int .u64 hi,.int .u64 lo],.int .i64 n],_,K=>(isV hi lo∧n<9223372036854775808)∧K (vv ((vOf hi.toNat lo.toNat <<< n.toNat) % 2^128))
  | _,_,_=>False
theorem ok_vLeft:EntOk Tryz.prog 367 (Ent.pure p_vLeft):=by
  refine EntOk.pure fun args H K h=>?_
  unfold p_vLeft at h
  split at h
  rotate_left
  · exact h.elim
  rename_i hi lo n
  obtain ⟨⟨⟨h0,h1,h2,h3⟩,hn⟩,hK⟩:=h
  refine ⟨_,hK,?_⟩
  obtain ⟨x,rfl⟩:=u64_lift h0
  obtain ⟨y,rfl⟩:=u64_lift h2
  clear hK h0 h2
  rw [Int.toNat_natCast,Int.toNat_natCast]
  have hx:x<2^64:=by omega
  have hy:y<2^64:=by omega
  refine ACalls.of_aw (Ω:=[]) (T:=assoc []) mixed TblOk.nil Tryz.func367 (by kernel_rfl) (by rfl) (rs:=[.cell 4 83]) (by rfl) (by kernel_rfl) (by simp only [Tryz.ntmps367,yaz,yba];decide) (Nat.le_refl _) fun hcl hlt=>?_
  change aw _ _ _ (KI Tryz.prog [] (aEnd Tryz.prog [.cell 4 83] H.nx _ _) []) _ _
  clear hlt
  simp only [go_sem,zav,reduceCtorEq,Nat.reduceEqDiff,Nat.reduceAdd,Nat.reduceMul,Nat.reduceSub,Nat.reduceLeDiff,Nat.reduceLT,Int.reduceMul,Int.reduceAdd,Int.reduceSub,Int.reduceToNat,byq]
  refine both_split (fun t=>?_) (fun t=>both_split (fun s=>?_) (fun s=>?_))
  · have t':n.toNat=0:=by simp at t;omega
    rw [t',Nat.shiftLeft_zero,Nat.mod_eq_of_lt (vOf_lt hx hy),vv_vOf hy]
    simp (disch:=first | assumption | omega | (simp;done) | (simp;omega) | (simp only [bt,and_true];first | done | omega | (simp;done))) [↓zlw,beq,ybc,ybd,ybe,endOk,wk,wk2,wk1,wkM,wkL,wkLL,ybf,hcl]
  · simp at t s
    obtain ⟨m,rfl⟩:∃ m:Nat,n=m+64:=⟨(n - 64).toNat,by omega⟩
    have e1:IntKind.i64.wrap ((m:Int)+64 - 64)=m:=by rw [wrap_i64]<;>omega
    have e2:IntKind.u64.wrap (m:Int)=m:=by rw [wrap_u64]<;>omega
    have e3:((m:Int)+64).toNat=m+64:=by omega
    have e4:vv ((vOf x y <<< (m+64)) % 2^128)=.agg [.int .u64 (((y <<< m) % 2^64:Nat):Int),.int .u64 0]:=by
      rw [left_far x y _ (by omega),Nat.add_sub_cancel,vv_vOf (by decide)];rfl
    rw [e3,e4,e1,e2,ishl_u64]
    repeat refine ⟨by omega,?_⟩
    simp (disch:=first | assumption | omega | (simp;done) | (simp;omega) | (simp only [bt,and_true];first | done | omega | (simp;done))) [↓zlw,beq,ybc,ybd,ybe,endOk,wk,wk2,wk1,wkM,wkL,wkLL,ybf,hcl]
  · simp at t s
    obtain ⟨m,rfl⟩:∃ m:Nat,n=m:=⟨n.toNat,by omega⟩
    have hm:m<64:=by omega
    have e1:IntKind.i64.wrap (64 - (m:Int))=((64 - m:Nat):Int):=by rw [wrap_i64]<;>omega
    have e2:IntKind.u64.wrap (m:Int)=m:=by rw [wrap_u64]<;>omega
    have e3:IntKind.u64.wrap ((64 - m:Nat):Int)=((64 - m:Nat):Int):=by rw [wrap_u64]<;>omega
    have e4:vv ((vOf x y <<< m) % 2^128)=.agg [.int .u64 ((((x <<< m) % 2^64 ||| y >>> (64 - m):Nat)):Int),.int .u64 (((y <<< m) % 2^64:Nat):Int)]:=by
      unfold vv
      rw [left_hi x y m hy hm,left_lo x y m hy]
    rw [e1,e2,e3,Int.toNat_natCast,e4,ishl_u64,ishl_u64,ishr_u64 y _ hy,ior_u64 _ _ (Nat.mod_lt _ (by decide)) (shr_lt hy)]
    repeat refine ⟨by omega,?_⟩
    simp (disch:=first | assumption | omega | (simp;done) | (simp;omega) | (simp only [bt,and_true];first | done | omega | (simp;done))) [↓zlw,beq,ybc,ybd,ybe,endOk,wk,wk2,wk1,wkM,wkL,wkLL,ybf,hcl]

def p_vParse:List AV→AHeap→(AV→Prop)→Prop
  | [.slice _ 1 l],_,K=>(isB l∧l.length≤140737488355328)∧K (.tup [vv (parseV (unb l)).1,.int .i64 (parseV (unb l)).2])
  | _,_,_=>False
theorem ok_vParse:EntOk Tryz.prog 332 (Ent.pure p_vParse):=by
  refine EntOk.pure fun args H K h=>?_
  unfold p_vParse at h
  split at h
  rotate_left
  · exact h.elim
  rename_i m l
  obtain ⟨⟨c1,hle⟩,hK⟩:=h
  refine ⟨_,hK,?_⟩
  obtain ⟨xs,rfl⟩:=isB_out c1
  clear hK
  simp only [zlh,zks] at *
  have v0:vv 0=.agg [.int .u64 0,.int .u64 0]:=rfl
  by_cases h1:xs.length=0
  · rw [show parseV xs=(0,1) by simp [parseV,h1]]
    dsimp only
    have d1:((xs.length:Int)==0)=true:=by simp [h1]
    refine ACalls.of_aw (Ω:=[(367,Ent.pure p_vLeft),(290,Ent.pure p_vOfF),(366,Ent.pure p_vOr)]) (T:=assoc []) mixed (TblOk.cons ok_vLeft (TblOk.cons ok_vOfF (TblOk.cons ok_vOr TblOk.nil))) Tryz.func332 (by kernel_rfl) (by rfl) (rs:=[.cell 2 83,.tmp 3]) (by rfl) (by kernel_rfl) (by simp only [Tryz.ntmps332,yaz,yba];decide) (Nat.le_refl _) fun hcl hlt=>?_
    change aw _ _ _ (KI Tryz.prog [(367,Ent.pure p_vLeft),(290,Ent.pure p_vOfF),(366,Ent.pure p_vOr)] (aEnd Tryz.prog [.cell 2 83,.tmp 3] H.nx _ _) []) _ _
    clear hlt
    simp only [go_sem,zav,reduceCtorEq,Nat.reduceEqDiff,Nat.reduceAdd,Nat.reduceMul,Nat.reduceSub,Nat.reduceLeDiff,Nat.reduceLT,Int.reduceMul,Int.reduceAdd,Int.reduceSub,Int.reduceToNat,byq,d1,v0]
    simp (disch:=first | assumption | omega | (simp;done) | (simp;omega) | (simp only [bt,and_true];first | done | omega | (simp;done))) [↓zlw,beq,ybc,ybd,ybe,endOk,wk,wk2,wk1,wkM,wkL,wkLL,ybf,hcl]
  have d1:((xs.length:Int)==0)=false:=by simp;intro e;exact h1 (by rw [e];rfl)
  by_cases h2:16<xs.length
  · rw [show parseV xs=(0,3) by simp [parseV,h1,h2]]
    dsimp only
    have d2:decide ((xs.length:Int) > 16)=true:=by simp;omega
    refine ACalls.of_aw (Ω:=[(367,Ent.pure p_vLeft),(290,Ent.pure p_vOfF),(366,Ent.pure p_vOr)]) (T:=assoc []) mixed (TblOk.cons ok_vLeft (TblOk.cons ok_vOfF (TblOk.cons ok_vOr TblOk.nil))) Tryz.func332 (by kernel_rfl) (by rfl) (rs:=[.cell 2 83,.tmp 3]) (by rfl) (by kernel_rfl) (by simp only [Tryz.ntmps332,yaz,yba];decide) (Nat.le_refl _) fun hcl hlt=>?_
    change aw _ _ _ (KI Tryz.prog [(367,Ent.pure p_vLeft),(290,Ent.pure p_vOfF),(366,Ent.pure p_vOr)] (aEnd Tryz.prog [.cell 2 83,.tmp 3] H.nx _ _) []) _ _
    clear hlt
    simp only [go_sem,zav,reduceCtorEq,Nat.reduceEqDiff,Nat.reduceAdd,Nat.reduceMul,Nat.reduceSub,Nat.reduceLeDiff,Nat.reduceLT,Int.reduceMul,Int.reduceAdd,Int.reduceSub,Int.reduceToNat,byq,d1,d2,v0]
    simp (disch:=first | assumption | omega | (simp;done) | (simp;omega) | (simp only [bt,and_true];first | done | omega | (simp;done))) [↓zlw,beq,ybc,ybd,ybe,endOk,wk,wk2,wk1,wkM,wkL,wkLL,ybf,hcl]
  have d2:decide ((xs.length:Int) > 16)=false:=by simp;omega
  have dg:(bys xs).getD 0 .junk=ofByte (b0 xs):=b0_get' xs (by omega)
  by_cases h3:1<xs.length∧(b0 xs).toNat=0
  · rw [show parseV xs=(0,5) by simp [parseV,h1,h2,h3]]
    dsimp only
    have d3:decide ((xs.length:Int) > 1)=true:=by simp;omega
    have d4:(((b0 xs).toNat:Int)==0)=true:=by simp [h3.2]
    refine ACalls.of_aw (Ω:=[(367,Ent.pure p_vLeft),(290,Ent.pure p_vOfF),(366,Ent.pure p_vOr)]) (T:=assoc []) mixed (TblOk.cons ok_vLeft (TblOk.cons ok_vOfF (TblOk.cons ok_vOr TblOk.nil))) Tryz.func332 (by kernel_rfl) (by rfl) (rs:=[.cell 2 83,.tmp 3]) (by rfl) (by kernel_rfl) (by simp only [Tryz.ntmps332,yaz,yba];decide) (Nat.le_refl _) fun hcl hlt=>?_
    change aw _ _ _ (KI Tryz.prog [(367,Ent.pure p_vLeft),(290,Ent.pure p_vOfF),(366,Ent.pure p_vOr)] (aEnd Tryz.prog [.cell 2 83,.tmp 3] H.nx _ _) []) _ _
    clear hlt
    simp only [go_sem,zav,reduceCtorEq,Nat.reduceEqDiff,Nat.reduceAdd,Nat.reduceMul,Nat.reduceSub,Nat.reduceLeDiff,Nat.reduceLT,Int.reduceMul,Int.reduceAdd,Int.reduceSub,Int.reduceToNat,byq,d1,d2,d3,dg,ofByte,d4,v0]
    refine ⟨by omega,?_⟩
    simp (disch:=first | assumption | omega | (simp;done) | (simp;omega) | (simp only [bt,and_true];first | done | omega | (simp;done))) [↓zlw,beq,ybc,ybd,ybe,endOk,wk,wk2,wk1,wkM,wkL,wkLL,ybf,hcl]
  rw [show parseV xs=(beVal xs,0) by simp only [parseV];rw [if_neg h1,if_neg h2,if_neg h3]]
  dsimp only
  have hv0:∀ k,k≤xs.length→beVal (xs.take k)<2^128:=fun k hk=>by
    have:=beVal_take_lt xs k 16 (by omega)
    omega
  have v1:∀ v,vv v=.agg [.int .u64 ((v/2^64:Nat):Int),.int .u64 ((v % 2^64:Nat):Int)]:=fun _=>rfl
  have fin:∀ (v:Nat),v<2^128→isV ((v/2^64:Nat):Int) ((v % 2^64:Nat):Int):=fun v hv=>⟨by omega,by omega,by omega,by omega⟩
  have hcase:(decide ((xs.length:Int) > 1)=true∧(((b0 xs).toNat:Int)==0)=false)∨(decide ((xs.length:Int) > 1)=false∧True):=by
    by_cases h4:1<xs.length
    · refine .inl ⟨by simp;omega,?_⟩
      have:(b0 xs).toNat≠0:=fun e=>h3 ⟨h4,e⟩
      simp;omega
    · exact .inr ⟨by simp;omega,trivial⟩
  have sp:splice [AV.int .u64 0,AV.int .u64 0] 0 [AV.int .u64 ((beVal xs/2^64:Nat):Int),AV.int .u64 ((beVal xs % 2^64:Nat):Int)]=[AV.int .u64 ((beVal xs/2^64:Nat):Int),AV.int .u64 ((beVal xs % 2^64:Nat):Int)]:=rfl
  rw [v1]
  refine ACalls.of_aw (Ω:=[(367,Ent.pure p_vLeft),(290,Ent.pure p_vOfF),(366,Ent.pure p_vOr)]) (T:=assoc []) mixed (TblOk.cons ok_vLeft (TblOk.cons ok_vOfF (TblOk.cons ok_vOr TblOk.nil))) Tryz.func332 (by kernel_rfl) (by rfl) (rs:=[.cell 2 83,.tmp 3]) (by rfl) (by kernel_rfl) (by simp only [Tryz.ntmps332,yaz,yba];decide) (Nat.le_refl _) fun hcl hlt=>?_
  change aw _ _ _ (KI Tryz.prog [(367,Ent.pure p_vLeft),(290,Ent.pure p_vOfF),(366,Ent.pure p_vOr)] (aEnd Tryz.prog [.cell 2 83,.tmp 3] H.nx _ _) []) _ _
  clear hlt
  rcases hcase with ⟨d3,d4⟩ | ⟨d3,d4⟩
  all_goals simp only [go_sem,byq,d1,d2,d3,dg,ofByte,d4]
  all_goals try refine ⟨by omega,?_⟩
  all_goals
   refine loop_intro (A:=Nat) (fun k=>[(30,.int .i64 (k:Int)),(29,.int .i64 (xs.length:Int)),(28,.slice m 1 (bys xs)),(4,.ptr (H.nx+1) 0),(2,.ptr H.nx 0)])
    (fun k=>(H.push (.cells [.int .u64 0,.int .u64 0])).push (.cells [.int .u64 ((beVal (xs.take k)/2^64:Nat):Int),.int .u64 ((beVal (xs.take k) % 2^64:Nat):Int)])) (fun k=>k≤xs.length) (fun k=>xs.length - k) 0 (by omega) ?_ fun k hk=>?_
  iterate 2
    · simp only [bnq,enter,subF,ltF,ne_eq,Nat.reduceEqDiff,reduceCtorEq,yar,beVal_nil,true_or,and_true]
      all_goals first | rfl | exact .inl rfl
    simp only [go_sem,byq]
    refine cond_split (fun hc=>?_) (fun hc=>?_)
    · have hk:k<xs.length:=by simp at hc;omega
      have e1:IntKind.i64.wrap ((k:Int)+1)=((k+1:Nat):Int):=by rw [wrap_i64]<;>omega
      have hb:=hv0 k (by omega)
      have hb2:beVal (xs.take k)<2^120:=by
        have:=beVal_lt (xs.take k)
        have h5:(256:Nat)^(xs.take k).length≤256^15:=Nat.pow_le_pow_right (by decide) (by rw [List.length_take];omega)
        omega
      have hx:(bys xs).getD k .junk=ofByte (xs.getD k 0):=bys_get hk
      have hxl:=UInt8.toNat_lt (xs.getD k 0)
      have e2:IntKind.u64.wrap (((xs.getD k 0).toNat:Nat):Int)=(((xs.getD k 0).toNat:Nat):Int):=by rw [wrap_u64]<;>omega
      have e3:=byte_in (beVal (xs.take k)) (xs.getD k 0).toNat hb2 hxl
      rw [← beVal_step xs k hk] at e3
      have f1:=fin (beVal (xs.take k)) hb
      have f2:=fin (xs.getD k 0).toNat (by omega)
      have f3:=fin ((beVal (xs.take k) <<< 8) % 2^128) (Nat.mod_lt _ (by decide))
      simp only [go_sem,byq,Int.toNat_natCast,hx,e1,zks,ofByte,p_vLeft,p_vOfF,p_vOr,e2,v1,vOf_back,e3,f1,f2,f3]
      refine ⟨by omega,by decide,by omega,k+1,by omega,by omega,?_⟩
      simp only [bnq,enter,subF,ltF,ne_eq,Nat.reduceEqDiff,reduceCtorEq,true_or,and_self]
    · have hk:k=xs.length:=by simp at hc;omega
      subst hk
      simp only [go_sem,byq,List.take_length,sp]
      simp (disch:=first | assumption | omega | (simp;done) | (simp;omega) | (simp only [bt,and_true];first | done | omega | (simp;done))) [↓zlw,beq,ybc,ybd,ybe,endOk,wk,wk2,wk1,wkM,wkL,wkLL,ybf,hcl]
def p_rMakeF:List AV→AHeap→(AV→Prop)→Prop
  | [.agg l],_,K=>isBits l∧K (vv (unbits l))
  | _,_,_=>False
theorem ok_rMakeF:EntOk Tryz.prog 368 (Ent.pure p_rMakeF):=by
  refine EntOk.pure fun args H K h=>?_
  unfold p_rMakeF at h
  split at h
  rotate_left
  · exact h.elim
  rename_i l
  obtain ⟨c1,hK⟩:=h
  refine ⟨_,hK,?_⟩
  obtain ⟨v,rfl,hv⟩:=isBits_out c1
  clear hK c1
  rw [unbits_bits hv]
  have v1:vv v=.agg [.int .u64 ((v/2^64:Nat):Int),.int .u64 ((v % 2^64:Nat):Int)]:=rfl
  have hbl:∀ i,i<64→(v % 2^64).testBit i=v.testBit i:=fun i hi=>by rw [Nat.testBit_mod_two_pow];simp [hi]
  have hbh:∀ i,(v/2^64).testBit i=v.testBit (i+64):=fun i=>by rw [Nat.testBit_div_two_pow]
  have hx:v/2^64<2^64:=by omega
  have hy:v % 2^64<2^64:=by omega
  rw [v1]
  generalize v/2^64=x at *
  generalize v % 2^64=y at *
  clear v1
  refine ACalls.of_aw (Ω:=[]) (T:=assoc []) mixed TblOk.nil Tryz.func368 (by kernel_rfl) (by rfl) (rs:=[.cell 2 83]) (by rfl) (by kernel_rfl) (by simp only [Tryz.ntmps368,yaz,yba];decide) (Nat.le_refl _) fun hcl hlt=>?_
  change aw _ _ _ (KI Tryz.prog [] (aEnd Tryz.prog [.cell 2 83] H.nx _ _) []) _ _
  clear hlt
  simp only [go_sem,byq]
  refine loop_intro (A:=Nat) (fun k=>[(4,.int .i64 (k:Int)),(3,.ptr (H.nx+1+1) 0),(1,.ptr H.nx 0),(2,.ptr (H.nx+1) 0)])
    (fun k=>((H.push (.cells (bits v))).push (.cells [.int .u64 0,.int .u64 0])).push (.cells [.int .u64 ((x % 2^k:Nat):Int),.int .u64 ((y % 2^k:Nat):Int)])) (fun k=>k≤64) (fun k=>64 - k) 0 (by omega) ?_ fun k hk=>?_
  · simp only [bnq,enter,subF,ltF,ne_eq,Nat.reduceEqDiff,reduceCtorEq,Nat.pow_zero,Nat.mod_one,true_or,and_true]
  simp only [go_sem,byq]
  refine cond_split (fun hc=>?_) (fun hc=>?_)
  · have hk:k<64:=by simp at hc;omega
    have e1:IntKind.i64.wrap ((k:Int)+64)=((k+64:Nat):Int):=by rw [wrap_i64]<;>omega
    have e2:IntKind.u64.wrap (k:Int)=(k:Int):=by rw [wrap_u64]<;>omega
    have e3:IntKind.i64.wrap ((k:Int)+1)=((k+1:Nat):Int):=by rw [wrap_i64]<;>omega
    have g1:=bits_get v k (by omega)
    have g2:=bits_get v (k+64) (by omega)
    have e4:ishl .u64 1 (k:Int)=(((1 <<< k) % 2^64:Nat):Int):=ishl_u64 1 k
    have lx:x % 2^k<2^64:=Nat.lt_of_le_of_lt (Nat.mod_le _ _) hx
    have ly:y % 2^k<2^64:=Nat.lt_of_le_of_lt (Nat.mod_le _ _) hy
    have l1:(1 <<< k) % 2^64<2^64:=Nat.mod_lt _ (by decide)
    have o1:=ior_u64 _ _ lx l1
    have o2:=ior_u64 _ _ ly l1
    have hb1:=hbl k hk
    have hb2:=hbh k
    by_cases c1:v.testBit k=true<;>by_cases c2:v.testBit (k+64)=true
    · rw [c1] at hb1 g1;rw [c2] at hb2 g2
      rw [mod_bit x k hk hb2] at o1
      rw [mod_bit y k hk hb1] at o2
      simp only [go_sem,zav,reduceCtorEq,Nat.reduceEqDiff,Nat.reduceAdd,Nat.reduceMul,Nat.reduceSub,Nat.reduceLeDiff,Nat.reduceLT,Int.reduceMul,Int.reduceAdd,Int.reduceSub,Int.reduceToNat,byq,e1,e2,e3,e4,Int.toNat_natCast,Nat.zero_add,Nat.mul_one,bits_len,g1,g2,o1,o2]
      refine ⟨by omega,by omega,by omega,by omega,by omega,by omega,k+1,by omega,by omega,?_⟩
      simp only [bnq,enter,subF,ltF,ne_eq,Nat.reduceEqDiff,reduceCtorEq,true_or,and_self]
    · have c2:v.testBit (k+64)=false:=by simpa using c2
      rw [c1] at hb1 g1;rw [c2] at hb2 g2
      have o1:=mod_nobit x k hb2
      rw [mod_bit y k hk hb1] at o2
      simp only [go_sem,zav,reduceCtorEq,Nat.reduceEqDiff,Nat.reduceAdd,Nat.reduceMul,Nat.reduceSub,Nat.reduceLeDiff,Nat.reduceLT,Int.reduceMul,Int.reduceAdd,Int.reduceSub,Int.reduceToNat,byq,e1,e2,e3,e4,Int.toNat_natCast,Nat.zero_add,Nat.mul_one,bits_len,g1,g2,o2]
      refine ⟨by omega,by omega,by omega,by omega,by omega,k+1,by omega,by omega,?_⟩
      simp only [bnq,enter,subF,ltF,ne_eq,Nat.reduceEqDiff,reduceCtorEq,o1,true_or,and_self]
    · have c1:v.testBit k=false:=by simpa using c1
      rw [c1] at hb1 g1;rw [c2] at hb2 g2
      have o2:=mod_nobit y k hb1
      rw [mod_bit x k hk hb2] at o1
      simp only [go_sem,zav,reduceCtorEq,Nat.reduceEqDiff,Nat.reduceAdd,Nat.reduceMul,Nat.reduceSub,Nat.reduceLeDiff,Nat.reduceLT,Int.reduceMul,Int.reduceAdd,Int.reduceSub,Int.reduceToNat,byq,e1,e2,e3,e4,Int.toNat_natCast,Nat.zero_add,Nat.mul_one,bits_len,g1,g2,o1]
      refine ⟨by omega,by omega,by omega,by omega,by omega,k+1,by omega,by omega,?_⟩
      simp only [bnq,enter,subF,ltF,ne_eq,Nat.reduceEqDiff,reduceCtorEq,o2,true_or,and_self]
    · have c1:v.testBit k=false:=by simpa using c1
      have c2:v.testBit (k+64)=false:=by simpa using c2
      rw [c1] at hb1 g1;rw [c2] at hb2 g2
      have o1:=mod_nobit x k hb2
      have o2:=mod_nobit y k hb1
      simp only [go_sem,zav,reduceCtorEq,Nat.reduceEqDiff,Nat.reduceAdd,Nat.reduceMul,Nat.reduceSub,Nat.reduceLeDiff,Nat.reduceLT,Int.reduceMul,Int.reduceAdd,Int.reduceSub,Int.reduceToNat,byq,e1,e2,e3,e4,Int.toNat_natCast,Nat.zero_add,Nat.mul_one,bits_len,g1,g2]
      refine ⟨by omega,by omega,by omega,by omega,k+1,by omega,by omega,?_⟩
      simp only [bnq,enter,subF,ltF,ne_eq,Nat.reduceEqDiff,reduceCtorEq,o1,o2,true_or,and_self]
  · have hk:k=64:=by simp at hc;omega
    subst hk
    have m1:x % 2^64=x:=Nat.mod_eq_of_lt hx
    have m2:y % 2^64=y:=Nat.mod_eq_of_lt hy
    simp only [go_sem,byq,m1,m2]
    simp (disch:=first | assumption | omega | (simp;done) | (simp;omega) | (simp only [bt,and_true];first | done | omega | (simp;done))) [↓zlw,beq,ybc,ybd,ybe,endOk,wk,wk2,wk1,wkM,wkL,wkLL,ybf,hcl]
end Go.AL


open Go Go.AL Go.Proofs
namespace Go.AL
set_option linter.all false
set_option maxRecDepth 10000
theorem ti_rreader:ti Tryz.prog 218=some ⟨.struct [(0,32,false),(1,40,false)],2,32,.agg [.slice .nil 1 [],.int .i64 0]⟩:=by kernel_rfl
theorem ti_prreader:ti Tryz.prog 216=some ⟨.ptr 218,1,8,.nilp⟩:=by kernel_rfl
attribute [go_sem] ti_rreader ti_prreader

def p_rParse:List AV→AHeap→(AV→Prop)→Prop
  | [.slice _ 1 l],_,K=>(isB l∧l.length≤140737488355328)∧K (.tup [vv (parseV (unb l)).1,.int .i64 (parseV (unb l)).2])
  | _,_,_=>False
theorem ok_rParse:EntOk Tryz.prog 333 (Ent.pure p_rParse):=by
  refine EntOk.pure fun args H K h=>?_
  unfold p_rParse at h
  split at h
  rotate_left
  · exact h.elim
  rename_i m l
  obtain ⟨⟨c1,hle⟩,hK⟩:=h
  refine ⟨_,hK,?_⟩
  obtain ⟨xs,rfl⟩:=isB_out c1
  clear hK
  simp only [zlh,zks] at *
  have v0:vv 0=.agg [.int .u64 0,.int .u64 0]:=rfl
  by_cases h1:xs.length=0
  · rw [show parseV xs=(0,1) by simp [parseV,h1]]
    dsimp only
    have d1:((xs.length:Int)==0)=true:=by simp [h1]
    refine ACalls.of_aw (Ω:=[(368,Ent.pure p_rMakeF)]) (T:=assoc []) mixed (TblOk.cons ok_rMakeF TblOk.nil) Tryz.func333 (by kernel_rfl) (by rfl) (rs:=[.cell 2 83,.tmp 3]) (by rfl) (by kernel_rfl) (by simp only [Tryz.ntmps333,yaz,yba];decide) (Nat.le_refl _) fun hcl hlt=>?_
    change aw _ _ _ (KI Tryz.prog [(368,Ent.pure p_rMakeF)] (aEnd Tryz.prog [.cell 2 83,.tmp 3] H.nx _ _) []) _ _
    clear hlt
    simp only [go_sem,zav,reduceCtorEq,Nat.reduceEqDiff,Nat.reduceAdd,Nat.reduceMul,Nat.reduceSub,Nat.reduceLeDiff,Nat.reduceLT,Int.reduceMul,Int.reduceAdd,Int.reduceSub,Int.reduceToNat,byq,d1,v0]
    simp (disch:=first | assumption | omega | (simp;done) | (simp;omega) | (simp only [bt,and_true];first | done | omega | (simp;done))) [↓zlw,beq,ybc,ybd,ybe,endOk,wk,wk2,wk1,wkM,wkL,wkLL,ybf,hcl]
  have d1:((xs.length:Int)==0)=false:=by simp;intro e;exact h1 (by rw [e];rfl)
  by_cases h2:16<xs.length
  · rw [show parseV xs=(0,3) by simp [parseV,h1,h2]]
    dsimp only
    have d2:decide ((xs.length:Int) > 16)=true:=by simp;omega
    refine ACalls.of_aw (Ω:=[(368,Ent.pure p_rMakeF)]) (T:=assoc []) mixed (TblOk.cons ok_rMakeF TblOk.nil) Tryz.func333 (by kernel_rfl) (by rfl) (rs:=[.cell 2 83,.tmp 3]) (by rfl) (by kernel_rfl) (by simp only [Tryz.ntmps333,yaz,yba];decide) (Nat.le_refl _) fun hcl hlt=>?_
    change aw _ _ _ (KI Tryz.prog [(368,Ent.pure p_rMakeF)] (aEnd Tryz.prog [.cell 2 83,.tmp 3] H.nx _ _) []) _ _
    clear hlt
    simp only [go_sem,zav,reduceCtorEq,Nat.reduceEqDiff,Nat.reduceAdd,Nat.reduceMul,Nat.reduceSub,Nat.reduceLeDiff,Nat.reduceLT,Int.reduceMul,Int.reduceAdd,Int.reduceSub,Int.reduceToNat,byq,d1,d2,v0]
    simp (disch:=first | assumption | omega | (simp;done) | (simp;omega) | (simp only [bt,and_true];first | done | omega | (simp;done))) [↓zlw,beq,ybc,ybd,ybe,endOk,wk,wk2,wk1,wkM,wkL,wkLL,ybf,hcl]
  have d2:decide ((xs.length:Int) > 16)=false:=by simp;omega
  have dg:(bys xs).getD 0 .junk=ofByte (b0 xs):=b0_get' xs (by omega)
  by_cases h3:1<xs.length∧(b0 xs).toNat=0
  · rw [show parseV xs=(0,5) by simp [parseV,h1,h2,h3]]
    dsimp only
    have d3:decide ((xs.length:Int) > 1)=true:=by simp;omega
    have d4:(((b0 xs).toNat:Int)==0)=true:=by simp [h3.2]
    refine ACalls.of_aw (Ω:=[(368,Ent.pure p_rMakeF)]) (T:=assoc []) mixed (TblOk.cons ok_rMakeF TblOk.nil) Tryz.func333 (by kernel_rfl) (by rfl) (rs:=[.cell 2 83,.tmp 3]) (by rfl) (by kernel_rfl) (by simp only [Tryz.ntmps333,yaz,yba];decide) (Nat.le_refl _) fun hcl hlt=>?_
    change aw _ _ _ (KI Tryz.prog [(368,Ent.pure p_rMakeF)] (aEnd Tryz.prog [.cell 2 83,.tmp 3] H.nx _ _) []) _ _
    clear hlt
    simp only [go_sem,zav,reduceCtorEq,Nat.reduceEqDiff,Nat.reduceAdd,Nat.reduceMul,Nat.reduceSub,Nat.reduceLeDiff,Nat.reduceLT,Int.reduceMul,Int.reduceAdd,Int.reduceSub,Int.reduceToNat,byq,d1,d2,d3,dg,ofByte,d4,v0]
    refine ⟨by omega,?_⟩
    simp (disch:=first | assumption | omega | (simp;done) | (simp;omega) | (simp only [bt,and_true];first | done | omega | (simp;done))) [↓zlw,beq,ybc,ybd,ybe,endOk,wk,wk2,wk1,wkM,wkL,wkLL,ybf,hcl]
  rw [show parseV xs=(beVal xs,0) by simp only [parseV];rw [if_neg h1,if_neg h2,if_neg h3]]
  dsimp only
  have hv:beVal xs<2^128:=by
    have:=beVal_take_lt xs xs.length 16 (by omega)
    rw [List.take_length] at this
    omega
  have hbit:=beVal_bit xs
  have hz:∀ j,8*xs.length≤j→(beVal xs).testBit j=false:=fun j hj=>by
    refine Nat.testBit_lt_two_pow (Nat.lt_of_lt_of_le (beVal_lt xs) ?_)
    rw [show (256:Nat)=2^8 from rfl,← Nat.pow_mul]
    exact Nat.pow_le_pow_right (by decide) hj
  generalize hvv:beVal xs=v at *
  have hcase:(decide ((xs.length:Int) > 1)=true∧(((b0 xs).toNat:Int)==0)=false)∨(decide ((xs.length:Int) > 1)=false∧True):=by
    by_cases h4:1<xs.length
    · refine .inl ⟨by simp;omega,?_⟩
      have:(b0 xs).toNat≠0:=fun e=>h3 ⟨h4,e⟩
      simp;omega
    · exact .inr ⟨by simp;omega,trivial⟩
  have v1:vv v=.agg [.int .u64 ((v/2^64:Nat):Int),.int .u64 ((v % 2^64:Nat):Int)]:=rfl
  refine ACalls.of_aw (Ω:=[(368,Ent.pure p_rMakeF)]) (T:=assoc []) mixed (TblOk.cons ok_rMakeF TblOk.nil) Tryz.func333 (by kernel_rfl) (by rfl) (rs:=[.cell 2 83,.tmp 3]) (by rfl) (by kernel_rfl) (by simp only [Tryz.ntmps333,yaz,yba];decide) (Nat.le_refl _) fun hcl hlt=>?_
  change aw _ _ _ (KI Tryz.prog [(368,Ent.pure p_rMakeF)] (aEnd Tryz.prog [.cell 2 83,.tmp 3] H.nx _ _) []) _ _
  clear hlt
  rcases hcase with ⟨d3,d4⟩ | ⟨d3,d4⟩
  all_goals simp only [go_sem,byq,d1,d2,d3,dg,ofByte,d4]
  all_goals try refine ⟨by omega,?_⟩
  all_goals
   refine loop_intro (A:=Nat) (fun k=>[(31,.int .i64 (k:Int)),(30,.int .i64 (xs.length:Int)),(29,.slice m 1 (bys xs)),(4,.ptr (H.nx+1) 0),(2,.ptr H.nx 0),(0,.slice m 1 (bys xs))])
    (fun k=>(H.push (.cells [.int .u64 0,.int .u64 0])).push (.cells (bitsIf v fun j=>decide (8*(xs.length - k)≤j)))) (fun k=>k≤xs.length) (fun k=>xs.length - k) 0 (by omega) ?_ fun k hk=>?_
  iterate 2
    · have e0:(bitsIf v fun j=>decide (8*(xs.length - 0)≤j))=List.replicate 128 (.bool false):=by
        unfold bitsIf
        rw [List.eq_replicate_iff]
        refine ⟨by simp,fun b hb=>?_⟩
        obtain ⟨j,_,rfl⟩:=List.mem_map.1 hb
        by_cases hj:8*(xs.length - 0)≤j
        · rw [hz j (by omega),Bool.and_false]
        · simp [hj];intro h;omega
      simp only [bnq,enter,subF,ltF,ne_eq,Nat.reduceEqDiff,reduceCtorEq,e0,true_or,and_true]
      all_goals first | rfl | exact .inl rfl
    simp only [go_sem,byq]
    refine cond_split (fun hc=>?_) (fun hc=>?_)
    · have hk:k<xs.length:=by simp at hc;omega
      have e1:IntKind.i64.wrap ((k:Int)+1)=((k+1:Nat):Int):=by rw [wrap_i64]<;>omega
      have hx:(bys xs).getD k .junk=ofByte (xs.getD k 0):=bys_get hk
      have hxl:=UInt8.toNat_lt (xs.getD k 0)
      simp only [go_sem,byq,Int.toNat_natCast,hx,e1,zks,ofByte]
      refine ⟨by omega,?_⟩
      refine loop_intro (A:=Nat) (fun i=>[(7,.int .i64 (i:Int)),(6,.int .u8 ((xs.getD k 0).toNat:Nat)),(5,.int .i64 (k:Int)),(31,.int .i64 (k:Int)),(30,.int .i64 (xs.length:Int)),(29,.slice m 1 (bys xs)),(4,.ptr (H.nx+1) 0),(2,.ptr H.nx 0),(0,.slice m 1 (bys xs))])
        (fun i=>(H.push (.cells [.int .u64 0,.int .u64 0])).push (.cells (bitsIf v fun j=>decide (8*(xs.length - k)≤j)||(decide (8*(xs.length - 1 - k)≤j)&&decide (j<8*(xs.length - 1 - k)+i))))) (fun i=>i≤8) (fun i=>8 - i) 0 (by omega) ?_ fun i hi=>?_
      · have e0:(bitsIf v fun j=>decide (8*(xs.length - k)≤j)||(decide (8*(xs.length - 1 - k)≤j)&&decide (j<8*(xs.length - 1 - k)+0)))=bitsIf v fun j=>decide (8*(xs.length - k)≤j):=by
          unfold bitsIf
          refine List.map_congr_left fun j _=>?_
          congr 2
          rw [Bool.eq_iff_iff];simp;omega
        simp only [bnq,enter,subF,ltF,ne_eq,Nat.reduceEqDiff,reduceCtorEq,e0,true_or,and_true]
      simp only [go_sem,byq]
      refine cond_split (fun hc2=>?_) (fun hc2=>?_)
      · have hi:i<8:=by simp at hc2;omega
        have w1:IntKind.i64.wrap ((xs.length:Int) - 1)=((xs.length - 1:Nat):Int):=by rw [wrap_i64]<;>omega
        have w2:IntKind.i64.wrap (((xs.length - 1:Nat):Int) - (k:Int))=((xs.length - 1 - k:Nat):Int):=by rw [wrap_i64]<;>omega
        have w3:IntKind.i64.wrap (8*((xs.length - 1 - k:Nat):Int))=((8*(xs.length - 1 - k):Nat):Int):=by rw [wrap_i64]<;>omega
        have w4:IntKind.i64.wrap (((8*(xs.length - 1 - k):Nat):Int)+(i:Int))=((8*(xs.length - 1 - k)+i:Nat):Int):=by rw [wrap_i64]<;>omega
        have w5:IntKind.u64.wrap (i:Int)=(i:Int):=by rw [wrap_u64]<;>omega
        have w6:IntKind.i64.wrap ((i:Int)+1)=((i+1:Nat):Int):=by rw [wrap_i64]<;>omega
        have w7:=ishr_u8 (xs.getD k 0).toNat i hxl hi
        have w8:=iand_u8_one ((xs.getD k 0).toNat >>> i) (Nat.lt_of_le_of_lt (Nat.shiftRight_le _ _) hxl)
        have w9:=bit_one (xs.getD k 0).toNat i
        rw [← hbit k i hk hi] at w9
        have hst:(bitsIf v fun j=>decide (8*(xs.length - k)≤j)||(decide (8*(xs.length - 1 - k)≤j)&&decide (j<8*(xs.length - 1 - k)+i))).set (8*(xs.length - 1 - k)+i) (.bool (v.testBit (8*(xs.length - 1 - k)+i)))=bitsIf v fun j=>decide (8*(xs.length - k)≤j)||(decide (8*(xs.length - 1 - k)≤j)&&decide (j<8*(xs.length - 1 - k)+(i+1))):=by
          rw [bitsIf_set v _ (fun j=>decide (8*(xs.length - k)≤j)||(decide (8*(xs.length - 1 - k)≤j)&&decide (j<8*(xs.length - 1 - k)+(i+1)))) _ (fun j hj=>by rw [Bool.eq_iff_iff];simp;omega) (by simp)]
        simp only [go_sem,byq,Int.toNat_natCast,zks,w1,w2,w3,w4,w5,w6,w7,w8,w9,Nat.zero_add,Nat.mul_one,bitsIf_len,splice_one,hst]
        refine ⟨by omega,by omega,by omega,i+1,by omega,by omega,?_⟩
        simp only [bnq,enter,subF,ltF,ne_eq,Nat.reduceEqDiff,reduceCtorEq,true_or,and_self]
      · have hi:i=8:=by simp at hc2;omega
        subst hi
        have e8:(bitsIf v fun j=>decide (8*(xs.length - k)≤j)||(decide (8*(xs.length - 1 - k)≤j)&&decide (j<8*(xs.length - 1 - k)+8)))=bitsIf v fun j=>decide (8*(xs.length - (k+1))≤j):=by
          unfold bitsIf
          refine List.map_congr_left fun j _=>?_
          congr 2
          rw [Bool.eq_iff_iff];simp;omega
        simp only [go_sem,byq,e1,e8]
        refine ⟨k+1,by omega,by omega,?_⟩
        simp only [bnq,enter,subF,ltF,ne_eq,Nat.reduceEqDiff,reduceCtorEq,true_or,and_self]
    · have hk:k=xs.length:=by simp at hc;omega
      subst hk
      have ea:(bitsIf v fun j=>decide (8*(xs.length - xs.length)≤j))=bits v:=bitsIf_all _ _ fun j _=>by simp
      have et:List.take 128 (bits v)=bits v:=ybc (by rw [bits_len];omega)
      simp only [go_sem,byq,ea,bits_len,et,p_rMakeF,isBits_bits hv,unbits_bits hv,v1]
      simp (disch:=first | assumption | omega | (simp;done) | (simp;omega) | (simp only [bt,and_true];first | done | omega | (simp;done))) [↓zlw,beq,ybc,ybd,ybe,endOk,wk,wk2,wk1,wkM,wkL,wkLL,ybf,hcl]
end Go.AL


open Go Go.AL Go.Proofs
namespace Go.AL
set_option linter.all false
set_option maxRecDepth 10000

/-- two operands -/
def p2V (f:Nat→Nat→AV):List AV→AHeap→(AV→Prop)→Prop
  | [.agg [.int .u64 a,.int .u64 b],.agg [.int .u64 c,.int .u64 d]],_,K=>(isV a b∧isV c d)∧K (f (vOf a.toNat b.toNat) (vOf c.toNat d.toNat))
  | _,_,_=>False
theorem teq_valV {a b c d:Int}:teq Tryz.prog 9 83 (.agg [.int .u64 a,.int .u64 b]) (.agg [.int .u64 c,.int .u64 d])=some ((a==c)&&((b==d)&&true)):=by
  have g2:Tryz.prog.stoodInHeld 83=false:=by kernel_rfl
  simp [ti_zvalue,teq,teq.go,teq.part,ti_zu64,ceq,g2,TD.agg]
theorem eqg_valV:Tryz.prog.eqGuardType Tryz.prog.depth 83=false:=by kernel_rfl
theorem b_same (b:Bool):((b==b) != true)=false:=by cases b<;>rfl
theorem b_tf:((true==false) != true)=true:=rfl
theorem b_ft:((false==true) != true)=true:=rfl
def p_rCompare:=p2V fun x y=>.int .i64 (cmpN x y)
set_option maxHeartbeats 2000000 in
theorem ok_rCompare:EntOk Tryz.prog 370 (Ent.pure p_rCompare):=by
  unfold p_rCompare
  refine EntOk.pure fun args H K h=>?_
  unfold p2V at h
  split at h
  rotate_left
  · exact h.elim
  rename_i a b c d
  obtain ⟨⟨⟨h0,h1,h2,h3⟩,k0,k1,k2,k3⟩,hK⟩:=h
  refine ⟨_,hK,?_⟩
  obtain ⟨x,rfl⟩:=u64_lift h0
  obtain ⟨y,rfl⟩:=u64_lift h2
  obtain ⟨z,rfl⟩:=u64_lift k0
  obtain ⟨w,rfl⟩:=u64_lift k2
  clear hK h0 h2 k0 k2
  simp only [Int.toNat_natCast]
  have hv:=vOf_lt (hi:=x) (lo:=y) (by omega) (by omega)
  have hu:=vOf_lt (hi:=z) (lo:=w) (by omega) (by omega)
  refine ACalls.of_aw (Ω:=[(352,Ent.pure p_rRead)]) (T:=assoc [(1,[[],[0],[],[0,1,2],[],[],[0,1,2,3,4,5],[0,1,2,3,4,5]]),(801,[[4,457],[5,457]])]) mixed (TblOk.cons ok_rRead TblOk.nil) Tryz.func370 (by kernel_rfl) (by rfl) (rs:=[.tmp 4]) (by rfl) (by kernel_rfl) (by simp only [Tryz.ntmps370,yaz,yba];decide) (Nat.le_refl _) fun hcl hlt=>?_
  change aw _ _ _ (KI Tryz.prog [(352,Ent.pure p_rRead)] (aEnd Tryz.prog [.tmp 4] H.nx _ _ (assoc [(1,[[],[0],[],[0,1,2],[],[],[0,1,2,3,4,5],[0,1,2,3,4,5]]),(801,[[4,457],[5,457]])])) []) _ _
  clear hlt
  generalize hvo:vOf x y=v at *
  generalize huo:vOf z w=u at *
  have es:∀ t,splice (List.replicate 128 (.bool false)) 0 (bits t)=bits t:=fun t=>replicate_splice (y:=.junk) (bits_len t)
  have tv:∀ t j,t<2^128→128≤j→t.testBit j=false:=fun t j ht hj=>Nat.testBit_lt_two_pow (Nat.lt_of_lt_of_le ht (Nat.pow_le_pow_right (by decide) hj))
  simp only [go_sem,p_rRead,isV,Int.toNat_natCast,hvo,huo,bits_len,allOne_bits,es]
  (repeat with_reducible refine And.intro (by first | exact True.intro | decide | omega | (simp [zib,zge,zgf,zgg,zgi,zgh,zgm];first | done | omega)) ?_)
  refine loop_intro (A:=Nat) (fun k=>[(7,.int .i64 ((k:Int) - 1)),(6,.ptr (H.nx+1+1+1) 0),(5,.ptr (H.nx+1+1) 0)])
    (fun k=>(((H.push (.cells [.int .u64 (x:Int),.int .u64 (y:Int)])).push (.cells [.int .u64 (z:Int),.int .u64 (w:Int)])).push (.cells (bits v))).push (.cells (bits u))) (fun k=>k≤128∧∀ j,k≤j→v.testBit j=u.testBit j) (fun k=>k) 128 ⟨by omega,fun j hj=>by rw [tv v j hv hj,tv u j hu hj]⟩ ?_ fun k hk=>?_
  · simp only [bnq,enter,subF,ltF,ne_eq,Nat.reduceEqDiff,reduceCtorEq,true_or,and_true]
    all_goals rfl
  obtain ⟨hk,hz⟩:=hk
  simp only [go_sem]
  refine cond_split (fun hc=>?_) (fun hc=>?_)
  · have hk0:1≤k:=by simp at hc;omega
    obtain ⟨j,rfl⟩:∃ j,k=j+1:=⟨k - 1,by omega⟩
    have e0:((j+1:Nat):Int) - 1=(j:Int):=by omega
    have e1:IntKind.i64.wrap ((j:Int) - 1)=(j:Int) - 1:=by rw [wrap_i64]<;>omega
    have g1:=bits_get v j (by omega)
    have g2:=bits_get u j (by omega)
    by_cases hj:v.testBit j=u.testBit j
    · simp only [go_sem,Int.toNat_natCast,bits_len,e0,e1,Nat.mul_one,Nat.zero_add,g1,g2,hj,b_same]
      (repeat with_reducible refine And.intro (by first | exact True.intro | decide | omega | (simp [zib,zge,zgf,zgg,zgi,zgh,zgm];first | done | omega)) ?_)
      refine ⟨j,⟨by omega,fun i hi=>?_⟩,by omega,?_⟩
      · by_cases h:i=j
        · subst h;exact hj
        · exact hz i (by omega)
      · simp only [bnq,enter,subF,ltF,ne_eq,Nat.reduceEqDiff,reduceCtorEq,true_or,and_self]
    · have hz':∀ i,j<i→v.testBit i=u.testBit i:=fun i hi=>hz i (by omega)
      cases hb:u.testBit j
      · have hb0:v.testBit j=true:=by
          rw [hb] at hj;simpa using hj
        have hlt:u<v:=top_lt hb hb0 fun i hi=>(hz' i hi).symm
        have ec:cmpN v u=1:=by unfold cmpN;rw [if_neg (by omega),if_neg (by omega)]
        rw [hb] at g2;rw [hb0] at g1
        simp only [go_sem,Int.toNat_natCast,bits_len,e0,e1,Nat.mul_one,Nat.zero_add,g1,g2,ec,b_tf]
        (repeat with_reducible refine And.intro (by first | exact True.intro | decide | omega | (simp [zib,zge,zgf,zgg,zgi,zgh,zgm];first | done | omega)) ?_)
        simp (disch:=first | assumption | omega | (simp;done) | (simp;omega) | (simp only [bt,and_true];first | done | omega | (simp;done))) [↓zlw,beq,ybc,ybd,ybe,endOk,wk,wk2,wk1,wkM,wkL,wkLL,ybf,hcl]
      · have hb0:v.testBit j=false:=by
          rw [hb] at hj;simpa using hj
        have hlt:v<u:=top_lt hb0 hb fun i hi=>(hz' i hi)
        have ec:cmpN v u = -1:=by unfold cmpN;rw [if_neg (by omega),if_pos (by omega)]
        rw [hb] at g2;rw [hb0] at g1
        simp only [go_sem,Int.toNat_natCast,bits_len,e0,e1,Nat.mul_one,Nat.zero_add,g1,g2,ec,b_ft]
        (repeat with_reducible refine And.intro (by first | exact True.intro | decide | omega | (simp [zib,zge,zgf,zgg,zgi,zgh,zgm];first | done | omega)) ?_)
        simp (disch:=first | assumption | omega | (simp;done) | (simp;omega) | (simp only [bt,and_true];first | done | omega | (simp;done))) [↓zlw,beq,ybc,ybd,ybe,endOk,wk,wk2,wk1,wkM,wkL,wkLL,ybf,hcl]
  · have hk0:k=0:=by simp at hc;omega
    subst hk0
    have:v=u:=Nat.eq_of_testBit_eq fun j=>hz j (by omega)
    subst this
    have ec:cmpN v v=0:=by unfold cmpN;rw [if_pos rfl]
    simp only [go_sem,ec]
    simp (disch:=first | assumption | omega | (simp;done) | (simp;omega) | (simp only [bt,and_true];first | done | omega | (simp;done))) [↓zlw,beq,ybc,ybd,ybe,endOk,wk,wk2,wk1,wkM,wkL,wkLL,ybf,hcl]
end Go.AL

