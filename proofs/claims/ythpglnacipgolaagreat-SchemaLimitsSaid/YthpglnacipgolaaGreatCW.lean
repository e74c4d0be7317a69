/- Contracts and plain laws, a part of the proof; no condition of its own. -/
import Derived.Test.YthpglnacipgolaaGreatC02
import Derived.Test.YthpglnacipgolaaGreatLGen
open List renaming length_cons → yaz, length_nil → yba, take_of_length_le → ybc, drop_append → ybd, take_append → ybe, drop_eq_nil_of_le → ybf, nil_append → yak
open Option renaming map_some → yag
open Go Go.AL Go.Proofs
namespace Go.AL
set_option linter.all false
set_option maxRecDepth 10000
theorem ti_u64:ti Tryz.prog 81=some ⟨.int .u64,1,8,.int .u64 0⟩:=by kernel_rfl
theorem ti_val:ti Tryz.prog 83=some ⟨.struct [(0,81,false),(1,81,false)],2,16,.agg [.int .u64 0,.int .u64 0]⟩:=by kernel_rfl
theorem ti_a16:ti Tryz.prog 480=some ⟨.array 16 5,16,16,.agg (List.replicate 16 (.int .u8 0))⟩:=by kernel_rfl
attribute [go_sem] ti_u64 ti_val ti_a16

def p_Len64:List AV→AHeap→(AV→Prop)→Prop
  | [.int .u64 n],_,K=>(0≤n∧n<18446744073709551616)∧K (.int .i64 (bl n.toNat:Nat))
  | _,_,_=>False

/-- the table of lengths -/
def lenTab:List UInt8:=(List.range 256).map fun n=>UInt8.ofNat (bl n)
theorem lenTab_eq:([0,1,2,2,3,3,3,3,4,4,4,4,4,4,4,4,5,5,5,5,5,5,5,5,5,5,5,5,5,5,5,5,6,6,6,6,6,6,6,6,6,6,6,6,6,6,6,6,6,6,6,6,6,6,6,6,6,6,6,6,6,6,6,6].append [7,7,7,7,7,7,7,7,7,7,7,7,7,7,7,7,7,7,7,7,7,7,7,7,7,7,7,7,7,7,7,7,7,7,7,7,7,7,7,7,7,7,7,7,7,7,7,7,7,7,7,7,7,7,7,7,7,7,7,7,7,7,7,7]).append ([8,8,8,8,8,8,8,8,8,8,8,8,8,8,8,8,8,8,8,8,8,8,8,8,8,8,8,8,8,8,8,8,8,8,8,8,8,8,8,8,8,8,8,8,8,8,8,8,8,8,8,8,8,8,8,8,8,8,8,8,8,8,8,8].append [8,8,8,8,8,8,8,8,8,8,8,8,8,8,8,8,8,8,8,8,8,8,8,8,8,8,8,8,8,8,8,8,8,8,8,8,8,8,8,8,8,8,8,8,8,8,8,8,8,8,8,8,8,8,8,8,8,8,8,8,8,8,8,8])=lenTab:=by decide +kernel
theorem lenTab_len:lenTab.length=256:=by simp [lenTab]
theorem lenTab_get (n:Nat) (h:n<256):(lenTab.getD n 0).toNat=bl n:=by
  unfold lenTab
  rw [List.getD_eq_getElem?_getD,List.getElem?_map,List.getElem?_range h]
  have:bl n≤8:=bl_le.2 h
  simp only [yag,Option.getD_some]
  rw [UInt8.toNat_ofNat_of_lt' (by simp [UInt8.size];omega)]

/-- one way through Len64: shifts by s in all -/
theorem len64_end {m s:Nat} {H:AHeap} (hcl:H.Closed) (hm:m<2^64) (h:m >>> s<256) (hs:s=0∨2^s≤m) :
    (0≤IntKind.u8.wrap ((m >>> s:Nat):Int)∧IntKind.u8.wrap ((m >>> s:Nat):Int)<(lenTab.length:Int)) ∧
    endOk H (AV.int IntKind.i64 (IntKind.i64.wrap ((s:Int)+IntKind.i64.wrap ((lenTab.getD (IntKind.u8.wrap ((m >>> s:Nat):Int)).toNat 0).toNat:Int)))) H (AV.int IntKind.i64 (bl m:Nat)):=by
  have e:IntKind.u8.wrap ((m >>> s:Nat):Int)=((m >>> s:Nat):Int):=by
    have:IntKind.u8.wrap ((m >>> s:Nat):Int)=((m >>> s:Nat):Int) % 256:=by simp [IntKind.wrap,IntKind.signed,IntKind.bits]
    rw [this]
    generalize m >>> s=x at h ⊢
    omega
  rw [e,lenTab_len,Int.toNat_natCast,lenTab_get _ h]
  refine ⟨⟨Int.natCast_nonneg _,by generalize m >>> s=x at h ⊢;omega⟩,?_⟩
  have hb:bl m=s+bl (m >>> s):=by
    rcases hs with rfl | hs
    · simp
    · exact bl_shift m s hs
  have h8:bl (m >>> s)≤8:=bl_le.2 h
  have h64:bl m≤64:=bl_le.2 hm
  have e2:IntKind.i64.wrap ((bl (m >>> s):Nat):Int)=(bl (m >>> s):Nat):=by rw [wrap_i64]<;>omega
  have e3:IntKind.i64.wrap ((s:Int)+(bl (m >>> s):Nat))=(bl m:Nat):=by rw [wrap_i64]<;>omega
  rw [e2,e3]
  simp [endOk,wk,wk2,wk1,zmq,hcl,zmz]

theorem ok_Len64:EntOk Tryz.prog 391 (Ent.pure p_Len64):=by
  refine EntOk.pure fun args H K h=>?_
  unfold p_Len64 at h
  split at h
  rotate_left
  · exact h.elim
  rename_i n
  obtain ⟨⟨h0,h1⟩,hK⟩:=h
  refine ⟨_,hK,?_⟩
  obtain ⟨m,rfl⟩:=u64_lift h0
  clear hK h0
  rw [Int.toNat_natCast]
  have hm:m<2^64:=by omega
  clear h1
  refine ACalls.of_aw (Ω:=[]) (T:=assoc []) mixed TblOk.nil Tryz.func391 (by kernel_rfl) (by rfl) (rs:=[.tmp 2]) (by rfl) (by kernel_rfl) (by simp only [Tryz.ntmps391,yaz,yba];decide) (Nat.le_refl _) fun hcl hlt=>?_
  change aw _ _ _ (KI Tryz.prog [] (aEnd Tryz.prog [.tmp 2] H.nx _ _) []) _ _
  clear hlt
  have s32:∀ a:Nat,a<2^64→ishr .u64 (a:Int) 32=((a >>> 32:Nat):Int):=fun a h=>ishr_u64 a 32 h
  have s16:∀ a:Nat,a<2^64→ishr .u64 (a:Int) 16=((a >>> 16:Nat):Int):=fun a h=>ishr_u64 a 16 h
  have s8:∀ a:Nat,a<2^64→ishr .u64 (a:Int) 8=((a >>> 8:Nat):Int):=fun a h=>ishr_u64 a 8 h
  have q1:m >>> 32<2^64:=shr_lt hm
  have q2:m >>> 16<2^64:=shr_lt hm
  have q3:m >>> 32 >>> 16<2^64:=shr_lt q1
  have w48:IntKind.i64.wrap 48=48:=by decide
  have w40:IntKind.i64.wrap 40=40:=by decide
  have w24:IntKind.i64.wrap 24=24:=by decide
  have w56:IntKind.i64.wrap (48+8)=56:=by decide
  have w56':IntKind.i64.wrap 56=56:=by decide
  have wn:∀ k:Nat,(0≤IntKind.u8.wrap ((m >>> k:Nat):Int))=True:=fun k=>eq_true (by simp [IntKind.wrap,IntKind.signed,IntKind.bits];try omega)
  have q4:m >>> 48<2^64:=shr_lt hm
  simp only [go_sem,zav,reduceCtorEq,Nat.reduceEqDiff,Nat.reduceAdd,Nat.reduceMul,Nat.reduceSub,Nat.reduceLeDiff,Nat.reduceLT,Int.reduceMul,Int.reduceAdd,Int.reduceSub,Int.reduceToNat,byq,lenTab_eq,s32,s16,s8,hm,q1,q2,q3,q4,w48,w40,w24,w56,w56',← Nat.shiftRight_add]
  have sr:∀ k:Nat,m >>> k=m/2^k:=fun k=>Nat.shiftRight_eq_div_pow m k
  have fin:=fun s=>@len64_end m s H hcl hm
  refine both_split (fun t1=>⟨by decide,both_split (fun t2=>⟨by decide,both_split (fun t3=>⟨by decide,?_⟩) (fun t3=>?_)⟩) (fun t2=>both_split (fun t3=>⟨by decide,?_⟩) (fun t3=>?_))⟩)
    (fun t1=>both_split (fun t2=>⟨by decide,both_split (fun t3=>⟨by decide,?_⟩) (fun t3=>?_)⟩) (fun t2=>both_split (fun t3=>⟨by decide,?_⟩) (fun t3=>?_)))
  all_goals simp only [decide_eq_true_eq,decide_eq_false_iff_not,sr,ge_iff_le] at t1 t2 t3
  · first | exact fin 56 (by rw [sr];omega) (.inr (by omega)) | exact ⟨(fin 56 (by rw [sr];omega) (.inr (by omega))).1.2,(fin 56 (by rw [sr];omega) (.inr (by omega))).2⟩
  · first | exact fin 48 (by rw [sr];omega) (.inr (by omega)) | exact ⟨(fin 48 (by rw [sr];omega) (.inr (by omega))).1.2,(fin 48 (by rw [sr];omega) (.inr (by omega))).2⟩
  · first | exact fin 40 (by rw [sr];omega) (.inr (by omega)) | exact ⟨(fin 40 (by rw [sr];omega) (.inr (by omega))).1.2,(fin 40 (by rw [sr];omega) (.inr (by omega))).2⟩
  · first | exact fin 32 (by rw [sr];omega) (.inr (by omega)) | exact ⟨(fin 32 (by rw [sr];omega) (.inr (by omega))).1.2,(fin 32 (by rw [sr];omega) (.inr (by omega))).2⟩
  · first | exact fin 24 (by rw [sr];omega) (.inr (by omega)) | exact ⟨(fin 24 (by rw [sr];omega) (.inr (by omega))).1.2,(fin 24 (by rw [sr];omega) (.inr (by omega))).2⟩
  · first | exact fin 16 (by rw [sr];omega) (.inr (by omega)) | exact ⟨(fin 16 (by rw [sr];omega) (.inr (by omega))).1.2,(fin 16 (by rw [sr];omega) (.inr (by omega))).2⟩
  · first | exact fin 8 (by rw [sr];omega) (.inr (by omega)) | exact ⟨(fin 8 (by rw [sr];omega) (.inr (by omega))).1.2,(fin 8 (by rw [sr];omega) (.inr (by omega))).2⟩
  · first | exact fin 0 (by rw [sr];omega) (.inl rfl) | exact ⟨(fin 0 (by rw [sr];omega) (.inl rfl)).1.2,(fin 0 (by rw [sr];omega) (.inl rfl)).2⟩

def p_vLenF:List AV→AHeap→(AV→Prop)→Prop
  | [.agg [.int .u64 hi,.int .u64 lo]],_,K=>(0≤hi∧hi<18446744073709551616∧0≤lo∧lo<18446744073709551616)∧K (.int .i64 (bl (vOf hi.toNat lo.toNat):Nat))
  | _,_,_=>False

theorem ok_vLenF:EntOk Tryz.prog 384 (Ent.pure p_vLenF):=by
  refine EntOk.pure fun args H K h=>?_
  unfold p_vLenF at h
  split at h
  rotate_left
  · exact h.elim
  rename_i hi lo
  obtain ⟨⟨h0,h1,h2,h3⟩,hK⟩:=h
  refine ⟨_,hK,?_⟩
  obtain ⟨x,rfl⟩:=u64_lift h0
  obtain ⟨y,rfl⟩:=u64_lift h2
  clear hK h0 h2
  rw [Int.toNat_natCast,Int.toNat_natCast]
  have hx:x<2^64:=by omega
  have hy:y<2^64:=by omega
  refine ACalls.of_aw (Ω:=[(391,Ent.pure p_Len64)]) (T:=assoc []) mixed (TblOk.cons ok_Len64 TblOk.nil) Tryz.func384 (by kernel_rfl) (by rfl) (rs:=[.tmp 2]) (by rfl) (by kernel_rfl) (by simp only [Tryz.ntmps384,yaz,yba];decide) (Nat.le_refl _) fun hcl hlt=>?_
  change aw _ _ _ (KI Tryz.prog [(391,Ent.pure p_Len64)] (aEnd Tryz.prog [.tmp 2] H.nx _ _) []) _ _
  clear hlt
  have b1:bl x≤64:=bl_le.2 hx
  have hw:IntKind.i64.wrap (64+((bl x:Nat):Int))=((64+bl x:Nat):Int):=by rw [wrap_i64]<;>omega
  simp only [go_sem,zav,reduceCtorEq,Nat.reduceEqDiff,Nat.reduceAdd,Nat.reduceMul,Nat.reduceSub,Nat.reduceLeDiff,Nat.reduceLT,Int.reduceMul,Int.reduceAdd,Int.reduceSub,Int.reduceToNat,byq,p_Len64,Int.toNat_natCast,hw]
  rw [bl_vOf hy]
  refine both_split (fun t=>?_) (fun t=>?_)
  · have t':x≠0:=by simpa using t
    rw [if_neg t']
    repeat refine ⟨by omega,?_⟩
    simp (disch:=first | assumption | omega | (simp;done) | (simp;omega) | (simp only [bt,and_true];first | done | omega | (simp;done))) [↓zmi,beq,ybc,ybd,ybe,endOk,wk,wk2,wk1,wkM,wkL,wkLL,ybf,hcl]
  · have t':x=0:=by simpa using t
    rw [if_pos t']
    repeat refine ⟨by omega,?_⟩
    simp (disch:=first | assumption | omega | (simp;done) | (simp;omega) | (simp only [bt,and_true];first | done | omega | (simp;done))) [↓zmi,beq,ybc,ybd,ybe,endOk,wk,wk2,wk1,wkM,wkL,wkLL,ybf,hcl]

def isV (hi lo:Int):Prop:=0≤hi∧hi<18446744073709551616∧0≤lo∧lo<18446744073709551616

def p_vRight:List AV→AHeap→(AV→Prop)→Prop
  | [.agg [.int .u64 hi,.int .u64 lo],.int .i64 n],_,K=>(isV hi lo∧n<9223372036854775808)∧K (vv (vOf hi.toNat lo.toNat >>> n.toNat))
  | _,_,_=>False

theorem ok_vRight:EntOk Tryz.prog 390 (Ent.pure p_vRight):=by
  refine EntOk.pure fun args H K h=>?_
  unfold p_vRight at h
  split at h
  rotate_left
  · exact h.elim
  rename_i hi lo n
  obtain ⟨⟨⟨h0,h1,h2,h3⟩,hn⟩,hK⟩:=h
  refine ⟨_,hK,?_⟩
  obtain ⟨x,rfl⟩:=u64_lift h0
  obtain ⟨y,rfl⟩:=u64_lift h2
  clear hK h0 h2
  rw [Int.toNat_natCast,Int.toNat_natCast]
  have hx:x<2^64:=by omega
  have hy:y<2^64:=by omega
  refine ACalls.of_aw (Ω:=[]) (T:=assoc []) mixed TblOk.nil Tryz.func390 (by kernel_rfl) (by rfl) (rs:=[.cell 4 83]) (by rfl) (by kernel_rfl) (by simp only [Tryz.ntmps390,yaz,yba];decide) (Nat.le_refl _) fun hcl hlt=>?_
  change aw _ _ _ (KI Tryz.prog [] (aEnd Tryz.prog [.cell 4 83] H.nx _ _) []) _ _
  clear hlt
  simp only [go_sem,zav,reduceCtorEq,Nat.reduceEqDiff,Nat.reduceAdd,Nat.reduceMul,Nat.reduceSub,Nat.reduceLeDiff,Nat.reduceLT,Int.reduceMul,Int.reduceAdd,Int.reduceSub,Int.reduceToNat,byq]
  refine both_split (fun t=>?_) (fun t=>both_split (fun s=>?_) (fun s=>?_))
  · have t':n.toNat=0:=by simp at t;omega
    rw [t',Nat.shiftRight_zero,vv_vOf hy]
    simp (disch:=first | assumption | omega | (simp;done) | (simp;omega) | (simp only [bt,and_true];first | done | omega | (simp;done))) [↓zmi,beq,ybc,ybd,ybe,endOk,wk,wk2,wk1,wkM,wkL,wkLL,ybf,hcl]
  · simp at t s
    obtain ⟨m,rfl⟩:∃ m:Nat,n=m+64:=⟨(n - 64).toNat,by omega⟩
    have e1:IntKind.i64.wrap ((m:Int)+64 - 64)=m:=by rw [wrap_i64]<;>omega
    have e2:IntKind.u64.wrap (m:Int)=m:=by rw [wrap_u64]<;>omega
    have e3:((m:Int)+64).toNat=m+64:=by omega
    have e4:vv (vOf x y >>> (m+64))=.agg [.int .u64 0,.int .u64 ((x >>> m:Nat):Int)]:=by
      rw [right_far x y _ hy hx (by omega),Nat.add_sub_cancel]
      have:=vv_vOf (hi:=0) (lo:=x >>> m) (shr_lt hx)
      simpa [vOf] using this
    rw [e3,e4,e1,e2,ishr_u64 x m hx]
    repeat refine ⟨by omega,?_⟩
    simp (disch:=first | assumption | omega | (simp;done) | (simp;omega) | (simp only [bt,and_true];first | done | omega | (simp;done))) [↓zmi,beq,ybc,ybd,ybe,endOk,wk,wk2,wk1,wkM,wkL,wkLL,ybf,hcl]
  · simp at t s
    obtain ⟨m,rfl⟩:∃ m:Nat,n=m:=⟨n.toNat,by omega⟩
    have hm:m<64:=by omega
    have e1:IntKind.i64.wrap (64 - (m:Int))=((64 - m:Nat):Int):=by rw [wrap_i64]<;>omega
    have e2:IntKind.u64.wrap (m:Int)=m:=by rw [wrap_u64]<;>omega
    have e3:IntKind.u64.wrap ((64 - m:Nat):Int)=((64 - m:Nat):Int):=by rw [wrap_u64]<;>omega
    have e4:vv (vOf x y >>> m)=.agg [.int .u64 ((x >>> m:Nat):Int),.int .u64 (((y >>> m ||| (x <<< (64 - m)) % 2^64:Nat)):Int)]:=by
      unfold vv
      rw [right_hi x y m hy,right_lo x y m hy hm]
    rw [e1,e2,e3,Int.toNat_natCast,e4,ishr_u64 x m hx,ishr_u64 y m hy,ishl_u64,ior_u64 _ _ (shr_lt hy) (Nat.mod_lt _ (by decide))]
    repeat refine ⟨by omega,?_⟩
    simp (disch:=first | assumption | omega | (simp;done) | (simp;omega) | (simp only [bt,and_true];first | done | omega | (simp;done))) [↓zmi,beq,ybc,ybd,ybe,endOk,wk,wk2,wk1,wkM,wkL,wkLL,ybf,hcl]

theorem zeros_bys {n:Nat}:List.replicate n (AV.int .u8 0)=bys (List.replicate n 0):=by simp [bys,ofByte]
theorem u8_of (a:Nat):UInt8.ofNat (((a % 2^64:Nat):Int) % 256).toNat=UInt8.ofNat a:=by
  rw [UInt8.ofNat_eq_iff_mod_eq_toNat,UInt8.toNat_ofNat']
  omega
/-- the first k bytes written, the others zero -/
def filled (l:List UInt8) (k:Nat):List UInt8:=l.take k++List.replicate (l.length - k) 0
theorem filled_zero (l:List UInt8):filled l 0=List.replicate l.length 0:=by simp [filled]
theorem filled_all (l:List UInt8):filled l l.length=l:=by simp [filled]
theorem filled_len (l:List UInt8) (k:Nat) (h:k≤l.length):(filled l k).length=l.length:=by simp [filled];omega
theorem filled_step (l:List UInt8) (k:Nat) (h:k<l.length):(filled l k).take k++[l[k]]++(filled l k).drop (k+1)=filled l (k+1):=by
  unfold filled
  have e1:(l.take k).length=k:=by simp;omega
  rw [List.take_append_of_le_length (by omega),ybd,ybc (by omega),e1,List.drop_of_length_le (by omega),yak,List.drop_replicate,List.take_succ_eq_append_getElem h,Nat.add_sub_cancel_left]
  rfl

def p_vAll:List AV→AHeap→(AV→Prop)→Prop
  | [.agg [.int .u64 hi,.int .u64 lo]],_,K=>isV hi lo∧K (.agg (bys (beN (vOf hi.toNat lo.toNat) 16)))
  | _,_,_=>False

theorem ok_vAll:EntOk Tryz.prog 383 (Ent.pure p_vAll):=by
  refine EntOk.pure fun args H K h=>?_
  unfold p_vAll at h
  split at h
  rotate_left
  · exact h.elim
  rename_i hi lo
  obtain ⟨⟨h0,h1,h2,h3⟩,hK⟩:=h
  refine ⟨_,hK,?_⟩
  obtain ⟨x,rfl⟩:=u64_lift h0
  obtain ⟨y,rfl⟩:=u64_lift h2
  clear hK h0 h2
  rw [Int.toNat_natCast,Int.toNat_natCast]
  have hx:x<2^64:=by omega
  have hy:y<2^64:=by omega
  refine ACalls.of_aw (Ω:=[(390,Ent.pure p_vRight)]) (T:=assoc []) mixed (TblOk.cons ok_vRight TblOk.nil) Tryz.func383 (by kernel_rfl) (by rfl) (rs:=[.cell 2 480]) (by rfl) (by kernel_rfl) (by simp only [Tryz.ntmps383,yaz,yba];decide) (Nat.le_refl _) fun hcl hlt=>?_
  change aw _ _ _ (KI Tryz.prog [(390,Ent.pure p_vRight)] (aEnd Tryz.prog [.cell 2 480] H.nx _ _) []) _ _
  clear hlt
  have hv:=vOf_lt hx hy
  generalize hvo:vOf x y=v at hv ⊢
  simp only [go_sem,byq,zeros_bys]
  refine loop_intro (A:=Nat) (fun k=>[(5,.int .i64 (k:Int)),(3,.ptr (H.nx+1+1) 0),(1,.ptr H.nx 0),(2,.ptr (H.nx+1) 0)])
    (fun k=>((H.push (.cells [.int .u64 (x:Int),.int .u64 (y:Int)])).push (.cells (bys (List.replicate 16 0)))).push (.cells (bys (filled (beN v 16) k)))) (fun k=>k≤16) (fun k=>16 - k) 0 (by omega) ?_ fun k hk=>?_
  · simp only [bnq,enter,subF,ltF,ne_eq,Nat.reduceEqDiff,reduceCtorEq,filled_zero,beN_len,true_or,and_true]
    all_goals rfl
  simp only [go_sem,byq]
  refine cond_split (fun hc=>?_) (fun hc=>?_)
  · have hk:k<16:=by simp at hc;omega
    have e1:IntKind.i64.wrap (15 - (k:Int))=((15 - k:Nat):Int):=by rw [wrap_i64]<;>omega
    have e2:IntKind.i64.wrap (8*((15 - k:Nat):Int))=((8*(15 - k):Nat):Int):=by rw [wrap_i64]<;>omega
    have e3:IntKind.i64.wrap ((k:Int)+1)=((k+1:Nat):Int):=by rw [wrap_i64]<;>omega
    simp only [go_sem,byq,e1,e2,e3,p_vRight,isV,vv,Int.toNat_natCast,hvo,wrap_u8,u8_of,Nat.zero_add,zlk]
    have hs:splice (bys (filled (beN v 16) k)) k (bys [UInt8.ofNat (v >>> (8*(15 - k)))])=bys (filled (beN v 16) (k+1)):=by
      rw [zmk (by rw [filled_len _ _ (by rw [beN_len];omega),beN_len];simp;omega),← filled_step _ _ (by rw [beN_len];exact hk)]
      simp [beN]
    rw [filled_len _ _ (by rw [beN_len];omega),beN_len,hs]
    refine ⟨by omega,by omega,by omega,k+1,by omega,by omega,?_⟩
    simp only [bnq,enter,subF,ltF,ne_eq,Nat.reduceEqDiff,reduceCtorEq,true_or,and_self]
  · have hk:k=16:=by simp at hc;omega
    subst hk
    have ef:filled (beN v 16) 16=beN v 16:=by have:=filled_all (beN v 16);rwa [beN_len] at this
    have h16:(bys (beN v 16)).length=16:=by rw [zle,beN_len]
    have e0:splice (bys (List.replicate 16 0)) 0 (bys (beN v 16))=bys (beN v 16):=by
      rw [zmk (by simp [beN_len])];simp [beN_len]
    have et:List.take 16 (beN v 16)=beN v 16:=ybc (by rw [beN_len];omega)
    simp only [go_sem,byq,ef,beN_len,et,e0]
    refine ⟨by simp,?_⟩
    simp (disch:=first | assumption | omega | (simp;done) | (simp;omega) | (simp only [bt,and_true];first | done | omega | (simp;done))) [↓zmi,beq,ybc,ybd,ybe,endOk,wk,wk2,wk1,wkM,wkL,wkLL,ybf,hcl]

def p_vBytesF:List AV→AHeap→(AV→Prop)→Prop
  | [.agg [.int .u64 hi,.int .u64 lo]],_,K=>isV hi lo∧K (.slice .any 1 (bys (vBytes (vOf hi.toNat lo.toNat))))
  | _,_,_=>False

theorem ok_vBytesF:EntOk Tryz.prog 364 (Ent.pure p_vBytesF):=by
  refine EntOk.pure fun args H K h=>?_
  unfold p_vBytesF at h
  split at h
  rotate_left
  · exact h.elim
  rename_i hi lo
  obtain ⟨⟨h0,h1,h2,h3⟩,hK⟩:=h
  refine ⟨_,hK,?_⟩
  obtain ⟨x,rfl⟩:=u64_lift h0
  obtain ⟨y,rfl⟩:=u64_lift h2
  clear hK h0 h2
  rw [Int.toNat_natCast,Int.toNat_natCast]
  have hx:x<2^64:=by omega
  have hy:y<2^64:=by omega
  refine ACalls.of_aw (Ω:=[(383,Ent.pure p_vAll),(384,Ent.pure p_vLenF)]) (T:=assoc []) mixed (TblOk.cons ok_vAll (TblOk.cons ok_vLenF TblOk.nil)) Tryz.func364 (by kernel_rfl) (by rfl) (rs:=[.tmp 2]) (by rfl) (by kernel_rfl) (by simp only [Tryz.ntmps364,yaz,yba];decide) (Nat.le_refl _) fun hcl hlt=>?_
  change aw _ _ _ (KI Tryz.prog [(383,Ent.pure p_vAll),(384,Ent.pure p_vLenF)] (aEnd Tryz.prog [.tmp 2] H.nx _ _) []) _ _
  clear hlt
  have hv:=vOf_lt hx hy
  generalize hvo:vOf x y=v at hv ⊢
  have b1:bl v≤128:=bl_le.2 hv
  have w1:IntKind.i64.wrap (((bl v:Nat):Int)+7)=((bl v+7:Nat):Int):=by rw [wrap_i64]<;>omega
  have w2:IntKind.i64.wrap (((bl v+7:Nat):Int).tdiv 8)=(((bl v+7)/8:Nat):Int):=by
    rw [Int.tdiv_eq_ediv_of_nonneg (by omega),wrap_i64]<;>omega
  have w3:max (1:Int) (((bl v+7)/8:Nat):Int)=(vLen v:Nat):=by unfold vLen;omega
  have hle:=vLen_le hv
  have w4:IntKind.i64.wrap (16 - ((vLen v:Nat):Int))=((16 - vLen v:Nat):Int):=by rw [wrap_i64]<;>omega
  have e0:splice (bys (List.replicate 16 0)) 0 (bys (beN v 16))=bys (beN v 16):=by
    rw [zmk (by simp [beN_len])];simp [beN_len]
  have e5:((16:Nat):Int) - ((16 - vLen v:Nat):Int)=((vLen v:Nat):Int):=by omega
  have e6:rowsOf 1 (vLen v) (bys ((beN v 16).drop (16 - vLen v)))=bys (vBytes v):=by
    rw [beN_drop v 16 _ hle,zml (by rw [beN_len];exact Nat.le_refl _),ybc (by rw [beN_len];exact Nat.le_refl _)];rfl
  have e7:(vBytes v).length=vLen v:=beN_len _ _
  simp only [go_sem,zav,reduceCtorEq,Nat.reduceEqDiff,Nat.reduceAdd,Nat.reduceMul,Nat.reduceSub,Nat.reduceLeDiff,Nat.reduceLT,Int.reduceMul,Int.reduceAdd,Int.reduceSub,Int.reduceToNat,byq,p_vAll,p_vLenF,isV,Int.toNat_natCast,hvo,w1,w2,w3,w4,zeros_bys,beN_len,e0,e5,e6,e7,List.length_replicate]
  refine ⟨by omega,by omega,by decide,by omega,by omega,?_⟩
  simp (disch:=first | assumption | omega | (simp;done) | (simp;omega) | (simp only [bt,and_true];first | done | omega | (simp;done))) [↓zmi,beq,ybc,ybd,ybe,endOk,wk,wk2,wk1,wkM,wkL,wkLL,ybf,hcl]
end Go.AL


open Go Go.AL Go.Proofs
namespace Go.AL
set_option linter.all false
set_option maxRecDepth 10000
theorem ti_bits:ti Tryz.prog 457=some ⟨.array 128 4,128,128,.agg (List.replicate 128 (.bool false))⟩:=by kernel_rfl
attribute [go_sem] ti_bits

end Go.AL


open Go Go.AL Go.Proofs
namespace Go.AL
set_option linter.all false
set_option maxRecDepth 10000


/-- the bytes of a value behind their number -/
def wValue (v:Nat):List UInt8:=UInt8.ofNat (vLen v)::vBytes v
theorem vBytes_len (v:Nat):(vBytes v).length=vLen v:=beN_len _ _

def p_AppendValue:List AV→AHeap→(AV→Prop)→Prop
  | [.slice _ 1 l,.agg [.int .u64 hi,.int .u64 lo]],_,K=>(isV hi lo∧isB l∧l.length≤140737488000000)∧K (.slice .any 1 (bys (unb l++wValue (vOf hi.toNat lo.toNat))))
  | _,_,_=>False

theorem ok_AppendValue:EntOk Tryz.prog 330 (Ent.pure p_AppendValue):=by
  refine EntOk.pure fun args H K h=>?_
  unfold p_AppendValue at h
  split at h
  rotate_left
  · exact h.elim
  rename_i m l hi lo
  obtain ⟨⟨⟨h0,h1,h2,h3⟩,c1,hle⟩,hK⟩:=h
  refine ⟨_,hK,?_⟩
  obtain ⟨x,rfl⟩:=u64_lift h0
  obtain ⟨y,rfl⟩:=u64_lift h2
  obtain ⟨xs,rfl⟩:=isB_out c1
  clear hK h0 h2
  simp only [zlt,zle] at *
  rw [Int.toNat_natCast,Int.toNat_natCast]
  have hx:x<2^64:=by omega
  have hy:y<2^64:=by omega
  refine ACalls.of_aw (Ω:=[(303,Ent.pure p_joined),(364,Ent.pure p_vBytesF)]) (T:=assoc []) mixed (TblOk.cons ok_joined (TblOk.cons ok_vBytesF TblOk.nil)) Tryz.func330 (by kernel_rfl) (by rfl) (rs:=[.tmp 4]) (by rfl) (by kernel_rfl) (by simp only [Tryz.ntmps330,yaz,yba];decide) (Nat.le_refl _) fun hcl hlt=>?_
  change aw _ _ _ (KI Tryz.prog [(303,Ent.pure p_joined),(364,Ent.pure p_vBytesF)] (aEnd Tryz.prog [.tmp 4] H.nx _ _) []) _ _
  clear hlt
  have hv:=vOf_lt hx hy
  have hvl:=vLen_le hv
  generalize hvo:vOf x y=v at hv hvl ⊢
  have w1:IntKind.u8.wrap ((vLen v:Nat):Int)=((vLen v:Nat):Int):=by rw [wrap_u8_nat];omega
  have w2:AV.int .u8 ((vLen v:Nat):Int)=ofByte (UInt8.ofNat (vLen v)):=u8_ofByte (by omega)
  have w3:UInt8.ofNat (vLen v)::vBytes v=wValue v:=rfl
  simp only [go_sem,zav,reduceCtorEq,Nat.reduceEqDiff,Nat.reduceAdd,Nat.reduceMul,Nat.reduceSub,Nat.reduceLeDiff,Nat.reduceLT,Int.reduceMul,Int.reduceAdd,Int.reduceSub,Int.reduceToNat,byq,p_joined,p_vBytesF,isV,Int.toNat_natCast,hvo,vBytes_len,w1,w2]
  refine ⟨by omega,by omega,by first | omega | (simp only [List.length_append,yaz,yba,vBytes_len];omega),?_⟩
  have w4:UInt8.ofNat (vLen v)::vBytes v=wValue v:=rfl
  have w5:[UInt8.ofNat (vLen v)]++vBytes v=wValue v:=rfl
  first | rw [w4] | rw [w5]
  simp (disch:=first | assumption | omega | (simp;done) | (simp;omega) | (simp only [bt,and_true];first | done | omega | (simp;done))) [↓zmi,beq,ybc,ybd,ybe,endOk,wk,wk2,wk1,wkM,wkL,wkLL,ybf,hcl]

theorem wUint_len (n w:Int):(wUint n w).length≤4:=by
  unfold wUint;split
  · rw [be_len];omega
  · simp
end Go.AL

