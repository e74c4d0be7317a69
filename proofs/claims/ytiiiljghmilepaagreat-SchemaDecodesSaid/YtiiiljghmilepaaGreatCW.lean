/- Contracts and plain laws, a part of the proof; no condition of its own. -/
import Derived.Test.YtiiiljghmilepaaGreatC02
import Derived.Test.YtiiiljghmilepaaGreatLGen
open List renaming length_cons → yaz, length_nil → yba, take_of_length_le → ybc, drop_append → ybd, take_append → ybe, drop_eq_nil_of_le → ybf, nil_append → yak
open Option renaming map_some → yag
open Go Go.AL Go.Proofs
namespace Go.AL
set_option linter.all false
set_option maxRecDepth 10000
theorem GN:ti Tryz.prog 210=some ⟨.int .u64,1,8,.int .u64 0⟩:=by kernel_rfl
theorem G0:ti Tryz.prog 212=some ⟨.struct [(0,210,false),(1,210,false)],2,16,.agg [.int .u64 0,.int .u64 0]⟩:=by kernel_rfl
theorem G4:ti Tryz.prog 419=some ⟨.array 16 5,16,16,.agg (List.replicate 16 (.int .u8 0))⟩:=by kernel_rfl
attribute [go_sem] GN G0 G4
def uj:List AV→AHeap→(AV→Prop)→Prop
 |[.int .u64 n],_,K=>(0≤n∧n<18446744073709551616)∧K (.int .i64 (bl n.toNat:Nat))
 |_,_,_=>False
/-- the table of lengths -/
def lenTab:List UInt8:=(List.range 256).map fun n=>UInt8.ofNat (bl n)
theorem Be:([0,1,2,2,3,3,3,3,4,4,4,4,4,4,4,4,5,5,5,5,5,5,5,5,5,5,5,5,5,5,5,5,6,6,6,6,6,6,6,6,6,6,6,6,6,6,6,6,6,6,6,6,6,6,6,6,6,6,6,6,6,6,6,6].append [7,7,7,7,7,7,7,7,7,7,7,7,7,7,7,7,7,7,7,7,7,7,7,7,7,7,7,7,7,7,7,7,7,7,7,7,7,7,7,7,7,7,7,7,7,7,7,7,7,7,7,7,7,7,7,7,7,7,7,7,7,7,7,7]).append ([8,8,8,8,8,8,8,8,8,8,8,8,8,8,8,8,8,8,8,8,8,8,8,8,8,8,8,8,8,8,8,8,8,8,8,8,8,8,8,8,8,8,8,8,8,8,8,8,8,8,8,8,8,8,8,8,8,8,8,8,8,8,8,8].append [8,8,8,8,8,8,8,8,8,8,8,8,8,8,8,8,8,8,8,8,8,8,8,8,8,8,8,8,8,8,8,8,8,8,8,8,8,8,8,8,8,8,8,8,8,8,8,8,8,8,8,8,8,8,8,8,8,8,8,8,8,8,8,8])=lenTab:=by decide +kernel
theorem xP:lenTab.length=256:=by simp [lenTab]
theorem yx (n:Nat) (h:n<256):(lenTab.getD n 0).toNat=bl n:=by
 unfold lenTab
 rw [List.getD_eq_getElem?_getD,List.getElem?_map,List.getElem?_range h]
 have:bl n≤8:=bl_le.2 h
 simp only [yag,Option.getD_some]
 rw [UInt8.toNat_ofNat_of_lt' (by simp [UInt8.size];omega)]
/-- one way through Len64: shifts by s in all -/
theorem Al {m s:Nat} {H:AHeap} (hcl:H.Closed) (hm:m<2^64) (h:m >>> s<256) (hs:s=0∨2^s≤m) :
 (0≤IntKind.u8.wrap ((m >>> s:Nat):Int)∧IntKind.u8.wrap ((m >>> s:Nat):Int)<(lenTab.length:Int)) ∧
 al H (AV.int IntKind.i64 (IntKind.i64.wrap ((s:Int)+IntKind.i64.wrap ((lenTab.getD (IntKind.u8.wrap ((m >>> s:Nat):Int)).toNat 0).toNat:Int)))) H (AV.int IntKind.i64 (bl m:Nat)):=by
 have e:IntKind.u8.wrap ((m >>> s:Nat):Int)=((m >>> s:Nat):Int):=by
  have:IntKind.u8.wrap ((m >>> s:Nat):Int)=((m >>> s:Nat):Int) % 256:=by simp [IntKind.wrap,IntKind.signed,IntKind.bits]
  rw [this]
  generalize m >>> s=x at h ⊢
  omega
 rw [e,xP,Int.toNat_natCast,yx _ h]
 refine ⟨⟨Int.natCast_nonneg _,by generalize m >>> s=x at h ⊢;omega⟩,?_⟩
 have hb:bl m=s+bl (m >>> s):=by
  rcases hs with rfl|hs
  ·simp
  ·exact wy m s hs
 have h8:bl (m >>> s)≤8:=bl_le.2 h
 have h64:bl m≤64:=bl_le.2 hm
 have e2:IntKind.i64.wrap ((bl (m >>> s):Nat):Int)=(bl (m >>> s):Nat):=by rw [wrap_i64]<;>omega
 have e3:IntKind.i64.wrap ((s:Int)+(bl (m >>> s):Nat))=(bl m:Nat):=by rw [wrap_i64]<;>omega
 rw [e2,e3]
 simp [al,wk,wk2,wk1,zmq,hcl,zmz]
theorem C9:EntOk Tryz.prog 310 (Ent.pure uj):=by
 refine EntOk.pure fun args H K h=>?_
 unfold uj at h
 split at h
 rotate_left
 ·exact h.elim
 rename_i n
 obtain ⟨⟨h0,h1⟩,hK⟩:=h
 refine ⟨_,hK,?_⟩
 obtain ⟨m,rfl⟩:=dd h0
 clear hK h0
 rw [Int.toNat_natCast]
 have hm:m<2^64:=by omega
 clear h1
 refine ACalls.fW aB TblOk.nil Tryz.func310 [.tmp 2] (Nat.le_refl _) (T:=ay []) (h:=fun hcl hlt=>?_)
 clear hlt
 have s32:∀ a:Nat,a<2^64→qM .u64 (a:Int) 32=((a >>> 32:Nat):Int):=fun a h=>jr a 32 h
 have s16:∀ a:Nat,a<2^64→qM .u64 (a:Int) 16=((a >>> 16:Nat):Int):=fun a h=>jr a 16 h
 have s8:∀ a:Nat,a<2^64→qM .u64 (a:Int) 8=((a >>> 8:Nat):Int):=fun a h=>jr a 8 h
 have q1:m >>> 32<2^64:=lM hm
 have q2:m >>> 16<2^64:=lM hm
 have q3:m >>> 32 >>> 16<2^64:=lM q1
 have w48:IntKind.i64.wrap 48=48:=by decide
 have w40:IntKind.i64.wrap 40=40:=by decide
 have w24:IntKind.i64.wrap 24=24:=by decide
 have w56:IntKind.i64.wrap (48+8)=56:=by decide
 have w56':IntKind.i64.wrap 56=56:=by decide
 have wn:∀ k:Nat,(0≤IntKind.u8.wrap ((m >>> k:Nat):Int))=True:=fun k=>eq_true (by simp [IntKind.wrap,IntKind.signed,IntKind.bits];try omega)
 have q4:m >>> 48<2^64:=lM hm
 simp only [go_sem,zav,byq,Be,s32,s16,s8,hm,q1,q2,q3,q4,w48,w40,w24,w56,w56',← Nat.shiftRight_add]
 have sr:∀ k:Nat,m >>> k=m/2^k:=fun k=>Nat.shiftRight_eq_div_pow m k
 have fin:=fun s=>@Al m s H hcl hm
 refine cS (fun t1=>⟨by decide,cS (fun t2=>⟨by decide,cS (fun t3=>⟨by decide,?_⟩) (fun t3=>?_)⟩) (fun t2=>cS (fun t3=>⟨by decide,?_⟩) (fun t3=>?_))⟩)
  (fun t1=>cS (fun t2=>⟨by decide,cS (fun t3=>⟨by decide,?_⟩) (fun t3=>?_)⟩) (fun t2=>cS (fun t3=>⟨by decide,?_⟩) (fun t3=>?_)))
 all_goals simp only [decide_eq_true_eq,decide_eq_false_iff_not,sr,ge_iff_le] at t1 t2 t3
 ·first|exact fin 56 (by rw [sr];omega) (.inr (by omega))|exact ⟨(fin 56 (by rw [sr];omega) (.inr (by omega))).1.2,(fin 56 (by rw [sr];omega) (.inr (by omega))).2⟩
 ·first|exact fin 48 (by rw [sr];omega) (.inr (by omega))|exact ⟨(fin 48 (by rw [sr];omega) (.inr (by omega))).1.2,(fin 48 (by rw [sr];omega) (.inr (by omega))).2⟩
 ·first|exact fin 40 (by rw [sr];omega) (.inr (by omega))|exact ⟨(fin 40 (by rw [sr];omega) (.inr (by omega))).1.2,(fin 40 (by rw [sr];omega) (.inr (by omega))).2⟩
 ·first|exact fin 32 (by rw [sr];omega) (.inr (by omega))|exact ⟨(fin 32 (by rw [sr];omega) (.inr (by omega))).1.2,(fin 32 (by rw [sr];omega) (.inr (by omega))).2⟩
 ·first|exact fin 24 (by rw [sr];omega) (.inr (by omega))|exact ⟨(fin 24 (by rw [sr];omega) (.inr (by omega))).1.2,(fin 24 (by rw [sr];omega) (.inr (by omega))).2⟩
 ·first|exact fin 16 (by rw [sr];omega) (.inr (by omega))|exact ⟨(fin 16 (by rw [sr];omega) (.inr (by omega))).1.2,(fin 16 (by rw [sr];omega) (.inr (by omega))).2⟩
 ·first|exact fin 8 (by rw [sr];omega) (.inr (by omega))|exact ⟨(fin 8 (by rw [sr];omega) (.inr (by omega))).1.2,(fin 8 (by rw [sr];omega) (.inr (by omega))).2⟩
 ·first|exact fin 0 (by rw [sr];omega) (.inl rfl)|exact ⟨(fin 0 (by rw [sr];omega) (.inl rfl)).1.2,(fin 0 (by rw [sr];omega) (.inl rfl)).2⟩
def uy:List AV→AHeap→(AV→Prop)→Prop
 |[.agg [.int .u64 hi,.int .u64 lo]],_,K=>(0≤hi∧hi<18446744073709551616∧0≤lo∧lo<18446744073709551616)∧K (.int .i64 (bl (vOf hi.toNat lo.toNat):Nat))
 |_,_,_=>False
theorem Df:EntOk Tryz.prog 307 (Ent.pure uy):=by
 refine EntOk.pure fun args H K h=>?_
 unfold uy at h
 split at h
 rotate_left
 ·exact h.elim
 rename_i hi lo
 obtain ⟨⟨h0,h1,h2,h3⟩,hK⟩:=h
 refine ⟨_,hK,?_⟩
 obtain ⟨x,rfl⟩:=dd h0
 obtain ⟨y,rfl⟩:=dd h2
 clear hK h0 h2
 rw [Int.toNat_natCast,Int.toNat_natCast]
 have hx:x<2^64:=by omega
 have hy:y<2^64:=by omega
 refine ACalls.fW aB (TblOk.cons C9 TblOk.nil) Tryz.func307 [.tmp 2] (Nat.le_refl _) (T:=ay []) (h:=fun hcl hlt=>?_)
 clear hlt
 have b1:bl x≤64:=bl_le.2 hx
 have hw:IntKind.i64.wrap (64+((bl x:Nat):Int))=((64+bl x:Nat):Int):=by rw [wrap_i64]<;>omega
 simp only [go_sem,zav,byq,uj,Int.toNat_natCast,hw]
 rw [GZ hy]
 refine cS (fun t=>?_) (fun t=>?_)
 ·have t':x≠0:=by simpa using t
  rw [if_neg t']
  repeat refine ⟨by omega,?_⟩
  simp (disch:=first|assumption|omega|(simp;done)|(simp;omega)|(simp only [bt,and_true];first|done|omega|(simp;done))) [↓zmi,beq,ybc,ybd,ybe,al,wk,wk2,wk1,wkM,wkL,aG,ybf,hcl]
 ·have t':x=0:=by simpa using t
  rw [if_pos t']
  repeat refine ⟨by omega,?_⟩
  simp (disch:=first|assumption|omega|(simp;done)|(simp;omega)|(simp only [bt,and_true];first|done|omega|(simp;done))) [↓zmi,beq,ybc,ybd,ybe,al,wk,wk2,wk1,wkM,wkL,aG,ybf,hcl]
def isV (hi lo:Int):Prop:=0≤hi∧hi<18446744073709551616∧0≤lo∧lo<18446744073709551616
def ss:List AV→AHeap→(AV→Prop)→Prop
 |[.agg [.int .u64 hi,.int .u64 lo],.int .i64 n],_,K=>(isV hi lo∧n<9223372036854775808)∧K (vv (vOf hi.toNat lo.toNat >>> n.toNat))
 |_,_,_=>False
theorem z5:EntOk Tryz.prog 312 (Ent.pure ss):=by
 refine EntOk.pure fun args H K h=>?_
 unfold ss at h
 split at h
 rotate_left
 ·exact h.elim
 rename_i hi lo n
 obtain ⟨⟨⟨h0,h1,h2,h3⟩,hn⟩,hK⟩:=h
 refine ⟨_,hK,?_⟩
 obtain ⟨x,rfl⟩:=dd h0
 obtain ⟨y,rfl⟩:=dd h2
 clear hK h0 h2
 rw [Int.toNat_natCast,Int.toNat_natCast]
 have hx:x<2^64:=by omega
 have hy:y<2^64:=by omega
 refine ACalls.fW aB TblOk.nil Tryz.func312 [.cell 4 212] (Nat.le_refl _) (T:=ay []) (h:=fun hcl hlt=>?_)
 clear hlt
 simp only [go_sem,zav,byq]
 refine cS (fun t=>?_) (fun t=>cS (fun s=>?_) (fun s=>?_))
 ·have t':n.toNat=0:=by simp at t;omega
  rw [t',Nat.shiftRight_zero,pm hy]
  simp (disch:=first|assumption|omega|(simp;done)|(simp;omega)|(simp only [bt,and_true];first|done|omega|(simp;done))) [↓zmi,beq,ybc,ybd,ybe,al,wk,wk2,wk1,wkM,wkL,aG,ybf,hcl]
 ·simp at t s
  obtain ⟨m,rfl⟩:∃ m:Nat,n=m+64:=⟨(n - 64).toNat,by omega⟩
  have e1:IntKind.i64.wrap ((m:Int)+64 - 64)=m:=by rw [wrap_i64]<;>omega
  have e2:IntKind.u64.wrap (m:Int)=m:=by rw [fK]<;>omega
  have e3:((m:Int)+64).toNat=m+64:=by omega
  have e4:vv (vOf x y >>> (m+64))=.agg [.int .u64 0,.int .u64 ((x >>> m:Nat):Int)]:=by
   rw [zI x y _ hy hx (by omega),Nat.add_sub_cancel]
   have:=pm (hi:=0) (lo:=x >>> m) (lM hx)
   simpa [vOf] using this
  rw [e3,e4,e1,e2,jr x m hx]
  repeat refine ⟨by omega,?_⟩
  simp (disch:=first|assumption|omega|(simp;done)|(simp;omega)|(simp only [bt,and_true];first|done|omega|(simp;done))) [↓zmi,beq,ybc,ybd,ybe,al,wk,wk2,wk1,wkM,wkL,aG,ybf,hcl]
 ·simp at t s
  obtain ⟨m,rfl⟩:∃ m:Nat,n=m:=⟨n.toNat,by omega⟩
  have hm:m<64:=by omega
  have e1:IntKind.i64.wrap (64 - (m:Int))=((64 - m:Nat):Int):=by rw [wrap_i64]<;>omega
  have e2:IntKind.u64.wrap (m:Int)=m:=by rw [fK]<;>omega
  have e3:IntKind.u64.wrap ((64 - m:Nat):Int)=((64 - m:Nat):Int):=by rw [fK]<;>omega
  have e4:vv (vOf x y >>> m)=.agg [.int .u64 ((x >>> m:Nat):Int),.int .u64 (((y >>> m ||| (x <<< (64 - m)) % 2^64:Nat)):Int)]:=by
   unfold vv
   rw [D4 x y m hy,Ef x y m hy hm]
  rw [e1,e2,e3,Int.toNat_natCast,e4,jr x m hx,jr y m hy,mu,mU _ _ (lM hy) (Nat.mod_lt _ (by decide))]
  repeat refine ⟨by omega,?_⟩
  simp (disch:=first|assumption|omega|(simp;done)|(simp;omega)|(simp only [bt,and_true];first|done|omega|(simp;done))) [↓zmi,beq,ybc,ybd,ybe,al,wk,wk2,wk1,wkM,wkL,aG,ybf,hcl]
theorem tA {n:Nat}:List.replicate n (AV.int .u8 0)=bys (List.replicate n 0):=by simp [bys,bd]
theorem HO (a:Nat):UInt8.ofNat (((a % 2^64:Nat):Int) % 256).toNat=UInt8.ofNat a:=by
 rw [UInt8.ofNat_eq_iff_mod_eq_toNat,UInt8.toNat_ofNat']
 omega
/-- the first k bytes written, the others zero -/
def jf (l:List UInt8) (k:Nat):List UInt8:=l.take k++List.replicate (l.length - k) 0
theorem vJ (l:List UInt8):jf l 0=List.replicate l.length 0:=by simp [jf]
theorem xW (l:List UInt8):jf l l.length=l:=by simp [jf]
theorem rb (l:List UInt8) (k:Nat) (h:k≤l.length):(jf l k).length=l.length:=by simp [jf];omega
theorem ve (l:List UInt8) (k:Nat) (h:k<l.length):(jf l k).take k++[l[k]]++(jf l k).drop (k+1)=jf l (k+1):=by
 unfold jf
 have e1:(l.take k).length=k:=by simp;omega
 rw [List.take_append_of_le_length (by omega),ybd,ybc (by omega),e1,List.drop_of_length_le (by omega),yak,List.drop_replicate,List.take_succ_eq_append_getElem h,Nat.add_sub_cancel_left]
 rfl
def wY:List AV→AHeap→(AV→Prop)→Prop
 |[.agg [.int .u64 hi,.int .u64 lo]],_,K=>isV hi lo∧K (.agg (bys (beN (vOf hi.toNat lo.toNat) 16)))
 |_,_,_=>False
theorem F5:EntOk Tryz.prog 306 (Ent.pure wY):=by
 refine EntOk.pure fun args H K h=>?_
 unfold wY at h
 split at h
 rotate_left
 ·exact h.elim
 rename_i hi lo
 obtain ⟨⟨h0,h1,h2,h3⟩,hK⟩:=h
 refine ⟨_,hK,?_⟩
 obtain ⟨x,rfl⟩:=dd h0
 obtain ⟨y,rfl⟩:=dd h2
 clear hK h0 h2
 rw [Int.toNat_natCast,Int.toNat_natCast]
 have hx:x<2^64:=by omega
 have hy:y<2^64:=by omega
 refine ACalls.fW aB (TblOk.cons z5 TblOk.nil) Tryz.func306 [.cell 2 419] (Nat.le_refl _) (T:=ay []) (h:=fun hcl hlt=>?_)
 clear hlt
 have hv:=mD hx hy
 generalize hvo:vOf x y=v at hv ⊢
 simp only [go_sem,byq,tA]
 refine eE (A:=Nat) (fun k=>[(5,.int .i64 (k:Int)),(3,.ptr (H.nx+1+1) 0),(1,.ptr H.nx 0),(2,.ptr (H.nx+1) 0)])
  (fun k=>((H.push (.cells [.int .u64 (x:Int),.int .u64 (y:Int)])).push (.cells (bys (List.replicate 16 0)))).push (.cells (bys (jf (beN v 16) k)))) (fun k=>k≤16) (fun k=>16 - k) 0 (by omega) ?_ fun k hk=>?_
 ·simp only [bnq,enter,iz,ltF,ne_eq,Nat.reduceEqDiff,reduceCtorEq,vJ,fp,true_or,and_true]
  all_goals rfl
 simp only [go_sem,byq]
 refine ai (fun hc=>?_) (fun hc=>?_)
 ·have hk:k<16:=by simp at hc;omega
  have e1:IntKind.i64.wrap (15 - (k:Int))=((15 - k:Nat):Int):=by rw [wrap_i64]<;>omega
  have e2:IntKind.i64.wrap (8*((15 - k:Nat):Int))=((8*(15 - k):Nat):Int):=by rw [wrap_i64]<;>omega
  have e3:IntKind.i64.wrap ((k:Int)+1)=((k+1:Nat):Int):=by rw [wrap_i64]<;>omega
  simp only [go_sem,byq,e1,e2,e3,ss,isV,vv,Int.toNat_natCast,hvo,qF,HO,Nat.zero_add,zlk]
  have hs:splice (bys (jf (beN v 16) k)) k (bys [UInt8.ofNat (v >>> (8*(15 - k)))])=bys (jf (beN v 16) (k+1)):=by
   rw [zmk (by rw [rb _ _ (by rw [fp];omega),fp];simp;omega),← ve _ _ (by rw [fp];exact hk)]
   simp [beN]
  rw [rb _ _ (by rw [fp];omega),fp,hs]
  refine ⟨by omega,by omega,by omega,k+1,by omega,by omega,?_⟩
  simp only [bnq,enter,iz,ltF,ne_eq,Nat.reduceEqDiff,reduceCtorEq,true_or,and_self]
 ·have hk:k=16:=by simp at hc;omega
  subst hk
  have ef:jf (beN v 16) 16=beN v 16:=by have:=xW (beN v 16);rwa [fp] at this
  have h16:(bys (beN v 16)).length=16:=by rw [zle,fp]
  have e0:splice (bys (List.replicate 16 0)) 0 (bys (beN v 16))=bys (beN v 16):=by
   rw [zmk (by simp [fp])];simp [fp]
  have et:List.take 16 (beN v 16)=beN v 16:=ybc (by rw [fp];omega)
  simp only [go_sem,byq,ef,fp,et,e0]
  refine ⟨by simp,?_⟩
  simp (disch:=first|assumption|omega|(simp;done)|(simp;omega)|(simp only [bt,and_true];first|done|omega|(simp;done))) [↓zmi,beq,ybc,ybd,ybe,al,wk,wk2,wk1,wkM,wkL,aG,ybf,hcl]
def pf:List AV→AHeap→(AV→Prop)→Prop
 |[.agg [.int .u64 hi,.int .u64 lo]],_,K=>isV hi lo∧K (.slice .any 1 (bys (ky (vOf hi.toNat lo.toNat))))
 |_,_,_=>False
theorem xC:EntOk Tryz.prog 298 (Ent.pure pf):=by
 refine EntOk.pure fun args H K h=>?_
 unfold pf at h
 split at h
 rotate_left
 ·exact h.elim
 rename_i hi lo
 obtain ⟨⟨h0,h1,h2,h3⟩,hK⟩:=h
 refine ⟨_,hK,?_⟩
 obtain ⟨x,rfl⟩:=dd h0
 obtain ⟨y,rfl⟩:=dd h2
 clear hK h0 h2
 rw [Int.toNat_natCast,Int.toNat_natCast]
 have hx:x<2^64:=by omega
 have hy:y<2^64:=by omega
 refine ACalls.fW aB (TblOk.cons F5 (TblOk.cons Df TblOk.nil)) Tryz.func298 [.tmp 2] (Nat.le_refl _) (T:=ay []) (h:=fun hcl hlt=>?_)
 clear hlt
 have hv:=mD hx hy
 generalize hvo:vOf x y=v at hv ⊢
 have b1:bl v≤128:=bl_le.2 hv
 have w1:IntKind.i64.wrap (((bl v:Nat):Int)+7)=((bl v+7:Nat):Int):=by rw [wrap_i64]<;>omega
 have w2:IntKind.i64.wrap (((bl v+7:Nat):Int).tdiv 8)=(((bl v+7)/8:Nat):Int):=by
  rw [Int.tdiv_eq_ediv_of_nonneg (by omega),wrap_i64]<;>omega
 have w3:max (1:Int) (((bl v+7)/8:Nat):Int)=(iA v:Nat):=by unfold iA;omega
 have hle:=oI hv
 have w4:IntKind.i64.wrap (16 - ((iA v:Nat):Int))=((16 - iA v:Nat):Int):=by rw [wrap_i64]<;>omega
 have e0:splice (bys (List.replicate 16 0)) 0 (bys (beN v 16))=bys (beN v 16):=by
  rw [zmk (by simp [fp])];simp [fp]
 have e5:((16:Nat):Int) - ((16 - iA v:Nat):Int)=((iA v:Nat):Int):=by omega
 have e6:cP 1 (iA v) (bys ((beN v 16).drop (16 - iA v)))=bys (ky v):=by
  rw [Dm v 16 _ hle,zml (by rw [fp];exact Nat.le_refl _),ybc (by rw [fp];exact Nat.le_refl _)];rfl
 have e7:(ky v).length=iA v:=fp _ _
 simp only [go_sem,zav,byq,wY,uy,isV,Int.toNat_natCast,hvo,w1,w2,w3,w4,tA,fp,e0,e5,e6,e7,List.length_replicate]
 refine ⟨by omega,by omega,by decide,by omega,by omega,?_⟩
 simp (disch:=first|assumption|omega|(simp;done)|(simp;omega)|(simp only [bt,and_true];first|done|omega|(simp;done))) [↓zmi,beq,ybc,ybd,ybe,al,wk,wk2,wk1,wkM,wkL,aG,ybf,hcl]
end Go.AL
open Go Go.AL Go.Proofs
namespace Go.AL
set_option linter.all false
set_option maxRecDepth 10000
theorem FE:ti Tryz.prog 392=some ⟨.array 128 4,128,128,.agg (List.replicate 128 (.bool false))⟩:=by kernel_rfl
attribute [go_sem] FE
def qw:List AV→AHeap→(AV→Prop)→Prop
 |[.agg [.int .u64 hi,.int .u64 lo]],_,K=>isV hi lo∧K (.agg (bits (vOf hi.toNat lo.toNat)))
 |_,_,_=>False
theorem u4:EntOk Tryz.prog 268 (Ent.pure qw):=by
 refine EntOk.pure fun args H K h=>?_
 unfold qw at h
 split at h
 rotate_left
 ·exact h.elim
 rename_i hi lo
 obtain ⟨⟨h0,h1,h2,h3⟩,hK⟩:=h
 refine ⟨_,hK,?_⟩
 obtain ⟨x,rfl⟩:=dd h0
 obtain ⟨y,rfl⟩:=dd h2
 clear hK h0 h2
 rw [Int.toNat_natCast,Int.toNat_natCast]
 have hx:x<2^64:=by omega
 have hy:y<2^64:=by omega
 refine ACalls.fW aB TblOk.nil Tryz.func268 [.cell 2 392] (Nat.le_refl _) (T:=ay []) (h:=fun hcl hlt=>?_)
 clear hlt
 have hv:=mD hx hy
 have blo:∀ i,i<64→y.testBit i=(vOf x y).testBit i:=fun i hi=>by rw [kO hy,if_pos hi]
 have bhi:∀ i,x.testBit i=(vOf x y).testBit (i+64):=fun i=>by rw [kO hy,if_neg (by omega),Nat.add_sub_cancel]
 generalize hvo:vOf x y=v at hv blo bhi ⊢
 simp only [go_sem,byq]
 refine eE (A:=Nat) (fun k=>[(4,.int .i64 (k:Int)),(3,.ptr (H.nx+1+1) 0),(1,.ptr H.nx 0),(2,.ptr (H.nx+1) 0)])
  (fun k=>((H.push (.cells [.int .u64 (x:Int),.int .u64 (y:Int)])).push (.cells (List.replicate 128 (.bool false)))).push (.cells (eO v fun j=>decide (j % 64<k)))) (fun k=>k≤64) (fun k=>64 - k) 0 (by omega) ?_ fun k hk=>?_
 ·have e:eO v (fun j=>decide (j % 64<0))=List.replicate 128 (.bool false):=wx _ _ fun j _=>by simp
  simp only [bnq,enter,iz,ltF,ne_eq,Nat.reduceEqDiff,reduceCtorEq,e,true_or,and_true]
  all_goals rfl
 simp only [go_sem,byq]
 refine ai (fun hc=>?_) (fun hc=>?_)
 ·have hk:k<64:=by simp at hc;omega
  have e1:IntKind.i64.wrap ((k:Int)+64)=((k+64:Nat):Int):=by rw [wrap_i64]<;>omega
  have e2:IntKind.u64.wrap (k:Int)=(k:Int):=by rw [fK]<;>omega
  have e3:IntKind.i64.wrap ((k:Int)+1)=((k+1:Nat):Int):=by rw [wrap_i64]<;>omega
  have s1:y >>> k<2^64:=lM hy
  have s2:x >>> k<2^64:=lM hx
  simp only [go_sem,byq,e1,e2,e3,jr y k hy,jr x k hx,vR _ s1,vR _ s2,zg,Int.toNat_natCast,Nat.zero_add,jD,rl,blo k hk,bhi k,List.length_set]
  have hst:((eO v fun j=>decide (j % 64<k)).set k (.bool (v.testBit k))).set (k+64) (.bool (v.testBit (k+64)))=eO v fun j=>decide (j % 64<k+1):=by
   rw [nS v _ (fun j=>decide (j % 64<k)||decide (j=k)) k (fun j hj=>by simp [hj]) (by simp),
    nS v _ (fun j=>decide (j % 64<k)||decide (j=k)||decide (j=k+64)) (k+64) (fun j hj=>by simp [hj]) (by simp)]
   unfold eO
   refine List.map_congr_left fun j hj=>?_
   have:j<128:=List.mem_range.1 hj
   congr 2
   rw [Bool.eq_iff_iff];simp;omega
  refine ⟨by omega,by omega,by omega,by omega,by omega,by omega,k+1,by omega,by omega,?_⟩
  simp only [bnq,enter,iz,ltF,ne_eq,Nat.reduceEqDiff,reduceCtorEq,hst,true_or,and_self]
 ·have hk:k=64:=by simp at hc;omega
  subst hk
  have e:eO v (fun j=>decide (j % 64<64))=bits v:=qK _ _ fun j _=>by simp;omega
  have et:List.take 128 (bits v)=bits v:=ybc (by rw [gF];omega)
  have es:splice (List.replicate 128 (.bool false)) 0 (bits v)=bits v:=lm (y:=.junk) (gF v)
  simp only [go_sem,byq,e,et,es,gF,pO]
  refine ⟨by simp,?_⟩
  simp (disch:=first|assumption|omega|(simp;done)|(simp;omega)|(simp only [bt,and_true];first|done|omega|(simp;done))) [↓zmi,beq,ybc,ybd,ybe,al,wk,wk2,wk1,wkM,wkL,aG,ybf,hcl,CE]
def xm:List AV→AHeap→(AV→Prop)→Prop
 |[.agg [.int .u64 hi,.int .u64 lo]],_,K=>isV hi lo∧K (.int .i64 (bl (vOf hi.toNat lo.toNat):Nat))
 |_,_,_=>False
theorem FK:EntOk Tryz.prog 296 (Ent.pure xm):=by
 refine EntOk.pure fun args H K h=>?_
 unfold xm at h
 split at h
 rotate_left
 ·exact h.elim
 rename_i hi lo
 obtain ⟨⟨h0,h1,h2,h3⟩,hK⟩:=h
 refine ⟨_,hK,?_⟩
 obtain ⟨x,rfl⟩:=dd h0
 obtain ⟨y,rfl⟩:=dd h2
 clear hK h0 h2
 rw [Int.toNat_natCast,Int.toNat_natCast]
 have hx:x<2^64:=by omega
 have hy:y<2^64:=by omega
 refine ACalls.fW aB (TblOk.cons u4 TblOk.nil) Tryz.func296 [.tmp 2] (Nat.le_refl _) (T:=ay []) (h:=fun hcl hlt=>?_)
 clear hlt
 have hv:=mD hx hy
 generalize hvo:vOf x y=v at hv ⊢
 simp only [go_sem,byq]
 refine eE (A:=Nat) (fun k=>[(3,.int .i64 ((k:Int) - 1)),(1,.ptr H.nx 0)])
  (fun k=>(H.push (.cells [.int .u64 (x:Int),.int .u64 (y:Int)]))) (fun k=>k≤128∧∀ j,k≤j→v.testBit j=false) (fun k=>k) 128 ⟨by omega,fun j hj=>Nat.testBit_lt_two_pow (Nat.lt_of_lt_of_le hv (Nat.pow_le_pow_right (by decide) hj))⟩ ?_ fun k hk=>?_
 ·simp only [bnq,enter,iz,ltF,ne_eq,Nat.reduceEqDiff,reduceCtorEq,true_or,and_true]
  all_goals rfl
 obtain ⟨hk,hz⟩:=hk
 simp only [go_sem,byq]
 refine ai (fun hc=>?_) (fun hc=>?_)
 ·have hk0:1≤k:=by simp at hc;omega
  obtain ⟨j,rfl⟩:∃ j,k=j+1:=⟨k - 1,by omega⟩
  have e0:((j+1:Nat):Int) - 1=(j:Int):=by omega
  have e1:IntKind.i64.wrap ((j:Int) - 1)=(j:Int) - 1:=by rw [wrap_i64]<;>omega
  have e2:IntKind.i64.wrap ((j:Int)+1)=((j+1:Nat):Int):=by rw [wrap_i64]<;>omega
  simp only [go_sem,byq,qw,isV,Int.toNat_natCast,hvo,gF,e0,Nat.mul_one,oT v j (by omega)]
  refine ⟨by omega,by omega,ai (fun hb=>?_) (fun hb=>?_)⟩
  ·simp only [go_sem,zav,byq,e2]
   rw [GL hb fun i hi=>hz i (by omega)]
   simp (disch:=first|assumption|omega|(simp;done)|(simp;omega)|(simp only [bt,and_true];first|done|omega|(simp;done))) [↓zmi,beq,ybc,ybd,ybe,al,wk,wk2,wk1,wkM,wkL,aG,ybf,hcl]
  ·simp only [go_sem,byq,e1]
   refine ⟨j,⟨by omega,fun i hi=>?_⟩,by omega,?_⟩
   ·by_cases h:i=j
    ·subst h;exact hb
    ·exact hz i (by omega)
   ·simp only [bnq,enter,iz,ltF,ne_eq,Nat.reduceEqDiff,reduceCtorEq,true_or,and_self]
 ·have hk0:k=0:=by simp at hc;omega
  subst hk0
  have:v=0:=xL fun j=>hz j (by omega)
  subst this
  simp only [go_sem,byq]
  simp (disch:=first|assumption|omega|(simp;done)|(simp;omega)|(simp only [bt,and_true];first|done|omega|(simp;done))) [↓zmi,beq,ybc,ybd,ybe,al,wk,wk2,wk1,wkM,wkL,aG,ybf,hcl,bl]
def pk:List AV→AHeap→(AV→Prop)→Prop
 |[.agg [.int .u64 hi,.int .u64 lo]],_,K=>isV hi lo∧K (.slice .any 1 (bys (ky (vOf hi.toNat lo.toNat))))
 |_,_,_=>False
theorem xg:EntOk Tryz.prog 276 (Ent.pure pk):=by
 refine EntOk.pure fun args H K h=>?_
 unfold pk at h
 split at h
 rotate_left
 ·exact h.elim
 rename_i hi lo
 obtain ⟨⟨h0,h1,h2,h3⟩,hK⟩:=h
 refine ⟨_,hK,?_⟩
 obtain ⟨x,rfl⟩:=dd h0
 obtain ⟨y,rfl⟩:=dd h2
 clear hK h0 h2
 rw [Int.toNat_natCast,Int.toNat_natCast]
 have hx:x<2^64:=by omega
 have hy:y<2^64:=by omega
 refine ACalls.fW aB (TblOk.cons u4 (TblOk.cons FK TblOk.nil)) Tryz.func276 [.tmp 2] (Nat.le_refl _) (T:=ay []) (h:=fun hcl hlt=>?_)
 clear hlt
 have hv:=mD hx hy
 generalize hvo:vOf x y=v at hv ⊢
 have b1:bl v≤128:=bl_le.2 hv
 have w1:IntKind.i64.wrap (((bl v:Nat):Int)+7)=((bl v+7:Nat):Int):=by rw [wrap_i64]<;>omega
 have w2:IntKind.i64.wrap (((bl v+7:Nat):Int).tdiv 8)=(((bl v+7)/8:Nat):Int):=by
  rw [Int.tdiv_eq_ediv_of_nonneg (by omega),wrap_i64]<;>omega
 have w3:max (1:Int) (((bl v+7)/8:Nat):Int)=(iA v:Nat):=by unfold iA;omega
 have hle:=oI hv
 have hlen:=bl_le.1 (show bl v≤8*iA v by unfold iA;omega)
 have hvb:ky v=beN v (iA v):=rfl
 rw [hvb]
 generalize hn:iA v=n at *
 have es:splice (List.replicate 128 (.bool false)) 0 (bits v)=bits v:=lm (y:=.junk) (gF v)
 simp only [go_sem,byq,qw,xm,isV,Int.toNat_natCast,hvo,w1,w2,w3,es,gF,pO,List.length_replicate]
 refine ⟨by omega,by omega,by decide,by omega,?_⟩
 refine eE (A:=Nat) (fun k=>[(6,.int .i64 (k:Int)),(5,.ms (H.nx+1+1+1) 0 1 n),(4,.int .i64 (n:Int)),(3,.ptr (H.nx+1+1) 0)])
  (fun k=>(((H.push (.cells [.int .u64 (x:Int),.int .u64 (y:Int)])).push (.buf 1 0)).push (.cells (bits v))).push (.cells (bys (iM v n k)))) (fun k=>k≤8*n) (fun k=>8*n - k) 0 (by omega) ?_ fun k hk=>?_
 ·simp only [bnq,enter,iz,ltF,ne_eq,Nat.reduceEqDiff,reduceCtorEq,xy,true_or,and_true]
  all_goals rfl
 have w4:IntKind.i64.wrap (8*(n:Int))=((8*n:Nat):Int):=by rw [wrap_i64]<;>omega
 simp only [go_sem,byq,w4]
 refine ai (fun hc=>?_) (fun hc=>?_)
 ·have hk:k<8*n:=by simp at hc;omega
  have e1:IntKind.i64.wrap ((k:Int)+1)=((k+1:Nat):Int):=by rw [wrap_i64]<;>omega
  have e2:IntKind.i64.wrap ((n:Int) - 1)=((n - 1:Nat):Int):=by rw [wrap_i64]<;>omega
  have e3:IntKind.i64.wrap ((k:Int).tdiv 8)=((k/8:Nat):Int):=by
   rw [Int.tdiv_eq_ediv_of_nonneg (by omega),wrap_i64]<;>omega
  have e4:IntKind.i64.wrap (((n - 1:Nat):Int) - ((k/8:Nat):Int))=((n - 1 - k/8:Nat):Int):=by rw [wrap_i64]<;>omega
  have e5:(k:Int).tmod 8=((k % 8:Nat):Int):=by rw [Int.tmod_eq_emod_of_nonneg (by omega)];omega
  have e6:IntKind.u64.wrap ((k % 8:Nat):Int)=((k % 8:Nat):Int):=by rw [fK]<;>omega
  have e7:nm .u8 1 ((k % 8:Nat):Int)=((1 <<< (k % 8) % 256:Nat):Int):=EF 1 _ (by omega)
  have hkb:k<128:=by omega
  simp only [go_sem,byq,e1,Int.toNat_natCast,gF,Nat.mul_one,Nat.zero_add,oT v k hkb]
  refine ⟨by omega,by omega,ai (fun hb=>?_) (fun hb=>?_)⟩
  ·have g1:(bys (iM v n k)).getD (n - 1 - k/8) .junk=bd ((iM v n k).getD (n - 1 - k/8) 0):=iG (by rw [pC];omega)
   have g2:ior .u8 ((((iM v n k).getD (n - 1 - k/8) 0).toNat:Nat):Int) ((1 <<< (k % 8) % 256:Nat):Int)=_:=Hj _ _ (UInt8.toNat_lt _) (by omega)
   have g3:((iM v n k).getD (n - 1 - k/8) 0).toNat ||| 1 <<< (k % 8) % 256<256:=Nat.or_lt_two_pow (n:=8) (UInt8.toNat_lt _) (by omega)
   simp only [go_sem,byq,e1,e2,e3,e4,e5,e6,e7,Int.toNat_natCast,Nat.mul_one,Nat.zero_add,pC,g1,bd,g2]
   simp only [pt g3,wE,zy v n k hb hk]
   refine ⟨by decide,by omega,by omega,by decide,by omega,by omega,by omega,k+1,by omega,by omega,?_⟩
   simp only [bnq,enter,iz,ltF,ne_eq,Nat.reduceEqDiff,reduceCtorEq,true_or,and_self]
  ·simp only [go_sem,byq,e1]
   refine ⟨k+1,by omega,by omega,?_⟩
   simp only [bnq,enter,iz,ltF,ne_eq,Nat.reduceEqDiff,reduceCtorEq,ye v n k hb,true_or,and_self]
 ·have hk:k=8*n:=by simp at hc;omega
  subst hk
  simp only [go_sem,byq,Bh v n hlen]
  have hl:(beN v n).length=n:=fp v n
  simp (disch:=first|assumption|omega|(simp;done)|(simp;omega)|(simp only [bt,and_true];first|done|omega|(simp;done))) [↓zmi,beq,ybc,ybd,ybe,al,wk,wk2,wk1,wkM,wkL,aG,ybf,hcl,hl]
end Go.AL
open Go Go.AL Go.Proofs
namespace Go.AL
set_option linter.all false
set_option maxRecDepth 10000
/-- the bytes of a value behind their number -/
def jm (v:Nat):List UInt8:=UInt8.ofNat (iA v)::ky v
theorem kC (v:Nat):(ky v).length=iA v:=fp _ _
def lb:List AV→AHeap→(AV→Prop)→Prop
 |[.slice _ 1 l,.agg [.int .u64 hi,.int .u64 lo]],_,K=>(isV hi lo∧isB l∧l.length≤140737488000000)∧K (.slice .any 1 (bys (unb l++jm (vOf hi.toNat lo.toNat))))
 |_,_,_=>False
theorem rz:EntOk Tryz.prog 280 (Ent.pure lb):=by
 refine EntOk.pure fun args H K h=>?_
 unfold lb at h
 split at h
 rotate_left
 ·exact h.elim
 rename_i m l hi lo
 obtain ⟨⟨⟨h0,h1,h2,h3⟩,c1,hle⟩,hK⟩:=h
 refine ⟨_,hK,?_⟩
 obtain ⟨x,rfl⟩:=dd h0
 obtain ⟨y,rfl⟩:=dd h2
 obtain ⟨xs,rfl⟩:=dO c1
 clear hK h0 h2
 simp only [zlt,zle] at *
 rw [Int.toNat_natCast,Int.toNat_natCast]
 have hx:x<2^64:=by omega
 have hy:y<2^64:=by omega
 refine ACalls.fW aB (TblOk.cons mQ (TblOk.cons xC TblOk.nil)) Tryz.func280 [.tmp 4] (Nat.le_refl _) (T:=ay []) (h:=fun hcl hlt=>?_)
 clear hlt
 have hv:=mD hx hy
 have hvl:=oI hv
 generalize hvo:vOf x y=v at hv hvl ⊢
 have w1:IntKind.u8.wrap ((iA v:Nat):Int)=((iA v:Nat):Int):=by rw [jV];omega
 have w2:AV.int .u8 ((iA v:Nat):Int)=bd (UInt8.ofNat (iA v)):=pt (by omega)
 have w3:UInt8.ofNat (iA v)::ky v=jm v:=rfl
 simp only [go_sem,zav,byq,lI,pf,isV,Int.toNat_natCast,hvo,kC,w1,w2]
 refine ⟨by omega,by omega,by first|omega|(simp only [List.length_append,yaz,yba,kC];omega),?_⟩
 have w4:UInt8.ofNat (iA v)::ky v=jm v:=rfl
 have w5:[UInt8.ofNat (iA v)]++ky v=jm v:=rfl
 first|rw [w4]|rw [w5]
 simp (disch:=first|assumption|omega|(simp;done)|(simp;omega)|(simp only [bt,and_true];first|done|omega|(simp;done))) [↓zmi,beq,ybc,ybd,ybe,al,wk,wk2,wk1,wkM,wkL,aG,ybf,hcl]
def rG:List AV→AHeap→(AEnd→AHeap→Prop)→Prop
 |[.slice (.own id) 1 l,.agg [.int .u64 hi,.int .u64 lo]],H,K=>(isV hi lo∧isB l∧l.length≤140737488000000∧H.get id=some (.buf 1 l.length)) ∧
   K (.ret (.slice (.own id) 1 (bys (unb l++jm (vOf hi.toNat lo.toNat))))) (H.set id (.buf 1 (l.length+(jm (vOf hi.toNat lo.toNat)).length)))
 |_,_,_=>False
theorem zt:EntOk Tryz.prog 224 (Ent.effect rG):=by
 refine EntOk.effect fun args H K h=>?_
 unfold rG at h
 split at h
 rotate_left
 ·exact h.elim
 rename_i id l hi lo
 obtain ⟨⟨⟨h0,h1,h2,h3⟩,c1,hle,hid⟩,hK⟩:=h
 refine ⟨_,_,hK,?_⟩
 obtain ⟨x,rfl⟩:=dd h0
 obtain ⟨y,rfl⟩:=dd h2
 obtain ⟨xs,rfl⟩:=dO c1
 clear hK h0 h2
 simp only [zlt,zle] at *
 rw [Int.toNat_natCast,Int.toNat_natCast]
 have hx:x<2^64:=by omega
 have hy:y<2^64:=by omega
 have hl0:=AHeap.get_lt hid
 have hne:=aU hl0
 refine ACalls.fW aB (TblOk.cons xg TblOk.nil) Tryz.func224 [.tmp 4] (Nat.le_refl _) (T:=ay []) (h:=fun hcl hlt=>?_)
 clear hlt
 have hv:=mD hx hy
 have hvl:=oI hv
 generalize hvo:vOf x y=v at hv hvl ⊢
 have w1:IntKind.u8.wrap ((iA v:Nat):Int)=((iA v:Nat):Int):=by rw [jV];omega
 have w2:AV.int .u8 ((iA v:Nat):Int)=bd (UInt8.ofNat (iA v)):=pt (by omega)
 have w3:xs++[UInt8.ofNat (iA v)]++ky v=xs++jm v:=by simp [jm]
 have w4:xs.length+(jm v).length=xs.length+1+iA v:=by simp [jm,kC];omega
 rw [w4]
 simp only [go_sem,zav,byq,pk,isV,Int.toNat_natCast,hvo,kC,w1,w2,hne,hid,gR,if_pos hl0]
 have w5:(xs++[UInt8.ofNat (iA v)]).length=xs.length+1:=by simp
 rw [w5,w3]
 refine ⟨by omega,by omega,by simp;omega,?_⟩
 have hcs:(H.set id (.buf 1 (xs.length+1+iA v))).Closed:=fl hcl
 simp (disch:=first|assumption|omega|(simp;done)|(simp;omega)|(simp only [bt,and_true];first|done|omega|(simp;done))) [↓zmi,beq,ybc,ybd,ybe,al,wk,wk2,wk1,wkM,wkL,aG,ybf,hcs]
 exact hl0
theorem cY (n w:Int):(fQ n w).length≤4:=by
 unfold fQ;split
 ·rw [la];omega
 ·simp
end Go.AL
