/- Lemmas of the proof; no condition. -/
import Derived.Test.YtjnhidpnfdbmaaaGreatLVal
import Derived.Test.YtjnhidpnfdbmaaaGreatAlBun
import Derived.Test.YtjnhidpnfdbmaaaGreatLSyn
set_option linter.all false
set_option maxRecDepth 10000
open Go Go.AL Go.Proofs
namespace Go.AL
theorem Ha:ti Tryz.prog 22=some ⟨.slice 5,1,24,.slice .nil 1 []⟩:=by kernel_rfl
theorem KZ:ti Tryz.prog 3=some ⟨.int .i64,1,8,.int .i64 0⟩:=by kernel_rfl
theorem Jm:ti Tryz.prog 163=some ⟨.int .u64,1,8,.int .u64 0⟩:=by kernel_rfl
theorem L3:ti Tryz.prog 5=some ⟨.int .u8,1,1,.int .u8 0⟩:=by kernel_rfl
theorem IE:ti Tryz.prog 4=some ⟨.bool,1,1,.bool false⟩:=by kernel_rfl
theorem Dk:ti Tryz.prog 9=some ⟨.string,1,16,.str []⟩:=by kernel_rfl
attribute [go_sem] Ha KZ Jm L3 IE Dk
def LJ (n:Int) (j:Nat):UInt8:=UInt8.ofNat (lw .i64 n (8*(j:Int)) % 256).toNat
def LP (n:Int) (w k:Nat):List UInt8:=(List.range (w - k)).map fun i=>LJ n (w - 1 - i)
def be (n:Int) (w:Nat):List UInt8:=LP n w 0
theorem Lg:ti Tryz.prog 27=some ⟨.int .u64,1,8,.int .u64 0⟩:=by kernel_rfl
theorem KL:ti Tryz.prog 29=some ⟨.struct [(0,27,false),(1,27,false)],2,16,.agg [.int .u64 0,.int .u64 0]⟩:=by kernel_rfl
attribute [go_sem] Lg KL
def xt:List AV→AHeap→(AV→Prop)→Prop
 |[.int .u64 n],_,K=>(0≤n∧n<18446744073709551616)∧K (.int .i64 (bl n.toNat:Nat))
 |_,_,_=>False
def lenTab:List UInt8:=(List.range 256).map fun n=>UInt8.ofNat (bl n)
theorem DR:([0,1,2,2,3,3,3,3,4,4,4,4,4,4,4,4,5,5,5,5,5,5,5,5,5,5,5,5,5,5,5,5,6,6,6,6,6,6,6,6,6,6,6,6,6,6,6,6,6,6,6,6,6,6,6,6,6,6,6,6,6,6,6,6].append [7,7,7,7,7,7,7,7,7,7,7,7,7,7,7,7,7,7,7,7,7,7,7,7,7,7,7,7,7,7,7,7,7,7,7,7,7,7,7,7,7,7,7,7,7,7,7,7,7,7,7,7,7,7,7,7,7,7,7,7,7,7,7,7]).append ([8,8,8,8,8,8,8,8,8,8,8,8,8,8,8,8,8,8,8,8,8,8,8,8,8,8,8,8,8,8,8,8,8,8,8,8,8,8,8,8,8,8,8,8,8,8,8,8,8,8,8,8,8,8,8,8,8,8,8,8,8,8,8,8].append [8,8,8,8,8,8,8,8,8,8,8,8,8,8,8,8,8,8,8,8,8,8,8,8,8,8,8,8,8,8,8,8,8,8,8,8,8,8,8,8,8,8,8,8,8,8,8,8,8,8,8,8,8,8,8,8,8,8,8,8,8,8,8,8])=lenTab:=by decide +kernel
theorem Bl:lenTab.length=256:=by simp [lenTab]
theorem AM (n:Nat) (h:n<256):(lenTab.getD n 0).toNat=bl n:=by
 unfold lenTab
 rw [gEq,List.getElem?_map,List.getElem?_range h]
 have:bl n≤8:=bl_le.2 h
 simp only [Option.map_some,Option.getD_some]
 rw [UInt8.toNat_ofNat_of_lt' (by simp [UInt8.size];omega)]
theorem DH {m s:Nat} {H:AHeap} (hcl:H.Closed) (hm:m<2^64) (h:m >>> s<256) (hs:s=0∨2^s≤m) :
 (0≤IntKind.u8.wrap ((m >>> s:Nat):Int)∧IntKind.u8.wrap ((m >>> s:Nat):Int)<(lenTab.length:Int)) ∧
 ae H (AV.int IntKind.i64 (IntKind.i64.wrap ((s:Int)+IntKind.i64.wrap ((lenTab.getD (IntKind.u8.wrap ((m >>> s:Nat):Int)).toNat 0).toNat:Int)))) H (AV.int IntKind.i64 (bl m:Nat)):=by
 have e:IntKind.u8.wrap ((m >>> s:Nat):Int)=((m >>> s:Nat):Int):=by
  have:IntKind.u8.wrap ((m >>> s:Nat):Int)=((m >>> s:Nat):Int) % 256:=by simp [IntKind.wrap,IntKind.signed,IntKind.bits]
  rw [this]
  generalize m >>> s=x at h ⊢
  omega
 rw [e,Bl,iNq,AM _ h]
 refine ⟨⟨Int.natCast_nonneg _,by generalize m >>> s=x at h ⊢;omega⟩,?_⟩
 have hb:bl m=s+bl (m >>> s):=by
  rcases hs with rfl|hs
  ·simp
  ·exact yH m s hs
 have h8:bl (m >>> s)≤8:=bl_le.2 h
 have h64:bl m≤64:=bl_le.2 hm
 have e2:IntKind.i64.wrap ((bl (m >>> s):Nat):Int)=(bl (m >>> s):Nat):=by rw [wrap_i64]<;>omega
 have e3:IntKind.i64.wrap ((s:Int)+(bl (m >>> s):Nat))=(bl m:Nat):=by rw [wrap_i64]<;>omega
 rw [e2,e3]
 simp [ae,wk,wk2,wk1,zmw,hcl,znf]
theorem FG:EntOk Tryz.prog 142 (Ent.pure xt):=by
 refine Ype fun _ H K h=>?_
 unfold xt at h
 split at h
 rotate_left
 ·exact h.elim
 rename_i n
 obtain ⟨⟨h0,h1⟩,hK⟩:=h
 refine ⟨_,hK,?_⟩
 obtain ⟨m,rfl⟩:=bL h0
 clear hK h0
 rw [iNq]
 have hm:m<2^64:=by omega
 clear h1
 refine ACalls.fW au tNq Tryz.func142 [.tmp 2] (nrq _) (T:=aq []) (h:=fun hcl hlt=>?_)
 clear hlt
 have s32:∀ a:Nat,a<2^64→lw .u64 (a:Int) 32=((a >>> 32:Nat):Int):=fun a h=>jc a 32 h
 have s16:∀ a:Nat,a<2^64→lw .u64 (a:Int) 16=((a >>> 16:Nat):Int):=fun a h=>jc a 16 h
 have s8:∀ a:Nat,a<2^64→lw .u64 (a:Int) 8=((a >>> 8:Nat):Int):=fun a h=>jc a 8 h
 have q1:m >>> 32<2^64:=mE hm
 have q2:m >>> 16<2^64:=mE hm
 have q3:m >>> 32 >>> 16<2^64:=mE q1
 have w48:IntKind.i64.wrap 48=48:=by decide
 have w40:IntKind.i64.wrap 40=40:=by decide
 have w24:IntKind.i64.wrap 24=24:=by decide
 have w56:IntKind.i64.wrap (48+8)=56:=by decide
 have w56':IntKind.i64.wrap 56=56:=by decide
 have wn:∀ k:Nat,(0≤IntKind.u8.wrap ((m >>> k:Nat):Int))=True:=fun k=>eq_true (by simp [IntKind.wrap,IntKind.signed,IntKind.bits];try omega)
 have q4:m >>> 48<2^64:=mE hm
 simp only [go_sem,zav,byq,DR,s32,s16,s8,hm,q1,q2,q3,q4,w48,w40,w24,w56,w56',← Nat.shiftRight_add]
 have sr:∀ k:Nat,m >>> k=m/2^k:=fun k=>Nat.shiftRight_eq_div_pow m k
 have fin:=fun s=>@DH m s H hcl hm
 refine bz (fun t1=>⟨by decide,bz (fun t2=>⟨by decide,bz (fun t3=>⟨by decide,?_⟩) (fun t3=>?_)⟩) (fun t2=>bz (fun t3=>⟨by decide,?_⟩) (fun t3=>?_))⟩)
  (fun t1=>bz (fun t2=>⟨by decide,bz (fun t3=>⟨by decide,?_⟩) (fun t3=>?_)⟩) (fun t2=>bz (fun t3=>⟨by decide,?_⟩) (fun t3=>?_)))
 all_goals simp only [decide_eq_true_eq,decide_eq_false_iff_not,sr,ge_iff_le] at t1 t2 t3
 ·first|exact fin 56 (by rw [sr];omega) (.inr (by omega))|exact ⟨(fin 56 (by rw [sr];omega) (.inr (by omega))).1.2,(fin 56 (by rw [sr];omega) (.inr (by omega))).2⟩
 ·first|exact fin 48 (by rw [sr];omega) (.inr (by omega))|exact ⟨(fin 48 (by rw [sr];omega) (.inr (by omega))).1.2,(fin 48 (by rw [sr];omega) (.inr (by omega))).2⟩
 ·first|exact fin 40 (by rw [sr];omega) (.inr (by omega))|exact ⟨(fin 40 (by rw [sr];omega) (.inr (by omega))).1.2,(fin 40 (by rw [sr];omega) (.inr (by omega))).2⟩
 ·first|exact fin 32 (by rw [sr];omega) (.inr (by omega))|exact ⟨(fin 32 (by rw [sr];omega) (.inr (by omega))).1.2,(fin 32 (by rw [sr];omega) (.inr (by omega))).2⟩
 ·first|exact fin 24 (by rw [sr];omega) (.inr (by omega))|exact ⟨(fin 24 (by rw [sr];omega) (.inr (by omega))).1.2,(fin 24 (by rw [sr];omega) (.inr (by omega))).2⟩
 ·first|exact fin 16 (by rw [sr];omega) (.inr (by omega))|exact ⟨(fin 16 (by rw [sr];omega) (.inr (by omega))).1.2,(fin 16 (by rw [sr];omega) (.inr (by omega))).2⟩
 ·first|exact fin 8 (by rw [sr];omega) (.inr (by omega))|exact ⟨(fin 8 (by rw [sr];omega) (.inr (by omega))).1.2,(fin 8 (by rw [sr];omega) (.inr (by omega))).2⟩
 ·first|exact fin 0 (by rw [sr];omega) (.inl rfl)|exact ⟨(fin 0 (by rw [sr];omega) (.inl rfl)).1.2,(fin 0 (by rw [sr];omega) (.inl rfl)).2⟩
def xB:List AV→AHeap→(AV→Prop)→Prop
 |[.agg [.int .u64 hi,.int .u64 lo]],_,K=>(0≤hi∧hi<18446744073709551616∧0≤lo∧lo<18446744073709551616)∧K (.int .i64 (bl (vOf hi.toNat lo.toNat):Nat))
 |_,_,_=>False
theorem F7:EntOk Tryz.prog 112 (Ent.pure xB):=by
 refine Ype fun _ H K h=>?_
 unfold xB at h
 split at h
 rotate_left
 ·exact h.elim
 rename_i hi lo
 obtain ⟨⟨h0,h1,h2,h3⟩,hK⟩:=h
 refine ⟨_,hK,?_⟩
 obtain ⟨x,rfl⟩:=bL h0
 obtain ⟨y,rfl⟩:=bL h2
 clear hK h0 h2
 rw [iNq,iNq]
 have hx:x<2^64:=by omega
 have hy:y<2^64:=by omega
 refine ACalls.fW au (tCq FG tNq) Tryz.func112 [.tmp 2] (nrq _) (T:=aq []) (h:=fun hcl hlt=>?_)
 clear hlt
 have b1:bl x≤64:=bl_le.2 hx
 have hw:IntKind.i64.wrap (64+((bl x:Nat):Int))=((64+bl x:Nat):Int):=by rw [wrap_i64]<;>omega
 simp only [go_sem,zav,byq,xt,iNq,hw]
 rw [KG hy]
 refine bz (fun t=>?_) (fun t=>?_)
 ·have t':x≠0:=by simpa using t
  rw [if_neg t']
  repeat refine ⟨by omega,?_⟩
  exact Z7
 ·have t':x=0:=by simpa using t
  rw [if_pos t']
  repeat refine ⟨by omega,?_⟩
  exact Z7
def isV (hi lo:Int):Prop:=0≤hi∧hi<18446744073709551616∧0≤lo∧lo<18446744073709551616
def tX:List AV→AHeap→(AV→Prop)→Prop
 |[.agg [.int .u64 hi,.int .u64 lo],.int .i64 n],_,K=>(isV hi lo∧n<9223372036854775808)∧K (vv (vOf hi.toNat lo.toNat >>> n.toNat))
 |_,_,_=>False
theorem Ec:EntOk Tryz.prog 138 (Ent.pure tX):=by
 refine Ype fun _ H K h=>?_
 unfold tX at h
 split at h
 rotate_left
 ·exact h.elim
 rename_i hi lo n
 obtain ⟨⟨⟨h0,h1,h2,h3⟩,hn⟩,hK⟩:=h
 refine ⟨_,hK,?_⟩
 obtain ⟨x,rfl⟩:=bL h0
 obtain ⟨y,rfl⟩:=bL h2
 clear hK h0 h2
 rw [iNq,iNq]
 have hx:x<2^64:=by omega
 have hy:y<2^64:=by omega
 refine ACalls.fW au tNq Tryz.func138 [.cell 4 29] (nrq _) (T:=aq []) (h:=fun hcl hlt=>?_)
 clear hlt
 simp only [go_sem,zav,byq]
 refine bz (fun t=>?_) (fun t=>bz (fun s=>?_) (fun s=>?_))
 ·have t':n.toNat=0:=by simp at t;omega
  rw [t',Nat.shiftRight_zero,oE hy]
  exact Z7
 ·simp at t s
  obtain ⟨m,rfl⟩:∃ m:Nat,n=m+64:=⟨(n - 64).toNat,by omega⟩
  have e1:IntKind.i64.wrap ((m:Int)+64 - 64)=m:=by rw [wrap_i64]<;>omega
  have e2:IntKind.u64.wrap (m:Int)=m:=by rw [cP]<;>omega
  have e3:((m:Int)+64).toNat=m+64:=by omega
  have e4:vv (vOf x y >>> (m+64))=.agg [.int .u64 0,.int .u64 ((x >>> m:Nat):Int)]:=by
   rw [Ek x y _ hy hx (by omega),Nat.add_sub_cancel]
   have:=oE (hi:=0) (lo:=x >>> m) (mE hx)
   simpa [vOf] using this
  rw [e3,e4,e1,e2,jc x m hx]
  repeat refine ⟨by omega,?_⟩
  exact Z7
 ·simp at t s
  obtain ⟨m,rfl⟩:∃ m:Nat,n=m:=⟨n.toNat,by omega⟩
  have hm:m<64:=by omega
  have e1:IntKind.i64.wrap (64 - (m:Int))=((64 - m:Nat):Int):=by rw [wrap_i64]<;>omega
  have e2:IntKind.u64.wrap (m:Int)=m:=by rw [cP]<;>omega
  have e3:IntKind.u64.wrap ((64 - m:Nat):Int)=((64 - m:Nat):Int):=by rw [cP]<;>omega
  have e4:vv (vOf x y >>> m)=.agg [.int .u64 ((x >>> m:Nat):Int),.int .u64 (((y >>> m ||| (x <<< (64 - m)) % 2^64:Nat)):Int)]:=by
   unfold vv
   rw [FU x y m hy,FJ x y m hy hm]
  rw [e1,e2,e3,iNq,e4,jc x m hx,jc y m hy,qc,xg _ _ (mE hy) (Nat.mod_lt _ (by decide))]
  repeat refine ⟨by omega,?_⟩
  exact Z7
theorem Jn:ti Tryz.prog 236=some ⟨.array 128 4,128,128,.agg (List.replicate 128 (.bool false))⟩:=by kernel_rfl
attribute [go_sem] Jn
def xl:List AV→AHeap→(AV→Prop)→Prop
 |[.agg [.int .u64 hi,.int .u64 lo]],_,K=>isV hi lo∧K (.agg (bits (vOf hi.toNat lo.toNat)))
 |_,_,_=>False
theorem F6:EntOk Tryz.prog 159 (Ent.pure xl):=by
 refine Ype fun _ H K h=>?_
 unfold xl at h
 split at h
 rotate_left
 ·exact h.elim
 rename_i hi lo
 obtain ⟨⟨h0,h1,h2,h3⟩,hK⟩:=h
 refine ⟨_,hK,?_⟩
 obtain ⟨x,rfl⟩:=bL h0
 obtain ⟨y,rfl⟩:=bL h2
 clear hK h0 h2
 rw [iNq,iNq]
 have hx:x<2^64:=by omega
 have hy:y<2^64:=by omega
 refine ACalls.fW au tNq Tryz.func159 [.cell 2 236] (nrq _) (T:=aq []) (h:=fun hcl hlt=>?_)
 clear hlt
 have hv:=A3 hx hy
 have blo:∀ i,i<64→y.testBit i=(vOf x y).testBit i:=fun i hi=>by rw [jv hy,if_pos hi]
 have bhi:∀ i,x.testBit i=(vOf x y).testBit (i+64):=fun i=>by rw [jv hy,if_neg (by omega),Nat.add_sub_cancel]
 generalize hvo:vOf x y=v at hv blo bhi ⊢
 simp only [go_sem,byq]
 refine lK (A:=Nat) (fun k=>[(4,.int .i64 (k:Int)),(3,.ptr (H.nx+1+1) 0),(1,.ptr H.nx 0),(2,.ptr (H.nx+1) 0)])
  (fun k=>((H.push (.cells [.int .u64 (x:Int),.int .u64 (y:Int)])).push (.cells (List.replicate 128 (.bool false)))).push (.cells (gz v fun j=>decide (j % 64<k)))) (fun k=>k≤64) (fun k=>64 - k) 0 (by omega) ?_ fun k hk=>?_
 ·have e:gz v (fun j=>decide (j % 64<0))=List.replicate 128 (.bool false):=zl _ _ fun j _=>by simp
  simp only [bnq,enter,oI,ltF,ne_eq,Nat.reduceEqDiff,reduceCtorEq,e,true_or,and_true]
  all_goals rfl
 simp only [go_sem,byq]
 refine ai (fun hc=>?_) (fun hc=>?_)
 ·have hk:k<64:=by simp at hc;omega
  have e1:IntKind.i64.wrap ((k:Int)+64)=((k+64:Nat):Int):=by rw [wrap_i64]<;>omega
  have e2:IntKind.u64.wrap (k:Int)=(k:Int):=by rw [cP]<;>omega
  have e3:IntKind.i64.wrap ((k:Int)+1)=((k+1:Nat):Int):=by rw [wrap_i64]<;>omega
  have s1:y >>> k<2^64:=mE hy
  have s2:x >>> k<2^64:=mE hx
  simp only [go_sem,byq,e1,e2,e3,jc y k hy,jc x k hx,zb _ s1,zb _ s2,JX,iNq,nzq,og,Bg,blo k hk,bhi k,List.length_set]
  have hst:((gz v fun j=>decide (j % 64<k)).set k (.bool (v.testBit k))).set (k+64) (.bool (v.testBit (k+64)))=gz v fun j=>decide (j % 64<k+1):=by
   rw [uc v _ (fun j=>decide (j % 64<k)||decide (j=k)) k (fun j hj=>by simp [hj]) (by simp),
    uc v _ (fun j=>decide (j % 64<k)||decide (j=k)||decide (j=k+64)) (k+64) (fun j hj=>by simp [hj]) (by simp)]
   unfold gz
   refine List.map_congr_left fun j hj=>?_
   have:j<128:=List.mem_range.1 hj
   congr 2
   rw [Bool.eq_iff_iff];simp;omega
  refine ⟨by omega,by omega,by omega,by omega,by omega,by omega,k+1,by omega,by omega,?_⟩
  simp only [bnq,enter,oI,ltF,ne_eq,Nat.reduceEqDiff,reduceCtorEq,hst,true_or,and_self]
 ·have hk:k=64:=by simp at hc;omega
  subst hk
  have e:gz v (fun j=>decide (j % 64<64))=bits v:=AR _ _ fun j _=>by simp;omega
  have et:List.take 128 (bits v)=bits v:=List.take_of_length_le (by rw [iV];omega)
  have es:splice (List.replicate 128 (.bool false)) 0 (bits v)=bits v:=kE (y:=.junk) (iV v)
  simp only [go_sem,byq,e,et,es,iV,rR]
  refine ⟨by simp,?_⟩
  simp (disch:=first|exact Zd|omega) [↓zmo,beq,List.take_of_length_le,List.drop_append,List.take_append,ae,wk,wk2,wk1,wkM,wkL,ah,List.drop_eq_nil_of_le,hcl,GC]
theorem FY:ti Tryz.prog 51=some ⟨.int .i64,1,8,.int .i64 0⟩:=by kernel_rfl
attribute [go_sem] FY
end Go.AL
