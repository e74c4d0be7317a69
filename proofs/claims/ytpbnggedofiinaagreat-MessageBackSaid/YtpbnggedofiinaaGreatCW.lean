/- Lemmas of the proof; no condition. -/
import Derived.Test.YtpbnggedofiinaaGreatC02
import Derived.Test.YtpbnggedofiinaaGreatLGen
set_option linter.all false
set_option maxRecDepth 10000
open List renaming length_cons → yaz, length_nil → yba, take_of_length_le → ybc, drop_append → ybd, take_append → ybe, drop_eq_nil_of_le → ybf, nil_append → yak
open Option renaming map_some → yag
open Go Go.AL Go.Proofs
namespace Go.AL
theorem GW:ti Tryz.prog 36=some ⟨.int .u64,1,8,.int .u64 0⟩:=by kernel_rfl
theorem G8:ti Tryz.prog 38=some ⟨.struct [(0,36,false),(1,36,false)],2,16,.agg [.int .u64 0,.int .u64 0]⟩:=by kernel_rfl
theorem GR:ti Tryz.prog 349=some ⟨.array 16 5,16,16,.agg (List.replicate 16 (.int .u8 0))⟩:=by kernel_rfl
attribute [go_sem] GW G8 GR
def xy:List AV→AHeap→(AV→Prop)→Prop
 |[.int .u64 n],_,K=>(0≤n∧n<18446744073709551616)∧K (.int .i64 (bl n.toNat:Nat))
 |_,_,_=>False
def lenTab:List UInt8:=(List.range 256).map fun n=>UInt8.ofNat (bl n)
theorem Dl:([0,1,2,2,3,3,3,3,4,4,4,4,4,4,4,4,5,5,5,5,5,5,5,5,5,5,5,5,5,5,5,5,6,6,6,6,6,6,6,6,6,6,6,6,6,6,6,6,6,6,6,6,6,6,6,6,6,6,6,6,6,6,6,6].append [7,7,7,7,7,7,7,7,7,7,7,7,7,7,7,7,7,7,7,7,7,7,7,7,7,7,7,7,7,7,7,7,7,7,7,7,7,7,7,7,7,7,7,7,7,7,7,7,7,7,7,7,7,7,7,7,7,7,7,7,7,7,7,7]).append ([8,8,8,8,8,8,8,8,8,8,8,8,8,8,8,8,8,8,8,8,8,8,8,8,8,8,8,8,8,8,8,8,8,8,8,8,8,8,8,8,8,8,8,8,8,8,8,8,8,8,8,8,8,8,8,8,8,8,8,8,8,8,8,8].append [8,8,8,8,8,8,8,8,8,8,8,8,8,8,8,8,8,8,8,8,8,8,8,8,8,8,8,8,8,8,8,8,8,8,8,8,8,8,8,8,8,8,8,8,8,8,8,8,8,8,8,8,8,8,8,8,8,8,8,8,8,8,8,8])=lenTab:=by decide +kernel
theorem Am:lenTab.length=256:=by simp [lenTab]
theorem AD (n:Nat) (h:n<256):(lenTab.getD n 0).toNat=bl n:=by
 unfold lenTab
 rw [gEq,List.getElem?_map,List.getElem?_range h]
 have:bl n≤8:=bl_le.2 h
 simp only [yag,Option.getD_some]
 rw [UInt8.toNat_ofNat_of_lt' (by simp [UInt8.size];omega)]
theorem Cw {m s:Nat} {H:AHeap} (hcl:H.Closed) (hm:m<2^64) (h:m >>> s<256) (hs:s=0∨2^s≤m) :
 (0≤IntKind.u8.wrap ((m >>> s:Nat):Int)∧IntKind.u8.wrap ((m >>> s:Nat):Int)<(lenTab.length:Int)) ∧
 ag H (AV.int IntKind.i64 (IntKind.i64.wrap ((s:Int)+IntKind.i64.wrap ((lenTab.getD (IntKind.u8.wrap ((m >>> s:Nat):Int)).toNat 0).toNat:Int)))) H (AV.int IntKind.i64 (bl m:Nat)):=by
 have e:IntKind.u8.wrap ((m >>> s:Nat):Int)=((m >>> s:Nat):Int):=by
  have:IntKind.u8.wrap ((m >>> s:Nat):Int)=((m >>> s:Nat):Int) % 256:=by simp [IntKind.wrap,IntKind.signed,IntKind.bits]
  rw [this]
  generalize m >>> s=x at h ⊢
  omega
 rw [e,Am,iNq,AD _ h]
 refine ⟨⟨Int.natCast_nonneg _,by generalize m >>> s=x at h ⊢;omega⟩,?_⟩
 have hb:bl m=s+bl (m >>> s):=by
  rcases hs with rfl|hs
  ·simp
  ·exact zc m s hs
 have h8:bl (m >>> s)≤8:=bl_le.2 h
 have h64:bl m≤64:=bl_le.2 hm
 have e2:IntKind.i64.wrap ((bl (m >>> s):Nat):Int)=(bl (m >>> s):Nat):=by rw [wrap_i64]<;>omega
 have e3:IntKind.i64.wrap ((s:Int)+(bl (m >>> s):Nat))=(bl m:Nat):=by rw [wrap_i64]<;>omega
 rw [e2,e3]
 simp [ag,wk,wk2,wk1,zmw,hcl,znf]
theorem Ed:EntOk Tryz.prog 252 (Ent.pure xy):=by
 refine Ype fun _ H K h=>?_
 unfold xy at h
 split at h
 rotate_left
 ·exact h.elim
 rename_i n
 obtain ⟨⟨h0,h1⟩,hK⟩:=h
 refine ⟨_,hK,?_⟩
 obtain ⟨m,rfl⟩:=bY h0
 clear hK h0
 rw [iNq]
 have hm:m<2^64:=by omega
 clear h1
 refine ACalls.fW ah tNq Tryz.func252 [.tmp 2] (nrq _) (T:=ae []) (h:=fun hcl hlt=>?_)
 clear hlt
 have s32:∀ a:Nat,a<2^64→tk .u64 (a:Int) 32=((a >>> 32:Nat):Int):=fun a h=>iS a 32 h
 have s16:∀ a:Nat,a<2^64→tk .u64 (a:Int) 16=((a >>> 16:Nat):Int):=fun a h=>iS a 16 h
 have s8:∀ a:Nat,a<2^64→tk .u64 (a:Int) 8=((a >>> 8:Nat):Int):=fun a h=>iS a 8 h
 have q1:m >>> 32<2^64:=ma hm
 have q2:m >>> 16<2^64:=ma hm
 have q3:m >>> 32 >>> 16<2^64:=ma q1
 have w48:IntKind.i64.wrap 48=48:=by decide
 have w40:IntKind.i64.wrap 40=40:=by decide
 have w24:IntKind.i64.wrap 24=24:=by decide
 have w56:IntKind.i64.wrap (48+8)=56:=by decide
 have w56':IntKind.i64.wrap 56=56:=by decide
 have wn:∀ k:Nat,(0≤IntKind.u8.wrap ((m >>> k:Nat):Int))=True:=fun k=>eq_true (by simp [IntKind.wrap,IntKind.signed,IntKind.bits];try omega)
 have q4:m >>> 48<2^64:=ma hm
 simp only [go_sem,zav,byq,Dl,s32,s16,s8,hm,q1,q2,q3,q4,w48,w40,w24,w56,w56',← Nat.shiftRight_add]
 have sr:∀ k:Nat,m >>> k=m/2^k:=fun k=>Nat.shiftRight_eq_div_pow m k
 have fin:=fun s=>@Cw m s H hcl hm
 refine bM (fun t1=>⟨by decide,bM (fun t2=>⟨by decide,bM (fun t3=>⟨by decide,?_⟩) (fun t3=>?_)⟩) (fun t2=>bM (fun t3=>⟨by decide,?_⟩) (fun t3=>?_))⟩)
  (fun t1=>bM (fun t2=>⟨by decide,bM (fun t3=>⟨by decide,?_⟩) (fun t3=>?_)⟩) (fun t2=>bM (fun t3=>⟨by decide,?_⟩) (fun t3=>?_)))
 all_goals simp only [decide_eq_true_eq,decide_eq_false_iff_not,sr,ge_iff_le] at t1 t2 t3
 ·first|exact fin 56 (by rw [sr];omega) (.inr (by omega))|exact ⟨(fin 56 (by rw [sr];omega) (.inr (by omega))).1.2,(fin 56 (by rw [sr];omega) (.inr (by omega))).2⟩
 ·first|exact fin 48 (by rw [sr];omega) (.inr (by omega))|exact ⟨(fin 48 (by rw [sr];omega) (.inr (by omega))).1.2,(fin 48 (by rw [sr];omega) (.inr (by omega))).2⟩
 ·first|exact fin 40 (by rw [sr];omega) (.inr (by omega))|exact ⟨(fin 40 (by rw [sr];omega) (.inr (by omega))).1.2,(fin 40 (by rw [sr];omega) (.inr (by omega))).2⟩
 ·first|exact fin 32 (by rw [sr];omega) (.inr (by omega))|exact ⟨(fin 32 (by rw [sr];omega) (.inr (by omega))).1.2,(fin 32 (by rw [sr];omega) (.inr (by omega))).2⟩
 ·first|exact fin 24 (by rw [sr];omega) (.inr (by omega))|exact ⟨(fin 24 (by rw [sr];omega) (.inr (by omega))).1.2,(fin 24 (by rw [sr];omega) (.inr (by omega))).2⟩
 ·first|exact fin 16 (by rw [sr];omega) (.inr (by omega))|exact ⟨(fin 16 (by rw [sr];omega) (.inr (by omega))).1.2,(fin 16 (by rw [sr];omega) (.inr (by omega))).2⟩
 ·first|exact fin 8 (by rw [sr];omega) (.inr (by omega))|exact ⟨(fin 8 (by rw [sr];omega) (.inr (by omega))).1.2,(fin 8 (by rw [sr];omega) (.inr (by omega))).2⟩
 ·first|exact fin 0 (by rw [sr];omega) (.inl rfl)|exact ⟨(fin 0 (by rw [sr];omega) (.inl rfl)).1.2,(fin 0 (by rw [sr];omega) (.inl rfl)).2⟩
def wD:List AV→AHeap→(AV→Prop)→Prop
 |[.agg [.int .u64 hi,.int .u64 lo]],_,K=>(0≤hi∧hi<18446744073709551616∧0≤lo∧lo<18446744073709551616)∧K (.int .i64 (bl (vOf hi.toNat lo.toNat):Nat))
 |_,_,_=>False
theorem DA:EntOk Tryz.prog 248 (Ent.pure wD):=by
 refine Ype fun _ H K h=>?_
 unfold wD at h
 split at h
 rotate_left
 ·exact h.elim
 rename_i hi lo
 obtain ⟨⟨h0,h1,h2,h3⟩,hK⟩:=h
 refine ⟨_,hK,?_⟩
 obtain ⟨x,rfl⟩:=bY h0
 obtain ⟨y,rfl⟩:=bY h2
 clear hK h0 h2
 rw [iNq,iNq]
 have hx:x<2^64:=by omega
 have hy:y<2^64:=by omega
 refine ACalls.fW ah (tCq Ed tNq) Tryz.func248 [.tmp 2] (nrq _) (T:=ae []) (h:=fun hcl hlt=>?_)
 clear hlt
 have b1:bl x≤64:=bl_le.2 hx
 have hw:IntKind.i64.wrap (64+((bl x:Nat):Int))=((64+bl x:Nat):Int):=by rw [wrap_i64]<;>omega
 simp only [go_sem,zav,byq,xy,iNq,hw]
 rw [Hn hy]
 refine bM (fun t=>?_) (fun t=>?_)
 ·have t':x≠0:=by simpa using t
  rw [if_neg t']
  repeat refine ⟨by omega,?_⟩
  exact Z2
 ·have t':x=0:=by simpa using t
  rw [if_pos t']
  repeat refine ⟨by omega,?_⟩
  exact Z2
def isV (hi lo:Int):Prop:=0≤hi∧hi<18446744073709551616∧0≤lo∧lo<18446744073709551616
def tG:List AV→AHeap→(AV→Prop)→Prop
 |[.agg [.int .u64 hi,.int .u64 lo],.int .i64 n],_,K=>(isV hi lo∧n<9223372036854775808)∧K (vv (vOf hi.toNat lo.toNat >>> n.toNat))
 |_,_,_=>False
theorem CM:EntOk Tryz.prog 251 (Ent.pure tG):=by
 refine Ype fun _ H K h=>?_
 unfold tG at h
 split at h
 rotate_left
 ·exact h.elim
 rename_i hi lo n
 obtain ⟨⟨⟨h0,h1,h2,h3⟩,hn⟩,hK⟩:=h
 refine ⟨_,hK,?_⟩
 obtain ⟨x,rfl⟩:=bY h0
 obtain ⟨y,rfl⟩:=bY h2
 clear hK h0 h2
 rw [iNq,iNq]
 have hx:x<2^64:=by omega
 have hy:y<2^64:=by omega
 refine ACalls.fW ah tNq Tryz.func251 [.cell 4 38] (nrq _) (T:=ae []) (h:=fun hcl hlt=>?_)
 clear hlt
 simp only [go_sem,zav,byq]
 refine bM (fun t=>?_) (fun t=>bM (fun s=>?_) (fun s=>?_))
 ·have t':n.toNat=0:=by simp at t;omega
  rw [t',Nat.shiftRight_zero,lY hy]
  exact Z2
 ·simp at t s
  obtain ⟨m,rfl⟩:∃ m:Nat,n=m+64:=⟨(n - 64).toNat,by omega⟩
  have e1:IntKind.i64.wrap ((m:Int)+64 - 64)=m:=by rw [wrap_i64]<;>omega
  have e2:IntKind.u64.wrap (m:Int)=m:=by rw [cG]<;>omega
  have e3:((m:Int)+64).toNat=m+64:=by omega
  have e4:vv (vOf x y >>> (m+64))=.agg [.int .u64 0,.int .u64 ((x >>> m:Nat):Int)]:=by
   rw [De x y _ hy hx (by omega),Nat.add_sub_cancel]
   have:=lY (hi:=0) (lo:=x >>> m) (ma hx)
   simpa [vOf] using this
  rw [e3,e4,e1,e2,iS x m hx]
  repeat refine ⟨by omega,?_⟩
  exact Z2
 ·simp at t s
  obtain ⟨m,rfl⟩:∃ m:Nat,n=m:=⟨n.toNat,by omega⟩
  have hm:m<64:=by omega
  have e1:IntKind.i64.wrap (64 - (m:Int))=((64 - m:Nat):Int):=by rw [wrap_i64]<;>omega
  have e2:IntKind.u64.wrap (m:Int)=m:=by rw [cG]<;>omega
  have e3:IntKind.u64.wrap ((64 - m:Nat):Int)=((64 - m:Nat):Int):=by rw [cG]<;>omega
  have e4:vv (vOf x y >>> m)=.agg [.int .u64 ((x >>> m:Nat):Int),.int .u64 (((y >>> m ||| (x <<< (64 - m)) % 2^64:Nat)):Int)]:=by
   unfold vv
   rw [Ep x y m hy,Ea x y m hy hm]
  rw [e1,e2,e3,iNq,e4,iS x m hx,iS y m hy,kv,ou _ _ (ma hy) (Nat.mod_lt _ (by decide))]
  repeat refine ⟨by omega,?_⟩
  exact Z2
theorem u7 {n:Nat}:List.replicate n (AV.int .u8 0)=bys (List.replicate n 0):=by simp [bys,aL]
theorem HI (a:Nat):UInt8.ofNat (((a % 2^64:Nat):Int) % 256).toNat=UInt8.ofNat a:=by
 rw [UInt8.ofNat_eq_iff_mod_eq_toNat,UInt8.toNat_ofNat']
 omega
def ja (l:List UInt8) (k:Nat):List UInt8:=l.take k++List.replicate (l.length - k) 0
theorem xU (l:List UInt8):ja l 0=List.replicate l.length 0:=by simp [ja]
theorem zZ (l:List UInt8):ja l l.length=l:=by simp [ja]
theorem th (l:List UInt8) (k:Nat) (h:k≤l.length):(ja l k).length=l.length:=by simp [ja];omega
theorem yp (l:List UInt8) (k:Nat) (h:k<l.length):(ja l k).take k++[l[k]]++(ja l k).drop (k+1)=ja l (k+1):=by
 unfold ja
 have e1:(l.take k).length=k:=by simp;omega
 rw [List.take_append_of_le_length (by omega),ybd,ybc (by omega),e1,List.drop_of_length_le (by omega),yak,List.drop_replicate,List.take_succ_eq_append_getElem h,Nat.add_sub_cancel_left]
 rfl
def zw:List AV→AHeap→(AV→Prop)→Prop
 |[.agg [.int .u64 hi,.int .u64 lo]],_,K=>isV hi lo∧K (.agg (bys (beN (vOf hi.toNat lo.toNat) 16)))
 |_,_,_=>False
theorem FY:EntOk Tryz.prog 247 (Ent.pure zw):=by
 refine Ype fun _ H K h=>?_
 unfold zw at h
 split at h
 rotate_left
 ·exact h.elim
 rename_i hi lo
 obtain ⟨⟨h0,h1,h2,h3⟩,hK⟩:=h
 refine ⟨_,hK,?_⟩
 obtain ⟨x,rfl⟩:=bY h0
 obtain ⟨y,rfl⟩:=bY h2
 clear hK h0 h2
 rw [iNq,iNq]
 have hx:x<2^64:=by omega
 have hy:y<2^64:=by omega
 refine ACalls.fW ah (tCq CM tNq) Tryz.func247 [.cell 2 349] (nrq _) (T:=ae []) (h:=fun hcl hlt=>?_)
 clear hlt
 have hv:=nr hx hy
 generalize hvo:vOf x y=v at hv ⊢
 simp only [go_sem,byq,u7]
 refine jr (A:=Nat) (fun k=>[(5,.int .i64 (k:Int)),(3,.ptr (H.nx+1+1) 0),(1,.ptr H.nx 0),(2,.ptr (H.nx+1) 0)])
  (fun k=>((H.push (.cells [.int .u64 (x:Int),.int .u64 (y:Int)])).push (.cells (bys (List.replicate 16 0)))).push (.cells (bys (ja (beN v 16) k)))) (fun k=>k≤16) (fun k=>16 - k) 0 (by omega) ?_ fun k hk=>?_
 ·simp only [bnq,enter,pC,ltF,ne_eq,Nat.reduceEqDiff,reduceCtorEq,xU,dH,true_or,and_true]
  all_goals rfl
 simp only [go_sem,byq]
 refine af (fun hc=>?_) (fun hc=>?_)
 ·have hk:k<16:=by simp at hc;omega
  have e1:IntKind.i64.wrap (15 - (k:Int))=((15 - k:Nat):Int):=by rw [wrap_i64]<;>omega
  have e2:IntKind.i64.wrap (8*((15 - k:Nat):Int))=((8*(15 - k):Nat):Int):=by rw [wrap_i64]<;>omega
  have e3:IntKind.i64.wrap ((k:Int)+1)=((k+1:Nat):Int):=by rw [wrap_i64]<;>omega
  simp only [go_sem,byq,e1,e2,e3,tG,isV,vv,iNq,hvo,sw,HI,nzq,zlq]
  have hs:splice (bys (ja (beN v 16) k)) k (bys [UInt8.ofNat (v >>> (8*(15 - k)))])=bys (ja (beN v 16) (k+1)):=by
   rw [zmq (by rw [th _ _ (by rw [dH];omega),dH];simp;omega),← yp _ _ (by rw [dH];exact hk)]
   simp [beN]
  rw [th _ _ (by rw [dH];omega),dH,hs]
  refine ⟨by omega,by omega,by omega,k+1,by omega,by omega,?_⟩
  exact Z3
 ·have hk:k=16:=by simp at hc;omega
  subst hk
  have ef:ja (beN v 16) 16=beN v 16:=by have:=zZ (beN v 16);rwa [dH] at this
  have h16:(bys (beN v 16)).length=16:=by rw [zlk,dH]
  have e0:splice (bys (List.replicate 16 0)) 0 (bys (beN v 16))=bys (beN v 16):=by
   rw [zmq (by simp [dH])];simp [dH]
  have et:List.take 16 (beN v 16)=beN v 16:=ybc (by rw [dH];omega)
  simp only [go_sem,byq,ef,dH,et,e0]
  refine ⟨by simp,?_⟩
  exact Z2
def rD:List AV→AHeap→(AV→Prop)→Prop
 |[.agg [.int .u64 hi,.int .u64 lo]],_,K=>isV hi lo∧K (.slice .any 1 (bys (fe (vOf hi.toNat lo.toNat))))
 |_,_,_=>False
theorem zA:EntOk Tryz.prog 238 (Ent.pure rD):=by
 refine Ype fun _ H K h=>?_
 unfold rD at h
 split at h
 rotate_left
 ·exact h.elim
 rename_i hi lo
 obtain ⟨⟨h0,h1,h2,h3⟩,hK⟩:=h
 refine ⟨_,hK,?_⟩
 obtain ⟨x,rfl⟩:=bY h0
 obtain ⟨y,rfl⟩:=bY h2
 clear hK h0 h2
 rw [iNq,iNq]
 have hx:x<2^64:=by omega
 have hy:y<2^64:=by omega
 refine ACalls.fW ah (tCq FY (tCq DA tNq)) Tryz.func238 [.tmp 2] (nrq _) (T:=ae []) (h:=fun hcl hlt=>?_)
 clear hlt
 have hv:=nr hx hy
 generalize hvo:vOf x y=v at hv ⊢
 have b1:bl v≤128:=bl_le.2 hv
 have w1:IntKind.i64.wrap (((bl v:Nat):Int)+7)=((bl v+7:Nat):Int):=by rw [wrap_i64]<;>omega
 have w2:IntKind.i64.wrap (((bl v+7:Nat):Int).tdiv 8)=(((bl v+7)/8:Nat):Int):=by
  rw [Int.tdiv_eq_ediv_of_nonneg (by omega),wrap_i64]<;>omega
 have w3:max (1:Int) (((bl v+7)/8:Nat):Int)=(eC v:Nat):=by unfold eC;omega
 have hle:=qp hv
 have w4:IntKind.i64.wrap (16 - ((eC v:Nat):Int))=((16 - eC v:Nat):Int):=by rw [wrap_i64]<;>omega
 have e0:splice (bys (List.replicate 16 0)) 0 (bys (beN v 16))=bys (beN v 16):=by
  rw [zmq (by simp [dH])];simp [dH]
 have e5:((16:Nat):Int) - ((16 - eC v:Nat):Int)=((eC v:Nat):Int):=by omega
 have e6:bK 1 (eC v) (bys ((beN v 16).drop (16 - eC v)))=bys (fe v):=by
  rw [Dt v 16 _ hle,zmr (by rw [dH];exact nrq _),ybc (by rw [dH];exact nrq _)];rfl
 have e7:(fe v).length=eC v:=dH _ _
 simp only [go_sem,zav,byq,zw,wD,isV,iNq,hvo,w1,w2,w3,w4,u7,dH,e0,e5,e6,e7,List.length_replicate]
 refine ⟨by omega,by omega,by decide,by omega,by omega,?_⟩
 exact Z2
theorem F1:ti Tryz.prog 353=some ⟨.array 128 4,128,128,.agg (List.replicate 128 (.bool false))⟩:=by kernel_rfl
attribute [go_sem] F1
def xd:List AV→AHeap→(AV→Prop)→Prop
 |[.agg [.int .u64 hi,.int .u64 lo]],_,K=>isV hi lo∧K (.agg (bits (vOf hi.toNat lo.toNat)))
 |_,_,_=>False
theorem ES:EntOk Tryz.prog 249 (Ent.pure xd):=by
 refine Ype fun _ H K h=>?_
 unfold xd at h
 split at h
 rotate_left
 ·exact h.elim
 rename_i hi lo
 obtain ⟨⟨h0,h1,h2,h3⟩,hK⟩:=h
 refine ⟨_,hK,?_⟩
 obtain ⟨x,rfl⟩:=bY h0
 obtain ⟨y,rfl⟩:=bY h2
 clear hK h0 h2
 rw [iNq,iNq]
 have hx:x<2^64:=by omega
 have hy:y<2^64:=by omega
 refine ACalls.fW ah tNq Tryz.func249 [.cell 2 353] (nrq _) (T:=ae []) (h:=fun hcl hlt=>?_)
 clear hlt
 have hv:=nr hx hy
 have blo:∀ i,i<64→y.testBit i=(vOf x y).testBit i:=fun i hi=>by rw [kO hy,if_pos hi]
 have bhi:∀ i,x.testBit i=(vOf x y).testBit (i+64):=fun i=>by rw [kO hy,if_neg (by omega),Nat.add_sub_cancel]
 generalize hvo:vOf x y=v at hv blo bhi ⊢
 simp only [go_sem,byq]
 refine jr (A:=Nat) (fun k=>[(4,.int .i64 (k:Int)),(3,.ptr (H.nx+1+1) 0),(1,.ptr H.nx 0),(2,.ptr (H.nx+1) 0)])
  (fun k=>((H.push (.cells [.int .u64 (x:Int),.int .u64 (y:Int)])).push (.cells (List.replicate 128 (.bool false)))).push (.cells (iA v fun j=>decide (j % 64<k)))) (fun k=>k≤64) (fun k=>64 - k) 0 (by omega) ?_ fun k hk=>?_
 ·have e:iA v (fun j=>decide (j % 64<0))=List.replicate 128 (.bool false):=yt _ _ fun j _=>by simp
  simp only [bnq,enter,pC,ltF,ne_eq,Nat.reduceEqDiff,reduceCtorEq,e,true_or,and_true]
  all_goals rfl
 simp only [go_sem,byq]
 refine af (fun hc=>?_) (fun hc=>?_)
 ·have hk:k<64:=by simp at hc;omega
  have e1:IntKind.i64.wrap ((k:Int)+64)=((k+64:Nat):Int):=by rw [wrap_i64]<;>omega
  have e2:IntKind.u64.wrap (k:Int)=(k:Int):=by rw [cG]<;>omega
  have e3:IntKind.i64.wrap ((k:Int)+1)=((k+1:Nat):Int):=by rw [wrap_i64]<;>omega
  have s1:y >>> k<2^64:=ma hy
  have s2:x >>> k<2^64:=ma hx
  simp only [go_sem,byq,e1,e2,e3,iS y k hy,iS x k hx,yZ _ s1,yZ _ s2,F5,iNq,nzq,ko,zv,blo k hk,bhi k,List.length_set]
  have hst:((iA v fun j=>decide (j % 64<k)).set k (.bool (v.testBit k))).set (k+64) (.bool (v.testBit (k+64)))=iA v fun j=>decide (j % 64<k+1):=by
   rw [uz v _ (fun j=>decide (j % 64<k)||decide (j=k)) k (fun j hj=>by simp [hj]) (by simp),
    uz v _ (fun j=>decide (j % 64<k)||decide (j=k)||decide (j=k+64)) (k+64) (fun j hj=>by simp [hj]) (by simp)]
   unfold iA
   refine List.map_congr_left fun j hj=>?_
   have:j<128:=List.mem_range.1 hj
   congr 2
   rw [Bool.eq_iff_iff];simp;omega
  refine ⟨by omega,by omega,by omega,by omega,by omega,by omega,k+1,by omega,by omega,?_⟩
  simp only [bnq,enter,pC,ltF,ne_eq,Nat.reduceEqDiff,reduceCtorEq,hst,true_or,and_self]
 ·have hk:k=64:=by simp at hc;omega
  subst hk
  have e:iA v (fun j=>decide (j % 64<64))=bits v:=zS _ _ fun j _=>by simp;omega
  have et:List.take 128 (bits v)=bits v:=ybc (by rw [jE];omega)
  have es:splice (List.replicate 128 (.bool false)) 0 (bits v)=bits v:=lF (y:=.junk) (jE v)
  simp only [go_sem,byq,e,et,es,jE,rY]
  refine ⟨by simp,?_⟩
  simp (disch:=first|exact Zd|omega) [↓zmo,beq,ybc,ybd,ybe,ag,wk,wk2,wk1,wkM,wkL,ak,ybf,hcl,DV]
def bx (v:Nat):List UInt8:=UInt8.ofNat (eC v)::fe v
theorem mE (v:Nat):(fe v).length=eC v:=dH _ _
def ic:List AV→AHeap→(AV→Prop)→Prop
 |[.slice _ 1 l,.agg [.int .u64 hi,.int .u64 lo]],_,K=>(isV hi lo∧isB l∧l.length≤140737488000000)∧K (.slice .any 1 (bys (unb l++bx (vOf hi.toNat lo.toNat))))
 |_,_,_=>False
theorem nC:EntOk Tryz.prog 210 (Ent.pure ic):=by
 refine Ype fun _ H K h=>?_
 unfold ic at h
 split at h
 rotate_left
 ·exact h.elim
 rename_i m l hi lo
 obtain ⟨⟨⟨h0,h1,h2,h3⟩,c1,hle⟩,hK⟩:=h
 refine ⟨_,hK,?_⟩
 obtain ⟨x,rfl⟩:=bY h0
 obtain ⟨y,rfl⟩:=bY h2
 obtain ⟨xs,rfl⟩:=fY c1
 clear hK h0 h2
 simp only [zlz,zlk] at *
 rw [iNq,iNq]
 have hx:x<2^64:=by omega
 have hy:y<2^64:=by omega
 refine ACalls.fW ah (tCq ov (tCq zA tNq)) Tryz.func210 [.tmp 4] (nrq _) (T:=ae []) (h:=fun hcl hlt=>?_)
 clear hlt
 have hv:=nr hx hy
 have hvl:=qp hv
 generalize hvo:vOf x y=v at hv hvl ⊢
 have w1:IntKind.u8.wrap ((eC v:Nat):Int)=((eC v:Nat):Int):=by rw [xH];omega
 have w2:AV.int .u8 ((eC v:Nat):Int)=aL (UInt8.ofNat (eC v)):=Ct (by omega)
 have w3:UInt8.ofNat (eC v)::fe v=bx v:=rfl
 simp only [go_sem,zav,byq,lw,rD,isV,iNq,hvo,mE,w1,w2]
 refine ⟨by omega,by omega,by first|omega|(simp only [lAq,yaz,yba,mE];omega),?_⟩
 have w4:UInt8.ofNat (eC v)::fe v=bx v:=rfl
 have w5:[UInt8.ofNat (eC v)]++fe v=bx v:=rfl
 first|rw [w4]|rw [w5]
 exact Z2
theorem bW (n w:Int):(aa n w).length≤4:=by
 unfold aa;split
 ·rw [ny];omega
 ·simp
end Go.AL
