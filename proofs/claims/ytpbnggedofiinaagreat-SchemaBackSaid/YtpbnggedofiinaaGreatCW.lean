/- Lemmas of the proof; no condition. -/
import Derived.Test.YtpbnggedofiinaaGreatC02
import Derived.Test.YtpbnggedofiinaaGreatLGen
set_option linter.all false
set_option maxRecDepth 10000
open List renaming length_cons → yaz, length_nil → yba, take_of_length_le → ybc, drop_append → ybd, take_append → ybe, drop_eq_nil_of_le → ybf, nil_append → yak
open Option renaming map_some → yag
open Go Go.AL Go.Proofs
namespace Go.AL
theorem GI:ti Tryz.prog 36=some ⟨.int .u64,1,8,.int .u64 0⟩:=by kernel_rfl
theorem Hm:ti Tryz.prog 38=some ⟨.struct [(0,36,false),(1,36,false)],2,16,.agg [.int .u64 0,.int .u64 0]⟩:=by kernel_rfl
theorem G5:ti Tryz.prog 349=some ⟨.array 16 5,16,16,.agg (List.replicate 16 (.int .u8 0))⟩:=by kernel_rfl
attribute [go_sem] GI Hm G5
def uH:List AV→AHeap→(AV→Prop)→Prop
 |[.int .u64 n],_,K=>(0≤n∧n<18446744073709551616)∧K (.int .i64 (bl n.toNat:Nat))
 |_,_,_=>False
def lenTab:List UInt8:=(List.range 256).map fun n=>UInt8.ofNat (bl n)
theorem Bf:([0,1,2,2,3,3,3,3,4,4,4,4,4,4,4,4,5,5,5,5,5,5,5,5,5,5,5,5,5,5,5,5,6,6,6,6,6,6,6,6,6,6,6,6,6,6,6,6,6,6,6,6,6,6,6,6,6,6,6,6,6,6,6,6].append [7,7,7,7,7,7,7,7,7,7,7,7,7,7,7,7,7,7,7,7,7,7,7,7,7,7,7,7,7,7,7,7,7,7,7,7,7,7,7,7,7,7,7,7,7,7,7,7,7,7,7,7,7,7,7,7,7,7,7,7,7,7,7,7]).append ([8,8,8,8,8,8,8,8,8,8,8,8,8,8,8,8,8,8,8,8,8,8,8,8,8,8,8,8,8,8,8,8,8,8,8,8,8,8,8,8,8,8,8,8,8,8,8,8,8,8,8,8,8,8,8,8,8,8,8,8,8,8,8,8].append [8,8,8,8,8,8,8,8,8,8,8,8,8,8,8,8,8,8,8,8,8,8,8,8,8,8,8,8,8,8,8,8,8,8,8,8,8,8,8,8,8,8,8,8,8,8,8,8,8,8,8,8,8,8,8,8,8,8,8,8,8,8,8,8])=lenTab:=by decide +kernel
theorem wV:lenTab.length=256:=by simp [lenTab]
theorem w6 (n:Nat) (h:n<256):(lenTab.getD n 0).toNat=bl n:=by
 unfold lenTab
 rw [gEq,List.getElem?_map,List.getElem?_range h]
 have:bl n≤8:=bl_le.2 h
 simp only [yag,Option.getD_some]
 rw [UInt8.toNat_ofNat_of_lt' (by simp [UInt8.size];omega)]
theorem AE {m s:Nat} {H:AHeap} (hcl:H.Closed) (hm:m<2^64) (h:m >>> s<256) (hs:s=0∨2^s≤m) :
 (0≤IntKind.u8.wrap ((m >>> s:Nat):Int)∧IntKind.u8.wrap ((m >>> s:Nat):Int)<(lenTab.length:Int)) ∧
 aa H (AV.int IntKind.i64 (IntKind.i64.wrap ((s:Int)+IntKind.i64.wrap ((lenTab.getD (IntKind.u8.wrap ((m >>> s:Nat):Int)).toNat 0).toNat:Int)))) H (AV.int IntKind.i64 (bl m:Nat)):=by
 have e:IntKind.u8.wrap ((m >>> s:Nat):Int)=((m >>> s:Nat):Int):=by
  have:IntKind.u8.wrap ((m >>> s:Nat):Int)=((m >>> s:Nat):Int) % 256:=by simp [IntKind.wrap,IntKind.signed,IntKind.bits]
  rw [this]
  generalize m >>> s=x at h ⊢
  omega
 rw [e,wV,iNq,w6 _ h]
 refine ⟨⟨Int.natCast_nonneg _,by generalize m >>> s=x at h ⊢;omega⟩,?_⟩
 have hb:bl m=s+bl (m >>> s):=by
  rcases hs with rfl|hs
  ·simp
  ·exact wl m s hs
 have h8:bl (m >>> s)≤8:=bl_le.2 h
 have h64:bl m≤64:=bl_le.2 hm
 have e2:IntKind.i64.wrap ((bl (m >>> s):Nat):Int)=(bl (m >>> s):Nat):=by rw [wrap_i64]<;>omega
 have e3:IntKind.i64.wrap ((s:Int)+(bl (m >>> s):Nat))=(bl m:Nat):=by rw [wrap_i64]<;>omega
 rw [e2,e3]
 simp [aa,wk,wk2,wk1,zmw,hcl,znf]
theorem CI:EntOk Tryz.prog 252 (Ent.pure uH):=by
 refine Ype fun _ H K h=>?_
 unfold uH at h
 split at h
 rotate_left
 ·exact h.elim
 rename_i n
 obtain ⟨⟨h0,h1⟩,hK⟩:=h
 refine ⟨_,hK,?_⟩
 obtain ⟨m,rfl⟩:=dM h0
 clear hK h0
 rw [iNq]
 have hm:m<2^64:=by omega
 clear h1
 refine ACalls.fW ag tNq Tryz.func252 [.tmp 2] (nrq _) (T:=af []) (h:=fun hcl hlt=>?_)
 clear hlt
 have s32:∀ a:Nat,a<2^64→sy .u64 (a:Int) 32=((a >>> 32:Nat):Int):=fun a h=>kn a 32 h
 have s16:∀ a:Nat,a<2^64→sy .u64 (a:Int) 16=((a >>> 16:Nat):Int):=fun a h=>kn a 16 h
 have s8:∀ a:Nat,a<2^64→sy .u64 (a:Int) 8=((a >>> 8:Nat):Int):=fun a h=>kn a 8 h
 have q1:m >>> 32<2^64:=nJ hm
 have q2:m >>> 16<2^64:=nJ hm
 have q3:m >>> 32 >>> 16<2^64:=nJ q1
 have w48:IntKind.i64.wrap 48=48:=by decide
 have w40:IntKind.i64.wrap 40=40:=by decide
 have w24:IntKind.i64.wrap 24=24:=by decide
 have w56:IntKind.i64.wrap (48+8)=56:=by decide
 have w56':IntKind.i64.wrap 56=56:=by decide
 have wn:∀ k:Nat,(0≤IntKind.u8.wrap ((m >>> k:Nat):Int))=True:=fun k=>eq_true (by simp [IntKind.wrap,IntKind.signed,IntKind.bits];try omega)
 have q4:m >>> 48<2^64:=nJ hm
 simp only [go_sem,zav,byq,Bf,s32,s16,s8,hm,q1,q2,q3,q4,w48,w40,w24,w56,w56',← Nat.shiftRight_add]
 have sr:∀ k:Nat,m >>> k=m/2^k:=fun k=>Nat.shiftRight_eq_div_pow m k
 have fin:=fun s=>@AE m s H hcl hm
 refine bK (fun t1=>⟨by decide,bK (fun t2=>⟨by decide,bK (fun t3=>⟨by decide,?_⟩) (fun t3=>?_)⟩) (fun t2=>bK (fun t3=>⟨by decide,?_⟩) (fun t3=>?_))⟩)
  (fun t1=>bK (fun t2=>⟨by decide,bK (fun t3=>⟨by decide,?_⟩) (fun t3=>?_)⟩) (fun t2=>bK (fun t3=>⟨by decide,?_⟩) (fun t3=>?_)))
 all_goals simp only [decide_eq_true_eq,decide_eq_false_iff_not,sr,ge_iff_le] at t1 t2 t3
 ·first|exact fin 56 (by rw [sr];omega) (.inr (by omega))|exact ⟨(fin 56 (by rw [sr];omega) (.inr (by omega))).1.2,(fin 56 (by rw [sr];omega) (.inr (by omega))).2⟩
 ·first|exact fin 48 (by rw [sr];omega) (.inr (by omega))|exact ⟨(fin 48 (by rw [sr];omega) (.inr (by omega))).1.2,(fin 48 (by rw [sr];omega) (.inr (by omega))).2⟩
 ·first|exact fin 40 (by rw [sr];omega) (.inr (by omega))|exact ⟨(fin 40 (by rw [sr];omega) (.inr (by omega))).1.2,(fin 40 (by rw [sr];omega) (.inr (by omega))).2⟩
 ·first|exact fin 32 (by rw [sr];omega) (.inr (by omega))|exact ⟨(fin 32 (by rw [sr];omega) (.inr (by omega))).1.2,(fin 32 (by rw [sr];omega) (.inr (by omega))).2⟩
 ·first|exact fin 24 (by rw [sr];omega) (.inr (by omega))|exact ⟨(fin 24 (by rw [sr];omega) (.inr (by omega))).1.2,(fin 24 (by rw [sr];omega) (.inr (by omega))).2⟩
 ·first|exact fin 16 (by rw [sr];omega) (.inr (by omega))|exact ⟨(fin 16 (by rw [sr];omega) (.inr (by omega))).1.2,(fin 16 (by rw [sr];omega) (.inr (by omega))).2⟩
 ·first|exact fin 8 (by rw [sr];omega) (.inr (by omega))|exact ⟨(fin 8 (by rw [sr];omega) (.inr (by omega))).1.2,(fin 8 (by rw [sr];omega) (.inr (by omega))).2⟩
 ·first|exact fin 0 (by rw [sr];omega) (.inl rfl)|exact ⟨(fin 0 (by rw [sr];omega) (.inl rfl)).1.2,(fin 0 (by rw [sr];omega) (.inl rfl)).2⟩
def uf:List AV→AHeap→(AV→Prop)→Prop
 |[.agg [.int .u64 hi,.int .u64 lo]],_,K=>(0≤hi∧hi<18446744073709551616∧0≤lo∧lo<18446744073709551616)∧K (.int .i64 (bl (vOf hi.toNat lo.toNat):Nat))
 |_,_,_=>False
theorem DM:EntOk Tryz.prog 248 (Ent.pure uf):=by
 refine Ype fun _ H K h=>?_
 unfold uf at h
 split at h
 rotate_left
 ·exact h.elim
 rename_i hi lo
 obtain ⟨⟨h0,h1,h2,h3⟩,hK⟩:=h
 refine ⟨_,hK,?_⟩
 obtain ⟨x,rfl⟩:=dM h0
 obtain ⟨y,rfl⟩:=dM h2
 clear hK h0 h2
 rw [iNq,iNq]
 have hx:x<2^64:=by omega
 have hy:y<2^64:=by omega
 refine ACalls.fW ag (tCq CI tNq) Tryz.func248 [.tmp 2] (nrq _) (T:=af []) (h:=fun hcl hlt=>?_)
 clear hlt
 have b1:bl x≤64:=bl_le.2 hx
 have hw:IntKind.i64.wrap (64+((bl x:Nat):Int))=((64+bl x:Nat):Int):=by rw [wrap_i64]<;>omega
 simp only [go_sem,zav,byq,uH,iNq,hw]
 rw [Hv hy]
 refine bK (fun t=>?_) (fun t=>?_)
 ·have t':x≠0:=by simpa using t
  rw [if_neg t']
  repeat refine ⟨by omega,?_⟩
  exact Z2
 ·have t':x=0:=by simpa using t
  rw [if_pos t']
  repeat refine ⟨by omega,?_⟩
  exact Z2
def isV (hi lo:Int):Prop:=0≤hi∧hi<18446744073709551616∧0≤lo∧lo<18446744073709551616
def rH:List AV→AHeap→(AV→Prop)→Prop
 |[.agg [.int .u64 hi,.int .u64 lo],.int .i64 n],_,K=>(isV hi lo∧n<9223372036854775808)∧K (vv (vOf hi.toNat lo.toNat >>> n.toNat))
 |_,_,_=>False
theorem A8:EntOk Tryz.prog 251 (Ent.pure rH):=by
 refine Ype fun _ H K h=>?_
 unfold rH at h
 split at h
 rotate_left
 ·exact h.elim
 rename_i hi lo n
 obtain ⟨⟨⟨h0,h1,h2,h3⟩,hn⟩,hK⟩:=h
 refine ⟨_,hK,?_⟩
 obtain ⟨x,rfl⟩:=dM h0
 obtain ⟨y,rfl⟩:=dM h2
 clear hK h0 h2
 rw [iNq,iNq]
 have hx:x<2^64:=by omega
 have hy:y<2^64:=by omega
 refine ACalls.fW ag tNq Tryz.func251 [.cell 4 38] (nrq _) (T:=af []) (h:=fun hcl hlt=>?_)
 clear hlt
 simp only [go_sem,zav,byq]
 refine bK (fun t=>?_) (fun t=>bK (fun s=>?_) (fun s=>?_))
 ·have t':n.toNat=0:=by simp at t;omega
  rw [t',Nat.shiftRight_zero,pq hy]
  exact Z2
 ·simp at t s
  obtain ⟨m,rfl⟩:∃ m:Nat,n=m+64:=⟨(n - 64).toNat,by omega⟩
  have e1:IntKind.i64.wrap ((m:Int)+64 - 64)=m:=by rw [wrap_i64]<;>omega
  have e2:IntKind.u64.wrap (m:Int)=m:=by rw [iA]<;>omega
  have e3:((m:Int)+64).toNat=m+64:=by omega
  have e4:vv (vOf x y >>> (m+64))=.agg [.int .u64 0,.int .u64 ((x >>> m:Nat):Int)]:=by
   rw [zO x y _ hy hx (by omega),Nat.add_sub_cancel]
   have:=pq (hi:=0) (lo:=x >>> m) (nJ hx)
   simpa [vOf] using this
  rw [e3,e4,e1,e2,kn x m hx]
  repeat refine ⟨by omega,?_⟩
  exact Z2
 ·simp at t s
  obtain ⟨m,rfl⟩:∃ m:Nat,n=m:=⟨n.toNat,by omega⟩
  have hm:m<64:=by omega
  have e1:IntKind.i64.wrap (64 - (m:Int))=((64 - m:Nat):Int):=by rw [wrap_i64]<;>omega
  have e2:IntKind.u64.wrap (m:Int)=m:=by rw [iA]<;>omega
  have e3:IntKind.u64.wrap ((64 - m:Nat):Int)=((64 - m:Nat):Int):=by rw [iA]<;>omega
  have e4:vv (vOf x y >>> m)=.agg [.int .u64 ((x >>> m:Nat):Int),.int .u64 (((y >>> m ||| (x <<< (64 - m)) % 2^64:Nat)):Int)]:=by
   unfold vv
   rw [CY x y m hy,EQ x y m hy hm]
  rw [e1,e2,e3,iNq,e4,kn x m hx,kn y m hy,oK,qz _ _ (nJ hy) (Nat.mod_lt _ (by decide))]
  repeat refine ⟨by omega,?_⟩
  exact Z2
theorem tk {n:Nat}:List.replicate n (AV.int .u8 0)=bys (List.replicate n 0):=by simp [bys,aO]
theorem HM (a:Nat):UInt8.ofNat (((a % 2^64:Nat):Int) % 256).toNat=UInt8.ofNat a:=by
 rw [UInt8.ofNat_eq_iff_mod_eq_toNat,UInt8.toNat_ofNat']
 omega
def i7 (l:List UInt8) (k:Nat):List UInt8:=l.take k++List.replicate (l.length - k) 0
theorem wi (l:List UInt8):i7 l 0=List.replicate l.length 0:=by simp [i7]
theorem wP (l:List UInt8):i7 l l.length=l:=by simp [i7]
theorem se (l:List UInt8) (k:Nat) (h:k≤l.length):(i7 l k).length=l.length:=by simp [i7];omega
theorem vS (l:List UInt8) (k:Nat) (h:k<l.length):(i7 l k).take k++[l[k]]++(i7 l k).drop (k+1)=i7 l (k+1):=by
 unfold i7
 have e1:(l.take k).length=k:=by simp;omega
 rw [List.take_append_of_le_length (by omega),ybd,ybc (by omega),e1,List.drop_of_length_le (by omega),yak,List.drop_replicate,List.take_succ_eq_append_getElem h,Nat.add_sub_cancel_left]
 rfl
def wI:List AV→AHeap→(AV→Prop)→Prop
 |[.agg [.int .u64 hi,.int .u64 lo]],_,K=>isV hi lo∧K (.agg (bys (beN (vOf hi.toNat lo.toNat) 16)))
 |_,_,_=>False
theorem Fe:EntOk Tryz.prog 247 (Ent.pure wI):=by
 refine Ype fun _ H K h=>?_
 unfold wI at h
 split at h
 rotate_left
 ·exact h.elim
 rename_i hi lo
 obtain ⟨⟨h0,h1,h2,h3⟩,hK⟩:=h
 refine ⟨_,hK,?_⟩
 obtain ⟨x,rfl⟩:=dM h0
 obtain ⟨y,rfl⟩:=dM h2
 clear hK h0 h2
 rw [iNq,iNq]
 have hx:x<2^64:=by omega
 have hy:y<2^64:=by omega
 refine ACalls.fW ag (tCq A8 tNq) Tryz.func247 [.cell 2 349] (nrq _) (T:=af []) (h:=fun hcl hlt=>?_)
 clear hlt
 have hv:=uF hx hy
 generalize hvo:vOf x y=v at hv ⊢
 simp only [go_sem,byq,tk]
 refine kx (A:=Nat) (fun k=>[(5,.int .i64 (k:Int)),(3,.ptr (H.nx+1+1) 0),(1,.ptr H.nx 0),(2,.ptr (H.nx+1) 0)])
  (fun k=>((H.push (.cells [.int .u64 (x:Int),.int .u64 (y:Int)])).push (.cells (bys (List.replicate 16 0)))).push (.cells (bys (i7 (beN v 16) k)))) (fun k=>k≤16) (fun k=>16 - k) 0 (by omega) ?_ fun k hk=>?_
 ·simp only [bnq,enter,pf,ltF,ne_eq,Nat.reduceEqDiff,reduceCtorEq,wi,eu,true_or,and_true]
  all_goals rfl
 simp only [go_sem,byq]
 refine ae (fun hc=>?_) (fun hc=>?_)
 ·have hk:k<16:=by simp at hc;omega
  have e1:IntKind.i64.wrap (15 - (k:Int))=((15 - k:Nat):Int):=by rw [wrap_i64]<;>omega
  have e2:IntKind.i64.wrap (8*((15 - k:Nat):Int))=((8*(15 - k):Nat):Int):=by rw [wrap_i64]<;>omega
  have e3:IntKind.i64.wrap ((k:Int)+1)=((k+1:Nat):Int):=by rw [wrap_i64]<;>omega
  simp only [go_sem,byq,e1,e2,e3,rH,isV,vv,iNq,hvo,tW,HM,nzq,zlq]
  have hs:splice (bys (i7 (beN v 16) k)) k (bys [UInt8.ofNat (v >>> (8*(15 - k)))])=bys (i7 (beN v 16) (k+1)):=by
   rw [zmq (by rw [se _ _ (by rw [eu];omega),eu];simp;omega),← vS _ _ (by rw [eu];exact hk)]
   simp [beN]
  rw [se _ _ (by rw [eu];omega),eu,hs]
  refine ⟨by omega,by omega,by omega,k+1,by omega,by omega,?_⟩
  exact Z3
 ·have hk:k=16:=by simp at hc;omega
  subst hk
  have ef:i7 (beN v 16) 16=beN v 16:=by have:=wP (beN v 16);rwa [eu] at this
  have h16:(bys (beN v 16)).length=16:=by rw [zlk,eu]
  have e0:splice (bys (List.replicate 16 0)) 0 (bys (beN v 16))=bys (beN v 16):=by
   rw [zmq (by simp [eu])];simp [eu]
  have et:List.take 16 (beN v 16)=beN v 16:=ybc (by rw [eu];omega)
  simp only [go_sem,byq,ef,eu,et,e0]
  refine ⟨by simp,?_⟩
  exact Z2
def pD:List AV→AHeap→(AV→Prop)→Prop
 |[.agg [.int .u64 hi,.int .u64 lo]],_,K=>isV hi lo∧K (.slice .any 1 (bys (eQ (vOf hi.toNat lo.toNat))))
 |_,_,_=>False
theorem xf:EntOk Tryz.prog 238 (Ent.pure pD):=by
 refine Ype fun _ H K h=>?_
 unfold pD at h
 split at h
 rotate_left
 ·exact h.elim
 rename_i hi lo
 obtain ⟨⟨h0,h1,h2,h3⟩,hK⟩:=h
 refine ⟨_,hK,?_⟩
 obtain ⟨x,rfl⟩:=dM h0
 obtain ⟨y,rfl⟩:=dM h2
 clear hK h0 h2
 rw [iNq,iNq]
 have hx:x<2^64:=by omega
 have hy:y<2^64:=by omega
 refine ACalls.fW ag (tCq Fe (tCq DM tNq)) Tryz.func238 [.tmp 2] (nrq _) (T:=af []) (h:=fun hcl hlt=>?_)
 clear hlt
 have hv:=uF hx hy
 generalize hvo:vOf x y=v at hv ⊢
 have b1:bl v≤128:=bl_le.2 hv
 have w1:IntKind.i64.wrap (((bl v:Nat):Int)+7)=((bl v+7:Nat):Int):=by rw [wrap_i64]<;>omega
 have w2:IntKind.i64.wrap (((bl v+7:Nat):Int).tdiv 8)=(((bl v+7)/8:Nat):Int):=by
  rw [Int.tdiv_eq_ediv_of_nonneg (by omega),wrap_i64]<;>omega
 have w3:max (1:Int) (((bl v+7)/8:Nat):Int)=(eB v:Nat):=by unfold eB;omega
 have hle:=ol hv
 have w4:IntKind.i64.wrap (16 - ((eB v:Nat):Int))=((16 - eB v:Nat):Int):=by rw [wrap_i64]<;>omega
 have e0:splice (bys (List.replicate 16 0)) 0 (bys (beN v 16))=bys (beN v 16):=by
  rw [zmq (by simp [eu])];simp [eu]
 have e5:((16:Nat):Int) - ((16 - eB v:Nat):Int)=((eB v:Nat):Int):=by omega
 have e6:bM 1 (eB v) (bys ((beN v 16).drop (16 - eB v)))=bys (eQ v):=by
  rw [Ei v 16 _ hle,zmr (by rw [eu];exact nrq _),ybc (by rw [eu];exact nrq _)];rfl
 have e7:(eQ v).length=eB v:=eu _ _
 simp only [go_sem,zav,byq,wI,uf,isV,iNq,hvo,w1,w2,w3,w4,tk,eu,e0,e5,e6,e7,List.length_replicate]
 refine ⟨by omega,by omega,by decide,by omega,by omega,?_⟩
 exact Z2
theorem FZ:ti Tryz.prog 353=some ⟨.array 128 4,128,128,.agg (List.replicate 128 (.bool false))⟩:=by kernel_rfl
attribute [go_sem] FZ
def jh (v:Nat):List UInt8:=UInt8.ofNat (eB v)::eQ v
theorem lT (v:Nat):(eQ v).length=eB v:=eu _ _
def la:List AV→AHeap→(AV→Prop)→Prop
 |[.slice _ 1 l,.agg [.int .u64 hi,.int .u64 lo]],_,K=>(isV hi lo∧isB l∧l.length≤140737488000000)∧K (.slice .any 1 (bys (unb l++jh (vOf hi.toNat lo.toNat))))
 |_,_,_=>False
theorem qU:EntOk Tryz.prog 210 (Ent.pure la):=by
 refine Ype fun _ H K h=>?_
 unfold la at h
 split at h
 rotate_left
 ·exact h.elim
 rename_i m l hi lo
 obtain ⟨⟨⟨h0,h1,h2,h3⟩,c1,hle⟩,hK⟩:=h
 refine ⟨_,hK,?_⟩
 obtain ⟨x,rfl⟩:=dM h0
 obtain ⟨y,rfl⟩:=dM h2
 obtain ⟨xs,rfl⟩:=eU c1
 clear hK h0 h2
 simp only [zlz,zlk] at *
 rw [iNq,iNq]
 have hx:x<2^64:=by omega
 have hy:y<2^64:=by omega
 refine ACalls.fW ag (tCq mM (tCq xf tNq)) Tryz.func210 [.tmp 4] (nrq _) (T:=af []) (h:=fun hcl hlt=>?_)
 clear hlt
 have hv:=uF hx hy
 have hvl:=ol hv
 generalize hvo:vOf x y=v at hv hvl ⊢
 have w1:IntKind.u8.wrap ((eB v:Nat):Int)=((eB v:Nat):Int):=by rw [vB];omega
 have w2:AV.int .u8 ((eB v:Nat):Int)=aO (UInt8.ofNat (eB v)):=zE (by omega)
 have w3:UInt8.ofNat (eB v)::eQ v=jh v:=rfl
 simp only [go_sem,zav,byq,lh,pD,isV,iNq,hvo,lT,w1,w2]
 refine ⟨by omega,by omega,by first|omega|(simp only [lAq,yaz,yba,lT];omega),?_⟩
 have w4:UInt8.ofNat (eB v)::eQ v=jh v:=rfl
 have w5:[UInt8.ofNat (eB v)]++eQ v=jh v:=rfl
 first|rw [w4]|rw [w5]
 exact Z2
theorem cn (n w:Int):(fy n w).length≤4:=by
 unfold fy;split
 ·rw [lK];omega
 ·simp
end Go.AL
