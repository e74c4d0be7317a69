/- Lemmas of the proof; no condition. -/
import Derived.Test.YtjnhidpnfdbmaaaGreatLVal
import Derived.Test.YtjnhidpnfdbmaaaGreatAlBun
import Derived.Test.YtjnhidpnfdbmaaaGreatLSyn
set_option linter.all false
set_option maxRecDepth 10000
open Go Go.AL Go.Proofs
namespace Go.AL
theorem MW:tSl Tryz.prog 22 5:=kSl
theorem Q2:ti Tryz.prog 3=some ⟨.int .i64,1,8,.int .i64 0⟩:=krf
theorem ON:ti Tryz.prog 163=some ⟨.int .u64,1,8,.int .u64 0⟩:=krf
theorem Si:ti Tryz.prog 5=some ⟨.int .u8,1,1,.int .u8 0⟩:=krf
theorem OG:ti Tryz.prog 4=some ⟨.bool,1,1,.bool false⟩:=krf
theorem I1:ti Tryz.prog 9=some ⟨.string,1,16,.str []⟩:=krf
attribute [go_sem] MW Q2 ON Si OG I1
def Qh(n:Int)(j:Nat):UInt8:=UInt8.ofNat (oA .i64 n (8*(j:Int))%256).toNat
def Rf(n:Int)(w k:Nat):List UInt8:=(List.range (w-k)).map fun i=>Qh n (w-1-i)
def be(n:Int)(w:Nat):List UInt8:=Rf n w 0
theorem QF:ti Tryz.prog 27=some ⟨.int .u64,1,8,.int .u64 0⟩:=krf
theorem Rc:ti Tryz.prog 29=some ⟨.struct [(0,27,false),(1,27,false)],2,16,.agg [.int .u64 0,.int .u64 0]⟩:=krf
attribute [go_sem] QF Rc
def AU:PCt
 |[.int .u64 n],_,K=>(0≤n∧n<18446744073709551616)∧K (.int .i64 (bl n.toNat:Nat))
 |_,_,_=>False
def lenTab:List UInt8:=(List.range 256).map fun n=>UInt8.ofNat (bl n)
theorem JC:([0,1,2,2,3,3,3,3,4,4,4,4,4,4,4,4,5,5,5,5,5,5,5,5,5,5,5,5,5,5,5,5,6,6,6,6,6,6,6,6,6,6,6,6,6,6,6,6,6,6,6,6,6,6,6,6,6,6,6,6,6,6,6,6].append [7,7,7,7,7,7,7,7,7,7,7,7,7,7,7,7,7,7,7,7,7,7,7,7,7,7,7,7,7,7,7,7,7,7,7,7,7,7,7,7,7,7,7,7,7,7,7,7,7,7,7,7,7,7,7,7,7,7,7,7,7,7,7,7]).append ([8,8,8,8,8,8,8,8,8,8,8,8,8,8,8,8,8,8,8,8,8,8,8,8,8,8,8,8,8,8,8,8,8,8,8,8,8,8,8,8,8,8,8,8,8,8,8,8,8,8,8,8,8,8,8,8,8,8,8,8,8,8,8,8].append [8,8,8,8,8,8,8,8,8,8,8,8,8,8,8,8,8,8,8,8,8,8,8,8,8,8,8,8,8,8,8,8,8,8,8,8,8,8,8,8,8,8,8,8,8,8,8,8,8,8,8,8,8,8,8,8,8,8,8,8,8,8,8,8])=lenTab:=by decide +kernel
theorem EZ:lenTab.length=256:=by simp[lenTab]
theorem EG(n:Nat)(h:n<256):(lenTab.getD n 0).toNat=bl n:=by
 unfold lenTab
 rw[gEq,List.getElem?_map,List.getElem?_range h]
 have:bl n≤8:=bl_le.2 h
 simp only[yag,Option.getD_some]
 rw[UInt8.toNat_ofNat_of_lt' (by simp[UInt8.size];omega)]
theorem Il{m s:Nat}{H:AHeap}(hcl:H.Closed)(hm:m<2^64)(h:m >>> s<256)(hs:s=0∨2^s≤m) :
 (0≤IntKind.u8.wrap ((m >>> s:Nat):Int)∧IntKind.u8.wrap ((m >>> s:Nat):Int)<(lenTab.length:Int)) ∧
 af H (AV.int IntKind.i64 (IntKind.i64.wrap ((s:Int)+IntKind.i64.wrap ((lenTab.getD (IntKind.u8.wrap ((m >>> s:Nat):Int)).toNat 0).toNat:Int)))) H (AV.int IntKind.i64 (bl m:Nat)):=by
 have e:IntKind.u8.wrap ((m >>> s:Nat):Int)=((m >>> s:Nat):Int):=by
  have:IntKind.u8.wrap ((m >>> s:Nat):Int)=((m >>> s:Nat):Int)%256:=by simp[IntKind.wrap,IntKind.signed,IntKind.bits]
  rw[this]
  generalize m >>> s=x at h ⊢
  omega
 rw[e,EZ,iNq,EG _ h]
 refine⟨⟨Int.natCast_nonneg _,by generalize m >>> s=x at h ⊢;omega⟩,?_⟩
 have hb:bl m=s+bl (m >>> s):=by
  rcases hs with rfl|hs
  ·simp
  ·exact Dt m s hs
 have h8:bl (m >>> s)≤8:=bl_le.2 h
 have h64:bl m≤64:=bl_le.2 hm
 have e2:IntKind.i64.wrap ((bl (m >>> s):Nat):Int)=(bl (m >>> s):Nat):=Xe
 have e3:IntKind.i64.wrap ((s:Int)+(bl (m >>> s):Nat))=(bl m:Nat):=Xe
 rw[e2,e3]
 simp[af,wk,wk2,wk1,zmw,hcl,znf]
theorem MB:EPp 142 AU:=by
 refine Ype fun _ H K h=>?_
 unfold AU at h
 split at h<;>try exact h.elim
 rename_i n
 obtain⟨⟨h0,h1⟩,hK⟩:=h
 refine⟨_,hK,?_⟩
 obtain⟨m,rfl⟩:=bv h0
 clear hK h0
 rw[iNq]
 have hm:m<2^64:=Xa
 clear h1
 refine Yfu az tNq Tryz.func142 [.tmp 2] fun hcl=>?_
 have s32:∀ a:Nat,a<2^64→oA .u64 (a:Int) 32=((a >>> 32:Nat):Int):=fun a h=>ja a 32 h
 have s16:∀ a:Nat,a<2^64→oA .u64 (a:Int) 16=((a >>> 16:Nat):Int):=fun a h=>ja a 16 h
 have s8:∀ a:Nat,a<2^64→oA .u64 (a:Int) 8=((a >>> 8:Nat):Int):=fun a h=>ja a 8 h
 have q1:m >>> 32<2^64:=nk hm
 have q2:m >>> 16<2^64:=nk hm
 have q3:m >>> 32 >>> 16<2^64:=nk q1
 have w48:IntKind.i64.wrap 48=48:=Xc
 have w40:IntKind.i64.wrap 40=40:=Xc
 have w24:IntKind.i64.wrap 24=24:=Xc
 have w56:IntKind.i64.wrap (48+8)=56:=Xc
 have w56':IntKind.i64.wrap 56=56:=Xc
 have wn:∀ k:Nat,(0≤IntKind.u8.wrap ((m >>> k:Nat):Int))=True:=fun k=>eq_true (by simp[IntKind.wrap,IntKind.signed,IntKind.bits];try omega)
 have q4:m >>> 48<2^64:=nk hm
 simp only[go_sem,zav,byq,JC,s32,s16,s8,hm,q1,q2,q3,q4,w48,w40,w24,w56,w56',← Nat.shiftRight_add]
 have sr:∀ k:Nat,m >>> k=m/2^k:=fun k=>Nat.shiftRight_eq_div_pow m k
 have fin:=fun s=>@Il m s H hcl hm
 refine bx (fun t1=>⟨Xc,bx (fun t2=>⟨Xc,bx (fun t3=>⟨Xc,?_⟩) (fun t3=>?_)⟩) (fun t2=>bx (fun t3=>⟨Xc,?_⟩) (fun t3=>?_))⟩)
  (fun t1=>bx (fun t2=>⟨Xc,bx (fun t3=>⟨Xc,?_⟩) (fun t3=>?_)⟩) (fun t2=>bx (fun t3=>⟨Xc,?_⟩) (fun t3=>?_)))
 all_goals simp only[decide_eq_true_eq,decide_eq_false_iff_not,sr,ge_iff_le]at t1 t2 t3
 ·first|exact fin 56 (by rw[sr];omega) (.inr Xa)|exact⟨(fin 56 (by rw[sr];omega) (.inr Xa)).1.2,(fin 56 (by rw[sr];omega) (.inr Xa)).2⟩
 ·first|exact fin 48 (by rw[sr];omega) (.inr Xa)|exact⟨(fin 48 (by rw[sr];omega) (.inr Xa)).1.2,(fin 48 (by rw[sr];omega) (.inr Xa)).2⟩
 ·first|exact fin 40 (by rw[sr];omega) (.inr Xa)|exact⟨(fin 40 (by rw[sr];omega) (.inr Xa)).1.2,(fin 40 (by rw[sr];omega) (.inr Xa)).2⟩
 ·first|exact fin 32 (by rw[sr];omega) (.inr Xa)|exact⟨(fin 32 (by rw[sr];omega) (.inr Xa)).1.2,(fin 32 (by rw[sr];omega) (.inr Xa)).2⟩
 ·first|exact fin 24 (by rw[sr];omega) (.inr Xa)|exact⟨(fin 24 (by rw[sr];omega) (.inr Xa)).1.2,(fin 24 (by rw[sr];omega) (.inr Xa)).2⟩
 ·first|exact fin 16 (by rw[sr];omega) (.inr Xa)|exact⟨(fin 16 (by rw[sr];omega) (.inr Xa)).1.2,(fin 16 (by rw[sr];omega) (.inr Xa)).2⟩
 ·first|exact fin 8 (by rw[sr];omega) (.inr Xa)|exact⟨(fin 8 (by rw[sr];omega) (.inr Xa)).1.2,(fin 8 (by rw[sr];omega) (.inr Xa)).2⟩
 ·first|exact fin 0 (by rw[sr];omega) (.inl rfl)|exact⟨(fin 0 (by rw[sr];omega) (.inl rfl)).1.2,(fin 0 (by rw[sr];omega) (.inl rfl)).2⟩
def Cv:PCt
 |[.agg [.int .u64 hi,.int .u64 lo]],_,K=>(0≤hi∧hi<18446744073709551616∧0≤lo∧lo<18446744073709551616)∧K (.int .i64 (bl (vOf hi.toNat lo.toNat):Nat))
 |_,_,_=>False
theorem Ly:EPp 112 Cv:=by
 refine Ype fun _ H K h=>?_
 unfold Cv at h
 split at h<;>try exact h.elim
 rename_i hi lo
 obtain⟨⟨h0,h1,h2,h3⟩,hK⟩:=h
 refine⟨_,hK,?_⟩
 obtain⟨x,rfl⟩:=bv h0
 obtain⟨y,rfl⟩:=bv h2
 clear hK h0 h2
 rw[iNq,iNq]
 have hx:x<2^64:=Xa
 have hy:y<2^64:=Xa
 refine Yfu az (tCq MB tNq) Tryz.func112 [.tmp 2] fun hcl=>?_
 have b1:bl x≤64:=bl_le.2 hx
 have hw:IntKind.i64.wrap (64+((bl x:Nat):Int))=((64+bl x:Nat):Int):=Xe
 simp only[go_sem,zav,byq,AU,iNq,hw]
 rw[Qg hy]
 refine bx (fun t=>?_) (fun t=>?_)
 ·have t':x≠0:=by simpa using t
  rw[if_neg t']
  repeat refine⟨Xa,?_⟩
  exact Z0
 ·have t':x=0:=by simpa using t
  rw[if_pos t']
  repeat refine⟨Xa,?_⟩
  exact Z0
def isV(hi lo:Int):Prop:=0≤hi∧hi<18446744073709551616∧0≤lo∧lo<18446744073709551616
def xT:PCt
 |[.agg [.int .u64 hi,.int .u64 lo],.int .i64 n],_,K=>(isV hi lo∧n<9223372036854775808)∧K (vv (vOf hi.toNat lo.toNat >>> n.toNat))
 |_,_,_=>False
theorem IW:EPp 138 xT:=by
 refine Ype fun _ H K h=>?_
 unfold xT at h
 split at h<;>try exact h.elim
 rename_i hi lo n
 obtain⟨⟨⟨h0,h1,h2,h3⟩,hn⟩,hK⟩:=h
 refine⟨_,hK,?_⟩
 obtain⟨x,rfl⟩:=bv h0
 obtain⟨y,rfl⟩:=bv h2
 clear hK h0 h2
 rw[iNq,iNq]
 have hx:x<2^64:=Xa
 have hy:y<2^64:=Xa
 refine Yfu az tNq Tryz.func138 [.cell 4 29] fun hcl=>?_
 simp only[go_sem,zav,byq]
 refine bx (fun t=>?_) (fun t=>bx (fun s=>?_) (fun s=>?_))
 ·have t':n.toNat=0:=by simp at t;omega
  rw[t',Nat.shiftRight_zero,sO hy]
  exact Z0
 ·simp at t s
  obtain⟨m,rfl⟩:∃ m:Nat,n=m+64:=⟨(n-64).toNat,Xa⟩
  have e1:IntKind.i64.wrap ((m:Int)+64-64)=m:=Xe
  have e2:IntKind.u64.wrap (m:Int)=m:=Xl
  have e3:((m:Int)+64).toNat=m+64:=Xa
  have e4:vv (vOf x y >>> (m+64))=.agg [.int .u64 0,.int .u64 ((x >>> m:Nat):Int)]:=by
   rw[Ho x y _ hy hx Xa,Nat.add_sub_cancel]
   have:=sO (hi:=0) (lo:=x >>> m) (nk hx)
   simpa[vOf]using this
  rw[e3,e4,e1,e2,ja x m hx]
  repeat refine⟨Xa,?_⟩
  exact Z0
 ·simp at t s
  obtain⟨m,rfl⟩:∃ m:Nat,n=m:=⟨n.toNat,Xa⟩
  have hm:m<64:=Xa
  have e1:IntKind.i64.wrap (64-(m:Int))=((64-m:Nat):Int):=Xe
  have e2:IntKind.u64.wrap (m:Int)=m:=Xl
  have e3:IntKind.u64.wrap ((64-m:Nat):Int)=((64-m:Nat):Int):=Xl
  have e4:vv (vOf x y >>> m)=.agg [.int .u64 ((x >>> m:Nat):Int),.int .u64 (((y >>> m ||| (x <<<(64-m))%2^64:Nat)):Int)]:=by
   unfold vv
   rw[MM x y m hy,KR x y m hy hm]
  rw[e1,e2,e3,iNq,e4,ja x m hx,ja y m hy,nD,oM _ _ (nk hy) (Nat.mod_lt _ Xc)]
  repeat refine⟨Xa,?_⟩
  exact Z0
theorem Pm:ti Tryz.prog 236=some ⟨.array 128 4,128,128,.agg (List.replicate 128 (.bool false))⟩:=krf
attribute [go_sem] Pm
def tU:PCt
 |[.agg [.int .u64 hi,.int .u64 lo]],_,K=>isV hi lo∧K (.agg (bits (vOf hi.toNat lo.toNat)))
 |_,_,_=>False
theorem yL:EPp 159 tU:=by
 refine Ype fun _ H K h=>?_
 unfold tU at h
 exact V5
def Fl:PCt
 |[.agg [.int .u64 hi,.int .u64 lo]],_,K=>isV hi lo∧K (.int .i64 (bl (vOf hi.toNat lo.toNat):Nat))
 |_,_,_=>False
theorem OI:EPp 161 Fl:=by
 refine Ype fun _ H K h=>?_
 unfold Fl at h
 split at h<;>try exact h.elim
 rename_i hi lo
 obtain⟨⟨h0,h1,h2,h3⟩,hK⟩:=h
 refine⟨_,hK,?_⟩
 obtain⟨x,rfl⟩:=bv h0
 obtain⟨y,rfl⟩:=bv h2
 clear hK h0 h2
 rw[iNq,iNq]
 have hx:x<2^64:=Xa
 have hy:y<2^64:=Xa
 refine Yfu az (tCq yL tNq) Tryz.func161 [.tmp 2] fun hcl=>?_
 have hv:=lC hx hy
 generalize hvo:vOf x y=v at hv ⊢
 refine T33 ?_
 refine eZ (A:=Nat) (fun k=>[(3,.int .i64 ((k:Int)-1)),(1,.ptr H.nx 0)])
  (fun k=>(H.push (.cells [.int .u64 (x:Int),.int .u64 (y:Int)]))) (fun k=>k≤128∧∀ j,k≤j→v.testBit j=false) (fun k=>k) 128 ⟨Xa,fun j hj=>Nat.testBit_lt_two_pow (Nat.lt_of_lt_of_le hv (Nat.pow_le_pow_right Xc hj))⟩ ?_ fun k hk=>?_
 ·exact V148
 obtain⟨hk,hz⟩:=hk
 refine T33 ?_
 refine aq (fun hc=>?_) (fun hc=>?_)
 ·have hk0:1≤k:=sHc
  obtain⟨j,rfl⟩:∃ j,k=j+1:=⟨k-1,Xa⟩
  have e0:((j+1:Nat):Int)-1=(j:Int):=Xa
  have e1:IntKind.i64.wrap ((j:Int)-1)=(j:Int)-1:=Xe
  have e2:IntKind.i64.wrap ((j:Int)+1)=((j+1:Nat):Int):=Xe
  simp only[go_sem,byq,tU,isV,iNq,hvo,bJ,e0,Nat.mul_one,hU v j (Xa)]
  refine⟨Xa,Xa,aq (fun hb=>?_) (fun hb=>?_)⟩
  ·simp only[go_sem,zav,byq,e2]
   rw[QW hb fun i hi=>hz i (Xa)]
   exact Z0
  ·simp only[go_sem,byq,e1]
   refine⟨j,⟨Xa,fun i hi=>?_⟩,Xa,?_⟩
   ·by_cases h:i=j
    ·subst h;exact hb
    ·exact hz i Xa
   ·exact Z19
 ·have hk0:k=0:=sHc
  subst hk0
  have:v=0:=EO fun j=>hz j Xa
  subst this
  refine T33 ?_
  simp (disch:=first|exact Zd|omega) [↓zmo,beq,ybc,ybd,ybe,af,wk,wk2,wk1,wkM,wkL,aj,ybf,hcl,bl]
theorem KH:ti Tryz.prog 51=some ⟨.int .i64,1,8,.int .i64 0⟩:=krf
attribute [go_sem] KH
def p8:PCt
 |[.agg l],_,K=>uK l∧K (vv (lY l))
 |_,_,_=>False
theorem um:EPp 157 p8:=by
 refine Ype fun _ H K h=>?_
 unfold p8 at h
 split at h<;>try exact h.elim
 rename_i l
 obtain⟨c1,hK⟩:=h
 refine⟨_,hK,?_⟩
 obtain⟨v,rfl,hv⟩:=oH c1
 clear hK c1
 rw[dJ hv]
 have v1:vv v=.agg [.int .u64 ((v/2^64:Nat):Int),.int .u64 ((v%2^64:Nat):Int)]:=rfl
 have hbl:∀ i,i<64→(v%2^64).testBit i=v.testBit i:=fun i hi=>by rw[Nat.testBit_mod_two_pow];simp[hi]
 have hbh:∀ i,(v/2^64).testBit i=v.testBit (i+64):=fun i=>by rw[Nat.testBit_div_two_pow]
 have hx:v/2^64<2^64:=Xa
 have hy:v%2^64<2^64:=Xa
 rw[v1]
 generalize v/2^64=x at *
 generalize v%2^64=y at *
 clear v1
 refine Yfu az tNq Tryz.func157 [.cell 2 29] fun hcl=>?_
 refine T33 ?_
 refine eZ (A:=Nat) (fun k=>[(4,.int .i64 (k:Int)),(3,.ptr (H.nx+1+1) 0),(1,.ptr H.nx 0),(2,.ptr (H.nx+1) 0)])
  (fun k=>((H.push (.cells (bits v))).push (.cells [.int .u64 0,.int .u64 0])).push (.cells [.int .u64 ((x%2^k:Nat):Int),.int .u64 ((y%2^k:Nat):Int)])) (fun k=>k≤64) (fun k=>64-k) 0 Xa ?_ fun k hk=>?_
 ·exact Z20
 refine T33 ?_
 refine aq (fun hc=>?_) (fun hc=>?_)
 ·exact V7
 ·have hk:k=64:=sHc
  subst hk
  have m1:x%2^64=x:=Nat.mod_eq_of_lt hx
  have m2:y%2^64=y:=Nat.mod_eq_of_lt hy
  simp only[go_sem,byq,m1,m2]
  exact Z0
end Go.AL
