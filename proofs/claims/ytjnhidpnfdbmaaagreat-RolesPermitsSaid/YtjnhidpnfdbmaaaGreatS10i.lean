/- Lemmas of the proof; no condition. -/
import Derived.Test.YtjnhidpnfdbmaaaGreatS10e
import Derived.Test.YtjnhidpnfdbmaaaGreatLEntB
set_option linter.all false
set_option maxRecDepth 10000
set_option maxHeartbeats 32000000
open List renaming getD_cons_succ → yav
open Go Go.AL Go.Proofs
namespace Go.AL
theorem NV{hi lo k:Nat}(h:lo<2^64):vOf hi lo%2^(64+k)=vOf (hi%2^k) lo:=by
 unfold vOf
 rw[Nat.pow_add,Nat.mod_mul,show(2^64*hi+lo)%2^64=lo by omega,show(2^64*hi+lo)/2^64=hi by omega]
 omega
theorem Fz{hi lo k:Nat}(hk:k≤64):vOf hi lo%2^k=lo%2^k:=by
 unfold vOf
 rw[show(2:Nat)^64=2^k*2^(64-k) by rw[← Nat.pow_add];congr 1;omega,Nat.mul_assoc,Nat.mul_add_mod]
theorem ui{k:Nat}(h:k<64):zo .u64 1 (k:Int)=((2^k:Nat):Int):=by
 have:=nD 1 k
 rw[Nat.shiftLeft_eq,Nat.one_mul,Nat.mod_eq_of_lt (Nat.pow_lt_pow_right Xc h)]at this
 exact this
theorem rZ{k:Nat}(h:k<64):2^k<2^64:=Nat.pow_lt_pow_right Xc h
theorem nF{k:Nat}(h:k<64):IntKind.u64.wrap (((2^k:Nat):Int)-1)=((2^k-1:Nat):Int):=by
 have h1:=rZ h
 have h2:=Nat.two_pow_pos k
 generalize 2^k=p at *
 rw[c8]<;>omega
theorem D6{a k:Nat}(ha:a<2^64)(h:k<64):ul .u64 (a:Int) ((2^k-1:Nat):Int)=((a%2^k:Nat):Int):=by
 have h1:=rZ h
 rw[mw a _ ha (by have:=Nat.two_pow_pos k;omega),Nat.and_two_pow_sub_one_eq_mod]
def wv(hi lo:Int):Prop:=0≤hi∧hi<18446744073709551616∧0≤lo∧lo<18446744073709551616
def kB:PCt
 |[.agg [.int .u64 a,.int .u64 b],.int .i64 w],_,K=>(wv a b∧ -9223372036854775808≤w∧w<9223372036854775808)∧K (vv (low (vOf a.toNat b.toNat) w))
 |_,_,_=>False
theorem GT:EPp 60 kB:=by
 refine Ype fun _ H K h=>?_
 unfold kB at h
 split at h<;>try exact h.elim
 rename_i a b w
 obtain⟨⟨⟨h0,h1,h2,h3⟩,hw1,hw2⟩,hK⟩:=h
 refine⟨_,hK,?_⟩
 obtain⟨x,rfl⟩:=bv h0
 obtain⟨y,rfl⟩:=bv h2
 clear hK h0 h2
 simp only[iNq]
 have hx:x<2^64:=Xa
 have hy:y<2^64:=Xa
 unfold low
 rcases(Xa:128≤w∨(64≤w∧w<128)∨w≤0∨(0<w∧w<64))with h|h|h|h
 ·rw[if_pos h,sO hy]
  have d1:decide (w ≥ 128)=true:=dtq h
  refine Yfu az tNq Tryz.func60 [.cell 4 29] fun hcl=>?_
  simp only[go_sem,d1]
  exact Z0
 ·rw[if_neg (Xa)]
  obtain⟨k,rfl⟩:∃ k:Nat,w=k+64:=⟨(w-64).toNat,Xa⟩
  have hk:k<64:=Xa
  rw[show((k:Int)+64).toNat=64+k by omega,NV hy,sO hy]
  have d1:decide ((k:Int)+64 ≥ 128)=false:=dfq Xa
  have d2:decide ((k:Int)+64 ≥ 64)=true:=dtq Xa
  have e1:IntKind.i64.wrap ((k:Int)+64-64)=(k:Int):=Xe
  have e2:IntKind.u64.wrap (k:Int)=(k:Int):=Xl
  refine Yfu az tNq Tryz.func60 [.cell 4 29] fun hcl=>?_
  simp only[go_sem,d1,d2,e1,e2,ui hk,nF hk,D6 hx hk]
  refine T0 ?_
  exact Z0
 ·rw[if_neg Xa,show w.toNat=0 by omega,Nat.pow_zero,Nat.mod_one]
  have v0:vv 0=.agg [.int .u64 0,.int .u64 0]:=rfl
  have d1:decide (w ≥ 128)=false:=dfq Xa
  have d2:decide (w ≥ 64)=false:=dfq Xa
  have d3:decide (w≤0)=true:=dtq Xa
  refine Yfu az tNq Tryz.func60 [.cell 4 29] fun hcl=>?_
  simp only[go_sem,d1,d2,d3,v0]
  exact Z0
 ·rw[if_neg (Xa)]
  obtain⟨k,rfl⟩:∃ k:Nat,w=k:=⟨w.toNat,Xa⟩
  have hk:k<64:=Xa
  rw[iNq,Fz (Xa)]
  have v0:vv (y%2^k)=.agg [.int .u64 0,.int .u64 ((y%2^k:Nat):Int)]:=by
   have:=sO (hi:=0) (lo:=y%2^k) (Nat.lt_of_le_of_lt (Nat.mod_le _ _) hy)
   simpa[vOf]using this
  have d1:decide ((k:Int) ≥ 128)=false:=dfq Xa
  have d2:decide ((k:Int) ≥ 64)=false:=dfq Xa
  have d3:decide ((k:Int)≤0)=false:=dfq Xa
  have e2:IntKind.u64.wrap (k:Int)=(k:Int):=Xl
  refine Yfu az tNq Tryz.func60 [.cell 4 29] fun hcl=>?_
  simp only[go_sem,d1,d2,d3,e2,ui hk,nF hk,D6 hy hk,v0]
  refine T0 ?_
  exact Z0
def AQ:PCt
 |[.int .i64 w,.int .i64 n],_,K=>(1≤n∧n≤w∧w≤63)∧K (.agg [.int .u64 0,.int .u64 ((rG w n:Nat):Int)])
 |_,_,_=>False
theorem KS:EPp 101 AQ:=by
 refine Ype fun _ H K h=>?_
 unfold AQ at h
 split at h<;>try exact h.elim
 rename_i w n
 obtain⟨⟨h1,h2,h3⟩,hK⟩:=h
 refine⟨_,hK,?_⟩
 clear hK
 obtain⟨w,rfl⟩:∃ k:Nat,w=k:=⟨w.toNat,Xa⟩
 obtain⟨n,rfl⟩:∃ k:Nat,n=k:=⟨n.toNat,Xa⟩
 have hw:w<64:=Xa
 have hk:w-n<64:=Xa
 have e1:IntKind.i64.wrap ((w:Int)-(n:Int))=((w-n:Nat):Int):=Xe
 have e2:IntKind.u64.wrap (w:Int)=(w:Int):=Xl
 have e3:IntKind.u64.wrap ((w-n:Nat):Int)=((w-n:Nat):Int):=Xl
 have e4:IntKind.u64.wrap (((2^w-1:Nat):Int)-((2^(w-n)-1:Nat):Int))=((2^w-2^(w-n):Nat):Int):=by
  have q1:=rZ hw
  have q2:=Nat.two_pow_pos (w-n)
  have q3:2^(w-n)≤2^w:=Nat.pow_le_pow_right Xc Xa
  generalize 2^w=p at *
  generalize 2^(w-n)=q at *
  rw[c8]<;>omega
 have e5:rG (w:Int) (n:Int)=2^w-2^(w-n):=by
  unfold rG
  rw[iNq,show((w:Int)-(n:Int)).toNat=w-n by omega]
 rw[e5]
 refine Yfu az tNq Tryz.func101 [.cell 4 29] fun hcl=>?_
 simp only[go_sem,e1,e2,e3,ui hw,ui hk,nF hw,nF hk,e4]
 refine T0 ?_
 exact Z0
theorem bf{α:Type}{f:α→AV}{l:List α}{k:Nat}{x:α}(hx:l[k]?=some x):(l.map f).getD k .junk=f x:=by
 rw[gEq,List.getElem?_map,hx];rfl
def ig:PCt
 |[.agg l,.int .i64 id],_,K=>∃ S:Sch,(l=bb S∧S.fields.length≤1000000)∧K (.int .i64 (cV S id))
 |_,_,_=>False
theorem F1:EPp 100 ig:=by
 refine Ype fun _ H K h=>?_
 unfold ig at h
 split at h<;>try exact h.elim
 rename_i l id
 obtain⟨S,⟨rfl,hl⟩,hK⟩:=h
 refine⟨_,hK,?_⟩
 clear hK
 generalize hR:cV S id=R
 unfold cV at hR
 refine Yfu az tNq Tryz.func100 [.tmp 4] fun hcl=>?_
 simp only[go_sem,bb,ybb]
 refine aA (A:=Nat) (fun k=>[(1,.int .i64 id),(8,.slice .any 3 (S.fields.map cD)),(9,.int .i64 (S.fields.length:Int)),(10,.int .i64 (k:Int))]) (fun _=>H) (fun k=>k≤S.fields.length∧iw (S.fields.drop k) id=R) (fun k=>S.fields.length-k) 0 ⟨Xa,hR⟩ ?_ fun k hk=>?_
 ·refine⟨nrq _,(lRq _).push _,hcl,?_,?_⟩
  ·simp[ltF,znf,bk qe]
  ·exact V8
 clear hR
 obtain⟨hk,hR⟩:=hk
 refine T9 ?_
 refine aq (fun hc=>?_) (fun hc=>?_)
 ·have hk':k<S.fields.length:=sHc
  obtain⟨x,hx⟩:∃ x,x=S.fields[k]:=⟨_,rfl⟩
  have hd:S.fields.drop k=x::S.fields.drop (k+1):=by rw[hx];exact dcq hk'
  have hg:=bf (f:=cD) (l:=S.fields) (k:=k) (x:=x) (by rw[gQq hk',hx])
  have e5:=Yk5 k
  rw[hd]at hR
  unfold iw at hR
  by_cases he:x.id=id
  ·rw[if_pos he]at hR
   subst he
   simp only[go_sem,iNq,ybb,hg,cD,beq_self_eq_true,hR]
   refine T0 ?_
   exact Z0
  ·rw[if_neg he]at hR
   have d1:(x.id==id)=false:=by simpa using he
   simp only[go_sem,iNq,ybb,hg,cD,d1,e5]
   refine T0 ?_
   refine⟨k+1,⟨Xa,hR⟩,Xa,nrq _,(lRq _).push _,hcl,?_,?_⟩
   ·simp[ltF,znf,bk qe]
   ·exact V8
 ·have hk':k=S.fields.length:=sHc
  subst hk'
  rw[List.drop_length]at hR
  unfold iw at hR
  simp only[go_sem,hR]
  exact Z0
def ld:PCt
 |[.agg l,.int .i64 id],_,K=>∃ S:Sch,(l=bb S∧S.actions.length≤1000000)∧K (bu (gO S.actions id))
 |_,_,_=>False
theorem Bi:EPp 59 ld:=by
 refine Ype fun _ H K h=>?_
 unfold ld at h
 split at h<;>try exact h.elim
 rename_i l id
 obtain⟨S,⟨rfl,hl⟩,hK⟩:=h
 refine⟨_,hK,?_⟩
 clear hK
 generalize hR:gO S.actions id=R
 refine Yfu az tNq Tryz.func59 [.cell 4 107] fun hcl=>?_
 simp only[go_sem,bb,ybb]
 have hcz:((H.push (.cells (bb S))).push (.cells [.int .i64 0,.str [],.slice .nil 1 [],.slice .nil 1 [],.str []])).Closed :=
  aa (aa hcl (ltL_iff.2 fun j hj=>AV.lt_cells (u7 S) j hj)) (by simp[znu,znv,znf,znh,aN])
 refine aA (A:=Nat) (fun k=>[(1,.int .i64 id),(4,.ptr (H.nx+1) 0),(8,.slice .any 5 (S.actions.map bu)),(9,.int .i64 (S.actions.length:Int)),(10,.int .i64 (k:Int))]) (fun _=>(H.push (.cells (bb S))).push (.cells [.int .i64 0,.str [],.slice .nil 1 [],.slice .nil 1 [],.str []])) (fun k=>k≤S.actions.length∧gO (S.actions.drop k) id=R) (fun k=>S.actions.length-k) 0 ⟨Xa,hR⟩ ?_ fun k hk=>?_
 ·refine⟨by simp only[zle,zkq,zkv];omega,lRq _,hcz,?_,?_⟩
  ·simp[ltF,znf,znn,zle,bk kh]
  ·exact V8
 clear hR
 obtain⟨hk,hR⟩:=hk
 refine T9 ?_
 refine aq (fun hc=>?_) (fun hc=>?_)
 ·have hk':k<S.actions.length:=sHc
  obtain⟨x,hx⟩:∃ x,x=S.actions[k]:=⟨_,rfl⟩
  have hd:S.actions.drop k=x::S.actions.drop (k+1):=by rw[hx];exact dcq hk'
  have hg:=bf (f:=bu) (l:=S.actions) (k:=k) (x:=x) (by rw[gQq hk',hx])
  have e5:=Yk5 k
  rw[hd]at hR
  unfold gO at hR
  by_cases he:x.id=id
  ·rw[if_pos he]at hR
   subst he
   subst hR
   simp only[go_sem,iNq,ybb,hg,bu,beq_self_eq_true]
   refine T0 ?_
   have:=kh (n:=H.nx) x
   simp only[bu]at this
   simp (disch:=first|exact Zd|omega) [↓zmo,beq,ybc,ybd,ybe,af,wk,wk2,wk1,wkM,wkL,aj,ybf,hcl,this]
  ·rw[if_neg he]at hR
   have d1:(x.id==id)=false:=by simpa using he
   simp only[go_sem,iNq,ybb,hg,bu,d1,e5]
   refine T0 ?_
   refine⟨k+1,⟨Xa,hR⟩,Xa,Xg,(lRq _).push _,hcz,?_,?_⟩
   ·simp[ltF,znf,znn,zle,bk kh]
   ·simp[aJ,wk2,wk1,wkM,Fr.get,bu]
 ·have hk':k=S.actions.length:=sHc
  subst hk'
  rw[List.drop_length]at hR
  unfold gO at hR
  subst hR
  simp only[go_sem,bu,yaf]
  exact Z0
def qH(w kind:Int):List UInt8→Nat→AV × Nat:=fun b v=>(aP (cS b v w kind).1,(cS b v w kind).2)
theorem MH{b:List UInt8}{v:Nat}:sY b (min v b.length)=sY b v:=by unfold sY;simp only[dB,bT]
theorem CR{b:List UInt8}{v k:Nat}{w:Int}:ve b (min v b.length+k) w=ve b (v+k) w:=by unfold ve ci;simp only[Nat.add_assoc,dB]
theorem zy{b:List UInt8}{v k:Nat}:pi b (min v b.length+k)=pi b (v+k):=by unfold pi;simp only[Nat.add_assoc,dB]
theorem tW(w kind:Int):sn (qH w kind):=fun b v=>by
 unfold qH cS
 simp only[MH,CR,zy,dB]
 by_cases h2:kind=2
 ·simp only[if_pos h2]
  by_cases h:0<cv b (v+3) 5
  ·simp only[if_pos h];first|exact⟨rfl,6,rfl,rfl⟩|exact⟨trivial,6,rfl,rfl⟩
  ·simp only[if_neg h];first|exact⟨rfl,4,rfl,rfl⟩|exact⟨trivial,4,rfl,rfl⟩
 by_cases h3:kind=3
 ·simp only[if_neg h2,if_pos h3]
  split<;>first|exact⟨rfl,5,rfl,rfl⟩|exact⟨trivial,5,rfl,rfl⟩
 by_cases h4:kind=4
 ·simp only[if_neg h2,if_neg h3,if_pos h4]
  split<;>first|exact⟨rfl,5,rfl,rfl⟩|exact⟨trivial,5,rfl,rfl⟩
 ·simp only[if_neg h2,if_neg h3,if_neg h4]
  first|exact⟨rfl,3,rfl,rfl⟩|exact⟨trivial,3,rfl,rfl⟩
def Dr:ECt
 |[.ptr id 0,.agg l,.agg [.str nm,.int .i64 fld,.int .i64 kind]],H,K=>∃ S:Sch,(l=bb S∧S.fields.length≤1000000∧1≤cV S fld∧cV S fld≤32∧(kind=2→16≤cV S fld)) ∧
   onS (H.get id) (qH (cV S fld) kind) fun x o=>K (.ret x) (H.set id o)
 |_,_,_=>False
theorem My{x:Nat}(h:x<2^64):vv x=.agg [.int .u64 0,.int .u64 (x:Int)]:=by
 unfold vv
 rw[Nat.div_eq_of_lt h,Nat.mod_eq_of_lt h];rfl
theorem iD(x:Nat):vOf 0 x=x:=by unfold vOf;omega
theorem s9{x:Nat}{w:Int}(h1:1≤w)(h2:w≤32):low x w<2^32:=by
 unfold low
 rw[if_neg (Xa)]
 exact Nat.lt_of_lt_of_le (Nat.mod_lt _ (Nat.two_pow_pos _)) (Nat.pow_le_pow_right Xc Xa)
theorem Ka{b:List UInt8}{u:Nat}{w:Int}:([.int .i64 w,.int .i64 8,.int .i64 16,.int .i64 1,.int .i64 (1+((cv b (cp u 0) w.toNat:Nat):Int))]:List AV).getD (cv b (cp u 1) 5) .junk=.int .i64 (ve b u w):=by
 have h:=eW (b:=b) (v:=u+1) (n:=5) Xc
 unfold ve cp ci
 exact V108
theorem GU{b:List UInt8}{u:Nat}{w:Int}(h1:16≤w):1≤ve b u w∧ve b u w≤w:=by
 have h:=eW (b:=b) (v:=u+1) (n:=5) Xc
 have h':=eW (b:=b) (v:=u) (n:=w.toNat) Xa
 unfold ve ci
 exact V104
theorem Jp{b:List UInt8}{u:Nat}:([.int .i64 255,.int .i64 15,.int .i64 1,.int .i64 12,.int .i64 ((cv b (cp u 0) 256:Nat):Int)]:List AV).getD (cv b (cp u 1) 5) .junk=.int .i64 ((pi b u:Nat):Int):=by
 have h:=eW (b:=b) (v:=u+1) (n:=5) Xc
 unfold pi cp
 exact V108
theorem J2{b:List UInt8}{u:Nat}:pi b u<256:=by
 have h:=eW (b:=b) (v:=u+1) (n:=5) Xc
 have h':=eW (b:=b) (v:=u) (n:=256) Xc
 unfold pi
 exact V104
theorem Of{b:List UInt8}{v:Nat}:sY b v<2^32:=by
 unfold sY
 refine Nat.or_lt_two_pow (Nat.or_lt_two_pow ?_ ?_) ?_
 ·have:=eW (b:=b) (v:=v) (n:=256) Xc
  rw[Nat.shiftLeft_eq];omega
 ·have:=eW (b:=b) (v:=v+1) (n:=16) Xc
  rw[Nat.shiftLeft_eq];omega
 ·have:=eW (b:=b) (v:=v+2) (n:=16) Xc
  omega
theorem M9{w n:Int}(h:w≤32):rG w n<2^33:=by
 unfold rG
 have:2^w.toNat≤2^32:=Nat.pow_le_pow_right Xc Xa
 have:=Nat.sub_le (2^w.toNat) (2^(w-n).toNat)
 omega
theorem Bk{p:Prop}[Decidable p]{t:Bool}(h:decide p=t):p=(t=true):=by subst h;simp
theorem Jn:EEe 58 Dr:=by
 refine Yef fun _ H K h=>?_
 unfold Dr at h
 split at h<;>try exact h.elim
 rename_i id l nm fld kind
 obtain⟨S,⟨rfl,hf,hw1,hw2,hk2⟩,h⟩:=h
 generalize hwo:cV S fld=w at *
 obtain⟨w,rfl⟩:∃ k:Nat,w=k:=⟨w.toNat,Xa⟩
 unfold onS at h
 obtain⟨b,v,hg,hb,hv,hK⟩:=jL h
 refine⟨_,_,hK,?_⟩
 clear hK h
 unfold qH
 dsimp only
 generalize hr:cS b v w kind=r
 obtain⟨m,p⟩:=r
 dsimp only
 refine Yfw az (tCq jG (tCq F1 (tCq GT (tCq KS tNq)))) Tryz.func58 [.cell 6 47] (nrq _) (T:=ay [(8,[[],[],[],[],[],[],[],[],[],[],[2,5]]),(14,[[],[],[],[],[3]])]) (h:=fun hcl=>?_)
 have hid:=glq hg
 have hne:=gH hid
 have hgc:=lv (b:=b) hid
 have hcl2:∀ w,(H.set id (dV b w)).Closed:=fun w=>ai hcl ef
 have e256:(256:Int).toNat=256:=rfl
 have e16:(16:Int).toNat=16:=rfl
 have e5:(5:Int).toNat=5:=rfl
 have c256:∀ u,cv b u 256<256:=fun u=>eW Xc
 have c16:∀ u,cv b u 16<16:=fun u=>eW Xc
 have c5:∀ u,cv b u 5<5:=fun u=>eW Xc
 have u256:∀ u,IntKind.u64.wrap ((cv b u 256:Nat):Int)=((cv b u 256:Nat):Int):=fun u=>by have:=c256 u;rw[c8 Xa (Xa)]
 have u16:∀ u,IntKind.u64.wrap ((cv b u 16:Nat):Int)=((cv b u 16:Nat):Int):=fun u=>by have:=c16 u;rw[c8 Xa (Xa)]
 have s24:∀ u,zo .u64 ((cv b u 256:Nat):Int) 24=((cv b u 256 <<<24:Nat):Int):=fun u=>by
  have:=c256 u
  have e:=nD (cv b u 256) 24
  rw[Nat.mod_eq_of_lt (by rw[Nat.shiftLeft_eq];omega)]at e
  exact e
 have s8:∀ u,zo .u64 ((cv b u 16:Nat):Int) 8=((cv b u 16 <<<8:Nat):Int):=fun u=>by
  have:=c16 u
  have e:=nD (cv b u 16) 8
  rw[Nat.mod_eq_of_lt (by rw[Nat.shiftLeft_eq];omega)]at e
  exact e
 have l24:∀ u,cv b u 256 <<<24<2^64:=fun u=>by have:=c256 u;rw[Nat.shiftLeft_eq];omega
 have l8:∀ u,cv b u 16 <<<8<2^64:=fun u=>by have:=c16 u;rw[Nat.shiftLeft_eq];omega
 have o1:∀ u u',ior .u64 ((cv b u 256 <<<24:Nat):Int) ((cv b u' 16 <<<8:Nat):Int)=((cv b u 256 <<<24 ||| cv b u' 16 <<<8:Nat):Int):=fun u u'=>oM _ _ (l24 u) (l8 u')
 have o2:∀ u u' u'',ior .u64 ((cv b u 256 <<<24 ||| cv b u' 16 <<<8:Nat):Int) ((cv b u'' 16:Nat):Int)=((cv b u 256 <<<24 ||| cv b u' 16 <<<8 ||| cv b u'' 16:Nat):Int):=fun u u' u''=>oM _ _ (Nat.or_lt_two_pow (l24 u) (l8 u')) (by have:=c16 u'';omega)
 have hN:(cv b (cp v 0) 256 <<<24 ||| cv b (cp v 1) 16 <<<8 ||| cv b (cp v 2) 16)=sY b v:=rfl
 have hNl:=Of (b:=b) (v:=v)
 have hXl:=s9 (x:=sY b v) hw1 hw2
 have hvv:∀ x:Nat,x<2^32→vv x=.agg [.int .u64 0,.int .u64 (x:Int)]:=fun x hx=>My Xa
 simp only[go_sem,bD,ig,kB,wv,bb,hg,hgc,bB hb,bT,bq,ce,hne,e256,e16,e5,u256,u16,s24,s8,o1,o2,hN,iNq,Int.toNat_zero,iD]
 refine T0 ?_
 refine⟨S,⟨rfl,hf⟩,?_⟩
 rw[hwo]
 simp only[bn,aF,bhq,go_sem,bD,ig,kB,wv,bb,hg,hgc,bB hb,bT,bq,ce,hne,e256,e16,e5,u256,u16,s24,s8,o1,o2,hN,iNq,Int.toNat_zero,iD,hvv _ hXl]
 refine T0 ?_
 have hX64:low (sY b v) (w:Int)<2^64:=Xa
 have i5:∀ u,(0≤((cv b u 5:Nat):Int)∧((cv b u 5:Nat):Int)<((5:Nat):Int))=True:=fun u=>Kf Xc
 have zm:aP cC=.agg [.bool false,.int .u64 0,.int .u64 0,.int .u64 0,.int .u64 0,.int .i64 0,.int .u64 0,.int .u64 0]:=rfl
 have v0:vc 0=[.int .u64 0,.int .u64 0]:=rfl
 generalize hX:low (sY b v) (w:Int)=X at *
 unfold cS at hr
 dsimp only at hr
 rw[hX]at hr
 by_cases q2:kind=2
 ·subst q2
  have hw16:=hk2 rfl
  rw[if_pos rfl]at hr
  obtain⟨p1,p2⟩:=GU (b:=b) (u:=v+4) hw16
  have pg:([.int .i64 (w:Int),.int .i64 8,.int .i64 16,.int .i64 1,.int .i64 (1+((cv b (cp v 4) w:Nat):Int))]:List AV).getD (cv b (cp v 5) 5) .junk=.int .i64 (ve b (v+4) (w:Int)):=Ka (u:=v+4) (w:=(w:Int))
  have pl:cv b (cp v 4) w<w:=eW Xa
  have pw:IntKind.i64.wrap (1+((cv b (cp v 4) w:Nat):Int))=1+((cv b (cp v 4) w:Nat):Int):=Xe
  have hM:=M9 (w:=(w:Int)) (n:=ve b (v+4) (w:Int)) hw2
  generalize ve b (v+4) (w:Int)=n at *
  have ia:ul .u64 (X:Int) ((rG (w:Int) n:Nat):Int)=((X&&&rG (w:Int) n:Nat):Int):=mw _ _ hX64 Xa
  have iv:vc (X&&&rG (w:Int) n)=[.int .u64 0,.int .u64 ((X&&&rG (w:Int) n:Nat):Int)]:=i0 (Nat.lt_of_le_of_lt Nat.and_le_left hX64)
  by_cases h5:0<cv b (v+3) 5
  ·rw[if_pos h5]at hr
   cases hr
   have d1:decide (((cv b (cp v 3) 5:Nat):Int)>0)=true:=dtq (by unfold cp;omega)
   simp only[bn,aF,bhq,go_sem,bD,ig,kB,wv,bb,hg,hgc,bB hb,bT,bq,ce,hne,e256,e16,e5,u256,u16,s24,s8,o1,o2,hN,iNq,Int.toNat_zero,iD,hvv _ hXl,beq_self_eq_true,d1,pw,i5,pg,AQ,ia,aP,bQ,iv,v0,yal,yak]
   refine T0 ?_
   simp (disch:=first|exact Zd|omega) [↓zmo,beq,ybc,ybd,ybe,af,wk,wk2,wk1,wkM,wkL,aj,ybf,hcl2]
   exact V9
  ·rw[if_neg h5]at hr
   cases hr
   have d1:decide (((cv b (cp v 3) 5:Nat):Int)>0)=false:=dfq (by unfold cp;omega)
   simp only[bn,aF,bhq,go_sem,bD,ig,kB,wv,bb,hg,hgc,bB hb,bT,bq,ce,hne,e256,e16,e5,u256,u16,s24,s8,o1,o2,hN,iNq,Int.toNat_zero,iD,hvv _ hXl,beq_self_eq_true,d1,zm]
   refine T0 ?_
   simp (disch:=first|exact Zd|omega) [↓zmo,beq,ybc,ybd,ybe,af,wk,wk2,wk1,wkM,wkL,aj,ybf,hcl2]
   exact V9
 rw[if_neg q2]at hr
 have k2:(kind==2)=false:=by simpa using q2
 by_cases q3:kind=3
 ·subst q3
  rw[if_pos rfl]at hr
  have pg:([.int .i64 255,.int .i64 15,.int .i64 1,.int .i64 12,.int .i64 ((cv b (cp v 3) 256:Nat):Int)]:List AV).getD (cv b (cp v 4) 5) .junk=.int .i64 ((pi b (v+3):Nat):Int):=Jp (u:=v+3)
  have hMl:=J2 (b:=b) (u:=v+3)
  generalize pi b (v+3)=g at *
  have ug:IntKind.u64.wrap (g:Int)=(g:Int):=Xl
  have hYl:=s9 (x:=g) hw1 hw2
  have hYv:=hvv _ hYl
  obtain⟨Y,hY⟩:∃ Y,low g (w:Int)=Y:=⟨_,rfl⟩
  rw[hY]at hYl hYv hr
  have ia:ul .u64 (X:Int) (Y:Int)=((X&&&Y:Nat):Int):=mw _ _ hX64 Xa
  have iv:vc (X&&&Y)=[.int .u64 0,.int .u64 ((X&&&Y:Nat):Int)]:=i0 (Nat.lt_of_le_of_lt Nat.and_le_left hX64)
  have iv2:vc Y=[.int .u64 0,.int .u64 (Y:Int)]:=i0 Xa
  by_cases h5:Y≠0
  ·rw[if_pos h5]at hr
   cases hr
   have d1:((Y:Int) !=0)=true:=by simpa using h5
   simp only[bn,aF,bhq,go_sem,bD,ig,kB,wv,bb,hg,hgc,bB hb,bT,bq,ce,hne,e256,e16,e5,u256,u16,s24,s8,o1,o2,hN,iNq,Int.toNat_zero,iD,hvv _ hXl,k2,beq_self_eq_true,d1,i5,pg,ug,hY,hYv,ia,aP,bQ,iv,iv2,v0,yal,yak]
   refine T0 ?_
   simp (disch:=first|exact Zd|omega) [↓zmo,beq,ybc,ybd,ybe,af,wk,wk2,wk1,wkM,wkL,aj,ybf,hcl2]
   exact V9
  ·rw[if_neg h5]at hr
   cases hr
   have d1:((Y:Int) !=0)=false:=by simpa using h5
   simp only[bn,aF,bhq,go_sem,bD,ig,kB,wv,bb,hg,hgc,bB hb,bT,bq,ce,hne,e256,e16,e5,u256,u16,s24,s8,o1,o2,hN,iNq,Int.toNat_zero,iD,hvv _ hXl,k2,beq_self_eq_true,d1,i5,pg,ug,hY,hYv,zm]
   refine T0 ?_
   simp (disch:=first|exact Zd|omega) [↓zmo,beq,ybc,ybd,ybe,af,wk,wk2,wk1,wkM,wkL,aj,ybf,hcl2]
   exact V9
 rw[if_neg q3]at hr
 have k3:(kind==3)=false:=by simpa using q3
 have iv2:vc X=[.int .u64 0,.int .u64 (X:Int)]:=i0 hX64
 by_cases q4:kind=4
 ·subst q4
  rw[if_pos rfl]at hr
  have uw:IntKind.u64.wrap (w:Int)=(w:Int):=Xl
  have hw64:w<64:=Xa
  have c9:=c256 (cp v 3)
  have ws:IntKind.u64.wrap ((X:Int)+((cv b (cp v 3) 256:Nat):Int))=((X+cv b (cp v 3) 256:Nat):Int):=Xl
  have mn:min (((X+cv b (cp v 3) 256:Nat):Int)) (((2^w-1:Nat):Int))=((rO X (cv b (cp v 3) 256) (w:Int):Nat):Int):=by
   unfold rO;rw[iNq];omega
  have hHl:rO X (cv b (cp v 3) 256) (w:Int)<2^64:=by
   unfold rO;omega
  have hHc:rO X (cv b (v+3) 256) (w:Int)=rO X (cv b (cp v 3) 256) (w:Int):=rfl
  rw[hHc,iNq]at hr
  clear hHc
  generalize rO X (cv b (cp v 3) 256) (w:Int)=Z at *
  have iv3:vc Z=[.int .u64 0,.int .u64 (Z:Int)]:=i0 hHl
  have kk2:((4:Int)==2)=false:=rfl
  have kk3:((4:Int)==3)=false:=rfl
  have dz:((X:Int)==0)=decide (X=0):=by rw[Bool.eq_iff_iff];simp
  have dh:((Z:Int)==((2^w-1:Nat):Int))=decide (Z=2^w-1):=by rw[Bool.eq_iff_iff];simp only[beq_iff_eq,decide_eq_true_eq];omega
  have dc:decide (((cv b (cp v 4) 5:Nat):Int)>0)=decide (0<cv b (v+4) 5):=by rw[decide_eq_decide];unfold cp;omega
  cases hz:((X:Int)==0)<;>cases hh:((Z:Int)==((2^w-1:Nat):Int))<;>cases hcv:decide (((cv b (cp v 4) 5:Nat):Int)>0)
  all_goals
   have g1:=Bk (dc.symm.trans hcv)
   have g2:=Bk (dz.symm.trans hz)
   have g3:=Bk (dh.symm.trans hh)
   simp only[g1,g2,g3,Bool.false_eq_true,not_true_eq_false,nFq,and_self,and_true,and_false,true_and,false_and,if_true,if_false]at hr
   cases hr
  all_goals
   simp only[bn,aF,bhq,go_sem,bD,ig,kB,wv,bb,hg,hgc,bB hb,bT,bq,ce,hne,e256,e16,e5,u256,u16,s24,s8,o1,o2,hN,iNq,Int.toNat_zero,iD,hvv _ hXl,kk2,kk3,beq_self_eq_true,uw,ws,ui hw64,nF hw64,mn,hz,hh,hcv,↓zm,aP,bQ,iv2,iv3,v0,yal,yak,Bool.not_true,Bool.not_false]
   refine T0 ?_
   simp (disch:=first|exact Zd|omega) [↓zmo,beq,ybc,ybd,ybe,af,wk,wk2,wk1,wkM,wkL,aj,ybf,hcl2]
   first|done|repeat first|exact .refl _|refine .push ?_ _
 rw[if_neg q4]at hr
 cases hr
 have k4:(kind==4)=false:=by simpa using q4
 simp only[bn,aF,bhq,go_sem,bD,ig,kB,wv,bb,hg,hgc,bB hb,bT,bq,ce,hne,e256,e16,e5,u256,u16,s24,s8,o1,o2,hN,iNq,Int.toNat_zero,iD,hvv _ hXl,k2,k3,k4,aP,bQ,iv2,v0,yal,yak]
 refine T0 ?_
 simp (disch:=first|exact Zd|omega) [↓zmo,beq,ybc,ybd,ybe,af,wk,wk2,wk1,wkM,wkL,aj,ybf,hcl2]
 exact V9
theorem H6{b:List UInt8}{v k:Nat}:sY b (min v b.length+k)=sY b (v+k):=by unfold sY;simp only[Nat.add_assoc,dB]
theorem EM{b:List UInt8}{v k:Nat}{w kind:Int}:(cS b (min v b.length+k) w kind).1=(cS b (v+k) w kind).1∧∃ c,(cS b (min v b.length+k) w kind).2=min v b.length+c∧(cS b (v+k) w kind).2=v+c:=by
 unfold cS
 simp only[H6,Nat.add_assoc,CR,zy,dB]
 by_cases h2:kind=2
 ·simp only[if_pos h2]
  by_cases h:0<cv b (v+(k+3)) 5
  ·simp only[if_pos h];exact⟨trivial,_,rfl,rfl⟩
  ·simp only[if_neg h];exact⟨trivial,_,rfl,rfl⟩
 by_cases h3:kind=3
 ·simp only[if_neg h2,if_pos h3]
  split<;>exact⟨rfl,_,rfl,rfl⟩
 by_cases h4:kind=4
 ·simp only[if_neg h2,if_neg h3,if_pos h4]
  split<;>exact⟨rfl,_,rfl,rfl⟩
 ·simp only[if_neg h2,if_neg h3,if_neg h4]
  exact⟨trivial,_,rfl,rfl⟩
theorem oq{S:Sch}{b:List UInt8}{v:Nat}:∀(ks:List SKey)(k:Nat)(p:Int),(c7 S b ks (min v b.length+k) p).1=(c7 S b ks (v+k) p).1∧∃ c,(c7 S b ks (min v b.length+k) p).2=min v b.length+c∧(c7 S b ks (v+k) p).2=v+c
 |[],k,p=>⟨rfl,k,rfl,rfl⟩
 |x::ks,k,p=>by
  obtain⟨h1,c,h2,h3⟩:=EM (b:=b) (v:=v) (k:=k) (w:=cV S x.field) (kind:=x.kind)
  by_cases hk:x.kind=3∨x.kind=4
  ·obtain⟨i1,d,i2,i3⟩:=oq (b:=b) (v:=v) ks (c+1) (1+ci b (v+c) 5)
   simp only[c7,if_pos hk,h1,h2,h3,ci,dB,Nat.add_assoc]
   simp only[ci]at i1 i2 i3
   rw[i1]
   exact⟨rfl,d,i2,i3⟩
  ·obtain⟨i1,d,i2,i3⟩:=oq (b:=b) (v:=v) ks c p
   simp only[c7,if_neg hk,h1,h2,h3]
   rw[i1]
   exact⟨rfl,d,i2,i3⟩
theorem z6{b:List UInt8}{v:Nat}:∀(ps:List SParam)(k:Nat),(kV b ps (min v b.length+k)).1=(kV b ps (v+k)).1∧∃ c,(kV b ps (min v b.length+k)).2=min v b.length+c∧(kV b ps (v+k)).2=v+c
 |[],k=>⟨rfl,k,rfl,rfl⟩
 |p::ps,k=>by
  obtain⟨i1,d,i2,i3⟩:=z6 (b:=b) (v:=v) ps (k+1)
  simp only[kV,dB,Nat.add_assoc]
  rw[i1]
  exact⟨rfl,d,i2,i3⟩
def ua(S:Sch)(n:Int):List UInt8→Nat→AV × Nat:=fun b v=>(gJ (kA S b v n).1,(kA S b v n).2)
theorem J8(S:Sch)(n:Int):sn (ua S n):=fun b v=>by
 obtain⟨i1,c,i2,i3⟩:=oq (S:=S) (b:=b) (v:=v) (fH S n).keys 0 0
 simp only[Nat.add_zero]at i1 i2 i3
 unfold ua kA
 dsimp only
 rw[i1,i2,i3,dB]
 obtain⟨j1,d,j2,j3⟩:=z6 (b:=b) (v:=v) (gO S.actions ((fH S n).actions.getD (cv b (v+c) (fH S n).actions.length) 0)).params (c+1)
 simp only[Nat.add_assoc]
 rw[j1,j2,j3]
 exact⟨rfl,d,rfl,rfl⟩
structure GenS(S:Sch):Prop where
 fl:S.fields.length≤1000
 al:S.actions.length≤1000
 tl:S.tables.length≤1000
 t1:1≤S.tables.length
 kl:∀ t∈S.tables,t.keys.length≤100
 kb:∀ t∈S.tables,∀ k∈t.keys,1≤cV S k.field∧cV S k.field≤32∧(k.kind=2→16≤cV S k.field)
 a1:∀ t∈S.tables,1≤t.actions.length∧t.actions.length≤100
 pl:∀ a:Int,(gO S.actions a).params.length≤100
 pb:∀ a:Int,∀ p∈(gO S.actions a).params,0≤p.bits∧p.bits≤1000
def yd:ECt
 |[.ptr id 0,.agg l,.int .i64 n],H,K=>∃ S:Sch,(l=bb S∧GenS S∧ -9223372036854775808≤n∧n<9223372036854775808)∧onS (H.get id) (ua S n) fun x o=>K (.ret x) (H.set id o)
 |_,_,_=>False
theorem QJ{b:List UInt8}{v:Nat}{w k:Int}:(qH w k b v).1=.agg [.bool (cS b v w k).1.present,.int .u64 (((cS b v w k).1.value/2^64:Nat):Int),.int .u64 (((cS b v w k).1.value%2^64:Nat):Int),.int .u64 (((cS b v w k).1.mask/2^64:Nat):Int),.int .u64 (((cS b v w k).1.mask%2^64:Nat):Int),.int .i64 (cS b v w k).1.pfx,.int .u64 (((cS b v w k).1.high/2^64:Nat):Int),.int .u64 (((cS b v w k).1.high%2^64:Nat):Int)]:=(rfl)
theorem Qt{b:List UInt8}{v:Nat}{w k:Int}:(qH w k b v).2=cp (cS b v w k).2 0:=(rfl)
theorem IX{H:AHeap}{id:Nat}{o:AObj}(h:H.get id=some o):H.set id o=H:=by
 have hl:=glq h
 unfold AHeap.get at h
 rw[if_pos hl]at h
 unfold AHeap.set
 cases H with
 |mk nx f =>
  simp only[AHeap.mk.injEq,true_and]
  funext j
  by_cases e:j=id
  ·rw[if_pos e,e];exact h.symm
  ·rw[if_neg e]
def mE(H:AHeap)(id:Nat)(b:List UInt8)(S:Sch)(t:STable)(w:Nat)(a1:List AV)(p:Int):AHeap :=
 ((((((H.set id (dV b (cp w 0))).push (.cells (bb S))).push (.cells [.int .i64 0,.slice .nil 1 [],.int .i64 0,.int .i64 0,.slice .nil 1 []])).push (.cells [.int .i64 t.id,.str t.name,.slice .any 3 (t.keys.map bL),.slice .any 1 (inL t.actions),.int .i64 t.dflt,.slice .any 2 (t.dargs.map vv),.int .i64 t.size,.str t.restr])).push (.buf 8 a1.length)).push (.buf 2 0)).push (.cells [.int .i64 t.id,.slice (.own (H.nx+1+1+1)) 8 a1,.int .i64 p,.int .i64 0,.slice (.own (H.nx+1+1+1+1)) 2 []])
def wy(H:AHeap)(id:Nat)(b:List UInt8)(S:Sch)(t:STable)(w:Nat)(a1 a2:List AV)(p act:Int):AHeap :=
 ((((((H.set id (dV b (cp w 0))).push (.cells (bb S))).push (.cells [.int .i64 0,.slice .nil 1 [],.int .i64 0,.int .i64 0,.slice .nil 1 []])).push (.cells [.int .i64 t.id,.str t.name,.slice .any 3 (t.keys.map bL),.slice .any 1 (inL t.actions),.int .i64 t.dflt,.slice .any 2 (t.dargs.map vv),.int .i64 t.size,.str t.restr])).push (.buf 8 a1.length)).push (.buf 2 a2.length)).push (.cells [.int .i64 t.id,.slice (.own (H.nx+1+1+1)) 8 a1,.int .i64 p,.int .i64 act,.slice (.own (H.nx+1+1+1+1)) 2 a2])
theorem cN{n:Nat}(x:SMatch):AV.lt n (aP x):=by
 simp only[aP,bQ,vc,znr,znu,znv,znf,zng,List.append_assoc,yal,yak,and_true]
theorem LY{n:Nat}(x:Nat):AV.lt n (vv x):=by simp only[vv,znr,znu,znv,znf,and_true]
theorem qq{n:Nat}(x:SEntry):AV.lt n (gJ x):=by
 simp only[gJ,a9,znr,znu,znv,znf,and_true,true_and]
 exact⟨bk cN,bk LY⟩
theorem v3{H:AHeap}{id:Nat}{b:List UInt8}{S:Sch}{t:STable}{w:Nat}{a1 a2:List AV}{p act:Int}(hcl:H.Closed)(h1:∀ n,ltL n a1=True)(h2:∀ n,ltL n a2=True):(wy H id b S t w a1 a2 p act).Closed:=by
 unfold wy
 repeat' (first|exact ai hcl ef|refine ag ?_|refine aa ?_ ?_)
 ·exact ltL_iff.2 fun j hj=>AV.lt_cells (u7 S) j hj
 ·simp[znu,znv,znf,aN]
 ·exact ltL_iff.2 fun j hj=>AV.lt_cells (dM t) j hj
 ·simp[aN,znu,znv,znf,zle,zlf,h1,h2]
  try omega
theorem H9:EEe 22 yd:=by
 refine Yef fun _ H K h=>?_
 unfold yd at h
 split at h<;>try exact h.elim
 rename_i id l n
 obtain⟨S,⟨rfl,hS,hn1,hn2⟩,h⟩:=h
 unfold onS at h
 obtain⟨b,v,hg,hb,hv,hK⟩:=jL h
 refine⟨_,_,hK,?_⟩
 clear hK h
 unfold ua
 dsimp only
 generalize hres:(kA S b v n).1=res
 generalize hpos:(kA S b v n).2=pos
 refine Yfw az (tCq jG (tCq Hj (tCq Jn (tCq Bi (tCq GT tNq))))) Tryz.func22 [.cell 6 26] (nrq _) (T:=ay [(1,[[],[],[],[],[],[],[4],[],[6],[],[1,4,6,8]]),(6,[[],[],[],[],[],[3,4],[3,4,5],[1,3,4,5],[],[1,3,4,5]]),(10,[[],[],[],[],[],[],[4],[],[6],[],[1,4,6,8]]),(14,[[],[],[],[],[3],[],[],[],[3,4,7],[3,7,8],[1,3,7,8],[],[1,3,7,8]]),(2,[[10,1]]),(16,[[4]])]) (h:=fun hcl=>?_)
 have hid:=glq hg
 have hne:=gH hid
 have hgc:=lv (b:=b) hid
 have hcl2:∀ w,(H.set id (dV b w)).Closed:=fun w=>ai hcl ef
 obtain⟨f1,f2,f3,f4,f5,f6,f7,f8,f9⟩:=hS
 obtain⟨t,ht⟩:∃ t,fH S n=t:=⟨_,rfl⟩
 have hm1:=Int.emod_nonneg n (show((S.tables.length:Nat):Int)≠0 by omega)
 have hm2:=Int.emod_lt_of_pos n (show(0:Int)<((S.tables.length:Nat):Int) by omega)
 have hmi:(n%((S.tables.length:Nat):Int)).toNat<S.tables.length:=Xa
 have htm:t∈S.tables:=by
  rw[← ht];unfold fH
  exact V156
 have htg:(S.tables.map bc).getD (n%((S.tables.length:Nat):Int)).toNat .junk=.agg [.int .i64 t.id,.str t.name,.slice .any 3 (t.keys.map bL),.slice .any 1 (inL t.actions),.int .i64 t.dflt,.slice .any 2 (t.dargs.map vv),.int .i64 t.size,.str t.restr]:=by
  rw[← ht];unfold fH
  exact bf (f:=bc) (by rw[gQq hmi,gEq,gQq hmi];rfl)
 refine T14 ?_
 refine T0 ?_
 refine me 24 1 8 _ rfl rfl ?_
 refine T14 ?_
 refine me 24 4 2 _ rfl rfl ?_
 refine T14 ?_
 refine T0 ?_
 generalize hR:c7 S b t.keys v 0=R
 have hcM:∀ w a1 p,(∀ n,ltL n a1=True)→(mE H id b S t w a1 p).Closed:=fun w a1 p h1=>v3 (a2:=[]) (act:=0) hcl h1 (fun n=>by simp[znv])
 refine aA (A:=Nat × Nat × List AV × Int) (fun x=>[(0,.ptr id 0),(4,.ptr H.nx 0),(6,.ptr (H.nx+1) 0),(7,.ptr (H.nx+1+1) 0),(8,.ptr (H.nx+1+1+1+1+1) 0),(26,.slice .any 3 (t.keys.map bL)),(27,.int .i64 (t.keys.length:Int)),(28,.int .i64 (x.1:Int))]) (fun x=>mE H id b S t x.2.1 x.2.2.1 x.2.2.2) (fun x=>x.1≤t.keys.length∧x.2.2.1.length≤x.1∧x.2.2.1++(c7 S b (t.keys.drop x.1) x.2.1 x.2.2.2).1.1.map aP=R.1.1.map aP∧(c7 S b (t.keys.drop x.1) x.2.1 x.2.2.2).1.2=R.1.2∧(c7 S b (t.keys.drop x.1) x.2.1 x.2.2.2).2=R.2) (fun x=>t.keys.length-x.1) (0,v,[],0) ⟨Xa,Xb,by rw[← hR];rfl,by rw[← hR];rfl,by rw[← hR];rfl⟩ ?_ fun x hx=>?_
 ·refine⟨by simp only[mE,zle,zlf,zkq,zkv];omega,by dsimp only;unfold mE;rw[show dV b (cp v 0)=dV b (cp v 0) from rfl,IX hg];exact lRq _,hcM _ _ _ (fun n=>by simp[znv]),?_,?_⟩
  ·exact V139
  ·exact V8
 obtain⟨k,w,a1,p⟩:=x
 dsimp only at hx ⊢
 obtain⟨hk,l1,i1,i2,i3⟩:=hx
 have hlA:=fun n=>m7 (n:=n) i1 cN
 refine T9 ?_
 refine aq (fun hc=>?_) (fun hc=>?_)
 ·have hk':k<t.keys.length:=sHc
  obtain⟨x,hx⟩:∃ x,x=t.keys[k]:=⟨_,rfl⟩
  have hd:t.keys.drop k=x::t.keys.drop (k+1):=by rw[hx];exact dcq hk'
  have hxm:x∈t.keys:=by rw[hx];exact gMq hk'
  have hkg:=bf (f:=bL) (l:=t.keys) (k:=k) (x:=x) (by rw[gQq hk',hx])
  have hkk:=f5 t htm
  have e5:=Yk5 k
  obtain⟨b1,b2,b3⟩:=f6 t htm x hxm
  simp only[bn,aF,bhq,go_sem,jR,bD,bb,hg,hgc,hne,bB hb,bT,bq,ce,ybb,htg,iNq,List.set_cons_succ,List.set_cons_zero,mE,hkg,bL]
  refine T0 ?_
  refine⟨S,⟨rfl,Xa,b1,b2,b3⟩,?_⟩
  simp only[bn,aF,bhq,go_sem,jR,bD,bb,hg,hgc,hne,bB hb,bT,bq,ce,ybb,htg,iNq,List.set_cons_succ,List.set_cons_zero,mE,hkg,bL,cX hb (tW _ _)]
  have five:(5:Int).toNat=5:=rfl
  have a15:∀ u,IntKind.i64.wrap (1+((cv b u 5:Nat):Int))=1+((cv b u 5:Nat):Int):=fun u=>by
   have:=eW (b:=b) (v:=u) (n:=5) Xc
   exact V118
  by_cases hk34:x.kind=3∨x.kind=4
  ·rcases hk34 with h3|h3
   ·have hk34:x.kind=3∨x.kind=4:=.inl h3
    have d3:(x.kind==3)=true:=by simp[h3]
    simp only[bn,aF,bhq,go_sem,jR,bD,bb,hg,hgc,hne,bB hb,bT,bq,ce,ybb,htg,iNq,List.set_cons_succ,List.set_cons_zero,mE,hkg,bL,cX hb (tW _ _),QJ,Qt,e5,a15,five,d3]
    refine T0 ?_
    rw[hd]at i1 i2 i3
    simp only[c7,if_pos hk34]at i1 i2 i3
    have i1':(a1++[aP (cS b (cp w 0) (cV S x.field) x.kind).1])++_=R.1.1.map aP:=(List.append_assoc _ _ _).trans i1
    refine⟨(k+1,cp (cS b (cp w 0) (cV S x.field) x.kind).2 1,a1++[aP (cS b (cp w 0) (cV S x.field) x.kind).1],1+ci b (cp (cS b (cp w 0) (cV S x.field) x.kind).2 0) 5),⟨Xf,by simp only[lAq,yaz,yba];omega,i1',i2,i3⟩,Xf,by simp only[mE,zle,zlf,zkq,zkv];omega,?_,hcM _ _ _ (fun n=>m7 (n:=n) i1' cN),?_,?_⟩
    ·exact V96
    ·exact V139
    ·exact V8
   ·have hk34:x.kind=3∨x.kind=4:=.inr h3
    have d3:(x.kind==3)=false:=by simp[h3]
    have d4:(x.kind==4)=true:=by simp[h3]
    refine T21 ?_
    refine T0 ?_
    rw[hd]at i1 i2 i3
    simp only[c7,if_pos hk34]at i1 i2 i3
    have i1':(a1++[aP (cS b (cp w 0) (cV S x.field) x.kind).1])++_=R.1.1.map aP:=(List.append_assoc _ _ _).trans i1
    refine⟨(k+1,cp (cS b (cp w 0) (cV S x.field) x.kind).2 1,a1++[aP (cS b (cp w 0) (cV S x.field) x.kind).1],1+ci b (cp (cS b (cp w 0) (cV S x.field) x.kind).2 0) 5),⟨Xf,by simp only[lAq,yaz,yba];omega,i1',i2,i3⟩,Xf,by simp only[mE,zle,zlf,zkq,zkv];omega,?_,hcM _ _ _ (fun n=>m7 (n:=n) i1' cN),?_,?_⟩
    ·exact V96
    ·exact V139
    ·exact V8
  ·have d3:(x.kind==3)=false:=by simp;intro h;exact hk34 (.inl h)
   have d4:(x.kind==4)=false:=by simp;intro h;exact hk34 (.inr h)
   refine T21 ?_
   refine T0 ?_
   rw[hd]at i1 i2 i3
   simp only[c7,if_neg hk34]at i1 i2 i3
   have i1':(a1++[aP (cS b (cp w 0) (cV S x.field) x.kind).1])++_=R.1.1.map aP:=(List.append_assoc _ _ _).trans i1
   refine⟨(k+1,cp (cS b (cp w 0) (cV S x.field) x.kind).2 0,a1++[aP (cS b (cp w 0) (cV S x.field) x.kind).1],p),⟨Xf,by simp only[lAq,yaz,yba];omega,i1',i2,i3⟩,Xf,by simp only[mE,zle,zlf,zkq,zkv];omega,?_,hcM _ _ _ (fun n=>m7 (n:=n) i1' cN),?_,?_⟩
   ·exact V96
   ·exact V139
   ·exact V8
 ·have hk':k=t.keys.length:=sHc
  subst hk'
  rw[List.drop_length]at i1 i2 i3
  simp only[c7,yaf,yaj]at i1 i2 i3
  obtain⟨g1,g2⟩:=f7 t htm
  have hkk:=f5 t htm
  have hcl3:cv b (cp w 0) t.actions.length<t.actions.length:=eW Xa
  obtain⟨act,hact⟩:∃ act,t.actions.getD (cv b w t.actions.length) 0=act:=⟨_,rfl⟩
  have hag:(inL t.actions).getD (cv b (cp w 0) t.actions.length) .junk=.int .i64 act:=by
   rw[← hact]
   unfold inL
   exact bf (f:=fun n=>AV.int .i64 n) (by rw[gQq hcl3,gEq,show cv b w t.actions.length=cv b (cp w 0) t.actions.length from rfl,gQq hcl3];rfl)
  have hil:(inL t.actions).length=t.actions.length:=by simp[inL]
  have hsp:=f8 act
  have hpb:=f9 act
  have e256:(256:Int).toNat=256:=rfl
  have u256:∀ u,IntKind.u64.wrap ((cv b u 256:Nat):Int)=((cv b u 256:Nat):Int):=fun u=>by
   exact V172
  have hb1:(0≤((cv b (cp w 0) t.actions.length:Nat):Int)∧((cv b (cp w 0) t.actions.length:Nat):Int)<(((inL t.actions).length:Nat):Int))=True:=eq_true ⟨Xa,by rw[hil];omega⟩
  simp only[bn,aF,bhq,go_sem,jR,bD,bb,hg,hgc,hne,bB hb,bT,bq,ce,ybb,htg,iNq,List.set_cons_succ,List.set_cons_zero,mE,wy,hag,ld,bu,kB,wv,iD,Int.toNat_zero,u256,e256,vv,hil]
  refine T0 ?_
  refine⟨S,⟨rfl,Xa⟩,?_⟩
  generalize hao:gO S.actions act=a at *
  generalize hG:kV b a.params (cp w 1)=G
  have hcM2:∀ w' a2,(∀ n,ltL n a2=True)→(wy H id b S t w' a1 a2 p act).Closed:=fun w' a2 h2=>v3 hcl hlA h2
  refine aA (A:=Nat × Nat × List AV) (fun x=>[(0,.ptr id 0),(6,.ptr (H.nx+1) 0),(8,.ptr (H.nx+1+1+1+1+1) 0),(68,.slice .any 2 (a.params.map bV)),(69,.int .i64 (a.params.length:Int)),(70,.int .i64 (x.1:Int))]) (fun x=>wy H id b S t x.2.1 a1 x.2.2 p act) (fun x=>x.1≤a.params.length∧x.2.2.length≤x.1∧x.2.2++(kV b (a.params.drop x.1) x.2.1).1.map vv=G.1.map vv∧(kV b (a.params.drop x.1) x.2.1).2=G.2) (fun x=>a.params.length-x.1) (0,cp w 1,[]) ⟨Xa,Xb,by rw[← hG];rfl,by rw[← hG];rfl⟩ ?_ fun x hx=>?_
  ·refine⟨by simp only[wy,zle,zlf,zkq,zkv];omega,lRq _,hcM2 _ _ (fun n=>by simp[znv]),?_,?_⟩
   ·simp[ltF,wy,znn,znf,zle,zlf,bk jN]
    omega
   ·exact V8
  obtain⟨j,w2,a2⟩:=x
  dsimp only at hx ⊢
  obtain⟨hj,m1,j1,j2⟩:=hx
  refine T9 ?_
  refine aq (fun hc=>?_) (fun hc=>?_)
  ·have hj':j<a.params.length:=sHc
   obtain⟨x,hx⟩:∃ x,x=a.params[j]:=⟨_,rfl⟩
   have hd:a.params.drop j=x::a.params.drop (j+1):=by rw[hx];exact dcq hj'
   have hxm:x∈a.params:=by rw[hx];exact gMq hj'
   have hkg:=bf (f:=bV) (l:=a.params) (k:=j) (x:=x) (by rw[gQq hj',hx])
   have e5:IntKind.i64.wrap ((j:Int)+1)=((j+1:Nat):Int):=Xe
   have hxb:=hpb x hxm
   rw[hd]at j1 j2
   simp only[kV]at j1 j2
   have j1':(a2++[vv (low (cv b w2 256) x.bits)])++_=G.1.map vv:=(List.append_assoc _ _ _).trans j1
   have c256:=eW (b:=b) (v:=cp w2 0) (n:=256) Xc
   simp only[bn,aF,bhq,go_sem,jR,bD,bb,hg,hgc,hne,bB hb,bT,bq,ce,ybb,htg,iNq,List.set_cons_succ,List.set_cons_zero,mE,wy,hag,ld,bu,kB,wv,iD,Int.toNat_zero,u256,e256,vv,hkg,bV,e5]
   refine T0 ?_
   refine⟨(j+1,cp w2 1,a2++[vv (low (cv b w2 256) x.bits)]),⟨Xf,by simp only[lAq,yaz,yba];omega,j1',j2⟩,Xf,by simp only[wy,zle,zlf,zkq,zkv];omega,?_,hcM2 _ _ (fun n=>m7 (n:=n) j1' LY),?_,?_⟩
   ·simp only[wy,lAq,yaz,yba]
    repeat first|exact .refl _|refine .push ?_ _
   ·simp[ltF,wy,znn,znf,zle,zlf,bk jN]
    omega
   ·exact V8
  ·have hj':j=a.params.length:=sHc
   subst hj'
   rw[List.drop_length]at j1 j2
   simp only[kV,yaf,yaj]at j1 j2
   simp only[bn,aF,bhq,go_sem,jR,bD,bb,hg,hgc,hne,bB hb,bT,bq,ce,ybb,htg,iNq,List.set_cons_succ,List.set_cons_zero,mE,wy,hag,ld,bu,kB,wv,iD,Int.toNat_zero,u256,e256,vv]
   refine T0 ?_
   have hE:kA S b v n=(⟨t.id,R.1.1,R.1.2,act,G.1⟩,G.2):=by
    unfold kA
    dsimp only
    rw[ht,hR,← i3,hact,hao,show w+1=cp w 1 from rfl,hG]
   rw[hE]at hres hpos
   dsimp only at hres hpos
   subst hres
   subst hpos
   refine kO 87 (gJ ⟨t.id,R.1.1,R.1.2,act,G.1⟩) ?_ ?_
   ·simp[Fr.get,gJ,a9,j0,cw,cu,cL,fw,cP,jk,wkM,kN,i1,i2,j1]
   simp only[bhq,go_sem,gJ,a9]
   rw[j2]
   refine⟨?_,?_,hcl2 _,qq ⟨t.id,R.1.1,R.1.2,act,G.1⟩⟩
   ·simp[wk,wk2,wkL,wk1,wkM]
   ·repeat first|exact .refl _|refine .push ?_ _
theorem Xv{p:Prop}(h:p:=by simp only[mE,zle,zlf,zkq,zkv];omega):p:=h
end Go.AL
