/- Lemmas of the proof; no condition. -/
import Derived.Test.YtjnhidpnfdbmaaaGreatLVal
import Derived.Test.YtjnhidpnfdbmaaaGreatAlByte
import Derived.Test.YtjnhidpnfdbmaaaGreatAlBun
set_option linter.all false
set_option maxRecDepth 10000
set_option maxHeartbeats 32000000
open List renaming getD_cons_succ → yav
namespace Go.AL
open Go
def w0(z:Int):Int:=z%2^64
def w1(z:Int):Int:=z/2^64%2^64
def w2(z:Int):Int:=z/2^64/2^64%2^64
def nAV(z:Int):AV:=.agg [.int .u64 (w0 z),.int .u64 (w1 z),.int .u64 (w2 z)]
theorem v9(z:Int):0≤w0 z∧w0 z<18446744073709551616:=by unfold w0;omega
theorem vW(z:Int):0≤w1 z∧w1 z<18446744073709551616:=by unfold w1;omega
theorem vT(z:Int):0≤w2 z∧w2 z<18446744073709551616:=by unfold w2;omega
theorem QA(a b:Int):(w0 a+w0 b)%2^64=w0 (a+b):=by unfold w0;omega
theorem Re(a b:Int):(w1 a+w1 b+(w0 a+w0 b)/2^64)%2^64=w1 (a+b):=by unfold w0 w1;omega
theorem Rq(a b:Int):(w2 a+w2 b+(w1 a+w1 b+(w0 a+w0 b)/2^64)/2^64)%2^64=w2 (a+b):=by unfold w0 w1 w2;omega
theorem QX(a:Int):2^64-1-w0 a=w0 (-1-a):=by unfold w0;omega
theorem Q4(a:Int):2^64-1-w1 a=w1 (-1-a):=by unfold w1;omega
theorem Q7(a:Int):2^64-1-w2 a=w2 (-1-a):=by unfold w2;omega
theorem KK(n:Int)(h : -(2^63)≤n∧n<2^63):w1 n=(if n<0 then 2^64-1 else 0)∧w2 n=(if n<0 then 2^64-1 else 0):=by
 unfold w1 w2;split<;>constructor<;>omega
theorem P8(hi lo:Int)(h1:0≤hi∧hi<2^64)(h2:0≤lo∧lo<2^64):w0 (hi*2^64+lo)=lo∧w1 (hi*2^64+lo)=hi∧w2 (hi*2^64+lo)=0:=by
 unfold w0 w1 w2;refine⟨?_,?_,?_⟩<;>omega
theorem R9{a b:Int}(ha : -(2^191)≤a∧a<2^191)(hb : -(2^191)≤b∧b<2^191)(h0:w0 a=w0 b)(h1:w1 a=w1 b)(h2:w2 a=w2 b):a=b:=by
 unfold w0 at h0;unfold w1 at h1;unfold w2 at h2;omega
theorem Sg{a:Int}(ha : -(2^191)≤a∧a<2^191):w2 a/2^63=if a<0 then 1 else 0:=by
 unfold w2;split<;>omega
theorem Rb{a:Int}(ha : -(2^191)≤a∧a<2^191):w2 a=0↔0≤a∧a<2^128:=by
 unfold w2;omega
theorem xu(x:Int)(h:0≤x∧x<18446744073709551616):HK .u64 (if IntKind.u64.signed=true then -1 else IntKind.u64.max) x=2^64-1-x:=by
 obtain⟨n,rfl⟩:=Int.eq_ofNat_of_zero_le h.1
 have hn:n<2^64:=Xa
 have e:(if IntKind.u64.signed=true then(-1:Int)else IntKind.u64.max)=((2^64-1:Nat):Int):=rfl
 rw[e,yX _ _ Xc hn]
 have h1:=congrArg BitVec.toNat (BitVec.allOnes_xor (x:=BitVec.ofNat 64 n))
 rw[BitVec.toNat_xor,BitVec.toNat_not,BitVec.toNat_allOnes,BitVec.toNat_ofNat,Nat.mod_eq_of_lt hn]at h1
 rw[h1];omega
end Go.AL
open Go Go.AL Go.Proofs
namespace Go.AL
theorem Bf:ti Tryz.prog 3=some ⟨.int .i64,1,8,.int .i64 0⟩:=krf
theorem Nj:ti Tryz.prog 29=some ⟨.struct [(0,27,false),(1,27,false)],2,16,.agg [.int .u64 0,.int .u64 0]⟩:=krf
theorem wQ:ti Tryz.prog 27=some ⟨.int .u64,1,8,.int .u64 0⟩:=krf
theorem AF:ti Tryz.prog 194=some ⟨.struct [(0,192,false)],3,24,.agg [.int .u64 0,.int .u64 0,.int .u64 0]⟩:=krf
theorem xV:ti Tryz.prog 192=some ⟨.array 3 27,3,24,.agg [.int .u64 0,.int .u64 0,.int .u64 0]⟩:=krf
attribute [go_sem] Bf Nj wQ AF xV
def mV:PCt
 |[.int .u64 x,.int .u64 y,.int .u64 c],_,K=>(0≤x∧0≤y∧0≤c∧c≤1)∧K (.tup [.int .u64 ((x+y+c)%18446744073709551616),.int .u64 ((x+y+c)/18446744073709551616)])
 |_,_,_=>False
theorem D9:EPp 196 mV:=by
 refine Ype fun _ H K h=>?_
 unfold mV at h
 split at h<;>try exact h.elim
 obtain⟨⟨h1,h2,h3,h4⟩,hK⟩:=h
 exact⟨_,hK,BQ Tryz.func196 Xh Xh Xh Xh h1 h2 h3 h4⟩
def Gi:PCt
 |[.int .i64 n],_,K=>(-9223372036854775808≤n∧n<9223372036854775808)∧K (nAV n)
 |_,_,_=>False
theorem Ld:EPp 152 Gi:=by
 refine Ype fun _ H K h=>?_
 unfold Gi at h
 split at h<;>try exact h.elim
 rename_i n
 obtain⟨⟨h1,h2⟩,hK⟩:=h
 refine⟨_,hK,?_⟩
 refine Yfv az tNq Tryz.func152 [.cell 2 194] fun hcl hlt=>?_
 clear hlt hK
 have e0:IntKind.u64.wrap n=w0 n:=by
  unfold w0;simp[IntKind.wrap,IntKind.bits,IntKind.signed]
 have es:oA .i64 n 63=n/2^63:=by
  unfold oA
  rw[show min (63:Int).toNat IntKind.i64.bits=63 from rfl]
  exact V164
 have e1:IntKind.u64.wrap (oA .i64 n 63)=w1 n:=by
  rw[es,(KK n Xa).1];simp[IntKind.wrap,IntKind.bits,IntKind.signed];split<;>omega
 have e2:w2 n=w1 n:=by rw[(KK n (by omega)).1,(KK n (by omega)).2]
 simp only[go_sem,zav,byq,e0,e1]
 refine⟨Xa,?_⟩
 unfold nAV
 rw[e2]
 exact Z0
def HW(a b:Int)(k:Nat):List AV:=[.int .u64 (if 0<k then w0 (a+b)else 0),.int .u64 (if 1<k then w1 (a+b)else 0),.int .u64 (if 2<k then w2 (a+b)else 0)]
def cyk(a b:Int)(k:Nat):Int:=match k with
 |0=>0
 |1=>(w0 a+w0 b)/2^64
 |2=>(w1 a+w1 b+(w0 a+w0 b)/2^64)/2^64
 |_=>(w2 a+w2 b+(w1 a+w1 b+(w0 a+w0 b)/2^64)/2^64)/2^64
theorem Fe(a b:Int):∀ k,0≤cyk a b k∧cyk a b k≤1:=by
 have a0:=v9 a
 have a1:=vW a
 have a2:=vT a
 have b0:=v9 b
 have b1:=vW b
 have b2:=vT b
 intro k
 unfold cyk
 split<;>omega
theorem Sd(a b:Int):(w0 a+w0 b+cyk a b 0)%18446744073709551616=w0 (a+b)∧(w0 a+w0 b+cyk a b 0)/18446744073709551616=cyk a b 1:=by
 have:=QA a b;simp only[cyk];constructor<;>omega
theorem Su(a b:Int):(w1 a+w1 b+cyk a b 1)%18446744073709551616=w1 (a+b)∧(w1 a+w1 b+cyk a b 1)/18446744073709551616=cyk a b 2:=by
 have:=Re a b;simp only[cyk];constructor<;>omega
theorem RS(a b:Int):(w2 a+w2 b+cyk a b 2)%18446744073709551616=w2 (a+b)∧(w2 a+w2 b+cyk a b 2)/18446744073709551616=cyk a b 3:=by
 have:=Rq a b;simp only[cyk];constructor<;>omega
def BC:PCt
 |[x,y],_,K=>∃ a b,(x=nAV a∧y=nAV b)∧K (nAV (a+b))
 |_,_,_=>False
theorem AS:EPp 180 BC:=by
 refine Ype fun _ H K h=>?_
 unfold BC at h
 split at h<;>try exact h.elim
 obtain⟨a,b,⟨rfl,rfl⟩,hK⟩:=h
 refine⟨_,hK,?_⟩
 refine Yfv az (tCq D9 tNq) Tryz.func180 [.cell 4 194] fun hcl hlt=>?_
 clear hlt hK
 simp only[go_sem,byq,nAV]
 refine eZ (A:=Nat) (fun k=>[(8,.int .i64 (k:Int)),(6,.int .u64 (cyk a b k)),(5,.ptr (H.nx+1+1+1) 0),(4,.ptr (H.nx+1+1) 0),(3,.ptr (H.nx+1) 0),(2,.ptr H.nx 0)])
  (fun k=>(((H.push (.cells [.int .u64 (w0 a),.int .u64 (w1 a),.int .u64 (w2 a)])).push (.cells [.int .u64 (w0 b),.int .u64 (w1 b),.int .u64 (w2 b)])).push (.cells [.int .u64 0,.int .u64 0,.int .u64 0])).push (.cells (HW a b k)))
  (fun k=>k≤3) (fun k=>3-k) 0 Xa ?_ fun k hk=>?_
 ·simp only[bnq,enter,gX,ltF,ne_eq,Nat.reduceEqDiff,reduceCtorEq,cyk,HW,Nat.lt_irrefl,if_false,true_or,and_true,Nat.not_lt_zero]
 have a0:=v9 a
 have a1:=vW a
 have a2:=vT a
 have b0:=v9 b
 have b1:=vW b
 have b2:=vT b
 rcases(Xa:k=0∨k=1∨k=2∨k=3)with rfl|rfl|rfl|rfl
 ·have hd:decide (((0:Nat):Int)<3)=true:=rfl
  have e1:IntKind.i64.wrap (((0:Nat):Int)+1)=((1:Nat):Int):=Xe
  have hc:=Fe a b 0
  obtain⟨s1,s2⟩:=Sd a b
  have t1:((0:Nat):Int).toNat=0:=rfl
  simp only[go_sem,zat,byq,mV,hd,HW,e1,s1,s2,t1]
  refine⟨Xa,Xa,Xa,Xa,.inr Xa,1,Xa,Xa,?_⟩
  exact V48
 ·have hd:decide (((1:Nat):Int)<3)=true:=rfl
  have e1:IntKind.i64.wrap (((1:Nat):Int)+1)=((2:Nat):Int):=Xe
  have hc:=Fe a b 1
  obtain⟨s1,s2⟩:=Su a b
  have t1:((1:Nat):Int).toNat=1:=rfl
  simp only[go_sem,zat,byq,mV,hd,HW,e1,s1,s2,t1]
  refine⟨Xa,Xa,Xa,Xa,.inr Xa,2,Xa,Xa,?_⟩
  exact V48
 ·have hd:decide (((2:Nat):Int)<3)=true:=rfl
  have e1:IntKind.i64.wrap (((2:Nat):Int)+1)=((3:Nat):Int):=Xe
  have hc:=Fe a b 2
  obtain⟨s1,s2⟩:=RS a b
  have t1:((2:Nat):Int).toNat=2:=rfl
  simp only[go_sem,zat,byq,mV,hd,HW,e1,s1,s2,t1]
  refine⟨Xa,Xa,Xa,Xa,.inr Xa,3,Xa,Xa,?_⟩
  exact V48
 ·have hd:decide (((3:Nat):Int)<3)=false:=rfl
  simp only[go_sem,zau,byq,hd,HW]
  exact Z0
def I9(a:Int)(k:Nat):List AV:=[.int .u64 (if 0<k then w0 (-1-a)else w0 a),.int .u64 (if 1<k then w1 (-1-a)else w1 a),.int .u64 (if 2<k then w2 (-1-a)else w2 a)]
def Fw:PCt
 |[x],_,K=>∃ a,x=nAV a∧K (nAV (-a))
 |_,_,_=>False
theorem G7:EPp 179 Fw:=by
 refine Ype fun _ H K h=>?_
 unfold Fw at h
 split at h<;>try exact h.elim
 obtain⟨a,rfl,hK⟩:=h
 refine⟨_,hK,?_⟩
 refine Yfv az (tCq AS (tCq Ld tNq)) Tryz.func179 [.cell 2 194] fun hcl hlt=>?_
 clear hlt hK
 simp only[go_sem,byq,nAV]
 refine eZ (A:=Nat) (fun k=>[(4,.int .i64 (k:Int)),(2,.ptr (H.nx+1) 0),(1,.ptr H.nx 0)])
  (fun k=>(H.push (.cells (I9 a k))).push (.cells [.int .u64 0,.int .u64 0,.int .u64 0]))
  (fun k=>k≤3) (fun k=>3-k) 0 Xa ?_ fun k hk=>?_
 ·simp only[bnq,enter,gX,ltF,ne_eq,Nat.reduceEqDiff,reduceCtorEq,I9,Nat.lt_irrefl,if_false,true_or,and_true,Nat.not_lt_zero]
 rcases(Xa:k=0∨k=1∨k=2∨k=3)with rfl|rfl|rfl|rfl
 ·have hd:decide (((0:Nat):Int)<3)=true:=rfl
  have e1:IntKind.i64.wrap (((0:Nat):Int)+1)=((1:Nat):Int):=Xe
  have t1:((0:Nat):Int).toNat=0:=rfl
  have hx:=xu (w0 a) (v9 a)
  rw[QX]at hx
  simp only[go_sem,zat,byq,hd,I9,e1,t1,hx]
  refine⟨Xa,Xa,1,Xa,Xa,?_⟩
  exact V48
 ·have hd:decide (((1:Nat):Int)<3)=true:=rfl
  have e1:IntKind.i64.wrap (((1:Nat):Int)+1)=((2:Nat):Int):=Xe
  have t1:((1:Nat):Int).toNat=1:=rfl
  have hx:=xu (w1 a) (vW a)
  rw[Q4]at hx
  simp only[go_sem,zat,byq,hd,I9,e1,t1,hx]
  refine⟨Xa,Xa,2,Xa,Xa,?_⟩
  exact V48
 ·have hd:decide (((2:Nat):Int)<3)=true:=rfl
  have e1:IntKind.i64.wrap (((2:Nat):Int)+1)=((3:Nat):Int):=Xe
  have t1:((2:Nat):Int).toNat=2:=rfl
  have hx:=xu (w2 a) (vT a)
  rw[Q7]at hx
  simp only[go_sem,zat,byq,hd,I9,e1,t1,hx]
  refine⟨Xa,Xa,3,Xa,Xa,?_⟩
  exact V48
 ·have hd:decide (((3:Nat):Int)<3)=false:=rfl
  simp only[go_sem,zau,byq,hd,I9,BC,Gi]
  refine⟨Xa,-1-a,1,⟨rfl,rfl⟩,?_⟩
  have en:(-1-a+1) = -a:=Xa
  simp only[go_sem,zau,byq,en,nAV]
  simp (disch:=first|exact Zd|omega) [↓zmo,beq,ybc,ybd,ybe,af,wk,wk2,wk1,wkM,wkL,aj,ybf,hcl]
  refine .inr ⟨-1-a,1,⟨⟨rfl,rfl,rfl⟩,rfl,rfl,rfl⟩,?_⟩
  rw[en];exact⟨rfl,rfl,rfl⟩
def AZ:PCt
 |[x,y],_,K=>∃ a b,(x=nAV a∧y=nAV b)∧K (nAV (a-b))
 |_,_,_=>False
theorem He:EPp 181 AZ:=by
 refine Ype fun _ H K h=>?_
 unfold AZ at h
 split at h<;>try exact h.elim
 obtain⟨a,b,⟨rfl,rfl⟩,hK⟩:=h
 refine⟨_,hK,?_⟩
 refine Yfv az (tCq AS (tCq G7 tNq)) Tryz.func181 [.cell 4 194] fun hcl hlt=>?_
 clear hlt hK
 simp only[go_sem,byq,nAV]
 refine⟨b,rfl,?_⟩
 simp only[go_sem,byq,nAV]
 refine⟨a,-b,⟨rfl,rfl⟩,?_⟩
 have en:a + -b=a-b:=Xa
 simp only[go_sem,byq,en,nAV]
 simp (disch:=first|exact Zd|omega) [↓zmo,beq,ybc,ybd,ybe,af,wk,wk2,wk1,wkM,wkL,aj,ybf,hcl]
 exact⟨.inr ⟨a,-b,⟨rfl,rfl⟩,by rw[en];rfl⟩,.inr ⟨b,rfl,rfl⟩⟩
def isN(a:Int):Prop := -(2^191)≤a∧a<2^191
def F3:PCt
 |[x],_,K=>∃ a,(x=nAV a∧isN a)∧K (.bool (decide (a<0)))
 |_,_,_=>False
theorem OU:EPp 200 F3:=by
 refine Ype fun _ H K h=>?_
 unfold F3 at h
 split at h<;>try exact h.elim
 obtain⟨a,⟨rfl,ha⟩,hK⟩:=h
 refine⟨_,hK,?_⟩
 refine Yfv az tNq Tryz.func200 [.tmp 2] fun hcl hlt=>?_
 clear hlt hK
 have hs:oA .u64 (w2 a) 63=w2 a/2^63:=by
  unfold oA
  rw[show min (63:Int).toNat IntKind.u64.bits=63 from rfl]
  exact V164
 rw[Sg ha]at hs
 have hb:(oA .u64 (w2 a) 63==1)=decide (a<0):=by
  rw[hs];by_cases h:a<0
  ·rw[if_pos h,dtq h];rfl
  ·rw[if_neg h,dfq h];rfl
 simp only[go_sem,zav,byq,nAV,hb]
 exact V32
def wI:PCt
 |[.agg [.int .u64 hi,.int .u64 lo]],_,K=>((0≤hi∧hi<18446744073709551616)∧(0≤lo∧lo<18446744073709551616))∧K (nAV (hi*2^64+lo))
 |_,_,_=>False
theorem Di:EPp 119 wI:=by
 refine Ype fun _ H K h=>?_
 unfold wI at h
 split at h<;>try exact h.elim
 rename_i hi lo
 obtain⟨⟨h1,h2⟩,hK⟩:=h
 refine⟨_,hK,?_⟩
 refine Yfv az tNq Tryz.func119 [.cell 2 194] fun hcl hlt=>?_
 clear hlt hK
 obtain⟨e0,e1,e2⟩:=P8 hi lo h1 h2
 simp only[go_sem,zav,byq,nAV,e0,e1,e2]
 exact Z0
def dv:List Nat→Nat
 |[]=>0
 |d::l=>d+10*dv l
def cO(n:Nat):List Nat:=if h:n=0 then []else n%10::cO (n/10)
decreasing_by omega
def isD(l:List Nat):Prop:=∀ d∈l,d<10
def dig(n i:Nat):Nat:=n/10^i%10
theorem bK:cO 0=[]:=by rw[cO];simp
theorem kZ{n:Nat}(h:n≠0):cO n=n%10::cO (n/10):=by rw[cO];simp[h]
theorem mN(n:Nat):dv (cO n)=n:=by
 induction n using Nat.strongRecOn with
 |_ n ih =>
  by_cases h:n=0
  ·subst h;rw[bK];rfl
  ·rw[kZ h,dv,ih (n/10) (Xa)];omega
theorem lh(n:Nat):isD (cO n):=by
 induction n using Nat.strongRecOn with
 |_ n ih =>
  by_cases h:n=0
  ·subst h;rw[bK];intro d hd;cases hd
  ·rw[kZ h]
   intro d hd
   rcases List.mem_cons.1 hd with rfl|hd
   ·omega
   ·exact ih (n/10) Xa d hd
theorem yn{d:Nat}{l:List Nat}(h:isD (d::l)):isD l:=fun x hx=>h x (List.mem_cons_of_mem _ hx)
theorem yU{d:Nat}{l:List Nat}(h:isD (d::l)):d<10:=h d List.mem_cons_self
theorem KT{l:List Nat}(h:isD l):dv l<10^l.length:=by
 induction l with
 |nil=>simp[dv]
 |cons d l ih =>
  have h1:=ih (yn h)
  have h2:=yU h
  rw[dv,yaz,Nat.pow_succ];omega
theorem oh{l:List Nat}(h:isD l):∀ i,l.getD i 0=dig (dv l) i:=by
 induction l with
 |nil=>intro i;simp[dv,dig]
 |cons d l ih =>
  intro i
  have h2:=yU h
  cases i with
  |zero=>simp[dig,dv];omega
  |succ i =>
   have:=ih (yn h) i
   rw[yav,this,dig,dig,dv,Nat.pow_succ,Nat.mul_comm (10^i) 10,← Nat.div_div_eq_div_mul]
   have:(d+10*dv l)/10=dv l:=Xa
   rw[this]
theorem uQ(n i:Nat):dig n i<10:=Nat.mod_lt _ Xc
theorem l5(n i:Nat):n%10^(i+1)=n%10^i+10^i*dig n i:=by
 rw[Nat.pow_succ,Nat.mod_mul,dig]
def first(k n:Nat):List Nat:=(List.range k).map (dig n)
theorem kw(k n:Nat):(first k n).length=k:=by simp[first]
theorem HJ(k n:Nat):isD (first k n):=fun d hd=>by
 obtain⟨i,_,rfl⟩:=List.mem_map.1 hd;exact uQ n i
theorem oz(k n:Nat):first (k+1) n=first k n++[dig n k]:=by simp[first,List.range_succ]
theorem nI(a b:List Nat):dv (a++b)=dv a+10^a.length*dv b:=by
 induction a with
 |nil=>simp[dv]
 |cons d a ih =>
  rw[yal,dv,dv,ih,yaz,Nat.pow_succ,Nat.mul_comm (10^a.length) 10,Nat.mul_assoc,Nat.mul_add];omega
theorem JU(k n:Nat):dv (first k n)=n%10^k:=by
 induction k with
 |zero=>simp[first,dv,Nat.mod_one]
 |succ k ih=>rw[oz,nI,ih,kw,l5];simp[dv]
theorem Ig{l:List Nat}(h:isD l)(hl:l.getLast?≠some 0):cO (dv l)=l:=by
 induction l with
 |nil=>simp[dv,bK]
 |cons d l ih =>
  have h2:=yU h
  cases l with
  |nil =>
   have hd:d≠0:=by intro e;subst e;simp at hl
   rw[show dv [d]=d by simp[dv],kZ hd,Nat.mod_eq_of_lt h2,Nat.div_eq_of_lt h2,bK]
  |cons e l =>
   have hl':(e::l).getLast?≠some 0:=by simpa[List.getLast?_cons_cons]using hl
   have ih:=ih (yn h) hl'
   have hnz:dv (e::l)≠0:=by
    intro h0
    rw[h0,bK]at ih;cases ih
   have h3:dv (d::e::l)≠0:=by rw[dv];omega
   rw[kZ h3]
   have e1:dv (d::e::l)%10=d:=by rw[dv];omega
   have e2:dv (d::e::l)/10=dv (e::l):=by rw[dv];omega
   rw[e1,e2,ih]
def cry(a b i:Nat):Nat:=(a%10^i+b%10^i)/10^i
theorem LP(a b i:Nat):cry a b i≤1:=by
 have hp:0<10^i:=Nat.pow_pos Xc
 have h1:=Nat.mod_lt a hp
 have h2:=Nat.mod_lt b hp
 unfold cry
 exact Nat.le_of_lt_succ (Nat.div_lt_of_lt_mul Xa)
theorem AE(a b i:Nat):(a+b)/10^i=a/10^i+b/10^i+cry a b i:=by
 have hp:0<10^i:=Nat.pow_pos Xc
 have h1:=Nat.div_add_mod a (10^i)
 have h2:=Nat.div_add_mod b (10^i)
 unfold cry
 generalize a/10^i=qa at *
 generalize b/10^i=qb at *
 generalize a%10^i=ra at *
 generalize b%10^i=rb at *
 rw[← h1,← h2,show 10^i*qa+ra+(10^i*qb+rb)=ra+rb+10^i*(qa+qb) by rw[Nat.mul_add];omega,Nat.add_mul_div_left _ _ hp];omega
theorem Om(a b i:Nat):(dig a i+dig b i+cry a b i)%10=dig (a+b) i:=by
 unfold dig;rw[AE];omega
theorem OV(a b i:Nat):(dig a i+dig b i+cry a b i)/10=cry a b (i+1):=by
 have hp:0<10^i:=Nat.pow_pos Xc
 have e:cry a b (i+1)=(dig a i+dig b i+cry a b i)/10:=by
  unfold cry
  rw[l5,l5,Nat.pow_succ,← Nat.div_div_eq_div_mul,show a%10^i+10^i*dig a i+(b%10^i+10^i*dig b i)=a%10^i+b%10^i+10^i*(dig a i+dig b i) by rw[Nat.mul_add];omega,Nat.add_mul_div_left _ _ hp,Nat.add_comm]
 exact e.symm
theorem yu(a b:Nat):cry a b 0=0:=by simp[cry,Nat.mod_one]
def bor(a b i:Nat):Nat:=if a%10^i<b%10^i then 1 else 0
theorem wU(a b:Nat):bor a b 0=0:=by simp[bor,Nat.mod_one]
theorem Lu(a b i:Nat):bor a b (i+1)=if dig a i<dig b i+bor a b i then 1 else 0:=by
 have hp:0<10^i:=Nat.pow_pos Xc
 have h1:=Nat.mod_lt a hp
 have h2:=Nat.mod_lt b hp
 unfold bor
 rw[l5,l5]
 generalize dig a i=x
 generalize dig b i=y
 generalize a%10^i=ra at *
 generalize b%10^i=rb at *
 generalize 10^i=p at *
 rcases Nat.lt_trichotomy x y with h|h|h
 ·have:=Nat.mul_le_mul_left p (show x+1≤y from h)
  rw[Nat.mul_add]at this
  rw[if_pos Xa,if_pos (Xa)]
 ·subst h
  by_cases hr:ra<rb
  ·rw[if_pos Xa,if_pos hr,if_pos (Xa)]
  ·rw[if_neg Xa,if_neg hr,if_neg (Xa)]
 ·have:=Nat.mul_le_mul_left p (show y+1≤x from h)
  rw[Nat.mul_add]at this
  rw[if_neg (Xa)]
  split<;>rw[if_neg (Xa)]
theorem Fi(a b i:Nat)(h:b≤a):(a-b)/10^i+b/10^i+bor a b i=a/10^i:=by
 have hp:0<10^i:=Nat.pow_pos Xc
 have h1:=AE (a-b) b i
 rw[Nat.sub_add_cancel h]at h1
 have h2:cry (a-b) b i=bor a b i:=by
  have e:=Nat.div_add_mod a (10^i)
  have e2:a%10^i+10^i*cry (a-b) b i=(a-b)%10^i+b%10^i:=by
   have g1:=Nat.div_add_mod (a-b) (10^i)
   have g2:=Nat.div_add_mod b (10^i)
   rw[h1,Nat.mul_add,Nat.mul_add]at e
   omega
  have r1:=Nat.mod_lt a hp
  have r2:=Nat.mod_lt b hp
  have r3:=Nat.mod_lt (a-b) hp
  have hc:=LP (a-b) b i
  unfold bor
  rcases(Xa:cry (a-b) b i=0∨cry (a-b) b i=1)with hc|hc<;>rw[hc]at e2 ⊢
  ·rw[if_neg (Xa)]
  ·rw[if_pos (Xa)]
 omega
theorem Pl(a b i:Nat)(h:b≤a):(dig a i:Int)-dig b i-bor a b i=dig (a-b) i-10*bor a b (i+1):=by
 have h1:=Fi a b i h
 rw[Lu]
 have hb:bor a b i≤1:=by unfold bor;split<;>omega
 unfold dig
 split<;>omega
theorem Dn{n k:Nat}(h:n<10^k):(cO n).length≤k:=by
 induction k generalizing n with
 |zero =>
  have:n=0:=by simpa using h
  subst this;rw[bK];simp
 |succ k ih =>
  by_cases h0:n=0
  ·subst h0;rw[bK];simp
  ·rw[kZ h0,yaz]
   have:n/10<10^k:=Nat.div_lt_of_lt_mul (by rw[Nat.pow_succ]at h;omega)
   have:=ih this
   omega
theorem PA{n:Nat}(h:n≠0):10^((cO n).length-1)≤n:=by
 induction n using Nat.strongRecOn with
 |_ n ih =>
  rw[kZ h,yaz,Nat.add_sub_cancel]
  by_cases h1:n/10=0
  ·rw[h1,bK];simp;omega
  ·have:=ih (n/10) Xa h1
   have hl:(cO (n/10)).length≠0:=by rw[kZ h1];simp
   have e:(cO (n/10)).length=((cO (n/10)).length-1)+1:=Xa
   rw[e,Nat.pow_succ];omega
theorem zw{a b:Nat}(h:(cO a).length<(cO b).length):a<b:=by
 have hb:b≠0:=by intro e;subst e;rw[bK]at h;simp at h
 have h1:=PA hb
 have h2:=KT (lh a)
 rw[mN]at h2
 have h3:10^(cO a).length≤10^((cO b).length-1):=Nat.pow_le_pow_right Xc Xa
 omega
theorem zB{a b i:Nat}(h:a/10^(i+1)=b/10^(i+1))(hd:dig a i<dig b i):a<b:=by
 have hp:0<10^i:=Nat.pow_pos Xc
 rw[Nat.pow_succ,← Nat.div_div_eq_div_mul,← Nat.div_div_eq_div_mul]at h
 unfold dig at hd
 have h1:a/10^i<b/10^i:=Xa
 have h2:=Nat.div_add_mod a (10^i)
 have h3:=Nat.div_add_mod b (10^i)
 have h4:=Nat.mod_lt a hp
 have h5:=Nat.mul_le_mul_left (10^i) (show a/10^i+1≤b/10^i from h1)
 rw[Nat.mul_add]at h5
 omega
theorem Fb{a b i:Nat}(h:a/10^(i+1)=b/10^(i+1))(hd:dig a i=dig b i):a/10^i=b/10^i:=by
 rw[Nat.pow_succ,← Nat.div_div_eq_div_mul,← Nat.div_div_eq_div_mul]at h
 unfold dig at hd
 omega
theorem Ar{n:Nat}{k:Nat}(h:(cO n).length≤k):n/10^k=0:=by
 have h2:=KT (lh n)
 rw[mN]at h2
 exact Nat.div_eq_of_lt (Nat.lt_of_lt_of_le h2 (Nat.pow_le_pow_right Xc h))
end Go.AL
open Go Go.AL Go.Proofs
namespace Go.AL
theorem Ke:ti Tryz.prog 4=some ⟨.bool,1,1,.bool false⟩:=krf
theorem NK:tSl Tryz.prog 50 3:=kSl
theorem QI:ti Tryz.prog 270=some ⟨.struct [(0,4,false),(1,50,false)],2,32,.agg [.bool false,.slice .nil 1 []]⟩:=krf
attribute [go_sem] Ke NK QI
def C3(l:List AV):Prop:=isI l∧isD (uni l)
theorem ah{l:List Nat}:C3 (cU l)=isD l:=by unfold C3;rw[yG,gT];simp
theorem pB{l:List AV}(h:C3 l):∃ xs,l=cU xs∧isD xs:=⟨_,h.1,h.2⟩
def GW:PCt
 |[.slice _ 1 l,.int .i64 i],_,K=>(isI l∧0≤i)∧K (.int .i64 ((uni l).getD i.toNat 0:Nat))
 |_,_,_=>False
theorem Mt:EPp 221 GW:=by
 refine Ype fun _ H K h=>?_
 unfold GW at h
 split at h<;>try exact h.elim
 rename_i m l i
 obtain⟨⟨c1,h0⟩,hK⟩:=h
 refine⟨_,hK,?_⟩
 obtain⟨xs,rfl⟩:=Nu c1
 obtain⟨j,rfl⟩:=Int.eq_ofNat_of_zero_le h0
 rw[gT,iNq]
 clear hK c1 h0
 refine Yfu az tNq Tryz.func221 [.tmp 4] fun hcl=>?_
 simp only[go_sem,eB,iNq]
 refine aq (fun h1=>?_) (fun h1=>?_)
 ·have h1':j<xs.length:=by simpa using h1
  simp only[go_sem,eB,iNq,jv h1',mu h1']
  exact V32
 ·have h1':xs.length≤j:=by simpa using h1
  have e:xs.getD j 0=0:=by simp[gEq,h1']
  simp only[go_sem,eB,iNq,e]
  exact Z0
def BJ:PCt
 |[.slice _ 1 l,.slice _ 1 m],_,K=>(C3 l∧C3 m∧l.length≤1000∧m.length≤1000)∧K (.slice .any 1 (cU (first (max l.length m.length+1) (dv (uni l)+dv (uni m)))))
 |_,_,_=>False
theorem Lk:EPp 214 BJ:=by
 refine Ype fun _ H K h=>?_
 unfold BJ at h
 split at h<;>try exact h.elim
 rename_i ma l mb m
 obtain⟨⟨c1,c2,l1,l2⟩,hK⟩:=h
 refine⟨_,hK,?_⟩
 obtain⟨xs,rfl,hx⟩:=pB c1
 obtain⟨ys,rfl,hy⟩:=pB c2
 rw[gT,gT]
 rw[eB]at l1 l2 ⊢
 rw[eB]
 clear hK c1 c2
 refine Yfu az (tCq Mt tNq) Tryz.func214 [.tmp 4] fun hcl=>?_
 generalize hn:max xs.length ys.length+1=n
 have hw:IntKind.i64.wrap (max (xs.length:Int) (ys.length:Int)+1)=(n:Int):=Xe
 simp only[go_sem,eB]
 refine aA (A:=Nat) (fun k=>[(7,.int .i64 (k:Int)),(6,.int .i64 (cry (dv xs) (dv ys) k:Nat)),(5,.slice (.own (H.nx+1)) 1 (cU (first k (dv xs+dv ys)))),(1,.slice .any 1 (cU ys)),(0,.slice .any 1 (cU xs))])
  (fun k=>(H.push (.buf 1 0)).push (.buf 1 k)) (fun k=>k≤n) (fun k=>n-k) 0 Xa ?_ fun k hk=>?_
 ·(simp only[bkq,enterW,aJ,ltF,ne_eq,Nat.reduceEqDiff,reduceCtorEq,yu,first,List.range_zero,yaf,fG];try simp (disch:=first|exact Zd|omega) [↓zmo,beq,ybc,ybd,ybe,af,wk,wk2,wk1,wkM,wkL,aj,ybf,byq,biq,ah,hcl,yu,first,List.range_zero,yaf,fG];try(repeat' (first|assumption|omega|exact True.intro|refine And.intro ?_ ?_|refine ag ?_|refine ae ?_|refine aa ?_ ?_|refine ai ?_ ?_|refine au ?_|exact lRq _|refine lPq ?_ _|refine AHeap.Le.del ?_ ?_|(simp only[bt,and_true,true_and,yu,first,List.range_zero,yaf,fG];first|done|omega|(simp;done)))))
 simp only[go_sem,eB,hw]
 refine aq (fun h1=>?_) (fun h1=>?_)
 ·have h1':k<n:=by simpa using h1
  have d1:=uQ (dv xs) k
  have d2:=uQ (dv ys) k
  have hc:=LP (dv xs) (dv ys) k
  have e1:IntKind.i64.wrap ((dig (dv xs) k:Nat)+(dig (dv ys) k:Nat):Int)=((dig (dv xs) k+dig (dv ys) k:Nat):Int):=Xe
  have e2:IntKind.i64.wrap (((dig (dv xs) k+dig (dv ys) k:Nat):Int)+(cry (dv xs) (dv ys) k:Nat))=((dig (dv xs) k+dig (dv ys) k+cry (dv xs) (dv ys) k:Nat):Int):=Xe
  have e3:(((dig (dv xs) k+dig (dv ys) k+cry (dv xs) (dv ys) k:Nat):Int)).tmod 10=(dig (dv xs+dv ys) k:Nat):=by
   rw[Int.tmod_eq_emod_of_nonneg Xa,← Om];omega
  have e4:IntKind.i64.wrap ((((dig (dv xs) k+dig (dv ys) k+cry (dv xs) (dv ys) k:Nat):Int)).tdiv 10)=(cry (dv xs) (dv ys) (k+1):Nat):=by
   rw[Int.tdiv_eq_ediv_of_nonneg Xa,← OV,wrap_i64]<;>omega
  have e5:=Yk5 k
  simp only[go_sem,biq,ah,GW,oh hx,oh hy,e1,e2,e3,e4,e5,kw,← oz]
  refine⟨Xa,Xa,Xa,⟨Xa,Xa⟩,Xa,k+1,Xa,Xa,?_⟩
  exact Z1
 ·exact V167
def tT:PCt
 |[.slice _ 1 l,.slice _ 1 m],_,K=>(C3 l∧C3 m∧l.length≤1000∧m.length≤1000∧dv (uni m)≤dv (uni l))∧K (.slice .any 1 (cU (first l.length (dv (uni l)-dv (uni m)))))
 |_,_,_=>False
theorem Jl:EPp 216 tT:=by
 refine Ype fun _ H K h=>?_
 unfold tT at h
 split at h<;>try exact h.elim
 rename_i ma l mb m
 obtain⟨⟨c1,c2,l1,l2,hle⟩,hK⟩:=h
 refine⟨_,hK,?_⟩
 obtain⟨xs,rfl,hx⟩:=pB c1
 obtain⟨ys,rfl,hy⟩:=pB c2
 rw[gT,gT]at hle ⊢
 rw[eB]at l1 l2 ⊢
 clear hK c1 c2
 refine Yfu az (tCq Mt tNq) Tryz.func216 [.tmp 4] fun hcl=>?_
 generalize hn:xs.length=n at *
 simp only[go_sem,biq,ah,hn]
 refine aA (A:=Nat) (fun k=>[(11,.int .i64 (k:Int)),(10,.int .i64 (n:Int)),(6,.int .i64 (bor (dv xs) (dv ys) k:Nat)),(5,.slice (.own (H.nx+1)) 1 (cU (first k (dv xs-dv ys)))),(1,.slice .any 1 (cU ys)),(0,.slice .any 1 (cU xs))])
  (fun k=>(H.push (.buf 1 0)).push (.buf 1 k)) (fun k=>k≤n) (fun k=>n-k) 0 Xa ?_ fun k hk=>?_
 ·(simp only[bkq,enterW,aJ,ltF,ne_eq,Nat.reduceEqDiff,reduceCtorEq,wU,first,List.range_zero,yaf,fG];try simp (disch:=first|exact Zd|omega) [↓zmo,beq,ybc,ybd,ybe,af,wk,wk2,wk1,wkM,wkL,aj,ybf,byq,biq,ah,hcl,wU,first,List.range_zero,yaf,fG];try(repeat' (first|assumption|omega|exact True.intro|refine And.intro ?_ ?_|refine ag ?_|refine ae ?_|refine aa ?_ ?_|refine ai ?_ ?_|refine au ?_|exact lRq _|refine lPq ?_ _|refine AHeap.Le.del ?_ ?_|(simp only[bt,and_true,true_and,wU,first,List.range_zero,yaf,fG];first|done|omega|(simp;done)))))
 simp only[go_sem,biq,ah]
 refine aq (fun h1=>?_) (fun h1=>?_)
 ·have h1':k<n:=by simpa using h1
  have d1:=uQ (dv xs) k
  have d2:=uQ (dv ys) k
  have d3:=uQ (dv xs-dv ys) k
  have hc:bor (dv xs) (dv ys) k≤1:=by unfold bor;split<;>omega
  have hc2:bor (dv xs) (dv ys) (k+1)≤1:=by unfold bor;split<;>omega
  have hs:=Pl (dv xs) (dv ys) k hle
  have hkx:k<xs.length:=Xa
  have e1:IntKind.i64.wrap ((dig (dv xs) k:Nat)-(dig (dv ys) k:Nat):Int)=(dig (dv xs) k:Nat)-(dig (dv ys) k:Nat):=Xe
  have e2:IntKind.i64.wrap ((dig (dv xs) k:Nat)-(dig (dv ys) k:Nat)-(bor (dv xs) (dv ys) k:Nat):Int)=(dig (dv xs-dv ys) k:Nat)-10*(bor (dv xs) (dv ys) (k+1):Nat):=by rw[hs,wrap_i64]<;>omega
  have e5:=Yk5 k
  simp only[go_sem,biq,ah,GW,jv hkx,mu hkx,hn,oh hx,oh hy,e1,e2]
  refine⟨Xa,Xa,aq (fun h2=>?_) (fun h2=>?_)⟩
  ·have h2':bor (dv xs) (dv ys) (k+1)=1:=by simp at h2;omega
   have e3:IntKind.i64.wrap ((dig (dv xs-dv ys) k:Nat)-10*(bor (dv xs) (dv ys) (k+1):Nat)+10:Int)=(dig (dv xs-dv ys) k:Nat):=Xe
   have e4:(1:Int)=(bor (dv xs) (dv ys) (k+1):Nat):=Xa
   exact V134
  ·have h2':bor (dv xs) (dv ys) (k+1)=0:=by simp at h2;omega
   have e3:((dig (dv xs-dv ys) k:Nat)-10*(bor (dv xs) (dv ys) (k+1):Nat):Int)=(dig (dv xs-dv ys) k:Nat):=Xa
   exact V134
 ·exact V167
def qC:PCt
 |[.slice _ 1 l,.slice _ 1 m],_,K=>∃ a b,(l=cU (cO a)∧m=cU (cO b)∧l.length≤1000∧m.length≤1000)∧K (.int .i64 (if a=b then 0 else if a<b then -1 else 1))
 |_,_,_=>False
theorem Cm:EPp 215 qC:=by
 refine Ype fun _ H K h=>?_
 unfold qC at h
 split at h<;>try exact h.elim
 rename_i ma l mb m
 obtain⟨a,b,⟨rfl,rfl,l1,l2⟩,hK⟩:=h
 refine⟨_,hK,?_⟩
 rw[eB]at l1 l2
 clear hK
 refine Yfu az tNq Tryz.func215 [.tmp 4] fun hcl=>?_
 simp only[go_sem,biq,ah]
 refine aq (fun h1=>?_) (fun h1=>?_)
 ·have h1':(cO a).length≠(cO b).length:=by simp at h1;omega
  have hne:a≠b:=fun h=>h1' (by rw[h])
  simp only[go_sem,biq,ah,if_neg hne]
  refine aq (fun h2=>?_) (fun h2=>?_)
  ·have h2':(cO a).length<(cO b).length:=by simpa using h2
   simp only[go_sem,biq,ah,if_pos (zw h2')]
   exact Z0
  ·have h2':¬ (cO a).length<(cO b).length:=by simpa using h2
   have:=zw (show(cO b).length<(cO a).length by omega)
   simp only[go_sem,biq,ah,if_neg (show ¬ a<b by omega)]
   exact Z0
 have h1':(cO a).length=(cO b).length:=by simp at h1;omega
 have ew:IntKind.i64.wrap (((cO a).length:Int)-1)=((cO a).length:Int)-1:=Xe
 simp only[go_sem,biq,ah,ew]
 refine eZ (A:=Nat) (fun k=>[(5,.int .i64 ((k:Int)-1)),(1,.slice mb 1 (cU (cO b))),(0,.slice ma 1 (cU (cO a)))])
  (fun k=>H) (fun k=>k≤(cO a).length∧a/10^k=b/10^k) (fun k=>k) (cO a).length ⟨nrq _,by rw[Ar (nrq _),Ar (by omega)]⟩ ?_ fun k hk=>?_
 ·exact Z3
 obtain⟨hk,hab⟩:=hk
 simp only[go_sem,biq,ah]
 refine aq (fun h2=>?_) (fun h2=>?_)
 ·obtain⟨j,rfl⟩:∃ j,k=j+1:=⟨k-1,by simp at h2;omega⟩
  have ej:(((j+1:Nat):Int)-1)=(j:Int):=Xa
  have eg1:=oh (lh a) j
  have eg2:=oh (lh b) j
  rw[mN]at eg1 eg2
  have e3:IntKind.i64.wrap ((j:Int)-1)=(j:Int)-1:=Xe
  simp only[go_sem,biq,ah,ej,jv (show j<(cO a).length by omega),mu (show j<(cO a).length by omega),jv (show j<(cO b).length by omega),mu (show j<(cO b).length by omega),eg1,eg2,e3]
  refine⟨Xa,Xa,aq (fun h3=>?_) (fun h3=>?_)⟩
  ·have h3':dig a j≠dig b j:=by simp at h3;omega
   have hne:a≠b:=fun h=>h3' (by rw[h])
   simp only[go_sem,biq,ah,if_neg hne,jv (show j<(cO a).length by omega),mu (show j<(cO a).length by omega),jv (show j<(cO b).length by omega),mu (show j<(cO b).length by omega),eg1,eg2]
   refine⟨Xa,Xa,aq (fun h4=>?_) (fun h4=>?_)⟩
   ·have:=zB hab (show dig a j<dig b j by simpa using h4)
    simp only[go_sem,biq,ah,if_pos this]
    exact Z0
   ·have:=zB hab.symm (show dig b j<dig a j by simp at h4;omega)
    simp only[go_sem,biq,ah,if_neg (show ¬ a<b by omega)]
    exact Z0
  ·have h3':dig a j=dig b j:=by simp at h3;omega
   simp only[go_sem,biq,ah,e3]
   refine⟨j,⟨Xa,Fb hab h3'⟩,Xa,?_⟩
   exact Z3
 ·have h2':k=0:=by simp at h2;omega
  subst h2'
  have he:a=b:=by simpa using hab
  simp only[go_sem,biq,ah,if_pos he]
  exact Z0
def rAV(m:Bool)(n:Nat):AV:=.agg [.bool (m&&n !=0),.slice .any 1 (cU (cO n))]
theorem Dd{m mm:Bool}{x:List Nat}(h1:isD x)(h2:x.getLast?≠some 0)(h3:mm=(m&&x !=[])):AV.agg [AV.bool mm,AV.slice .any 1 (cU x)]=rAV m (dv x):=by
 have e:=Ig h1 h2
 unfold rAV
 rw[e,h3]
 have:(x !=[])=(dv x !=0):=by
  cases x with
  |nil=>rfl
  |cons a x =>
   have:dv (a::x)≠0:=fun h0=>by rw[h0,bK]at e;cases e
   rw[bne_iff_ne.2 this];rfl
 rw[this]
def mK:PCt
 |[.bool m,.slice _ 1 l],_,K=>(C3 l∧l.length≤100000)∧K (rAV m (dv (uni l)))
 |_,_,_=>False
theorem yH:EPp 213 mK:=by
 refine Ype fun _ H K h=>?_
 unfold mK at h
 split at h<;>try exact h.elim
 rename_i m mk l
 obtain⟨⟨c1,l1⟩,hK⟩:=h
 refine⟨_,hK,?_⟩
 obtain⟨xs,rfl,hx⟩:=pB c1
 rw[gT]
 rw[eB]at l1
 clear hK c1
 refine Yfu az tNq Tryz.func213 [.cell 4 270] fun hcl=>?_
 simp only[go_sem,biq,ah]
 refine aA (A:=List Nat) (fun x=>[(1,.slice .any 1 (cU x)),(0,.bool m),(4,.ptr H.nx 0)])
  (fun x=>H.push (.cells [.bool false,.slice .nil 1 []])) (fun x=>isD x∧dv x=dv xs∧x.length≤100000) (fun x=>x.length) xs ⟨hx,rfl,l1⟩ ?_ fun x hI=>?_
 ·exact Z1
 obtain⟨hxd,hdv,hxl⟩:=hI
 rw[← hdv]
 rcases List.eq_nil_or_concat x with rfl|⟨y,d,rfl⟩
 ·have hd:decide (((0:Nat):Int)>0)=false:=rfl
  have ff:AV.agg [AV.bool false,AV.slice .any 1 []]=rAV m (dv []):=Dd hxd Xb (by cases m<;>rfl)
  simp only[go_sem,biq,ah,zau,hd]
  refine bx (fun h1=>?_) (fun h1=>?_)
  all_goals
   try simp only[go_sem,biq,ah,zau,hd]
   rw[← ff]
   simp (disch:=first|exact Zd|omega) [↓zmo,beq,ybc,ybd,ybe,af,wk,wk2,wk1,wkM,wkL,aj,ybf,hcl]
 ·rw[List.concat_eq_append]at *
  rw[lAq,List.length_singleton]at hxl
  have e1:IntKind.i64.wrap (((y++[d]).length:Int)-1)=((y.length:Nat):Int):=by simp;rw[wrap_i64]<;>omega
  have hlen:y.length<(y++[d]).length:=Xb
  have hd:decide (((y++[d]).length:Int)>0)=true:=dtq Xb
  have eg:(y++[d]).getD y.length 0=d:=by simp[gEq]
  have et:(y++[d]).take y.length=y:=Xb
  simp only[go_sem,biq,ah,hd,e1,jv hlen,eg]
  refine⟨Xa,aq (fun h1=>?_) (fun h1=>?_)⟩
  ·have h1':d=0:=by simp at h1;omega
   simp only[go_sem,biq,ah,e1,et,yap]
   refine⟨Xa,y,⟨fun x hx=>hxd x (by simp[hx]),?_,Xa⟩,Xb,?_⟩
   ·rw[nI,h1'];simp[dv]
   ·exact Z1
  ·have h1':d≠0:=by simp at h1;omega
   have ff:AV.agg [AV.bool (m&&true),AV.slice .any 1 (cU (y++[d]))]=rAV m (dv (y++[d])):=Dd hxd (by simp;exact h1') Xb
   simp only[go_sem,biq,ah,hd,zau,h1]
   rw[← ff]
   refine bx (fun h1=>?_) (fun h1=>?_)
   all_goals
    subst h1
    try simp only[go_sem,biq,ah]
    simp (disch:=first|exact Zd|omega) [↓zmo,beq,ybc,ybd,ybe,af,wk,wk2,wk1,wkM,wkL,aj,ybf,hcl]
end Go.AL
open Go Go.AL Go.Proofs
namespace Go.AL
def zAV(a:Int):AV:=.agg [.bool (decide (a<0)),.slice .any 1 (cU (cO a.natAbs))]
theorem qQ(m:Bool)(n:Nat):rAV m n=zAV (if m=true then -(n:Int)else n):=by
 unfold rAV zAV
 cases m
 ·simp
 ·simp only[Bool.true_and,if_true,Int.natAbs_neg,Int.natAbs_natCast]
  congr 3
  rw[Bool.eq_iff_iff];simp;omega
def fE(a:Int):Prop:=a.natAbs<10^200
theorem uX{a:Int}(h:fE a):(cO a.natAbs).length≤200:=Dn h
theorem DK{a b:Int}(h:fE a)(hb:b.natAbs≤a.natAbs):fE b:=Nat.lt_of_le_of_lt hb h
theorem oQ{k n:Nat}(h:n<10^k):dv (first k n)=n:=by rw[JU,Nat.mod_eq_of_lt h]
theorem sR(n:Nat):n<10^(cO n).length:=by have:=KT (lh n);rwa[mN]at this
theorem rN{n k:Nat}(h:(cO n).length≤k):n<10^k:=Nat.lt_of_lt_of_le (sR n) (Nat.pow_le_pow_right Xc h)
theorem Kz(a b:Nat):a+b<10^(max (cO a).length (cO b).length+1):=by
 have h1:=@rN a (max (cO a).length (cO b).length) (Nat.le_max_left _ _)
 have h2:=@rN b (max (cO a).length (cO b).length) (Nat.le_max_right _ _)
 rw[Nat.pow_succ];omega
def jO:PCt
 |[x,y],_,K=>∃ a b,(x=zAV a∧y=zAV b∧fE a∧fE b)∧K (zAV (a+b))
 |_,_,_=>False
theorem wH:EPp 204 jO:=by
 refine Ype fun _ H K h=>?_
 unfold jO at h
 split at h<;>try exact h.elim
 obtain⟨a,b,⟨rfl,rfl,ha,hb⟩,hK⟩:=h
 refine⟨_,hK,?_⟩
 clear hK
 refine Yfw az (tCq Lk (tCq Jl (tCq Cm (tCq yH tNq)))) Tryz.func204 [.cell 4 270] (nrq _) (T:=ay [(2,[[],[],[],[],[],[],[3,5],[1,3,5,6],[1,3,5,6,7]]),(4,[[],[],[],[],[],[],[3,5],[1,3,5,6],[1,3,5,6,7]]),(5,[[],[],[],[],[],[],[3,5],[1,3,5,6],[1,3,5,6,7]])]) (h:=fun hcl=>?_)
 have la:=uX ha
 have lb:=uX hb
 have ia:=lh a.natAbs
 have ib:=lh b.natAbs
 have fi:∀ k n,isD (first k n):=HJ
 simp only[go_sem,biq,ah,zAV]
 refine aq (fun h1=>?_) (fun h1=>?_)
 ·have e1:rAV (decide (a<0)) (dv (first (max (cO a.natAbs).length (cO b.natAbs).length+1) (a.natAbs+b.natAbs)))=.agg [.bool (decide (a+b<0)),.slice .any 1 (cU (cO (a+b).natAbs))]:=by
   rw[oQ (Kz _ _),qQ]
   show zAV _=zAV (a+b)
   congr 1
   have h1':decide (a<0)=decide (b<0):=by simpa using h1
   by_cases hn:a<0
   ·have:b<0:=by rw[dtq hn]at h1';simpa using h1'.symm
    rw[dtq hn,if_pos rfl];omega
   ·have:¬ b<0:=by rw[dfq hn]at h1';simpa using h1'.symm
    exact V162
  simp only[go_sem,biq,ah,BJ,mK,mN,kw,ia,ib,fi,e1]
  exact V109
 ·simp only[go_sem,biq,ah,qC]
  refine⟨a.natAbs,b.natAbs,⟨rfl,rfl,Xa,Xa⟩,aq (fun h2=>?_) (fun h2=>?_)⟩
  ·have hab:b.natAbs≤a.natAbs:=by
    simp only[decide_eq_true_eq]at h2
    split at h2
    ·omega
    ·split at h2<;>omega
   have e1:rAV (decide (a<0)) (dv (first (cO a.natAbs).length (a.natAbs-b.natAbs)))=.agg [.bool (decide (a+b<0)),.slice .any 1 (cU (cO (a+b).natAbs))]:=by
    rw[oQ (Nat.lt_of_le_of_lt (Nat.sub_le _ _) (sR _)),qQ]
    show zAV _=zAV (a+b)
    congr 1
    by_cases hn:a<0
    ·have:¬ b<0:=by rw[dtq hn]at h1;simpa using h1
     rw[dtq hn,if_pos rfl];omega
    ·have:b<0:=by rw[dfq hn]at h1;simpa using h1
     exact V162
   simp only[go_sem,biq,ah,tT,mK,mN,kw,ia,ib,fi,e1]
   exact V109
  ·have hab:a.natAbs<b.natAbs:=by
    simp only[decide_eq_false_iff_not]at h2
    split at h2
    ·omega
    ·split at h2<;>omega
   have e1:rAV (decide (b<0)) (dv (first (cO b.natAbs).length (b.natAbs-a.natAbs)))=.agg [.bool (decide (a+b<0)),.slice .any 1 (cU (cO (a+b).natAbs))]:=by
    rw[oQ (Nat.lt_of_le_of_lt (Nat.sub_le _ _) (sR _)),qQ]
    show zAV _=zAV (a+b)
    congr 1
    by_cases hn:b<0
    ·have:¬ a<0:=fun h=>by simp[h,hn]at h1
     rw[dtq hn,if_pos rfl];omega
    ·have:a<0:=by
      by_cases h:a<0
      ·exact h
      ·simp[h,hn]at h1
     exact V162
   simp only[go_sem,biq,ah,tT,mK,mN,kw,ia,ib,fi,e1]
   exact V109
def Et:PCt
 |[x],_,K=>∃ a,(x=zAV a∧fE a)∧K (zAV (-a))
 |_,_,_=>False
theorem Gv:EPp 211 Et:=by
 refine Ype fun _ H K h=>?_
 unfold Et at h
 split at h<;>try exact h.elim
 obtain⟨a,⟨rfl,ha⟩,hK⟩:=h
 refine⟨_,hK,?_⟩
 clear hK
 refine Yfu az (tCq yH tNq) Tryz.func211 [.cell 2 270] fun hcl=>?_
 have la:=uX ha
 have ia:=lh a.natAbs
 have e1:rAV (!decide (a<0)) a.natAbs=.agg [.bool (decide (-a<0)),.slice .any 1 (cU (cO (-a).natAbs))]:=by
  rw[qQ]
  show zAV _=zAV (-a)
  congr 1
  by_cases hn:a<0
  ·simp[hn];omega
  ·simp[hn];omega
 simp only[go_sem,biq,ah,zAV,mK,mN,ia,e1]
 exact V32
def Ei:PCt
 |[x,y],_,K=>∃ a b,(x=zAV a∧y=zAV b∧fE a∧fE b)∧K (zAV (a-b))
 |_,_,_=>False
theorem G0:EPp 209 Ei:=by
 refine Ype fun _ H K h=>?_
 unfold Ei at h
 split at h<;>try exact h.elim
 obtain⟨a,b,⟨rfl,rfl,ha,hb⟩,hK⟩:=h
 refine⟨_,hK,?_⟩
 clear hK
 refine Yfw az (tCq Gv (tCq wH tNq)) Tryz.func209 [.cell 4 270] (nrq _) (T:=ay [(1,[[],[],[1],[0,1,2],[0,1,2,3]])]) (h:=fun hcl=>?_)
 simp only[go_sem,biq,ah,zAV,Et]
 refine⟨b,⟨rfl,hb⟩,?_⟩
 simp only[go_sem,biq,ah,zAV,jO]
 refine⟨a,-b,⟨rfl,rfl,ha,DK hb Xa⟩,?_⟩
 have en:a + -b=a-b:=Xa
 simp only[go_sem,biq,ah,zAV,en]
 exact Z0
def Fk:PCt
 |[x,y],_,K=>∃ a b,(x=zAV a∧y=zAV b∧fE a∧fE b)∧K (.int .i64 (if a=b then 0 else if a<b then -1 else 1))
 |_,_,_=>False
theorem GL:EPp 192 Fk:=by
 refine Ype fun _ H K h=>?_
 unfold Fk at h
 split at h<;>try exact h.elim
 obtain⟨a,b,⟨rfl,rfl,ha,hb⟩,hK⟩:=h
 refine⟨_,hK,?_⟩
 clear hK
 refine Yfu az (tCq G0 tNq) Tryz.func192 [.tmp 4] fun hcl=>?_
 simp only[go_sem,biq,ah,zAV,Ei]
 refine⟨a,b,⟨rfl,rfl,ha,hb⟩,?_⟩
 try simp only[go_sem,biq,ah,zAV]
 refine aq (fun h1=>?_) (fun h1=>?_)
 ·have h1':a<b:=by simp at h1;omega
  simp only[go_sem,biq,ah,if_neg (show ¬ a=b by omega),if_pos h1']
  exact Z0
 ·have h1':b≤a:=by simp at h1;omega
  simp only[go_sem,biq,ah]
  refine aq (fun h2=>?_) (fun h2=>?_)
  ·have h2':a≠b:=fun h=>by subst h;simp[bK]at h2
   simp only[go_sem,biq,ah,if_neg h2',if_neg (show ¬ a<b by omega)]
   exact Z0
  ·have h2':a=b:=by
    by_cases h:(a-b).natAbs=0
    ·omega
    ·rw[kZ h]at h2;simp at h2
   simp only[go_sem,biq,ah,if_pos h2']
   exact Z0
def gu:PCt
 |[.int .i64 n],_,K=>(-9223372036854775808≤n∧n<9223372036854775808)∧K (zAV n)
 |_,_,_=>False
theorem EK:EPp 202 gu:=by
 refine Ype fun _ H K h=>?_
 unfold gu at h
 split at h<;>try exact h.elim
 rename_i n
 obtain⟨⟨h0,h1⟩,hK⟩:=h
 refine⟨_,hK,?_⟩
 clear hK
 refine Yfu az (tCq yH tNq) Tryz.func202 [.cell 2 270] fun hcl=>?_
 simp only[go_sem,biq,ah]
 refine aA (A:=Nat × List Nat) (fun x=>[(0,.int .i64 (if n<0 then -(x.1:Int)else x.1)),(2,.ptr H.nx 0),(3,.bool (decide (n<0))),(4,.slice (.own (H.nx+1)) 1 (cU x.2))])
  (fun x=>(H.push (.cells [.bool false,.slice .nil 1 []])).push (.buf 1 x.2.length)) (fun x=>n.natAbs=dv x.2+10^x.2.length*x.1∧isD x.2∧x.2.length≤20∧x.1<10^(20-x.2.length)) (fun x=>x.1) (n.natAbs,[]) ⟨by simp[dv],fun d hd=>(by cases hd),Xb,Xd⟩ ?_ fun x hI=>?_
 ·have e0:(if n<0 then -((n.natAbs:Nat):Int)else((n.natAbs:Nat):Int))=n:=by split<;>omega
  (simp only[bkq,enterW,aJ,ltF,ne_eq,Nat.reduceEqDiff,reduceCtorEq,e0];try simp (disch:=first|exact Zd|omega) [↓zmo,beq,ybc,ybd,ybe,af,wk,wk2,wk1,wkM,wkL,aj,ybf,byq,biq,ah,hcl,e0];try(repeat' (first|assumption|omega|exact True.intro|refine And.intro ?_ ?_|refine ag ?_|refine ae ?_|refine aa ?_ ?_|refine ai ?_ ?_|refine au ?_|exact lRq _|refine lPq ?_ _|refine AHeap.Le.del ?_ ?_|(simp only[bt,and_true,true_and,e0];first|done|omega|(simp;done)))))
 obtain⟨m,l⟩:=x
 obtain⟨hn,hl,hle,hm⟩:=hI
 dsimp only at *
 have hmb:m≤9223372036854775808:=by
  have:1≤10^l.length:=Nat.pow_pos Xc
  have:=Nat.mul_le_mul_right m this
  omega
 by_cases hs:n<0
 ·skip
  have er:(-(m:Int)).tmod 10 = -((m%10:Nat):Int):=by rw[Int.neg_tmod,Int.tmod_eq_emod_of_nonneg (by omega)];omega
  have eq:IntKind.i64.wrap ((-(m:Int)).tdiv 10) = -((m/10:Nat):Int):=by rw[Int.neg_tdiv,Int.tdiv_eq_ediv_of_nonneg (by omega),wrap_i64]<;>omega
  simp only[go_sem,biq,ah,if_pos hs,er,eq]
  refine aq (fun h2=>?_) (fun h2=>?_)
  ·have h2':m≠0:=by simp at h2;omega
   have hl20:l.length<20:=by
    exact V160
   have hq:m/10<10^(20-(l.length+1)):=Nat.div_lt_of_lt_mul (by rw[Nat.mul_comm,← Nat.pow_succ,show(20-(l.length+1)).succ=20-l.length by omega];exact hm)
   simp only[go_sem,biq,ah,if_pos hs,er,eq]
   refine⟨Xa,aq (fun h3=>?_) (fun h3=>?_)⟩
   ·have en:IntKind.i64.wrap (0 - -((m%10:Nat):Int))=((m%10:Nat):Int):=Xe
    exact V41
   ·have en : -((m%10:Nat):Int)=((m%10:Nat):Int):=by simp at h3;omega
    exact V41
  ·have h2':m=0:=by simp at h2;omega
   have ev:rAV (decide (n<0)) (dv l)=.agg [.bool (decide (n<0)),.slice .any 1 (cU (cO n.natAbs))]:=by
    exact V145
   simp only[go_sem,biq,ah,if_pos hs,mK,hl,ev,zAV]
   exact V32
 ·skip
  have er:((m:Int)).tmod 10=((m%10:Nat):Int):=by rw[Int.tmod_eq_emod_of_nonneg (by omega)];omega
  have eq:IntKind.i64.wrap (((m:Int)).tdiv 10)=((m/10:Nat):Int):=by rw[Int.tdiv_eq_ediv_of_nonneg (by omega),wrap_i64]<;>omega
  simp only[go_sem,biq,ah,if_neg hs,er,eq]
  refine aq (fun h2=>?_) (fun h2=>?_)
  ·have h2':m≠0:=by simp at h2;omega
   have hl20:l.length<20:=by
    exact V160
   have hq:m/10<10^(20-(l.length+1)):=Nat.div_lt_of_lt_mul (by rw[Nat.mul_comm,← Nat.pow_succ,show(20-(l.length+1)).succ=20-l.length by omega];exact hm)
   simp only[go_sem,biq,ah,if_neg hs,er,eq]
   have hd3:decide (((m%10:Nat):Int)<0)=false:=dfq Xa
   simp only[go_sem,biq,ah,if_neg hs,er,eq,zau,hd3]
   refine⟨Xa,?_⟩
   refine⟨⟨Xa,Xa⟩,Xa,(m/10,l++[m%10]),⟨?_,?_,Xd,by simpa using hq⟩,Xa,?_⟩
   ·rw[hn,nI,lAq,List.length_singleton,Nat.pow_succ,Nat.mul_assoc,Nat.add_assoc,← Nat.mul_add]
    congr 2;simp[dv];omega
   ·exact fun d hd=>by
     rcases List.mem_append.1 hd with hd|hd
     ·exact hl d hd
     ·rw[List.mem_singleton.1 hd];omega
   ·(simp only[bkq,enterW,aJ,ltF,ne_eq,Nat.reduceEqDiff,reduceCtorEq,if_neg hs];try simp (disch:=first|exact Zd|omega) [↓zmo,beq,ybc,ybd,ybe,af,wk,wk2,wk1,wkM,wkL,aj,ybf,byq,biq,ah,hcl,if_neg hs];try(repeat' (first|assumption|omega|exact True.intro|refine And.intro ?_ ?_|refine ag ?_|refine ae ?_|refine aa ?_ ?_|refine ai ?_ ?_|refine au ?_|exact lRq _|refine lPq ?_ _|refine AHeap.Le.del ?_ ?_|(simp only[bt,and_true,true_and,if_neg hs];first|done|omega|(simp;done)))))
  ·have h2':m=0:=by simp at h2;omega
   have ev:rAV (decide (n<0)) (dv l)=.agg [.bool (decide (n<0)),.slice .any 1 (cU (cO n.natAbs))]:=by
    exact V145
   simp only[go_sem,biq,ah,if_neg hs,mK,hl,ev,zAV]
   exact V32
end Go.AL
open Go Go.AL Go.Proofs
namespace Go.AL
theorem K0:ti Tryz.prog 163=some ⟨.int .u64,1,8,.int .u64 0⟩:=krf
theorem u9:tSl Tryz.prog 22 5:=kSl
theorem Cu:ti Tryz.prog 5=some ⟨.int .u8,1,1,.int .u8 0⟩:=krf
theorem rV:ti Tryz.prog 9=some ⟨.string,1,16,.str []⟩:=krf
attribute [go_sem] K0 u9 Cu rV
theorem Im:Tryz.prog.eqGuardType Tryz.prog.depth 192=false:=krf
theorem OL:Tryz.prog.eqGuardType Tryz.prog.depth 194=false:=krf
theorem JE{a b c d e f:Int}:teq Tryz.prog 9 192 (.agg [.int .u64 a,.int .u64 b,.int .u64 c]) (.agg [.int .u64 d,.int .u64 e,.int .u64 f])=some ((a==d)&&((b==e)&&((c==f)&&true))):=by
 simp[xV,teq,teq.arr,teq.part,wQ,ceq,TD.agg]
theorem Nq{a b c d e f:Int}:teq Tryz.prog 9 194 (.agg [.int .u64 a,.int .u64 b,.int .u64 c]) (.agg [.int .u64 d,.int .u64 e,.int .u64 f])=some (((a==d)&&((b==e)&&((c==f)&&true)))&&true):=by
 have g2:Tryz.prog.stoodInHeld 194=false:=krf
 simp[AF,xV,teq,teq.go,teq.arr,teq.part,wQ,ceq,TD.agg,g2]
theorem SQ{a b:Int}(ha:isN a)(hb:isN b):((w0 a==w0 b)&&((w1 a==w1 b)&&(w2 a==w2 b)))=decide (a=b):=by
 by_cases h:a=b
 ·subst h;simp
 ·rw[dfq h]
  have:=fun h0 h1 h2=>h (R9 ha hb h0 h1 h2)
  simp only[Bool.and_eq_false_iff,beq_eq_false_iff_ne,ne_eq]
  by_cases h0:w0 a=w0 b
  ·by_cases h1:w1 a=w1 b
   ·exact .inr (.inr (this h0 h1))
   ·exact .inr (.inl h1)
  ·exact .inl h0
def kX(a b:Int):Int:=if a=b then 0 else if a<b then -1 else 1
def kD:PCt
 |[x,y],_,K=>∃ a b,(x=nAV a∧y=nAV b∧isN a∧isN b∧isN (a-b))∧K (.int .i64 (kX a b))
 |_,_,_=>False
theorem CG:EPp 182 kD:=by
 refine Ype fun _ H K h=>?_
 unfold kD at h
 split at h<;>try exact h.elim
 obtain⟨a,b,⟨rfl,rfl,ha,hb,hc⟩,hK⟩:=h
 refine⟨_,hK,?_⟩
 refine Yfv az (tCq He (tCq OU tNq)) Tryz.func182 [.tmp 4] fun hcl hlt=>?_
 clear hlt hK
 simp only[go_sem,byq,nAV,JE,Im,Bool.bne_false,SQ ha hb]
 refine aq (fun h1=>?_) (fun h1=>?_)
 ·have h1':a=b:=by simpa using h1
  simp only[go_sem,byq,kX,if_pos h1']
  exact Z0
 ·have h1':¬ a=b:=by simpa using h1
  simp only[go_sem,byq,AZ]
  refine⟨a,b,⟨rfl,rfl⟩,?_⟩
  simp only[go_sem,byq,nAV,F3]
  refine⟨a-b,⟨rfl,hc⟩,?_⟩
  refine aq (fun h2=>?_) (fun h2=>?_)
  ·have h2':a<b:=by simp at h2;omega
   refine T33 ?_
   exact Z5
  ·have h2':¬ a<b:=by simp at h2;omega
   refine T33 ?_
   exact Z5
def nT(a:Int):AV:=if 0≤a∧a<2^128 then .tup [.agg [.int .u64 (a/2^64),.int .u64 (a%2^64)],.bool true]else .tup [.agg [.int .u64 0,.int .u64 0],.bool false]
def mr:PCt
 |[x],_,K=>∃ a,(x=nAV a∧isN a)∧K (nT a)
 |_,_,_=>False
theorem zH:EPp 172 mr:=by
 refine Ype fun _ H K h=>?_
 unfold mr at h
 split at h<;>try exact h.elim
 obtain⟨a,⟨rfl,ha⟩,hK⟩:=h
 refine⟨_,hK,?_⟩
 refine Yfv az tNq Tryz.func172 [.cell 2 29,.tmp 3] fun hcl hlt=>?_
 clear hlt hK
 have hf:=Rb ha
 simp only[go_sem,byq,nAV]
 refine⟨Xa,aq (fun h1=>?_) (fun h1=>?_)⟩
 ·have h1':¬ (0≤a∧a<2^128):=fun h=>by rw[← hf]at h;simp[h]at h1
  simp only[go_sem,byq,nT,if_neg h1']
  exact Z0
 ·have h1':(0≤a∧a<2^128):=by rw[← hf];simpa using h1
  have e1:w1 a=a/2^64:=by unfold w1;omega
  have e0:w0 a=a%2^64:=rfl
  simp only[go_sem,byq,nT,if_pos h1',e1,e0]
  exact V109
end Go.AL
open Go Go.AL Go.Proofs
namespace Go.AL
theorem Lf:ti Tryz.prog 236=some ⟨.array 128 4,128,128,.agg (List.replicate 128 (.bool false))⟩:=krf
attribute [go_sem] Lf
def mD(hi lo:Int):Prop:=0≤hi∧hi<18446744073709551616∧0≤lo∧lo<18446744073709551616
def pI:PCt
 |[.agg [.int .u64 hi,.int .u64 lo]],_,K=>mD hi lo∧K (.agg (bits (vOf hi.toNat lo.toNat)))
 |_,_,_=>False
theorem uz:EPp 159 pI:=by
 refine Ype fun _ H K h=>?_
 unfold pI at h
 exact V5
theorem jC:zAV 0=.agg [.bool false,.slice .any 1 []]:=by simp[zAV,bK,fG]
theorem fA{a:Int}(k:Nat)(h:a.natAbs<10^k)(hk:k≤200):fE a:=Nat.lt_of_lt_of_le h (Nat.pow_le_pow_right Xc hk)
def wR:PCt
 |[.agg [.int .u64 hi,.int .u64 lo]],_,K=>mD hi lo∧K (zAV (hi*2^64+lo))
 |_,_,_=>False
theorem JZ:EPp 210 wR:=by
 refine Ype fun _ H K h=>?_
 unfold wR at h
 split at h<;>try exact h.elim
 rename_i hi lo
 obtain⟨⟨h0,h1,h2,h3⟩,hK⟩:=h
 refine⟨_,hK,?_⟩
 clear hK
 obtain⟨x,rfl⟩:=bv h0
 obtain⟨y,rfl⟩:=bv h2
 refine Yfw az (tCq uz (tCq EK (tCq wH tNq))) Tryz.func210 [.cell 2 270] (nrq _) (T:=ay [(8,[[],[],[0,1],[0,1,2]])]) (h:=fun hcl=>?_)
 have hv:vOf x y<2^128:=lC Xa Xa
 have hvz:((x:Int)*2^64+y)=((vOf x y:Nat):Int):=by unfold vOf;omega
 rw[hvz]
 generalize hvo:vOf x y=v at *
 have et:List.take 128 (bits v)=bits v:=ybc (by rw[bJ];omega)
 have es:splice (List.replicate 128 (.bool false)) 0 (bits v)=bits v:=eM (y:=.junk) (bJ v)
 simp only[go_sem,byq,biq,ah,pI,gu,mD,iNq,hvo,jC,bJ,fu,es]
 refine⟨Xa,Xb,Xa,?_⟩
 have hz:∀ n:Nat,AV.agg [.bool (decide (((n:Nat):Int)<0)),.slice .any 1 (cU (cO (((n:Nat):Int)).natAbs))]=zAV (n:Int):=fun n=>rfl
 have hsm:∀ k,fE ((v >>> k:Nat):Int):=fun k=>fA 40 (by rw[Int.natAbs_natCast];exact Nat.lt_of_le_of_lt (Nat.shiftRight_le v k) (Nat.lt_trans hv Xc)) Xc
 refine aA (A:=Nat) (fun k=>[(5,.int .i64 ((k:Int)-1)),(2,.ptr (H.nx+1) 0 ),(3,.ptr (H.nx+1+1) 0),(4,.ptr (H.nx+1+1+1) 0)])
  (fun k=>((((H.push (.cells [.int .u64 (x:Int),.int .u64 (y:Int)])).push (.cells [.bool false,.slice .nil 1 []])).push (.cells (bits v))).push (.cells [.bool (decide (((v >>> k:Nat):Int)<0)),.slice .any 1 (cU (cO (((v >>> k:Nat):Int)).natAbs))])))
  (fun k=>k≤128) (fun k=>k) 128 Xa ?_ fun k hk=>?_
 ·have e0:v >>> 128=0:=by rw[Nat.shiftRight_eq_div_pow,Nat.div_eq_of_lt hv]
  (simp only[bkq,enterW,aJ,ltF,ne_eq,Nat.reduceEqDiff,reduceCtorEq,e0,bK,Int.natAbs_zero,eE];try simp (disch:=first|exact Zd|omega) [↓zmo,beq,ybc,ybd,ybe,af,wk,wk2,wk1,wkM,wkL,aj,ybf,byq,biq,ah,hcl,e0,bK,Int.natAbs_zero,eE];try(repeat' (first|assumption|omega|exact True.intro|refine And.intro ?_ ?_|refine ag ?_|refine ae ?_|refine aa ?_ ?_|refine ai ?_ ?_|refine au ?_|exact lRq _|refine lPq ?_ _|refine AHeap.Le.del ?_ ?_|(simp only[bt,and_true,true_and,e0,bK,Int.natAbs_zero,eE];first|done|omega|(simp;done)))))
 simp only[go_sem,byq,biq,ah]
 refine aq (fun h4=>?_) (fun h4=>?_)
 ·obtain⟨j,rfl⟩:∃ j,k=j+1:=⟨k-1,by simp at h4;omega⟩
  have ej:(((j+1:Nat):Int)-1)=(j:Int):=Xa
  have e3:IntKind.i64.wrap ((j:Int)-1)=(j:Int)-1:=Xe
  have hbit:v >>> j=2*(v >>> (j+1))+(if v.testBit j then 1 else 0):=by
   rw[Nat.testBit_eq_decide_div_mod_eq,Nat.shiftRight_eq_div_pow,Nat.shiftRight_eq_div_pow,Nat.pow_succ,← Nat.div_div_eq_div_mul]
   by_cases hb:v/2^j%2=1
   ·rw[if_pos (by simpa using hb)];omega
   ·rw[if_neg (by simpa using hb)];omega
  simp only[go_sem,byq,biq,ah,ej,e3,jO,hz]
  refine⟨((v >>> (j+1):Nat):Int),((v >>> (j+1):Nat):Int),⟨rfl,rfl,hsm _,hsm _⟩,?_⟩
  simp only[go_sem,byq,biq,ah,ej,e3,zAV,bJ,hU v j (Xa)]
  refine⟨Xa,Xa,aq (fun h5=>?_) (fun h5=>?_)⟩
  ·have hb2:v >>> j=2*(v >>> (j+1))+1:=by rw[hbit,if_pos h5]
   have hz2:AV.agg [.bool (decide (((v >>> (j+1):Nat):Int)+((v >>> (j+1):Nat):Int)<0)),.slice .any 1 (cU (cO (((v >>> (j+1):Nat):Int)+((v >>> (j+1):Nat):Int)).natAbs))]=zAV (((v >>> (j+1):Nat):Int)+((v >>> (j+1):Nat):Int)):=rfl
   simp only[go_sem,byq,biq,ah,gu,jO,hz2,e3]
   refine⟨Xa,((v >>> (j+1):Nat):Int)+((v >>> (j+1):Nat):Int),1,⟨rfl,rfl,DK (hsm j) Xa,fA 2 Xc Xc⟩,?_⟩
   have en:((v >>> (j+1):Nat):Int)+((v >>> (j+1):Nat):Int)+1=((v >>> j:Nat):Int):=Xa
   exact V157
  ·have hb2:v >>> j=2*(v >>> (j+1)):=by rw[hbit,h5];simp
   have en:((v >>> (j+1):Nat):Int)+((v >>> (j+1):Nat):Int)=((v >>> j:Nat):Int):=Xa
   exact V157
 ·have h4':k=0:=by simp at h4;omega
  subst h4'
  simp only[go_sem,byq,biq,ah,zAV,Nat.shiftRight_zero]
  exact Z0
def limDigs:List Nat:=[6,5,4,1,1,2,8,6,7,1,3,4,7,0,6,4,7,3,3,6,4,3,6,4,8,3,9,0,2,9,6,6,3,2,8,2,0,4,3]
theorem Ez:cO (2^128)=limDigs:=by decide +kernel
def limText:List UInt8:=(limDigs.map fun d=>UInt8.ofNat (48+d)).reverse
theorem EW:[51,52,48,50,56,50,51,54,54,57,50,48,57,51,56,52,54,51,52,54,51,51,55,52,54,48,55,52,51,49,55,54,56,50,49,49,52,53,54]=limText:=by decide +kernel
theorem DC:∀ j,j<39→IntKind.i64.wrap (IntKind.u8.wrap (((limText.getD j 0).toNat:Int)-48))=((limDigs.getD (38-j) 0:Nat):Int):=by decide +kernel
theorem MQ:∀ j,j<39→limDigs.take (38-j)++[limDigs.getD (38-j) 0]=limDigs.take (39-j):=by decide +kernel
def wW:PCt
 |[],_,K=>K (zAV (2^128))
 |_,_,_=>False
theorem HZ:EPp 217 wW:=by
 refine Ype fun _ H K h=>?_
 unfold wW at h
 split at h<;>try exact h.elim
 refine⟨_,h,?_⟩
 clear h
 refine Yfu az tNq Tryz.func217 [.cell 0 270] fun hcl=>?_
 have hl:limText.length=39:=by decide +kernel
 have ew:IntKind.i64.wrap (((39:Nat):Int)-1)=((39:Nat):Int)-1:=Xc
 simp only[go_sem,byq,biq,ah,EW,hl,ew]
 refine aA (A:=Nat) (fun k=>[(3,.int .i64 ((k:Int)-1)),(2,.slice (.own (H.nx+1)) 1 (cU (limDigs.take (39-k)))),(1,.str limText),(0,.ptr H.nx 0)])
  (fun k=>(H.push (.cells [.bool false,.slice .nil 1 []])).push (.buf 1 (39-k))) (fun k=>k≤39) (fun k=>k) 39 Xa ?_ fun k hk=>?_
 ·(simp only[bkq,enterW,aJ,ltF,ne_eq,Nat.reduceEqDiff,reduceCtorEq,fG,Nat.sub_self,yar];try simp (disch:=first|exact Zd|omega) [↓zmo,beq,ybc,ybd,ybe,af,wk,wk2,wk1,wkM,wkL,aj,ybf,byq,biq,ah,hcl,fG,Nat.sub_self,yar];try(repeat' (first|assumption|omega|exact True.intro|refine And.intro ?_ ?_|refine ag ?_|refine ae ?_|refine aa ?_ ?_|refine ai ?_ ?_|refine au ?_|exact lRq _|refine lPq ?_ _|refine AHeap.Le.del ?_ ?_|(simp only[bt,and_true,true_and,fG,Nat.sub_self,yar];first|done|omega|(simp;done)))))
 simp only[go_sem,byq,biq,ah]
 refine aq (fun h4=>?_) (fun h4=>?_)
 ·obtain⟨j,rfl⟩:∃ j,k=j+1:=⟨k-1,by simp at h4;omega⟩
  have ej:(((j+1:Nat):Int)-1)=(j:Int):=Xa
  have e3:IntKind.i64.wrap ((j:Int)-1)=(j:Int)-1:=Xe
  have eg:=DC j Xa
  have es:=MQ j Xa
  have el:(limDigs.take (38-j)).length=38-j:=by rw[List.length_take,show limDigs.length=39 from rfl];omega
  have e39:39-(j+1)=38-j:=Xa
  simp only[go_sem,byq,biq,ah,ej,e3,eg,hl,e39,es,el]
  have e40:38-j+1=39-j:=Xa
  refine⟨Xa,Xa,j,Xa,Xa,?_⟩
  rw[e40]
  exact Z1
 ·have h4':k=0:=by simp at h4;omega
  subst h4'
  have ez:AV.agg [AV.bool false,AV.slice .any 1 (cU (List.take 39 limDigs))]=zAV (2^128):=by
   unfold zAV
   rw[show((2:Int)^128).natAbs=2^128 by decide,Ez];rfl
  simp only[go_sem,byq,biq,ah]
  rw[← ez]
  exact Z0
def m9:PCt
 |[x],_,K=>∃ a,(x=zAV a∧fE a)∧K (.bool (decide (0≤a∧a<2^128)))
 |_,_,_=>False
theorem MT:EPp 205 m9:=by
 refine Ype fun _ H K h=>?_
 unfold m9 at h
 split at h<;>try exact h.elim
 obtain⟨a,⟨rfl,ha⟩,hK⟩:=h
 refine⟨_,hK,?_⟩
 clear hK
 refine Yfw az (tCq HZ (tCq GL tNq)) Tryz.func205 [.tmp 2] (nrq _) (T:=ay [(1,[[],[],[],[],[],[1],[1,4,5]])]) (h:=fun hcl=>?_)
 simp only[go_sem,biq,ah,zAV,wW,Fk]
 refine bx (fun h1=>?_) (fun h1=>?_)
 ·have h1':0≤a:=by simpa using h1
  refine⟨a,2^128,⟨rfl,rfl,ha,fA 40 Xc Xc⟩,?_⟩
  have e:decide ((if a=2^128 then(0:Int)else if a<2^128 then -1 else 1)<0)=decide (0≤a∧a<2^128):=by
   rw[Bool.eq_iff_iff];simp only[decide_eq_true_eq]
   split
   ·omega
   ·split<;>omega
  try simp only[go_sem,biq,ah,e]
  exact Z0
 ·have h1':¬ (0≤a∧a<2^128):=by simp at h1;omega
  try simp only[go_sem,biq,ah,dfq h1']
  exact Z0
end Go.AL
open Go Go.AL Go.Proofs
namespace Go.AL
theorem Oz:tSl Tryz.prog 124 9:=kSl
attribute [go_sem] Oz
def j7(s p:List UInt8):Bool:=s.take p.length==p
def lJ:PCt
 |[.str s,.str p],_,K=>K (.bool (j7 s p))
 |_,_,_=>False
theorem rK:EPp 166 lJ:=by
 refine Ype fun _ H K h=>?_
 unfold lJ at h
 split at h<;>try exact h.elim
 rename_i s p
 refine⟨_,h,?_⟩
 clear h
 refine Yfu az tNq Tryz.func166 [.tmp 4] fun hcl=>?_
 simp only[go_sem,iNq,yap]
 refine bx (fun h1=>?_) (fun h1=>?_)
 ·have h1':p.length≤s.length:=by simpa using h1
  refine⟨Xa,?_⟩
  simp (disch:=first|exact Zd|omega) [↓zmo,beq,ybc,ybd,ybe,af,wk,wk2,wk1,wkM,wkL,aj,ybf,hcl,j7]
 ·have h1':j7 s p=false:=by
   have:¬ p.length≤s.length:=by simpa using h1
   unfold j7
   rw[ybc (Xa)]
   exact beq_eq_false_iff_ne.2 fun h=>this (by rw[h];exact nrq _)
  simp only[go_sem,h1']
  exact Z0
def Ak(s p:List UInt8):AV:=.tup [.str (if j7 s p then s.drop p.length else s),.bool (j7 s p)]
def oK:PCt
 |[.str s,.str p],_,K=>K (Ak s p)
 |_,_,_=>False
theorem zf:EPp 194 oK:=by
 refine Ype fun _ H K h=>?_
 unfold oK at h
 split at h<;>try exact h.elim
 rename_i s p
 refine⟨_,h,?_⟩
 clear h
 refine Yfu az (tCq rK tNq) Tryz.func194 [.tmp 4,.tmp 5] fun hcl=>?_
 simp only[go_sem,lJ,iNq,List.take_length]
 refine aq (fun h1=>?_) (fun h1=>?_)
 ·have h1':j7 s p=false:=by simpa using h1
  simp only[go_sem,Ak,h1']
  exact Z0
 ·have h1':j7 s p=true:=by simpa using h1
  have hle:p.length≤s.length:=by
   have:=eq_of_beq h1'
   have h2:=congrArg List.length this
   rw[List.length_take]at h2;omega
  simp only[go_sem,Ak,h1',iNq,List.take_length]
  exact V32
def pR:PCt
 |[.str s,.str p],_,K=>K (Ak s p)
 |_,_,_=>False
theorem Br:EPp 169 pR:=by
 refine Ype fun _ H K h=>?_
 unfold pR at h
 split at h<;>try exact h.elim
 rename_i s p
 refine⟨_,h,?_⟩
 clear h
 refine Yfu az (tCq zf tNq) Tryz.func169 [.tmp 4,.tmp 5] fun hcl=>?_
 simp only[go_sem,oK,Ak]
 exact Z0
def sX:PCt
 |[.int .u64 x,.int .u64 y],_,K=>((0≤x∧x<18446744073709551616)∧(y=10∨y=16))∧K (.tup [.int .u64 (x*y/18446744073709551616),.int .u64 (x*y%18446744073709551616)])
 |_,_,_=>False
theorem qE{x:Int}(h:0≤x∧x<18446744073709551616):ul .u64 x 4294967295=x%4294967296:=by
 obtain⟨n,rfl⟩:=Int.eq_ofNat_of_zero_le h.1
 have:=mw n 4294967295 Xa Xc
 rw[show((4294967295:Nat):Int)=4294967295 from rfl]at this
 rw[this]
 have h2:n&&&4294967295=n%2^32:=Nat.and_two_pow_sub_one_eq_mod n 32
 rw[h2];omega
theorem M8{x:Int}:oA .u64 x 32=x/4294967296:=by
 unfold oA
 rw[show min (32:Int).toNat IntKind.u64.bits=32 from rfl]
 exact V164
theorem KQ{a b y:Int}(ha:0≤a∧a<4294967296)(hb:0≤b∧b<4294967296)(hy:y=10∨y=16) :
 ((0+(a*y+b*y/4294967296)/4294967296)%18446744073709551616+((a*y+b*y/4294967296)%4294967296+0)%18446744073709551616/4294967296)%18446744073709551616=(4294967296*a+b)*y/18446744073709551616:=by
 have key:∀ d r:Int,0≤d→d<4294967296*32→0≤r→r<4294967296→((0+d/4294967296)%18446744073709551616+(d%4294967296+0)%18446744073709551616/4294967296)%18446744073709551616=(4294967296*d+r)/18446744073709551616:=fun d r h1 h2 h3 h4=>by
  have e:d=4294967296*(d/4294967296)+d%4294967296:=Xa
  have f1:0≤d%4294967296∧d%4294967296<4294967296:=Xa
  generalize d/4294967296=p at *
  generalize d%4294967296=q at *
  omega
 have hr:b*y=4294967296*(b*y/4294967296)+b*y%4294967296:=Xa
 have hr2:0≤b*y%4294967296∧b*y%4294967296<4294967296:=Xa
 have e:(4294967296*a+b)*y=4294967296*(a*y+b*y/4294967296)+b*y%4294967296:=by rw[Int.add_mul,Int.mul_assoc];omega
 rw[e]
 refine key _ _ ?_ ?_ hr2.1 hr2.2
 ·rcases hy with rfl|rfl<;>omega
 ·rcases hy with rfl|rfl<;>omega
theorem Lo:EPp 195 sX:=by
 refine Ype fun _ H K h=>?_
 unfold sX at h
 split at h<;>try exact h.elim
 rename_i x y
 obtain⟨⟨hx,hy⟩,hK⟩:=h
 refine⟨_,hK,?_⟩
 clear hK
 refine Yfu az tNq Tryz.func195 [.tmp 4,.tmp 5] fun hcl=>?_
 have w:∀ x,IntKind.u64.wrap x=x%18446744073709551616:=fun x=>by simp[IntKind.wrap,IntKind.signed,IntKind.bits]
 rcases hy with rfl|rfl
 ·have m1:=@qE x hx
  have m2:ul .u64 10 4294967295=10:=by decide +kernel
  have s2:oA .u64 10 32=0:=by decide +kernel
  have e1:IntKind.u64.wrap (x%4294967296*10)=x%4294967296*10:=by rw[w];omega
  have e2:IntKind.u64.wrap (x/4294967296*10)=x/4294967296*10:=by rw[w];omega
  have e3:IntKind.u64.wrap (x/4294967296*10+x%4294967296*10/4294967296)=x/4294967296*10+x%4294967296*10/4294967296:=by rw[w];omega
  have m3:=@qE (x/4294967296*10+x%4294967296*10/4294967296) Xa
  have z1:IntKind.u64.wrap (x%4294967296*0)=0:=by rw[Int.mul_zero];rfl
  have z2:IntKind.u64.wrap (x/4294967296*0)=0:=by rw[Int.mul_zero];rfl
  have e4:IntKind.u64.wrap (IntKind.u64.wrap (0+(x/4294967296*10+x%4294967296*10/4294967296)/4294967296)+(IntKind.u64.wrap ((x/4294967296*10+x%4294967296*10/4294967296)%4294967296+0))/4294967296)=x*10/18446744073709551616:=by
   rw[w,w,w,KQ Xa Xa (Xa)]
   congr 2;omega
  exact V124
 ·have m1:=@qE x hx
  have m2:ul .u64 16 4294967295=16:=by decide +kernel
  have s2:oA .u64 16 32=0:=by decide +kernel
  have e1:IntKind.u64.wrap (x%4294967296*16)=x%4294967296*16:=by rw[w];omega
  have e2:IntKind.u64.wrap (x/4294967296*16)=x/4294967296*16:=by rw[w];omega
  have e3:IntKind.u64.wrap (x/4294967296*16+x%4294967296*16/4294967296)=x/4294967296*16+x%4294967296*16/4294967296:=by rw[w];omega
  have m3:=@qE (x/4294967296*16+x%4294967296*16/4294967296) Xa
  have z1:IntKind.u64.wrap (x%4294967296*0)=0:=by rw[Int.mul_zero];rfl
  have z2:IntKind.u64.wrap (x/4294967296*0)=0:=by rw[Int.mul_zero];rfl
  have e4:IntKind.u64.wrap (IntKind.u64.wrap (0+(x/4294967296*16+x%4294967296*16/4294967296)/4294967296)+(IntKind.u64.wrap ((x/4294967296*16+x%4294967296*16/4294967296)%4294967296+0))/4294967296)=x*16/18446744073709551616:=by
   rw[w,w,w,KQ Xa Xa (Xa)]
   congr 2;omega
  exact V124
def dg(c:UInt8):Nat:=if 48≤c.toNat∧c.toNat≤57 then c.toNat-48 else if 97≤c.toNat∧c.toNat≤102 then c.toNat-87 else 99
def tY:PCt
 |[x,.int .u64 y],_,K=>∃ c,(x=cq c∧(y=10∨y=16))∧K (.int .u64 (if(dg c:Int)<y then(dg c:Int)else y))
 |_,_,_=>False
theorem JO:EPp 170 tY:=by
 refine Ype fun _ H K h=>?_
 unfold tY at h
 split at h<;>try exact h.elim
 rename_i x y
 obtain⟨c,⟨rfl,hy⟩,hK⟩:=h
 refine⟨_,hK,?_⟩
 clear hK
 refine Yfu az tNq Tryz.func170 [.tmp 4] fun hcl=>?_
 have hc:c.toNat<256:=UInt8.toNat_lt c
 have w8:∀ x,IntKind.u8.wrap x=x%256:=fun x=>by simp[IntKind.wrap,IntKind.signed,IntKind.bits]
 have w:∀ x,IntKind.u64.wrap x=x%18446744073709551616:=fun x=>by simp[IntKind.wrap,IntKind.signed,IntKind.bits]
 simp only[go_sem,cq]
 refine bx (fun h1=>?_) (fun h1=>?_)
 ·refine aq (fun h2=>?_) (fun h2=>?_)
  ·have hd:dg c=c.toNat-48:=by unfold dg;rw[if_pos (by simp at h1 h2;omega)]
   have e:min (IntKind.u64.wrap (IntKind.u8.wrap ((c.toNat:Int)-48))) y=if(dg c:Int)<y then(dg c:Int)else y:=by
    rw[w,w8,hd];simp at h1 h2;split<;>omega
   exact V75
  ·refine T9 ?_
   refine bx (fun h3=>?_) (fun h3=>?_)
   ·refine aq (fun h4=>?_) (fun h4=>?_)
    ·have hd:dg c=c.toNat-87:=by unfold dg;simp at h1 h2 h3 h4;rw[if_neg (by omega),if_pos (by omega)]
     have e:min (IntKind.u64.wrap (IntKind.u64.wrap (IntKind.u8.wrap ((c.toNat:Int)-97))+10)) y=if(dg c:Int)<y then(dg c:Int)else y:=by
      rw[w,w,w8,hd];simp at h1 h2 h3 h4;split<;>omega
     exact V75
    ·have hd:dg c=99:=by unfold dg;simp at h1 h2 h3 h4;rw[if_neg (by omega),if_neg (by omega)]
     have e:min y y=if(dg c:Int)<y then(dg c:Int)else y:=by rw[hd];split<;>omega
     exact V75
   ·have hd:dg c=99:=by unfold dg;simp at h1 h2 h3;rw[if_neg (by omega),if_neg (by omega)]
    have e:min y y=if(dg c:Int)<y then(dg c:Int)else y:=by rw[hd];split<;>omega
    try simp only[go_sem,zau,e]
    exact Z0
 ·try simp only[go_sem,zau]
  refine bx (fun h3=>?_) (fun h3=>?_)
  ·refine aq (fun h4=>?_) (fun h4=>?_)
   ·simp at h1 h3;omega
   ·have hd:dg c=99:=by unfold dg;simp at h1 h3 h4;rw[if_neg (by omega),if_neg (by omega)]
    have e:min y y=if(dg c:Int)<y then(dg c:Int)else y:=by rw[hd];split<;>omega
    exact V75
  ·have hd:dg c=99:=by unfold dg;simp at h1 h3;rw[if_neg (by omega),if_neg (by omega)]
   have e:min y y=if(dg c:Int)<y then(dg c:Int)else y:=by rw[hd];split<;>omega
   simp only[go_sem,zau,e]
   exact Z0
def pY(z:Int)(k:Nat):List AV:=[.int .u64 (if 0<k then w0 z else 0),.int .u64 (if 1<k then w1 z else 0),.int .u64 (if 2<k then w2 z else 0)]
def mck(a y m:Int)(k:Nat):Int:=match k with
 |0=>m
 |1=>(a%2^64*y+m)/2^64
 |2=>(a%2^128*y+m)/2^128
 |_=>(a*y+m)/2^192
theorem J1{a y m:Int}(h0:0≤a)(h1:a<2^128)(hy:y=10∨y=16)(hm:0≤m∧m<y) :
 ((w0 a*y+m)%2^64=w0 (a*y+m)∧(w0 a*y+m)/2^64=mck a y m 1)∧((w1 a*y+mck a y m 1)%2^64=w1 (a*y+m)∧(w1 a*y+mck a y m 1)/2^64=mck a y m 2) ∧
 ((w2 a*y+mck a y m 2)%2^64=w2 (a*y+m)∧(w2 a*y+mck a y m 2)/2^64=0)∧(0≤mck a y m 1∧mck a y m 1<16)∧(0≤mck a y m 2∧mck a y m 2<16):=by
 have split:∀ z:Int,0≤z→z<2^192→z=w0 z+18446744073709551616*w1 z+340282366920938463463374607431768211456*w2 z:=fun z g0 g1=>by unfold w0 w1 w2;omega
 have a0:=v9 a
 have a1:=vW a
 have a2:=vT a
 have ha:=split a h0 Xa
 have hp:0≤a*y+m∧a*y+m<2^192:=by rcases hy with rfl|rfl<;>omega
 have hz:=split (a*y+m) hp.1 hp.2
 have b0:=v9 (a*y+m)
 have b1:=vW (a*y+m)
 have b2:=vT (a*y+m)
 have q2:w2 a=0:=by generalize w0 a=x0 at *;generalize w1 a=x1 at *;generalize w2 a=x2 at *;omega
 have e1:a%2^64=w0 a:=rfl
 have e2:a%2^128=a:=Xa
 simp only[mck,e1,e2,q2]at *
 generalize w0 (a*y+m)=z0 at *
 generalize w1 (a*y+m)=z1 at *
 generalize w2 (a*y+m)=z2 at *
 generalize w0 a=x0 at *
 generalize w1 a=x1 at *
 subst ha
 clear q2 e1 e2 split h0 h1 a2
 have k2:((x0+18446744073709551616*x1+340282366920938463463374607431768211456*0)*y+m)/2^128=z2:=Xa
 have k1:(x0*y+m)/2^64=z1+18446744073709551616*z2-x1*y:=by rcases hy with rfl|rfl<;>omega
 have k0:(x0*y+m)%2^64=z0:=by rcases hy with rfl|rfl<;>omega
 rw[k2,k1,k0]
 have k3:0≤x0*y+m∧x0*y+m<16*18446744073709551616:=by rcases hy with rfl|rfl<;>omega
 have k4:z1+18446744073709551616*z2-x1*y<16∧0≤z1+18446744073709551616*z2-x1*y:=Xa
 have k5:z2<16:=by rcases hy with rfl|rfl<;>omega
 refine⟨⟨?_,?_⟩,⟨?_,?_⟩,⟨?_,?_⟩,⟨?_,?_⟩,?_,?_⟩<;>first|trivial|omega
def tm:PCt
 |[x,.int .u64 y,.int .u64 m],_,K=>∃ a,(x=nAV a∧(0≤a∧a<2^128)∧(y=10∨y=16)∧0≤m∧m<y)∧K (nAV (a*y+m))
 |_,_,_=>False
theorem Iu:EPp 171 tm:=by
 refine Ype fun _ H K h=>?_
 unfold tm at h
 split at h<;>try exact h.elim
 rename_i y m
 obtain⟨a,⟨rfl,ha,hy,hm⟩,hK⟩:=h
 refine⟨_,hK,?_⟩
 refine Yfv az (tCq Lo (tCq D9 tNq)) Tryz.func171 [.cell 6 194] fun hcl hlt=>?_
 clear hlt hK
 obtain⟨⟨s1,s2⟩,⟨s3,s4⟩,⟨s5,s6⟩,r1,r2⟩:=J1 ha.1 ha.2 hy hm
 have a0:=v9 a
 have a1:=vW a
 have a2:=vT a
 have hml:0≤m∧m<18446744073709551616:=Xa
 have split:∀ x m':Int,(0≤x∧x<18446744073709551616)→(0≤m'∧m'<16)→(x*y%18446744073709551616+m'+0)%18446744073709551616=(x*y+m')%2^64∧IntKind.u64.wrap (x*y/18446744073709551616+(x*y%18446744073709551616+m'+0)/18446744073709551616)=(x*y+m')/2^64:=fun x m' hx hm'=>by
  have w:∀ x,IntKind.u64.wrap x=x%18446744073709551616:=fun x=>by simp[IntKind.wrap,IntKind.signed,IntKind.bits]
  rw[w]
  have e:x*y=18446744073709551616*(x*y/18446744073709551616)+x*y%18446744073709551616:=Xa
  have b:0≤x*y∧x*y<18446744073709551616*16:=by rcases hy with rfl|rfl<;>omega
  generalize x*y=z at *
  constructor<;>omega
 have m0:mck a y m 0=m:=rfl
 simp only[go_sem,nAV]
 refine aA (A:=Nat) (fun k=>[(13,.int .i64 (k:Int)),(1,.int .u64 y),(2,.int .u64 (if k=3 then 0 else mck a y m k)),(3,.ptr H.nx 0),(6,.ptr (H.nx+1) 0),(7,.ptr (H.nx+1+1) 0)])
  (fun k=>((H.push (.cells [.int .u64 (w0 a),.int .u64 (w1 a),.int .u64 (w2 a)])).push (.cells [.int .u64 0,.int .u64 0,.int .u64 0])).push (.cells (pY (a*y+m) k)))
  (fun k=>k≤3) (fun k=>3-k) 0 Xa ?_ fun k hk=>?_
 ·(simp only[bkq,enterW,aJ,ltF,ne_eq,Nat.reduceEqDiff,reduceCtorEq,pY,Nat.lt_irrefl,if_false,Nat.not_lt_zero,m0];try simp (disch:=first|exact Zd|omega) [↓zmo,beq,ybc,ybd,ybe,af,wk,wk2,wk1,wkM,wkL,aj,ybf,byq,biq,ah,hcl,pY,Nat.lt_irrefl,if_false,Nat.not_lt_zero,m0];try(repeat' (first|assumption|omega|exact True.intro|refine And.intro ?_ ?_|refine ag ?_|refine ae ?_|refine aa ?_ ?_|refine ai ?_ ?_|refine au ?_|exact lRq _|refine lPq ?_ _|refine AHeap.Le.del ?_ ?_|(simp only[bt,and_true,true_and,pY,Nat.lt_irrefl,if_false,Nat.not_lt_zero,m0];first|done|omega|(simp;done)))))
 rcases(Xa:k=0∨k=1∨k=2∨k=3)with rfl|rfl|rfl|rfl
 ·have hd:decide (((0:Nat):Int)<3)=true:=rfl
  have e1:IntKind.i64.wrap (((0:Nat):Int)+1)=((1:Nat):Int):=Xe
  have t1:((0:Nat):Int).toNat=0:=rfl
  obtain⟨f1,f2⟩:=split (w0 a) m a0 Xa
  rw[s1]at f1
  rw[s2]at f2
  simp only[go_sem,zat,sX,mV,hd,pY,e1,t1,m0,f1,f2,Int.reduceLT,Nat.reduceEqDiff]
  refine⟨Xa,Xa,Xa,Xa,1,Xa,Xa,?_⟩
  exact Z9
 ·have hd:decide (((1:Nat):Int)<3)=true:=rfl
  have e1:IntKind.i64.wrap (((1:Nat):Int)+1)=((2:Nat):Int):=Xe
  have t1:((1:Nat):Int).toNat=1:=rfl
  obtain⟨f1,f2⟩:=split (w1 a) (mck a y m 1) a1 Xa
  rw[s3]at f1
  rw[s4]at f2
  simp only[go_sem,zat,sX,mV,hd,pY,e1,t1,f1,f2,Nat.reduceEqDiff]
  refine⟨Xa,Xa,Xa,Xa,2,Xa,Xa,?_⟩
  exact Z9
 ·have hd:decide (((2:Nat):Int)<3)=true:=rfl
  have e1:IntKind.i64.wrap (((2:Nat):Int)+1)=((3:Nat):Int):=Xe
  have t1:((2:Nat):Int).toNat=2:=rfl
  obtain⟨f1,f2⟩:=split (w2 a) (mck a y m 2) a2 Xa
  rw[s5]at f1
  rw[s6]at f2
  simp only[go_sem,zat,sX,mV,hd,pY,e1,t1,f1,f2,Nat.reduceEqDiff]
  refine⟨Xa,Xa,Xa,Xa,3,Xa,Xa,?_⟩
  exact Z9
 ·have hd:decide (((3:Nat):Int)<3)=false:=rfl
  simp only[go_sem,zau,hd,pY]
  exact Z0
def fO(base:Nat):Nat→List UInt8→Option Nat
 |n,[]=>some n
 |n,c::s=>if dg c<base then(if n*base+dg c<2^128 then fO base (n*base+dg c) s else none)else none
def lit(s:List UInt8):Option Nat:=if j7 s [48,120]then(if s.drop 2=[]then none else fO 16 0 (s.drop 2))else if s=[]then none else fO 10 0 s
theorem l6{a b:Nat}{G:Prop}(h1:a<b→G)(h2:b≤a→G):G:=(Nat.lt_or_ge a b).elim h1 h2
def ww(o:Option Nat):AV:=match o with
 |some n=>.tup [nAV n,.bool true]
 |none=>.tup [nAV 0,.bool false]
def oO:PCt
 |[.str s],_,K=>(s.length≤140737488355328)∧K (ww (lit s))
 |_,_,_=>False
theorem v5:EPp 147 oO:=by
 refine Ype fun _ H K h=>?_
 unfold oO at h
 split at h<;>try exact h.elim
 rename_i s
 obtain⟨hl,hK⟩:=h
 refine⟨_,hK,?_⟩
 refine Yfv az (tCq Br (tCq JO (tCq Iu (tCq zH tNq)))) Tryz.func147 [.cell 2 194,.tmp 3] fun hcl hlt=>?_
 clear hlt hK
 have z0:nAV 0=.agg [.int .u64 0,.int .u64 0,.int .u64 0]:=rfl
 simp only[go_sem,pR,Ak]
 refine aq (fun h1=>?_) (fun h1=>?_)
 ·simp only[go_sem,h1]
  have hl':(s.drop 2).length≤140737488355328:=Xt
  have hr:lit s=if s.drop 2=[]then none else fO 16 0 (s.drop 2):=by unfold lit;rw[h1];simp
  rw[hr]
  clear hr h1 hl
  generalize s.drop 2=b at *
  refine⟨Xa,?_⟩
  refine aA (A:=Nat × Nat) (fun x=>[(0,.str b),(2,.ptr H.nx 0),(4,.int .u64 16),(7,.ptr (H.nx+1) 0),(21,.slice .any 1 (bys b)),(22,.int .i64 (b.length:Int)),(23,.int .i64 (x.1:Int))])
   (fun x=>(H.push (.cells [.int .u64 0,.int .u64 0,.int .u64 0])).push (.cells [.int .u64 (w0 (x.2:Int)),.int .u64 (w1 (x.2:Int)),.int .u64 (w2 (x.2:Int))]))
   (fun x=>x.1≤b.length∧x.2<2^128∧fO 16 0 b=fO 16 x.2 (b.drop x.1)) (fun x=>b.length-x.1) (0,0) ⟨Xa,Xc,rfl⟩ ?_ fun x hI=>?_
  ·have z1:w0 0=0:=rfl
   have z2:w1 0=0:=rfl
   have z3:w2 0=0:=rfl
   exact Z10
  obtain⟨k,n⟩:=x
  obtain⟨hk,hn,hl2⟩:=hI
  dsimp only at *
  refine T33 ?_
  refine aq (fun h2=>?_) (fun h2=>?_)
  ·have h2':k<b.length:=by simpa using h2
   rw[dcq h2']at hl2
   have hg:(bys b).getD k .junk=cq b[k]:=by rw[Bo h2'];simp[gEq,h2']
   have e5:=Yk5 k
   simp only[fO]at hl2
   generalize b[k]=c at *
   simp only[go_sem,byq,hg,tY]
   refine⟨Xa,c,rfl,?_⟩
   by_cases hd:dg c<16
   ·have hdi:((dg c:Nat):Int)<16:=Xa
    rw[if_pos hdi]
    rw[if_pos hd]at hl2
    have hne:(((dg c:Nat):Int)==16)=false:=Xd
    have hz:AV.agg [.int .u64 (w0 (n:Int)),.int .u64 (w1 (n:Int)),.int .u64 (w2 (n:Int))]=nAV (n:Int):=rfl
    simp only[go_sem,byq,zau,hne,tm]
    refine⟨(n:Int),⟨rfl,Xa,Xa,Xa⟩,?_⟩
    obtain⟨z,hz2⟩:∃ z:Int,z=((n*16+dg c:Nat):Int):=⟨_,rfl⟩
    have en:((n:Int)*16+(dg c:Nat))=z:=Xa
    have hN:isN z:=⟨Xa,Xa⟩
    refine l6 (a:=n*16+dg c) (b:=2^128) (fun hf=>?_) (fun hf=>?_)
    ·rw[if_pos hf]at hl2
     have hv:nT z=.tup [.agg [.int .u64 (z/2^64),.int .u64 (z%2^64)],.bool true]:=by unfold nT;rw[if_pos (by omega)]
     simp only[go_sem,byq,en,nAV,mr]
     refine⟨z,⟨rfl,hN⟩,?_⟩
     simp only[go_sem,byq,zau,hv,e5]
     exact V174
    ·exact V60
   ·rw[if_neg (Xa)]
    rw[if_neg hd]at hl2
    have hbn:b≠[]:=by intro h;subst h;simp at h2'
    have he:((16:Int)==16)=true:=rfl
    simp only[go_sem,byq,zat,hl2,if_neg hbn,ww,z0,he]
    exact Z0
  ·exact V49
 ·simp only[go_sem,h1]
  have hl':(s).length≤140737488355328:=by exact hl
  have hr:lit s=if s=[]then none else fO 10 0 (s):=by unfold lit;rw[h1];simp
  rw[hr]
  clear hr h1 hl
  generalize s=b at *
  refine⟨Xa,?_⟩
  refine aA (A:=Nat × Nat) (fun x=>[(0,.str b),(2,.ptr H.nx 0),(4,.int .u64 10),(7,.ptr (H.nx+1) 0),(21,.slice .any 1 (bys b)),(22,.int .i64 (b.length:Int)),(23,.int .i64 (x.1:Int))])
   (fun x=>(H.push (.cells [.int .u64 0,.int .u64 0,.int .u64 0])).push (.cells [.int .u64 (w0 (x.2:Int)),.int .u64 (w1 (x.2:Int)),.int .u64 (w2 (x.2:Int))]))
   (fun x=>x.1≤b.length∧x.2<2^128∧fO 10 0 b=fO 10 x.2 (b.drop x.1)) (fun x=>b.length-x.1) (0,0) ⟨Xa,Xc,rfl⟩ ?_ fun x hI=>?_
  ·have z1:w0 0=0:=rfl
   have z2:w1 0=0:=rfl
   have z3:w2 0=0:=rfl
   exact Z10
  obtain⟨k,n⟩:=x
  obtain⟨hk,hn,hl2⟩:=hI
  dsimp only at *
  refine T33 ?_
  refine aq (fun h2=>?_) (fun h2=>?_)
  ·have h2':k<b.length:=by simpa using h2
   rw[dcq h2']at hl2
   have hg:(bys b).getD k .junk=cq b[k]:=by rw[Bo h2'];simp[gEq,h2']
   have e5:=Yk5 k
   simp only[fO]at hl2
   generalize b[k]=c at *
   simp only[go_sem,byq,hg,tY]
   refine⟨Xa,c,rfl,?_⟩
   by_cases hd:dg c<10
   ·have hdi:((dg c:Nat):Int)<10:=Xa
    rw[if_pos hdi]
    rw[if_pos hd]at hl2
    have hne:(((dg c:Nat):Int)==10)=false:=Xd
    have hz:AV.agg [.int .u64 (w0 (n:Int)),.int .u64 (w1 (n:Int)),.int .u64 (w2 (n:Int))]=nAV (n:Int):=rfl
    simp only[go_sem,byq,zau,hne,tm]
    refine⟨(n:Int),⟨rfl,Xa,Xa,Xa⟩,?_⟩
    obtain⟨z,hz2⟩:∃ z:Int,z=((n*10+dg c:Nat):Int):=⟨_,rfl⟩
    have en:((n:Int)*10+(dg c:Nat))=z:=Xa
    have hN:isN z:=⟨Xa,Xa⟩
    refine l6 (a:=n*10+dg c) (b:=2^128) (fun hf=>?_) (fun hf=>?_)
    ·rw[if_pos hf]at hl2
     have hv:nT z=.tup [.agg [.int .u64 (z/2^64),.int .u64 (z%2^64)],.bool true]:=by unfold nT;rw[if_pos (by omega)]
     simp only[go_sem,byq,en,nAV,mr]
     refine⟨z,⟨rfl,hN⟩,?_⟩
     simp only[go_sem,byq,zau,hv,e5]
     refine⟨(k+1,n*10+dg c),⟨Xa,hf,hl2⟩,Xa,?_⟩
     exact Z11
    ·exact V60
   ·rw[if_neg (Xa)]
    rw[if_neg hd]at hl2
    have hbn:b≠[]:=by intro h;subst h;simp at h2'
    have he:((10:Int)==10)=true:=rfl
    simp only[go_sem,byq,zat,hl2,if_neg hbn,ww,z0,he]
    exact Z0
  ·exact V49
end Go.AL
