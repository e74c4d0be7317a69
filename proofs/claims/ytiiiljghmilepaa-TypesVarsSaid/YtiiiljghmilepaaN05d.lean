/- Contracts and plain laws, a part of the proof; no condition of its own. -/
import Derived.Test.YtiiiljghmilepaaR05c
set_option maxHeartbeats 32000000
open List renaming length_cons → yaz, length_nil → yba, drop_zero → yap, take_of_length_le → ybc, drop_append → ybd, take_append → ybe, drop_eq_nil_of_le → ybf
open Go Go.AL Go.Proofs
namespace Go.AL
set_option linter.all false
set_option maxRecDepth 10000
theorem xk:ti Try.prog 49=some ⟨.slice 9,1,24,.slice .nil 1 []⟩:=by kernel_rfl
attribute [go_sem] xk
def iv (s p:List UInt8):Bool:=s.take p.length==p
def eY:List AV→AHeap→(AV→Prop)→Prop
 |[.str s,.str p],_,K=>K (.bool (iv s p))
 |_,_,_=>False
theorem iY:EntOk Try.prog 54 (Ent.pure eY):=by
 refine EntOk.pure fun args H K h=>?_
 unfold eY at h
 split at h
 rotate_left
 ·exact h.elim
 rename_i s p
 refine ⟨_,h,?_⟩
 clear h
 refine ACalls.fW aE TblOk.nil Try.func54 [.tmp 4] (Nat.le_refl _) (T:=ax []) (h:=fun hcl hlt=>?_)
 clear hlt
 simp only [go_sem,Int.toNat_natCast,yap]
 refine bR (fun h1=>?_) (fun h1=>?_)
 ·have h1':p.length≤s.length:=by simpa using h1
  refine ⟨by omega,?_⟩
  simp (disch:=first|assumption|omega|(simp;done)|(simp;omega)|(simp only [bt,and_true];first|done|omega|(simp;done))) [↓zmi,beq,ybc,ybd,ybe,ag,wk,wk2,wk1,wkM,wkL,ak,ybf,hcl,iv]
 ·have h1':iv s p=false:=by
   have:¬ p.length≤s.length:=by simpa using h1
   unfold iv
   rw [ybc (by omega)]
   exact beq_eq_false_iff_ne.2 fun h=>this (by rw [h];exact Nat.le_refl _)
  simp only [go_sem,h1']
  simp (disch:=first|assumption|omega|(simp;done)|(simp;omega)|(simp only [bt,and_true];first|done|omega|(simp;done))) [↓zmi,beq,ybc,ybd,ybe,ag,wk,wk2,wk1,wkM,wkL,ak,ybf,hcl]
def nn (s p:List UInt8):AV:=.tup [.str (if iv s p then s.drop p.length else s),.bool (iv s p)]
def gz:List AV→AHeap→(AV→Prop)→Prop
 |[.str s,.str p],_,K=>K (nn s p)
 |_,_,_=>False
theorem mF:EntOk Try.prog 75 (Ent.pure gz):=by
 refine EntOk.pure fun args H K h=>?_
 unfold gz at h
 split at h
 rotate_left
 ·exact h.elim
 rename_i s p
 refine ⟨_,h,?_⟩
 clear h
 refine ACalls.fW aE (TblOk.cons iY TblOk.nil) Try.func75 [.tmp 4,.tmp 5] (Nat.le_refl _) (T:=ax []) (h:=fun hcl hlt=>?_)
 clear hlt
 simp only [go_sem,eY,Int.toNat_natCast,List.take_length]
 refine al (fun h1=>?_) (fun h1=>?_)
 ·have h1':iv s p=false:=by simpa using h1
  simp only [go_sem,nn,h1']
  simp (disch:=first|assumption|omega|(simp;done)|(simp;omega)|(simp only [bt,and_true];first|done|omega|(simp;done))) [↓zmi,beq,ybc,ybd,ybe,ag,wk,wk2,wk1,wkM,wkL,ak,ybf,hcl]
 ·have h1':iv s p=true:=by simpa using h1
  have hle:p.length≤s.length:=by
   have:=eq_of_beq h1'
   have h2:=congrArg List.length this
   rw [List.length_take] at h2;omega
  simp only [go_sem,nn,h1',Int.toNat_natCast,List.take_length]
  refine ⟨by omega,?_⟩
  simp (disch:=first|assumption|omega|(simp;done)|(simp;omega)|(simp only [bt,and_true];first|done|omega|(simp;done))) [↓zmi,beq,ybc,ybd,ybe,ag,wk,wk2,wk1,wkM,wkL,ak,ybf,hcl]
def ij:List AV→AHeap→(AV→Prop)→Prop
 |[.str s,.str p],_,K=>K (nn s p)
 |_,_,_=>False
theorem oN:EntOk Try.prog 57 (Ent.pure ij):=by
 refine EntOk.pure fun args H K h=>?_
 unfold ij at h
 split at h
 rotate_left
 ·exact h.elim
 rename_i s p
 refine ⟨_,h,?_⟩
 clear h
 refine ACalls.fW aE (TblOk.cons mF TblOk.nil) Try.func57 [.tmp 4,.tmp 5] (Nat.le_refl _) (T:=ax []) (h:=fun hcl hlt=>?_)
 clear hlt
 simp only [go_sem,gz,nn]
 simp (disch:=first|assumption|omega|(simp;done)|(simp;omega)|(simp only [bt,and_true];first|done|omega|(simp;done))) [↓zmi,beq,ybc,ybd,ybe,ag,wk,wk2,wk1,wkM,wkL,ak,ybf,hcl]
def jK:List AV→AHeap→(AV→Prop)→Prop
 |[.int .u64 x,.int .u64 y],_,K=>((0≤x∧x<18446744073709551616)∧(y=10∨y=16))∧K (.tup [.int .u64 (x*y/18446744073709551616),.int .u64 (x*y % 18446744073709551616)])
 |_,_,_=>False
theorem iD {x:Int} (h:0≤x∧x<18446744073709551616):tn .u64 x 4294967295=x % 4294967296:=by
 obtain ⟨n,rfl⟩:=Int.eq_ofNat_of_zero_le h.1
 have:=v9 n 4294967295 (by omega) (by decide)
 rw [show ((4294967295:Nat):Int)=4294967295 from rfl] at this
 rw [this]
 have h2:n &&& 4294967295=n % 2^32:=Nat.and_two_pow_sub_one_eq_mod n 32
 rw [h2];omega
theorem tN {x:Int}:qt .u64 x 32=x/4294967296:=by
 unfold qt
 rw [show min (32:Int).toNat IntKind.u64.bits=32 from rfl]
 exact Int.fdiv_eq_ediv_of_nonneg _ (by decide)
theorem uu {a b y:Int} (ha:0≤a∧a<4294967296) (hb:0≤b∧b<4294967296) (hy:y=10∨y=16) :
 ((0+(a*y+b*y/4294967296)/4294967296) % 18446744073709551616+((a*y+b*y/4294967296) % 4294967296+0) % 18446744073709551616/4294967296) % 18446744073709551616=(4294967296*a+b)*y/18446744073709551616:=by
 have key:∀ d r:Int,0≤d→d<4294967296*32→0≤r→r<4294967296→((0+d/4294967296) % 18446744073709551616+(d % 4294967296+0) % 18446744073709551616/4294967296) % 18446744073709551616=(4294967296*d+r)/18446744073709551616:=fun d r h1 h2 h3 h4=>by
  have e:d=4294967296*(d/4294967296)+d % 4294967296:=by omega
  have f1:0≤d % 4294967296∧d % 4294967296<4294967296:=by omega
  generalize d/4294967296=p at *
  generalize d % 4294967296=q at *
  omega
 have hr:b*y=4294967296*(b*y/4294967296)+b*y % 4294967296:=by omega
 have hr2:0≤b*y % 4294967296∧b*y % 4294967296<4294967296:=by omega
 have e:(4294967296*a+b)*y=4294967296*(a*y+b*y/4294967296)+b*y % 4294967296:=by rw [Int.add_mul,Int.mul_assoc];omega
 rw [e]
 refine key _ _ ?_ ?_ hr2.1 hr2.2
 ·rcases hy with rfl|rfl<;>omega
 ·rcases hy with rfl|rfl<;>omega
theorem v5:EntOk Try.prog 76 (Ent.pure jK):=by
 refine EntOk.pure fun args H K h=>?_
 unfold jK at h
 split at h
 rotate_left
 ·exact h.elim
 rename_i x y
 obtain ⟨⟨hx,hy⟩,hK⟩:=h
 refine ⟨_,hK,?_⟩
 clear hK
 refine ACalls.fW aE TblOk.nil Try.func76 [.tmp 4,.tmp 5] (Nat.le_refl _) (T:=ax []) (h:=fun hcl hlt=>?_)
 clear hlt
 have w:∀ x,IntKind.u64.wrap x=x % 18446744073709551616:=fun x=>by simp [IntKind.wrap,IntKind.signed,IntKind.bits]
 rcases hy with rfl|rfl
 ·have m1:=@iD x hx
  have m2:tn .u64 10 4294967295=10:=by decide +kernel
  have s2:qt .u64 10 32=0:=by decide +kernel
  have e1:IntKind.u64.wrap (x % 4294967296*10)=x % 4294967296*10:=by rw [w];omega
  have e2:IntKind.u64.wrap (x/4294967296*10)=x/4294967296*10:=by rw [w];omega
  have e3:IntKind.u64.wrap (x/4294967296*10+x % 4294967296*10/4294967296)=x/4294967296*10+x % 4294967296*10/4294967296:=by rw [w];omega
  have m3:=@iD (x/4294967296*10+x % 4294967296*10/4294967296) (by omega)
  have z1:IntKind.u64.wrap (x % 4294967296*0)=0:=by rw [Int.mul_zero];rfl
  have z2:IntKind.u64.wrap (x/4294967296*0)=0:=by rw [Int.mul_zero];rfl
  have e4:IntKind.u64.wrap (IntKind.u64.wrap (0+(x/4294967296*10+x % 4294967296*10/4294967296)/4294967296)+(IntKind.u64.wrap ((x/4294967296*10+x % 4294967296*10/4294967296) % 4294967296+0))/4294967296)=x*10/18446744073709551616:=by
   rw [w,w,w,uu (by omega) (by omega) (by omega)]
   congr 2;omega
  simp only [go_sem,tN,m1,m2,m3,e1,e2,e3,z1,z2,s2]
  refine ⟨by omega,by omega,by omega,by omega,by omega,?_⟩
  rw [e4,w]
  simp (disch:=first|assumption|omega|(simp;done)|(simp;omega)|(simp only [bt,and_true];first|done|omega|(simp;done))) [↓zmi,beq,ybc,ybd,ybe,ag,wk,wk2,wk1,wkM,wkL,ak,ybf,hcl]
 ·have m1:=@iD x hx
  have m2:tn .u64 16 4294967295=16:=by decide +kernel
  have s2:qt .u64 16 32=0:=by decide +kernel
  have e1:IntKind.u64.wrap (x % 4294967296*16)=x % 4294967296*16:=by rw [w];omega
  have e2:IntKind.u64.wrap (x/4294967296*16)=x/4294967296*16:=by rw [w];omega
  have e3:IntKind.u64.wrap (x/4294967296*16+x % 4294967296*16/4294967296)=x/4294967296*16+x % 4294967296*16/4294967296:=by rw [w];omega
  have m3:=@iD (x/4294967296*16+x % 4294967296*16/4294967296) (by omega)
  have z1:IntKind.u64.wrap (x % 4294967296*0)=0:=by rw [Int.mul_zero];rfl
  have z2:IntKind.u64.wrap (x/4294967296*0)=0:=by rw [Int.mul_zero];rfl
  have e4:IntKind.u64.wrap (IntKind.u64.wrap (0+(x/4294967296*16+x % 4294967296*16/4294967296)/4294967296)+(IntKind.u64.wrap ((x/4294967296*16+x % 4294967296*16/4294967296) % 4294967296+0))/4294967296)=x*16/18446744073709551616:=by
   rw [w,w,w,uu (by omega) (by omega) (by omega)]
   congr 2;omega
  simp only [go_sem,tN,m1,m2,m3,e1,e2,e3,z1,z2,s2]
  refine ⟨by omega,by omega,by omega,by omega,by omega,?_⟩
  rw [e4,w]
  simp (disch:=first|assumption|omega|(simp;done)|(simp;omega)|(simp only [bt,and_true];first|done|omega|(simp;done))) [↓zmi,beq,ybc,ybd,ybe,ag,wk,wk2,wk1,wkM,wkL,ak,ybf,hcl]
/-- the value of a digit or of a letter -/
def dg (c:UInt8):Nat:=if 48≤c.toNat∧c.toNat≤57 then c.toNat - 48 else if 97≤c.toNat∧c.toNat≤102 then c.toNat - 87 else 99
def jT:List AV→AHeap→(AV→Prop)→Prop
 |[x,.int .u64 y],_,K=>∃ c,(x=bc c∧(y=10∨y=16))∧K (.int .u64 (if (dg c:Int)<y then (dg c:Int) else y))
 |_,_,_=>False
theorem tq:EntOk Try.prog 58 (Ent.pure jT):=by
 refine EntOk.pure fun args H K h=>?_
 unfold jT at h
 split at h
 rotate_left
 ·exact h.elim
 rename_i x y
 obtain ⟨c,⟨rfl,hy⟩,hK⟩:=h
 refine ⟨_,hK,?_⟩
 clear hK
 refine ACalls.fW aE TblOk.nil Try.func58 [.tmp 4] (Nat.le_refl _) (T:=ax []) (h:=fun hcl hlt=>?_)
 clear hlt
 have hc:c.toNat<256:=UInt8.toNat_lt c
 have w8:∀ x,IntKind.u8.wrap x=x % 256:=fun x=>by simp [IntKind.wrap,IntKind.signed,IntKind.bits]
 have w:∀ x,IntKind.u64.wrap x=x % 18446744073709551616:=fun x=>by simp [IntKind.wrap,IntKind.signed,IntKind.bits]
 simp only [go_sem,bc]
 refine bR (fun h1=>?_) (fun h1=>?_)
 ·refine al (fun h2=>?_) (fun h2=>?_)
  ·have hd:dg c=c.toNat - 48:=by unfold dg;rw [if_pos (by simp at h1 h2;omega)]
   have e:min (IntKind.u64.wrap (IntKind.u8.wrap ((c.toNat:Int) - 48))) y=if (dg c:Int)<y then (dg c:Int) else y:=by
    rw [w,w8,hd];simp at h1 h2;split<;>omega
   simp only [go_sem,e]
   simp (disch:=first|assumption|omega|(simp;done)|(simp;omega)|(simp only [bt,and_true];first|done|omega|(simp;done))) [↓zmi,beq,ybc,ybd,ybe,ag,wk,wk2,wk1,wkM,wkL,ak,ybf,hcl]
  ·simp only [go_sem]
   refine bR (fun h3=>?_) (fun h3=>?_)
   ·refine al (fun h4=>?_) (fun h4=>?_)
    ·have hd:dg c=c.toNat - 87:=by unfold dg;simp at h1 h2 h3 h4;rw [if_neg (by omega),if_pos (by omega)]
     have e:min (IntKind.u64.wrap (IntKind.u64.wrap (IntKind.u8.wrap ((c.toNat:Int) - 97))+10)) y=if (dg c:Int)<y then (dg c:Int) else y:=by
      rw [w,w,w8,hd];simp at h1 h2 h3 h4;split<;>omega
     simp only [go_sem,e]
     simp (disch:=first|assumption|omega|(simp;done)|(simp;omega)|(simp only [bt,and_true];first|done|omega|(simp;done))) [↓zmi,beq,ybc,ybd,ybe,ag,wk,wk2,wk1,wkM,wkL,ak,ybf,hcl]
    ·have hd:dg c=99:=by unfold dg;simp at h1 h2 h3 h4;rw [if_neg (by omega),if_neg (by omega)]
     have e:min y y=if (dg c:Int)<y then (dg c:Int) else y:=by rw [hd];split<;>omega
     simp only [go_sem,e]
     simp (disch:=first|assumption|omega|(simp;done)|(simp;omega)|(simp only [bt,and_true];first|done|omega|(simp;done))) [↓zmi,beq,ybc,ybd,ybe,ag,wk,wk2,wk1,wkM,wkL,ak,ybf,hcl]
   ·have hd:dg c=99:=by unfold dg;simp at h1 h2 h3;rw [if_neg (by omega),if_neg (by omega)]
    have e:min y y=if (dg c:Int)<y then (dg c:Int) else y:=by rw [hd];split<;>omega
    try simp only [go_sem,zau,e]
    simp (disch:=first|assumption|omega|(simp;done)|(simp;omega)|(simp only [bt,and_true];first|done|omega|(simp;done))) [↓zmi,beq,ybc,ybd,ybe,ag,wk,wk2,wk1,wkM,wkL,ak,ybf,hcl]
 ·try simp only [go_sem,zau]
  refine bR (fun h3=>?_) (fun h3=>?_)
  ·refine al (fun h4=>?_) (fun h4=>?_)
   ·simp at h1 h3;omega
   ·have hd:dg c=99:=by unfold dg;simp at h1 h3 h4;rw [if_neg (by omega),if_neg (by omega)]
    have e:min y y=if (dg c:Int)<y then (dg c:Int) else y:=by rw [hd];split<;>omega
    simp only [go_sem,e]
    simp (disch:=first|assumption|omega|(simp;done)|(simp;omega)|(simp only [bt,and_true];first|done|omega|(simp;done))) [↓zmi,beq,ybc,ybd,ybe,ag,wk,wk2,wk1,wkM,wkL,ak,ybf,hcl]
  ·have hd:dg c=99:=by unfold dg;simp at h1 h3;rw [if_neg (by omega),if_neg (by omega)]
   have e:min y y=if (dg c:Int)<y then (dg c:Int) else y:=by rw [hd];split<;>omega
   simp only [go_sem,zau,e]
   simp (disch:=first|assumption|omega|(simp;done)|(simp;omega)|(simp only [bt,and_true];first|done|omega|(simp;done))) [↓zmi,beq,ybc,ybd,ybe,ag,wk,wk2,wk1,wkM,wkL,ak,ybf,hcl]
/-- the words of a multiple as far as they are done -/
def hZ (z:Int) (k:Nat):List AV:=[.int .u64 (if 0<k then w0 z else 0),.int .u64 (if 1<k then w1 z else 0),.int .u64 (if 2<k then w2 z else 0)]
/-- what is carried -/
def mck (a y m:Int) (k:Nat):Int:=match k with
 |0=>m
 |1=>(a % 2^64*y+m)/2^64
 |2=>(a % 2^128*y+m)/2^128
 |_=>(a*y+m)/2^192
theorem uC {a y m:Int} (h0:0≤a) (h1:a<2^128) (hy:y=10∨y=16) (hm:0≤m∧m<y) :
 ((w0 a*y+m) % 2^64=w0 (a*y+m)∧(w0 a*y+m)/2^64=mck a y m 1)∧((w1 a*y+mck a y m 1) % 2^64=w1 (a*y+m)∧(w1 a*y+mck a y m 1)/2^64=mck a y m 2) ∧
 ((w2 a*y+mck a y m 2) % 2^64=w2 (a*y+m)∧(w2 a*y+mck a y m 2)/2^64=0)∧(0≤mck a y m 1∧mck a y m 1<16)∧(0≤mck a y m 2∧mck a y m 2<16):=by
 have split:∀ z:Int,0≤z→z<2^192→z=w0 z+18446744073709551616*w1 z+340282366920938463463374607431768211456*w2 z:=fun z g0 g1=>by unfold w0 w1 w2;omega
 have a0:=vz a
 have a1:=u3 a
 have a2:=wd a
 have ha:=split a h0 (by omega)
 have hp:0≤a*y+m∧a*y+m<2^192:=by rcases hy with rfl|rfl<;>omega
 have hz:=split (a*y+m) hp.1 hp.2
 have b0:=vz (a*y+m)
 have b1:=u3 (a*y+m)
 have b2:=wd (a*y+m)
 have q2:w2 a=0:=by generalize w0 a=x0 at *;generalize w1 a=x1 at *;generalize w2 a=x2 at *;omega
 have e1:a % 2^64=w0 a:=rfl
 have e2:a % 2^128=a:=by omega
 simp only [mck,e1,e2,q2] at *
 generalize w0 (a*y+m)=z0 at *
 generalize w1 (a*y+m)=z1 at *
 generalize w2 (a*y+m)=z2 at *
 generalize w0 a=x0 at *
 generalize w1 a=x1 at *
 subst ha
 clear q2 e1 e2 split h0 h1 a2
 have k2:((x0+18446744073709551616*x1+340282366920938463463374607431768211456*0)*y+m)/2^128=z2:=by omega
 have k1:(x0*y+m)/2^64=z1+18446744073709551616*z2 - x1*y:=by rcases hy with rfl|rfl<;>omega
 have k0:(x0*y+m) % 2^64=z0:=by rcases hy with rfl|rfl<;>omega
 rw [k2,k1,k0]
 have k3:0≤x0*y+m∧x0*y+m<16*18446744073709551616:=by rcases hy with rfl|rfl<;>omega
 have k4:z1+18446744073709551616*z2 - x1*y<16∧0≤z1+18446744073709551616*z2 - x1*y:=by omega
 have k5:z2<16:=by rcases hy with rfl|rfl<;>omega
 refine ⟨⟨?_,?_⟩,⟨?_,?_⟩,⟨?_,?_⟩,⟨?_,?_⟩,?_,?_⟩<;>first|trivial|omega
def jX:List AV→AHeap→(AV→Prop)→Prop
 |[x,.int .u64 y,.int .u64 m],_,K=>∃ a,(x=nAV a∧(0≤a∧a<2^128)∧(y=10∨y=16)∧0≤m∧m<y)∧K (nAV (a*y+m))
 |_,_,_=>False
theorem sG:EntOk Try.prog 59 (Ent.pure jX):=by
 refine EntOk.pure fun args H K h=>?_
 unfold jX at h
 split at h
 rotate_left
 ·exact h.elim
 rename_i y m
 obtain ⟨a,⟨rfl,ha,hy,hm⟩,hK⟩:=h
 refine ⟨_,hK,?_⟩
 refine ACalls.fW aE (TblOk.cons v5 (TblOk.cons uR TblOk.nil)) Try.func59 [.cell 6 101] (Nat.le_refl _) (T:=ax []) (h:=fun hcl hlt=>?_)
 clear hlt hK
 obtain ⟨⟨s1,s2⟩,⟨s3,s4⟩,⟨s5,s6⟩,r1,r2⟩:=uC ha.1 ha.2 hy hm
 have a0:=vz a
 have a1:=u3 a
 have a2:=wd a
 have hml:0≤m∧m<18446744073709551616:=by omega
 have split:∀ x m':Int,(0≤x∧x<18446744073709551616)→(0≤m'∧m'<16)→(x*y % 18446744073709551616+m'+0) % 18446744073709551616=(x*y+m') % 2^64∧IntKind.u64.wrap (x*y/18446744073709551616+(x*y % 18446744073709551616+m'+0)/18446744073709551616)=(x*y+m')/2^64:=fun x m' hx hm'=>by
  have w:∀ x,IntKind.u64.wrap x=x % 18446744073709551616:=fun x=>by simp [IntKind.wrap,IntKind.signed,IntKind.bits]
  rw [w]
  have e:x*y=18446744073709551616*(x*y/18446744073709551616)+x*y % 18446744073709551616:=by omega
  have b:0≤x*y∧x*y<18446744073709551616*16:=by rcases hy with rfl|rfl<;>omega
  generalize x*y=z at *
  constructor<;>omega
 have m0:mck a y m 0=m:=rfl
 simp only [go_sem,nAV]
 refine az (A:=Nat) (fun k=>[(13,.int .i64 (k:Int)),(1,.int .u64 y),(2,.int .u64 (if k=3 then 0 else mck a y m k)),(3,.ptr H.nx 0),(6,.ptr (H.nx+1) 0),(7,.ptr (H.nx+1+1) 0)])
  (fun k=>((H.push (.cells [.int .u64 (w0 a),.int .u64 (w1 a),.int .u64 (w2 a)])).push (.cells [.int .u64 0,.int .u64 0,.int .u64 0])).push (.cells (hZ (a*y+m) k)))
  (fun k=>k≤3) (fun k=>3 - k) 0 (by omega) ?_ fun k hk=>?_
 ·(simp only [bkq,enterW,bd,ltF,ne_eq,Nat.reduceEqDiff,reduceCtorEq,hZ,Nat.lt_irrefl,if_false,Nat.not_lt_zero,m0];try simp (disch:=first|assumption|omega|(simp;done)|(simp;omega)|(simp only [bt,and_true];first|done|omega|(simp;done))) [↓zmi,beq,ybc,ybd,ybe,ag,wk,wk2,wk1,wkM,wkL,ak,ybf,byq,biq,aj,hcl,hZ,Nat.lt_irrefl,if_false,Nat.not_lt_zero,m0];try (repeat' (first|assumption|omega|exact True.intro|refine And.intro ?_ ?_|refine af ?_|refine aa ?_|refine ae ?_ ?_|refine ah ?_ ?_|refine ai ?_|exact AHeap.Le.refl _|refine AHeap.Le.push ?_ _|refine AHeap.Le.del ?_ ?_|(simp only [bt,and_true,true_and,hZ,Nat.lt_irrefl,if_false,Nat.not_lt_zero,m0];first|done|omega|(simp;done)))))
 rcases (by omega:k=0∨k=1∨k=2∨k=3) with rfl|rfl|rfl|rfl
 ·have hd:decide (((0:Nat):Int)<3)=true:=rfl
  have e1:IntKind.i64.wrap (((0:Nat):Int)+1)=((1:Nat):Int):=by rw [wrap_i64]<;>omega
  have t1:((0:Nat):Int).toNat=0:=rfl
  obtain ⟨f1,f2⟩:=split (w0 a) m a0 (by omega)
  rw [s1] at f1
  rw [s2] at f2
  simp only [go_sem,zat,jK,jP,hd,hZ,e1,t1,m0,f1,f2,Int.reduceLT,Nat.reduceEqDiff]
  refine ⟨by omega,by omega,by omega,by omega,1,by omega,by omega,?_⟩
  (simp only [bkq,enterW,bd,ltF,ne_eq,Nat.reduceEqDiff,reduceCtorEq,hZ];try simp (disch:=first|assumption|omega|(simp;done)|(simp;omega)|(simp only [bt,and_true];first|done|omega|(simp;done))) [↓zmi,beq,ybc,ybd,ybe,ag,wk,wk2,wk1,wkM,wkL,ak,ybf,byq,biq,aj,hcl,hZ];try (repeat' (first|assumption|omega|exact True.intro|refine And.intro ?_ ?_|refine af ?_|refine aa ?_|refine ae ?_ ?_|refine ah ?_ ?_|refine ai ?_|exact AHeap.Le.refl _|refine AHeap.Le.push ?_ _|refine AHeap.Le.del ?_ ?_|(simp only [bt,and_true,true_and,hZ];first|done|omega|(simp;done)))))
 ·have hd:decide (((1:Nat):Int)<3)=true:=rfl
  have e1:IntKind.i64.wrap (((1:Nat):Int)+1)=((2:Nat):Int):=by rw [wrap_i64]<;>omega
  have t1:((1:Nat):Int).toNat=1:=rfl
  obtain ⟨f1,f2⟩:=split (w1 a) (mck a y m 1) a1 (by omega)
  rw [s3] at f1
  rw [s4] at f2
  simp only [go_sem,zat,jK,jP,hd,hZ,e1,t1,f1,f2,Nat.reduceEqDiff]
  refine ⟨by omega,by omega,by omega,by omega,2,by omega,by omega,?_⟩
  (simp only [bkq,enterW,bd,ltF,ne_eq,Nat.reduceEqDiff,reduceCtorEq,hZ];try simp (disch:=first|assumption|omega|(simp;done)|(simp;omega)|(simp only [bt,and_true];first|done|omega|(simp;done))) [↓zmi,beq,ybc,ybd,ybe,ag,wk,wk2,wk1,wkM,wkL,ak,ybf,byq,biq,aj,hcl,hZ];try (repeat' (first|assumption|omega|exact True.intro|refine And.intro ?_ ?_|refine af ?_|refine aa ?_|refine ae ?_ ?_|refine ah ?_ ?_|refine ai ?_|exact AHeap.Le.refl _|refine AHeap.Le.push ?_ _|refine AHeap.Le.del ?_ ?_|(simp only [bt,and_true,true_and,hZ];first|done|omega|(simp;done)))))
 ·have hd:decide (((2:Nat):Int)<3)=true:=rfl
  have e1:IntKind.i64.wrap (((2:Nat):Int)+1)=((3:Nat):Int):=by rw [wrap_i64]<;>omega
  have t1:((2:Nat):Int).toNat=2:=rfl
  obtain ⟨f1,f2⟩:=split (w2 a) (mck a y m 2) a2 (by omega)
  rw [s5] at f1
  rw [s6] at f2
  simp only [go_sem,zat,jK,jP,hd,hZ,e1,t1,f1,f2,Nat.reduceEqDiff]
  refine ⟨by omega,by omega,by omega,by omega,3,by omega,by omega,?_⟩
  (simp only [bkq,enterW,bd,ltF,ne_eq,Nat.reduceEqDiff,reduceCtorEq,hZ];try simp (disch:=first|assumption|omega|(simp;done)|(simp;omega)|(simp only [bt,and_true];first|done|omega|(simp;done))) [↓zmi,beq,ybc,ybd,ybe,ag,wk,wk2,wk1,wkM,wkL,ak,ybf,byq,biq,aj,hcl,hZ];try (repeat' (first|assumption|omega|exact True.intro|refine And.intro ?_ ?_|refine af ?_|refine aa ?_|refine ae ?_ ?_|refine ah ?_ ?_|refine ai ?_|exact AHeap.Le.refl _|refine AHeap.Le.push ?_ _|refine AHeap.Le.del ?_ ?_|(simp only [bt,and_true,true_and,hZ];first|done|omega|(simp;done)))))
 ·have hd:decide (((3:Nat):Int)<3)=false:=rfl
  simp only [go_sem,zau,hd,hZ]
  simp (disch:=first|assumption|omega|(simp;done)|(simp;omega)|(simp only [bt,and_true];first|done|omega|(simp;done))) [↓zmi,beq,ybc,ybd,ybe,ag,wk,wk2,wk1,wkM,wkL,ak,ybf,hcl]
/-- the number of a row of digits, as long as it is less than 2^128 -/
def ji (base:Nat):Nat→List UInt8→Option Nat
 |n,[]=>some n
 |n,c::s=>if dg c<base then (if n*base+dg c<2^128 then ji base (n*base+dg c) s else none) else none
def lit (s:List UInt8):Option Nat:=if iv s [48,120] then (if s.drop 2=[] then none else ji 16 0 (s.drop 2)) else if s=[] then none else ji 10 0 s
/-- gW ways, for a eU -/
theorem lD {a b:Nat} {G:Prop} (h1:a<b→G) (h2:b≤a→G):G:=(Nat.lt_or_ge a b).elim h1 h2
def k7 (o:Option Nat):AV:=match o with
 |some n=>.tup [nAV n,.bool true]
 |none=>.tup [nAV 0,.bool false]
def gy:List AV→AHeap→(AV→Prop)→Prop
 |[.str s],_,K=>(s.length≤140737488355328)∧K (k7 (lit s))
 |_,_,_=>False
theorem kE:EntOk Try.prog 34 (Ent.pure gy):=by
 refine EntOk.pure fun args H K h=>?_
 unfold gy at h
 split at h
 rotate_left
 ·exact h.elim
 rename_i s
 obtain ⟨hl,hK⟩:=h
 refine ⟨_,hK,?_⟩
 refine ACalls.fW aE (TblOk.cons oN (TblOk.cons tq (TblOk.cons sG (TblOk.cons ns TblOk.nil)))) Try.func34 [.cell 2 101,.tmp 3] (Nat.le_refl _) (T:=ax []) (h:=fun hcl hlt=>?_)
 clear hlt hK
 have z0:nAV 0=.agg [.int .u64 0,.int .u64 0,.int .u64 0]:=rfl
 simp only [go_sem,ij,nn]
 refine al (fun h1=>?_) (fun h1=>?_)
 ·simp only [go_sem,h1]
  have hl':(s.drop 2).length≤140737488355328:=by rw [List.length_drop];omega
  have hr:lit s=if s.drop 2=[] then none else ji 16 0 (s.drop 2):=by unfold lit;rw [h1];simp
  rw [hr]
  clear hr h1 hl
  generalize s.drop 2=b at *
  refine ⟨by omega,?_⟩
  refine az (A:=Nat × Nat) (fun x=>[(0,.str b),(2,.ptr H.nx 0),(4,.int .u64 16),(7,.ptr (H.nx+1) 0),(21,.slice .any 1 (bys b)),(22,.int .i64 (b.length:Int)),(23,.int .i64 (x.1:Int))])
   (fun x=>(H.push (.cells [.int .u64 0,.int .u64 0,.int .u64 0])).push (.cells [.int .u64 (w0 (x.2:Int)),.int .u64 (w1 (x.2:Int)),.int .u64 (w2 (x.2:Int))]))
   (fun x=>x.1≤b.length∧x.2<2^128∧ji 16 0 b=ji 16 x.2 (b.drop x.1)) (fun x=>b.length - x.1) (0,0) ⟨by omega,by decide,rfl⟩ ?_ fun x hI=>?_
  ·have z1:w0 0=0:=rfl
   have z2:w1 0=0:=rfl
   have z3:w2 0=0:=rfl
   (simp only [bkq,enterW,bd,ltF,ne_eq,Nat.reduceEqDiff,reduceCtorEq,z1,z2,z3];try simp (disch:=first|assumption|omega|(simp;done)|(simp;omega)|(simp only [bt,and_true];first|done|omega|(simp;done))) [↓zmi,beq,ybc,ybd,ybe,ag,wk,wk2,wk1,wkM,wkL,ak,ybf,byq,biq,aj,hcl,z1,z2,z3];try (repeat' (first|assumption|omega|exact True.intro|refine And.intro ?_ ?_|refine af ?_|refine aa ?_|refine ae ?_ ?_|refine ah ?_ ?_|refine ai ?_|exact AHeap.Le.refl _|refine AHeap.Le.push ?_ _|refine AHeap.Le.del ?_ ?_|(simp only [bt,and_true,true_and,z1,z2,z3];first|done|omega|(simp;done)))))
  obtain ⟨k,n⟩:=x
  obtain ⟨hk,hn,hl2⟩:=hI
  dsimp only at *
  simp only [go_sem,byq]
  refine al (fun h2=>?_) (fun h2=>?_)
  ·have h2':k<b.length:=by simpa using h2
   rw [List.drop_eq_getElem_cons h2'] at hl2
   have hg:(bys b).getD k .junk=bc b[k]:=by rw [n7 h2'];simp [List.getD_eq_getElem?_getD,h2']
   have e5:IntKind.i64.wrap ((k:Int)+1)=((k+1:Nat):Int):=by rw [wrap_i64]<;>omega
   simp only [ji] at hl2
   generalize b[k]=c at *
   simp only [go_sem,byq,hg,jT]
   refine ⟨by omega,c,rfl,?_⟩
   by_cases hd:dg c<16
   ·have hdi:((dg c:Nat):Int)<16:=by omega
    rw [if_pos hdi]
    rw [if_pos hd] at hl2
    have hne:(((dg c:Nat):Int)==16)=false:=by simp;omega
    have hz:AV.agg [.int .u64 (w0 (n:Int)),.int .u64 (w1 (n:Int)),.int .u64 (w2 (n:Int))]=nAV (n:Int):=rfl
    simp only [go_sem,byq,zau,hne,jX]
    refine ⟨(n:Int),⟨rfl,by omega,by omega,by omega⟩,?_⟩
    obtain ⟨z,hz2⟩:∃ z:Int,z=((n*16+dg c:Nat):Int):=⟨_,rfl⟩
    have en:((n:Int)*16+(dg c:Nat))=z:=by omega
    have hN:isN z:=⟨by omega,by omega⟩
    refine lD (a:=n*16+dg c) (b:=2^128) (fun hf=>?_) (fun hf=>?_)
    ·rw [if_pos hf] at hl2
     have hv:f9 z=.tup [.agg [.int .u64 (z/2^64),.int .u64 (z % 2^64)],.bool true]:=by unfold f9;rw [if_pos (by omega)]
     simp only [go_sem,byq,en,nAV,fj]
     refine ⟨z,⟨rfl,hN⟩,?_⟩
     simp only [go_sem,byq,zau,hv,e5]
     refine ⟨(k+1,n*16+dg c),⟨by omega,hf,hl2⟩,by omega,?_⟩
     (simp only [bkq,enterW,bd,ltF,ne_eq,Nat.reduceEqDiff,reduceCtorEq,hz2];try simp (disch:=first|assumption|omega|(simp;done)|(simp;omega)|(simp only [bt,and_true];first|done|omega|(simp;done))) [↓zmi,beq,ybc,ybd,ybe,ag,wk,wk2,wk1,wkM,wkL,ak,ybf,byq,biq,aj,hcl,hz2];try (repeat' (first|assumption|omega|exact True.intro|refine And.intro ?_ ?_|refine af ?_|refine aa ?_|refine ae ?_ ?_|refine ah ?_ ?_|refine ai ?_|exact AHeap.Le.refl _|refine AHeap.Le.push ?_ _|refine AHeap.Le.del ?_ ?_|(simp only [bt,and_true,true_and,hz2];first|done|omega|(simp;done)))))
    ·rw [if_neg (Nat.not_lt.2 hf)] at hl2
     have hv:f9 z=.tup [.agg [.int .u64 0,.int .u64 0],.bool false]:=by unfold f9;rw [if_neg (by omega)]
     simp only [go_sem,byq,en,nAV,fj]
     refine ⟨z,⟨rfl,hN⟩,?_⟩
     have hbn:b≠[]:=by intro h;subst h;simp at h2'
     simp only [go_sem,byq,zat,hv,hl2,if_neg hbn,k7,z0]
     simp (disch:=first|assumption|omega|(simp;done)|(simp;omega)|(simp only [bt,and_true];first|done|omega|(simp;done))) [↓zmi,beq,ybc,ybd,ybe,ag,wk,wk2,wk1,wkM,wkL,ak,ybf,hcl]
   ·rw [if_neg (by omega)]
    rw [if_neg hd] at hl2
    have hbn:b≠[]:=by intro h;subst h;simp at h2'
    have he:((16:Int)==16)=true:=rfl
    simp only [go_sem,byq,zat,hl2,if_neg hbn,k7,z0,he]
    simp (disch:=first|assumption|omega|(simp;done)|(simp;omega)|(simp only [bt,and_true];first|done|omega|(simp;done))) [↓zmi,beq,ybc,ybd,ybe,ag,wk,wk2,wk1,wkM,wkL,ak,ybf,hcl]
  ·have h2':k=b.length:=by simp at h2;omega
   subst h2'
   rw [List.drop_length] at hl2
   simp only [ji] at hl2
   simp only [go_sem,byq]
   refine al (fun h3=>?_) (fun h3=>?_)
   ·have hbn:b=[]:=by simpa using h3
    simp only [go_sem,byq,if_pos hbn,k7,z0]
    simp (disch:=first|assumption|omega|(simp;done)|(simp;omega)|(simp only [bt,and_true];first|done|omega|(simp;done))) [↓zmi,beq,ybc,ybd,ybe,ag,wk,wk2,wk1,wkM,wkL,ak,ybf,hcl]
   ·have hbn:b≠[]:=by simpa using h3
    simp only [go_sem,byq,if_neg hbn,k7,hl2,nAV]
    simp (disch:=first|assumption|omega|(simp;done)|(simp;omega)|(simp only [bt,and_true];first|done|omega|(simp;done))) [↓zmi,beq,ybc,ybd,ybe,ag,wk,wk2,wk1,wkM,wkL,ak,ybf,hcl]
 ·simp only [go_sem,h1]
  have hl':(s).length≤140737488355328:=by exact hl
  have hr:lit s=if s=[] then none else ji 10 0 (s):=by unfold lit;rw [h1];simp
  rw [hr]
  clear hr h1 hl
  generalize s=b at *
  refine ⟨by omega,?_⟩
  refine az (A:=Nat × Nat) (fun x=>[(0,.str b),(2,.ptr H.nx 0),(4,.int .u64 10),(7,.ptr (H.nx+1) 0),(21,.slice .any 1 (bys b)),(22,.int .i64 (b.length:Int)),(23,.int .i64 (x.1:Int))])
   (fun x=>(H.push (.cells [.int .u64 0,.int .u64 0,.int .u64 0])).push (.cells [.int .u64 (w0 (x.2:Int)),.int .u64 (w1 (x.2:Int)),.int .u64 (w2 (x.2:Int))]))
   (fun x=>x.1≤b.length∧x.2<2^128∧ji 10 0 b=ji 10 x.2 (b.drop x.1)) (fun x=>b.length - x.1) (0,0) ⟨by omega,by decide,rfl⟩ ?_ fun x hI=>?_
  ·have z1:w0 0=0:=rfl
   have z2:w1 0=0:=rfl
   have z3:w2 0=0:=rfl
   (simp only [bkq,enterW,bd,ltF,ne_eq,Nat.reduceEqDiff,reduceCtorEq,z1,z2,z3];try simp (disch:=first|assumption|omega|(simp;done)|(simp;omega)|(simp only [bt,and_true];first|done|omega|(simp;done))) [↓zmi,beq,ybc,ybd,ybe,ag,wk,wk2,wk1,wkM,wkL,ak,ybf,byq,biq,aj,hcl,z1,z2,z3];try (repeat' (first|assumption|omega|exact True.intro|refine And.intro ?_ ?_|refine af ?_|refine aa ?_|refine ae ?_ ?_|refine ah ?_ ?_|refine ai ?_|exact AHeap.Le.refl _|refine AHeap.Le.push ?_ _|refine AHeap.Le.del ?_ ?_|(simp only [bt,and_true,true_and,z1,z2,z3];first|done|omega|(simp;done)))))
  obtain ⟨k,n⟩:=x
  obtain ⟨hk,hn,hl2⟩:=hI
  dsimp only at *
  simp only [go_sem,byq]
  refine al (fun h2=>?_) (fun h2=>?_)
  ·have h2':k<b.length:=by simpa using h2
   rw [List.drop_eq_getElem_cons h2'] at hl2
   have hg:(bys b).getD k .junk=bc b[k]:=by rw [n7 h2'];simp [List.getD_eq_getElem?_getD,h2']
   have e5:IntKind.i64.wrap ((k:Int)+1)=((k+1:Nat):Int):=by rw [wrap_i64]<;>omega
   simp only [ji] at hl2
   generalize b[k]=c at *
   simp only [go_sem,byq,hg,jT]
   refine ⟨by omega,c,rfl,?_⟩
   by_cases hd:dg c<10
   ·have hdi:((dg c:Nat):Int)<10:=by omega
    rw [if_pos hdi]
    rw [if_pos hd] at hl2
    have hne:(((dg c:Nat):Int)==10)=false:=by simp;omega
    have hz:AV.agg [.int .u64 (w0 (n:Int)),.int .u64 (w1 (n:Int)),.int .u64 (w2 (n:Int))]=nAV (n:Int):=rfl
    simp only [go_sem,byq,zau,hne,jX]
    refine ⟨(n:Int),⟨rfl,by omega,by omega,by omega⟩,?_⟩
    obtain ⟨z,hz2⟩:∃ z:Int,z=((n*10+dg c:Nat):Int):=⟨_,rfl⟩
    have en:((n:Int)*10+(dg c:Nat))=z:=by omega
    have hN:isN z:=⟨by omega,by omega⟩
    refine lD (a:=n*10+dg c) (b:=2^128) (fun hf=>?_) (fun hf=>?_)
    ·rw [if_pos hf] at hl2
     have hv:f9 z=.tup [.agg [.int .u64 (z/2^64),.int .u64 (z % 2^64)],.bool true]:=by unfold f9;rw [if_pos (by omega)]
     simp only [go_sem,byq,en,nAV,fj]
     refine ⟨z,⟨rfl,hN⟩,?_⟩
     simp only [go_sem,byq,zau,hv,e5]
     refine ⟨(k+1,n*10+dg c),⟨by omega,hf,hl2⟩,by omega,?_⟩
     (simp only [bkq,enterW,bd,ltF,ne_eq,Nat.reduceEqDiff,reduceCtorEq,hz2];try simp (disch:=first|assumption|omega|(simp;done)|(simp;omega)|(simp only [bt,and_true];first|done|omega|(simp;done))) [↓zmi,beq,ybc,ybd,ybe,ag,wk,wk2,wk1,wkM,wkL,ak,ybf,byq,biq,aj,hcl,hz2];try (repeat' (first|assumption|omega|exact True.intro|refine And.intro ?_ ?_|refine af ?_|refine aa ?_|refine ae ?_ ?_|refine ah ?_ ?_|refine ai ?_|exact AHeap.Le.refl _|refine AHeap.Le.push ?_ _|refine AHeap.Le.del ?_ ?_|(simp only [bt,and_true,true_and,hz2];first|done|omega|(simp;done)))))
    ·rw [if_neg (Nat.not_lt.2 hf)] at hl2
     have hv:f9 z=.tup [.agg [.int .u64 0,.int .u64 0],.bool false]:=by unfold f9;rw [if_neg (by omega)]
     simp only [go_sem,byq,en,nAV,fj]
     refine ⟨z,⟨rfl,hN⟩,?_⟩
     have hbn:b≠[]:=by intro h;subst h;simp at h2'
     simp only [go_sem,byq,zat,hv,hl2,if_neg hbn,k7,z0]
     simp (disch:=first|assumption|omega|(simp;done)|(simp;omega)|(simp only [bt,and_true];first|done|omega|(simp;done))) [↓zmi,beq,ybc,ybd,ybe,ag,wk,wk2,wk1,wkM,wkL,ak,ybf,hcl]
   ·rw [if_neg (by omega)]
    rw [if_neg hd] at hl2
    have hbn:b≠[]:=by intro h;subst h;simp at h2'
    have he:((10:Int)==10)=true:=rfl
    simp only [go_sem,byq,zat,hl2,if_neg hbn,k7,z0,he]
    simp (disch:=first|assumption|omega|(simp;done)|(simp;omega)|(simp only [bt,and_true];first|done|omega|(simp;done))) [↓zmi,beq,ybc,ybd,ybe,ag,wk,wk2,wk1,wkM,wkL,ak,ybf,hcl]
  ·have h2':k=b.length:=by simp at h2;omega
   subst h2'
   rw [List.drop_length] at hl2
   simp only [ji] at hl2
   simp only [go_sem,byq]
   refine al (fun h3=>?_) (fun h3=>?_)
   ·have hbn:b=[]:=by simpa using h3
    simp only [go_sem,byq,if_pos hbn,k7,z0]
    simp (disch:=first|assumption|omega|(simp;done)|(simp;omega)|(simp only [bt,and_true];first|done|omega|(simp;done))) [↓zmi,beq,ybc,ybd,ybe,ag,wk,wk2,wk1,wkM,wkL,ak,ybf,hcl]
   ·have hbn:b≠[]:=by simpa using h3
    simp only [go_sem,byq,if_neg hbn,k7,hl2,nAV]
    simp (disch:=first|assumption|omega|(simp;done)|(simp;omega)|(simp only [bt,and_true];first|done|omega|(simp;done))) [↓zmi,beq,ybc,ybd,ybe,ag,wk,wk2,wk1,wkM,wkL,ak,ybf,hcl]
end Go.AL
