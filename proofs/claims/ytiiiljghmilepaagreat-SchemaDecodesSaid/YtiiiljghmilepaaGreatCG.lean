/- Contracts and plain laws, a part of the proof; no condition of its own. -/
import Derived.Test.YtiiiljghmilepaaGreatCE
import Derived.Test.YtiiiljghmilepaaGreatLRd2
open List renaming length_cons → yaz, length_nil → yba, take_of_length_le → ybc, drop_append → ybd, take_append → ybe, drop_eq_nil_of_le → ybf, take_zero → yar
open Go Go.AL Go.Proofs
namespace Go.AL
set_option linter.all false
set_option maxRecDepth 10000
def xT:List AV→AHeap→(AV→Prop)→Prop
 |[.int .u64 n],_,K=>(0≤n∧n<18446744073709551616)∧K (vv n.toNat)
 |_,_,_=>False
theorem qC:EntOk Tryz.prog 197 (Ent.pure xT):=by
 refine EntOk.pure fun args H K h=>?_
 unfold xT at h
 split at h
 rotate_left
 ·exact h.elim
 rename_i n
 obtain ⟨⟨h0,h1⟩,hK⟩:=h
 refine ⟨_,hK,?_⟩
 obtain ⟨x,rfl⟩:=dd h0
 clear hK h0
 rw [Int.toNat_natCast]
 have e:vv x=.agg [.int .u64 0,.int .u64 (x:Int)]:=by
  have:=pm (hi:=0) (lo:=x) (by omega)
  simpa [vOf] using this
 rw [e]
 refine ACalls.fW aB TblOk.nil Tryz.func197 [.cell 2 212] (Nat.le_refl _) (T:=ay []) (h:=fun hcl hlt=>?_)
 clear hlt
 simp only [go_sem,zav,byq]
 simp (disch:=first|assumption|omega|(simp;done)|(simp;omega)|(simp only [bt,and_true];first|done|omega|(simp;done))) [↓zmi,beq,ybc,ybd,ybe,al,wk,wk2,wk1,wkM,wkL,aG,ybf,hcl]
def DJ:List AV→AHeap→(AV→Prop)→Prop
 |[.agg [.int .u64 a,.int .u64 b],.agg [.int .u64 c,.int .u64 d]],_,K=>(isV a b∧isV c d)∧K (vv (vOf a.toNat b.toNat ||| vOf c.toNat d.toNat))
 |_,_,_=>False
theorem uB:EntOk Tryz.prog 299 (Ent.pure DJ):=by
 refine EntOk.pure fun args H K h=>?_
 unfold DJ at h
 split at h
 rotate_left
 ·exact h.elim
 rename_i a b c d
 obtain ⟨⟨⟨h0,h1,h2,h3⟩,k0,k1,k2,k3⟩,hK⟩:=h
 refine ⟨_,hK,?_⟩
 obtain ⟨x,rfl⟩:=dd h0
 obtain ⟨y,rfl⟩:=dd h2
 obtain ⟨z,rfl⟩:=dd k0
 obtain ⟨w,rfl⟩:=dd k2
 clear hK h0 h2 k0 k2
 simp only [Int.toNat_natCast]
 have hx:x<2^64:=by omega
 have hy:y<2^64:=by omega
 have hz:z<2^64:=by omega
 have hw:w<2^64:=by omega
 rw [Hl x y z w hy hw,pm (Nat.or_lt_two_pow hy hw)]
 refine ACalls.fW aB TblOk.nil Tryz.func299 [.cell 4 212] (Nat.le_refl _) (T:=ay []) (h:=fun hcl hlt=>?_)
 clear hlt
 simp only [go_sem,zav,byq,mU x z hx hz,mU y w hy hw]
 simp (disch:=first|assumption|omega|(simp;done)|(simp;omega)|(simp only [bt,and_true];first|done|omega|(simp;done))) [↓zmi,beq,ybc,ybd,ybe,al,wk,wk2,wk1,wkM,wkL,aG,ybf,hcl]
def tT:List AV→AHeap→(AV→Prop)→Prop
 |[.agg [.int .u64 hi,.int .u64 lo],.int .i64 n],_,K=>(isV hi lo∧n<9223372036854775808)∧K (vv ((vOf hi.toNat lo.toNat <<< n.toNat) % 2^128))
 |_,_,_=>False
theorem oB:EntOk Tryz.prog 300 (Ent.pure tT):=by
 refine EntOk.pure fun args H K h=>?_
 unfold tT at h
 split at h
 rotate_left
 ·exact h.elim
 rename_i hi lo n
 obtain ⟨⟨⟨h0,h1,h2,h3⟩,hn⟩,hK⟩:=h
 refine ⟨_,hK,?_⟩
 obtain ⟨x,rfl⟩:=dd h0
 obtain ⟨y,rfl⟩:=dd h2
 clear hK h0 h2
 rw [Int.toNat_natCast,Int.toNat_natCast]
 have hx:x<2^64:=by omega
 have hy:y<2^64:=by omega
 refine ACalls.fW aB TblOk.nil Tryz.func300 [.cell 4 212] (Nat.le_refl _) (T:=ay []) (h:=fun hcl hlt=>?_)
 clear hlt
 simp only [go_sem,zav,byq]
 refine cS (fun t=>?_) (fun t=>cS (fun s=>?_) (fun s=>?_))
 ·have t':n.toNat=0:=by simp at t;omega
  rw [t',Nat.shiftLeft_zero,Nat.mod_eq_of_lt (mD hx hy),pm hy]
  simp (disch:=first|assumption|omega|(simp;done)|(simp;omega)|(simp only [bt,and_true];first|done|omega|(simp;done))) [↓zmi,beq,ybc,ybd,ybe,al,wk,wk2,wk1,wkM,wkL,aG,ybf,hcl]
 ·simp at t s
  obtain ⟨m,rfl⟩:∃ m:Nat,n=m+64:=⟨(n - 64).toNat,by omega⟩
  have e1:IntKind.i64.wrap ((m:Int)+64 - 64)=m:=by rw [wrap_i64]<;>omega
  have e2:IntKind.u64.wrap (m:Int)=m:=by rw [fK]<;>omega
  have e3:((m:Int)+64).toNat=m+64:=by omega
  have e4:vv ((vOf x y <<< (m+64)) % 2^128)=.agg [.int .u64 (((y <<< m) % 2^64:Nat):Int),.int .u64 0]:=by
   rw [Ea x y _ (by omega),Nat.add_sub_cancel,pm (by decide)];rfl
  rw [e3,e4,e1,e2,mu]
  repeat refine ⟨by omega,?_⟩
  simp (disch:=first|assumption|omega|(simp;done)|(simp;omega)|(simp only [bt,and_true];first|done|omega|(simp;done))) [↓zmi,beq,ybc,ybd,ybe,al,wk,wk2,wk1,wkM,wkL,aG,ybf,hcl]
 ·simp at t s
  obtain ⟨m,rfl⟩:∃ m:Nat,n=m:=⟨n.toNat,by omega⟩
  have hm:m<64:=by omega
  have e1:IntKind.i64.wrap (64 - (m:Int))=((64 - m:Nat):Int):=by rw [wrap_i64]<;>omega
  have e2:IntKind.u64.wrap (m:Int)=m:=by rw [fK]<;>omega
  have e3:IntKind.u64.wrap ((64 - m:Nat):Int)=((64 - m:Nat):Int):=by rw [fK]<;>omega
  have e4:vv ((vOf x y <<< m) % 2^128)=.agg [.int .u64 ((((x <<< m) % 2^64 ||| y >>> (64 - m):Nat)):Int),.int .u64 (((y <<< m) % 2^64:Nat):Int)]:=by
   unfold vv
   rw [Fv x y m hy hm,FP x y m hy]
  rw [e1,e2,e3,Int.toNat_natCast,e4,mu,mu,jr y _ hy,mU _ _ (Nat.mod_lt _ (by decide)) (lM hy)]
  repeat refine ⟨by omega,?_⟩
  simp (disch:=first|assumption|omega|(simp;done)|(simp;omega)|(simp only [bt,and_true];first|done|omega|(simp;done))) [↓zmi,beq,ybc,ybd,ybe,al,wk,wk2,wk1,wkM,wkL,aG,ybf,hcl]
def oE:List AV→AHeap→(AV→Prop)→Prop
 |[.slice _ 1 l],_,K=>(isB l∧l.length≤140737488355328)∧K (.tup [vv (dD (unb l)).1,.int .i64 (dD (unb l)).2])
 |_,_,_=>False
theorem jQ:EntOk Tryz.prog 281 (Ent.pure oE):=by
 refine EntOk.pure fun args H K h=>?_
 unfold oE at h
 split at h
 rotate_left
 ·exact h.elim
 rename_i m l
 obtain ⟨⟨c1,hle⟩,hK⟩:=h
 refine ⟨_,hK,?_⟩
 obtain ⟨xs,rfl⟩:=dO c1
 clear hK
 simp only [zlt,zle] at *
 have v0:vv 0=.agg [.int .u64 0,.int .u64 0]:=rfl
 by_cases h1:xs.length=0
 ·rw [show dD xs=(0,1) by simp [dD,h1]]
  dsimp only
  have d1:((xs.length:Int)==0)=true:=by simp [h1]
  refine ACalls.fW aB (TblOk.cons oB (TblOk.cons qC (TblOk.cons uB TblOk.nil))) Tryz.func281 [.cell 2 212,.tmp 3] (Nat.le_refl _) (T:=ay []) (h:=fun hcl hlt=>?_)
  clear hlt
  simp only [go_sem,zav,byq,d1,v0]
  simp (disch:=first|assumption|omega|(simp;done)|(simp;omega)|(simp only [bt,and_true];first|done|omega|(simp;done))) [↓zmi,beq,ybc,ybd,ybe,al,wk,wk2,wk1,wkM,wkL,aG,ybf,hcl]
 have d1:((xs.length:Int)==0)=false:=by simp;intro e;exact h1 (by rw [e];rfl)
 by_cases h2:16<xs.length
 ·rw [show dD xs=(0,3) by simp [dD,h1,h2]]
  dsimp only
  have d2:decide ((xs.length:Int) > 16)=true:=by simp;omega
  refine ACalls.fW aB (TblOk.cons oB (TblOk.cons qC (TblOk.cons uB TblOk.nil))) Tryz.func281 [.cell 2 212,.tmp 3] (Nat.le_refl _) (T:=ay []) (h:=fun hcl hlt=>?_)
  clear hlt
  simp only [go_sem,zav,byq,d1,d2,v0]
  simp (disch:=first|assumption|omega|(simp;done)|(simp;omega)|(simp only [bt,and_true];first|done|omega|(simp;done))) [↓zmi,beq,ybc,ybd,ybe,al,wk,wk2,wk1,wkM,wkL,aG,ybf,hcl]
 have d2:decide ((xs.length:Int) > 16)=false:=by simp;omega
 have dg:(bys xs).getD 0 .junk=bd (b0 xs):=qG xs (by omega)
 by_cases h3:1<xs.length∧(b0 xs).toNat=0
 ·rw [show dD xs=(0,5) by simp [dD,h1,h2,h3]]
  dsimp only
  have d3:decide ((xs.length:Int) > 1)=true:=by simp;omega
  have d4:(((b0 xs).toNat:Int)==0)=true:=by simp [h3.2]
  refine ACalls.fW aB (TblOk.cons oB (TblOk.cons qC (TblOk.cons uB TblOk.nil))) Tryz.func281 [.cell 2 212,.tmp 3] (Nat.le_refl _) (T:=ay []) (h:=fun hcl hlt=>?_)
  clear hlt
  simp only [go_sem,zav,byq,d1,d2,d3,dg,bd,d4,v0]
  refine ⟨by omega,?_⟩
  simp (disch:=first|assumption|omega|(simp;done)|(simp;omega)|(simp only [bt,and_true];first|done|omega|(simp;done))) [↓zmi,beq,ybc,ybd,ybe,al,wk,wk2,wk1,wkM,wkL,aG,ybf,hcl]
 rw [show dD xs=(bT xs,0) by simp only [dD];rw [if_neg h1,if_neg h2,if_neg h3]]
 dsimp only
 have hv0:∀ k,k≤xs.length→bT (xs.take k)<2^128:=fun k hk=>by
  have:=iU xs k 16 (by omega)
  omega
 have v1:∀ v,vv v=.agg [.int .u64 ((v/2^64:Nat):Int),.int .u64 ((v % 2^64:Nat):Int)]:=fun _=>rfl
 have fin:∀ (v:Nat),v<2^128→isV ((v/2^64:Nat):Int) ((v % 2^64:Nat):Int):=fun v hv=>⟨by omega,by omega,by omega,by omega⟩
 have hcase:(decide ((xs.length:Int) > 1)=true∧(((b0 xs).toNat:Int)==0)=false)∨(decide ((xs.length:Int) > 1)=false∧True):=by
  by_cases h4:1<xs.length
  ·refine .inl ⟨by simp;omega,?_⟩
   have:(b0 xs).toNat≠0:=fun e=>h3 ⟨h4,e⟩
   simp;omega
  ·exact .inr ⟨by simp;omega,trivial⟩
 have sp:splice [AV.int .u64 0,AV.int .u64 0] 0 [AV.int .u64 ((bT xs/2^64:Nat):Int),AV.int .u64 ((bT xs % 2^64:Nat):Int)]=[AV.int .u64 ((bT xs/2^64:Nat):Int),AV.int .u64 ((bT xs % 2^64:Nat):Int)]:=rfl
 rw [v1]
 refine ACalls.fW aB (TblOk.cons oB (TblOk.cons qC (TblOk.cons uB TblOk.nil))) Tryz.func281 [.cell 2 212,.tmp 3] (Nat.le_refl _) (T:=ay []) (h:=fun hcl hlt=>?_)
 clear hlt
 rcases hcase with ⟨d3,d4⟩|⟨d3,d4⟩
 all_goals simp only [go_sem,byq,d1,d2,d3,dg,bd,d4]
 all_goals try refine ⟨by omega,?_⟩
 all_goals
  refine eE (A:=Nat) (fun k=>[(30,.int .i64 (k:Int)),(29,.int .i64 (xs.length:Int)),(28,.slice m 1 (bys xs)),(4,.ptr (H.nx+1) 0),(2,.ptr H.nx 0)])
   (fun k=>(H.push (.cells [.int .u64 0,.int .u64 0])).push (.cells [.int .u64 ((bT (xs.take k)/2^64:Nat):Int),.int .u64 ((bT (xs.take k) % 2^64:Nat):Int)])) (fun k=>k≤xs.length) (fun k=>xs.length - k) 0 (by omega) ?_ fun k hk=>?_
 iterate 2
  ·simp only [bnq,enter,iz,ltF,ne_eq,Nat.reduceEqDiff,reduceCtorEq,yar,pG,true_or,and_true]
   all_goals first|rfl|exact .inl rfl
  simp only [go_sem,byq]
  refine ai (fun hc=>?_) (fun hc=>?_)
  ·have hk:k<xs.length:=by simp at hc;omega
   have e1:IntKind.i64.wrap ((k:Int)+1)=((k+1:Nat):Int):=by rw [wrap_i64]<;>omega
   have hb:=hv0 k (by omega)
   have hb2:bT (xs.take k)<2^120:=by
    have:=lC (xs.take k)
    have h5:(256:Nat)^(xs.take k).length≤256^15:=Nat.pow_le_pow_right (by decide) (by rw [List.length_take];omega)
    omega
   have hx:(bys xs).getD k .junk=bd (xs.getD k 0):=iG hk
   have hxl:=UInt8.toNat_lt (xs.getD k 0)
   have e2:IntKind.u64.wrap (((xs.getD k 0).toNat:Nat):Int)=(((xs.getD k 0).toNat:Nat):Int):=by rw [fK]<;>omega
   have e3:=Ge (bT (xs.take k)) (xs.getD k 0).toNat hb2 hxl
   rw [← nL xs k hk] at e3
   have f1:=fin (bT (xs.take k)) hb
   have f2:=fin (xs.getD k 0).toNat (by omega)
   have f3:=fin ((bT (xs.take k) <<< 8) % 2^128) (Nat.mod_lt _ (by decide))
   simp only [go_sem,byq,Int.toNat_natCast,hx,e1,zle,bd,tT,xT,DJ,e2,v1,rq,e3,f1,f2,f3]
   refine ⟨by omega,by decide,by omega,k+1,by omega,by omega,?_⟩
   simp only [bnq,enter,iz,ltF,ne_eq,Nat.reduceEqDiff,reduceCtorEq,true_or,and_self]
  ·have hk:k=xs.length:=by simp at hc;omega
   subst hk
   simp only [go_sem,byq,List.take_length,sp]
   simp (disch:=first|assumption|omega|(simp;done)|(simp;omega)|(simp only [bt,and_true];first|done|omega|(simp;done))) [↓zmi,beq,ybc,ybd,ybe,al,wk,wk2,wk1,wkM,wkL,aG,ybf,hcl]
def qZ:List AV→AHeap→(AV→Prop)→Prop
 |[.agg l],_,K=>xb l∧K (vv (mF l))
 |_,_,_=>False
theorem mZ:EntOk Tryz.prog 282 (Ent.pure qZ):=by
 refine EntOk.pure fun args H K h=>?_
 unfold qZ at h
 split at h
 rotate_left
 ·exact h.elim
 rename_i l
 obtain ⟨c1,hK⟩:=h
 refine ⟨_,hK,?_⟩
 obtain ⟨v,rfl,hv⟩:=x8 c1
 clear hK c1
 rw [kN hv]
 have v1:vv v=.agg [.int .u64 ((v/2^64:Nat):Int),.int .u64 ((v % 2^64:Nat):Int)]:=rfl
 have hbl:∀ i,i<64→(v % 2^64).testBit i=v.testBit i:=fun i hi=>by rw [Nat.testBit_mod_two_pow];simp [hi]
 have hbh:∀ i,(v/2^64).testBit i=v.testBit (i+64):=fun i=>by rw [Nat.testBit_div_two_pow]
 have hx:v/2^64<2^64:=by omega
 have hy:v % 2^64<2^64:=by omega
 rw [v1]
 generalize v/2^64=x at *
 generalize v % 2^64=y at *
 clear v1
 refine ACalls.fW aB TblOk.nil Tryz.func282 [.cell 2 212] (Nat.le_refl _) (T:=ay []) (h:=fun hcl hlt=>?_)
 clear hlt
 simp only [go_sem,byq]
 refine eE (A:=Nat) (fun k=>[(4,.int .i64 (k:Int)),(3,.ptr (H.nx+1+1) 0),(1,.ptr H.nx 0),(2,.ptr (H.nx+1) 0)])
  (fun k=>((H.push (.cells (bits v))).push (.cells [.int .u64 0,.int .u64 0])).push (.cells [.int .u64 ((x % 2^k:Nat):Int),.int .u64 ((y % 2^k:Nat):Int)])) (fun k=>k≤64) (fun k=>64 - k) 0 (by omega) ?_ fun k hk=>?_
 ·simp only [bnq,enter,iz,ltF,ne_eq,Nat.reduceEqDiff,reduceCtorEq,Nat.pow_zero,Nat.mod_one,true_or,and_true]
 simp only [go_sem,byq]
 refine ai (fun hc=>?_) (fun hc=>?_)
 ·have hk:k<64:=by simp at hc;omega
  have e1:IntKind.i64.wrap ((k:Int)+64)=((k+64:Nat):Int):=by rw [wrap_i64]<;>omega
  have e2:IntKind.u64.wrap (k:Int)=(k:Int):=by rw [fK]<;>omega
  have e3:IntKind.i64.wrap ((k:Int)+1)=((k+1:Nat):Int):=by rw [wrap_i64]<;>omega
  have g1:=oT v k (by omega)
  have g2:=oT v (k+64) (by omega)
  have e4:nm .u64 1 (k:Int)=(((1 <<< k) % 2^64:Nat):Int):=mu 1 k
  have lx:x % 2^k<2^64:=Nat.lt_of_le_of_lt (Nat.mod_le _ _) hx
  have ly:y % 2^k<2^64:=Nat.lt_of_le_of_lt (Nat.mod_le _ _) hy
  have l1:(1 <<< k) % 2^64<2^64:=Nat.mod_lt _ (by decide)
  have o1:=mU _ _ lx l1
  have o2:=mU _ _ ly l1
  have hb1:=hbl k hk
  have hb2:=hbh k
  by_cases c1:v.testBit k=true<;>by_cases c2:v.testBit (k+64)=true
  ·rw [c1] at hb1 g1;rw [c2] at hb2 g2
   rw [qB x k hk hb2] at o1
   rw [qB y k hk hb1] at o2
   simp only [go_sem,zav,byq,e1,e2,e3,e4,Int.toNat_natCast,Nat.zero_add,Nat.mul_one,gF,g1,g2,o1,o2]
   refine ⟨by omega,by omega,by omega,by omega,by omega,by omega,k+1,by omega,by omega,?_⟩
   simp only [bnq,enter,iz,ltF,ne_eq,Nat.reduceEqDiff,reduceCtorEq,true_or,and_self]
  ·have c2:v.testBit (k+64)=false:=by simpa using c2
   rw [c1] at hb1 g1;rw [c2] at hb2 g2
   have o1:=mX x k hb2
   rw [qB y k hk hb1] at o2
   simp only [go_sem,zav,byq,e1,e2,e3,e4,Int.toNat_natCast,Nat.zero_add,Nat.mul_one,gF,g1,g2,o2]
   refine ⟨by omega,by omega,by omega,by omega,by omega,k+1,by omega,by omega,?_⟩
   simp only [bnq,enter,iz,ltF,ne_eq,Nat.reduceEqDiff,reduceCtorEq,o1,true_or,and_self]
  ·have c1:v.testBit k=false:=by simpa using c1
   rw [c1] at hb1 g1;rw [c2] at hb2 g2
   have o2:=mX y k hb1
   rw [qB x k hk hb2] at o1
   simp only [go_sem,zav,byq,e1,e2,e3,e4,Int.toNat_natCast,Nat.zero_add,Nat.mul_one,gF,g1,g2,o1]
   refine ⟨by omega,by omega,by omega,by omega,by omega,k+1,by omega,by omega,?_⟩
   simp only [bnq,enter,iz,ltF,ne_eq,Nat.reduceEqDiff,reduceCtorEq,o2,true_or,and_self]
  ·have c1:v.testBit k=false:=by simpa using c1
   have c2:v.testBit (k+64)=false:=by simpa using c2
   rw [c1] at hb1 g1;rw [c2] at hb2 g2
   have o1:=mX x k hb2
   have o2:=mX y k hb1
   simp only [go_sem,zav,byq,e1,e2,e3,e4,Int.toNat_natCast,Nat.zero_add,Nat.mul_one,gF,g1,g2]
   refine ⟨by omega,by omega,by omega,by omega,k+1,by omega,by omega,?_⟩
   simp only [bnq,enter,iz,ltF,ne_eq,Nat.reduceEqDiff,reduceCtorEq,o1,o2,true_or,and_self]
 ·have hk:k=64:=by simp at hc;omega
  subst hk
  have m1:x % 2^64=x:=Nat.mod_eq_of_lt hx
  have m2:y % 2^64=y:=Nat.mod_eq_of_lt hy
  simp only [go_sem,byq,m1,m2]
  simp (disch:=first|assumption|omega|(simp;done)|(simp;omega)|(simp only [bt,and_true];first|done|omega|(simp;done))) [↓zmi,beq,ybc,ybd,ybe,al,wk,wk2,wk1,wkM,wkL,aG,ybf,hcl]
end Go.AL
open Go Go.AL Go.Proofs
namespace Go.AL
set_option linter.all false
set_option maxRecDepth 10000
theorem yb:ti Tryz.prog 158=some ⟨.struct [(0,22,false),(1,23,false)],2,32,.agg [.slice .nil 1 [],.int .i64 0]⟩:=by kernel_rfl
theorem u6:ti Tryz.prog 156=some ⟨.ptr 158,1,8,.nilp⟩:=by kernel_rfl
attribute [go_sem] yb u6
def oS:List AV→AHeap→(AV→Prop)→Prop
 |[.slice _ 1 l],_,K=>(isB l∧l.length≤140737488355328)∧K (.tup [vv (dD (unb l)).1,.int .i64 (dD (unb l)).2])
 |_,_,_=>False
theorem jI:EntOk Tryz.prog 248 (Ent.pure oS):=by
 refine EntOk.pure fun args H K h=>?_
 unfold oS at h
 split at h
 rotate_left
 ·exact h.elim
 rename_i m l
 obtain ⟨⟨c1,hle⟩,hK⟩:=h
 refine ⟨_,hK,?_⟩
 obtain ⟨xs,rfl⟩:=dO c1
 clear hK
 simp only [zlt,zle] at *
 have v0:vv 0=.agg [.int .u64 0,.int .u64 0]:=rfl
 by_cases h1:xs.length=0
 ·rw [show dD xs=(0,1) by simp [dD,h1]]
  dsimp only
  have d1:((xs.length:Int)==0)=true:=by simp [h1]
  refine ACalls.fW aB (TblOk.cons mZ TblOk.nil) Tryz.func248 [.cell 2 212,.tmp 3] (Nat.le_refl _) (T:=ay []) (h:=fun hcl hlt=>?_)
  clear hlt
  simp only [go_sem,zav,byq,d1,v0]
  simp (disch:=first|assumption|omega|(simp;done)|(simp;omega)|(simp only [bt,and_true];first|done|omega|(simp;done))) [↓zmi,beq,ybc,ybd,ybe,al,wk,wk2,wk1,wkM,wkL,aG,ybf,hcl]
 have d1:((xs.length:Int)==0)=false:=by simp;intro e;exact h1 (by rw [e];rfl)
 by_cases h2:16<xs.length
 ·rw [show dD xs=(0,3) by simp [dD,h1,h2]]
  dsimp only
  have d2:decide ((xs.length:Int) > 16)=true:=by simp;omega
  refine ACalls.fW aB (TblOk.cons mZ TblOk.nil) Tryz.func248 [.cell 2 212,.tmp 3] (Nat.le_refl _) (T:=ay []) (h:=fun hcl hlt=>?_)
  clear hlt
  simp only [go_sem,zav,byq,d1,d2,v0]
  simp (disch:=first|assumption|omega|(simp;done)|(simp;omega)|(simp only [bt,and_true];first|done|omega|(simp;done))) [↓zmi,beq,ybc,ybd,ybe,al,wk,wk2,wk1,wkM,wkL,aG,ybf,hcl]
 have d2:decide ((xs.length:Int) > 16)=false:=by simp;omega
 have dg:(bys xs).getD 0 .junk=bd (b0 xs):=qG xs (by omega)
 by_cases h3:1<xs.length∧(b0 xs).toNat=0
 ·rw [show dD xs=(0,5) by simp [dD,h1,h2,h3]]
  dsimp only
  have d3:decide ((xs.length:Int) > 1)=true:=by simp;omega
  have d4:(((b0 xs).toNat:Int)==0)=true:=by simp [h3.2]
  refine ACalls.fW aB (TblOk.cons mZ TblOk.nil) Tryz.func248 [.cell 2 212,.tmp 3] (Nat.le_refl _) (T:=ay []) (h:=fun hcl hlt=>?_)
  clear hlt
  simp only [go_sem,zav,byq,d1,d2,d3,dg,bd,d4,v0]
  refine ⟨by omega,?_⟩
  simp (disch:=first|assumption|omega|(simp;done)|(simp;omega)|(simp only [bt,and_true];first|done|omega|(simp;done))) [↓zmi,beq,ybc,ybd,ybe,al,wk,wk2,wk1,wkM,wkL,aG,ybf,hcl]
 rw [show dD xs=(bT xs,0) by simp only [dD];rw [if_neg h1,if_neg h2,if_neg h3]]
 dsimp only
 have hv:bT xs<2^128:=by
  have:=iU xs xs.length 16 (by omega)
  rw [List.take_length] at this
  omega
 have hbit:=AS xs
 have hz:∀ j,8*xs.length≤j→(bT xs).testBit j=false:=fun j hj=>by
  refine Nat.testBit_lt_two_pow (Nat.lt_of_lt_of_le (lC xs) ?_)
  rw [show (256:Nat)=2^8 from rfl,← Nat.pow_mul]
  exact Nat.pow_le_pow_right (by decide) hj
 generalize hvv:bT xs=v at *
 have hcase:(decide ((xs.length:Int) > 1)=true∧(((b0 xs).toNat:Int)==0)=false)∨(decide ((xs.length:Int) > 1)=false∧True):=by
  by_cases h4:1<xs.length
  ·refine .inl ⟨by simp;omega,?_⟩
   have:(b0 xs).toNat≠0:=fun e=>h3 ⟨h4,e⟩
   simp;omega
  ·exact .inr ⟨by simp;omega,trivial⟩
 have v1:vv v=.agg [.int .u64 ((v/2^64:Nat):Int),.int .u64 ((v % 2^64:Nat):Int)]:=rfl
 refine ACalls.fW aB (TblOk.cons mZ TblOk.nil) Tryz.func248 [.cell 2 212,.tmp 3] (Nat.le_refl _) (T:=ay []) (h:=fun hcl hlt=>?_)
 clear hlt
 rcases hcase with ⟨d3,d4⟩|⟨d3,d4⟩
 all_goals simp only [go_sem,byq,d1,d2,d3,dg,bd,d4]
 all_goals try refine ⟨by omega,?_⟩
 all_goals
  refine eE (A:=Nat) (fun k=>[(31,.int .i64 (k:Int)),(30,.int .i64 (xs.length:Int)),(29,.slice m 1 (bys xs)),(4,.ptr (H.nx+1) 0),(2,.ptr H.nx 0),(0,.slice m 1 (bys xs))])
   (fun k=>(H.push (.cells [.int .u64 0,.int .u64 0])).push (.cells (eO v fun j=>decide (8*(xs.length - k)≤j)))) (fun k=>k≤xs.length) (fun k=>xs.length - k) 0 (by omega) ?_ fun k hk=>?_
 iterate 2
  ·have e0:(eO v fun j=>decide (8*(xs.length - 0)≤j))=List.replicate 128 (.bool false):=by
    unfold eO
    rw [List.eq_replicate_iff]
    refine ⟨by simp,fun b hb=>?_⟩
    obtain ⟨j,_,rfl⟩:=List.mem_map.1 hb
    by_cases hj:8*(xs.length - 0)≤j
    ·rw [hz j (by omega),Bool.and_false]
    ·simp [hj];intro h;omega
   simp only [bnq,enter,iz,ltF,ne_eq,Nat.reduceEqDiff,reduceCtorEq,e0,true_or,and_true]
   all_goals first|rfl|exact .inl rfl
  simp only [go_sem,byq]
  refine ai (fun hc=>?_) (fun hc=>?_)
  ·have hk:k<xs.length:=by simp at hc;omega
   have e1:IntKind.i64.wrap ((k:Int)+1)=((k+1:Nat):Int):=by rw [wrap_i64]<;>omega
   have hx:(bys xs).getD k .junk=bd (xs.getD k 0):=iG hk
   have hxl:=UInt8.toNat_lt (xs.getD k 0)
   simp only [go_sem,byq,Int.toNat_natCast,hx,e1,zle,bd]
   refine ⟨by omega,?_⟩
   refine eE (A:=Nat) (fun i=>[(7,.int .i64 (i:Int)),(6,.int .u8 ((xs.getD k 0).toNat:Nat)),(5,.int .i64 (k:Int)),(31,.int .i64 (k:Int)),(30,.int .i64 (xs.length:Int)),(29,.slice m 1 (bys xs)),(4,.ptr (H.nx+1) 0),(2,.ptr H.nx 0),(0,.slice m 1 (bys xs))])
    (fun i=>(H.push (.cells [.int .u64 0,.int .u64 0])).push (.cells (eO v fun j=>decide (8*(xs.length - k)≤j)||(decide (8*(xs.length - 1 - k)≤j)&&decide (j<8*(xs.length - 1 - k)+i))))) (fun i=>i≤8) (fun i=>8 - i) 0 (by omega) ?_ fun i hi=>?_
   ·have e0:(eO v fun j=>decide (8*(xs.length - k)≤j)||(decide (8*(xs.length - 1 - k)≤j)&&decide (j<8*(xs.length - 1 - k)+0)))=eO v fun j=>decide (8*(xs.length - k)≤j):=by
     unfold eO
     refine List.map_congr_left fun j _=>?_
     congr 2
     rw [Bool.eq_iff_iff];simp;omega
    simp only [bnq,enter,iz,ltF,ne_eq,Nat.reduceEqDiff,reduceCtorEq,e0,true_or,and_true]
   simp only [go_sem,byq]
   refine ai (fun hc2=>?_) (fun hc2=>?_)
   ·have hi:i<8:=by simp at hc2;omega
    have w1:IntKind.i64.wrap ((xs.length:Int) - 1)=((xs.length - 1:Nat):Int):=by rw [wrap_i64]<;>omega
    have w2:IntKind.i64.wrap (((xs.length - 1:Nat):Int) - (k:Int))=((xs.length - 1 - k:Nat):Int):=by rw [wrap_i64]<;>omega
    have w3:IntKind.i64.wrap (8*((xs.length - 1 - k:Nat):Int))=((8*(xs.length - 1 - k):Nat):Int):=by rw [wrap_i64]<;>omega
    have w4:IntKind.i64.wrap (((8*(xs.length - 1 - k):Nat):Int)+(i:Int))=((8*(xs.length - 1 - k)+i:Nat):Int):=by rw [wrap_i64]<;>omega
    have w5:IntKind.u64.wrap (i:Int)=(i:Int):=by rw [fK]<;>omega
    have w6:IntKind.i64.wrap ((i:Int)+1)=((i+1:Nat):Int):=by rw [wrap_i64]<;>omega
    have w7:=ES (xs.getD k 0).toNat i hxl hi
    have w8:=wR ((xs.getD k 0).toNat >>> i) (Nat.lt_of_le_of_lt (Nat.shiftRight_le _ _) hxl)
    have w9:=zg (xs.getD k 0).toNat i
    rw [← hbit k i hk hi] at w9
    have hst:(eO v fun j=>decide (8*(xs.length - k)≤j)||(decide (8*(xs.length - 1 - k)≤j)&&decide (j<8*(xs.length - 1 - k)+i))).set (8*(xs.length - 1 - k)+i) (.bool (v.testBit (8*(xs.length - 1 - k)+i)))=eO v fun j=>decide (8*(xs.length - k)≤j)||(decide (8*(xs.length - 1 - k)≤j)&&decide (j<8*(xs.length - 1 - k)+(i+1))):=by
     rw [nS v _ (fun j=>decide (8*(xs.length - k)≤j)||(decide (8*(xs.length - 1 - k)≤j)&&decide (j<8*(xs.length - 1 - k)+(i+1)))) _ (fun j hj=>by rw [Bool.eq_iff_iff];simp;omega) (by simp)]
    simp only [go_sem,byq,Int.toNat_natCast,zle,w1,w2,w3,w4,w5,w6,w7,w8,w9,Nat.zero_add,Nat.mul_one,rl,jD,hst]
    refine ⟨by omega,by omega,by omega,i+1,by omega,by omega,?_⟩
    simp only [bnq,enter,iz,ltF,ne_eq,Nat.reduceEqDiff,reduceCtorEq,true_or,and_self]
   ·have hi:i=8:=by simp at hc2;omega
    subst hi
    have e8:(eO v fun j=>decide (8*(xs.length - k)≤j)||(decide (8*(xs.length - 1 - k)≤j)&&decide (j<8*(xs.length - 1 - k)+8)))=eO v fun j=>decide (8*(xs.length - (k+1))≤j):=by
     unfold eO
     refine List.map_congr_left fun j _=>?_
     congr 2
     rw [Bool.eq_iff_iff];simp;omega
    simp only [go_sem,byq,e1,e8]
    refine ⟨k+1,by omega,by omega,?_⟩
    simp only [bnq,enter,iz,ltF,ne_eq,Nat.reduceEqDiff,reduceCtorEq,true_or,and_self]
  ·have hk:k=xs.length:=by simp at hc;omega
   subst hk
   have ea:(eO v fun j=>decide (8*(xs.length - xs.length)≤j))=bits v:=qK _ _ fun j _=>by simp
   have et:List.take 128 (bits v)=bits v:=ybc (by rw [gF];omega)
   simp only [go_sem,byq,ea,gF,et,qZ,wP hv,kN hv,v1]
   simp (disch:=first|assumption|omega|(simp;done)|(simp;omega)|(simp only [bt,and_true];first|done|omega|(simp;done))) [↓zmi,beq,ybc,ybd,ybe,al,wk,wk2,wk1,wkM,wkL,aG,ybf,hcl]
end Go.AL
