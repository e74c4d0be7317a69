/- Lemmas of the proof; no condition. -/
import Derived.Test.YtpbnggedofiinaaGreatCE
import Derived.Test.YtpbnggedofiinaaGreatLBack
set_option linter.all false
set_option maxRecDepth 10000
open List renaming length_cons → yaz, length_nil → yba, take_of_length_le → ybc, drop_append → ybd, take_append → ybe, drop_eq_nil_of_le → ybf, take_zero → yar
open Go Go.AL Go.Proofs
namespace Go.AL
def wN:List AV→AHeap→(AV→Prop)→Prop
 |[.int .u64 n],_,K=>(0≤n∧n<18446744073709551616)∧K (vv n.toNat)
 |_,_,_=>False
theorem qJ:EntOk Tryz.prog 241 (Ent.pure wN):=by
 refine Ype fun _ H K h=>?_
 unfold wN at h
 split at h
 rotate_left
 ·exact h.elim
 rename_i n
 obtain ⟨⟨h0,h1⟩,hK⟩:=h
 refine ⟨_,hK,?_⟩
 obtain ⟨x,rfl⟩:=dM h0
 clear hK h0
 rw [iNq]
 have e:vv x=.agg [.int .u64 0,.int .u64 (x:Int)]:=by
  have:=pq (hi:=0) (lo:=x) (by omega)
  simpa [vOf] using this
 rw [e]
 refine ACalls.fW ag tNq Tryz.func241 [.cell 2 38] (nrq _) (T:=af []) (h:=fun hcl hlt=>?_)
 clear hlt
 simp only [go_sem,zav,byq]
 exact Z2
def D7:List AV→AHeap→(AV→Prop)→Prop
 |[.agg [.int .u64 a,.int .u64 b],.agg [.int .u64 c,.int .u64 d]],_,K=>(isV a b∧isV c d)∧K (vv (vOf a.toNat b.toNat ||| vOf c.toNat d.toNat))
 |_,_,_=>False
theorem uC:EntOk Tryz.prog 239 (Ent.pure D7):=by
 refine Ype fun _ H K h=>?_
 unfold D7 at h
 split at h
 rotate_left
 ·exact h.elim
 rename_i a b c d
 obtain ⟨⟨⟨h0,h1,h2,h3⟩,k0,k1,k2,k3⟩,hK⟩:=h
 refine ⟨_,hK,?_⟩
 obtain ⟨x,rfl⟩:=dM h0
 obtain ⟨y,rfl⟩:=dM h2
 obtain ⟨z,rfl⟩:=dM k0
 obtain ⟨w,rfl⟩:=dM k2
 clear hK h0 h2 k0 k2
 simp only [iNq]
 have hx:x<2^64:=by omega
 have hy:y<2^64:=by omega
 have hz:z<2^64:=by omega
 have hw:w<2^64:=by omega
 rw [Hb x y z w hy hw,pq (Nat.or_lt_two_pow hy hw)]
 refine ACalls.fW ag tNq Tryz.func239 [.cell 4 38] (nrq _) (T:=af []) (h:=fun hcl hlt=>?_)
 clear hlt
 simp only [go_sem,zav,byq,qz x z hx hz,qz y w hy hw]
 exact Z2
def um:List AV→AHeap→(AV→Prop)→Prop
 |[.agg [.int .u64 hi,.int .u64 lo],.int .i64 n],_,K=>(isV hi lo∧n<9223372036854775808)∧K (vv ((vOf hi.toNat lo.toNat <<< n.toNat) % 2^128))
 |_,_,_=>False
theorem oq:EntOk Tryz.prog 240 (Ent.pure um):=by
 refine Ype fun _ H K h=>?_
 unfold um at h
 split at h
 rotate_left
 ·exact h.elim
 rename_i hi lo n
 obtain ⟨⟨⟨h0,h1,h2,h3⟩,hn⟩,hK⟩:=h
 refine ⟨_,hK,?_⟩
 obtain ⟨x,rfl⟩:=dM h0
 obtain ⟨y,rfl⟩:=dM h2
 clear hK h0 h2
 rw [iNq,iNq]
 have hx:x<2^64:=by omega
 have hy:y<2^64:=by omega
 refine ACalls.fW ag tNq Tryz.func240 [.cell 4 38] (nrq _) (T:=af []) (h:=fun hcl hlt=>?_)
 clear hlt
 simp only [go_sem,zav,byq]
 refine bK (fun t=>?_) (fun t=>bK (fun s=>?_) (fun s=>?_))
 ·have t':n.toNat=0:=by simp at t;omega
  rw [t',Nat.shiftLeft_zero,Nat.mod_eq_of_lt (uF hx hy),pq hy]
  exact Z2
 ·simp at t s
  obtain ⟨m,rfl⟩:∃ m:Nat,n=m+64:=⟨(n - 64).toNat,by omega⟩
  have e1:IntKind.i64.wrap ((m:Int)+64 - 64)=m:=by rw [wrap_i64]<;>omega
  have e2:IntKind.u64.wrap (m:Int)=m:=by rw [iA]<;>omega
  have e3:((m:Int)+64).toNat=m+64:=by omega
  have e4:vv ((vOf x y <<< (m+64)) % 2^128)=.agg [.int .u64 (((y <<< m) % 2^64:Nat):Int),.int .u64 0]:=by
   rw [EI x y _ (by omega),Nat.add_sub_cancel,pq (by decide)];rfl
  rw [e3,e4,e1,e2,oK]
  repeat refine ⟨by omega,?_⟩
  exact Z2
 ·simp at t s
  obtain ⟨m,rfl⟩:∃ m:Nat,n=m:=⟨n.toNat,by omega⟩
  have hm:m<64:=by omega
  have e1:IntKind.i64.wrap (64 - (m:Int))=((64 - m:Nat):Int):=by rw [wrap_i64]<;>omega
  have e2:IntKind.u64.wrap (m:Int)=m:=by rw [iA]<;>omega
  have e3:IntKind.u64.wrap ((64 - m:Nat):Int)=((64 - m:Nat):Int):=by rw [iA]<;>omega
  have e4:vv ((vOf x y <<< m) % 2^128)=.agg [.int .u64 ((((x <<< m) % 2^64 ||| y >>> (64 - m):Nat)):Int),.int .u64 (((y <<< m) % 2^64:Nat):Int)]:=by
   unfold vv
   rw [Ft x y m hy hm,Gc x y m hy]
  rw [e1,e2,e3,iNq,e4,oK,oK,kn y _ hy,qz _ _ (Nat.mod_lt _ (by decide)) (nJ hy)]
  repeat refine ⟨by omega,?_⟩
  exact Z2
def oo:List AV→AHeap→(AV→Prop)→Prop
 |[.slice _ 1 l],_,K=>(isB l∧l.length≤140737488355328)∧K (.tup [vv (ey (unb l)).1,.int .i64 (ey (unb l)).2])
 |_,_,_=>False
theorem jv:EntOk Tryz.prog 211 (Ent.pure oo):=by
 refine Ype fun _ H K h=>?_
 unfold oo at h
 split at h
 rotate_left
 ·exact h.elim
 rename_i m l
 obtain ⟨⟨c1,hle⟩,hK⟩:=h
 refine ⟨_,hK,?_⟩
 obtain ⟨xs,rfl⟩:=eU c1
 clear hK
 simp only [zlz,zlk] at *
 have v0:vv 0=.agg [.int .u64 0,.int .u64 0]:=rfl
 by_cases h1:xs.length=0
 ·rw [show ey xs=(0,1) by simp [ey,h1]]
  dsimp only
  have d1:((xs.length:Int)==0)=true:=by simp [h1]
  refine ACalls.fW ag (tCq oq (tCq qJ (tCq uC tNq))) Tryz.func211 [.cell 2 38,.tmp 3] (nrq _) (T:=af []) (h:=fun hcl hlt=>?_)
  clear hlt
  simp only [go_sem,zav,byq,d1,v0]
  exact Z2
 have d1:((xs.length:Int)==0)=false:=by simp;intro e;exact h1 (by rw [e];rfl)
 by_cases h2:16<xs.length
 ·rw [show ey xs=(0,3) by simp [ey,h1,h2]]
  dsimp only
  have d2:decide ((xs.length:Int) > 16)=true:=by simp;omega
  refine ACalls.fW ag (tCq oq (tCq qJ (tCq uC tNq))) Tryz.func211 [.cell 2 38,.tmp 3] (nrq _) (T:=af []) (h:=fun hcl hlt=>?_)
  clear hlt
  simp only [go_sem,zav,byq,d1,d2,v0]
  exact Z2
 have d2:decide ((xs.length:Int) > 16)=false:=by simp;omega
 have dg:(bys xs).getD 0 .junk=aO (b0 xs):=Fj xs (by omega)
 by_cases h3:1<xs.length∧(b0 xs).toNat=0
 ·rw [show ey xs=(0,5) by simp [ey,h1,h2,h3]]
  dsimp only
  have d3:decide ((xs.length:Int) > 1)=true:=by simp;omega
  have d4:(((b0 xs).toNat:Int)==0)=true:=by simp [h3.2]
  refine ACalls.fW ag (tCq oq (tCq qJ (tCq uC tNq))) Tryz.func211 [.cell 2 38,.tmp 3] (nrq _) (T:=af []) (h:=fun hcl hlt=>?_)
  clear hlt
  simp only [go_sem,zav,byq,d1,d2,d3,dg,aO,d4,v0]
  refine ⟨by omega,?_⟩
  exact Z2
 rw [show ey xs=(aQ xs,0) by simp only [ey];rw [if_neg h1,if_neg h2,if_neg h3]]
 dsimp only
 have hv0:∀ k,k≤xs.length→aQ (xs.take k)<2^128:=fun k hk=>by
  have:=nv xs k 16 (by omega)
  omega
 have v1:∀ v,vv v=.agg [.int .u64 ((v/2^64:Nat):Int),.int .u64 ((v % 2^64:Nat):Int)]:=fun _=>rfl
 have fin:∀ (v:Nat),v<2^128→isV ((v/2^64:Nat):Int) ((v % 2^64:Nat):Int):=fun v hv=>⟨by omega,by omega,by omega,by omega⟩
 have hcase:(decide ((xs.length:Int) > 1)=true∧(((b0 xs).toNat:Int)==0)=false)∨(decide ((xs.length:Int) > 1)=false∧True):=by
  by_cases h4:1<xs.length
  ·refine .inl ⟨by simp;omega,?_⟩
   have:(b0 xs).toNat≠0:=fun e=>h3 ⟨h4,e⟩
   simp;omega
  ·exact .inr ⟨by simp;omega,trivial⟩
 have sp:splice [AV.int .u64 0,AV.int .u64 0] 0 [AV.int .u64 ((aQ xs/2^64:Nat):Int),AV.int .u64 ((aQ xs % 2^64:Nat):Int)]=[AV.int .u64 ((aQ xs/2^64:Nat):Int),AV.int .u64 ((aQ xs % 2^64:Nat):Int)]:=rfl
 rw [v1]
 refine ACalls.fW ag (tCq oq (tCq qJ (tCq uC tNq))) Tryz.func211 [.cell 2 38,.tmp 3] (nrq _) (T:=af []) (h:=fun hcl hlt=>?_)
 clear hlt
 rcases hcase with ⟨d3,d4⟩|⟨d3,d4⟩
 all_goals simp only [go_sem,byq,d1,d2,d3,dg,aO,d4]
 all_goals try refine ⟨by omega,?_⟩
 all_goals
  refine kx (A:=Nat) (fun k=>[(30,.int .i64 (k:Int)),(29,.int .i64 (xs.length:Int)),(28,.slice m 1 (bys xs)),(4,.ptr (H.nx+1) 0),(2,.ptr H.nx 0)])
   (fun k=>(H.push (.cells [.int .u64 0,.int .u64 0])).push (.cells [.int .u64 ((aQ (xs.take k)/2^64:Nat):Int),.int .u64 ((aQ (xs.take k) % 2^64:Nat):Int)])) (fun k=>k≤xs.length) (fun k=>xs.length - k) 0 (by omega) ?_ fun k hk=>?_
 iterate 2
  ·simp only [bnq,enter,pf,ltF,ne_eq,Nat.reduceEqDiff,reduceCtorEq,yar,sX,true_or,and_true]
   all_goals first|rfl|exact .inl rfl
  simp only [go_sem,byq]
  refine ae (fun hc=>?_) (fun hc=>?_)
  ·have hk:k<xs.length:=by simp at hc;omega
   have e1:IntKind.i64.wrap ((k:Int)+1)=((k+1:Nat):Int):=by rw [wrap_i64]<;>omega
   have hb:=hv0 k (by omega)
   have hb2:aQ (xs.take k)<2^120:=by
    have:=kB (xs.take k)
    have h5:(256:Nat)^(xs.take k).length≤256^15:=Nat.pow_le_pow_right (by decide) (by rw [List.length_take];omega)
    omega
   have hx:(bys xs).getD k .junk=aO (xs.getD k 0):=kJ hk
   have hxl:=UInt8.toNat_lt (xs.getD k 0)
   have e2:IntKind.u64.wrap (((xs.getD k 0).toNat:Nat):Int)=(((xs.getD k 0).toNat:Nat):Int):=by rw [iA]<;>omega
   have e3:=Fc (aQ (xs.take k)) (xs.getD k 0).toNat hb2 hxl
   rw [← qL xs k hk] at e3
   have f1:=fin (aQ (xs.take k)) hb
   have f2:=fin (xs.getD k 0).toNat (by omega)
   have f3:=fin ((aQ (xs.take k) <<< 8) % 2^128) (Nat.mod_lt _ (by decide))
   simp only [go_sem,byq,iNq,hx,e1,zlk,aO,um,wN,D7,e2,v1,vD,e3,f1,f2,f3]
   refine ⟨by omega,by decide,by omega,k+1,by omega,by omega,?_⟩
   exact Z3
  ·have hk:k=xs.length:=by simp at hc;omega
   subst hk
   simp only [go_sem,byq,List.take_length,sp]
   exact Z2
end Go.AL
