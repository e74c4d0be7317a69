/- Lemmas of the proof; no condition. -/
import Derived.Test.YtpbnggedofiinaaGreatCE
import Derived.Test.YtpbnggedofiinaaGreatLBack
import Derived.Test.YtpbnggedofiinaaGreatS10z
import Derived.Test.YtpbnggedofiinaaGreatLEntB
set_option linter.all false
set_option maxRecDepth 10000
open List renaming length_cons → yaz, length_nil → yba, take_of_length_le → ybc, drop_append → ybd, take_append → ybe, drop_eq_nil_of_le → ybf, take_zero → yar
open Go Go.AL Go.Proofs
namespace Go.AL
def zE:List AV→AHeap→(AV→Prop)→Prop
 |[.int .u64 n],_,K=>(0≤n∧n<18446744073709551616)∧K (vv n.toNat)
 |_,_,_=>False
theorem sC:EntOk Tryz.prog 241 (Ent.pure zE):=by
 refine Ype fun _ H K h=>?_
 unfold zE at h
 split at h
 rotate_left
 ·exact h.elim
 rename_i n
 obtain ⟨⟨h0,h1⟩,hK⟩:=h
 refine ⟨_,hK,?_⟩
 obtain ⟨x,rfl⟩:=bY h0
 clear hK h0
 rw [iNq]
 have e:vv x=.agg [.int .u64 0,.int .u64 (x:Int)]:=by
  have:=lY (hi:=0) (lo:=x) (by omega)
  simpa [vOf] using this
 rw [e]
 refine ACalls.fW ah tNq Tryz.func241 [.cell 2 38] (nrq _) (T:=ae []) (h:=fun hcl hlt=>?_)
 clear hlt
 simp only [go_sem,zav,byq]
 exact Z2
def Ez:List AV→AHeap→(AV→Prop)→Prop
 |[.agg [.int .u64 a,.int .u64 b],.agg [.int .u64 c,.int .u64 d]],_,K=>(isV a b∧isV c d)∧K (vv (vOf a.toNat b.toNat ||| vOf c.toNat d.toNat))
 |_,_,_=>False
theorem wY:EntOk Tryz.prog 239 (Ent.pure Ez):=by
 refine Ype fun _ H K h=>?_
 unfold Ez at h
 split at h
 rotate_left
 ·exact h.elim
 rename_i a b c d
 obtain ⟨⟨⟨h0,h1,h2,h3⟩,k0,k1,k2,k3⟩,hK⟩:=h
 refine ⟨_,hK,?_⟩
 obtain ⟨x,rfl⟩:=bY h0
 obtain ⟨y,rfl⟩:=bY h2
 obtain ⟨z,rfl⟩:=bY k0
 obtain ⟨w,rfl⟩:=bY k2
 clear hK h0 h2 k0 k2
 simp only [iNq]
 have hx:x<2^64:=by omega
 have hy:y<2^64:=by omega
 have hz:z<2^64:=by omega
 have hw:w<2^64:=by omega
 rw [GI x y z w hy hw,lY (Nat.or_lt_two_pow hy hw)]
 refine ACalls.fW ah tNq Tryz.func239 [.cell 4 38] (nrq _) (T:=ae []) (h:=fun hcl hlt=>?_)
 clear hlt
 simp only [go_sem,zav,byq,ou x z hx hz,ou y w hy hw]
 exact Z2
def wL:List AV→AHeap→(AV→Prop)→Prop
 |[.agg [.int .u64 hi,.int .u64 lo],.int .i64 n],_,K=>(isV hi lo∧n<9223372036854775808)∧K (vv ((vOf hi.toNat lo.toNat <<< n.toNat) % 2^128))
 |_,_,_=>False
theorem pY:EntOk Tryz.prog 240 (Ent.pure wL):=by
 refine Ype fun _ H K h=>?_
 unfold wL at h
 split at h
 rotate_left
 ·exact h.elim
 rename_i hi lo n
 obtain ⟨⟨⟨h0,h1,h2,h3⟩,hn⟩,hK⟩:=h
 refine ⟨_,hK,?_⟩
 obtain ⟨x,rfl⟩:=bY h0
 obtain ⟨y,rfl⟩:=bY h2
 clear hK h0 h2
 rw [iNq,iNq]
 have hx:x<2^64:=by omega
 have hy:y<2^64:=by omega
 refine ACalls.fW ah tNq Tryz.func240 [.cell 4 38] (nrq _) (T:=ae []) (h:=fun hcl hlt=>?_)
 clear hlt
 simp only [go_sem,zav,byq]
 refine bM (fun t=>?_) (fun t=>bM (fun s=>?_) (fun s=>?_))
 ·have t':n.toNat=0:=by simp at t;omega
  rw [t',Nat.shiftLeft_zero,Nat.mod_eq_of_lt (nr hx hy),lY hy]
  exact Z2
 ·simp at t s
  obtain ⟨m,rfl⟩:∃ m:Nat,n=m+64:=⟨(n - 64).toNat,by omega⟩
  have e1:IntKind.i64.wrap ((m:Int)+64 - 64)=m:=by rw [wrap_i64]<;>omega
  have e2:IntKind.u64.wrap (m:Int)=m:=by rw [cG]<;>omega
  have e3:((m:Int)+64).toNat=m+64:=by omega
  have e4:vv ((vOf x y <<< (m+64)) % 2^128)=.agg [.int .u64 (((y <<< m) % 2^64:Nat):Int),.int .u64 0]:=by
   rw [EM x y _ (by omega),Nat.add_sub_cancel,lY (by decide)];rfl
  rw [e3,e4,e1,e2,kv]
  repeat refine ⟨by omega,?_⟩
  exact Z2
 ·simp at t s
  obtain ⟨m,rfl⟩:∃ m:Nat,n=m:=⟨n.toNat,by omega⟩
  have hm:m<64:=by omega
  have e1:IntKind.i64.wrap (64 - (m:Int))=((64 - m:Nat):Int):=by rw [wrap_i64]<;>omega
  have e2:IntKind.u64.wrap (m:Int)=m:=by rw [cG]<;>omega
  have e3:IntKind.u64.wrap ((64 - m:Nat):Int)=((64 - m:Nat):Int):=by rw [cG]<;>omega
  have e4:vv ((vOf x y <<< m) % 2^128)=.agg [.int .u64 ((((x <<< m) % 2^64 ||| y >>> (64 - m):Nat)):Int),.int .u64 (((y <<< m) % 2^64:Nat):Int)]:=by
   unfold vv
   rw [FJ x y m hy hm,Fp x y m hy]
  rw [e1,e2,e3,iNq,e4,kv,kv,iS y _ hy,ou _ _ (Nat.mod_lt _ (by decide)) (ma hy)]
  repeat refine ⟨by omega,?_⟩
  exact Z2
def pJ:List AV→AHeap→(AV→Prop)→Prop
 |[.slice _ 1 l],_,K=>(isB l∧l.length≤140737488355328)∧K (.tup [vv (ep (unb l)).1,.int .i64 (ep (unb l)).2])
 |_,_,_=>False
theorem jk:EntOk Tryz.prog 211 (Ent.pure pJ):=by
 refine Ype fun _ H K h=>?_
 unfold pJ at h
 split at h
 rotate_left
 ·exact h.elim
 rename_i m l
 obtain ⟨⟨c1,hle⟩,hK⟩:=h
 refine ⟨_,hK,?_⟩
 obtain ⟨xs,rfl⟩:=fY c1
 clear hK
 simp only [zlz,zlk] at *
 have v0:vv 0=.agg [.int .u64 0,.int .u64 0]:=rfl
 by_cases h1:xs.length=0
 ·rw [show ep xs=(0,1) by simp [ep,h1]]
  dsimp only
  have d1:((xs.length:Int)==0)=true:=by simp [h1]
  refine ACalls.fW ah (tCq pY (tCq sC (tCq wY tNq))) Tryz.func211 [.cell 2 38,.tmp 3] (nrq _) (T:=ae []) (h:=fun hcl hlt=>?_)
  clear hlt
  simp only [go_sem,zav,byq,d1,v0]
  exact Z2
 have d1:((xs.length:Int)==0)=false:=by simp;intro e;exact h1 (by rw [e];rfl)
 by_cases h2:16<xs.length
 ·rw [show ep xs=(0,3) by simp [ep,h1,h2]]
  dsimp only
  have d2:decide ((xs.length:Int) > 16)=true:=by simp;omega
  refine ACalls.fW ah (tCq pY (tCq sC (tCq wY tNq))) Tryz.func211 [.cell 2 38,.tmp 3] (nrq _) (T:=ae []) (h:=fun hcl hlt=>?_)
  clear hlt
  simp only [go_sem,zav,byq,d1,d2,v0]
  exact Z2
 have d2:decide ((xs.length:Int) > 16)=false:=by simp;omega
 have dg:(bys xs).getD 0 .junk=aL (b0 xs):=FB xs (by omega)
 by_cases h3:1<xs.length∧(b0 xs).toNat=0
 ·rw [show ep xs=(0,5) by simp [ep,h1,h2,h3]]
  dsimp only
  have d3:decide ((xs.length:Int) > 1)=true:=by simp;omega
  have d4:(((b0 xs).toNat:Int)==0)=true:=by simp [h3.2]
  refine ACalls.fW ah (tCq pY (tCq sC (tCq wY tNq))) Tryz.func211 [.cell 2 38,.tmp 3] (nrq _) (T:=ae []) (h:=fun hcl hlt=>?_)
  clear hlt
  simp only [go_sem,zav,byq,d1,d2,d3,dg,aL,d4,v0]
  refine ⟨by omega,?_⟩
  exact Z2
 rw [show ep xs=(aO xs,0) by simp only [ep];rw [if_neg h1,if_neg h2,if_neg h3]]
 dsimp only
 have hv0:∀ k,k≤xs.length→aO (xs.take k)<2^128:=fun k hk=>by
  have:=oO xs k 16 (by omega)
  omega
 have v1:∀ v,vv v=.agg [.int .u64 ((v/2^64:Nat):Int),.int .u64 ((v % 2^64:Nat):Int)]:=fun _=>rfl
 have fin:∀ (v:Nat),v<2^128→isV ((v/2^64:Nat):Int) ((v % 2^64:Nat):Int):=fun v hv=>⟨by omega,by omega,by omega,by omega⟩
 have hcase:(decide ((xs.length:Int) > 1)=true∧(((b0 xs).toNat:Int)==0)=false)∨(decide ((xs.length:Int) > 1)=false∧True):=by
  by_cases h4:1<xs.length
  ·refine .inl ⟨by simp;omega,?_⟩
   have:(b0 xs).toNat≠0:=fun e=>h3 ⟨h4,e⟩
   simp;omega
  ·exact .inr ⟨by simp;omega,trivial⟩
 have sp:splice [AV.int .u64 0,AV.int .u64 0] 0 [AV.int .u64 ((aO xs/2^64:Nat):Int),AV.int .u64 ((aO xs % 2^64:Nat):Int)]=[AV.int .u64 ((aO xs/2^64:Nat):Int),AV.int .u64 ((aO xs % 2^64:Nat):Int)]:=rfl
 rw [v1]
 refine ACalls.fW ah (tCq pY (tCq sC (tCq wY tNq))) Tryz.func211 [.cell 2 38,.tmp 3] (nrq _) (T:=ae []) (h:=fun hcl hlt=>?_)
 clear hlt
 rcases hcase with ⟨d3,d4⟩|⟨d3,d4⟩
 all_goals simp only [go_sem,byq,d1,d2,d3,dg,aL,d4]
 all_goals try refine ⟨by omega,?_⟩
 all_goals
  refine jr (A:=Nat) (fun k=>[(30,.int .i64 (k:Int)),(29,.int .i64 (xs.length:Int)),(28,.slice m 1 (bys xs)),(4,.ptr (H.nx+1) 0),(2,.ptr H.nx 0)])
   (fun k=>(H.push (.cells [.int .u64 0,.int .u64 0])).push (.cells [.int .u64 ((aO (xs.take k)/2^64:Nat):Int),.int .u64 ((aO (xs.take k) % 2^64:Nat):Int)])) (fun k=>k≤xs.length) (fun k=>xs.length - k) 0 (by omega) ?_ fun k hk=>?_
 iterate 2
  ·simp only [bnq,enter,pC,ltF,ne_eq,Nat.reduceEqDiff,reduceCtorEq,yar,vq,true_or,and_true]
   all_goals first|rfl|exact .inl rfl
  simp only [go_sem,byq]
  refine af (fun hc=>?_) (fun hc=>?_)
  ·have hk:k<xs.length:=by simp at hc;omega
   have e1:IntKind.i64.wrap ((k:Int)+1)=((k+1:Nat):Int):=by rw [wrap_i64]<;>omega
   have hb:=hv0 k (by omega)
   have hb2:aO (xs.take k)<2^120:=by
    have:=lI (xs.take k)
    have h5:(256:Nat)^(xs.take k).length≤256^15:=Nat.pow_le_pow_right (by decide) (by rw [List.length_take];omega)
    omega
   have hx:(bys xs).getD k .junk=aL (xs.getD k 0):=nO hk
   have hxl:=UInt8.toNat_lt (xs.getD k 0)
   have e2:IntKind.u64.wrap (((xs.getD k 0).toNat:Nat):Int)=(((xs.getD k 0).toNat:Nat):Int):=by rw [cG]<;>omega
   have e3:=FH (aO (xs.take k)) (xs.getD k 0).toNat hb2 hxl
   rw [← tT xs k hk] at e3
   have f1:=fin (aO (xs.take k)) hb
   have f2:=fin (xs.getD k 0).toNat (by omega)
   have f3:=fin ((aO (xs.take k) <<< 8) % 2^128) (Nat.mod_lt _ (by decide))
   simp only [go_sem,byq,iNq,hx,e1,zlk,aL,wL,zE,Ez,e2,v1,dr,e3,f1,f2,f3]
   refine ⟨by omega,by decide,by omega,k+1,by omega,by omega,?_⟩
   exact Z3
  ·have hk:k=xs.length:=by simp at hc;omega
   subst hk
   simp only [go_sem,byq,List.take_length,sp]
   exact Z2
def p2V (f:Nat→Nat→AV):List AV→AHeap→(AV→Prop)→Prop
 |[.agg [.int .u64 a,.int .u64 b],.agg [.int .u64 c,.int .u64 d]],_,K=>(isV a b∧isV c d)∧K (f (vOf a.toNat b.toNat) (vOf c.toNat d.toNat))
 |_,_,_=>False
theorem bD {a b c d:Int}:teq Tryz.prog 9 38 (.agg [.int .u64 a,.int .u64 b]) (.agg [.int .u64 c,.int .u64 d])=some ((a==c)&&((b==d)&&true)):=by
 have g2:Tryz.prog.stoodInHeld 38=false:=by kernel_rfl
 simp [om,teq,teq.go,teq.part,sx,ceq,g2,TD.agg]
theorem bB:Tryz.prog.eqGuardType Tryz.prog.depth 38=false:=by kernel_rfl
theorem GV (b:Bool):((b==b) != true)=false:=by cases b<;>rfl
theorem It:((true==false) != true)=true:=rfl
theorem Iv:((false==true) != true)=true:=rfl
def gf:=p2V fun x y=>.int .i64 (ir x y)
set_option maxHeartbeats 2000000 in
theorem gM:EntOk Tryz.prog 244 (Ent.pure gf):=by
 unfold gf
 refine Ype fun _ H K h=>?_
 unfold p2V at h
 split at h
 rotate_left
 ·exact h.elim
 rename_i a b c d
 obtain ⟨⟨⟨h0,h1,h2,h3⟩,k0,k1,k2,k3⟩,hK⟩:=h
 refine ⟨_,hK,?_⟩
 obtain ⟨x,rfl⟩:=bY h0
 obtain ⟨y,rfl⟩:=bY h2
 obtain ⟨z,rfl⟩:=bY k0
 obtain ⟨w,rfl⟩:=bY k2
 clear hK h0 h2 k0 k2
 simp only [iNq]
 have hv:=nr (hi:=x) (lo:=y) (by omega) (by omega)
 have hu:=nr (hi:=z) (lo:=w) (by omega) (by omega)
 refine ACalls.fW ah (tCq ES tNq) Tryz.func244 [.tmp 4] (nrq _) (T:=ae [(1,[[],[0],[],[0,1,2],[],[],[0,1,2,3,4,5],[0,1,2,3,4,5]]),(801,[[4,353],[5,353]])]) (h:=fun hcl hlt=>?_)
 clear hlt
 generalize hvo:vOf x y=v at *
 generalize huo:vOf z w=u at *
 have es:∀ t,splice (List.replicate 128 (.bool false)) 0 (bits t)=bits t:=fun t=>lF (y:=.junk) (jE t)
 have tv:∀ t j,t<2^128→128≤j→t.testBit j=false:=fun t j ht hj=>Nat.testBit_lt_two_pow (Nat.lt_of_lt_of_le ht (Nat.pow_le_pow_right (by decide) hj))
 simp only [go_sem,xd,isV,iNq,hvo,huo,jE,rY,es]
 (repeat with_reducible refine Yq ?_)
 refine jr (A:=Nat) (fun k=>[(7,.int .i64 ((k:Int) - 1)),(6,.ptr (H.nx+1+1+1) 0),(5,.ptr (H.nx+1+1) 0)])
  (fun k=>(((H.push (.cells [.int .u64 (x:Int),.int .u64 (y:Int)])).push (.cells [.int .u64 (z:Int),.int .u64 (w:Int)])).push (.cells (bits v))).push (.cells (bits u))) (fun k=>k≤128∧∀ j,k≤j→v.testBit j=u.testBit j) (fun k=>k) 128 ⟨by omega,fun j hj=>by rw [tv v j hv hj,tv u j hu hj]⟩ ?_ fun k hk=>?_
 ·simp only [bnq,enter,pC,ltF,ne_eq,Nat.reduceEqDiff,reduceCtorEq,true_or,and_true]
  all_goals rfl
 obtain ⟨hk,hz⟩:=hk
 simp only [go_sem]
 refine af (fun hc=>?_) (fun hc=>?_)
 ·have hk0:1≤k:=by simp at hc;omega
  obtain ⟨j,rfl⟩:∃ j,k=j+1:=⟨k - 1,by omega⟩
  have e0:((j+1:Nat):Int) - 1=(j:Int):=by omega
  have e1:IntKind.i64.wrap ((j:Int) - 1)=(j:Int) - 1:=by rw [wrap_i64]<;>omega
  have g1:=yT v j (by omega)
  have g2:=yT u j (by omega)
  by_cases hj:v.testBit j=u.testBit j
  ·simp only [go_sem,iNq,jE,e0,e1,Nat.mul_one,nzq,g1,g2,hj,GV]
   (repeat with_reducible refine Yq ?_)
   refine ⟨j,⟨by omega,fun i hi=>?_⟩,by omega,?_⟩
   ·by_cases h:i=j
    ·subst h;exact hj
    ·exact hz i (by omega)
   ·exact Z3
  ·have hz':∀ i,j<i→v.testBit i=u.testBit i:=fun i hi=>hz i (by omega)
   cases hb:u.testBit j
   ·have hb0:v.testBit j=true:=by
     rw [hb] at hj;simpa using hj
    have hlt:u<v:=DJ hb hb0 fun i hi=>(hz' i hi).symm
    have ec:ir v u=1:=by unfold ir;rw [if_neg (by omega),if_neg (by omega)]
    rw [hb] at g2;rw [hb0] at g1
    simp only [go_sem,iNq,jE,e0,e1,Nat.mul_one,nzq,g1,g2,ec,It]
    (repeat with_reducible refine Yq ?_)
    exact Z2
   ·have hb0:v.testBit j=false:=by
     rw [hb] at hj;simpa using hj
    have hlt:v<u:=DJ hb0 hb fun i hi=>(hz' i hi)
    have ec:ir v u = -1:=by unfold ir;rw [if_neg (by omega),if_pos (by omega)]
    rw [hb] at g2;rw [hb0] at g1
    simp only [go_sem,iNq,jE,e0,e1,Nat.mul_one,nzq,g1,g2,ec,Iv]
    (repeat with_reducible refine Yq ?_)
    exact Z2
 ·have hk0:k=0:=by simp at hc;omega
  subst hk0
  have:v=u:=Nat.eq_of_testBit_eq fun j=>hz j (by omega)
  subst this
  have ec:ir v v=0:=by unfold ir;rw [if_pos rfl]
  simp only [go_sem,ec]
  exact Z2
end Go.AL
