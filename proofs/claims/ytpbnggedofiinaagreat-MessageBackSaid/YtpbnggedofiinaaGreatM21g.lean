/- Lemmas of the proof; no condition. -/
import Derived.Test.YtpbnggedofiinaaGreatM21c
import Derived.Test.YtpbnggedofiinaaGreatM20j
import Derived.Test.YtpbnggedofiinaaGreatM20a
set_option linter.all false
set_option maxRecDepth 10000
open Go Go.AL Go.Proofs
namespace Go.AL
def oF (r:SRec):Bool:=rg r.num 4&&(rg r.ctl 1&&(([r.role,r.fail,r.upd].all fun n=>rg n 2)&&(rg r.kind 1&&rg r.code 1)))
theorem Cn (r:SRec):gt r=!oF r:=by
 unfold oF gt
 simp only [List.all_cons,List.all_nil,Bool.and_true]
 generalize rg r.num 4=a1
 generalize rg r.ctl 1=a2
 generalize rg r.role 2=a3
 generalize rg r.kind 1=a4
 generalize rg r.code 1=a5
 generalize rg r.fail 2=a6
 generalize rg r.upd 2=a7
 revert a1 a2 a3 a4 a5 a6 a7
 decide
def okP (r:SResp):Bool:=rg r.code 1&&(([r.fail,r.port].all fun n=>rg n 2)&&rg r.reas 1)
theorem FA {r:SResp} (h1:r.ents.length≤40) (h2:r.recs.length≤24):yq r=!((okP r&&r.ents.all rgE)&&r.recs.all oF):=by
 have e1:rg (r.ents.length:Int) 2=true:=dtq ⟨by omega,by show (r.ents.length:Int)<65536;omega⟩
 have e2:rg (r.recs.length:Int) 2=true:=dtq ⟨by omega,by show (r.recs.length:Int)<65536;omega⟩
 have e3:(r.ents.any fun e=>!rgE e)=!r.ents.all rgE:=by
  generalize r.ents=l
  induction l with
  |nil=>rfl
  |cons x l ih=>rw [List.any_cons,List.all_cons,ih];cases rgE x<;>rfl
 have e4:r.recs.any gt=!r.recs.all oF:=by
  generalize r.recs=l
  induction l with
  |nil=>rfl
  |cons x l ih=>rw [List.any_cons,List.all_cons,ih,Cn];cases oF x<;>rfl
 unfold yq okP
 rw [e1,e2,e3,e4]
 simp only [List.all_cons,List.all_nil,Bool.and_true]
 generalize rg r.code 1=a1
 generalize rg r.fail 2=a2
 generalize rg r.port 2=a3
 generalize rg r.reas 1=a4
 generalize r.ents.all rgE=a5
 generalize r.recs.all oF=a6
 revert a1 a2 a3 a4 a5 a6
 decide
theorem Dy {b:List UInt8} {v:Nat} {n:Int} (hn:0<n):0≤rf b v n∧rf b v n<n:=by
 have h0:=oZ (b:=b) (v:=cp v 0) (n:=256)
 have h1:=oZ (b:=b) (v:=cp v 1) (n:=256)
 have h2:=oZ (b:=b) (v:=cp v 2) (n:=256)
 unfold rf
 generalize cv b (cp v 0) 256=x at *
 generalize cv b (cp v 1) 256=y at *
 generalize cv b (cp v 2) 256=z at *
 have e1:mX .i64 (x:Int) 16=((x*65536:Nat):Int):=by
  show IntKind.i64.wrap ((x:Int)*65536)=_
  rw [wrap_i64]<;>omega
 have e2:mX .i64 (y:Int) 8=((y*256:Nat):Int):=by
  show IntKind.i64.wrap ((y:Int)*256)=_
  rw [wrap_i64]<;>omega
 have hor:x*65536 ||| y*256<2^63:=Nat.or_lt_two_pow (by omega) (by omega)
 rw [e1,e2,wN _ _ (by omega) (by omega),wN _ _ hor (by omega)]
 exact ⟨Int.tmod_nonneg _ (by omega),Int.tmod_lt_of_pos _ hn⟩
theorem xr {b:List UInt8} {u n:Nat}:rg ((cv b u n:Nat):Int) 1=true:=by
 have:=oZ (b:=b) (v:=u) (n:=n)
 exact dtq ⟨by omega,by show ((cv b u n:Nat):Int)<256;omega⟩
theorem FI {b:List UInt8} {v:Nat}:oF (sE b v).1=true:=by
 obtain ⟨h1,h2⟩:=Dy (b:=b) (v:=v) (n:=1048576) (by decide)
 have h4:rg (rf b v 1048576) 4=true:=dtq ⟨h1,by show rf b v 1048576<4294967296;omega⟩
 unfold oF sE
 dsimp only
 rw [h4]
 simp only [List.all_cons,List.all_nil,xr,uv,Bool.and_true]
theorem vp {b:List UInt8}:∀ (n v:Nat),∀ x∈(kp b n v).1,oF x=true
 |0,v=>fun x hx=>by cases hx
 |n+1,v=>fun x hx=>by
  simp only [kp,List.mem_cons] at hx
  rcases hx with rfl|hx
  ·exact FI
  ·exact vp n _ x hx
theorem qq {S:Sch} (hG:GenS S) (hS:SSm S) {b:List UInt8}:∀ (n v:Nat),∀ e∈(cO S b n v).1,rgE e=true
 |0,v=>fun x hx=>by cases hx
 |n+1,v=>fun x hx=>by
  unfold cO at hx
  split at hx
  ·simp only [List.mem_cons] at hx
   rcases hx with rfl|hx
   ·exact wz (sY hG hS)
   ·exact qq hG hS n _ x hx
  ·cases hx
structure GP (r:SResp):Prop where
 e:r.ents.length≤4
 rl:r.recs.length≤4
 d:r.data.length≤60
 c:∀ e∈r.ents,COk e
 re:r.ents.all rgE=true
 rr:r.recs.all oF=true
 ok:okP r=true
theorem GP.pe {r:SResp} (h:GP r):PE r:=⟨by have:=h.e;omega,by have:=h.rl;omega,by have:=h.d;omega,h.c⟩
theorem Ej {S:Sch} (hG:GenS S) (hS:SSm S) {b:List UInt8} {v:Nat}:GP (pH S b v).1:=by
 have z:∀ e:SEntry,e∈([]:List SEntry)→COk e:=fun e he=>by cases he
 obtain ⟨g1,g2⟩:=kL hG (b:=b) 4 (min (cp v 4) b.length)
 have g3:=qq hG hS (b:=b) 4 (min (cp v 4) b.length)
 have h5:=cn (b:=b) (v:=cp v 4) (n:=5) (by decide)
 have h60:=cn (b:=b) (v:=cp v 9) (n:=60) (by decide)
 have hr:=qQ (b:=b) (cv b (cp v 4) 5) (cp v 5)
 have hrr:=vp (b:=b) (cv b (cp v 4) 5) (cp v 5)
 have r0:rg 0 2=true:=rg0 2
 have r01:rg 0 1=true:=rg0 1
 obtain ⟨p1,p2⟩:=Dy (b:=b) (v:=cp v 6) (n:=65536) (by decide)
 have hp:rg (rf b (cp v 6) 65536) 2=true:=dtq ⟨p1,by show rf b (cp v 6) 65536<65536;omega⟩
 unfold pH
 dsimp only
 repeat' split
 ·exact ⟨by dsimp only;omega,Nat.zero_le _,Nat.zero_le _,fun e he=>by obtain ⟨m,hm⟩:=g2 e he;exact EN hG hm,List.all_eq_true.2 g3,rfl,by simp only [okP,List.all_cons,List.all_nil,xr,uv,r0,r01,Bool.and_true]⟩
 ·exact ⟨Nat.zero_le _,by dsimp only;omega,Nat.zero_le _,z,rfl,List.all_eq_true.2 hrr,by simp only [okP,List.all_cons,List.all_nil,xr,uv,r0,r01,Bool.and_true]⟩
 ·exact ⟨Nat.zero_le _,Nat.zero_le _,by dsimp only;rw [qG];omega,z,rfl,rfl,by simp only [okP,List.all_cons,List.all_nil,xr,uv,hp,Bool.and_true]⟩
theorem GP.enc {r:SResp} (h:GP r):nh r=(jO r,0):=by
 have h1:=h.e
 have h2:=h.rl
 have h3:=h.d
 unfold nh
 rw [if_neg (by omega),FA (by omega) (by omega),h.re,h.rr,h.ok]
 rfl
theorem C8 {r:SResp} (h1:r.ents.length≤40) (h2:r.recs.length≤100) (h3:r.data.length≤1100) (h4:∀ e∈r.ents,COk e):(jO r).length≤60000:=by
 have ln:=fun n w=>bW n w
 have a1:=ln r.code 1
 have a2:=ln r.fail 2
 have a3:=ln (r.ents.length:Int) 2
 have a4:=ln (r.recs.length:Int) 2
 have a5:=ln r.reas 1
 have a6:=ln r.port 2
 have b1:=mu r.ents h4
 have b2:=j8 r.recs
 have b3:(ge r.data).length≤1110:=by
  unfold ge
  rw [lAq,ny,List.length_take]
  omega
 unfold jO sX yO kn
 simp only [lAq,List.length_cons,List.length_nil]
 omega
theorem Ev (r:SResp):jO r≠[]:=by
 intro h
 have:=congrArg List.length h
 unfold jO sX kn at this
 simp at this
end Go.AL
