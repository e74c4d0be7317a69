/- Lemmas of the proof; no condition. -/
import Derived.Test.YtpbnggedofiinaaGreatLGen
set_option linter.all false
namespace Go.AL
theorem Fp (hi lo n:Nat) (h:lo<2^64):((vOf hi lo <<< n) % 2^128) % 2^64=(lo <<< n) % 2^64:=by
 refine Nat.eq_of_testBit_eq fun j=>?_
 simp only [Nat.testBit_mod_two_pow,Nat.testBit_shiftLeft,kO h]
 by_cases h1:j<64
 ·have:j<128:=by omega
  by_cases h2:j ≥ n
  ·simp [h1,h2,this];omega
  ·simp [h1,h2,this]
 ·simp [h1]
theorem FJ (hi lo n:Nat) (h:lo<2^64) (hn:n<64):((vOf hi lo <<< n) % 2^128)/2^64=((hi <<< n) % 2^64) ||| (lo >>> (64 - n)):=by
 refine Nat.eq_of_testBit_eq fun j=>?_
 rw [Nat.testBit_div_two_pow]
 simp only [Nat.testBit_mod_two_pow,Nat.testBit_shiftLeft,Nat.testBit_or,Nat.testBit_shiftRight,kO h]
 by_cases h1:j<64
 ·have h2:j+64<128:=by omega
  have h3:j+64 ≥ n:=by omega
  by_cases h4:j ≥ n
  ·have h5:¬ j+64 - n<64:=by omega
   have h6:lo.testBit (64 - n+j)=false:=Nat.testBit_lt_two_pow (Nat.lt_of_lt_of_le h (Nat.pow_le_pow_right (by decide) (by omega)))
   simp [h1,h2,h3,h4,h5,h6]
   rw [show j+64 - n - 64=j - n by omega]
  ·have h5:j+64 - n<64:=by omega
   simp [h1,h2,h3,h4,h5]
   rw [show j+64 - n=64 - n+j by omega]
 ·have h2:¬ j+64<128:=by omega
  have h6:lo.testBit (64 - n+j)=false:=Nat.testBit_lt_two_pow (Nat.lt_of_lt_of_le h (Nat.pow_le_pow_right (by decide) (by omega)))
  simp [h1,h2,h6]
theorem EM (hi lo n:Nat) (hn:64≤n):(vOf hi lo <<< n) % 2^128=vOf ((lo <<< (n - 64)) % 2^64) 0:=by
 rw [Nat.shiftLeft_eq,Nat.shiftLeft_eq]
 obtain ⟨m,rfl⟩:∃ m,n=m+64:=⟨n - 64,by omega⟩
 rw [Nat.add_sub_cancel]
 unfold vOf
 rw [Nat.pow_add]
 generalize 2^m=p
 have:(2^64*hi+lo)*(p*2^64)=2^128*(hi*p)+2^64*(lo*p):=by
  rw [Nat.add_mul]
  congr 1
  ·rw [show (2:Nat)^128=2^64*2^64 by decide];simp only [Nat.mul_assoc,Nat.mul_comm,Nat.mul_left_comm]
  ·simp only [Nat.mul_assoc,Nat.mul_comm,Nat.mul_left_comm]
 rw [this]
 generalize hi*p=q
 generalize lo*p=r
 omega
theorem GI (a b c d:Nat) (h:b<2^64) (k:d<2^64):vOf a b ||| vOf c d=vOf (a ||| c) (b ||| d):=by
 refine Nat.eq_of_testBit_eq fun j=>?_
 rw [Nat.testBit_or,kO h,kO k,kO (Nat.or_lt_two_pow h k)]
 split<;>rw [Nat.testBit_or]
theorem FH (v x:Nat) (h:v<2^120) (hx:x<256):(v <<< 8) % 2^128 ||| x=v*256+x:=by
 have:=Nat.shiftLeft_add_eq_or_of_lt (b:=x) (i:=8) hx v
 rw [Nat.mod_eq_of_lt (by rw [Nat.shiftLeft_eq];omega),← this,Nat.shiftLeft_eq]
def eD (m m':Mark):Prop:=m'=m∨m'=.any
theorem bG (m:Mark) (l:List UInt8) (e w:Int):eD m (aq (m,l,e) w).2.1:=by
 unfold aq eD;dsimp only;repeat' split
 all_goals simp
theorem wA (m:Mark) (l:List UInt8) (e:Int):eD m (dq (m,l,e)).2.1:=by
 unfold dq eD;dsimp only;repeat' split
 all_goals simp
theorem jG (m:Mark) (l:List UInt8) (e:Int):eD m (bn (m,l,e)).2.1:=by
 unfold bn eD;dsimp only;repeat' split
 all_goals simp
theorem tf (m:Mark) (l:List UInt8) (e w:Int):eD m (cW (m,l,e) w).2.1:=by
 unfold cW eD;dsimp only;repeat' split
 all_goals simp
theorem kr (m:Mark) (l:List UInt8) (e w:Int):eD m (bf (m,l,e) w).2.1:=by
 unfold bf eD;dsimp only;repeat' split
 all_goals simp
theorem bz (m:Mark) (l:List UInt8) (e w:Int):(aq (m,l,e) w).2.2.1.length≤l.length:=by
 unfold aq;dsimp only;repeat' split
 all_goals simp
theorem qn (m:Mark) (l:List UInt8) (e:Int):(dq (m,l,e)).2.2.1.length≤l.length:=by
 unfold dq;dsimp only;repeat' split
 all_goals simp
theorem gk (m:Mark) (l:List UInt8) (e:Int):(bn (m,l,e)).2.2.1.length≤l.length:=by
 unfold bn;dsimp only;repeat' split
 all_goals simp
theorem uk (m:Mark) (l:List UInt8) (e w:Int):(cW (m,l,e) w).2.2.1.length≤l.length:=by
 unfold cW;dsimp only;repeat' split
 all_goals simp
theorem jx (m:Mark) (l:List UInt8) (e w:Int):(bf (m,l,e) w).2.2.1.length≤l.length:=by
 unfold bf;dsimp only;repeat' split
 all_goals simp
theorem xm (a b:List UInt8):aO (a++b)=aO a*256^b.length+aO b:=by
 induction h:b.length generalizing b with
 |zero=>have:b=[]:=List.eq_nil_of_length_eq_zero h;subst this;simp [aO]
 |succ n ih =>
  obtain ⟨b',c,rfl⟩:∃ b' c,b=b'++[c]:=⟨b.dropLast,b.getLast (by intro e;rw [e] at h;simp at h),(List.dropLast_concat_getLast _).symm⟩
  have hl:b'.length=n:=by simp at h;omega
  rw [← List.append_assoc,jh,ih b' hl,jh,Nat.pow_succ,Nat.add_mul,Nat.mul_assoc]
  omega
theorem ot (v:Nat):∀ n,aO (beN v n)=v % 256^n
 |0=>by simp [beN,aO,Nat.mod_one]
 |n+1=>by
  have e:beN v (n+1)=beN (v/256) n++[UInt8.ofNat v]:=by
   unfold beN
   rw [List.range_succ,List.map_append]
   congr 1
   ·refine List.map_congr_left fun i hi=>?_
    have hi:=List.mem_range.1 hi
    congr 1
    rw [Nat.shiftRight_eq_div_pow,Nat.shiftRight_eq_div_pow,show (256:Nat)=2^8 from rfl,Nat.div_div_eq_div_mul,← Nat.pow_add]
    congr 2;omega
   ·simp
  have h8:v % 256^(n+1)=v % 256+256*(v/256 % 256^n):=by rw [Nat.pow_succ,Nat.mul_comm,Nat.mod_mul]
  rw [e,jh,ot (v/256) n,UInt8.toNat_ofNat',h8]
  have:v % 2^8=v % 256:=rfl
  omega
theorem xA {v:Nat} (h:v<2^128):ep (fe v)=(v,0):=by
 have hl:(fe v).length=eC v:=dH _ _
 have h16:=qp h
 have h1:=yQ v
 have hv:aO (fe v)=v:=by
  unfold fe
  rw [ot,show (256:Nat)=2^8 from rfl,← Nat.pow_mul]
  exact Nat.mod_eq_of_lt (bl_le.1 (by unfold eC;omega))
 unfold ep
 rw [hl,if_neg (by omega),if_neg (by omega),if_neg ?_,hv]
 rintro ⟨h2,h3⟩
 -- the first byte is not zero
 have e:fe v=UInt8.ofNat (v >>> (8*(eC v - 1)))::(fe v).drop 1:=by
  have hne:fe v≠[]:=by intro e;rw [e] at hl;simp at hl;omega
  unfold fe beN at *
  obtain ⟨n,hn⟩:∃ n,eC v=n+1:=⟨eC v - 1,by omega⟩
  rw [hn,List.range_succ_eq_map]
  simp
 have hb:b0 (fe v)=UInt8.ofNat (v >>> (8*(eC v - 1))):=by rw [e];rfl
 rw [hb,UInt8.toNat_ofNat',Nat.shiftRight_eq_div_pow] at h3
 have hbl:8*(eC v - 1)<bl v:=by unfold eC at *;omega
 have hge:2^(8*(eC v - 1))≤v:=by
  rcases Nat.lt_or_ge v (2^(8*(eC v - 1))) with h'|h'
  ·have:=bl_le.2 h';omega
  ·exact h'
 have hlt:v<2^(8*(eC v - 1)+8):=bl_le.1 (by unfold eC at *;omega)
 have hd1:1≤v/2^(8*(eC v - 1)):=Nat.div_pos hge (Nat.two_pow_pos _)
 have hd2:v/2^(8*(eC v - 1))<256:=by
  rw [Nat.div_lt_iff_lt_mul (Nat.two_pow_pos _),Nat.mul_comm]
  rwa [Nat.pow_add] at hlt
 omega
end Go.AL
