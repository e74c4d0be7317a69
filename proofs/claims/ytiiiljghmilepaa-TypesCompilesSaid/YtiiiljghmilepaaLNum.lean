/- Plain laws of decimal digits, the lowest one first. -/
namespace Go.AL
/-- the number that digits stand for -/
def dv:List Nat→Nat
 |[]=>0
 |d::l=>d+10*dv l
/-- the digits of a number, without leading zeros -/
def bB (n:Nat):List Nat:=if h:n=0 then [] else n % 10::bB (n/10)
decreasing_by omega
def isD (l:List Nat):Prop:=∀ d∈l,d<10
/-- digit i -/
def dig (n i:Nat):Nat:=n/10^i % 10
theorem aV:bB 0=[]:=by rw [bB];simp
theorem fp {n:Nat} (h:n≠0):bB n=n % 10::bB (n/10):=by rw [bB];simp [h]
theorem ge (n:Nat):dv (bB n)=n:=by
 induction n using Nat.strongRecOn with
 |_ n ih =>
  by_cases h:n=0
  ·subst h;rw [aV];rfl
  ·rw [fp h,dv,ih (n/10) (by omega)];omega
theorem fc (n:Nat):isD (bB n):=by
 induction n using Nat.strongRecOn with
 |_ n ih =>
  by_cases h:n=0
  ·subst h;rw [aV];intro d hd;cases hd
  ·rw [fp h]
   intro d hd
   rcases List.mem_cons.1 hd with rfl|hd
   ·omega
   ·exact ih (n/10) (by omega) d hd
theorem nE {d:Nat} {l:List Nat} (h:isD (d::l)):isD l:=fun x hx=>h x (List.mem_cons_of_mem _ hx)
theorem nh {d:Nat} {l:List Nat} (h:isD (d::l)):d<10:=h d List.mem_cons_self
theorem we {l:List Nat} (h:isD l):dv l<10^l.length:=by
 induction l with
 |nil=>simp [dv]
 |cons d l ih =>
  have h1:=ih (nE h)
  have h2:=nh h
  rw [dv,List.length_cons,Nat.pow_succ];omega
/-- a digit that is looked up, zero beyond the end -/
theorem gY {l:List Nat} (h:isD l):∀ i,l.getD i 0=dig (dv l) i:=by
 induction l with
 |nil=>intro i;simp [dv,dig]
 |cons d l ih =>
  intro i
  have h2:=nh h
  cases i with
  |zero=>simp [dig,dv];omega
  |succ i =>
   have:=ih (nE h) i
   rw [List.getD_cons_succ,this,dig,dig,dv,Nat.pow_succ,Nat.mul_comm (10^i) 10,← Nat.div_div_eq_div_mul]
   have:(d+10*dv l)/10=dv l:=by omega
   rw [this]
theorem lC (n i:Nat):dig n i<10:=Nat.mod_lt _ (by decide)
theorem fO (n i:Nat):n % 10^(i+1)=n % 10^i+10^i*dig n i:=by
 rw [Nat.pow_succ,Nat.mod_mul,dig]
/-- the lowest k digits -/
def first (k n:Nat):List Nat:=(List.range k).map (dig n)
theorem eR (k n:Nat):(first k n).length=k:=by simp [first]
theorem uc (k n:Nat):isD (first k n):=fun d hd=>by
 obtain ⟨i,_,rfl⟩:=List.mem_map.1 hd;exact lC n i
theorem ig (k n:Nat):first (k+1) n=first k n++[dig n k]:=by simp [first,List.range_succ]
theorem gV (a b:List Nat):dv (a++b)=dv a+10^a.length*dv b:=by
 induction a with
 |nil=>simp [dv]
 |cons d a ih =>
  rw [List.cons_append,dv,dv,ih,List.length_cons,Nat.pow_succ,Nat.mul_comm (10^a.length) 10,Nat.mul_assoc,Nat.mul_add];omega
theorem wQ (k n:Nat):dv (first k n)=n % 10^k:=by
 induction k with
 |zero=>simp [first,dv,Nat.mod_one]
 |succ k ih=>rw [ig,gV,ih,eR,fO];simp [dv]
theorem uL {l:List Nat} (h:isD l) (hl:l.getLast?≠some 0):bB (dv l)=l:=by
 induction l with
 |nil=>simp [dv,aV]
 |cons d l ih =>
  have h2:=nh h
  cases l with
  |nil =>
   have hd:d≠0:=by intro e;subst e;simp at hl
   rw [show dv [d]=d by simp [dv],fp hd,Nat.mod_eq_of_lt h2,Nat.div_eq_of_lt h2,aV]
  |cons e l =>
   have hl':(e::l).getLast?≠some 0:=by simpa [List.getLast?_cons_cons] using hl
   have ih:=ih (nE h) hl'
   have hnz:dv (e::l)≠0:=by
    intro h0
    rw [h0,aV] at ih;cases ih
   have h3:dv (d::e::l)≠0:=by rw [dv];omega
   rw [fp h3]
   have e1:dv (d::e::l) % 10=d:=by rw [dv];omega
   have e2:dv (d::e::l)/10=dv (e::l):=by rw [dv];omega
   rw [e1,e2,ih]
/-! one cr of a sum, of a difference -/
def cry (a b i:Nat):Nat:=(a % 10^i+b % 10^i)/10^i
theorem xd (a b i:Nat):cry a b i≤1:=by
 have hp:0<10^i:=Nat.pow_pos (by decide)
 have h1:=Nat.mod_lt a hp
 have h2:=Nat.mod_lt b hp
 unfold cry
 exact Nat.le_of_lt_succ (Nat.div_lt_of_lt_mul (by omega))
theorem om (a b i:Nat):(a+b)/10^i=a/10^i+b/10^i+cry a b i:=by
 have hp:0<10^i:=Nat.pow_pos (by decide)
 have h1:=Nat.div_add_mod a (10^i)
 have h2:=Nat.div_add_mod b (10^i)
 unfold cry
 generalize a/10^i=qa at *
 generalize b/10^i=qb at *
 generalize a % 10^i=ra at *
 generalize b % 10^i=rb at *
 rw [← h1,← h2,show 10^i*qa+ra+(10^i*qb+rb)=ra+rb+10^i*(qa+qb) by rw [Nat.mul_add];omega,Nat.add_mul_div_left _ _ hp];omega
theorem y5 (a b i:Nat):(dig a i+dig b i+cry a b i) % 10=dig (a+b) i:=by
 unfold dig;rw [om];omega
theorem zg (a b i:Nat):(dig a i+dig b i+cry a b i)/10=cry a b (i+1):=by
 have hp:0<10^i:=Nat.pow_pos (by decide)
 have e:cry a b (i+1)=(dig a i+dig b i+cry a b i)/10:=by
  unfold cry
  rw [fO,fO,Nat.pow_succ,← Nat.div_div_eq_div_mul,show a % 10^i+10^i*dig a i+(b % 10^i+10^i*dig b i)=a % 10^i+b % 10^i+10^i*(dig a i+dig b i) by rw [Nat.mul_add];omega,Nat.add_mul_div_left _ _ hp,Nat.add_comm]
 exact e.symm
theorem m7 (a b:Nat):cry a b 0=0:=by simp [cry,Nat.mod_one]
def bor (a b i:Nat):Nat:=if a % 10^i<b % 10^i then 1 else 0
theorem mH (a b:Nat):bor a b 0=0:=by simp [bor,Nat.mod_one]
theorem wq (a b i:Nat):bor a b (i+1)=if dig a i<dig b i+bor a b i then 1 else 0:=by
 have hp:0<10^i:=Nat.pow_pos (by decide)
 have h1:=Nat.mod_lt a hp
 have h2:=Nat.mod_lt b hp
 unfold bor
 rw [fO,fO]
 generalize dig a i=x
 generalize dig b i=y
 generalize a % 10^i=ra at *
 generalize b % 10^i=rb at *
 generalize 10^i=p at *
 rcases Nat.lt_trichotomy x y with h|h|h
 ·have:=Nat.mul_le_mul_left p (show x+1≤y from h)
  rw [Nat.mul_add] at this
  rw [if_pos (by omega),if_pos (by omega)]
 ·subst h
  by_cases hr:ra<rb
  ·rw [if_pos (by omega),if_pos hr,if_pos (by omega)]
  ·rw [if_neg (by omega),if_neg hr,if_neg (by omega)]
 ·have:=Nat.mul_le_mul_left p (show y+1≤x from h)
  rw [Nat.mul_add] at this
  rw [if_neg (by omega)]
  split<;>rw [if_neg (by omega)]
theorem sN (a b i:Nat) (h:b≤a):(a - b)/10^i+b/10^i+bor a b i=a/10^i:=by
 have hp:0<10^i:=Nat.pow_pos (by decide)
 have h1:=om (a - b) b i
 rw [Nat.sub_add_cancel h] at h1
 have h2:cry (a - b) b i=bor a b i:=by
  have e:=Nat.div_add_mod a (10^i)
  have e2:a % 10^i+10^i*cry (a - b) b i=(a - b) % 10^i+b % 10^i:=by
   have g1:=Nat.div_add_mod (a - b) (10^i)
   have g2:=Nat.div_add_mod b (10^i)
   rw [h1,Nat.mul_add,Nat.mul_add] at e
   omega
  have r1:=Nat.mod_lt a hp
  have r2:=Nat.mod_lt b hp
  have r3:=Nat.mod_lt (a - b) hp
  have hc:=xd (a - b) b i
  unfold bor
  rcases (by omega:cry (a - b) b i=0∨cry (a - b) b i=1) with hc|hc<;>rw [hc] at e2 ⊢
  ·rw [if_neg (by omega)]
  ·rw [if_pos (by omega)]
 omega
/-- one cr of a difference -/
theorem yP (a b i:Nat) (h:b≤a):(dig a i:Int) - dig b i - bor a b i=dig (a - b) i - 10*bor a b (i+1):=by
 have h1:=sN a b i h
 rw [wq]
 have hb:bor a b i≤1:=by unfold bor;split<;>omega
 unfold dig
 split<;>omega
/-! the order -/
theorem re {n k:Nat} (h:n<10^k):(bB n).length≤k:=by
 induction k generalizing n with
 |zero =>
  have:n=0:=by simpa using h
  subst this;rw [aV];simp
 |succ k ih =>
  by_cases h0:n=0
  ·subst h0;rw [aV];simp
  ·rw [fp h0,List.length_cons]
   have:n/10<10^k:=Nat.div_lt_of_lt_mul (by rw [Nat.pow_succ] at h;omega)
   have:=ih this
   omega
theorem yF {n:Nat} (h:n≠0):10^((bB n).length - 1)≤n:=by
 induction n using Nat.strongRecOn with
 |_ n ih =>
  rw [fp h,List.length_cons,Nat.add_sub_cancel]
  by_cases h1:n/10=0
  ·rw [h1,aV];simp;omega
  ·have:=ih (n/10) (by omega) h1
   have hl:(bB (n/10)).length≠0:=by rw [fp h1];simp
   have e:(bB (n/10)).length=((bB (n/10)).length - 1)+1:=by omega
   rw [e,Nat.pow_succ];omega
theorem n8 {a b:Nat} (h:(bB a).length<(bB b).length):a<b:=by
 have hb:b≠0:=by intro e;subst e;rw [aV] at h;simp at h
 have h1:=yF hb
 have h2:=we (fc a)
 rw [ge] at h2
 have h3:10^(bB a).length≤10^((bB b).length - 1):=Nat.pow_le_pow_right (by decide) (by omega)
 omega
/-- what lies above digit i decides -/
theorem od {a b i:Nat} (h:a/10^(i+1)=b/10^(i+1)) (hd:dig a i<dig b i):a<b:=by
 have hp:0<10^i:=Nat.pow_pos (by decide)
 rw [Nat.pow_succ,← Nat.div_div_eq_div_mul,← Nat.div_div_eq_div_mul] at h
 unfold dig at hd
 have h1:a/10^i<b/10^i:=by omega
 have h2:=Nat.div_add_mod a (10^i)
 have h3:=Nat.div_add_mod b (10^i)
 have h4:=Nat.mod_lt a hp
 have h5:=Nat.mul_le_mul_left (10^i) (show a/10^i+1≤b/10^i from h1)
 rw [Nat.mul_add] at h5
 omega
theorem sC {a b i:Nat} (h:a/10^(i+1)=b/10^(i+1)) (hd:dig a i=dig b i):a/10^i=b/10^i:=by
 rw [Nat.pow_succ,← Nat.div_div_eq_div_mul,← Nat.div_div_eq_div_mul] at h
 unfold dig at hd
 omega
theorem oA {n:Nat} {k:Nat} (h:(bB n).length≤k):n/10^k=0:=by
 have h2:=we (fc n)
 rw [ge] at h2
 exact Nat.div_eq_of_lt (Nat.lt_of_lt_of_le h2 (Nat.pow_le_pow_right (by decide) h))
end Go.AL
