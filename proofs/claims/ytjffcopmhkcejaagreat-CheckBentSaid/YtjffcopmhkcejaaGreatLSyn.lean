/- Lemmas of the proof; no condition. -/
import Derived.Test.YtjffcopmhkcejaaGreatLVal
import Derived.Test.YtjffcopmhkcejaaGreatE06
set_option linter.all false
namespace Go.AL
def b0(l:By):UInt8:=l.getD 0 0
def lR(l:By):Bool:=l.all fun c=>!(decide (c.toNat<32)||decide (126<c.toNat))
def TA(o:Option AObj)(K:Mark→By→Int→Prop):Prop :=
 match o with
 |some (.cells [.slice m 1 l,.int .i64 e])=>(isB l∧l.length≤100000)∧K m (unb l) e
 |_=>False
@[congr] theorem SW{o o':Option AObj}{K:Mark→By→Int→Prop}(h:o=o'):TA o K=TA o' K:=by rw[h]
def bG{H:AHeap}{id:Nat}{cs:Wz}(h:id<H.nx):a8 (H.set id (.cells cs)) id=some cs:=by rw[tM h,if_pos rfl]
def xq{H:AHeap}{id:Nat}{o:AObj}(h:id<H.nx):(H.set id o).get id=some o:=by rw[aF,if_pos rfl,if_pos h]
def qE:Wz→Nat
 |.bool b::t=>(if b then 1 else 0)+2*qE t
 |_=>0
def Dj(l:Wz):Prop:=l=bits (qE l)∧qE l<2^128
theorem yM:∀(n v:Nat),qE ((List.range n).map fun j=>AV.bool (v.testBit j))=v%2^n
 |0,v=>by simp[qE,Nat.mod_one]
 |n+1,v=>by
  rw[List.range_succ_eq_map,List.map_cons,List.map_map]
  have e:(List.map ((fun j=>AV.bool (v.testBit j))∘Nat.succ) (List.range n))=(List.range n).map fun j=>AV.bool ((v/2).testBit j):=by
   refine List.map_congr_left fun j _=>?_
   simp only[Function.comp,Nat.testBit_succ]
  rw[e]
  simp only[qE]
  rw[yM n (v/2),Nat.testBit_zero,Nat.pow_succ,Nat.mul_comm (2^n) 2,Nat.mod_mul]
  rcases(show v%2=0∨v%2=1 by omega)with h|h<;>simp[h]
def nZ{v:Nat}(h:v<2^128):qE (bits v)=v:=by
 unfold bits;rw[yM,Nat.mod_eq_of_lt h]
theorem As{v:Nat}(h:v<2^128):Dj (bits v)=True:=eq_true ⟨by rw[nZ h],by rw[nZ h];exact h⟩
def CG{l:Wz}(h:Dj l):∃ v,l=bits v∧v<2^128:=⟨_,h⟩
def uS(x i:Nat)(hi:i<64)(h:x.testBit i=true):(x%2^i) ||| ((1 <<<i)%2^64)=x%2^(i+1):=by
 refine Nat.eq_of_testBit_eq fun j=>?_
 rw[Nat.testBit_or,Nat.testBit_mod_two_pow,Nat.testBit_mod_two_pow,Nat.testBit_mod_two_pow,Nat.testBit_shiftLeft]
 by_cases e:j=i
 ·subst e;simp[h,hi]
 ·have h1:decide (j<i+1)=decide (j<i):=Xs
  have h2:(decide (j ≥ i)&&Nat.testBit 1 (j-i))=false:=by
   by_cases h3:j ≥ i
   ·have:Nat.testBit 1 (j-i)=false:=Nat.testBit_lt_two_pow (Nat.one_lt_two_pow Xa)
    rw[this,Bool.and_false]
   ·simp[h3]
  rw[h1,h2];simp
def rk(x i:Nat)(h:x.testBit i=false):x%2^(i+1)=x%2^i:=by
 refine Nat.eq_of_testBit_eq fun j=>?_
 rw[Nat.testBit_mod_two_pow,Nat.testBit_mod_two_pow]
 by_cases e:j=i
 ·subst e;simp[h]
 ·congr 1;rw[Bool.eq_iff_iff];simp;omega
end Go.AL
open Go Go.AL
namespace Go.AL
structure Nd where
 op:Nat
 a:Nat
 b:Nat
 name:By
 attr:By
 v:Nat
 deriving DecidableEq,Inhabited
inductive PR where
 |ok (a p:Nat) (t:List Nd)
 |bad (p:Nat)
inductive Rl where
 |imp|or|orL (a:Nat)|and|andL (a:Nat)|not|cmp|sum|sumL (a:Nat)|un|atom
def isS(l:List Tok)(p:Nat)(s:By):Bool:=match l[p]? with
 |some (k,x,_)=>k==3&&x==s
 |none=>false
def HE:List (Nat × By):=[(8,[61,61]),(9,[33,61]),(10,[60]),(11,[60,61]),(12,[62]),(13,[62,61])]
def Ot:List (Nat × By):=[(6,[43]),(7,[45])]
def AD(l:List Tok)(p:Nat):List (Nat × By)→Option Nat
 |[]=>none
 |(k,s)::r=>if isS l p s then some k else AD l p r
def nd2(op a b:Nat):Nd:=⟨op,a,b,[],[],0⟩
def kv(r:Option PR)(k:Nat→Nat→List Nd→Option PR):Option PR:=match r with
 |none=>none
 |some (.bad p)=>some (.bad p)
 |some (.ok a p t)=>k a p t
def fV{o:Option PR}{k:Nat→Nat→List Nd→Option PR}{r:PR}(h:kv o k=some r) :
 (∃ p,o=some (.bad p)∧r=.bad p)∨∃ a p t,o=some (.ok a p t)∧k a p t=some r:=by
 match o,h with
 |none,h=>cases h
 |some (.bad p),h=>exact .inl ⟨p,rfl,(Option.some.inj h).symm⟩
 |some (.ok a p t),h=>exact .inr ⟨a,p,t,rfl,h⟩
def T4:By:=[116,114,117,101]
def SQ:By:=[102,97,108,115,101]
def Jc(l:List Tok)(p:Nat)(t:List Nd):PR:=match l[p]? with
 |none=>.bad p
 |some (k,x,_)=>if k=1 then .ok t.length (p+1) (t++[⟨1,0,0,[],[],(lit x).getD 0⟩])
  else if k=2 then
   if x=T4 then .ok t.length (p+1) (t++[⟨2,0,0,[],[],1⟩])
   else if x=SQ then .ok t.length (p+1) (t++[⟨2,0,0,[],[],0⟩])
   else if isS l (p+1) [58,58]then match l[p+2]? with
    |none=>.bad (p+2)
    |some (k2,y,_)=>if k2=2 then .ok t.length (p+3) (t++[⟨3,0,0,x,y,0⟩])else .bad (p+2)
   else .ok t.length (p+1) (t++[⟨3,0,0,x,[],0⟩])
  else .bad p
def lW(l:List Tok)(rec:Rl→Nat→List Nd→Option PR):Rl→Nat→List Nd→Option PR
 |.imp,p,t=>kv (rec .or p t) fun a p t=>if isS l p [45,62]then kv (rec .imp (p+1) t) fun b p t=>some (.ok t.length p (t++[nd2 16 a b]))else some (.ok a p t)
 |.or,p,t=>kv (rec .and p t) fun a p t=>rec (.orL a) p t
 |.orL a,p,t=>if isS l p [124,124]then kv (rec .and (p+1) t) fun b p t=>rec (.orL t.length) p (t++[nd2 15 a b])else some (.ok a p t)
 |.and,p,t=>kv (rec .not p t) fun a p t=>rec (.andL a) p t
 |.andL a,p,t=>if isS l p [38,38]then kv (rec .not (p+1) t) fun b p t=>rec (.andL t.length) p (t++[nd2 14 a b])else some (.ok a p t)
 |.not,p,t=>if isS l p [33]then kv (rec .not (p+1) t) fun b p t=>some (.ok t.length p (t++[nd2 5 b 0]))else rec .cmp p t
 |.cmp,p,t=>kv (rec .sum p t) fun a p t=>match AD l p HE with
  |some op=>kv (rec .sum (p+1) t) fun b p t=>some (.ok t.length p (t++[nd2 op a b]))
  |none=>some (.ok a p t)
 |.sum,p,t=>kv (rec .un p t) fun a p t=>rec (.sumL a) p t
 |.sumL a,p,t=>match AD l p Ot with
  |some op=>kv (rec .un (p+1) t) fun b p t=>rec (.sumL t.length) p (t++[nd2 op a b])
  |none=>some (.ok a p t)
 |.un,p,t=>if isS l p [45]then kv (rec .un (p+1) t) fun b p t=>some (.ok t.length p (t++[nd2 4 b 0]))else rec .atom p t
 |.atom,p,t=>if isS l p [40]then kv (rec .imp (p+1) t) fun a p t=>if isS l p [41]then some (.ok a (p+1) t)else some (.bad p)else some (Jc l p t)
def run(l:List Tok):Nat→Rl→Nat→List Nd→Option PR
 |0,_,_,_=>none
 |f+1,rl,p,t=>lW l (run l f) rl p t
def kI{l:List Tok}{p:Nat}{s:By}(h:isS l p s=true):p<l.length:=by
 unfold isS at h
 rcases Nat.lt_or_ge p l.length with h1|h1
 ·exact h1
 ·rw[gNq h1]at h;cases h
theorem sK{l:List Tok}{p k:Nat}:∀{ops:List (Nat × By)},AD l p ops=some k→p<l.length∧∃ s,(k,s)∈ops
 |[],h=>by cases h
 |(j,s)::r,h=>by
  unfold AD at h
  split at h
  ·rename_i h1;cases h;exact⟨kI h1,s,List.mem_cons_self⟩
  ·obtain⟨h2,s',h3⟩:=sK h;exact⟨h2,s',List.mem_cons_of_mem _ h3⟩
def Fi{l:List Tok}{rec rec':Rl→Nat→List Nd→Option PR}(h:∀ rl p t r,rec rl p t=some r→rec' rl p t=some r):∀{rl p t r},lW l rec rl p t=some r→lW l rec' rl p t=some r:=by
 have h1:∀{o o':Option PR}{k k':Nat→Nat→List Nd→Option PR} {r},(∀ r,o=some r→o'=some r)→(∀ a p t r,k a p t=some r→k' a p t=some r)→kv o k=some r→kv o' k'=some r:=by
  intro o o' k k' r ho hk hr
  rcases fV hr with⟨p,e,rfl⟩|⟨a,p,t,e,e2⟩
  ·rw[ho _ e];rfl
  ·rw[ho _ e];exact hk _ _ _ _ e2
 intro rl p t r hr
 cases rl<;>simp only[lW]at hr ⊢
 case imp =>
  refine h1 (h _ _ _) (fun a p t r h2=>?_) hr
  split at h2
  ·rename_i hc;rw[if_pos hc];exact h1 (h _ _ _) (fun _ _ _ _ h=>h) h2
  ·rename_i hc;rw[if_neg hc];exact h2
 case or=>exact h1 (h _ _ _) (fun a p t r h2=>h _ _ _ _ h2) hr
 case and=>exact h1 (h _ _ _) (fun a p t r h2=>h _ _ _ _ h2) hr
 case sum=>exact h1 (h _ _ _) (fun a p t r h2=>h _ _ _ _ h2) hr
 case orL =>
  split at hr
  ·exact Y149
  ·rename_i hc;rw[if_neg hc];exact hr
 case andL =>
  split at hr
  ·exact Y149
  ·rename_i hc;rw[if_neg hc];exact hr
 case not =>
  split at hr
  ·exact Y128
  ·rename_i hc;rw[if_neg hc];exact h _ _ _ _ hr
 case un =>
  split at hr
  ·exact Y128
  ·rename_i hc;rw[if_neg hc];exact h _ _ _ _ hr
 case atom =>
  split at hr
  ·exact Y128
  ·rename_i hc;rw[if_neg hc];exact hr
 case sumL =>
  split at hr
  ·exact h1 (h _ _ _) (fun a p t r h2=>h _ _ _ _ h2) hr
  ·exact hr
 case cmp =>
  refine h1 (h _ _ _) (fun a p t r h2=>?_) hr
  split at h2
  ·exact h1 (h _ _ _) (fun _ _ _ _ h=>h) h2
  ·exact h2
theorem Ak{l:List Tok}:∀(f:Nat) {rl p t r},run l f rl p t=some r→run l (f+1) rl p t=some r
 |0,_,_,_,_,h=>by cases h
 |f+1,_,_,_,_,h=>Fi (fun _ _ _ _=>Ak f) h
def ln{l:List Tok}{f g:Nat}(hfg:f≤g) {rl p t r} (h:run l f rl p t=some r):run l g rl p t=some r:=by
 obtain⟨d,rfl⟩:=Nat.le.dest hfg
 induction d with
 |zero=>exact h
 |succ d ih=>exact Ak _ (ih Xa)
def Rl.isL:Rl→Bool
 |.orL _|.andL _|.sumL _=>true
 |_=>false
def Good(t:List Nd):Prop:=∀(i:Nat)(n:Nd),t[i]?=some n→1≤n.op∧n.op≤16∧n.v<2^128∧(n.op≤3∨(n.a<i∧n.b<i))
theorem Good.snoc{t:List Nd}(h:Good t){n:Nd}(h1:1≤n.op∧n.op≤16)(h2:n.v<2^128)(h3:n.op≤3∨(n.a<t.length∧n.b<t.length)):Good (t++[n]):=by
 intro i m hm
 rcases Nat.lt_or_ge i t.length with hi|hi
 ·rw[List.getElem?_append_left hi]at hm;exact h i m hm
 ·have he:i=t.length:=by
   rcases Nat.lt_or_ge i (t.length+1)with h4|h4
   ·omega
   ·rw[gNq (Xf)]at hm;cases hm
  subst he
  rw[List.getElem?_append_right (nrq _),Nat.sub_self]at hm
  cases hm
  exact⟨h1.1,h1.2,h2,h3⟩
def yp(l:List Tok)(p:Nat)(t:List Nd)(lp:Bool):PR→Prop
 |.ok a p' t'=>a<t'.length∧p'≤l.length∧t'.length+p≤t.length+p'∧(if lp then p≤p' else p<p')∧Good t'∧t.length≤t'.length
 |.bad p'=>p'≤l.length∧p≤p'
def ov(t:List Nd):Rl→Prop
 |.orL a|.andL a|.sumL a=>a<t.length
 |_=>True
def SL{s:By}{n:Nat}(h:lit s=some n):n<2^128:=by
 have key:∀(base:Nat)(s:By)(m:Nat),m<2^128→∀ n,JM base m s=some n→n<2^128:=by
  intro base s
  induction s with
  |nil=>intro m hm n h;cases h;exact hm
  |cons c s ih =>
   intro m hm n h
   unfold JM at h
   split at h
   ·split at h
    ·rename_i h2;exact ih _ h2 n h
    ·cases h
   ·cases h
 unfold lit at h
 split at h
 ·split at h
  ·cases h
  ·exact key _ _ 0 Xb _ h
 ·split at h
  ·cases h
  ·exact key _ _ 0 Xb _ h
def NM{s:By}:(lit s).getD 0<2^128:=by
 cases h:lit s with
 |none=>decide
 |some n=>exact SL h
def Nk{k:Nat}{s:By}(h:(k,s)∈HE):4≤k∧k≤16:=by
 simp only[HE,List.mem_cons,Prod.mk.injEq,List.not_mem_nil,or_false]at h;omega
def Eq{k:Nat}{s:By}(h:(k,s)∈Ot):4≤k∧k≤16:=by
 simp only[Ot,List.mem_cons,Prod.mk.injEq,List.not_mem_nil,or_false]at h;omega
def Gc{l:List Tok}{rec:Rl→Nat→List Nd→Option PR}(h:∀ rl p t r,rec rl p t=some r→Good t→ov t rl→p≤l.length→yp l p t rl.isL r) :
 ∀{rl p t r},lW l rec rl p t=some r→Good t→ov t rl→p≤l.length→yp l p t rl.isL r:=by
 have two:∀{rl:Rl}{op a b p p1 p2:Nat}{t t1 t2:List Nd},rl.isL=false→4≤op→op≤16→a<t1.length→p≤p1→t1.length+p≤t.length+p1→t.length≤t1.length→yp l (p1+1) t1 false (.ok b p2 t2)→yp l p t rl.isL (.ok t2.length p2 (t2++[nd2 op a b])):=by
  intro rl op a b p p1 p2 t t1 t2 hl h1 h2 h3 h4 h5 h6 h7
  obtain⟨k1,k2,k3,k4,k5,k6⟩:=h7
  simp only[Bool.false_eq_true,if_false]at k4
  rw[hl]
  exact⟨Xc,k2,Xf,Xf,k5.snoc ⟨by simp[nd2];omega,h2⟩ (show(0:Nat)<2^128 by decide) (.inr ⟨by simp only[nd2];omega,by simp only[nd2];omega⟩),Xf⟩
 intro rl p t r hr hg hro hp
 cases rl<;>simp only[lW]at hr
 case imp =>
  rcases fV hr with⟨q,e,rfl⟩|⟨a,p1,t1,e,e2⟩
  ·exact Y113
  ·obtain⟨k1,k2,k3,k4,k5,k6⟩:=h _ _ _ _ e hg trivial hp
   simp only[Rl.isL,Bool.false_eq_true,if_false]at k4
   split at e2
   ·rename_i hc
    have hlt:=kI hc
    rcases fV e2 with⟨q,e3,rfl⟩|⟨b,p2,t2,e3,e4⟩
    ·exact Y150
    ·cases e4;exact two (rl:=.imp) rfl Xb Xb k1 Xa k3 k6 (h _ _ _ _ e3 k5 trivial Xa)
   ·cases e2;exact⟨k1,k2,k3,by simpa[Rl.isL]using k4,k5,k6⟩
 case or =>
  rcases fV hr with⟨q,e,rfl⟩|⟨a,p1,t1,e,e2⟩
  ·exact Y113
  ·obtain⟨k1,k2,k3,k4,k5,k6⟩:=h _ _ _ _ e hg trivial hp
   simp only[Rl.isL,Bool.false_eq_true,if_false]at k4
   have:=h _ _ _ _ e2 k5 k1 k2
   exact Y31
 case and =>
  rcases fV hr with⟨q,e,rfl⟩|⟨a,p1,t1,e,e2⟩
  ·exact Y113
  ·obtain⟨k1,k2,k3,k4,k5,k6⟩:=h _ _ _ _ e hg trivial hp
   simp only[Rl.isL,Bool.false_eq_true,if_false]at k4
   have:=h _ _ _ _ e2 k5 k1 k2
   exact Y31
 case sum =>
  rcases fV hr with⟨q,e,rfl⟩|⟨a,p1,t1,e,e2⟩
  ·exact Y113
  ·obtain⟨k1,k2,k3,k4,k5,k6⟩:=h _ _ _ _ e hg trivial hp
   simp only[Rl.isL,Bool.false_eq_true,if_false]at k4
   have:=h _ _ _ _ e2 k5 k1 k2
   exact Y31
 case orL a =>
  split at hr
  ·rename_i hc
   have hlt:=kI hc
   rcases fV hr with⟨q,e,rfl⟩|⟨b,p1,t1,e,e2⟩
   ·exact Y58
   ·have w:=two (rl:=.or) (op:=15) (p:=p) (t:=t) rfl Xb Xb hro (nrq _) (nrq _) (nrq _) (h _ _ _ _ e hg trivial Xa)
    obtain⟨k1,k2,k3,k4,k5,k6⟩:=w
    have:=h _ _ _ _ e2 k5 k1 k2
    simp only[Rl.isL,Bool.false_eq_true,if_false]at k4
    exact Y31
  ·exact Y126
 case andL a =>
  split at hr
  ·rename_i hc
   have hlt:=kI hc
   rcases fV hr with⟨q,e,rfl⟩|⟨b,p1,t1,e,e2⟩
   ·exact Y58
   ·have w:=two (rl:=.or) (op:=14) (p:=p) (t:=t) rfl Xb Xb hro (nrq _) (nrq _) (nrq _) (h _ _ _ _ e hg trivial Xa)
    obtain⟨k1,k2,k3,k4,k5,k6⟩:=w
    have:=h _ _ _ _ e2 k5 k1 k2
    simp only[Rl.isL,Bool.false_eq_true,if_false]at k4
    exact Y31
  ·exact Y126
 case sumL a =>
  split at hr
  ·rename_i op hc
   obtain⟨hlt,s,hs⟩:=sK hc
   obtain⟨o1,o2⟩:=Eq hs
   rcases fV hr with⟨q,e,rfl⟩|⟨b,p1,t1,e,e2⟩
   ·exact Y58
   ·have w:=two (rl:=.or) (op:=op) (p:=p) (t:=t) rfl o1 o2 hro (nrq _) (nrq _) (nrq _) (h _ _ _ _ e hg trivial Xa)
    obtain⟨k1,k2,k3,k4,k5,k6⟩:=w
    have:=h _ _ _ _ e2 k5 k1 k2
    simp only[Rl.isL,Bool.false_eq_true,if_false]at k4
    exact Y31
  ·exact Y126
 case not =>
  split at hr
  ·exact Y49
  ·have:=h _ _ _ _ hr hg trivial hp
   exact this
 case un =>
  split at hr
  ·exact Y49
  ·have:=h _ _ _ _ hr hg trivial hp
   exact this
 case cmp =>
  rcases fV hr with⟨q,e,rfl⟩|⟨a,p1,t1,e,e2⟩
  ·exact Y113
  ·obtain⟨k1,k2,k3,k4,k5,k6⟩:=h _ _ _ _ e hg trivial hp
   simp only[Rl.isL,Bool.false_eq_true,if_false]at k4
   split at e2
   ·rename_i op hc
    obtain⟨hlt,s,hs⟩:=sK hc
    obtain⟨o1,o2⟩:=Nk hs
    rcases fV e2 with⟨q,e3,rfl⟩|⟨b,p2,t2,e3,e4⟩
    ·exact Y150
    ·cases e4;exact two (rl:=.imp) rfl o1 o2 k1 Xa k3 k6 (h _ _ _ _ e3 k5 trivial Xa)
   ·cases e2;exact⟨k1,k2,k3,by simpa[Rl.isL]using k4,k5,k6⟩
 case atom =>
  split at hr
  ·rename_i hc
   have hlt:=kI hc
   rcases fV hr with⟨q,e,rfl⟩|⟨b,p1,t1,e,e2⟩
   ·exact Y58
   ·obtain⟨k1,k2,k3,k4,k5,k6⟩:=h _ _ _ _ e hg trivial Xa
    simp only[Rl.isL,Bool.false_eq_true,if_false]at k4
    split at e2
    ·rename_i hc2
     have:=kI hc2
     cases e2;exact⟨k1,Xa,Xa,by simp[Rl.isL];omega,k5,k6⟩
    ·cases e2;exact⟨k2,Xa⟩
  ·cases hr
   have leaf:∀(n:Nd)(q:Nat),1≤n.op→n.op≤3→n.v<2^128→p<q→q≤l.length→yp l p t false (.ok t.length q (t++[n])):=fun n q h1 h2 h3 h4 h5 =>
    ⟨Xc,h5,Xf,by simpa using h4,hg.snoc ⟨h1,Xa⟩ h3 (.inl h2),Xc⟩
   have e0:Rl.atom.isL=false:=rfl
   rw[e0]
   unfold Jc
   split
   ·exact⟨hp,nrq _⟩
   ·rename_i k x z hx
    have hlt:p<l.length:=by
     rcases Nat.lt_or_ge p l.length with h1|h1
     ·exact h1
     ·rw[gNq h1]at hx;cases hx
    split
    ·exact leaf _ _ (nrq 1) (show 1≤3 by decide) NM Xa Xa
    ·split
     ·split
      ·exact Y154
      ·split
       ·exact Y154
       ·split
        ·rename_i hs
         have hs2:=kI hs
         split
         ·exact⟨Xa,Xa⟩
         ·rename_i k2 y z2 hy
          have hlt2:p+2<l.length:=by
           rcases Nat.lt_or_ge (p+2) l.length with h1|h1
           ·exact h1
           ·rw[gNq h1]at hy;cases hy
          split
          ·exact Y141
          ·exact⟨Xa,Xa⟩
        ·exact Y141
     ·exact⟨hp,nrq _⟩
theorem lq{l:List Tok}:∀(f:Nat) {rl p t r},run l f rl p t=some r→Good t→ov t rl→p≤l.length→yp l p t rl.isL r
 |0,_,_,_,_,h=>by cases h
 |f+1,_,_,_,_,h=>Gc (fun _ _ _ _ h hg hr hp=>lq f h hg hr hp) h
theorem Good.nil:Good []:=fun i n h=>by simp at h
def Xr{p:Prop}(h:p:=by simp only[nd2];omega):p:=h
end Go.AL
