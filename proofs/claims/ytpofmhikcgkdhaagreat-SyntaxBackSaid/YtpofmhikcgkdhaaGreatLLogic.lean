/- Lemmas of the proof; no condition. -/
import Derived.Test.YtpofmhikcgkdhaaGreatLEval
import Derived.Test.YtpofmhikcgkdhaaGreatLPar
set_option linter.all false
set_option maxRecDepth 10000
open Go Go.AL
namespace Go.AL
def Rn (l:List Tok) (rl:Rl) (p:Nat) (t:List Nd) (r:PR):Prop:=∃ f,run l f rl p t=some r
abbrev T2:=Nat × List UInt8
def er (x:Tok):T2:=(x.1,x.2.1)
def At (l:List Tok) (p:Nat) (n:List T2):Prop:=∀ i x,n[i]?=some x→(l[p+i]?).map er=some x
theorem At.left {l:List Tok} {p:Nat} {n m:List T2} (h:At l p (n++m)):At l p n:=fun i x hx=>h i x (by
 have hi:i<n.length:=by
  rcases Nat.lt_or_ge i n.length with h1|h1
  ·exact h1
  ·rw [gNq h1] at hx;cases hx
 rw [List.getElem?_append_left hi];exact hx)
theorem At.right {l:List Tok} {p:Nat} {n m:List T2} (h:At l p (n++m)):At l (p+n.length) m:=fun i x hx=>by
 have:=h (n.length+i) x (by rw [List.getElem?_append_right (by omega),Nat.add_sub_cancel_left];exact hx)
 rw [← Nat.add_assoc] at this;exact this
theorem At.head {l:List Tok} {p:Nat} {x:T2} {m:List T2} (h:At l p (x::m)):(l[p]?).map er=some x:=h 0 x rfl
theorem At.tail {l:List Tok} {p:Nat} {x:T2} {m:List T2} (h:At l p (x::m)):At l (p+1) m:=At.right (n:=[x]) h
theorem i0 {l:List Tok} {p k:Nat} {x s:List UInt8} (h:(l[p]?).map er=some (k,x)):isS l p s=(k==3&&x==s):=by
 unfold isS
 cases h1:l[p]? with
 |none=>rw [h1] at h;cases h
 |some y =>
  rw [h1] at h
  obtain ⟨a,b,c⟩:=y
  simp only [Option.map_some,er,Option.some.injEq,Prod.mk.injEq] at h
  obtain ⟨rfl,rfl⟩:=h
  rfl
def M (e:List (VN × Nat)) (u:List Nd) (b:Nat) (m:Mv):Prop:=b<u.length∧∀ w,u <+: w→val e w b=m
theorem M.ext {e:List (VN × Nat)} {u u':List Nd} {b:Nat} {m:Mv} (h:M e u b m) (hp:u <+: u'):M e u' b m :=
 ⟨Nat.lt_of_lt_of_le h.1 hp.length_le,fun w hw=>h.2 w (hp.trans hw)⟩
variable {l:List Tok} {p q q2 a b:Nat} {t u u2:List Nd} {r:PR}
theorem nD {rl rl':Rl} {p p':Nat} {t t':List Nd} {r r':PR} (h1:Rn l rl p t r) (h2:Rn l rl' p' t' r'):∃ f,run l f rl p t=some r∧run l f rl' p' t'=some r':=by
 obtain ⟨f,hf⟩:=h1
 obtain ⟨g,hg⟩:=h2
 exact ⟨max f g,bI (Nat.le_max_left _ _) hf,bI (Nat.le_max_right _ _) hg⟩
theorem Cr (h:Rn l .or p t (.ok a q u)) (hs:isS l q [45,62]=false):Rn l .imp p t (.ok a q u):=by
 obtain ⟨f,hf⟩:=h
 refine ⟨f+1,?_⟩
 show aZ l (run l f) .imp p t=_
 simp only [aZ]
 rw [hf,bv,hs];rfl
theorem Cc (h:Rn l .or p t (.ok a q u)) (hs:isS l q [45,62]=true) (h2:Rn l .imp (q+1) u (.ok b q2 u2)):Rn l .imp p t (.ok u2.length q2 (u2++[nd2 16 a b])):=by
 obtain ⟨f,hf,hg⟩:=nD h h2
 refine ⟨f+1,?_⟩
 show aZ l (run l f) .imp p t=_
 simp only [aZ]
 rw [hf,bv,if_pos hs,hg];rfl
theorem DY (h:Rn l .and p t (.ok a q u)) (h2:Rn l (.orL a) q u r):Rn l .or p t r:=by
 obtain ⟨f,hf,hg⟩:=nD h h2
 refine ⟨f+1,?_⟩
 show aZ l (run l f) .or p t=_
 simp only [aZ]
 rw [hf,bv,hg]
theorem z7 (hs:isS l p [124,124]=false):Rn l (.orL a) p t (.ok a p t):=by
 refine ⟨1,?_⟩
 show aZ l (run l 0) (.orL a) p t=_
 simp only [aZ]
 rw [hs];rfl
theorem CE (hs:isS l p [124,124]=true) (h:Rn l .and (p+1) t (.ok b q u)) (h2:Rn l (.orL u.length) q (u++[nd2 15 a b]) r):Rn l (.orL a) p t r:=by
 obtain ⟨f,hf,hg⟩:=nD h h2
 refine ⟨f+1,?_⟩
 show aZ l (run l f) (.orL a) p t=_
 simp only [aZ]
 rw [if_pos hs,hf,bv,hg]
theorem BS (h:Rn l .not p t (.ok a q u)) (h2:Rn l (.andL a) q u r):Rn l .and p t r:=by
 obtain ⟨f,hf,hg⟩:=nD h h2
 refine ⟨f+1,?_⟩
 show aZ l (run l f) .and p t=_
 simp only [aZ]
 rw [hf,bv,hg]
theorem wM (hs:isS l p [38,38]=false):Rn l (.andL a) p t (.ok a p t):=by
 refine ⟨1,?_⟩
 show aZ l (run l 0) (.andL a) p t=_
 simp only [aZ]
 rw [hs];rfl
theorem AB (hs:isS l p [38,38]=true) (h:Rn l .not (p+1) t (.ok b q u)) (h2:Rn l (.andL u.length) q (u++[nd2 14 a b]) r):Rn l (.andL a) p t r:=by
 obtain ⟨f,hf,hg⟩:=nD h h2
 refine ⟨f+1,?_⟩
 show aZ l (run l f) (.andL a) p t=_
 simp only [aZ]
 rw [if_pos hs,hf,bv,hg]
theorem Dg (hs:isS l p [33]=false) (h:Rn l .cmp p t r):Rn l .not p t r:=by
 obtain ⟨f,hf⟩:=h
 refine ⟨f+1,?_⟩
 show aZ l (run l f) .not p t=_
 simp only [aZ]
 rw [hs,← hf];rfl
theorem CX (hs:isS l p [33]=true) (h:Rn l .not (p+1) t (.ok b q u)):Rn l .not p t (.ok u.length q (u++[nd2 5 b 0])):=by
 obtain ⟨f,hf⟩:=h
 refine ⟨f+1,?_⟩
 show aZ l (run l f) .not p t=_
 simp only [aZ]
 rw [if_pos hs,hf];rfl
theorem C8 (h:Rn l .sum p t (.ok a q u)) (hs:cv l q opsC=none):Rn l .cmp p t (.ok a q u):=by
 obtain ⟨f,hf⟩:=h
 refine ⟨f+1,?_⟩
 show aZ l (run l f) .cmp p t=_
 simp only [aZ]
 rw [hf,bv,hs]
theorem Ch {op:Nat} (h:Rn l .sum p t (.ok a q u)) (hs:cv l q opsC=some op) (h2:Rn l .sum (q+1) u (.ok b q2 u2)):Rn l .cmp p t (.ok u2.length q2 (u2++[nd2 op a b])):=by
 obtain ⟨f,hf,hg⟩:=nD h h2
 refine ⟨f+1,?_⟩
 show aZ l (run l f) .cmp p t=_
 simp only [aZ]
 rw [hf,bv,hs]
 dsimp only
 rw [hg];rfl
theorem B1 (h:Rn l .un p t (.ok a q u)) (h2:Rn l (.sumL a) q u r):Rn l .sum p t r:=by
 obtain ⟨f,hf,hg⟩:=nD h h2
 refine ⟨f+1,?_⟩
 show aZ l (run l f) .sum p t=_
 simp only [aZ]
 rw [hf,bv,hg]
theorem w9 (hs:cv l p opsS=none):Rn l (.sumL a) p t (.ok a p t):=by
 refine ⟨1,?_⟩
 show aZ l (run l 0) (.sumL a) p t=_
 simp only [aZ]
 rw [hs]
theorem BE {op:Nat} (hs:cv l p opsS=some op) (h:Rn l .un (p+1) t (.ok b q u)) (h2:Rn l (.sumL u.length) q (u++[nd2 op a b]) r):Rn l (.sumL a) p t r:=by
 obtain ⟨f,hf,hg⟩:=nD h h2
 refine ⟨f+1,?_⟩
 show aZ l (run l f) (.sumL a) p t=_
 simp only [aZ]
 rw [hs]
 dsimp only
 rw [hf,bv,hg]
theorem Dz (hs:isS l p [45]=false) (h:Rn l .atom p t r):Rn l .un p t r:=by
 obtain ⟨f,hf⟩:=h
 refine ⟨f+1,?_⟩
 show aZ l (run l f) .un p t=_
 simp only [aZ]
 rw [hs,← hf];rfl
theorem DE (hs:isS l p [45]=true) (h:Rn l .un (p+1) t (.ok b q u)):Rn l .un p t (.ok u.length q (u++[nd2 4 b 0])):=by
 obtain ⟨f,hf⟩:=h
 refine ⟨f+1,?_⟩
 show aZ l (run l f) .un p t=_
 simp only [aZ]
 rw [if_pos hs,hf];rfl
theorem DZ (hs:isS l p [40]=true) (h:Rn l .imp (p+1) t (.ok a q u)) (h2:isS l q [41]=true):Rn l .atom p t (.ok a (q+1) u):=by
 obtain ⟨f,hf⟩:=h
 refine ⟨f+1,?_⟩
 show aZ l (run l f) .atom p t=_
 simp only [aZ]
 rw [if_pos hs,hf,bv,if_pos h2]
theorem rZ (hs:isS l p [40]=false):Rn l .atom p t (bC l p t):=by
 refine ⟨1,?_⟩
 show aZ l (run l 0) .atom p t=_
 simp only [aZ]
 rw [hs];rfl
def s0:List (List UInt8):=[[58,58]]
def rR:List (List UInt8):=s0++[[43],[45]]
def mJ:List (List UInt8):=rR++[[61,61],[33,61],[60],[60,61],[62],[62,61]]
def uO:List (List UInt8):=mJ++[[38,38]]
def sOr:List (List UInt8):=uO++[[124,124]]
def fO:List (List UInt8):=sOr++[[45,62]]
def Lv (e:List (VN × Nat)) (rl:Rl) (stop:List (List UInt8)) (n:List T2) (m:Mv):Prop :=
 ∀ (l:List Tok) (p:Nat) (t:List Nd),At l p n→(∀ s∈stop,isS l (p+n.length) s=false)→∃ a u,Rn l rl p t (.ok a (p+n.length) u)∧t <+: u∧M e u a m
theorem pX {ops:List (Nat × List UInt8)} (h:∀ x∈ops,isS l p x.2=false):cv l p ops=none:=by
 induction ops with
 |nil=>rfl
 |cons x r ih =>
  obtain ⟨k,s⟩:=x
  unfold cv
  rw [h (k,s) List.mem_cons_self]
  exact ih fun y hy=>h y (List.mem_cons_of_mem _ hy)
variable {e:List (VN × Nat)} {n n1 n2:List T2} {m m1 m2:Mv}
theorem Lv.mono {rl:Rl} {s s':List (List UInt8)} (h:Lv e rl s n m) (hs:∀ x∈s,x∈s'):Lv e rl s' n m:=fun l p t ha hp=>h l p t ha fun x hx=>hp x (hs x hx)
def nC (x:T2) (n:List T2):Prop:=∀ y,n[0]?=some y→y≠x
theorem zy (h0:n≠[]) {s:List UInt8} (hn:nC (3,s) n) (ha:At l p n):isS l p s=false:=by
 cases n with
 |nil=>exact absurd rfl h0
 |cons y r =>
  rw [i0 ha.head]
  have:=hn y rfl
  cases hb:(y.1==3&&y.2==s) with
  |false=>rfl
  |true =>
   rw [Bool.and_eq_true,beq_iff_eq,beq_iff_eq] at hb
   exact absurd (Prod.ext hb.1 hb.2) this
theorem gZ {s:List UInt8} {r:List T2} (ha:At l p ((3,s)::r)):isS l p s=true:=by rw [i0 ha.head];simp
theorem iv {s s':List UInt8} {r:List T2} (ha:At l p ((3,s)::r)) (h:s≠s'):isS l p s'=false:=by
 rw [i0 ha.head]
 show ((3:Nat)==3&&s==s')=false
 rw [beq_eq_false_iff_ne.2 h];rfl
theorem noC (hs:∀ s∈mJ,isS l p s=false):cv l p opsC=none:=pX (by
 intro x hx
 simp only [opsC,List.mem_cons,List.not_mem_nil,or_false] at hx
 rcases hx with rfl|rfl|rfl|rfl|rfl|rfl<;>exact hs _ (by decide))
def cOp:Nat→List UInt8
 |8=>[61,61]
 |9=>[33,61]
 |10=>[60]
 |11=>[60,61]
 |12=>[62]
 |_=>[62,61]
theorem Bm {c:Nat} (h1:8≤c) (h2:c≤13) {r:List T2} (ha:At l p ((3,cOp c)::r)):cv l p opsC=some c∧∀ s∈rR,isS l p s=false:=by
 rcases (by omega:c=8∨c=9∨c=10∨c=11∨c=12∨c=13) with rfl|rfl|rfl|rfl|rfl|rfl
 all_goals
  refine ⟨?_,fun s hs=>iv ha (by rintro rfl;revert hs;decide)⟩
  simp only [opsC,cv,i0 ha.head]
  decide
def Arr (e:List (VN × Nat)) (l:List Tok) (p q:Nat) (d:Int):Prop:=∀ a (u:List Nd) z,M e u a (.i z)→∃ a' u',u <+: u'∧M e u' a' (.i (z+d))∧∀ r,Rn l (.sumL a') q u' r→Rn l (.sumL a) p u r
theorem Arr.refl {l:List Tok} {p:Nat}:Arr e l p p 0:=fun a u z h=>⟨a,u,List.prefix_refl _,by rw [Int.add_zero];exact h,fun _ h=>h⟩
theorem Arr.trans {l:List Tok} {p q s:Nat} {d d':Int} (h1:Arr e l p q d) (h2:Arr e l q s d'):Arr e l p s (d+d'):=by
 intro a u z h
 obtain ⟨a1,u1,k1,k2,k3⟩:=h1 a u z h
 obtain ⟨a2,u2,j1,j2,j3⟩:=h2 a1 u1 _ k2
 exact ⟨a2,u2,k1.trans j1,by rw [← Int.add_assoc];exact j2,fun r hr=>k3 r (j3 r hr)⟩
theorem Bl {op:Nat} {r:List T2} (ho:op=6∨op=7) (ha:At l p ((3,if op=6 then [43] else [45])::r)):cv l p opsS=some op:=by
 rcases ho with rfl|rfl<;>simp only [opsS,cv,i0 ha.head]<;>decide
def Tk (o:List UInt8→Prop) (s:List UInt8) (n:List T2):Prop:=∀ r,o r→∀ f k,(s++r).length≤f →
 (cF f (s++r) k).1.map er=n++(cF f r (k+s.length)).1.map er∧(cF f (s++r) k).2=(cF f r (k+s.length)).2
def sep (r:List UInt8):Prop:=∀ c t,r=c::t→bG c=false
def tQ (_:List UInt8):Prop:=True
theorem Tk.app {o1 o2:List UInt8→Prop} {s1 s2:List UInt8} {n1 n2:List T2} (h1:Tk o1 s1 n1) (h2:Tk o2 s2 n2) (ho:∀ r,o2 r→o1 (s2++r)):Tk o2 (s1++s2) (n1++n2):=by
 intro r hr f k hf
 rw [List.append_assoc] at hf ⊢
 obtain ⟨a1,a2⟩:=h1 (s2++r) (ho r hr) f k hf
 obtain ⟨b1,b2⟩:=h2 r hr f (k+s1.length) (by rw [lAq] at hf;omega)
 rw [a1,a2,b1,b2,List.append_assoc,lAq,Nat.add_assoc]
 exact ⟨rfl,rfl⟩
theorem Tk.space:Tk tQ [32] []:=by
 intro r _ f k hf
 simp only [lAq,List.length_cons,List.length_nil] at hf
 obtain ⟨g,rfl⟩:∃ g,f=g+1:=⟨f - 1,by omega⟩
 have e1:cF (g+1) ([32]++r) k=cF g r (k+1):=by
  show cF (g+1) (32::r) k=_
  rw [cF,if_pos rfl]
 rw [e1,fw g (g+1) r (k+1) (by omega) (by omega)]
 exact ⟨rfl,rfl⟩
theorem Tk.tok {o:List UInt8→Prop} {x:List UInt8} {kd:Nat} (h0:x≠[]) (h32:x.headD 0≠32) (h:∀ r,o r→fx (x++r)=some (kd,x)):Tk o x [(kd,x)]:=by
 intro r hr f k hf
 have ht:=h r hr
 obtain ⟨c,y,rfl⟩:∃ c y,x=c::y:=by
  cases x with
  |nil=>exact absurd rfl h0
  |cons c y=>exact ⟨c,y,rfl⟩
 simp only [lAq,List.length_cons] at hf
 obtain ⟨g,rfl⟩:∃ g,f=g+1:=⟨f - 1,by omega⟩
 have e1:cF (g+1) ((c::y)++r) k=((kd,c::y,k)::(cF g r (k+(c::y).length)).1,(cF g r (k+(c::y).length)).2):=by
  show cF (g+1) (c::(y++r)) k=_
  have e2:(c::(y++r)).drop (c::y).length=r:=by
   show ((c::y)++r).drop (c::y).length=r
   rw [List.drop_left]
  rw [cF,if_neg (show c≠32 from h32)]
  rw [show fx (c::(y++r))=some (kd,c::y) from ht]
  dsimp only
  rw [e2]
 rw [e1,fw g (g+1) r _ (by omega) (by omega)]
 exact ⟨rfl,rfl⟩
theorem uu {w r:List UInt8} (h:w.all bG=true) (hr:sep r):bP (w++r)=w:=by
 unfold bP
 rw [List.takeWhile_append_of_pos (fun c hc=>List.all_eq_true.1 h c hc)]
 have:r.takeWhile bG=[]:=by
  cases r with
  |nil=>rfl
  |cons c t=>rw [List.takeWhile_cons_of_neg (by rw [hr c t rfl];decide)]
 rw [this,List.append_nil]
theorem Tk.name {w:List UInt8} (h:w.all bG=true) (h0:w≠[]) (h1:bF (w.headD 0)=true) (h32:w.headD 0≠32):Tk sep w [(2,w)] :=
 Tk.tok h0 h32 fun r hr=>by
  have e:=uu h hr
  cases w with
  |nil=>exact absurd rfl h0
  |cons c y =>
   unfold fx
   rw [e]
   dsimp only
   rw [if_pos (show bF c=true from h1)]
theorem Tk.num {w:List UInt8} (h:w.all bG=true) (h0:w≠[]) (h1:bF (w.headD 0)=false) (h2:(lit w).isSome=true) (h32:w.headD 0≠32):Tk sep w [(1,w)] :=
 Tk.tok h0 h32 fun r hr=>by
  have e:=uu h hr
  cases w with
  |nil=>exact absurd rfl h0
  |cons c y =>
   unfold fx
   rw [e]
   dsimp only
   rw [if_neg (by intro h3;rw [show bF c=false from h1] at h3;cases h3),if_pos h2]
theorem Tk.sym {o:List UInt8→Prop} {c:UInt8} {y:List UInt8} (hc:bG c=false) (h32:c≠32) (h:∀ r,o r→dN (c::(y++r))=c::y):Tk o (c::y) [(3,c::y)] :=
 Tk.tok (by simp) h32 fun r hr=>by
  unfold fx
  have e:bP (c::y++r)=[]:=by
   unfold bP
   rw [List.cons_append,List.takeWhile_cons_of_neg (by rw [hc];decide)]
  rw [e]
  dsimp only
  rw [show c::y++r=c::(y++r) from rfl,h r hr]
theorem Tk.two {c d:UInt8} (hm:[c,d]∈syms):Tk tQ [c,d] [(3,[c,d])]:=by
 simp only [syms,List.mem_cons,List.cons.injEq,List.not_mem_nil,or_false,and_true,reduceCtorEq,and_false] at hm
 rcases hm with ⟨rfl,rfl⟩|⟨rfl,rfl⟩|⟨rfl,rfl⟩|⟨rfl,rfl⟩|⟨rfl,rfl⟩|⟨rfl,rfl⟩|⟨rfl,rfl⟩|⟨rfl,rfl⟩ <;>
  exact Tk.sym (by decide) (by decide) fun r _=>by simp [dN,jh,syms,dw]
theorem Tk.par1:Tk tQ [40] [(3,[40])]:=Tk.sym (by decide) (by decide) fun r _=>by simp [dN,jh,syms,dw]
theorem Tk.par2:Tk tQ [41] [(3,[41])]:=Tk.sym (by decide) (by decide) fun r _=>by simp [dN,jh,syms,dw]
theorem Tk.plus:Tk tQ [43] [(3,[43])]:=Tk.sym (by decide) (by decide) fun r _=>by simp [dN,jh,syms,dw]
def xX (x:UInt8) (r:List UInt8):Prop:=∃ c t,r=c::t∧c≠x
theorem Tk.minus:Tk (xX 62) [45] [(3,[45])]:=Tk.sym (by decide) (by decide) fun r hr=>by
 obtain ⟨c,t,rfl,h⟩:=hr
 simp [dN,jh,syms,dw,h]
theorem Tk.bang:Tk (xX 61) [33] [(3,[33])]:=Tk.sym (by decide) (by decide) fun r hr=>by
 obtain ⟨c,t,rfl,h⟩:=hr
 simp [dN,jh,syms,dw,h]
theorem Tk.less:Tk (xX 61) [60] [(3,[60])]:=Tk.sym (by decide) (by decide) fun r hr=>by
 obtain ⟨c,t,rfl,h⟩:=hr
 simp [dN,jh,syms,dw,h]
theorem Tk.great:Tk (xX 61) [62] [(3,[62])]:=Tk.sym (by decide) (by decide) fun r hr=>by
 obtain ⟨c,t,rfl,h⟩:=hr
 simp [dN,jh,syms,dw,h]
theorem Be:sep []:=fun c t h=>by cases h
theorem tj {c:UInt8} {r:List UInt8} (h:bG c=false):sep (c::r):=fun d t e=>by cases e;exact h
theorem Tk.weak {o o':List UInt8→Prop} {s:List UInt8} {n:List T2} (h:Tk o s n) (ho:∀ r,o' r→o r):Tk o' s n:=fun r hr=>h r (ho r hr)
end Go.AL
