/- Lemmas of the proof; no condition. -/
import Derived.Test.YtjnhidpnfdbmaaaGreatLTyp
set_option linter.all false
open Go Go.AL
namespace Go.AL
inductive Mv where
 |i (z:Int)
 |b (x:Bool)
 deriving DecidableEq,Inhabited
def Mv.num:Mv→Int
 |.i z=>z
 |.b _=>0
def Mv.bo:Mv→Bool
 |.i _=>false
 |.b x=>x
def Mv.isI:Mv→Bool
 |.i _=>true
 |.b _=>false
def mEq:Mv→Mv→Bool
 |.i z,y=>decide (z=y.num)
 |.b x,y=>x==y.bo
def l7 (e:List (VN × Nat)) (x:VN):Int:=match e with
 |[]=>0
 |(y,v)::r=>if y=x then (v:Int) else l7 r x
def opV (op:Nat) (x y:Mv):Mv :=
 if op=4 then .i (-x.num) else if op=6 then .i (x.num+y.num) else if op=7 then .i (x.num - y.num)
 else if op=10 then .b (decide (x.num<y.num)) else if op=11 then .b (decide (x.num≤y.num)) else if op=12 then .b (decide (y.num<x.num)) else if op=13 then .b (decide (y.num≤x.num))
 else if op=8 then .b (mEq x y) else if op=9 then .b (!mEq x y) else if op=5 then .b (!x.bo) else if op=14 then .b (x.bo&&y.bo) else if op=15 then .b (x.bo||y.bo) else .b (!x.bo||y.bo)
def kj (e:List (VN × Nat)) (l:List Mv) (n:Nd):Mv :=
 if n.op=1 then .i n.v else if n.op=2 then .b (decide (n.v=1)) else if n.op=3 then .i (l7 e (n.name,n.attr))
 else opV n.op (l.getD n.a (.b false)) (l.getD n.b (.b false))
def fe (e:List (VN × Nat)) (t:List Nd):Nat→List Mv
 |0=>[]
 |k+1=>fe e t k++[kj e (fe e t k) (t.getD k default)]
theorem ld {e:List (VN × Nat)} {t:List Nd}:∀ {k:Nat},(fe e t k).length=k
 |0=>rfl
 |k+1=>by rw [fe,lAq,ld];rfl
theorem v7 {e:List (VN × Nat)} {t:List Nd} {k m i:Nat} (hi:i<k) (hk:k≤m):(fe e t m).getD i (.b false)=(fe e t k).getD i (.b false):=by
 induction m with
 |zero=>omega
 |succ m ih =>
  by_cases h:k≤m
  ·rw [fe,gEq,List.getElem?_append_left (by rw [ld];omega),← gEq,ih h]
  ·rw [show k=m+1 by omega]
def val (e:List (VN × Nat)) (t:List Nd) (i:Nat):Mv:=(fe e t t.length).getD i (.b false)
theorem Cf {e:List (VN × Nat)} {t:List Nd} {i:Nat} (hi:i<t.length):val e t i=kj e (fe e t i) t[i]:=by
 unfold val
 rw [v7 (k:=i+1) (by omega) (by omega),fe,gEq,List.getElem?_append_right (by rw [ld];omega),ld,Nat.sub_self]
 simp [gEq,hi]
theorem se {e:List (VN × Nat)} {t:List Nd} {i k:Nat} (hi:i<k) (hk:k≤t.length):(fe e t k).getD i (.b false)=val e t i:=(v7 hi hk).symm
theorem GQ {e:List (VN × Nat)} {t:List Nd} {i:Nat} (hi:i<t.length) (h3:3<t[i].op) (ha:t[i].a<i) (hb:t[i].b<i):val e t i=opV t[i].op (val e t t[i].a) (val e t t[i].b):=by
 rw [Cf hi]
 unfold kj
 rw [if_neg (by omega),if_neg (by omega),if_neg (by omega),se ha (by omega),se hb (by omega)]
theorem G1 {e:List (VN × Nat)} (h:∀ x∈e,x.2<2^128) (x:VN):0≤l7 e x∧l7 e x<2^128:=by
 induction e with
 |nil=>exact ⟨Int.le_refl _,by unfold l7;decide⟩
 |cons y r ih =>
  obtain ⟨y,v⟩:=y
  unfold l7
  split
  ·have:=h (y,v) List.mem_cons_self
   dsimp only at this
   exact ⟨Int.natCast_nonneg _,by exact_mod_cast this⟩
  ·exact ih fun z hz=>h z (List.mem_cons_of_mem _ hz)
inductive Sub (t:List Nd):Nat→Nat→Prop
 |leaf {r:Nat} {n:Nd}:t[r]?=some n→n.op≤3→Sub t r r
 |un {s a:Nat} {n:Nd}:Sub t s a→t[a+1]?=some n→(n.op=4∨n.op=5)→n.a=a→Sub t s (a+1)
 |bin {s a b:Nat} {n:Nd}:Sub t s a→Sub t (a+1) b→t[b+1]?=some n→6≤n.op→n.a=a→n.b=b→Sub t s (b+1)
theorem xc {t t':List Nd} {i:Nat} {n:Nd} (h:t <+: t') (hi:t[i]?=some n):t'[i]?=some n:=by
 obtain ⟨r,rfl⟩:=h
 have hlt:i<t.length:=by
  rcases Nat.lt_or_ge i t.length with h|h
  ·exact h
  ·rw [gNq h] at hi;cases hi
 rw [List.getElem?_append_left hlt];exact hi
theorem Sub.ext {t t':List Nd} {s r:Nat} (h:Sub t s r) (hp:t <+: t'):Sub t' s r:=by
 induction h with
 |leaf h1 h2=>exact .leaf (xc hp h1) h2
 |un _ h1 h2 h3 ih=>exact .un ih (xc hp h1) h2 h3
 |bin _ _ h1 h2 h3 h4 ih1 ih2=>exact .bin ih1 ih2 (xc hp h1) h2 h3 h4
theorem Sub.le {t:List Nd} {s r:Nat} (h:Sub t s r):s≤r∧r<t.length:=by
 have lt:∀ {i:Nat} {n:Nd},t[i]?=some n→i<t.length:=by
  intro i n hi
  rcases Nat.lt_or_ge i t.length with h|h
  ·exact h
  ·rw [gNq h] at hi;cases hi
 induction h with
 |leaf h1 _=>exact ⟨nrq _,lt h1⟩
 |un _ h1 _ _ ih=>exact ⟨by omega,lt h1⟩
 |bin _ _ h1 _ _ _ ih1 ih2=>exact ⟨by omega,lt h1⟩
def jb (rl:Rl) (t:List Nd) (s:Nat):Prop:=match rl with
 |.orL a|.andL a|.sumL a=>Sub t s a∧a+1=t.length
 |_=>s=t.length
def jm (t:List Nd) (s a:Nat) (t':List Nd):Prop:=t <+: t'∧Sub t' s a∧a+1=t'.length
theorem tA {t:List Nd} {n:Nd}:(t++[n])[t.length]?=some n:=by simp
theorem lj {t:List Nd} {n:Nd}:t <+: t++[n]:=⟨[n],rfl⟩
theorem mq {t t1 t2:List Nd} {s a b op:Nat} (h1:jm t s a t1) (h2:jm t1 t1.length b t2) (ho:6≤op):jm t s t2.length (t2++[nd2 op a b]):=by
 obtain ⟨p1,s1,e1⟩:=h1
 obtain ⟨p2,s2,e2⟩:=h2
 refine ⟨(p1.trans p2).trans lj,?_,by simp⟩
 rw [← e2]
 refine .bin ((s1.ext p2).ext lj) ?_ (n:=nd2 op a b) (by rw [e2];exact tA) ho rfl rfl
 rw [e1];exact s2.ext lj
theorem B6 {t t1:List Nd} {s a op:Nat} (h1:jm t s a t1) (ho:op=4∨op=5):jm t s t1.length (t1++[nd2 op a 0]):=by
 obtain ⟨p1,s1,e1⟩:=h1
 refine ⟨p1.trans lj,?_,by simp⟩
 rw [← e1]
 exact .un (s1.ext lj) (n:=nd2 op a 0) (by rw [e1];exact tA) ho rfl
theorem iM {t t1 t2:List Nd} {s s1 a b:Nat} (h1:jm t s1 a t1) (h2:jm t1 s b t2):jm t s b t2:=⟨h1.1.trans h2.1,h2.2.1,h2.2.2⟩
theorem Hi {l:List Tok} {p:Nat} {t:List Nd} {a q:Nat} {t':List Nd} (h:eD l p t=.ok a q t'):jm t t.length a t':=by
 have key:∀ n:Nd,n.op≤3→jm t t.length t.length (t++[n]):=fun n hn=>⟨lj,.leaf tA hn,by simp⟩
 unfold eD at h
 repeat' split at h
 all_goals first|(cases h;exact key _ (Nat.le_of_ble_eq_true rfl))|cases h
theorem EW {l:List Tok} {rec:Rl→Nat→List Nd→Option PR} (h:∀ rl p t a q t',rec rl p t=some (.ok a q t')→∀ s,jb rl t s→jm t s a t') :
 ∀ {rl p t a q t'},eN l rec rl p t=some (.ok a q t')→∀ s,jb rl t s→jm t s a t':=by
 intro rl p t a q t' hr s hs
 cases rl<;>simp only [eN] at hr<;>simp only [jb] at hs
 case imp =>
  subst hs
  obtain ⟨a1,p1,t1,e1,e2⟩:=bR hr
  have g1:=h _ _ _ _ _ _ e1 _ (rfl:jb .or t t.length)
  split at e2
  ·obtain ⟨a2,p2,t2,e3,e4⟩:=bR e2
   cases e4
   exact mq g1 (h _ _ _ _ _ _ e3 _ (rfl:jb .imp t1 t1.length)) (by decide)
  ·cases e2;exact g1
 case cmp =>
  subst hs
  obtain ⟨a1,p1,t1,e1,e2⟩:=bR hr
  have g1:=h _ _ _ _ _ _ e1 _ (rfl:jb .sum t t.length)
  split at e2
  ·rename_i op hop
   obtain ⟨a2,p2,t2,e3,e4⟩:=bR e2
   cases e4
   obtain ⟨_,x,hx⟩:=gO hop
   refine mq g1 (h _ _ _ _ _ _ e3 _ (rfl:jb .sum t1 t1.length)) ?_
   simp only [opsC,List.mem_cons,Prod.mk.injEq,List.not_mem_nil,or_false] at hx;omega
  ·cases e2;exact g1
 case atom =>
  subst hs
  split at hr
  ·obtain ⟨a1,p1,t1,e1,e2⟩:=bR hr
   split at e2
   ·cases e2;exact h _ _ _ _ _ _ e1 _ (rfl:jb .imp t t.length)
   ·cases e2
  ·exact Hi (Option.some.inj hr)
 case not =>
  subst hs
  split at hr
  ·obtain ⟨a1,p1,t1,e1,e2⟩:=bR hr
   cases e2
   exact B6 (h _ _ _ _ _ _ e1 _ (rfl:jb .not t t.length)) (.inr rfl)
  ·exact h _ _ _ _ _ _ hr _ (rfl:jb .cmp t t.length)
 case un =>
  subst hs
  split at hr
  ·obtain ⟨a1,p1,t1,e1,e2⟩:=bR hr
   cases e2
   exact B6 (h _ _ _ _ _ _ e1 _ (rfl:jb .un t t.length)) (.inl rfl)
  ·exact h _ _ _ _ _ _ hr _ (rfl:jb .atom t t.length)
 case orL a0 =>
  split at hr
  ·obtain ⟨a1,p1,t1,e1,e2⟩:=bR hr
   have g0:jm t s a0 t:=⟨List.prefix_refl _,hs.1,hs.2⟩
   have g2:=mq (op:=15) g0 (h _ _ _ _ _ _ e1 _ (rfl:jb .and t t.length)) (by decide)
   exact iM g2 (h _ _ _ _ _ _ e2 s (⟨g2.2.1,g2.2.2⟩:jb (.orL t1.length) _ s))
  ·cases hr;exact ⟨List.prefix_refl _,hs.1,hs.2⟩
 case andL a0 =>
  split at hr
  ·obtain ⟨a1,p1,t1,e1,e2⟩:=bR hr
   have g0:jm t s a0 t:=⟨List.prefix_refl _,hs.1,hs.2⟩
   have g2:=mq (op:=14) g0 (h _ _ _ _ _ _ e1 _ (rfl:jb .not t t.length)) (by decide)
   exact iM g2 (h _ _ _ _ _ _ e2 s (⟨g2.2.1,g2.2.2⟩:jb (.andL t1.length) _ s))
  ·cases hr;exact ⟨List.prefix_refl _,hs.1,hs.2⟩
 case sumL a0 =>
  split at hr
  ·rename_i op hop
   obtain ⟨a1,p1,t1,e1,e2⟩:=bR hr
   obtain ⟨_,x,hx⟩:=gO hop
   have ho:6≤op:=by simp only [opsS,List.mem_cons,Prod.mk.injEq,List.not_mem_nil,or_false] at hx;omega
   have g0:jm t s a0 t:=⟨List.prefix_refl _,hs.1,hs.2⟩
   have g2:=mq (op:=op) g0 (h _ _ _ _ _ _ e1 _ (rfl:jb .un t t.length)) ho
   exact iM g2 (h _ _ _ _ _ _ e2 s (⟨g2.2.1,g2.2.2⟩:jb (.sumL t1.length) _ s))
  ·cases hr;exact ⟨List.prefix_refl _,hs.1,hs.2⟩
 case or =>
  subst hs
  obtain ⟨a1,p1,t1,e1,e2⟩:=bR hr
  have g1:=h _ _ _ _ _ _ e1 _ (rfl:jb .and t t.length)
  exact iM g1 (h _ _ _ _ _ _ e2 _ (⟨g1.2.1,g1.2.2⟩:jb (.orL a1) t1 t.length))
 case and =>
  subst hs
  obtain ⟨a1,p1,t1,e1,e2⟩:=bR hr
  have g1:=h _ _ _ _ _ _ e1 _ (rfl:jb .not t t.length)
  exact iM g1 (h _ _ _ _ _ _ e2 _ (⟨g1.2.1,g1.2.2⟩:jb (.andL a1) t1 t.length))
 case sum =>
  subst hs
  obtain ⟨a1,p1,t1,e1,e2⟩:=bR hr
  have g1:=h _ _ _ _ _ _ e1 _ (rfl:jb .un t t.length)
  exact iM g1 (h _ _ _ _ _ _ e2 _ (⟨g1.2.1,g1.2.2⟩:jb (.sumL a1) t1 t.length))
theorem BV {l:List Tok}:∀ (f:Nat) {rl p t a q t'},run l f rl p t=some (.ok a q t')→∀ s,jb rl t s→jm t s a t'
 |0,_,_,_,_,_,_,h=>by cases h
 |f+1,_,_,_,_,_,_,h=>EW (fun _ _ _ _ _ _=>BV f) h
theorem zU {l:List Tok} {r:PR} {f:Nat} (h:run l f .imp 0 []=some r) (h0:(dX l r).1≠[]):Sub (dX l r).1 0 ((dX l r).1.length - 1):=by
 cases r with
 |bad p=>exact absurd rfl h0
 |ok a p t =>
  dsimp only [dX] at h0 ⊢
  split at h0
  ·exact absurd rfl h0
  ·rename_i h1
   split at h0
   ·exact absurd rfl h0
   ·rename_i h2
    rw [if_neg h1,if_neg h2]
    obtain ⟨_,g2,g3⟩:=BV f h 0 (rfl:jb .imp [] 0)
    have e:t.length - 1=a:=by omega
    show Sub t 0 (t.length - 1)
    rw [e];exact g2
theorem Mx {op:Nat} {x y:Mv} (h4:op≠4) (h6:op≠6) (h7:op≠7):∃ q,opV op x y=.b q:=by
 unfold opV
 rw [if_neg h4,if_neg h6,if_neg h7]
 repeat' split
 all_goals exact ⟨_,rfl⟩
theorem MN {x y:Mv}:opV 6 x y=.i (x.num+y.num):=rfl
theorem Nk {x y:Mv}:opV 7 x y=.i (x.num - y.num):=rfl
theorem vT {z:Int}:(Mv.i z).num=z:=rfl
theorem yr {x:Bool}:(Mv.b x).num=0:=rfl
theorem KO {e:List (VN × Nat)} (he:∀ x∈e,x.2<2^128) {t:List Nd} (hg:Good t) {s r:Nat} (h:Sub t s r) : -(2^128*((r:Int) - s+1))≤(val e t r).num∧(val e t r).num≤2^128*((r:Int) - s+1):=by
 have lt:∀ {i:Nat} {n:Nd},t[i]?=some n→∃ h:i<t.length,t[i]=n:=by
  intro i n hi
  rcases Nat.lt_or_ge i t.length with h|h
  ·exact ⟨h,by rw [gQq h] at hi;exact Option.some.inj hi⟩
  ·rw [gNq h] at hi;cases hi
 induction h with
 |@leaf r n h1 h2 =>
  obtain ⟨hr,rfl⟩:=lt h1
  obtain ⟨g1,_,g3,_⟩:=hg r t[r] h1
  rw [Cf hr]
  unfold kj
  have hl:=G1 he (t[r].name,t[r].attr)
  split
  ·simp only [vT,yr];omega
  ·split
   ·simp only [vT,yr];omega
   ·rw [if_pos (by omega)];simp only [vT,yr];omega
 |@un s a n hs h1 h2 h3 ih =>
  obtain ⟨hr,rfl⟩:=lt h1
  have hb:t[a+1].b<a+1:=by
   obtain ⟨_,_,_,g4⟩:=hg (a+1) t[a+1] h1
   rcases g4 with g4|g4<;>omega
  rw [GQ hr (by omega) (by omega) hb,h3]
  unfold opV
  rcases h2 with h2|h2
  ·rw [if_pos h2];simp only [vT];omega
  ·rw [if_neg (by omega),if_neg (by omega),if_neg (by omega),if_neg (by omega),if_neg (by omega),if_neg (by omega),if_neg (by omega),if_neg (by omega),if_neg (by omega),if_pos h2];simp only [yr];omega
 |@bin s a b n ha hb h1 h2 h3 h4 ih1 ih2 =>
  obtain ⟨hr,rfl⟩:=lt h1
  have l1:=ha.le
  have l2:=hb.le
  rw [GQ hr (by omega) (by omega) (by omega),h3,h4]
  generalize val e t a=x at *
  generalize val e t b=y at *
  by_cases h6:t[b+1].op=6
  ·rw [h6,MN,vT];omega
  ·by_cases h7:t[b+1].op=7
   ·rw [h7,Nk,vT];omega
   ·obtain ⟨q,hq⟩:=@Mx t[b+1].op x y (by omega) h6 h7
    rw [hq,yr];omega
theorem Sub.node {t:List Nd} {s r:Nat} (h:Sub t s r):∀ {i:Nat},s≤i→i≤r→∃ s',s≤s'∧Sub t s' i:=by
 induction h with
 |@leaf r n h1 h2 =>
  intro i h3 h4
  obtain rfl:i=r:=by omega
  exact ⟨i,nrq _,.leaf h1 h2⟩
 |@un s a n hs h1 h2 h3 ih =>
  intro i h4 h5
  by_cases h:i≤a
  ·exact ih h4 h
  ·obtain rfl:i=a+1:=by omega
   exact ⟨s,nrq _,.un hs h1 h2 h3⟩
 |@bin s a b n ha hb h1 h2 h3 h4 ih1 ih2 =>
  intro i h5 h6
  by_cases h:i≤a
  ·exact ih1 h5 h
  ·by_cases h':i≤b
   ·obtain ⟨s',h7,h8⟩:=ih2 (by omega) h'
    exact ⟨s',by have:=ha.le;omega,h8⟩
   ·obtain rfl:i=b+1:=by omega
    exact ⟨s,nrq _,.bin ha hb h1 h2 h3 h4⟩
def okW (t:List Nd):Prop:=Good t∧Sub t 0 (t.length - 1)∧t.length≤120
theorem Fw {e:List (VN × Nat)} (he:∀ x∈e,x.2<2^128) {t:List Nd} (h:okW t) {i:Nat} (hi:i<t.length) : -(2^128*120)≤(val e t i).num∧(val e t i).num≤2^128*120:=by
 obtain ⟨hg,hs,hl⟩:=h
 obtain ⟨s',h1,h2⟩:=hs.node (i:=i) (Nat.zero_le _) (by omega)
 have h3:=KO he hg h2
 have h4:=h2.le
 omega
def Ci (t:List Nd):Prop:=∀ (i:Nat) (h:i<t.length),Cy t t[i]=true
theorem rq {kn:VN→Bool} {t:List Nd}:∀ {f k:Nat},iJ kn t f k=none→∀ i,k≤i→i<k+f→qb kn t i=0
 |0,k,_,i,h1,h2=>by omega
 |f+1,k,h,i,h1,h2=>by
  unfold iJ at h
  split at h
  ·rename_i h3
   by_cases hk:i=k
   ·rw [hk];exact h3
   ·exact rq h i (by omega) (by omega)
  ·cases h
theorem C6 {kn:VN→Bool} {t:List Nd} (h:(chk kn t).2=0):Ci t∧t≠[]∧jI t (t.length - 1)=false:=by
 unfold chk at h
 cases h1:iJ kn t t.length 0 with
 |some r=>rw [h1] at h;exact absurd h (vR h1)
 |none =>
  rw [h1] at h
  dsimp only at h
  split at h
  ·cases h
  ·rename_i h2
   split at h
   ·cases h
   ·rename_i h3
    refine ⟨fun i hi=>?_,fun e=>h2 (by rw [e];rfl),by simpa using h3⟩
    have h4:=rq h1 i (Nat.zero_le _) (by omega)
    rw [vw hi] at h4
    unfold km at h4
    split at h4
    ·cases h4
    ·split at h4
     ·assumption
     ·cases h4
theorem Jk {kn:VN→Bool} {s:List UInt8} (h:(comp kn s).2=0):okW (comp kn s).1∧Ci (comp kn s).1∧(comp kn s).1≠[]∧jI (comp kn s).1 ((comp kn s).1.length - 1)=false:=by
 unfold comp at *
 split at h
 ·rename_i hs
  rw [if_pos hs]
  refine ⟨⟨?_,.leaf (n:=⟨2,0,0,[],[],1⟩) rfl (by decide),by decide⟩,?_,by decide,by decide⟩
  ·intro i n hn
   have:i=0:=by
    rcases Nat.lt_or_ge i 1 with h|h
    ·omega
    ·rw [gNq (show oneT.length≤i from h)] at hn;cases hn
   subst this
   cases hn
   exact ⟨by decide,by decide,by decide,.inl (by decide)⟩
  ·intro i hi
   have:i=0:=by have:i<1:=hi;omega
   subst this;rfl
 ·rename_i hs
  rw [if_neg hs]
  obtain ⟨f,hf⟩:=xz (cD s).1
  unfold Co at *
  split at h
  ·rename_i h1;exact absurd h h1
  ·rename_i h1
   rw [if_neg h1]
   split at h
   ·rename_i h2;exact absurd h h2
   ·rename_i h2
    rw [if_neg h2]
    split at h
    ·rename_i h3;exact absurd h h3
    ·rename_i h3
     rw [if_neg h3]
     obtain ⟨c1,c2,c3⟩:=C6 (Decidable.byContradiction h3)
     obtain ⟨g1,g2,_⟩:=ri hf
     exact ⟨⟨g1,zU hf c2,g2⟩,c1,c2,c3⟩
end Go.AL
