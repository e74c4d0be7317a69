/- Contracts and plain laws, a part of the proof; no condition of its own. -/
import Derived.Test.YtokjjhidigoodaaGreatS10n
open Go Go.AL Go.Proofs
namespace Go.AL
set_option linter.all false
set_option maxRecDepth 10000
theorem oJ {P:SAction→Prop} (h0:P ⟨0,[],[],[],[]⟩):∀ {l:List SAction} {a:Int},(∀ x∈l,P x)→P (fu l a)
 |[],_,_=>h0
 |x::l,a,h=>by
  unfold fu
  split
  ·exact h x List.mem_cons_self
  ·exact oJ h0 fun y hy=>h y (List.mem_cons_of_mem _ hy)
theorem jJ {b:List UInt8} {v:Nat}:∀ t∈cw b v,t.keys.length≤3∧(∀ k∈t.keys,1≤gh gFields k.field∧gh gFields k.field≤32∧(k.kind=2→16≤gh gFields k.field))∧1≤t.actions.length∧t.actions.length≤5:=by
 intro t ht
 simp only [cw,List.mem_cons,List.not_mem_nil,or_false] at ht
 rcases ht with rfl|rfl|rfl|rfl
 ·refine ⟨by simp [i7],fun k hk=>?_,by simp [i7],by simp [i7]⟩
  simp only [i7,List.mem_cons,List.not_mem_nil,or_false] at hk
  subst hk
  decide
 ·refine ⟨by simp only [kO];split<;>simp,fun k hk=>?_,by simp [kO],by simp [kO]⟩
  simp only [kO] at hk
  split at hk<;>simp only [List.cons_append,List.nil_append,List.append_nil,List.mem_cons,List.not_mem_nil,or_false] at hk
  ·rcases hk with rfl|rfl<;>decide
  ·subst hk;decide
 ·refine ⟨by simp only [eH];split<;>simp,fun k hk=>?_,by simp [eH],by simp [eH]⟩
  simp only [eH] at hk
  split at hk<;>simp only [List.cons_append,List.nil_append,List.append_nil,List.mem_cons,List.not_mem_nil,or_false] at hk
  ·rcases hk with rfl|rfl|rfl<;>decide
  ·rcases hk with rfl|rfl<;>decide
 ·refine ⟨by simp only [eJ];split<;>simp,fun k hk=>?_,by simp [eJ],by simp [eJ]⟩
  simp only [eJ] at hk
  split at hk<;>simp only [List.cons_append,List.nil_append,List.append_nil,List.mem_cons,List.not_mem_nil,or_false] at hk
  ·rcases hk with rfl|rfl|rfl<;>decide
  ·subst hk;decide
theorem rR {b:List UInt8} {v:Nat}:∀ a∈cR b v,a.params.length≤4∧∀ p∈a.params,0≤p.bits∧p.bits≤1000:=by
 intro a ha
 simp only [cR,List.mem_cons,List.not_mem_nil,or_false] at ha
 rcases ha with rfl|rfl|rfl|rfl|rfl|rfl<;>refine ⟨by simp,fun p hp=>?_⟩<;>simp only [List.mem_cons,List.not_mem_nil,or_false] at hp<;>first|exact hp.elim|(subst hp;decide)|(rcases hp with rfl|rfl<;>decide)
theorem Jj (b:List UInt8) (v:Nat):GenS (dM b v).1 where
 fl:=(by decide:gFields.length≤1000)
 al:=by simp [dM,cR]
 tl:=by simp [dM,cw]
 t1:=by simp [dM,cw]
 kl:=fun t ht=>by have:=(jJ t ht).1;omega
 kb:=fun t ht=>(jJ t ht).2.1
 a1:=fun t ht=>⟨(jJ t ht).2.2.1,by have:=(jJ t ht).2.2.2;omega⟩
 pl:=fun a=>oJ (P:=fun x=>x.params.length≤100) (by decide) fun x hx=>by have:=(rR x hx).1;omega
 pb:=fun a=>oJ (P:=fun x=>∀ p∈x.params,0≤p.bits∧p.bits≤1000) (by simp) fun x hx=>(rR x hx).2
def e0:SEntry:=⟨2,[⟨true,167772161,0,8,0⟩],0,0,[]⟩
theorem zF {b:List UInt8}:zod b 0=di b (cp 0 0):=by
 unfold zod di cp
 simp
end Go.AL
open Go Go.AL Go.Proofs
namespace Go.AL
set_option linter.all false
set_option maxRecDepth 10000
/-- what is so of generated matches -/
structure GM (m:SMatch):Prop where
 v:m.value<2^32
 k:m.mask<2^32
 h:m.high<2^32
 p0:0≤m.pfx
 p1:m.pfx≤32
theorem Dg {b:List UInt8} {v:Nat} {w kind:Int} (h1:1≤w) (h2:w≤32) (h3:kind=2→16≤w):GM (cA b v w kind).1:=by
 have hX:=p7 (x:=qq b v) h1 h2
 have hno:GM cS:=⟨by decide,by decide,by decide,by decide,by decide⟩
 unfold cA
 dsimp only
 split
 ·rename_i hk
  have:=BK (b:=b) (u:=v+4) (h3 hk)
  split
  ·exact ⟨Nat.lt_of_le_of_lt Nat.and_le_left hX,by dsimp only;decide,by dsimp only;decide,by dsimp only;omega,by dsimp only;omega⟩
  ·exact hno
 ·split
  ·split
   ·exact ⟨Nat.lt_of_le_of_lt Nat.and_le_left hX,p7 h1 h2,by dsimp only;decide,by dsimp only;decide,by dsimp only;decide⟩
   ·exact hno
  ·split
   ·split
    ·refine ⟨hX,by dsimp only;decide,?_,by dsimp only;decide,by dsimp only;decide⟩
     dsimp only
     unfold n9
     have:2^w.toNat≤2^32:=Nat.pow_le_pow_right (by decide) (by omega)
     have:=Nat.two_pow_pos w.toNat
     omega
    ·exact hno
   ·exact ⟨hX,by dsimp only;decide,by dsimp only;decide,by dsimp only;decide,by dsimp only;decide⟩
theorem mT {S:Sch} {b:List UInt8}:∀ (ks:List SKey) (v:Nat) (p:Int),(∀ k∈ks,1≤eD S k.field∧eD S k.field≤32∧(k.kind=2→16≤eD S k.field))→0≤p→p≤5 →
 (cJ S b ks v p).1.1.length=ks.length∧(∀ m∈(cJ S b ks v p).1.1,GM m)∧0≤(cJ S b ks v p).1.2∧(cJ S b ks v p).1.2≤5
 |[],v,p,_,h1,h2=>⟨rfl,by simp [cJ],h1,h2⟩
 |k::ks,v,p,h,h1,h2=>by
  obtain ⟨g1,g2,g3⟩:=h k List.mem_cons_self
  have hm:=Dg (b:=b) (v:=v) g1 g2 g3
  have hc:=dV (b:=b) (v:=(cA b v (eD S k.field) k.kind).2) (n:=5) (by decide)
  unfold cJ
  dsimp only
  by_cases hk:k.kind=3∨k.kind=4
  ·simp only [if_pos hk]
   obtain ⟨i1,i2,i3,i4⟩:=mT ks ((cA b v (eD S k.field) k.kind).2+1) (1+ci b (cA b v (eD S k.field) k.kind).2 5) (fun x hx=>h x (List.mem_cons_of_mem _ hx)) (by unfold ci;omega) (by unfold ci;omega)
   exact ⟨by simp [i1],fun m hm'=>(List.mem_cons.1 hm').elim (fun e=>e ▸ hm) (i2 m),i3,i4⟩
  ·simp only [if_neg hk]
   obtain ⟨i1,i2,i3,i4⟩:=mT ks (cA b v (eD S k.field) k.kind).2 p (fun x hx=>h x (List.mem_cons_of_mem _ hx)) h1 h2
   exact ⟨by simp [i1],fun m hm'=>(List.mem_cons.1 hm').elim (fun e=>e ▸ hm) (i2 m),i3,i4⟩
theorem uM {b:List UInt8}:∀ (ps:List SParam) (v:Nat),(jd b ps v).1.length=ps.length∧∀ x∈(jd b ps v).1,x<256
 |[],v=>⟨rfl,by simp [jd]⟩
 |p::ps,v=>by
  obtain ⟨i1,i2⟩:=uM ps (v+1)
  unfold jd
  refine ⟨by simp only [List.length_cons];rw [i1],fun x hx=>?_⟩
  rcases List.mem_cons.1 hx with rfl|hx
  ·have:=dV (b:=b) (v:=v) (n:=256) (by decide)
   unfold low
   split
   ·exact this
   ·exact Nat.lt_of_le_of_lt (Nat.mod_le _ _) this
  ·exact i2 x hx
theorem mv {S:Sch} {n:Int} (h:1≤S.tables.length):eO S n∈S.tables:=by
 have hm1:=Int.emod_nonneg n (show ((S.tables.length:Nat):Int)≠0 by omega)
 have hm2:=Int.emod_lt_of_pos n (show (0:Int)<((S.tables.length:Nat):Int) by omega)
 have hmi:(n % ((S.tables.length:Nat):Int)).toNat<S.tables.length:=by omega
 unfold eO
 rw [List.getD_eq_getElem?_getD,List.getElem?_eq_getElem hmi]
 exact List.getElem_mem hmi
/-- what is so of generated entries -/
structure GE (S:Sch) (t:STable) (e:SEntry):Prop where
 tb:e.table=t.id
 ml:e.ms.length=t.keys.length
 mo:∀ m∈e.ms,GM m
 p0:0≤e.prio
 p1:e.prio≤5
 am:e.act∈t.actions
 al:e.args.length=(fu S.actions e.act).params.length
 ao:∀ x∈e.args,x<256
theorem Dd {S:Sch} (hG:GenS S) {b:List UInt8} {v:Nat} {n:Int}:GE S (eO S n) (fe S b v n).1:=by
 have ht:=mv (S:=S) (n:=n) hG.t1
 obtain ⟨i1,i2,i3,i4⟩:=mT (b:=b) (eO S n).keys v 0 (hG.kb _ ht) (by omega) (by omega)
 have hc:cv b (cJ S b (eO S n).keys v 0).2 (eO S n).actions.length<(eO S n).actions.length:=dV (by have:=(hG.a1 _ ht).1;omega)
 unfold fe
 dsimp only
 refine ⟨rfl,i1,i2,i3,i4,?_,(uM _ _).1,(uM _ _).2⟩
 dsimp only
 rw [List.getD_eq_getElem?_getD,List.getElem?_eq_getElem hc]
 exact List.getElem_mem hc
theorem GE.ok {S:Sch} {t:STable} {e:SEntry} (h:GE S t e) (h1:t.keys.length≤100) (h2:∀ a:Int,(fu S.actions a).params.length≤100):EOk e :=
 ⟨by have:=h.ml;omega,by have:=h.al;have:=h2 e.act;omega,fun m hm=>by have:=h.mo m hm;exact ⟨Nat.lt_of_lt_of_le this.v (by decide),Nat.lt_of_lt_of_le this.k (by decide),Nat.lt_of_lt_of_le this.h (by decide)⟩⟩
end Go.AL
