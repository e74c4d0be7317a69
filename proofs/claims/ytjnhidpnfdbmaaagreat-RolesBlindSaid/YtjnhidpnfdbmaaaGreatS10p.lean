/- Lemmas of the proof; no condition. -/
import Derived.Test.YtjnhidpnfdbmaaaGreatS10n
set_option linter.all false
set_option maxRecDepth 10000
open Go Go.AL Go.Proofs
namespace Go.AL
theorem oM {P:SAction→Prop} (h0:P ⟨0,[],[],[],[]⟩):∀ {l:List SAction} {a:Int},(∀ x∈l,P x)→P (eX l a)
 |[],_,_=>h0
 |x::l,a,h=>by
  unfold eX
  split
  ·exact h x List.mem_cons_self
  ·exact oM h0 fun y hy=>h y (List.mem_cons_of_mem _ hy)
theorem gV {b:List UInt8} {v:Nat}:∀ t∈bD b v,t.keys.length≤3∧(∀ k∈t.keys,1≤io gFields k.field∧io gFields k.field≤32∧(k.kind=2→16≤io gFields k.field))∧1≤t.actions.length∧t.actions.length≤5:=by
 intro t ht
 simp only [bD,List.mem_cons,List.not_mem_nil,or_false] at ht
 rcases ht with rfl|rfl|rfl|rfl
 ·refine ⟨by simp [ib],fun k hk=>?_,by simp [ib],by simp [ib]⟩
  simp only [ib,List.mem_cons,List.not_mem_nil,or_false] at hk
  subst hk
  decide
 ·refine ⟨by simp only [jp];split<;>simp,fun k hk=>?_,by simp [jp],by simp [jp]⟩
  simp only [jp] at hk
  split at hk<;>simp only [List.cons_append,List.nil_append,List.append_nil,List.mem_cons,List.not_mem_nil,or_false] at hk
  ·rcases hk with rfl|rfl<;>decide
  ·subst hk;decide
 ·refine ⟨by simp only [dn];split<;>simp,fun k hk=>?_,by simp [dn],by simp [dn]⟩
  simp only [dn] at hk
  split at hk<;>simp only [List.cons_append,List.nil_append,List.append_nil,List.mem_cons,List.not_mem_nil,or_false] at hk
  ·rcases hk with rfl|rfl|rfl<;>decide
  ·rcases hk with rfl|rfl<;>decide
 ·refine ⟨by simp only [dt];split<;>simp,fun k hk=>?_,by simp [dt],by simp [dt]⟩
  simp only [dt] at hk
  split at hk<;>simp only [List.cons_append,List.nil_append,List.append_nil,List.mem_cons,List.not_mem_nil,or_false] at hk
  ·rcases hk with rfl|rfl|rfl<;>decide
  ·subst hk;decide
theorem rO {b:List UInt8} {v:Nat}:∀ a∈cB b v,a.params.length≤4∧∀ p∈a.params,0≤p.bits∧p.bits≤1000:=by
 intro a ha
 simp only [cB,List.mem_cons,List.not_mem_nil,or_false] at ha
 rcases ha with rfl|rfl|rfl|rfl|rfl|rfl<;>refine ⟨by simp,fun p hp=>?_⟩<;>simp only [List.mem_cons,List.not_mem_nil,or_false] at hp<;>first|exact hp.elim|(subst hp;decide)|(rcases hp with rfl|rfl<;>decide)
theorem Bz (b:List UInt8) (v:Nat):GenS (bw b v).1 where
 fl:=(by decide:gFields.length≤1000)
 al:=by simp [bw,cB]
 tl:=by simp [bw,bD]
 t1:=by simp [bw,bD]
 kl:=fun t ht=>by have:=(gV t ht).1;omega
 kb:=fun t ht=>(gV t ht).2.1
 a1:=fun t ht=>⟨(gV t ht).2.2.1,by have:=(gV t ht).2.2.2;omega⟩
 pl:=fun a=>oM (P:=fun x=>x.params.length≤100) (by decide) fun x hx=>by have:=(rO x hx).1;omega
 pb:=fun a=>oM (P:=fun x=>∀ p∈x.params,0≤p.bits∧p.bits≤1000) (by simp) fun x hx=>(rO x hx).2
def e0:SEntry:=⟨2,[⟨true,167772161,0,8,0⟩],0,0,[]⟩
theorem ua {b:List UInt8}:zod b 0=cL b (cp 0 0):=by
 unfold zod cL cp
 simp
structure GM (m:SMatch):Prop where
 v:m.value<2^32
 k:m.mask<2^32
 h:m.high<2^32
 p0:0≤m.pfx
 p1:m.pfx≤32
theorem DX {b:List UInt8} {v:Nat} {w kind:Int} (h1:1≤w) (h2:w≤32) (h3:kind=2→16≤w):GM (cg b v w kind).1:=by
 have hX:=oZ (x:=pt b v) h1 h2
 have hno:GM cA:=⟨by decide,by decide,by decide,by decide,by decide⟩
 unfold cg
 dsimp only
 split
 ·rename_i hk
  have:=Cl (b:=b) (u:=v+4) (h3 hk)
  split
  ·exact ⟨Nat.lt_of_le_of_lt Nat.and_le_left hX,by dsimp only;decide,by dsimp only;decide,by dsimp only;omega,by dsimp only;omega⟩
  ·exact hno
 ·split
  ·split
   ·exact ⟨Nat.lt_of_le_of_lt Nat.and_le_left hX,oZ h1 h2,by dsimp only;decide,by dsimp only;decide,by dsimp only;decide⟩
   ·exact hno
  ·split
   ·split
    ·refine ⟨hX,by dsimp only;decide,?_,by dsimp only;decide,by dsimp only;decide⟩
     dsimp only
     unfold nT
     have:2^w.toNat≤2^32:=Nat.pow_le_pow_right (by decide) (by omega)
     have:=Nat.two_pow_pos w.toNat
     omega
    ·exact hno
   ·exact ⟨hX,by dsimp only;decide,by dsimp only;decide,by dsimp only;decide,by dsimp only;decide⟩
theorem mY {S:Sch} {b:List UInt8}:∀ (ks:List SKey) (v:Nat) (p:Int),(∀ k∈ks,1≤cO S k.field∧cO S k.field≤32∧(k.kind=2→16≤cO S k.field))→0≤p→p≤5 →
 (cx S b ks v p).1.1.length=ks.length∧(∀ m∈(cx S b ks v p).1.1,GM m)∧0≤(cx S b ks v p).1.2∧(cx S b ks v p).1.2≤5
 |[],v,p,_,h1,h2=>⟨rfl,by simp [cx],h1,h2⟩
 |k::ks,v,p,h,h1,h2=>by
  obtain ⟨g1,g2,g3⟩:=h k List.mem_cons_self
  have hm:=DX (b:=b) (v:=v) g1 g2 g3
  have hc:=c8 (b:=b) (v:=(cg b v (cO S k.field) k.kind).2) (n:=5) (by decide)
  unfold cx
  dsimp only
  by_cases hk:k.kind=3∨k.kind=4
  ·simp only [if_pos hk]
   obtain ⟨i1,i2,i3,i4⟩:=mY ks ((cg b v (cO S k.field) k.kind).2+1) (1+ci b (cg b v (cO S k.field) k.kind).2 5) (fun x hx=>h x (List.mem_cons_of_mem _ hx)) (by unfold ci;omega) (by unfold ci;omega)
   exact ⟨by simp [i1],fun m hm'=>(List.mem_cons.1 hm').elim (fun e=>e ▸ hm) (i2 m),i3,i4⟩
  ·simp only [if_neg hk]
   obtain ⟨i1,i2,i3,i4⟩:=mY ks (cg b v (cO S k.field) k.kind).2 p (fun x hx=>h x (List.mem_cons_of_mem _ hx)) h1 h2
   exact ⟨by simp [i1],fun m hm'=>(List.mem_cons.1 hm').elim (fun e=>e ▸ hm) (i2 m),i3,i4⟩
theorem uH {b:List UInt8}:∀ (ps:List SParam) (v:Nat),(jj b ps v).1.length=ps.length∧∀ x∈(jj b ps v).1,x<256
 |[],v=>⟨rfl,by simp [jj]⟩
 |p::ps,v=>by
  obtain ⟨i1,i2⟩:=uH ps (v+1)
  unfold jj
  refine ⟨by simp only [List.length_cons];rw [i1],fun x hx=>?_⟩
  rcases List.mem_cons.1 hx with rfl|hx
  ·have:=c8 (b:=b) (v:=v) (n:=256) (by decide)
   unfold low
   split
   ·exact this
   ·exact Nat.lt_of_le_of_lt (Nat.mod_le _ _) this
  ·exact i2 x hx
theorem kh {S:Sch} {n:Int} (h:1≤S.tables.length):dT S n∈S.tables:=by
 have hm1:=Int.emod_nonneg n (show ((S.tables.length:Nat):Int)≠0 by omega)
 have hm2:=Int.emod_lt_of_pos n (show (0:Int)<((S.tables.length:Nat):Int) by omega)
 have hmi:(n % ((S.tables.length:Nat):Int)).toNat<S.tables.length:=by omega
 unfold dT
 rw [gEq,gQq hmi]
 exact gMq hmi
structure GE (S:Sch) (t:STable) (e:SEntry):Prop where
 tb:e.table=t.id
 ml:e.ms.length=t.keys.length
 mo:∀ m∈e.ms,GM m
 p0:0≤e.prio
 p1:e.prio≤5
 am:e.act∈t.actions
 al:e.args.length=(eX S.actions e.act).params.length
 ao:∀ x∈e.args,x<256
theorem wm {S:Sch} (hG:GenS S) {b:List UInt8} {v:Nat} {n:Int}:GE S (dT S n) (iw S b v n).1:=by
 have ht:=kh (S:=S) (n:=n) hG.t1
 obtain ⟨i1,i2,i3,i4⟩:=mY (b:=b) (dT S n).keys v 0 (hG.kb _ ht) (by omega) (by omega)
 have hc:cv b (cx S b (dT S n).keys v 0).2 (dT S n).actions.length<(dT S n).actions.length:=c8 (by have:=(hG.a1 _ ht).1;omega)
 unfold iw
 dsimp only
 refine ⟨rfl,i1,i2,i3,i4,?_,(uH _ _).1,(uH _ _).2⟩
 dsimp only
 rw [gEq,gQq hc]
 exact gMq hc
theorem GE.ok {S:Sch} {t:STable} {e:SEntry} (h:GE S t e) (h1:t.keys.length≤100) (h2:∀ a:Int,(eX S.actions a).params.length≤100):EOk e :=
 ⟨by have:=h.ml;omega,by have:=h.al;have:=h2 e.act;omega,fun m hm=>by have:=h.mo m hm;exact ⟨Nat.lt_of_lt_of_le this.v (by decide),Nat.lt_of_lt_of_le this.k (by decide),Nat.lt_of_lt_of_le this.h (by decide)⟩⟩
end Go.AL
