/- Lemmas of the proof; no condition. -/
import Derived.Test.YtjnhidpnfdbmaaaGreatS10n
set_option linter.all false
set_option maxRecDepth 10000
open Go Go.AL Go.Proofs
namespace Go.AL
theorem rS{P:SAction→Prop}(h0:P ⟨0,[],[],[],[]⟩):∀{l:List SAction}{a:Int},(∀ x∈l,P x)→P (gO l a)
 |[],_,_=>h0
 |x::l,a,h=>by
  unfold gO
  split
  ·exact h x List.mem_cons_self
  ·exact rS h0 fun y hy=>h y (List.mem_cons_of_mem _ hy)
theorem jY{b:List UInt8}{v:Nat}:∀ t∈cm b v,t.keys.length≤3∧(∀ k∈t.keys,1≤iw gFields k.field∧iw gFields k.field≤32∧(k.kind=2→16≤iw gFields k.field))∧1≤t.actions.length∧t.actions.length≤5:=by
 intro t ht
 simp only[cm,List.mem_cons,List.not_mem_nil,or_false]at ht
 rcases ht with rfl|rfl|rfl|rfl
 ·refine⟨by simp[jJ],fun k hk=>?_,by simp[jJ],by simp[jJ]⟩
  simp only[jJ,List.mem_cons,List.not_mem_nil,or_false]at hk
  subst hk
  decide
 ·refine⟨by simp only[lL];split<;>simp,fun k hk=>?_,by simp[lL],by simp[lL]⟩
  simp only[lL]at hk
  split at hk<;>simp only[List.cons_append,List.nil_append,List.append_nil,List.mem_cons,List.not_mem_nil,or_false]at hk
  ·rcases hk with rfl|rfl<;>decide
  ·subst hk;decide
 ·refine⟨by simp only[fh];split<;>simp,fun k hk=>?_,by simp[fh],by simp[fh]⟩
  simp only[fh]at hk
  split at hk<;>simp only[List.cons_append,List.nil_append,List.append_nil,List.mem_cons,List.not_mem_nil,or_false]at hk
  ·rcases hk with rfl|rfl|rfl<;>decide
  ·rcases hk with rfl|rfl<;>decide
 ·refine⟨by simp only[fk];split<;>simp,fun k hk=>?_,by simp[fk],by simp[fk]⟩
  simp only[fk]at hk
  split at hk<;>simp only[List.cons_append,List.nil_append,List.append_nil,List.mem_cons,List.not_mem_nil,or_false]at hk
  ·rcases hk with rfl|rfl|rfl<;>decide
  ·subst hk;decide
theorem vK{b:List UInt8}{v:Nat}:∀ a∈di b v,a.params.length≤4∧∀ p∈a.params,0≤p.bits∧p.bits≤1000:=by
 intro a ha
 simp only[di,List.mem_cons,List.not_mem_nil,or_false]at ha
 rcases ha with rfl|rfl|rfl|rfl|rfl|rfl<;>refine⟨Xb,fun p hp=>?_⟩<;>simp only[List.mem_cons,List.not_mem_nil,or_false]at hp<;>first|exact hp.elim|(subst hp;decide)|(rcases hp with rfl|rfl<;>decide)
theorem Gw(b:List UInt8)(v:Nat):GenS (bY b v).1 where
 fl:=(Xc:gFields.length≤1000)
 al:=by simp[bY,di]
 tl:=by simp[bY,cm]
 t1:=by simp[bY,cm]
 kl:=fun t ht=>by have:=(jY t ht).1;omega
 kb:=fun t ht=>(jY t ht).2.1
 a1:=fun t ht=>⟨(jY t ht).2.2.1,by have:=(jY t ht).2.2.2;omega⟩
 pl:=fun a=>rS (P:=fun x=>x.params.length≤100) Xc fun x hx=>by have:=(vK x hx).1;omega
 pb:=fun a=>rS (P:=fun x=>∀ p∈x.params,0≤p.bits∧p.bits≤1000) Xb fun x hx=>(vK x hx).2
def e0:SEntry:=⟨2,[⟨true,167772161,0,8,0⟩],0,0,[]⟩
theorem y5{b:List UInt8}:zod b 0=dV b (cp 0 0):=by
 unfold zod dV cp
 simp
structure GM(m:SMatch):Prop where
 v:m.value<2^32
 k:m.mask<2^32
 h:m.high<2^32
 p0:0≤m.pfx
 p1:m.pfx≤32
theorem Jm{b:List UInt8}{v:Nat}{w kind:Int}(h1:1≤w)(h2:w≤32)(h3:kind=2→16≤w):GM (cS b v w kind).1:=by
 have hX:=s9 (x:=sY b v) h1 h2
 have hno:GM cC:=⟨Xc,Xc,Xc,Xc,Xc⟩
 unfold cS
 dsimp only
 split
 ·rename_i hk
  have:=GU (b:=b) (u:=v+4) (h3 hk)
  split
  ·exact⟨Nat.lt_of_le_of_lt Nat.and_le_left hX,Xp,Xp,Xf,Xf⟩
  ·exact hno
 ·split
  ·split
   ·exact⟨Nat.lt_of_le_of_lt Nat.and_le_left hX,s9 h1 h2,Xp,Xp,Xp⟩
   ·exact hno
  ·split
   ·split
    ·refine⟨hX,Xp,?_,Xp,Xp⟩
     dsimp only
     unfold rO
     have:2^w.toNat≤2^32:=Nat.pow_le_pow_right Xc Xa
     have:=Nat.two_pow_pos w.toNat
     omega
    ·exact hno
   ·exact⟨hX,Xp,Xp,Xp,Xp⟩
theorem pU{S:Sch}{b:List UInt8}:∀(ks:List SKey)(v:Nat)(p:Int),(∀ k∈ks,1≤cV S k.field∧cV S k.field≤32∧(k.kind=2→16≤cV S k.field))→0≤p→p≤5 →
 (c7 S b ks v p).1.1.length=ks.length∧(∀ m∈(c7 S b ks v p).1.1,GM m)∧0≤(c7 S b ks v p).1.2∧(c7 S b ks v p).1.2≤5
 |[],v,p,_,h1,h2=>⟨rfl,by simp[c7],h1,h2⟩
 |k::ks,v,p,h,h1,h2=>by
  obtain⟨g1,g2,g3⟩:=h k List.mem_cons_self
  have hm:=Jm (b:=b) (v:=v) g1 g2 g3
  have hc:=eW (b:=b) (v:=(cS b v (cV S k.field) k.kind).2) (n:=5) Xc
  unfold c7
  dsimp only
  by_cases hk:k.kind=3∨k.kind=4
  ·simp only[if_pos hk]
   obtain⟨i1,i2,i3,i4⟩:=pU ks ((cS b v (cV S k.field) k.kind).2+1) (1+ci b (cS b v (cV S k.field) k.kind).2 5) (fun x hx=>h x (List.mem_cons_of_mem _ hx)) (by unfold ci;omega) (by unfold ci;omega)
   exact V152
  ·simp only[if_neg hk]
   obtain⟨i1,i2,i3,i4⟩:=pU ks (cS b v (cV S k.field) k.kind).2 p (fun x hx=>h x (List.mem_cons_of_mem _ hx)) h1 h2
   exact V152
theorem xF{b:List UInt8}:∀(ps:List SParam)(v:Nat),(kV b ps v).1.length=ps.length∧∀ x∈(kV b ps v).1,x<256
 |[],v=>⟨rfl,by simp[kV]⟩
 |p::ps,v=>by
  obtain⟨i1,i2⟩:=xF ps (v+1)
  unfold kV
  refine⟨by simp only[List.length_cons];rw[i1],fun x hx=>?_⟩
  rcases List.mem_cons.1 hx with rfl|hx
  ·have:=eW (b:=b) (v:=v) (n:=256) Xc
   unfold low
   split
   ·exact this
   ·exact Nat.lt_of_le_of_lt (Nat.mod_le _ _) this
  ·exact i2 x hx
theorem ln{S:Sch}{n:Int}(h:1≤S.tables.length):fH S n∈S.tables:=by
 have hm1:=Int.emod_nonneg n (show((S.tables.length:Nat):Int)≠0 by omega)
 have hm2:=Int.emod_lt_of_pos n (show(0:Int)<((S.tables.length:Nat):Int) by omega)
 have hmi:(n%((S.tables.length:Nat):Int)).toNat<S.tables.length:=Xa
 unfold fH
 exact V156
structure GE(S:Sch)(t:STable)(e:SEntry):Prop where
 tb:e.table=t.id
 ml:e.ms.length=t.keys.length
 mo:∀ m∈e.ms,GM m
 p0:0≤e.prio
 p1:e.prio≤5
 am:e.act∈t.actions
 al:e.args.length=(gO S.actions e.act).params.length
 ao:∀ x∈e.args,x<256
theorem Io{S:Sch}(hG:GenS S){b:List UInt8}{v:Nat}{n:Int}:GE S (fH S n) (kA S b v n).1:=by
 have ht:=ln (S:=S) (n:=n) hG.t1
 obtain⟨i1,i2,i3,i4⟩:=pU (b:=b) (fH S n).keys v 0 (hG.kb _ ht) Xa Xa
 have hc:cv b (c7 S b (fH S n).keys v 0).2 (fH S n).actions.length<(fH S n).actions.length:=eW (by have:=(hG.a1 _ ht).1;omega)
 unfold kA
 dsimp only
 refine⟨rfl,i1,i2,i3,i4,?_,(xF _ _).1,(xF _ _).2⟩
 dsimp only
 rw[gEq,gQq hc]
 exact gMq hc
theorem GE.ok{S:Sch}{t:STable}{e:SEntry}(h:GE S t e)(h1:t.keys.length≤100)(h2:∀ a:Int,(gO S.actions a).params.length≤100):EOk e :=
 ⟨by have:=h.ml;omega,by have:=h.al;have:=h2 e.act;omega,fun m hm=>by have:=h.mo m hm;exact⟨Nat.lt_of_lt_of_le this.v Xc,Nat.lt_of_lt_of_le this.k Xc,Nat.lt_of_lt_of_le this.h Xc⟩⟩
end Go.AL
