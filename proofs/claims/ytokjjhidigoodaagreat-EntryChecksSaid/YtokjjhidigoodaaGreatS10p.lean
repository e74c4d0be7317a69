/- Lemmas of the proof; no condition. -/
import Derived.Test.YtokjjhidigoodaaGreatS10n
set_option linter.all false
set_option maxRecDepth 10000
open Go Go.AL Go.Proofs
namespace Go.AL
theorem qY {P:SAction→Prop} (h0:P ⟨0,[],[],[],[]⟩):∀ {l:List SAction} {a:Int},(∀ x∈l,P x)→P (gm l a)
 |[],_,_=>h0
 |x::l,a,h=>by
  unfold gm
  split
  ·exact h x List.mem_cons_self
  ·exact qY h0 fun y hy=>h y (List.mem_cons_of_mem _ hy)
theorem kS {b:List UInt8} {v:Nat}:∀ t∈cK b v,t.keys.length≤3∧(∀ k∈t.keys,1≤gR gFields k.field∧gR gFields k.field≤32∧(k.kind=2→16≤gR gFields k.field))∧1≤t.actions.length∧t.actions.length≤5:=by
 intro t ht
 simp only [cK,List.mem_cons,List.not_mem_nil,or_false] at ht
 rcases ht with rfl|rfl|rfl|rfl
 ·refine ⟨by simp [jZ],fun k hk=>?_,by simp [jZ],by simp [jZ]⟩
  simp only [jZ,List.mem_cons,List.not_mem_nil,or_false] at hk
  subst hk
  decide
 ·refine ⟨by simp only [mh];split<;>simp,fun k hk=>?_,by simp [mh],by simp [mh]⟩
  simp only [mh] at hk
  split at hk<;>simp only [List.cons_append,List.nil_append,List.append_nil,List.mem_cons,List.not_mem_nil,or_false] at hk
  ·rcases hk with rfl|rfl<;>decide
  ·subst hk;decide
 ·refine ⟨by simp only [fk];split<;>simp,fun k hk=>?_,by simp [fk],by simp [fk]⟩
  simp only [fk] at hk
  split at hk<;>simp only [List.cons_append,List.nil_append,List.append_nil,List.mem_cons,List.not_mem_nil,or_false] at hk
  ·rcases hk with rfl|rfl|rfl<;>decide
  ·rcases hk with rfl|rfl<;>decide
 ·refine ⟨by simp only [fj];split<;>simp,fun k hk=>?_,by simp [fj],by simp [fj]⟩
  simp only [fj] at hk
  split at hk<;>simp only [List.cons_append,List.nil_append,List.append_nil,List.mem_cons,List.not_mem_nil,or_false] at hk
  ·rcases hk with rfl|rfl|rfl<;>decide
  ·subst hk;decide
theorem uy {b:List UInt8} {v:Nat}:∀ a∈c6 b v,a.params.length≤4∧∀ p∈a.params,0≤p.bits∧p.bits≤1000:=by
 intro a ha
 simp only [c6,List.mem_cons,List.not_mem_nil,or_false] at ha
 rcases ha with rfl|rfl|rfl|rfl|rfl|rfl<;>refine ⟨by simp,fun p hp=>?_⟩<;>simp only [List.mem_cons,List.not_mem_nil,or_false] at hp<;>first|exact hp.elim|(subst hp;decide)|(rcases hp with rfl|rfl<;>decide)
theorem zL (b:List UInt8) (v:Nat):GenS (dn b v).1 where
 fl:=(by decide:gFields.length≤1000)
 al:=by simp [dn,c6]
 tl:=by simp [dn,cK]
 t1:=by simp [dn,cK]
 kl:=fun t ht=>by have:=(kS t ht).1;omega
 kb:=fun t ht=>(kS t ht).2.1
 a1:=fun t ht=>⟨(kS t ht).2.2.1,by have:=(kS t ht).2.2.2;omega⟩
 pl:=fun a=>qY (P:=fun x=>x.params.length≤100) (by decide) fun x hx=>by have:=(uy x hx).1;omega
 pb:=fun a=>qY (P:=fun x=>∀ p∈x.params,0≤p.bits∧p.bits≤1000) (by simp) fun x hx=>(uy x hx).2
def e0:SEntry:=⟨2,[⟨true,167772161,0,8,0⟩],0,0,[]⟩
theorem BP:fY (dn [] 0).1 e0=5:=by decide +kernel
theorem Ab:uR ⟨true,167772160,0,8,0⟩ 2 32 167838211=true:=by decide +kernel
theorem xk {b:List UInt8}:zod b 0=dZ b (cp 0 0):=by
 unfold zod dZ cp
 simp
def tI:List AV→AHeap→(AV→Prop)→Prop
 |[],_,K=>K (.bool true)
 |_,_,_=>False
set_option maxHeartbeats 2000000 in
theorem Ds:EntOk Tryz.prog 27 (Ent.pure tI):=by
 refine Ype fun _ H K h=>?_
 unfold tI at h
 split at h
 rotate_left
 ·exact h.elim
 refine ⟨_,h,?_⟩
 clear h
 have hG:=zL [] 0
 have hbc:=BP
 have hbo:=Ab
 generalize hS:(dn [] 0).1=S at *
 refine ACalls.fW ax (tCq Fm (tCq wy (tCq nJ (tCq DY tNq)))) Tryz.func27 [.tmp 0] (nrq _) (T:=av [(3,[[16]])]) (h:=fun hcl hlt=>?_)
 clear hlt
 have hze:zod ([]:List UInt8) 0=dZ [] (cp 0 0):=xk
 have hS':rT (dn [] 0).1=.agg (bv S):=by rw [hS];rfl
 simp only [go_sem,nh]
 refine ⟨[],⟨rfl,by omega⟩,?_⟩
 simp only [bp,aM,bhq,Nat.reduceMod,Nat.reduceDiv,aD,aE,aF,bf,aG,bc,aZ,bb,a9,List.take_succ_cons,List.take_zero,List.drop_succ_cons,List.drop_zero,go_sem,nh,kU,eG,List.take_nil,hze,bu (b:=[]) (by decide),List.length_nil,Nat.min_zero,hS',bv]
 refine im 12 (cJ e0) ?_ ?_
 ·simp [Fr.get,cJ,bG,e0,aQ,bE,vc,AV.cells,j6,cw,cx,cQ,fu,cP,jg,jk,wkM]
 simp only [bp,aM,bhq,Nat.reduceMod,Nat.reduceDiv,aD,aE,aF,bf,aG,bc,aZ,bb,a9,List.take_succ_cons,List.take_zero,List.drop_succ_cons,List.drop_zero,go_sem,nh,kU,eG,List.take_nil,hze,bu (b:=[]) (by decide),List.length_nil,Nat.min_zero,hS',bv,cJ,bG,ku]
 refine ⟨S,e0,⟨rfl,rfl,by have:=hG.tl;omega,by have:=hG.fl;omega,fun t ht=>by have:=hG.kl t ht;omega,⟨by decide,by decide,?_⟩⟩,?_⟩
 ·intro m hm
  simp only [e0,List.mem_cons,List.not_mem_nil,or_false] at hm
  subst hm
  exact ⟨by decide,by decide,by decide⟩
 rw [hbc]
 simp only [bp,aM,bhq,Nat.reduceMod,Nat.reduceDiv,aD,aE,aF,bf,aG,bc,aZ,bb,a9,List.take_succ_cons,List.take_zero,List.drop_succ_cons,List.drop_zero,go_sem,nh,kU,eG,List.take_nil,hze,bu (b:=[]) (by decide),List.length_nil,Nat.min_zero,hS',bv,tD]
 refine ⟨⟨true,167772160,0,8,0⟩,⟨rfl,⟨by decide,by decide,by decide⟩,by unfold isV;decide⟩,?_⟩
 rw [gB,hbo]
 refine bx (fun _=>?_) (fun h=>by cases h)
 rw [show ((5:Int)==5)=true from rfl]
 simp (disch:=first|exact Zd|omega) [↓zmk,beq,List.take_of_length_le,List.drop_append,List.take_append,af,wk,wk2,wk1,wkM,wkL,aj,List.drop_eq_nil_of_le,hcl]
 try exact Y18
structure GM (m:SMatch):Prop where
 v:m.value<2^32
 k:m.mask<2^32
 h:m.high<2^32
 p0:0≤m.pfx
 p1:m.pfx≤32
theorem GI {b:List UInt8} {v:Nat} {w kind:Int} (h1:1≤w) (h2:w≤32) (h3:kind=2→16≤w):GM (cN b v w kind).1:=by
 have hX:=sv (x:=sL b v) h1 h2
 have hno:GM cu:=⟨by decide,by decide,by decide,by decide,by decide⟩
 unfold cN
 dsimp only
 split
 ·rename_i hk
  have:=E9 (b:=b) (u:=v+4) (h3 hk)
  split
  ·exact ⟨Nat.lt_of_le_of_lt Nat.and_le_left hX,by dsimp only;decide,by dsimp only;decide,by dsimp only;omega,by dsimp only;omega⟩
  ·exact hno
 ·split
  ·split
   ·exact ⟨Nat.lt_of_le_of_lt Nat.and_le_left hX,sv h1 h2,by dsimp only;decide,by dsimp only;decide,by dsimp only;decide⟩
   ·exact hno
  ·split
   ·split
    ·refine ⟨hX,by dsimp only;decide,?_,by dsimp only;decide,by dsimp only;decide⟩
     dsimp only
     unfold qo
     have:2^w.toNat≤2^32:=Nat.pow_le_pow_right (by decide) (by omega)
     have:=Nat.two_pow_pos w.toNat
     omega
    ·exact hno
   ·exact ⟨hX,by dsimp only;decide,by dsimp only;decide,by dsimp only;decide,by dsimp only;decide⟩
theorem oa {S:Sch} {b:List UInt8}:∀ (ks:List SKey) (v:Nat) (p:Int),(∀ k∈ks,1≤cR S k.field∧cR S k.field≤32∧(k.kind=2→16≤cR S k.field))→0≤p→p≤5 →
 (cX S b ks v p).1.1.length=ks.length∧(∀ m∈(cX S b ks v p).1.1,GM m)∧0≤(cX S b ks v p).1.2∧(cX S b ks v p).1.2≤5
 |[],v,p,_,h1,h2=>⟨rfl,by simp [cX],h1,h2⟩
 |k::ks,v,p,h,h1,h2=>by
  obtain ⟨g1,g2,g3⟩:=h k List.mem_cons_self
  have hm:=GI (b:=b) (v:=v) g1 g2 g3
  have hc:=eR (b:=b) (v:=(cN b v (cR S k.field) k.kind).2) (n:=5) (by decide)
  unfold cX
  dsimp only
  by_cases hk:k.kind=3∨k.kind=4
  ·simp only [if_pos hk]
   obtain ⟨i1,i2,i3,i4⟩:=oa ks ((cN b v (cR S k.field) k.kind).2+1) (1+ci b (cN b v (cR S k.field) k.kind).2 5) (fun x hx=>h x (List.mem_cons_of_mem _ hx)) (by unfold ci;omega) (by unfold ci;omega)
   exact Y151
  ·simp only [if_neg hk]
   obtain ⟨i1,i2,i3,i4⟩:=oa ks (cN b v (cR S k.field) k.kind).2 p (fun x hx=>h x (List.mem_cons_of_mem _ hx)) h1 h2
   exact Y151
theorem wU {b:List UInt8}:∀ (ps:List SParam) (v:Nat),(kz b ps v).1.length=ps.length∧∀ x∈(kz b ps v).1,x<256
 |[],v=>⟨rfl,by simp [kz]⟩
 |p::ps,v=>by
  obtain ⟨i1,i2⟩:=wU ps (v+1)
  unfold kz
  refine ⟨by simp only [List.length_cons];rw [i1],fun x hx=>?_⟩
  rcases List.mem_cons.1 hx with rfl|hx
  ·have:=eR (b:=b) (v:=v) (n:=256) (by decide)
   unfold low
   split
   ·exact this
   ·exact Nat.lt_of_le_of_lt (Nat.mod_le _ _) this
  ·exact i2 x hx
theorem md {S:Sch} {n:Int} (h:1≤S.tables.length):fM S n∈S.tables:=by
 have hm1:=Int.emod_nonneg n (show ((S.tables.length:Nat):Int)≠0 by omega)
 have hm2:=Int.emod_lt_of_pos n (show (0:Int)<((S.tables.length:Nat):Int) by omega)
 have hmi:(n % ((S.tables.length:Nat):Int)).toNat<S.tables.length:=by omega
 unfold fM
 exact Y155
structure GE (S:Sch) (t:STable) (e:SEntry):Prop where
 tb:e.table=t.id
 ml:e.ms.length=t.keys.length
 mo:∀ m∈e.ms,GM m
 p0:0≤e.prio
 p1:e.prio≤5
 am:e.act∈t.actions
 al:e.args.length=(gm S.actions e.act).params.length
 ao:∀ x∈e.args,x<256
theorem F7 {S:Sch} (hG:GenS S) {b:List UInt8} {v:Nat} {n:Int}:GE S (fM S n) (kC S b v n).1:=by
 have ht:=md (S:=S) (n:=n) hG.t1
 obtain ⟨i1,i2,i3,i4⟩:=oa (b:=b) (fM S n).keys v 0 (hG.kb _ ht) (by omega) (by omega)
 have hc:cv b (cX S b (fM S n).keys v 0).2 (fM S n).actions.length<(fM S n).actions.length:=eR (by have:=(hG.a1 _ ht).1;omega)
 unfold kC
 dsimp only
 refine ⟨rfl,i1,i2,i3,i4,?_,(wU _ _).1,(wU _ _).2⟩
 dsimp only
 rw [gEq,gQq hc]
 exact gMq hc
theorem GE.ok {S:Sch} {t:STable} {e:SEntry} (h:GE S t e) (h1:t.keys.length≤100) (h2:∀ a:Int,(gm S.actions a).params.length≤100):EOk e :=
 ⟨by have:=h.ml;omega,by have:=h.al;have:=h2 e.act;omega,fun m hm=>by have:=h.mo m hm;exact ⟨Nat.lt_of_lt_of_le this.v (by decide),Nat.lt_of_lt_of_le this.k (by decide),Nat.lt_of_lt_of_le this.h (by decide)⟩⟩
end Go.AL
