/- Contracts and plain laws, a part of the proof; no condition of its own. -/
import Derived.Test.YtepgdamgklfnmaaGreatS10o
open Go Go.AL Go.Proofs
namespace Go.AL
set_option linter.all false
set_option maxRecDepth 10000

/-- what is so of generated matches -/
structure GM (m:SMatch):Prop where
  v:m.value<2^32
  k:m.mask<2^32
  h:m.high<2^32
  p0:0≤m.pfx
  p1:m.pfx≤32
theorem gMatch_ok {b:List UInt8} {v:Nat} {w kind:Int} (h1:1≤w) (h2:w≤32) (h3:kind=2→16≤w):GM (gMatch b v w kind).1:=by
  have hX:=low_lt32 (x:=gNum b v) h1 h2
  have hno:GM noMatch:=⟨by decide,by decide,by decide,by decide,by decide⟩
  unfold gMatch
  dsimp only
  split
  · rename_i hk
    have:=gPfx_in (b:=b) (u:=v+4) (h3 hk)
    split
    · exact ⟨Nat.lt_of_le_of_lt Nat.and_le_left hX,by dsimp only;decide,by dsimp only;decide,by dsimp only;omega,by dsimp only;omega⟩
    · exact hno
  · split
    · split
      · exact ⟨Nat.lt_of_le_of_lt Nat.and_le_left hX,low_lt32 h1 h2,by dsimp only;decide,by dsimp only;decide,by dsimp only;decide⟩
      · exact hno
    · split
      · split
        · refine ⟨hX,by dsimp only;decide,?_,by dsimp only;decide,by dsimp only;decide⟩
          dsimp only
          unfold gHigh
          have:2^w.toNat≤2^32:=Nat.pow_le_pow_right (by decide) (by omega)
          have:=Nat.two_pow_pos w.toNat
          omega
        · exact hno
      · exact ⟨hX,by dsimp only;decide,by dsimp only;decide,by dsimp only;decide,by dsimp only;decide⟩
theorem gMatches_ok {S:Sch} {b:List UInt8}:∀ (ks:List SKey) (v:Nat) (p:Int),(∀ k∈ks,1≤bitsF S k.field∧bitsF S k.field≤32∧(k.kind=2→16≤bitsF S k.field))→0≤p→p≤5 →
    (gMatches S b ks v p).1.1.length=ks.length∧(∀ m∈(gMatches S b ks v p).1.1,GM m)∧0≤(gMatches S b ks v p).1.2∧(gMatches S b ks v p).1.2≤5
  | [],v,p,_,h1,h2=>⟨rfl,by simp [gMatches],h1,h2⟩
  | k::ks,v,p,h,h1,h2=>by
    obtain ⟨g1,g2,g3⟩:=h k List.mem_cons_self
    have hm:=gMatch_ok (b:=b) (v:=v) g1 g2 g3
    have hc:=cv_lt (b:=b) (v:=(gMatch b v (bitsF S k.field) k.kind).2) (n:=5) (by decide)
    unfold gMatches
    dsimp only
    by_cases hk:k.kind=3∨k.kind=4
    · simp only [if_pos hk]
      obtain ⟨i1,i2,i3,i4⟩:=gMatches_ok ks ((gMatch b v (bitsF S k.field) k.kind).2+1) (1+ci b (gMatch b v (bitsF S k.field) k.kind).2 5) (fun x hx=>h x (List.mem_cons_of_mem _ hx)) (by unfold ci;omega) (by unfold ci;omega)
      exact ⟨by simp [i1],fun m hm'=>(List.mem_cons.1 hm').elim (fun e=>e ▸ hm) (i2 m),i3,i4⟩
    · simp only [if_neg hk]
      obtain ⟨i1,i2,i3,i4⟩:=gMatches_ok ks (gMatch b v (bitsF S k.field) k.kind).2 p (fun x hx=>h x (List.mem_cons_of_mem _ hx)) h1 h2
      exact ⟨by simp [i1],fun m hm'=>(List.mem_cons.1 hm').elim (fun e=>e ▸ hm) (i2 m),i3,i4⟩
theorem gArgs_ok {b:List UInt8}:∀ (ps:List SParam) (v:Nat),(gArgs b ps v).1.length=ps.length∧∀ x∈(gArgs b ps v).1,x<256
  | [],v=>⟨rfl,by simp [gArgs]⟩
  | p::ps,v=>by
    obtain ⟨i1,i2⟩:=gArgs_ok ps (v+1)
    unfold gArgs
    refine ⟨by simp only [List.length_cons];rw [i1],fun x hx=>?_⟩
    rcases List.mem_cons.1 hx with rfl | hx
    · have:=cv_lt (b:=b) (v:=v) (n:=256) (by decide)
      unfold low
      split
      · exact this
      · exact Nat.lt_of_le_of_lt (Nat.mod_le _ _) this
    · exact i2 x hx
theorem tableAt_mem {S:Sch} {n:Int} (h:1≤S.tables.length):tableAt S n∈S.tables:=by
  have hm1:=Int.emod_nonneg n (show ((S.tables.length:Nat):Int)≠0 by omega)
  have hm2:=Int.emod_lt_of_pos n (show (0:Int)<((S.tables.length:Nat):Int) by omega)
  have hmi:(n % ((S.tables.length:Nat):Int)).toNat<S.tables.length:=by omega
  unfold tableAt
  rw [List.getD_eq_getElem?_getD,List.getElem?_eq_getElem hmi]
  exact List.getElem_mem hmi
/-- what is so of generated entries -/
structure GE (S:Sch) (t:STable) (e:SEntry):Prop where
  tb:e.table=t.id
  ml:e.ms.length=t.keys.length
  mo:∀ m∈e.ms,GM m
  p0:0≤e.prio
  p1:e.prio≤5
  am:e.act∈t.actions
  al:e.args.length=(actionL S.actions e.act).params.length
  ao:∀ x∈e.args,x<256
theorem gEntry_ok {S:Sch} (hG:GenS S) {b:List UInt8} {v:Nat} {n:Int}:GE S (tableAt S n) (gEntry S b v n).1:=by
  have ht:=tableAt_mem (S:=S) (n:=n) hG.t1
  obtain ⟨i1,i2,i3,i4⟩:=gMatches_ok (b:=b) (tableAt S n).keys v 0 (hG.kb _ ht) (by omega) (by omega)
  have hc:cv b (gMatches S b (tableAt S n).keys v 0).2 (tableAt S n).actions.length<(tableAt S n).actions.length:=cv_lt (by have:=(hG.a1 _ ht).1;omega)
  unfold gEntry
  dsimp only
  refine ⟨rfl,i1,i2,i3,i4,?_,(gArgs_ok _ _).1,(gArgs_ok _ _).2⟩
  dsimp only
  rw [List.getD_eq_getElem?_getD,List.getElem?_eq_getElem hc]
  exact List.getElem_mem hc
theorem GE.ok {S:Sch} {t:STable} {e:SEntry} (h:GE S t e) (h1:t.keys.length≤100) (h2:∀ a:Int,(actionL S.actions a).params.length≤100):EOk e :=
  ⟨by have:=h.ml;omega,by have:=h.al;have:=h2 e.act;omega,fun m hm=>by have:=h.mo m hm;exact ⟨Nat.lt_of_lt_of_le this.v (by decide),Nat.lt_of_lt_of_le this.k (by decide),Nat.lt_of_lt_of_le this.h (by decide)⟩⟩
/-- the four tables -/
structure TabS (S:Sch):Prop where
  uq:∀ t∈S.tables,tabF S t.id=some t
  k4:∀ t∈S.tables,t.keys.length≤3
  b2:∀ t∈S.tables,∀ k∈t.keys,k.kind=2→bitsF S k.field=32
  l4:S.tables.length=4
theorem tabS_ok (b:List UInt8) (v:Nat):TabS (gSchema b v).1 where
  uq:=fun t ht=>by
    simp only [gSchema,gTables,List.mem_cons,List.not_mem_nil,or_false] at ht
    rcases ht with rfl | rfl | rfl | rfl<;>rfl
  k4:=fun t ht=>(gTables_keys t ht).1
  b2:=fun t ht k hk h2=>by
    simp only [gSchema,gTables,List.mem_cons,List.not_mem_nil,or_false] at ht
    rcases ht with rfl | rfl | rfl | rfl
    · simp only [gTable0,List.mem_cons,List.not_mem_nil,or_false] at hk
      subst hk;exact absurd h2 (by decide)
    · simp only [gTable1] at hk
      split at hk<;>simp only [List.cons_append,List.nil_append,List.append_nil,List.mem_cons,List.not_mem_nil,or_false] at hk
      · rcases hk with rfl | rfl
        · rfl
        · exact absurd h2 (by decide)
      · subst hk;rfl
    · simp only [gTable2] at hk
      split at hk<;>simp only [List.cons_append,List.nil_append,List.append_nil,List.mem_cons,List.not_mem_nil,or_false] at hk
      · rcases hk with rfl | rfl | rfl<;>exact absurd h2 (by decide)
      · rcases hk with rfl | rfl<;>exact absurd h2 (by decide)
    · simp only [gTable3] at hk
      split at hk<;>simp only [List.cons_append,List.nil_append,List.append_nil,List.mem_cons,List.not_mem_nil,or_false] at hk
      · rcases hk with rfl | rfl | rfl
        · exact absurd h2 (by decide)
        · exact absurd h2 (by decide)
        · rfl
      · subst hk;exact absurd h2 (by decide)
  l4:=rfl
end Go.AL


open Go Go.AL Go.Proofs
namespace Go.AL
set_option linter.all false
set_option maxRecDepth 10000

end Go.AL

