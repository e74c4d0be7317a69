/- Contracts and plain laws, a part of the proof; no condition of its own. -/
import Derived.Test.YthpglnacipgolaaGreatS10i
import Derived.Test.YthpglnacipgolaaGreatS10v
open Go Go.AL Go.Proofs
namespace Go.AL
set_option linter.all false
set_option maxRecDepth 10000

def tabF (S:Sch) (id:Int):Option STable:=S.tables.find? fun t=>t.id==id
end Go.AL


open Go Go.AL Go.Proofs
namespace Go.AL
set_option linter.all false
set_option maxRecDepth 10000

structure MOk (m:SMatch):Prop where
  v:m.value<2^128
  k:m.mask<2^128
  h:m.high<2^128
theorem isV_out {a b:Int} (h:isV a b):∃ x:Nat,x<2^128∧a=((x/2^64:Nat):Int)∧b=((x % 2^64:Nat):Int)∧vOf a.toNat b.toNat=x:=by
  obtain ⟨h0,h1,h2,h3⟩:=h
  obtain ⟨x,rfl⟩:=u64_lift h0
  obtain ⟨y,rfl⟩:=u64_lift h2
  have hy:y<2^64:=by omega
  refine ⟨vOf x y,vOf_lt (by omega) hy,by rw [vOf_hi hy],by rw [vOf_lo hy],by simp only [Int.toNat_natCast]⟩
theorem val_eq {x y:Nat}:((((x/2^64:Nat):Int)==((y/2^64:Nat):Int))&&((((x % 2^64:Nat):Int)==((y % 2^64:Nat):Int))&&true))=decide (x=y):=by
  rw [Bool.eq_iff_iff]
  simp only [Bool.and_eq_true,beq_iff_eq,decide_eq_true_eq,and_true]
  omega
theorem val_eq' {x y:Nat}:((((x/2^64:Nat):Int)==((y/2^64:Nat):Int))&&(((x % 2^64:Nat):Int)==((y % 2^64:Nat):Int)))=decide (x=y):=by
  rw [← val_eq,Bool.and_true]
theorem isV_of {x:Nat} (h:x<2^128):isV ((x/2^64:Nat):Int) ((x % 2^64:Nat):Int)=True:=eq_true (by unfold isV;omega)
end Go.AL


open Go Go.AL Go.Proofs
namespace Go.AL
set_option linter.all false
set_option maxRecDepth 10000

/-- entries and points as functions take them -/
structure EOk (e:SEntry):Prop where
  ml:e.ms.length≤140737488355328
  al:e.args.length≤140737488355328
  mo:∀ m∈e.ms,MOk m
end Go.AL


open Go Go.AL Go.Proofs
namespace Go.AL
set_option linter.all false
set_option maxRecDepth 10000

theorem eqg_matchV:Tryz.prog.eqGuardType Tryz.prog.depth 367=false:=by kernel_rfl
theorem teq_matchV {m n:SMatch}:teq Tryz.prog 9 367 (.agg [.bool m.present,.int .u64 ((m.value/2^64:Nat):Int),.int .u64 ((m.value % 2^64:Nat):Int),.int .u64 ((m.mask/2^64:Nat):Int),.int .u64 ((m.mask % 2^64:Nat):Int),.int .i64 m.pfx,.int .u64 ((m.high/2^64:Nat):Int),.int .u64 ((m.high % 2^64:Nat):Int)])
    (.agg [.bool n.present,.int .u64 ((n.value/2^64:Nat):Int),.int .u64 ((n.value % 2^64:Nat):Int),.int .u64 ((n.mask/2^64:Nat):Int),.int .u64 ((n.mask % 2^64:Nat):Int),.int .i64 n.pfx,.int .u64 ((n.high/2^64:Nat):Int),.int .u64 ((n.high % 2^64:Nat):Int)])=some (decide (m=n)):=by
  have g1:Tryz.prog.stoodInHeld 367=false:=by kernel_rfl
  have g2:Tryz.prog.stoodInHeld 83=false:=by kernel_rfl
  by_cases h:m=n
  · subst h
    simp [ti_smatch,ti_zvalue,teq,teq.go,teq.part,ti_zu64,ti_zint,ti_zbool,ceq,g1,g2,TD.agg]
  · rw [decide_eq_false h]
    obtain ⟨p,v,k,f,hh⟩:=m
    obtain ⟨p',v',k',f',h'⟩:=n
    dsimp only
    generalize h1:v/2^64=a1
    generalize h2:v % 2^64=a2
    generalize h3:v'/2^64=b1
    generalize h4:v' % 2^64=b2
    generalize h5:k/2^64=a3
    generalize h6:k % 2^64=a4
    generalize h7:k'/2^64=b3
    generalize h8:k' % 2^64=b4
    generalize h9:hh/2^64=a5
    generalize h10:hh % 2^64=a6
    generalize h11:h'/2^64=b5
    generalize h12:h' % 2^64=b6
    simp [ti_smatch,ti_zvalue,teq,teq.go,teq.part,ti_zu64,ti_zint,ti_zbool,ceq,g1,g2,TD.agg]
    intro q1 q2 q3 q4 q5 q6 q7 q8
    apply h
    rw [q1,q6,show v=v' by omega,show k=k' by omega,show hh=h' by omega]
end Go.AL


open Go Go.AL Go.Proofs
namespace Go.AL
set_option linter.all false
set_option maxRecDepth 10000

end Go.AL


open Go Go.AL Go.Proofs
namespace Go.AL
set_option linter.all false
set_option maxRecDepth 10000

theorem actionL_in {P:SAction→Prop} (h0:P ⟨0,[],[],[],[]⟩):∀ {l:List SAction} {a:Int},(∀ x∈l,P x)→P (actionL l a)
  | [],_,_=>h0
  | x::l,a,h=>by
    unfold actionL
    split
    · exact h x List.mem_cons_self
    · exact actionL_in h0 fun y hy=>h y (List.mem_cons_of_mem _ hy)
theorem gTables_keys {b:List UInt8} {v:Nat}:∀ t∈gTables b v,t.keys.length≤3∧(∀ k∈t.keys,1≤bitsL gFields k.field∧bitsL gFields k.field≤32∧(k.kind=2→16≤bitsL gFields k.field))∧1≤t.actions.length∧t.actions.length≤5:=by
  intro t ht
  simp only [gTables,List.mem_cons,List.not_mem_nil,or_false] at ht
  rcases ht with rfl | rfl | rfl | rfl
  · refine ⟨by simp [gTable0],fun k hk=>?_,by simp [gTable0],by simp [gTable0]⟩
    simp only [gTable0,List.mem_cons,List.not_mem_nil,or_false] at hk
    subst hk
    decide
  · refine ⟨by simp only [gTable1];split<;>simp,fun k hk=>?_,by simp [gTable1],by simp [gTable1]⟩
    simp only [gTable1] at hk
    split at hk<;>simp only [List.cons_append,List.nil_append,List.append_nil,List.mem_cons,List.not_mem_nil,or_false] at hk
    · rcases hk with rfl | rfl<;>decide
    · subst hk;decide
  · refine ⟨by simp only [gTable2];split<;>simp,fun k hk=>?_,by simp [gTable2],by simp [gTable2]⟩
    simp only [gTable2] at hk
    split at hk<;>simp only [List.cons_append,List.nil_append,List.append_nil,List.mem_cons,List.not_mem_nil,or_false] at hk
    · rcases hk with rfl | rfl | rfl<;>decide
    · rcases hk with rfl | rfl<;>decide
  · refine ⟨by simp only [gTable3];split<;>simp,fun k hk=>?_,by simp [gTable3],by simp [gTable3]⟩
    simp only [gTable3] at hk
    split at hk<;>simp only [List.cons_append,List.nil_append,List.append_nil,List.mem_cons,List.not_mem_nil,or_false] at hk
    · rcases hk with rfl | rfl | rfl<;>decide
    · subst hk;decide
theorem gActions_in {b:List UInt8} {v:Nat}:∀ a∈gActions b v,a.params.length≤4∧∀ p∈a.params,0≤p.bits∧p.bits≤1000:=by
  intro a ha
  simp only [gActions,List.mem_cons,List.not_mem_nil,or_false] at ha
  rcases ha with rfl | rfl | rfl | rfl | rfl | rfl<;>refine ⟨by simp,fun p hp=>?_⟩<;>simp only [List.mem_cons,List.not_mem_nil,or_false] at hp<;>first | exact hp.elim | (subst hp;decide) | (rcases hp with rfl | rfl<;>decide)
theorem genS_ok (b:List UInt8) (v:Nat):GenS (gSchema b v).1 where
  fl:=(by decide:gFields.length≤1000)
  al:=by simp [gSchema,gActions]
  tl:=by simp [gSchema,gTables]
  t1:=by simp [gSchema,gTables]
  kl:=fun t ht=>by have:=(gTables_keys t ht).1;omega
  kb:=fun t ht=>(gTables_keys t ht).2.1
  a1:=fun t ht=>⟨(gTables_keys t ht).2.2.1,by have:=(gTables_keys t ht).2.2.2;omega⟩
  pl:=fun a=>actionL_in (P:=fun x=>x.params.length≤100) (by decide) fun x hx=>by have:=(gActions_in x hx).1;omega
  pb:=fun a=>actionL_in (P:=fun x=>∀ p∈x.params,0≤p.bits∧p.bits≤1000) (by simp) fun x hx=>(gActions_in x hx).2
def e0:SEntry:=⟨2,[⟨true,167772161,0,8,0⟩],0,0,[]⟩
theorem zod_codV {b:List UInt8}:zod b 0=codV b (cp 0 0):=by
  unfold zod codV cp
  simp
end Go.AL


open Go Go.AL Go.Proofs
namespace Go.AL
set_option linter.all false
set_option maxRecDepth 10000

/-- what is so of generated matches -/
structure GM (m:SMatch):Prop where
  v:m.value<2^32
  k:m.mask<2^32
  h:m.high<2^32
  p0:0≤m.pfx
  p1:m.pfx≤32
theorem gMatch_ok {b:List UInt8} {v:Nat} {w kind:Int} (h1:1≤w) (h2:w≤32) (h3:kind=2→16≤w):GM (gMatch b v w kind).1:=by
  have hX:=low_lt32 (x:=gNum b v) h1 h2
  have hno:GM noMatch:=⟨by decide,by decide,by decide,by decide,by decide⟩
  unfold gMatch
  dsimp only
  split
  · rename_i hk
    have:=gPfx_in (b:=b) (u:=v+4) (h3 hk)
    split
    · exact ⟨Nat.lt_of_le_of_lt Nat.and_le_left hX,by dsimp only;decide,by dsimp only;decide,by dsimp only;omega,by dsimp only;omega⟩
    · exact hno
  · split
    · split
      · exact ⟨Nat.lt_of_le_of_lt Nat.and_le_left hX,low_lt32 h1 h2,by dsimp only;decide,by dsimp only;decide,by dsimp only;decide⟩
      · exact hno
    · split
      · split
        · refine ⟨hX,by dsimp only;decide,?_,by dsimp only;decide,by dsimp only;decide⟩
          dsimp only
          unfold gHigh
          have:2^w.toNat≤2^32:=Nat.pow_le_pow_right (by decide) (by omega)
          have:=Nat.two_pow_pos w.toNat
          omega
        · exact hno
      · exact ⟨hX,by dsimp only;decide,by dsimp only;decide,by dsimp only;decide,by dsimp only;decide⟩
theorem gMatches_ok {S:Sch} {b:List UInt8}:∀ (ks:List SKey) (v:Nat) (p:Int),(∀ k∈ks,1≤bitsF S k.field∧bitsF S k.field≤32∧(k.kind=2→16≤bitsF S k.field))→0≤p→p≤5 →
    (gMatches S b ks v p).1.1.length=ks.length∧(∀ m∈(gMatches S b ks v p).1.1,GM m)∧0≤(gMatches S b ks v p).1.2∧(gMatches S b ks v p).1.2≤5
  | [],v,p,_,h1,h2=>⟨rfl,by simp [gMatches],h1,h2⟩
  | k::ks,v,p,h,h1,h2=>by
    obtain ⟨g1,g2,g3⟩:=h k List.mem_cons_self
    have hm:=gMatch_ok (b:=b) (v:=v) g1 g2 g3
    have hc:=cv_lt (b:=b) (v:=(gMatch b v (bitsF S k.field) k.kind).2) (n:=5) (by decide)
    unfold gMatches
    dsimp only
    by_cases hk:k.kind=3∨k.kind=4
    · simp only [if_pos hk]
      obtain ⟨i1,i2,i3,i4⟩:=gMatches_ok ks ((gMatch b v (bitsF S k.field) k.kind).2+1) (1+ci b (gMatch b v (bitsF S k.field) k.kind).2 5) (fun x hx=>h x (List.mem_cons_of_mem _ hx)) (by unfold ci;omega) (by unfold ci;omega)
      exact ⟨by simp [i1],fun m hm'=>(List.mem_cons.1 hm').elim (fun e=>e ▸ hm) (i2 m),i3,i4⟩
    · simp only [if_neg hk]
      obtain ⟨i1,i2,i3,i4⟩:=gMatches_ok ks (gMatch b v (bitsF S k.field) k.kind).2 p (fun x hx=>h x (List.mem_cons_of_mem _ hx)) h1 h2
      exact ⟨by simp [i1],fun m hm'=>(List.mem_cons.1 hm').elim (fun e=>e ▸ hm) (i2 m),i3,i4⟩
theorem gArgs_ok {b:List UInt8}:∀ (ps:List SParam) (v:Nat),(gArgs b ps v).1.length=ps.length∧∀ x∈(gArgs b ps v).1,x<256
  | [],v=>⟨rfl,by simp [gArgs]⟩
  | p::ps,v=>by
    obtain ⟨i1,i2⟩:=gArgs_ok ps (v+1)
    unfold gArgs
    refine ⟨by simp only [List.length_cons];rw [i1],fun x hx=>?_⟩
    rcases List.mem_cons.1 hx with rfl | hx
    · have:=cv_lt (b:=b) (v:=v) (n:=256) (by decide)
      unfold low
      split
      · exact this
      · exact Nat.lt_of_le_of_lt (Nat.mod_le _ _) this
    · exact i2 x hx
theorem tableAt_mem {S:Sch} {n:Int} (h:1≤S.tables.length):tableAt S n∈S.tables:=by
  have hm1:=Int.emod_nonneg n (show ((S.tables.length:Nat):Int)≠0 by omega)
  have hm2:=Int.emod_lt_of_pos n (show (0:Int)<((S.tables.length:Nat):Int) by omega)
  have hmi:(n % ((S.tables.length:Nat):Int)).toNat<S.tables.length:=by omega
  unfold tableAt
  rw [List.getD_eq_getElem?_getD,List.getElem?_eq_getElem hmi]
  exact List.getElem_mem hmi
/-- what is so of generated entries -/
structure GE (S:Sch) (t:STable) (e:SEntry):Prop where
  tb:e.table=t.id
  ml:e.ms.length=t.keys.length
  mo:∀ m∈e.ms,GM m
  p0:0≤e.prio
  p1:e.prio≤5
  am:e.act∈t.actions
  al:e.args.length=(actionL S.actions e.act).params.length
  ao:∀ x∈e.args,x<256
theorem gEntry_ok {S:Sch} (hG:GenS S) {b:List UInt8} {v:Nat} {n:Int}:GE S (tableAt S n) (gEntry S b v n).1:=by
  have ht:=tableAt_mem (S:=S) (n:=n) hG.t1
  obtain ⟨i1,i2,i3,i4⟩:=gMatches_ok (b:=b) (tableAt S n).keys v 0 (hG.kb _ ht) (by omega) (by omega)
  have hc:cv b (gMatches S b (tableAt S n).keys v 0).2 (tableAt S n).actions.length<(tableAt S n).actions.length:=cv_lt (by have:=(hG.a1 _ ht).1;omega)
  unfold gEntry
  dsimp only
  refine ⟨rfl,i1,i2,i3,i4,?_,(gArgs_ok _ _).1,(gArgs_ok _ _).2⟩
  dsimp only
  rw [List.getD_eq_getElem?_getD,List.getElem?_eq_getElem hc]
  exact List.getElem_mem hc
theorem GE.ok {S:Sch} {t:STable} {e:SEntry} (h:GE S t e) (h1:t.keys.length≤100) (h2:∀ a:Int,(actionL S.actions a).params.length≤100):EOk e :=
  ⟨by have:=h.ml;omega,by have:=h.al;have:=h2 e.act;omega,fun m hm=>by have:=h.mo m hm;exact ⟨Nat.lt_of_lt_of_le this.v (by decide),Nat.lt_of_lt_of_le this.k (by decide),Nat.lt_of_lt_of_le this.h (by decide)⟩⟩
/-- the four tables -/
structure TabS (S:Sch):Prop where
  uq:∀ t∈S.tables,tabF S t.id=some t
  k4:∀ t∈S.tables,t.keys.length≤3
  b2:∀ t∈S.tables,∀ k∈t.keys,k.kind=2→bitsF S k.field=32
  l4:S.tables.length=4
theorem tabS_ok (b:List UInt8) (v:Nat):TabS (gSchema b v).1 where
  uq:=fun t ht=>by
    simp only [gSchema,gTables,List.mem_cons,List.not_mem_nil,or_false] at ht
    rcases ht with rfl | rfl | rfl | rfl<;>rfl
  k4:=fun t ht=>(gTables_keys t ht).1
  b2:=fun t ht k hk h2=>by
    simp only [gSchema,gTables,List.mem_cons,List.not_mem_nil,or_false] at ht
    rcases ht with rfl | rfl | rfl | rfl
    · simp only [gTable0,List.mem_cons,List.not_mem_nil,or_false] at hk
      subst hk;exact absurd h2 (by decide)
    · simp only [gTable1] at hk
      split at hk<;>simp only [List.cons_append,List.nil_append,List.append_nil,List.mem_cons,List.not_mem_nil,or_false] at hk
      · rcases hk with rfl | rfl
        · rfl
        · exact absurd h2 (by decide)
      · subst hk;rfl
    · simp only [gTable2] at hk
      split at hk<;>simp only [List.cons_append,List.nil_append,List.append_nil,List.mem_cons,List.not_mem_nil,or_false] at hk
      · rcases hk with rfl | rfl | rfl<;>exact absurd h2 (by decide)
      · rcases hk with rfl | rfl<;>exact absurd h2 (by decide)
    · simp only [gTable3] at hk
      split at hk<;>simp only [List.cons_append,List.nil_append,List.append_nil,List.mem_cons,List.not_mem_nil,or_false] at hk
      · rcases hk with rfl | rfl | rfl
        · exact absurd h2 (by decide)
        · exact absurd h2 (by decide)
        · rfl
      · subst hk;exact absurd h2 (by decide)
  l4:=rfl
end Go.AL


open Go Go.AL Go.Proofs
namespace Go.AL
set_option linter.all false
set_option maxRecDepth 10000

end Go.AL


open Go Go.AL Go.Proofs
namespace Go.AL
set_option linter.all false
set_option maxRecDepth 10000

end Go.AL


open Go Go.AL Go.Proofs
namespace Go.AL
set_option linter.all false
set_option maxRecDepth 10000

end Go.AL


open Go Go.AL Go.Proofs
namespace Go.AL
set_option linter.all false
set_option maxRecDepth 10000

end Go.AL


open Go Go.AL Go.Proofs
namespace Go.AL
set_option linter.all false
set_option maxRecDepth 10000

def cmpI (a b:Int):Int:=if a<b then -1 else if b<a then 1 else 0
def firstI:List Int→Int
  | []=>0
  | x::xs=>if (x != 0)=true then x else firstI xs
theorem cmpI_zero {a b:Int}:(cmpI a b != 0)=(a != b):=by
  unfold cmpI
  split
  · have:a≠b:=by omega
    simp [this]
  · split
    · have:a≠b:=by omega
      simp [this]
    · have:a=b:=by omega
      simp [this]
end Go.AL

