/- Contracts and plain laws, a part of the proof; no condition of its own. -/
import Derived.Test.YtepgdamgklfnmaaGreatS11p
import Derived.Test.YtepgdamgklfnmaaGreatCM
import Derived.Test.YtepgdamgklfnmaaGreatCK
open Go Go.AL Go.Proofs
namespace Go.AL
set_option linter.all false
set_option maxRecDepth 10000

/-- what an entry must be for its encoding to be read back -/
structure WMOk (m:SMatch):Prop where
  ok:MOk m
  p0:0≤m.pfx
  p1:m.pfx≤255
  no:m.present=false→m=noMatch
structure WOk (e:SEntry):Prop where
  t0:0≤e.table
  t1:e.table≤65535
  p0:0≤e.prio
  p1:e.prio≤65535
  a0:0≤e.act
  a1:e.act≤65535
  ml:e.ms.length≤4
  al:e.args.length≤4
  mo:∀ m∈e.ms,WMOk m
  ar:∀ x∈e.args,x<2^128
end Go.AL


open Go Go.AL Go.Proofs
namespace Go.AL
set_option linter.all false
set_option maxRecDepth 10000

theorem valueR_lt' (s:RS):(valueR s).1<2^128:=valueR_lt s.1 s.2.1 s.2.2
theorem readM_ok (s:RS):MOk (readM s).1:=by
  unfold readM
  split
  · exact ⟨valueR_lt' _,valueR_lt' _,valueR_lt' _⟩
  · exact ⟨Nat.two_pow_pos 128,Nat.two_pow_pos 128,Nat.two_pow_pos 128⟩
theorem readMs_ok:∀ (k:Nat) (s:RS),∀ m∈(readMs k s).1,MOk m
  | 0,s=>by simp [readMs]
  | k+1,s=>fun m hm=>by
    unfold readMs at hm
    rcases List.mem_cons.1 hm with rfl | hm
    · exact readM_ok s
    · exact readMs_ok k _ m hm
theorem readVs_ok:∀ (k:Nat) (s:RS),∀ m∈(readVs k s).1,m<2^128
  | 0,s=>by simp [readVs]
  | k+1,s=>fun m hm=>by
    unfold readVs at hm
    rcases List.mem_cons.1 hm with rfl | hm
    · exact valueR_lt' s
    · exact readVs_ok k _ m hm
theorem readE_ok (s:RS):COk (readE s).1:=by
  unfold readE
  split
  · unfold readE0
    dsimp only
    have h1:=countR_b (uintR s 2).2 4 (by decide)
    refine ⟨⟨?_,?_,readMs_ok _ _⟩,readVs_ok _ _⟩
    · dsimp only;rw [readMs_n];omega
    · dsimp only
      rw [readVs_n]
      have h2:=countR_b (uintR (uintR (readMs (countR (uintR s 2).2 4).1.toNat (countR (uintR s 2).2 4).2).2 2).2 2).2 4 (by decide)
      omega
  · exact ⟨⟨by simp,by simp,by simp⟩,by simp⟩
/-- the entries that the generator gives can be read back -/
theorem gMatch_no {b:List UInt8} {v:Nat} {w kind:Int}:(gMatch b v w kind).1.present=false→(gMatch b v w kind).1=noMatch:=by
  unfold gMatch
  dsimp only
  repeat' split
  all_goals first | (intro _;rfl) | (intro h;cases h)
theorem gMatches_no {S:Sch} {b:List UInt8}:∀ (ks:List SKey) (v:Nat) (p:Int),∀ m∈(gMatches S b ks v p).1.1,m.present=false→m=noMatch
  | [],v,p=>by simp [gMatches]
  | k::ks,v,p=>fun m hm=>by
    unfold gMatches at hm
    dsimp only at hm
    rcases List.mem_cons.1 hm with rfl | hm
    · exact gMatch_no
    · exact gMatches_no ks _ _ m hm
/-- what is written of the generated schema -/
structure SSm (S:Sch):Prop where
  ti:∀ t∈S.tables,0≤t.id∧t.id≤65535
  ac:∀ t∈S.tables,∀ a∈t.actions,0≤a∧a≤65535
  pl:∀ a:Int,(actionL S.actions a).params.length≤2
  k3:∀ t∈S.tables,t.keys.length≤3
theorem ssm_ok (b:List UInt8) (v:Nat):SSm (gSchema b v).1 where
  ti:=fun t ht=>by
    simp only [gSchema,gTables,List.mem_cons,List.not_mem_nil,or_false] at ht
    rcases ht with rfl | rfl | rfl | rfl<;>(simp only [gTable0,gTable1,gTable2,gTable3];omega)
  ac:=fun t ht a ha=>by
    simp only [gSchema,gTables,List.mem_cons,List.not_mem_nil,or_false] at ht
    rcases ht with rfl | rfl | rfl | rfl<;>simp only [gTable0,gTable1,gTable2,gTable3,List.mem_cons,List.not_mem_nil,or_false] at ha<;>omega
  pl:=fun a=>by
    simp only [gSchema,gActions,actionL]
    repeat' split
    all_goals (simp only [List.length_cons,List.length_nil];omega)
  k3:=(tabS_ok b v).k4
theorem gEntry_wok {S:Sch} (hG:GenS S) (hS:SSm S) {b:List UInt8} {v:Nat} {n:Int}:WOk (gEntry S b v n).1:=by
  have hE:=gEntry_ok hG (b:=b) (v:=v) (n:=n)
  have ht:=tableAt_mem (S:=S) (n:=n) hG.t1
  have h1:=hS.ti _ ht
  have h2:=hS.ac _ ht _ hE.am
  have h3:=hS.pl (gEntry S b v n).1.act
  have h4:=hS.k3 _ ht
  refine ⟨by rw [hE.tb];exact h1.1,by rw [hE.tb];exact h1.2,hE.p0,by have:=hE.p1;omega,h2.1,h2.2,by have:=hE.ml;omega,by have:=hE.al;omega,fun m hm=>?_,fun x hx=>Nat.lt_of_lt_of_le (hE.ao x hx) (by decide)⟩
  have g:=hE.mo m hm
  exact ⟨⟨Nat.lt_of_lt_of_le g.v (by decide),Nat.lt_of_lt_of_le g.k (by decide),Nat.lt_of_lt_of_le g.h (by decide)⟩,g.p0,by have:=g.p1;omega,gMatches_no _ _ _ m hm⟩
end Go.AL

