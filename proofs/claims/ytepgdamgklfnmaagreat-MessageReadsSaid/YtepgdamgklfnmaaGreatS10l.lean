/- Contracts and plain laws, a part of the proof; no condition of its own. -/
import Derived.Test.YtepgdamgklfnmaaGreatS10j
open Go Go.AL Go.Proofs
namespace Go.AL
set_option linter.all false
set_option maxRecDepth 10000

structure MOk (m:SMatch):Prop where
  v:m.value<2^128
  k:m.mask<2^128
  h:m.high<2^128
theorem isV_out {a b:Int} (h:isV a b):∃ x:Nat,x<2^128∧a=((x/2^64:Nat):Int)∧b=((x % 2^64:Nat):Int)∧vOf a.toNat b.toNat=x:=by
  obtain ⟨h0,h1,h2,h3⟩:=h
  obtain ⟨x,rfl⟩:=u64_lift h0
  obtain ⟨y,rfl⟩:=u64_lift h2
  have hy:y<2^64:=by omega
  refine ⟨vOf x y,vOf_lt (by omega) hy,by rw [vOf_hi hy],by rw [vOf_lo hy],by simp only [Int.toNat_natCast]⟩
theorem val_eq {x y:Nat}:((((x/2^64:Nat):Int)==((y/2^64:Nat):Int))&&((((x % 2^64:Nat):Int)==((y % 2^64:Nat):Int))&&true))=decide (x=y):=by
  rw [Bool.eq_iff_iff]
  simp only [Bool.and_eq_true,beq_iff_eq,decide_eq_true_eq,and_true]
  omega
theorem val_eq' {x y:Nat}:((((x/2^64:Nat):Int)==((y/2^64:Nat):Int))&&(((x % 2^64:Nat):Int)==((y % 2^64:Nat):Int)))=decide (x=y):=by
  rw [← val_eq,Bool.and_true]
theorem isV_of {x:Nat} (h:x<2^128):isV ((x/2^64:Nat):Int) ((x % 2^64:Nat):Int)=True:=eq_true (by unfold isV;omega)
end Go.AL


open Go Go.AL Go.Proofs
namespace Go.AL
set_option linter.all false
set_option maxRecDepth 10000

/-- entries and points as functions take them -/
structure EOk (e:SEntry):Prop where
  ml:e.ms.length≤140737488355328
  al:e.args.length≤140737488355328
  mo:∀ m∈e.ms,MOk m
end Go.AL

