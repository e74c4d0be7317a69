/- Contracts and plain laws, a part of the proof; no condition of its own. -/
import Derived.Test.YtepgdamgklfnmaaGreatLSch2
import Derived.Test.YtepgdamgklfnmaaGreatLBits
/- Entries and points as data, and those that a list of choices gives. No program. -/
namespace Go.AL
set_option linter.all false
structure SMatch where
  present : Bool
  value : Nat
  mask : Nat
  pfx : Int
  high : Nat
  deriving DecidableEq
structure SEntry where
  table : Int
  ms : List SMatch
  prio : Int
  act : Int
  args : List Nat
def matchC (x : SMatch) : List AV := .bool x.present :: (vc x.value ++ vc x.mask ++ [.int .i64 x.pfx] ++ vc x.high)
def matchAV (x : SMatch) : AV := .agg (matchC x)
def entryC (x : SEntry) : List AV := [.int .i64 x.table, .slice .any 8 (x.ms.map matchAV), .int .i64 x.prio, .int .i64 x.act, .slice .any 2 (x.args.map vv)]
def entryAV (x : SEntry) : AV := .agg (entryC x)
def noMatch : SMatch := ⟨false, 0, 0, 0, 0⟩
def actionL : List SAction → Int → SAction
  | [], _ => ⟨0, [], [], [], []⟩
  | a :: as, id => if a.id = id then a else actionL as id
end Go.AL


/- Plain laws of bits: combinations of values, ones, comparisons. No program. -/
namespace Go.AL
set_option linter.all false
/-- the comparison of two numbers -/
def cmpN (x y : Nat) : Int := if x = y then 0 else if x < y then -1 else 1
/-- two numbers that are equal above a bit at which they differ -/
theorem top_lt {x y i : Nat} (hx : x.testBit i = false) (hy : y.testBit i = true) (h : ∀ j, i < j → x.testBit j = y.testBit j) : x < y := by
  have e : x / 2 ^ (i + 1) = y / 2 ^ (i + 1) := by
    refine Nat.eq_of_testBit_eq fun j => ?_
    rw [Nat.testBit_div_two_pow, Nat.testBit_div_two_pow]
    exact h _ (by omega)
  have px := Nat.two_pow_pos i
  have mx : x % 2 ^ (i + 1) < 2 ^ i := by
    refine Nat.lt_pow_two_of_testBit _ fun j hj => ?_
    rw [Nat.testBit_mod_two_pow]
    by_cases hji : j = i
    · subst hji; simp [hx]
    · simp [show ¬ j < i + 1 by omega]
  have my : 2 ^ i ≤ y % 2 ^ (i + 1) := Nat.ge_two_pow_of_testBit (by rw [Nat.testBit_mod_two_pow]; simp [hy])
  have dx := Nat.div_add_mod x (2 ^ (i + 1))
  have dy := Nat.div_add_mod y (2 ^ (i + 1))
  rw [e] at dx
  omega
end Go.AL

