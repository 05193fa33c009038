/-
  Lists of asked and of answered things.
-/
import Derived.Test.YtgkbmelecalllaaSf9
set_option linter.unusedSectionVars false
set_option linter.unusedSimpArgs false
set_option linter.unusedVariables false
namespace Go.Sd
open Go Go.Proofs
structure Op4 where
  d : Int
  h : Int
  off : Int
  n : Int
deriving DecidableEq
def encO (x : Op4) : List Value := [.int .i64 x.d, .int .i64 x.h, .int .i64 x.off, .int .i64 x.n]
def I64 (n : Int) : Prop := -9223372036854775808 ≤ n ∧ n ≤ 9223372036854775807
def OpB (l : List Op4) : Prop := ∀ x ∈ l, I64 x.h
def ResB (l : List (Int × Int)) : Prop := ∀ x ∈ l, I64 x.2
end Go.Sd
