/-
The functions as the evaluator runs them: printed by a program of mine, each equation by kernel_rfl.
Conditions: none.
Seat 'a': domains: what the functions answer.
Conditions: numbers and offsets are those of domains.
-/
import Derived.Test.YtohdaehblenokaaAa
set_option linter.unusedVariables false
set_option linter.unusedSimpArgs false
set_option maxRecDepth 100000
namespace Go.Proofs.Ytohdaehblenokaa.Ev
open Go
end Go.Proofs.Ytohdaehblenokaa.Ev
set_option linter.unusedVariables false
set_option linter.unusedSimpArgs false
set_option maxRecDepth 100000
namespace Go.Proofs.Ytohdaehblenokaa.Ev
open Go
theorem lenMax {n : Nat} (h : n ≤ maxLen) : (n : Int) ≤ 9223372036854775807 := by
 unfold maxLen at h
 have e : (2 : Nat) ^ 63 - 1 = 9223372036854775807 := by decide
 rw [e] at h
 omega
end Go.Proofs.Ytohdaehblenokaa.Ev
