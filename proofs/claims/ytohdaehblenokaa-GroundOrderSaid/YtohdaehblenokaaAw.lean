/-
Seat 'a': rows of values, solutions among domains: what the functions answer.
Conditions: lists are short.
Seat 'a': solutions among domains; the values that are in one: what the functions answer.
Conditions: lists are short; each row is as long as it must be.
Seat 'a': a domain's list; a domain of numbers: what the functions answer.
Conditions: numbers and offsets are those of domains.
Seat 'a': the filters: what the functions answer.
Conditions: lists are short; constraints of the kinds that this seat is about.
-/
import Derived.Test.YtohdaehblenokaaAi
import Derived.Test.YtohdaehblenokaaAt
import Derived.Test.YtohdaehblenokaaAb
set_option linter.unusedVariables false
set_option linter.unusedSimpArgs false
set_option maxRecDepth 100000
namespace Go.Proofs.Ytohdaehblenokaa.Ev
open Go
structure PB (d : List (List Int)) (most : Int) : Prop where
  lo : 0 ≤ most
  hi : most ≤ 100000
  len : d.length ≤ 1000
  each : ∀ x ∈ d, x.length ≤ 1000 ∧ 1 ≤ x.length
end Go.Proofs.Ytohdaehblenokaa.Ev
set_option linter.unusedVariables false
set_option linter.unusedSimpArgs false
set_option maxRecDepth 100000
namespace Go.Proofs.Ytohdaehblenokaa.Ev
open Go
structure SB (c : Con) (d : List (List Int)) (most : Int) : Prop where
  loc : localB c = true
  pb : productB d most = true
  all : manyL d most = false → ∀ r ∈ prodL d, holdsB (localC c) r = true
end Go.Proofs.Ytohdaehblenokaa.Ev
set_option linter.unusedVariables false
set_option linter.unusedSimpArgs false
set_option maxRecDepth 100000
namespace Go.Proofs.Ytohdaehblenokaa.Ev
open Go
end Go.Proofs.Ytohdaehblenokaa.Ev
set_option linter.unusedVariables false
set_option linter.unusedSimpArgs false
set_option maxRecDepth 100000
namespace Go.Proofs.Ytohdaehblenokaa.Ev
open Go
end Go.Proofs.Ytohdaehblenokaa.Ev
