/-
The functions as the evaluator runs them: printed by a program of mine, each equation by kernel_rfl.
Conditions: none.
Does a constraint hold, the document's answer: sums, rows, tasks, circuits, numbers of values.
Conditions: as the handlers ask.
Does a constraint hold, the document's answer: numbers of values, pairs, linear ones.
Conditions: as the handlers ask.
Does a constraint hold, the document's answer: quotients, three values, truths.
Conditions: as the handlers ask.
Does a constraint hold, the document's answer: three values.
Conditions: as the handler asks.
Does a constraint hold, the document's answer as a whole.
Conditions: lists of at most 1000 elements.
Contracts of the document's functions; small values.
Conditions: as the handlers ask.
-/
import Derived.Test.YtohdaehblenokaaGh
import Derived.Test.YtohdaehblenokaaGo
set_option linter.unusedVariables false
set_option linter.unusedSimpArgs false
set_option maxRecDepth 100000
namespace Go.Proofs.Ytohdaehblenokaa.Ev
open Go
end Go.Proofs.Ytohdaehblenokaa.Ev
set_option linter.unusedVariables false
set_option linter.unusedSimpArgs false
set_option maxRecDepth 100000
namespace Go.Proofs.Ytohdaehblenokaa.Ev
open Go
theorem circGo_succ (x : List Int) (m i : Nat) (met : List Bool) : circGo x (m + 1) i met = if x.getD i 0 < 1 ∨ x.getD i 0 > (x.length : Int) then false else if met.getD (x.getD i 0 - 1).toNat false then false else circGo x m (x.getD i 0 - 1).toNat (met.set (x.getD i 0 - 1).toNat true) := rfl
end Go.Proofs.Ytohdaehblenokaa.Ev
set_option linter.unusedVariables false
set_option linter.unusedSimpArgs false
set_option maxRecDepth 100000
namespace Go.Proofs.Ytohdaehblenokaa.Ev
open Go
theorem lexY_cons (x y : Int) (s t : List Int) : lexY (x :: s) (y :: t) = if x = y then lexY s t else decide (x < y) := rfl
end Go.Proofs.Ytohdaehblenokaa.Ev
set_option linter.unusedVariables false
set_option linter.unusedSimpArgs false
set_option maxRecDepth 100000
namespace Go.Proofs.Ytohdaehblenokaa.Ev
open Go
end Go.Proofs.Ytohdaehblenokaa.Ev
set_option linter.unusedVariables false
set_option linter.unusedSimpArgs false
set_option maxRecDepth 100000
namespace Go.Proofs.Ytohdaehblenokaa.Ev
open Go
end Go.Proofs.Ytohdaehblenokaa.Ev
set_option linter.unusedVariables false
set_option linter.unusedSimpArgs false
set_option maxRecDepth 100000
namespace Go.Proofs.Ytohdaehblenokaa.Ev
open Go
end Go.Proofs.Ytohdaehblenokaa.Ev
set_option linter.unusedVariables false
set_option linter.unusedSimpArgs false
set_option maxRecDepth 100000
namespace Go.Proofs.Ytohdaehblenokaa.Ev
open Go Go.RowKit
theorem F521.sem (a : List Int) (n : Int) (h : nearLB a n = true) : callW F521.E false F521.fn 2000 [.v (.sl (.int .i64)) a, .v (.int .i64) n] = some (.v (.sl (.int .i64)) (nearL a n)) := by
 unfold nearLB at h
 simp only [Bool.and_eq_true, decide_eq_true_eq] at h
 obtain ⟨h0, h1⟩ := h
 obtain ⟨N, rfl⟩ : ∃ N : Nat, n = (N : Int) := ⟨n.toNat, by omega⟩
 refine (F521.start_eq 2000 a (N : Int)).trans ?_
 unfold nearL
 rw [Int.toNat_natCast]
 refine map_loopG (f := fun i => if i < a.length then (a.getD i 0).tmod 7 else (i : Int)) N (fun n i acc => F521.l1_1_0_1_0 n (F521.kt 2000 [1, 1, 0, 1, 0]) a (N : Int) i acc) (fun acc => some (.v (.sl (.int .i64)) acc)) (by omega) (fun n j acc hj hacc => ?_)
  (fun n acc => (F521.l1_1_0_1_0_eq ..).trans (self_lt'.trans (F521.c0 2000 acc))) 2000 (by omega)
 refine (F521.l1_1_0_1_0_eq ..).trans ((bT' (lt_natG hj)).trans ?_)
 rw [Int.toNat_natCast]
 by_cases hl : j < a.length
 ·rw [if_pos hl, ← wrap1 (show j ≤ 1000000000 by omega)]
  exact (bT' (lt_natG hl)).trans ((bT' (in_natG hl)).trans ((F521.n1_1_0_1_0_0_1_1_0_0_1_1_1_eq ..).trans ((bT' (lim8G (show acc.length ≤ 1000000 by omega) _)).trans (F521.c1 ..))))
 ·rw [if_neg hl, ← wrap1 (show j ≤ 1000000000 by omega)]
  exact (bF' (decide_eq_false (by omega))).trans ((F521.n1_1_0_1_0_0_1_1_0_0_1_1_1_eq ..).trans ((bT' (lim8G (show acc.length ≤ 1000000 by omega) _)).trans (F521.c1 ..)))
theorem F521.eok : EOk Go.Proofs.Try.prog F521.E := eo calls_nil
theorem ok521 : HandOk Go.Proofs.Try.prog inv 5 h_nearL := hand_if fun xs hc => callW_ok (own := false) (k := 2000) F521.eok mixed Go.Proofs.Try.func5 (by kernel_rfl) (show Go.Proofs.Try.f5.body = some (bodyOf Go.Proofs.Try.f5) by kernel_rfl) (F521.sem xs.1 xs.2.1 hc)
end Go.Proofs.Ytohdaehblenokaa.Ev
