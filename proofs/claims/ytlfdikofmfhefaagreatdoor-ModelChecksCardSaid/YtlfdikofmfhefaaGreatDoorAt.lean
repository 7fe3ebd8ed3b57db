/-
May a constraint be: what the functions answer.
Conditions: of the kinds that this seat is about.
-/
import Derived.Test.YtlfdikofmfhefaaGreatDoorAe
import Derived.Test.YtlfdikofmfhefaaGreatDoorAi
import Derived.Test.YtlfdikofmfhefaaGreatDoorAk
import Derived.Test.YtlfdikofmfhefaaGreatDoorAl
set_option linter.unusedVariables false
set_option linter.unusedSimpArgs false
set_option maxRecDepth 100000
namespace Go.Proofs.YtlfdikofmfhefaaGreatDoor.Ev
open Go
abbrev Rest := List Int × List Int × List Int × List Int × List Int × Int × List (List Int)
theorem F91.sem (k : Nat) (n : Int) : callW F91.E false F91.fn k [.v (.int .i64) n] = some (.v .str (shapeS n)) := by
 rw [F91.start_eq]
 unfold shapeS
 cases h : inS n with
 | false => simp
 | true =>
  unfold inS at h
  simp only [Bool.and_eq_true, decide_eq_true_eq] at h
  rw [wrap_ok (by omega) (by omega)]
  have e : formsL.length = 23 := rfl
  have h5 : 0 ≤ n - 1 := by omega
  have h6 : n - 1 < 23 := by omega
  rw [e]
  simp [h5, h6, h.1]
theorem F103.sem (k : Nat) (n : Int) : callW F103.E false F103.fn k [.v (.int .i64) n] = some (.tup [.v .str (wordS n), .v .bool (inS n)]) := by
 rw [F103.start_eq]
 unfold wordS inS
 have e : formsL.length = 23 := rfl
 rw [e]
 by_cases h1 : n < 1
 ·have h2 : ¬ 1 ≤ n := by omega
  simp [h1, h2]
 ·have h2 : 1 ≤ n := by omega
  by_cases h3 : n > 23
  ·have h4 : ¬ n ≤ 23 := by omega
   simp [h1, h3, h4]
  ·have h4 : n ≤ 23 := by omega
   rw [wrap_ok (by omega) (by omega)]
   have h5 : 0 ≤ n - 1 := by omega
   have h6 : n - 1 < 23 := by omega
   simp [h1, h2, h3, h4, h5, h6]
theorem F111.sem (k : Nat) (l : List Int) (m : Int) : callW F111.E false F111.fn k [.v (.sl (.int .i64)) l, .v (.int .i64) m] = some (.v .bool (boundedD l m)) := F111.start_eq k l m
theorem concat_vars {c : Con} (h : varsB c = true) : concatB [c.2.1, c.2.2.1] = true ∧ concatL [c.2.1, c.2.2.1] = varsD c := by
 unfold varsB at h
 simp only [Bool.and_eq_true, decide_eq_true_eq] at h
 refine ⟨?_, by unfold concatL varsD; simp⟩
 unfold concatB
 simp
 omega
theorem F95.sem (k : Nat) (c : Con) (h : varsB c = true) : callW F95.E false F95.fn k [.agg (explode ConT c)] = some (.v (.sl (.int .i64)) (varsD c)) := by
 refine (F95.start_eq k c).trans ?_
 obtain ⟨h1, h2⟩ := concat_vars h
 rw [h1, h2]
 rfl
end Go.Proofs.YtlfdikofmfhefaaGreatDoor.Ev
