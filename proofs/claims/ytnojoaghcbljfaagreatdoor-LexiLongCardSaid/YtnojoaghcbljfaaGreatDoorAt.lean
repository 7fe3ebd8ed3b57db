/-
May a constraint be: what the functions answer.
Conditions: of the kinds that this seat is about.
-/
import Derived.Test.YtnojoaghcbljfaaGreatDoorAe
import Derived.Test.YtnojoaghcbljfaaGreatDoorAi
import Derived.Test.YtnojoaghcbljfaaGreatDoorAk
import Derived.Test.YtnojoaghcbljfaaGreatDoorAl
set_option linter.unusedVariables false
set_option linter.unusedSimpArgs false
set_option maxRecDepth 100000
namespace Go.Proofs.YtnojoaghcbljfaaGreatDoor.Ev
open Go
abbrev Rest := List Int × List Int × List Int × List Int × List Int × Int × List (List Int)
theorem bif_not (b y : Bool) : (bif !b then some (AV.v .bool false) else some (AV.v .bool y)) = some (AV.v .bool (b && y)) := by cases b <;> rfl
theorem bif_pos (b y : Bool) : (bif b then some (AV.v .bool y) else some (AV.v .bool false)) = some (AV.v .bool (b && y)) := by cases b <;> rfl
theorem bif_neg (b y : Bool) : (bif b then some (AV.v .bool false) else some (AV.v .bool y)) = some (AV.v .bool (!b && y)) := by cases b <;> rfl
theorem bif_no (b : Bool) : (bif b then some (AV.v .bool false) else some (AV.v .bool true)) = some (AV.v .bool (!b)) := by cases b <;> rfl
theorem bools {a b : Bool} (h : a = true ↔ b = true) : some (AV.v .bool a) = some (AV.v .bool b) := by rw [Bool.eq_iff_iff.mpr h]
theorem F92k22.sem (k : Nat) (c : Rest) : callW F92k22.E false F92k22.fn k [.agg (explode ConT ((22 : Int), c)), .v .str ⟨#[86, 87]⟩] = some (.v .bool (countedD (22, c) ⟨#[86, 87]⟩)) := by
 refine (F92k22.start_eq k c).trans ?_
 simp only [bif_not, bif_pos, bif_neg, bif_no, Bool.cond_self]
 refine bools ?_
 simp [-List.length_eq_zero_iff, withinD, countedD, noneL]
 constructor
 ·intro h
  omega
 ·intro h
  omega
theorem F93k22.sem (k : Nat) (c : Rest) : callW F93k22.E false F93k22.fn k [.agg (explode ConT ((22 : Int), c))] = some (.v .bool (alikeD (22, c))) := by
 refine (F93k22.start_eq k c).trans (bools ?_)
 simp [alikeD] <;> omega
theorem F98k22.sem (k : Nat) (c : Rest) : callW F98k22.E false F98k22.fn k [.agg (explode ConT ((22 : Int), c))] = some (.v .bool (countsD (22, c))) := (F98k22.start_eq k c).trans rfl
theorem F91.sem (k : Nat) (n : Int) : callW F91.E false F91.fn k [.v (.int .i64) n] = some (.v .str (shapeS n)) := by
 rw [F91.start_eq]
 unfold shapeS
 cases h : inS n with
 | false => simp
 | true =>
  unfold inS at h
  simp only [Bool.and_eq_true, decide_eq_true_eq] at h
  rw [wrap_ok (by omega) (by omega)]
  have e : formsL.length = 23 := rfl
  have h5 : 0 ≤ n - 1 := by omega
  have h6 : n - 1 < 23 := by omega
  rw [e]
  simp [h5, h6, h.1]
theorem F103.sem (k : Nat) (n : Int) : callW F103.E false F103.fn k [.v (.int .i64) n] = some (.tup [.v .str (wordS n), .v .bool (inS n)]) := by
 rw [F103.start_eq]
 unfold wordS inS
 have e : formsL.length = 23 := rfl
 rw [e]
 by_cases h1 : n < 1
 ·have h2 : ¬ 1 ≤ n := by omega
  simp [h1, h2]
 ·have h2 : 1 ≤ n := by omega
  by_cases h3 : n > 23
  ·have h4 : ¬ n ≤ 23 := by omega
   simp [h1, h3, h4]
  ·have h4 : n ≤ 23 := by omega
   rw [wrap_ok (by omega) (by omega)]
   have h5 : 0 ≤ n - 1 := by omega
   have h6 : n - 1 < 23 := by omega
   simp [h1, h2, h3, h4, h5, h6]
theorem F111.sem (k : Nat) (l : List Int) (m : Int) : callW F111.E false F111.fn k [.v (.sl (.int .i64)) l, .v (.int .i64) m] = some (.v .bool (boundedD l m)) := F111.start_eq k l m
theorem concat_vars {c : Con} (h : varsB c = true) : concatB [c.2.1, c.2.2.1] = true ∧ concatL [c.2.1, c.2.2.1] = varsD c := by
 unfold varsB at h
 simp only [Bool.and_eq_true, decide_eq_true_eq] at h
 refine ⟨?_, by unfold concatL varsD; simp⟩
 unfold concatB
 simp
 omega
theorem F95.sem (k : Nat) (c : Con) (h : varsB c = true) : callW F95.E false F95.fn k [.agg (explode ConT c)] = some (.v (.sl (.int .i64)) (varsD c)) := by
 refine (F95.start_eq k c).trans ?_
 obtain ⟨h1, h2⟩ := concat_vars h
 rw [h1, h2]
 rfl
theorem kind_cases {c : Con} (h : kindB c = true) : c.1 = 22 := by
 unfold kindB at h
 simp only [Bool.or_eq_true, decide_eq_true_eq] at h
 omega
theorem kind_facts {c : Con} (h : kindB c = true) : strEq (shapeS c.1) ⟨#[]⟩ = false ∧ shapeB c (shapeS c.1) = true ∧ has1 (shapeS c.1) ⟨#[107]⟩ = hasK c := by
 refine ⟨?_, by unfold shapeB; simp [h], ?_⟩
 ·rcases kind_cases h with e <;> rw [e] <;> rfl
 ·unfold hasK
  rcases kind_cases h with e <;> rw [e] <;> decide +kernel
theorem vars_of {c : Con} (h : kindB c = true) (hc : countedD c ⟨#[]⟩ = true) : varsB c = true := by
 unfold varsB
 simp only [Bool.and_eq_true, decide_eq_true_eq]
 rcases kind_cases h with e <;> simp [countedD, e, noneL, -List.length_eq_zero_iff] at hc <;> omega
theorem F76.sem (k : Nat) (c : Con) (n : Int) (hk : kindB c = true) : callW F76.E false F76.fn k [.agg (explode ConT c), .v (.int .i64) n] = some (.v (.int .i64) (rightM c n)) := by
 refine (F76.start_eq k c n).trans ?_
 obtain ⟨h1, h2, h3⟩ := kind_facts hk
 have e : countedD c (shapeS c.1) = countedD c ⟨#[]⟩ := rfl
 rw [h1, h2, hk, h3, e]
 unfold rightM kB countsD
 simp only [cond_true, cond_false]
 cases hc : countedD c ⟨#[]⟩ with
 | false => rfl
 | true =>
  rw [vars_of hk hc]
  simp only [cond_true, Bool.not_true, cond_false]
  cases alikeD c <;> cases decide (c.2.2.2.2.2.2.1 = 0) <;> cases hasK c <;> cases List.any (varsD c) (varB n) <;> cases numbersD c <;> rfl
theorem F97.sem (c : Con) (hk : kindB c = true) (hl : c.2.2.2.2.2.2.2.length ≤ maxLen) : callW F97.E false F97.fn (c.2.2.2.2.2.2.2.length + 1) [.agg (explode ConT c)] = some (.v .bool (numbersD c)) := by
 refine (F97.start_eq _ c).trans ?_
 have e1 : decide (c.1 = 19) = false := by rcases kind_cases hk with e <;> rw [e] <;> rfl
 have e2 : decide (c.1 = 21) = false := by rcases kind_cases hk with e <;> rw [e] <;> rfl
 rw [e1, e2]
 simp only [cond_false]
 rw [F97.n1_1_1_eq]
 rw [search_loop (fun n i => F97.l1_1_1_0_1_0 n _ (-1000000) (-1000000) (-9999999999) c.2.2.2.2.2.2.2 c.2.2.2.2.2.2.2.length i c.1 c.2.1 c.2.2.1 c.2.2.2.1 c.2.2.2.2.1 c.2.2.2.2.2.1 c.2.2.2.2.2.2.1 c.2.2.2.2.2.2.2) c.2.2.2.2.2.2.2 [] (fun r => !(boundedD r (-1000000))) (fun _ => (F97.k_n1_1_1 (c.2.2.2.2.2.2.2.length + 1) (F97.kt (c.2.2.2.2.2.2.2.length + 1) [1, 1, 1]) [0, 1, 0]).ret ⟨slots 53 [(2, .v .bool false)], []⟩) _ hl (fun n i => F97.l1_1_1_0_1_0_eq n _ _ _ _ _ _ i _ _ _ _ _ _ _ _) _ 0 (by omega) (by omega) (by omega)]
 simp only [F97.c0, F97.c1, F97.c2, F97.c3]
 have e0 : (c.2.2.2.2.2.2.2.drop (Int.toNat 0)) = c.2.2.2.2.2.2.2 := rfl
 rw [e0]
 simp only [bif_not, bif_pos, bif_neg, bif_no, Bool.cond_self]
 refine bools ?_
 simp [numbersD]
 constructor
 ·intro h; refine ⟨⟨⟨⟨⟨?_, ?_⟩, ?_⟩, ?_⟩, ?_⟩, ?_⟩ <;> first | exact h.1 | exact h.2.1 | exact h.2.2.1 | exact h.2.2.2.1 | exact h.2.2.2.2.1 | exact h.2.2.2.2.2
 ·intro h; exact ⟨h.1.1.1.1.1, h.1.1.1.1.2, h.1.1.1.2, h.1.1.2, h.1.2, h.2⟩
end Go.Proofs.YtnojoaghcbljfaaGreatDoor.Ev
