/-
May a constraint be: what the functions answer.
Conditions: of the kinds that this seat is about.
-/
import Derived.Test.YtdihbphkbdelbaaGreatDoorAe
import Derived.Test.YtdihbphkbdelbaaGreatDoorAi
import Derived.Test.YtdihbphkbdelbaaGreatDoorAk
import Derived.Test.YtdihbphkbdelbaaGreatDoorAl
set_option linter.unusedVariables false
set_option linter.unusedSimpArgs false
set_option maxRecDepth 100000
namespace Go.Proofs.YtdihbphkbdelbaaGreatDoor.Ev
open Go
abbrev Rest := List Int × List Int × List Int × List Int × List Int × Int × List (List Int)
theorem bif_not (b y : Bool) : (bif !b then some (AV.v .bool false) else some (AV.v .bool y)) = some (AV.v .bool (b && y)) := by cases b <;> rfl
theorem bif_pos (b y : Bool) : (bif b then some (AV.v .bool y) else some (AV.v .bool false)) = some (AV.v .bool (b && y)) := by cases b <;> rfl
theorem bif_neg (b y : Bool) : (bif b then some (AV.v .bool false) else some (AV.v .bool y)) = some (AV.v .bool (!b && y)) := by cases b <;> rfl
theorem bif_no (b : Bool) : (bif b then some (AV.v .bool false) else some (AV.v .bool true)) = some (AV.v .bool (!b)) := by cases b <;> rfl
theorem bools {a b : Bool} (h : a = true ↔ b = true) : some (AV.v .bool a) = some (AV.v .bool b) := by rw [Bool.eq_iff_iff.mpr h]
theorem F81k19.sem (c : Rest) (hl : c.2.2.2.2.2.2.length ≤ maxLen) : callW F81k19.E false F81k19.fn (c.2.2.2.2.2.2.length + 1) [.agg (explode ConT ((19 : Int), c)), .v .str ⟨#[86, 99, 100, 107]⟩] = some (.v .bool (arityD (19, c) ⟨#[86, 99, 100, 107]⟩)) := by
 refine (F81k19.start_eq _ c).trans ?_
 rw [search_loop (fun n i => F81k19.l1_1_1_1_1_1_1_1_1_1_1_1_1_1_0_1_0 n _ c.1.length i 19 c.1 c.2.1 c.2.2.1 c.2.2.2.1 c.2.2.2.2.1 c.2.2.2.2.2.1 c.2.2.2.2.2.2) c.2.2.2.2.2.2 [] (fun r => !(decide ((r.length : Int) = (c.1.length : Int)))) (fun _ => (F81k19.kt (c.2.2.2.2.2.2.length + 1) [1, 1, 1, 1, 1, 1, 1, 1, 1, 1, 1, 1, 1, 1, 0, 1, 0]).ret ⟨slots 215 [(4, .v .bool false)], []⟩) _ hl (fun n i => F81k19.l1_1_1_1_1_1_1_1_1_1_1_1_1_1_0_1_0_eq n _ _ i _ _ _ _ _ _ _ _) _ 0 (by omega) (by omega) (by omega)]
 simp only [F81k19.c0, F81k19.c1]
 have e0 : (c.2.2.2.2.2.2.drop (Int.toNat 0)) = c.2.2.2.2.2.2 := rfl
 rw [e0]
 simp only [bif_not, bif_pos, bif_neg, bif_no, Bool.cond_self]
 refine bools ?_
 by_cases hr : c.2.2.2.2.2.2.length = 0
 ·have e1 : (c.2.2.2.2.2.2.any fun r => !(decide ((r.length : Int) = (c.1.length : Int)))) = false := by rw [List.length_eq_zero_iff.mp hr]; rfl
  rw [e1]
  simp [-List.length_eq_zero_iff, listB1, arityD, kB, hasK, countedD, alikeD, noneL, hr] <;> omega
 ·have hr2 : 0 < c.2.2.2.2.2.2.length := by omega
  simp [-List.length_eq_zero_iff, listB1, arityD, kB, hasK, countedD, alikeD, noneL, hr] <;> omega
theorem F92k19.sem (k : Nat) (c : Rest) : callW F92k19.E false F92k19.fn k [.agg (explode ConT ((19 : Int), c)), .v .str ⟨#[86, 99, 100, 107]⟩] = some (.v .bool (countedD (19, c) ⟨#[86, 99, 100, 107]⟩)) := by
 refine (F92k19.start_eq k c).trans ?_
 simp only [bif_not, bif_pos, bif_neg, bif_no, Bool.cond_self]
 refine bools ?_
 simp [-List.length_eq_zero_iff, withinD, countedD, noneL]
 constructor
 ·intro h
  omega
 ·intro h
  omega
theorem F93k19.sem (k : Nat) (c : Rest) : callW F93k19.E false F93k19.fn k [.agg (explode ConT ((19 : Int), c))] = some (.v .bool (alikeD (19, c))) := by
 refine (F93k19.start_eq k c).trans ?_
 simp only [bif_not, bif_pos, bif_neg, bif_no, Bool.cond_self]
 refine bools ?_
 simp [alikeD] <;> omega
theorem F98k19.sem (k : Nat) (c : Rest) : callW F98k19.E false F98k19.fn k [.agg (explode ConT ((19 : Int), c))] = some (.v .bool (countsD (19, c))) := (F98k19.start_eq k c).trans rfl
theorem F83k19.sem (c : Rest) (hl : c.2.2.2.2.2.2.length ≤ maxLen) : callW F83k19.E false F83k19.fn (c.2.2.2.2.2.2.length + 1) [.agg (explode ConT ((19 : Int), c))] = some (.v .bool (coefsD (19, c))) := by
 refine (F83k19.start_eq _ c).trans ?_
 rw [search_loop (fun n i => F83k19.l1_1_1_1_1_1_1_1_1_1_0_1_0 n _ i 19 c.1 c.2.1 c.2.2.1 c.2.2.2.1 c.2.2.2.2.1 c.2.2.2.2.2.1 c.2.2.2.2.2.2) c.2.2.2.2.2.2 [] (fun r => !(inL r (-1000000) 1000000)) (fun _ => (F83k19.kt (c.2.2.2.2.2.2.length + 1) [1, 1, 1, 1, 1, 1, 1, 1, 1, 1, 0, 1, 0]).ret ⟨slots 106 [(2, .v .bool false)], []⟩) _ hl (fun n i => F83k19.l1_1_1_1_1_1_1_1_1_1_0_1_0_eq n _ i _ _ _ _ _ _ _ _) _ 0 (by omega) (by omega) (by omega)]
 simp only [F83k19.c0, F83k19.c1, F83k19.l1_1_1_1_1_1_1_1_1_1_1_0_1_0_eq, F83k19.c3]
 have e0 : (c.2.2.2.2.2.2.drop (Int.toNat 0)) = c.2.2.2.2.2.2 := rfl
 have e1 : decide ((19 : Int) = 21) = false := rfl
 rw [e0, e1]
 simp only [cond_false, bif_not, bif_pos, bif_neg, bif_no, Bool.cond_self]
 refine bools ?_
 simp [coefsD]
 constructor
 ·intro h; refine ⟨⟨⟨⟨⟨?_, ?_⟩, ?_⟩, ?_⟩, ?_⟩, ?_⟩ <;> first | exact h.1 | exact h.2.1 | exact h.2.2.1 | exact h.2.2.2.1 | exact h.2.2.2.2.1 | exact h.2.2.2.2.2
 ·intro h; exact ⟨h.1.1.1.1.1, h.1.1.1.1.2, h.1.1.1.2, h.1.1.2, h.1.2, h.2⟩
theorem F51k19.sem (k : Nat) (c : Rest) (n : Int) (hn : n ≤ 1000000) : callW F51k19.E false F51k19.fn k [.agg (explode ConT ((19 : Int), c)), .v (.int .i64) n] = some (.v (.int .i64) (rightR (19, c) n)) := by
 refine (F51k19.start_eq k c n).trans ?_
 have e1 : decide ((19 : Int) < shapesL.length) = true := rfl
 have e2 : arityD (19, c) ⟨#[86, 99, 100, 107]⟩ = arityD (19, c) ⟨#[]⟩ := rfl
 rw [e1, e2]
 unfold rightR
 by_cases h : n > 0
 ·rw [wrap_ok (x := n - 1) (by omega) (by omega)]
  simp only [h, decide_true, cond_true, if_true]
  cases arityD (19, c) ⟨#[]⟩ <;> cases inL c.1 0 (n - 1) <;> cases inL c.2.1 0 (n - 1) <;> cases coefsD (19, c) <;> rfl
 ·simp only [h, decide_false, cond_false, cond_true, if_false]
  cases arityD (19, c) ⟨#[]⟩ <;> cases inL c.1 0 (-1) <;> cases inL c.2.1 0 (-1) <;> cases coefsD (19, c) <;> rfl
theorem F91.sem (k : Nat) (n : Int) : callW F91.E false F91.fn k [.v (.int .i64) n] = some (.v .str (shapeS n)) := by
 rw [F91.start_eq]
 unfold shapeS
 cases h : inS n with
 | false => simp
 | true =>
  unfold inS at h
  simp only [Bool.and_eq_true, decide_eq_true_eq] at h
  rw [wrap_ok (by omega) (by omega)]
  have e : formsL.length = 23 := rfl
  have h5 : 0 ≤ n - 1 := by omega
  have h6 : n - 1 < 23 := by omega
  rw [e]
  simp [h5, h6, h.1]
theorem F103.sem (k : Nat) (n : Int) : callW F103.E false F103.fn k [.v (.int .i64) n] = some (.tup [.v .str (wordS n), .v .bool (inS n)]) := by
 rw [F103.start_eq]
 unfold wordS inS
 have e : formsL.length = 23 := rfl
 rw [e]
 by_cases h1 : n < 1
 ·have h2 : ¬ 1 ≤ n := by omega
  simp [h1, h2]
 ·have h2 : 1 ≤ n := by omega
  by_cases h3 : n > 23
  ·have h4 : ¬ n ≤ 23 := by omega
   simp [h1, h3, h4]
  ·have h4 : n ≤ 23 := by omega
   rw [wrap_ok (by omega) (by omega)]
   have h5 : 0 ≤ n - 1 := by omega
   have h6 : n - 1 < 23 := by omega
   simp [h1, h2, h3, h4, h5, h6]
theorem F111.sem (k : Nat) (l : List Int) (m : Int) : callW F111.E false F111.fn k [.v (.sl (.int .i64)) l, .v (.int .i64) m] = some (.v .bool (boundedD l m)) := F111.start_eq k l m
theorem concat_vars {c : Con} (h : varsB c = true) : concatB [c.2.1, c.2.2.1] = true ∧ concatL [c.2.1, c.2.2.1] = varsD c := by
 unfold varsB at h
 simp only [Bool.and_eq_true, decide_eq_true_eq] at h
 refine ⟨?_, by unfold concatL varsD; simp⟩
 unfold concatB
 simp
 omega
theorem F95.sem (k : Nat) (c : Con) (h : varsB c = true) : callW F95.E false F95.fn k [.agg (explode ConT c)] = some (.v (.sl (.int .i64)) (varsD c)) := by
 refine (F95.start_eq k c).trans ?_
 obtain ⟨h1, h2⟩ := concat_vars h
 rw [h1, h2]
 rfl
theorem kind_cases {c : Con} (h : kindB c = true) : c.1 = 19 := by
 unfold kindB at h
 simp only [Bool.or_eq_true, decide_eq_true_eq] at h
 omega
theorem kind_facts {c : Con} (h : kindB c = true) : strEq (shapeS c.1) ⟨#[]⟩ = false ∧ shapeB c (shapeS c.1) = true ∧ has1 (shapeS c.1) ⟨#[107]⟩ = hasK c := by
 refine ⟨?_, by unfold shapeB; simp [h], ?_⟩
 ·rcases kind_cases h with e <;> rw [e] <;> rfl
 ·unfold hasK
  rcases kind_cases h with e <;> rw [e] <;> decide +kernel
theorem vars_of {c : Con} (h : kindB c = true) (hc : countedD c ⟨#[]⟩ = true) : varsB c = true := by
 unfold varsB
 simp only [Bool.and_eq_true, decide_eq_true_eq]
 rcases kind_cases h with e <;> simp [countedD, e, noneL, -List.length_eq_zero_iff] at hc <;> omega
theorem F76.sem (k : Nat) (c : Con) (n : Int) (hk : kindB c = true) : callW F76.E false F76.fn k [.agg (explode ConT c), .v (.int .i64) n] = some (.v (.int .i64) (rightM c n)) := by
 refine (F76.start_eq k c n).trans ?_
 obtain ⟨h1, h2, h3⟩ := kind_facts hk
 have e : countedD c (shapeS c.1) = countedD c ⟨#[]⟩ := rfl
 rw [h1, h2, hk, h3, e]
 unfold rightM kB countsD
 simp only [cond_true, cond_false]
 cases hc : countedD c ⟨#[]⟩ with
 | false => rfl
 | true =>
  rw [vars_of hk hc]
  simp only [cond_true, Bool.not_true, cond_false]
  cases alikeD c <;> cases decide (c.2.2.2.2.2.2.1 = 0) <;> cases hasK c <;> cases List.any (varsD c) (varB n) <;> cases numbersD c <;> rfl
theorem bTx {α : Type} {b : Bool} {x y : α} (h : b = true) : (bif b then x else y) = x := by rw [h]; rfl
theorem F97.gen (n : Nat) (K : Conts) (lo se kk : Int) (c : Con) (hn : c.2.2.2.2.2.2.2.length < n) (hl : c.2.2.2.2.2.2.2.length ≤ maxLen) : F97.n1_1_1 n K lo se kk c.1 c.2.1 c.2.2.1 c.2.2.2.1 c.2.2.2.2.1 c.2.2.2.2.2.1 c.2.2.2.2.2.2.1 c.2.2.2.2.2.2.2 =
  K.ret ⟨slots 53 [(2, .v .bool (c.2.2.2.2.2.2.2.all (fun r => boundedD r lo) && boundedD c.2.2.2.1 lo && boundedD c.2.2.2.2.1 se && boundedD c.2.2.2.2.2.1 se && decide (c.2.2.2.2.2.2.1 ≥ kk) && decide (c.2.2.2.2.2.2.1 ≤ 9999999999)))], []⟩ := by
 rw [F97.n1_1_1_eq]
 refine (search_loop (fun n' i => F97.l1_1_1_0_1_0 n' (F97.k_n1_1_1 n K [0, 1, 0]) lo se kk c.2.2.2.2.2.2.2 c.2.2.2.2.2.2.2.length i c.1 c.2.1 c.2.2.1 c.2.2.2.1 c.2.2.2.2.1 c.2.2.2.2.2.1 c.2.2.2.2.2.2.1 c.2.2.2.2.2.2.2) c.2.2.2.2.2.2.2 [] (fun r => !(boundedD r lo)) (fun _ => (F97.k_n1_1_1 n K [0, 1, 0]).ret ⟨slots 53 [(2, .v .bool false)], []⟩) _ hl (fun n' i => F97.l1_1_1_0_1_0_eq n' _ lo se kk _ _ i _ _ _ _ _ _ _ _) n 0 (by omega) (by omega) (by omega)).trans ?_
 rw [F97.c0, F97.c1]
 show (bif c.2.2.2.2.2.2.2.any (fun r => !(boundedD r lo)) then _ else _) = _
 have e : c.2.2.2.2.2.2.2.any (fun r => !(boundedD r lo)) = !(c.2.2.2.2.2.2.2.all fun r => boundedD r lo) := by
  induction c.2.2.2.2.2.2.2 with
  | nil => rfl
  | cons x l ih => rw [List.any_cons, List.all_cons, ih]; cases boundedD x lo <;> rfl
 rw [e]
 cases c.2.2.2.2.2.2.2.all fun r => boundedD r lo <;> cases boundedD c.2.2.2.1 lo <;> cases boundedD c.2.2.2.2.1 se <;> cases boundedD c.2.2.2.2.2.1 se <;> cases decide (c.2.2.2.2.2.2.1 ≥ kk) <;> rfl
theorem F97.sem (c : Con) (hk : kindB c = true) (hl : c.2.2.2.2.2.2.2.length ≤ maxLen) : callW F97.E false F97.fn (c.2.2.2.2.2.2.2.length + 1) [.agg (explode ConT c)] = some (.v .bool (numbersD c)) := by
 exact (F97.start_eq (c.2.2.2.2.2.2.2.length + 1) c).trans ((bTx (decide_eq_true (kind_cases hk))).trans ((F97.gen _ _ 0 0 0 c (Nat.lt_succ_self _) hl).trans (F97.c3 _ _)))
end Go.Proofs.YtdihbphkbdelbaaGreatDoor.Ev
