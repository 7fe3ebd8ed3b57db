/-
May a constraint be: what the functions answer.
Conditions: of the kinds that this seat is about.
-/
import Derived.Test.YtnojoaghcbljfaaGreatDoorAe
import Derived.Test.YtnojoaghcbljfaaGreatDoorAi
import Derived.Test.YtnojoaghcbljfaaGreatDoorAk
import Derived.Test.YtnojoaghcbljfaaGreatDoorAl
set_option linter.unusedVariables false
set_option linter.unusedSimpArgs false
set_option maxRecDepth 100000
namespace Go.Proofs.YtnojoaghcbljfaaGreatDoor.Ev
open Go
abbrev Rest := List Int × List Int × List Int × List Int × List Int × Int × List (List Int)
theorem bif_not (b y : Bool) : (bif !b then some (AV.v .bool false) else some (AV.v .bool y)) = some (AV.v .bool (b && y)) := by cases b <;> rfl
theorem bif_pos (b y : Bool) : (bif b then some (AV.v .bool y) else some (AV.v .bool false)) = some (AV.v .bool (b && y)) := by cases b <;> rfl
theorem bif_neg (b y : Bool) : (bif b then some (AV.v .bool false) else some (AV.v .bool y)) = some (AV.v .bool (!b && y)) := by cases b <;> rfl
theorem bif_no (b : Bool) : (bif b then some (AV.v .bool false) else some (AV.v .bool true)) = some (AV.v .bool (!b)) := by cases b <;> rfl
theorem bools {a b : Bool} (h : a = true ↔ b = true) : some (AV.v .bool a) = some (AV.v .bool b) := by rw [Bool.eq_iff_iff.mpr h]
theorem F81k1.sem (c : Rest) (hl : c.2.2.2.2.2.2.length ≤ maxLen) : callW F81k1.E false F81k1.fn (c.2.2.2.2.2.2.length + 1) [.agg (explode ConT ((1 : Int), c)), .v .str ⟨#[99, 86, 107]⟩] = some (.v .bool (arityD (1, c) ⟨#[99, 86, 107]⟩)) := by
 refine (F81k1.start_eq _ c).trans ?_
 rw [search_loop (fun n i => F81k1.l1_1_1_1_1_1_1_1_1_1_1_1_1_1_0_1_0 n _ c.1.length i 1 c.1 c.2.1 c.2.2.1 c.2.2.2.1 c.2.2.2.2.1 c.2.2.2.2.2.1 c.2.2.2.2.2.2) c.2.2.2.2.2.2 [] (fun r => !(decide ((r.length : Int) = (c.1.length : Int)))) (fun _ => (F81k1.kt (c.2.2.2.2.2.2.length + 1) [1, 1, 1, 1, 1, 1, 1, 1, 1, 1, 1, 1, 1, 1, 0, 1, 0]).ret ⟨slots 215 [(4, .v .bool false)], []⟩) _ hl (fun n i => F81k1.l1_1_1_1_1_1_1_1_1_1_1_1_1_1_0_1_0_eq n _ _ i _ _ _ _ _ _ _ _) _ 0 (by omega) (by omega) (by omega)]
 simp only [F81k1.c0, F81k1.c1]
 have e0 : (c.2.2.2.2.2.2.drop (Int.toNat 0)) = c.2.2.2.2.2.2 := rfl
 rw [e0]
 simp only [bif_not, bif_pos, bif_neg, bif_no, Bool.cond_self]
 refine bools ?_
 by_cases hr : c.2.2.2.2.2.2.length = 0
 ·have e1 : (c.2.2.2.2.2.2.any fun r => !(decide ((r.length : Int) = (c.1.length : Int)))) = false := by rw [List.length_eq_zero_iff.mp hr]; rfl
  rw [e1]
  simp [-List.length_eq_zero_iff, listB1, arityD, kB, hasK, countedD, alikeD, noneL, hr] <;> omega
 ·have hr2 : 0 < c.2.2.2.2.2.2.length := by omega
  simp [-List.length_eq_zero_iff, listB1, arityD, kB, hasK, countedD, alikeD, noneL, hr] <;> omega
theorem F81k2.sem (c : Rest) (hl : c.2.2.2.2.2.2.length ≤ maxLen) : callW F81k2.E false F81k2.fn (c.2.2.2.2.2.2.length + 1) [.agg (explode ConT ((2 : Int), c)), .v .str ⟨#[99, 86, 107]⟩] = some (.v .bool (arityD (2, c) ⟨#[99, 86, 107]⟩)) := by
 refine (F81k2.start_eq _ c).trans ?_
 rw [search_loop (fun n i => F81k2.l1_1_1_1_1_1_1_1_1_1_1_1_1_1_0_1_0 n _ c.1.length i 2 c.1 c.2.1 c.2.2.1 c.2.2.2.1 c.2.2.2.2.1 c.2.2.2.2.2.1 c.2.2.2.2.2.2) c.2.2.2.2.2.2 [] (fun r => !(decide ((r.length : Int) = (c.1.length : Int)))) (fun _ => (F81k2.kt (c.2.2.2.2.2.2.length + 1) [1, 1, 1, 1, 1, 1, 1, 1, 1, 1, 1, 1, 1, 1, 0, 1, 0]).ret ⟨slots 215 [(4, .v .bool false)], []⟩) _ hl (fun n i => F81k2.l1_1_1_1_1_1_1_1_1_1_1_1_1_1_0_1_0_eq n _ _ i _ _ _ _ _ _ _ _) _ 0 (by omega) (by omega) (by omega)]
 simp only [F81k2.c0, F81k2.c1]
 have e0 : (c.2.2.2.2.2.2.drop (Int.toNat 0)) = c.2.2.2.2.2.2 := rfl
 rw [e0]
 simp only [bif_not, bif_pos, bif_neg, bif_no, Bool.cond_self]
 refine bools ?_
 by_cases hr : c.2.2.2.2.2.2.length = 0
 ·have e1 : (c.2.2.2.2.2.2.any fun r => !(decide ((r.length : Int) = (c.1.length : Int)))) = false := by rw [List.length_eq_zero_iff.mp hr]; rfl
  rw [e1]
  simp [-List.length_eq_zero_iff, listB1, arityD, kB, hasK, countedD, alikeD, noneL, hr] <;> omega
 ·have hr2 : 0 < c.2.2.2.2.2.2.length := by omega
  simp [-List.length_eq_zero_iff, listB1, arityD, kB, hasK, countedD, alikeD, noneL, hr] <;> omega
theorem F81k3.sem (c : Rest) (hl : c.2.2.2.2.2.2.length ≤ maxLen) : callW F81k3.E false F81k3.fn (c.2.2.2.2.2.2.length + 1) [.agg (explode ConT ((3 : Int), c)), .v .str ⟨#[99, 86, 107]⟩] = some (.v .bool (arityD (3, c) ⟨#[99, 86, 107]⟩)) := by
 refine (F81k3.start_eq _ c).trans ?_
 rw [search_loop (fun n i => F81k3.l1_1_1_1_1_1_1_1_1_1_1_1_1_1_0_1_0 n _ c.1.length i 3 c.1 c.2.1 c.2.2.1 c.2.2.2.1 c.2.2.2.2.1 c.2.2.2.2.2.1 c.2.2.2.2.2.2) c.2.2.2.2.2.2 [] (fun r => !(decide ((r.length : Int) = (c.1.length : Int)))) (fun _ => (F81k3.kt (c.2.2.2.2.2.2.length + 1) [1, 1, 1, 1, 1, 1, 1, 1, 1, 1, 1, 1, 1, 1, 0, 1, 0]).ret ⟨slots 215 [(4, .v .bool false)], []⟩) _ hl (fun n i => F81k3.l1_1_1_1_1_1_1_1_1_1_1_1_1_1_0_1_0_eq n _ _ i _ _ _ _ _ _ _ _) _ 0 (by omega) (by omega) (by omega)]
 simp only [F81k3.c0, F81k3.c1]
 have e0 : (c.2.2.2.2.2.2.drop (Int.toNat 0)) = c.2.2.2.2.2.2 := rfl
 rw [e0]
 simp only [bif_not, bif_pos, bif_neg, bif_no, Bool.cond_self]
 refine bools ?_
 by_cases hr : c.2.2.2.2.2.2.length = 0
 ·have e1 : (c.2.2.2.2.2.2.any fun r => !(decide ((r.length : Int) = (c.1.length : Int)))) = false := by rw [List.length_eq_zero_iff.mp hr]; rfl
  rw [e1]
  simp [-List.length_eq_zero_iff, listB1, arityD, kB, hasK, countedD, alikeD, noneL, hr] <;> omega
 ·have hr2 : 0 < c.2.2.2.2.2.2.length := by omega
  simp [-List.length_eq_zero_iff, listB1, arityD, kB, hasK, countedD, alikeD, noneL, hr] <;> omega
theorem F81k4.sem (c : Rest) (hl : c.2.2.2.2.2.2.length ≤ maxLen) : callW F81k4.E false F81k4.fn (c.2.2.2.2.2.2.length + 1) [.agg (explode ConT ((4 : Int), c)), .v .str ⟨#[99, 86, 107, 119]⟩] = some (.v .bool (arityD (4, c) ⟨#[99, 86, 107, 119]⟩)) := by
 refine (F81k4.start_eq _ c).trans ?_
 rw [search_loop (fun n i => F81k4.l1_1_1_1_1_1_1_1_1_1_1_1_1_1_0_1_0 n _ c.1.length i 4 c.1 c.2.1 c.2.2.1 c.2.2.2.1 c.2.2.2.2.1 c.2.2.2.2.2.1 c.2.2.2.2.2.2) c.2.2.2.2.2.2 [] (fun r => !(decide ((r.length : Int) = (c.1.length : Int)))) (fun _ => (F81k4.kt (c.2.2.2.2.2.2.length + 1) [1, 1, 1, 1, 1, 1, 1, 1, 1, 1, 1, 1, 1, 1, 0, 1, 0]).ret ⟨slots 215 [(4, .v .bool false)], []⟩) _ hl (fun n i => F81k4.l1_1_1_1_1_1_1_1_1_1_1_1_1_1_0_1_0_eq n _ _ i _ _ _ _ _ _ _ _) _ 0 (by omega) (by omega) (by omega)]
 simp only [F81k4.c0, F81k4.c1]
 have e0 : (c.2.2.2.2.2.2.drop (Int.toNat 0)) = c.2.2.2.2.2.2 := rfl
 rw [e0]
 simp only [bif_not, bif_pos, bif_neg, bif_no, Bool.cond_self]
 refine bools ?_
 by_cases hr : c.2.2.2.2.2.2.length = 0
 ·have e1 : (c.2.2.2.2.2.2.any fun r => !(decide ((r.length : Int) = (c.1.length : Int)))) = false := by rw [List.length_eq_zero_iff.mp hr]; rfl
  rw [e1]
  simp [-List.length_eq_zero_iff, listB1, arityD, kB, hasK, countedD, alikeD, noneL, hr] <;> omega
 ·have hr2 : 0 < c.2.2.2.2.2.2.length := by omega
  simp [-List.length_eq_zero_iff, listB1, arityD, kB, hasK, countedD, alikeD, noneL, hr] <;> omega
theorem F92k1.sem (k : Nat) (c : Rest) : callW F92k1.E false F92k1.fn k [.agg (explode ConT ((1 : Int), c)), .v .str ⟨#[99, 86, 107]⟩] = some (.v .bool (countedD (1, c) ⟨#[99, 86, 107]⟩)) := by
 refine (F92k1.start_eq k c).trans ?_
 simp only [bif_not, bif_pos, bif_neg, bif_no, Bool.cond_self]
 refine bools ?_
 simp [-List.length_eq_zero_iff, withinD, countedD, noneL]
 constructor
 ·intro h
  omega
 ·intro h
  omega
theorem F93k1.sem (k : Nat) (c : Rest) : callW F93k1.E false F93k1.fn k [.agg (explode ConT ((1 : Int), c))] = some (.v .bool (alikeD (1, c))) := by
 refine (F93k1.start_eq k c).trans (bools ?_)
 simp [alikeD] <;> omega
theorem F98k1.sem (k : Nat) (c : Rest) : callW F98k1.E false F98k1.fn k [.agg (explode ConT ((1 : Int), c))] = some (.v .bool (countsD (1, c))) := (F98k1.start_eq k c).trans rfl
theorem F92k2.sem (k : Nat) (c : Rest) : callW F92k2.E false F92k2.fn k [.agg (explode ConT ((2 : Int), c)), .v .str ⟨#[99, 86, 107]⟩] = some (.v .bool (countedD (2, c) ⟨#[99, 86, 107]⟩)) := by
 refine (F92k2.start_eq k c).trans ?_
 simp only [bif_not, bif_pos, bif_neg, bif_no, Bool.cond_self]
 refine bools ?_
 simp [-List.length_eq_zero_iff, withinD, countedD, noneL]
 constructor
 ·intro h
  omega
 ·intro h
  omega
theorem F93k2.sem (k : Nat) (c : Rest) : callW F93k2.E false F93k2.fn k [.agg (explode ConT ((2 : Int), c))] = some (.v .bool (alikeD (2, c))) := by
 refine (F93k2.start_eq k c).trans (bools ?_)
 simp [alikeD] <;> omega
theorem F98k2.sem (k : Nat) (c : Rest) : callW F98k2.E false F98k2.fn k [.agg (explode ConT ((2 : Int), c))] = some (.v .bool (countsD (2, c))) := (F98k2.start_eq k c).trans rfl
theorem F92k3.sem (k : Nat) (c : Rest) : callW F92k3.E false F92k3.fn k [.agg (explode ConT ((3 : Int), c)), .v .str ⟨#[99, 86, 107]⟩] = some (.v .bool (countedD (3, c) ⟨#[99, 86, 107]⟩)) := by
 refine (F92k3.start_eq k c).trans ?_
 simp only [bif_not, bif_pos, bif_neg, bif_no, Bool.cond_self]
 refine bools ?_
 simp [-List.length_eq_zero_iff, withinD, countedD, noneL]
 constructor
 ·intro h
  omega
 ·intro h
  omega
theorem F93k3.sem (k : Nat) (c : Rest) : callW F93k3.E false F93k3.fn k [.agg (explode ConT ((3 : Int), c))] = some (.v .bool (alikeD (3, c))) := by
 refine (F93k3.start_eq k c).trans (bools ?_)
 simp [alikeD] <;> omega
theorem F98k3.sem (k : Nat) (c : Rest) : callW F98k3.E false F98k3.fn k [.agg (explode ConT ((3 : Int), c))] = some (.v .bool (countsD (3, c))) := (F98k3.start_eq k c).trans rfl
theorem F92k4.sem (k : Nat) (c : Rest) : callW F92k4.E false F92k4.fn k [.agg (explode ConT ((4 : Int), c)), .v .str ⟨#[99, 86, 107, 119]⟩] = some (.v .bool (countedD (4, c) ⟨#[99, 86, 107, 119]⟩)) := by
 refine (F92k4.start_eq k c).trans ?_
 simp only [bif_not, bif_pos, bif_neg, bif_no, Bool.cond_self]
 refine bools ?_
 simp [-List.length_eq_zero_iff, withinD, countedD, noneL]
 constructor
 ·intro h
  omega
 ·intro h
  omega
theorem F93k4.sem (k : Nat) (c : Rest) : callW F93k4.E false F93k4.fn k [.agg (explode ConT ((4 : Int), c))] = some (.v .bool (alikeD (4, c))) := by
 refine (F93k4.start_eq k c).trans (bools ?_)
 simp [alikeD] <;> omega
theorem F98k4.sem (k : Nat) (c : Rest) : callW F98k4.E false F98k4.fn k [.agg (explode ConT ((4 : Int), c))] = some (.v .bool (countsD (4, c))) := (F98k4.start_eq k c).trans rfl
theorem F83k1.sem (c : Rest) (hl : c.2.2.2.2.2.2.length ≤ maxLen) : callW F83k1.E false F83k1.fn (c.2.2.2.2.2.2.length + 1) [.agg (explode ConT ((1 : Int), c))] = some (.v .bool (coefsD (1, c))) := by
 refine (F83k1.start_eq _ c).trans ?_
 rw [search_loop (fun n i => F83k1.l1_1_1_1_1_1_1_1_1_1_0_1_0 n _ i 1 c.1 c.2.1 c.2.2.1 c.2.2.2.1 c.2.2.2.2.1 c.2.2.2.2.2.1 c.2.2.2.2.2.2) c.2.2.2.2.2.2 [] (fun r => !(inL r (-1000000) 1000000)) (fun _ => (F83k1.kt (c.2.2.2.2.2.2.length + 1) [1, 1, 1, 1, 1, 1, 1, 1, 1, 1, 0, 1, 0]).ret ⟨slots 106 [(2, .v .bool false)], []⟩) _ hl (fun n i => F83k1.l1_1_1_1_1_1_1_1_1_1_0_1_0_eq n _ i _ _ _ _ _ _ _ _) _ 0 (by omega) (by omega) (by omega)]
 simp only [F83k1.c0, F83k1.c1, F83k1.l1_1_1_1_1_1_1_1_1_1_1_0_1_0_eq, F83k1.c3]
 have e0 : (c.2.2.2.2.2.2.drop (Int.toNat 0)) = c.2.2.2.2.2.2 := rfl
 have e1 : decide ((1 : Int) = 21) = false := rfl
 rw [e0, e1]
 simp only [cond_false, bif_not, bif_pos, bif_neg, bif_no, Bool.cond_self]
 refine bools ?_
 simp [coefsD]
 constructor
 ·intro h; refine ⟨⟨⟨⟨⟨?_, ?_⟩, ?_⟩, ?_⟩, ?_⟩, ?_⟩ <;> first | exact h.1 | exact h.2.1 | exact h.2.2.1 | exact h.2.2.2.1 | exact h.2.2.2.2.1 | exact h.2.2.2.2.2
 ·intro h; exact ⟨h.1.1.1.1.1, h.1.1.1.1.2, h.1.1.1.2, h.1.1.2, h.1.2, h.2⟩
theorem F51k1.sem (k : Nat) (c : Rest) (n : Int) (hn : n ≤ 1000000) : callW F51k1.E false F51k1.fn k [.agg (explode ConT ((1 : Int), c)), .v (.int .i64) n] = some (.v (.int .i64) (rightR (1, c) n)) := by
 refine (F51k1.start_eq k c n).trans ?_
 have e1 : decide ((1 : Int) < shapesL.length) = true := rfl
 have e2 : arityD (1, c) ⟨#[99, 86, 107]⟩ = arityD (1, c) ⟨#[]⟩ := rfl
 rw [e1, e2]
 unfold rightR
 by_cases h : n > 0
 ·rw [wrap_ok (x := n - 1) (by omega) (by omega)]
  simp only [h, decide_true, cond_true, if_true]
  cases arityD (1, c) ⟨#[]⟩ <;> cases inL c.1 0 (n - 1) <;> cases inL c.2.1 0 (n - 1) <;> cases coefsD (1, c) <;> rfl
 ·simp only [h, decide_false, cond_false, cond_true, if_false]
  cases arityD (1, c) ⟨#[]⟩ <;> cases inL c.1 0 (-1) <;> cases inL c.2.1 0 (-1) <;> cases coefsD (1, c) <;> rfl
theorem F83k2.sem (c : Rest) (hl : c.2.2.2.2.2.2.length ≤ maxLen) : callW F83k2.E false F83k2.fn (c.2.2.2.2.2.2.length + 1) [.agg (explode ConT ((2 : Int), c))] = some (.v .bool (coefsD (2, c))) := by
 refine (F83k2.start_eq _ c).trans ?_
 rw [search_loop (fun n i => F83k2.l1_1_1_1_1_1_1_1_1_1_0_1_0 n _ i 2 c.1 c.2.1 c.2.2.1 c.2.2.2.1 c.2.2.2.2.1 c.2.2.2.2.2.1 c.2.2.2.2.2.2) c.2.2.2.2.2.2 [] (fun r => !(inL r (-1000000) 1000000)) (fun _ => (F83k2.kt (c.2.2.2.2.2.2.length + 1) [1, 1, 1, 1, 1, 1, 1, 1, 1, 1, 0, 1, 0]).ret ⟨slots 106 [(2, .v .bool false)], []⟩) _ hl (fun n i => F83k2.l1_1_1_1_1_1_1_1_1_1_0_1_0_eq n _ i _ _ _ _ _ _ _ _) _ 0 (by omega) (by omega) (by omega)]
 simp only [F83k2.c0, F83k2.c1, F83k2.l1_1_1_1_1_1_1_1_1_1_1_0_1_0_eq, F83k2.c3]
 have e0 : (c.2.2.2.2.2.2.drop (Int.toNat 0)) = c.2.2.2.2.2.2 := rfl
 have e1 : decide ((2 : Int) = 21) = false := rfl
 rw [e0, e1]
 simp only [cond_false, bif_not, bif_pos, bif_neg, bif_no, Bool.cond_self]
 refine bools ?_
 simp [coefsD]
 constructor
 ·intro h; refine ⟨⟨⟨⟨⟨?_, ?_⟩, ?_⟩, ?_⟩, ?_⟩, ?_⟩ <;> first | exact h.1 | exact h.2.1 | exact h.2.2.1 | exact h.2.2.2.1 | exact h.2.2.2.2.1 | exact h.2.2.2.2.2
 ·intro h; exact ⟨h.1.1.1.1.1, h.1.1.1.1.2, h.1.1.1.2, h.1.1.2, h.1.2, h.2⟩
theorem F51k2.sem (k : Nat) (c : Rest) (n : Int) (hn : n ≤ 1000000) : callW F51k2.E false F51k2.fn k [.agg (explode ConT ((2 : Int), c)), .v (.int .i64) n] = some (.v (.int .i64) (rightR (2, c) n)) := by
 refine (F51k2.start_eq k c n).trans ?_
 have e1 : decide ((2 : Int) < shapesL.length) = true := rfl
 have e2 : arityD (2, c) ⟨#[99, 86, 107]⟩ = arityD (2, c) ⟨#[]⟩ := rfl
 rw [e1, e2]
 unfold rightR
 by_cases h : n > 0
 ·rw [wrap_ok (x := n - 1) (by omega) (by omega)]
  simp only [h, decide_true, cond_true, if_true]
  cases arityD (2, c) ⟨#[]⟩ <;> cases inL c.1 0 (n - 1) <;> cases inL c.2.1 0 (n - 1) <;> cases coefsD (2, c) <;> rfl
 ·simp only [h, decide_false, cond_false, cond_true, if_false]
  cases arityD (2, c) ⟨#[]⟩ <;> cases inL c.1 0 (-1) <;> cases inL c.2.1 0 (-1) <;> cases coefsD (2, c) <;> rfl
theorem F83k3.sem (c : Rest) (hl : c.2.2.2.2.2.2.length ≤ maxLen) : callW F83k3.E false F83k3.fn (c.2.2.2.2.2.2.length + 1) [.agg (explode ConT ((3 : Int), c))] = some (.v .bool (coefsD (3, c))) := by
 refine (F83k3.start_eq _ c).trans ?_
 rw [search_loop (fun n i => F83k3.l1_1_1_1_1_1_1_1_1_1_0_1_0 n _ i 3 c.1 c.2.1 c.2.2.1 c.2.2.2.1 c.2.2.2.2.1 c.2.2.2.2.2.1 c.2.2.2.2.2.2) c.2.2.2.2.2.2 [] (fun r => !(inL r (-1000000) 1000000)) (fun _ => (F83k3.kt (c.2.2.2.2.2.2.length + 1) [1, 1, 1, 1, 1, 1, 1, 1, 1, 1, 0, 1, 0]).ret ⟨slots 106 [(2, .v .bool false)], []⟩) _ hl (fun n i => F83k3.l1_1_1_1_1_1_1_1_1_1_0_1_0_eq n _ i _ _ _ _ _ _ _ _) _ 0 (by omega) (by omega) (by omega)]
 simp only [F83k3.c0, F83k3.c1, F83k3.l1_1_1_1_1_1_1_1_1_1_1_0_1_0_eq, F83k3.c3]
 have e0 : (c.2.2.2.2.2.2.drop (Int.toNat 0)) = c.2.2.2.2.2.2 := rfl
 have e1 : decide ((3 : Int) = 21) = false := rfl
 rw [e0, e1]
 simp only [cond_false, bif_not, bif_pos, bif_neg, bif_no, Bool.cond_self]
 refine bools ?_
 simp [coefsD]
 constructor
 ·intro h; refine ⟨⟨⟨⟨⟨?_, ?_⟩, ?_⟩, ?_⟩, ?_⟩, ?_⟩ <;> first | exact h.1 | exact h.2.1 | exact h.2.2.1 | exact h.2.2.2.1 | exact h.2.2.2.2.1 | exact h.2.2.2.2.2
 ·intro h; exact ⟨h.1.1.1.1.1, h.1.1.1.1.2, h.1.1.1.2, h.1.1.2, h.1.2, h.2⟩
theorem F51k3.sem (k : Nat) (c : Rest) (n : Int) (hn : n ≤ 1000000) : callW F51k3.E false F51k3.fn k [.agg (explode ConT ((3 : Int), c)), .v (.int .i64) n] = some (.v (.int .i64) (rightR (3, c) n)) := by
 refine (F51k3.start_eq k c n).trans ?_
 have e1 : decide ((3 : Int) < shapesL.length) = true := rfl
 have e2 : arityD (3, c) ⟨#[99, 86, 107]⟩ = arityD (3, c) ⟨#[]⟩ := rfl
 rw [e1, e2]
 unfold rightR
 by_cases h : n > 0
 ·rw [wrap_ok (x := n - 1) (by omega) (by omega)]
  simp only [h, decide_true, cond_true, if_true]
  cases arityD (3, c) ⟨#[]⟩ <;> cases inL c.1 0 (n - 1) <;> cases inL c.2.1 0 (n - 1) <;> cases coefsD (3, c) <;> rfl
 ·simp only [h, decide_false, cond_false, cond_true, if_false]
  cases arityD (3, c) ⟨#[]⟩ <;> cases inL c.1 0 (-1) <;> cases inL c.2.1 0 (-1) <;> cases coefsD (3, c) <;> rfl
theorem F83k4.sem (c : Rest) (hl : c.2.2.2.2.2.2.length ≤ maxLen) : callW F83k4.E false F83k4.fn (c.2.2.2.2.2.2.length + 1) [.agg (explode ConT ((4 : Int), c))] = some (.v .bool (coefsD (4, c))) := by
 refine (F83k4.start_eq _ c).trans ?_
 rw [search_loop (fun n i => F83k4.l1_1_1_1_1_1_1_1_1_1_0_1_0 n _ i 4 c.1 c.2.1 c.2.2.1 c.2.2.2.1 c.2.2.2.2.1 c.2.2.2.2.2.1 c.2.2.2.2.2.2) c.2.2.2.2.2.2 [] (fun r => !(inL r (-1000000) 1000000)) (fun _ => (F83k4.kt (c.2.2.2.2.2.2.length + 1) [1, 1, 1, 1, 1, 1, 1, 1, 1, 1, 0, 1, 0]).ret ⟨slots 106 [(2, .v .bool false)], []⟩) _ hl (fun n i => F83k4.l1_1_1_1_1_1_1_1_1_1_0_1_0_eq n _ i _ _ _ _ _ _ _ _) _ 0 (by omega) (by omega) (by omega)]
 simp only [F83k4.c0, F83k4.c1, F83k4.l1_1_1_1_1_1_1_1_1_1_1_0_1_0_eq, F83k4.c3]
 have e0 : (c.2.2.2.2.2.2.drop (Int.toNat 0)) = c.2.2.2.2.2.2 := rfl
 have e1 : decide ((4 : Int) = 21) = false := rfl
 rw [e0, e1]
 simp only [cond_false, bif_not, bif_pos, bif_neg, bif_no, Bool.cond_self]
 refine bools ?_
 simp [coefsD]
 constructor
 ·intro h; refine ⟨⟨⟨⟨⟨?_, ?_⟩, ?_⟩, ?_⟩, ?_⟩, ?_⟩ <;> first | exact h.1 | exact h.2.1 | exact h.2.2.1 | exact h.2.2.2.1 | exact h.2.2.2.2.1 | exact h.2.2.2.2.2
 ·intro h; exact ⟨h.1.1.1.1.1, h.1.1.1.1.2, h.1.1.1.2, h.1.1.2, h.1.2, h.2⟩
theorem F51k4.sem (k : Nat) (c : Rest) (n : Int) (hn : n ≤ 1000000) : callW F51k4.E false F51k4.fn k [.agg (explode ConT ((4 : Int), c)), .v (.int .i64) n] = some (.v (.int .i64) (rightR (4, c) n)) := by
 refine (F51k4.start_eq k c n).trans ?_
 have e1 : decide ((4 : Int) < shapesL.length) = true := rfl
 have e2 : arityD (4, c) ⟨#[99, 86, 107, 119]⟩ = arityD (4, c) ⟨#[]⟩ := rfl
 rw [e1, e2]
 unfold rightR
 by_cases h : n > 0
 ·rw [wrap_ok (x := n - 1) (by omega) (by omega)]
  simp only [h, decide_true, cond_true, if_true]
  cases arityD (4, c) ⟨#[]⟩ <;> cases inL c.1 0 (n - 1) <;> cases inL c.2.1 0 (n - 1) <;> cases coefsD (4, c) <;> rfl
 ·simp only [h, decide_false, cond_false, cond_true, if_false]
  cases arityD (4, c) ⟨#[]⟩ <;> cases inL c.1 0 (-1) <;> cases inL c.2.1 0 (-1) <;> cases coefsD (4, c) <;> rfl
theorem F91.sem (k : Nat) (n : Int) : callW F91.E false F91.fn k [.v (.int .i64) n] = some (.v .str (shapeS n)) := by
 rw [F91.start_eq]
 unfold shapeS
 cases h : inS n with
 | false => simp
 | true =>
  unfold inS at h
  simp only [Bool.and_eq_true, decide_eq_true_eq] at h
  rw [wrap_ok (by omega) (by omega)]
  have e : formsL.length = 23 := rfl
  have h5 : 0 ≤ n - 1 := by omega
  have h6 : n - 1 < 23 := by omega
  rw [e]
  simp [h5, h6, h.1]
theorem F103.sem (k : Nat) (n : Int) : callW F103.E false F103.fn k [.v (.int .i64) n] = some (.tup [.v .str (wordS n), .v .bool (inS n)]) := by
 rw [F103.start_eq]
 unfold wordS inS
 have e : formsL.length = 23 := rfl
 rw [e]
 by_cases h1 : n < 1
 ·have h2 : ¬ 1 ≤ n := by omega
  simp [h1, h2]
 ·have h2 : 1 ≤ n := by omega
  by_cases h3 : n > 23
  ·have h4 : ¬ n ≤ 23 := by omega
   simp [h1, h3, h4]
  ·have h4 : n ≤ 23 := by omega
   rw [wrap_ok (by omega) (by omega)]
   have h5 : 0 ≤ n - 1 := by omega
   have h6 : n - 1 < 23 := by omega
   simp [h1, h2, h3, h4, h5, h6]
theorem F111.sem (k : Nat) (l : List Int) (m : Int) : callW F111.E false F111.fn k [.v (.sl (.int .i64)) l, .v (.int .i64) m] = some (.v .bool (boundedD l m)) := F111.start_eq k l m
theorem concat_vars {c : Con} (h : varsB c = true) : concatB [c.2.1, c.2.2.1] = true ∧ concatL [c.2.1, c.2.2.1] = varsD c := by
 unfold varsB at h
 simp only [Bool.and_eq_true, decide_eq_true_eq] at h
 refine ⟨?_, by unfold concatL varsD; simp⟩
 unfold concatB
 simp
 omega
theorem F95.sem (k : Nat) (c : Con) (h : varsB c = true) : callW F95.E false F95.fn k [.agg (explode ConT c)] = some (.v (.sl (.int .i64)) (varsD c)) := by
 refine (F95.start_eq k c).trans ?_
 obtain ⟨h1, h2⟩ := concat_vars h
 rw [h1, h2]
 rfl
theorem kind_cases {c : Con} (h : kindB c = true) : c.1 = 1 ∨ c.1 = 2 ∨ c.1 = 3 ∨ c.1 = 4 := by
 unfold kindB at h
 simp only [Bool.or_eq_true, decide_eq_true_eq] at h
 omega
theorem kind_facts {c : Con} (h : kindB c = true) : strEq (shapeS c.1) ⟨#[]⟩ = false ∧ shapeB c (shapeS c.1) = true ∧ has1 (shapeS c.1) ⟨#[107]⟩ = hasK c := by
 refine ⟨?_, by unfold shapeB; simp [h], ?_⟩
 ·rcases kind_cases h with e | e | e | e <;> rw [e] <;> rfl
 ·unfold hasK
  rcases kind_cases h with e | e | e | e <;> rw [e] <;> decide +kernel
theorem vars_of {c : Con} (h : kindB c = true) (hc : countedD c ⟨#[]⟩ = true) : varsB c = true := by
 unfold varsB
 simp only [Bool.and_eq_true, decide_eq_true_eq]
 rcases kind_cases h with e | e | e | e <;> simp [countedD, e, noneL, -List.length_eq_zero_iff] at hc <;> omega
theorem F76.sem (k : Nat) (c : Con) (n : Int) (hk : kindB c = true) : callW F76.E false F76.fn k [.agg (explode ConT c), .v (.int .i64) n] = some (.v (.int .i64) (rightM c n)) := by
 refine (F76.start_eq k c n).trans ?_
 obtain ⟨h1, h2, h3⟩ := kind_facts hk
 have e : countedD c (shapeS c.1) = countedD c ⟨#[]⟩ := rfl
 rw [h1, h2, hk, h3, e]
 unfold rightM kB countsD
 simp only [cond_true, cond_false]
 cases hc : countedD c ⟨#[]⟩ with
 | false => rfl
 | true =>
  rw [vars_of hk hc]
  simp only [cond_true, Bool.not_true, cond_false]
  cases alikeD c <;> cases decide (c.2.2.2.2.2.2.1 = 0) <;> cases hasK c <;> cases List.any (varsD c) (varB n) <;> cases numbersD c <;> rfl
theorem F97.sem (c : Con) (hk : kindB c = true) (hl : c.2.2.2.2.2.2.2.length ≤ maxLen) : callW F97.E false F97.fn (c.2.2.2.2.2.2.2.length + 1) [.agg (explode ConT c)] = some (.v .bool (numbersD c)) := by
 refine (F97.start_eq _ c).trans ?_
 have e1 : decide (c.1 = 19) = false := by rcases kind_cases hk with e | e | e | e <;> rw [e] <;> rfl
 have e2 : decide (c.1 = 21) = false := by rcases kind_cases hk with e | e | e | e <;> rw [e] <;> rfl
 rw [e1, e2]
 simp only [cond_false]
 rw [F97.n1_1_1_eq]
 rw [search_loop (fun n i => F97.l1_1_1_0_1_0 n _ (-1000000) (-1000000) (-9999999999) c.2.2.2.2.2.2.2 c.2.2.2.2.2.2.2.length i c.1 c.2.1 c.2.2.1 c.2.2.2.1 c.2.2.2.2.1 c.2.2.2.2.2.1 c.2.2.2.2.2.2.1 c.2.2.2.2.2.2.2) c.2.2.2.2.2.2.2 [] (fun r => !(boundedD r (-1000000))) (fun _ => (F97.k_n1_1_1 (c.2.2.2.2.2.2.2.length + 1) (F97.kt (c.2.2.2.2.2.2.2.length + 1) [1, 1, 1]) [0, 1, 0]).ret ⟨slots 53 [(2, .v .bool false)], []⟩) _ hl (fun n i => F97.l1_1_1_0_1_0_eq n _ _ _ _ _ _ i _ _ _ _ _ _ _ _) _ 0 (by omega) (by omega) (by omega)]
 simp only [F97.c0, F97.c1, F97.c2, F97.c3]
 have e0 : (c.2.2.2.2.2.2.2.drop (Int.toNat 0)) = c.2.2.2.2.2.2.2 := rfl
 rw [e0]
 simp only [bif_not, bif_pos, bif_neg, bif_no, Bool.cond_self]
 refine bools ?_
 simp [numbersD]
 constructor
 ·intro h; refine ⟨⟨⟨⟨⟨?_, ?_⟩, ?_⟩, ?_⟩, ?_⟩, ?_⟩ <;> first | exact h.1 | exact h.2.1 | exact h.2.2.1 | exact h.2.2.2.1 | exact h.2.2.2.2.1 | exact h.2.2.2.2.2
 ·intro h; exact ⟨h.1.1.1.1.1, h.1.1.1.1.2, h.1.1.1.2, h.1.1.2, h.1.2, h.2⟩
end Go.Proofs.YtnojoaghcbljfaaGreatDoor.Ev
