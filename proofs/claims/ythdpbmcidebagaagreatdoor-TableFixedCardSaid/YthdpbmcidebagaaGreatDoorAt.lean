/-
Seat 'a': may a constraint be: what the functions answer.
Conditions: of the kinds that this seat is about.
-/
import Derived.Test.YthdpbmcidebagaaGreatDoorAs
import Derived.Test.YthdpbmcidebagaaGreatDoorAi
import Derived.Test.YthdpbmcidebagaaGreatDoorAj
import Derived.Test.YthdpbmcidebagaaGreatDoorAk
import Derived.Test.YthdpbmcidebagaaGreatDoorAl
set_option linter.unusedVariables false
set_option linter.unusedSimpArgs false
set_option maxRecDepth 100000
namespace Go.Proofs.YthdpbmcidebagaaGreatDoor.Ev
open Go
abbrev Rest := List Int × List Int × List Int × List Int × List Int × Int × List (List Int)
theorem bif_not (b y : Bool) : (bif !b then some (AV.v .bool false) else some (AV.v .bool y)) = some (AV.v .bool (b && y)) := by cases b <;> rfl
theorem bif_pos (b y : Bool) : (bif b then some (AV.v .bool y) else some (AV.v .bool false)) = some (AV.v .bool (b && y)) := by cases b <;> rfl
theorem bif_neg (b y : Bool) : (bif b then some (AV.v .bool false) else some (AV.v .bool y)) = some (AV.v .bool (!b && y)) := by cases b <;> rfl
theorem bif_no (b : Bool) : (bif b then some (AV.v .bool false) else some (AV.v .bool true)) = some (AV.v .bool (!b)) := by cases b <;> rfl
theorem bools {a b : Bool} (h : a = true ↔ b = true) : some (AV.v .bool a) = some (AV.v .bool b) := by rw [Bool.eq_iff_iff.mpr h]
theorem F81k11.sem (c : Rest) (hl : c.2.2.2.2.2.2.length ≤ maxLen) : callW F81k11.E false F81k11.fn (c.2.2.2.2.2.2.length + 1) [.agg (explode ConT ((11 : Int), c)), .v .str ⟨#[118, 99, 118]⟩] = some (.v .bool (arityD (11, c) ⟨#[118, 99, 118]⟩)) := by
  refine (F81k11.start_eq _ c).trans ?_
  rw [search_loop (fun n i => F81k11.l1_1_1_1_1_1_1_1_1_1_1_1_1_1_0_1_0 n _ c.1.length i 11 c.1 c.2.1 c.2.2.1 c.2.2.2.1 c.2.2.2.2.1 c.2.2.2.2.2.1 c.2.2.2.2.2.2) c.2.2.2.2.2.2 [] (fun r => !(decide ((r.length : Int) = (c.1.length : Int)))) (fun _ => (F81k11.kt (c.2.2.2.2.2.2.length + 1) [1, 1, 1, 1, 1, 1, 1, 1, 1, 1, 1, 1, 1, 1, 0, 1, 0]).ret ⟨slots 215 [(4, .v .bool false)], []⟩) _ hl (fun n i => F81k11.l1_1_1_1_1_1_1_1_1_1_1_1_1_1_0_1_0_eq n _ _ i _ _ _ _ _ _ _ _) _ 0 (by omega) (by omega) (by omega)]
  simp only [F81k11.c0, F81k11.c1]
  have e0 : (c.2.2.2.2.2.2.drop (Int.toNat 0)) = c.2.2.2.2.2.2 := rfl
  rw [e0]
  simp only [bif_not, bif_pos, bif_neg, bif_no, Bool.cond_self]
  refine bools ?_
  have e1 : (c.2.2.2.2.2.2.length = 0) → (c.2.2.2.2.2.2.any fun r => !(decide ((r.length : Int) = (c.1.length : Int)))) = false := fun h => by
    rw [List.length_eq_zero_iff.mp h]; rfl
  generalize (c.2.2.2.2.2.2.any fun r => !(decide ((r.length : Int) = (c.1.length : Int)))) = any at e1
  simp [-List.length_eq_zero_iff, listB1, arityD, kB, countedD, alikeD, noneL]
  intro hk
  constructor
  · intro h
    omega
  · intro h
    have e2 := e1 (by omega)
    exact ⟨by omega, by omega, by omega, by omega, by omega, by omega, e2⟩
theorem F81k13.sem (c : Rest) (hl : c.2.2.2.2.2.2.length ≤ maxLen) : callW F81k13.E false F81k13.fn (c.2.2.2.2.2.2.length + 1) [.agg (explode ConT ((13 : Int), c)), .v .str ⟨#[118, 107, 119]⟩] = some (.v .bool (arityD (13, c) ⟨#[118, 107, 119]⟩)) := by
  refine (F81k13.start_eq _ c).trans ?_
  rw [search_loop (fun n i => F81k13.l1_1_1_1_1_1_1_1_1_1_1_1_1_1_0_1_0 n _ c.1.length i 13 c.1 c.2.1 c.2.2.1 c.2.2.2.1 c.2.2.2.2.1 c.2.2.2.2.2.1 c.2.2.2.2.2.2) c.2.2.2.2.2.2 [] (fun r => !(decide ((r.length : Int) = (c.1.length : Int)))) (fun _ => (F81k13.kt (c.2.2.2.2.2.2.length + 1) [1, 1, 1, 1, 1, 1, 1, 1, 1, 1, 1, 1, 1, 1, 0, 1, 0]).ret ⟨slots 215 [(4, .v .bool false)], []⟩) _ hl (fun n i => F81k13.l1_1_1_1_1_1_1_1_1_1_1_1_1_1_0_1_0_eq n _ _ i _ _ _ _ _ _ _ _) _ 0 (by omega) (by omega) (by omega)]
  simp only [F81k13.c0, F81k13.c1]
  have e0 : (c.2.2.2.2.2.2.drop (Int.toNat 0)) = c.2.2.2.2.2.2 := rfl
  rw [e0]
  simp only [bif_not, bif_pos, bif_neg, bif_no, Bool.cond_self]
  refine bools ?_
  have e1 : (c.2.2.2.2.2.2.length = 0) → (c.2.2.2.2.2.2.any fun r => !(decide ((r.length : Int) = (c.1.length : Int)))) = false := fun h => by
    rw [List.length_eq_zero_iff.mp h]; rfl
  generalize (c.2.2.2.2.2.2.any fun r => !(decide ((r.length : Int) = (c.1.length : Int)))) = any at e1
  simp [-List.length_eq_zero_iff, listB1, arityD, kB, countedD, alikeD, noneL]
  constructor
  · intro h
    omega
  · intro h
    have e2 := e1 (by omega)
    exact ⟨by omega, by omega, by omega, by omega, by omega, by omega, e2⟩
theorem F81k14.sem (c : Rest) (hl : c.2.2.2.2.2.2.length ≤ maxLen) : callW F81k14.E false F81k14.fn (c.2.2.2.2.2.2.length + 1) [.agg (explode ConT ((14 : Int), c)), .v .str ⟨#[118, 107, 119]⟩] = some (.v .bool (arityD (14, c) ⟨#[118, 107, 119]⟩)) := by
  refine (F81k14.start_eq _ c).trans ?_
  rw [search_loop (fun n i => F81k14.l1_1_1_1_1_1_1_1_1_1_1_1_1_1_0_1_0 n _ c.1.length i 14 c.1 c.2.1 c.2.2.1 c.2.2.2.1 c.2.2.2.2.1 c.2.2.2.2.2.1 c.2.2.2.2.2.2) c.2.2.2.2.2.2 [] (fun r => !(decide ((r.length : Int) = (c.1.length : Int)))) (fun _ => (F81k14.kt (c.2.2.2.2.2.2.length + 1) [1, 1, 1, 1, 1, 1, 1, 1, 1, 1, 1, 1, 1, 1, 0, 1, 0]).ret ⟨slots 215 [(4, .v .bool false)], []⟩) _ hl (fun n i => F81k14.l1_1_1_1_1_1_1_1_1_1_1_1_1_1_0_1_0_eq n _ _ i _ _ _ _ _ _ _ _) _ 0 (by omega) (by omega) (by omega)]
  simp only [F81k14.c0, F81k14.c1]
  have e0 : (c.2.2.2.2.2.2.drop (Int.toNat 0)) = c.2.2.2.2.2.2 := rfl
  rw [e0]
  simp only [bif_not, bif_pos, bif_neg, bif_no, Bool.cond_self]
  refine bools ?_
  have e1 : (c.2.2.2.2.2.2.length = 0) → (c.2.2.2.2.2.2.any fun r => !(decide ((r.length : Int) = (c.1.length : Int)))) = false := fun h => by
    rw [List.length_eq_zero_iff.mp h]; rfl
  generalize (c.2.2.2.2.2.2.any fun r => !(decide ((r.length : Int) = (c.1.length : Int)))) = any at e1
  simp [-List.length_eq_zero_iff, listB1, arityD, kB, countedD, alikeD, noneL]
  constructor
  · intro h
    omega
  · intro h
    have e2 := e1 (by omega)
    exact ⟨by omega, by omega, by omega, by omega, by omega, by omega, e2⟩
theorem F81k15.sem (c : Rest) (hl : c.2.2.2.2.2.2.length ≤ maxLen) : callW F81k15.E false F81k15.fn (c.2.2.2.2.2.2.length + 1) [.agg (explode ConT ((15 : Int), c)), .v .str ⟨#[118, 107, 119]⟩] = some (.v .bool (arityD (15, c) ⟨#[118, 107, 119]⟩)) := by
  refine (F81k15.start_eq _ c).trans ?_
  rw [search_loop (fun n i => F81k15.l1_1_1_1_1_1_1_1_1_1_1_1_1_1_0_1_0 n _ c.1.length i 15 c.1 c.2.1 c.2.2.1 c.2.2.2.1 c.2.2.2.2.1 c.2.2.2.2.2.1 c.2.2.2.2.2.2) c.2.2.2.2.2.2 [] (fun r => !(decide ((r.length : Int) = (c.1.length : Int)))) (fun _ => (F81k15.kt (c.2.2.2.2.2.2.length + 1) [1, 1, 1, 1, 1, 1, 1, 1, 1, 1, 1, 1, 1, 1, 0, 1, 0]).ret ⟨slots 215 [(4, .v .bool false)], []⟩) _ hl (fun n i => F81k15.l1_1_1_1_1_1_1_1_1_1_1_1_1_1_0_1_0_eq n _ _ i _ _ _ _ _ _ _ _) _ 0 (by omega) (by omega) (by omega)]
  simp only [F81k15.c0, F81k15.c1]
  have e0 : (c.2.2.2.2.2.2.drop (Int.toNat 0)) = c.2.2.2.2.2.2 := rfl
  rw [e0]
  simp only [bif_not, bif_pos, bif_neg, bif_no, Bool.cond_self]
  refine bools ?_
  have e1 : (c.2.2.2.2.2.2.length = 0) → (c.2.2.2.2.2.2.any fun r => !(decide ((r.length : Int) = (c.1.length : Int)))) = false := fun h => by
    rw [List.length_eq_zero_iff.mp h]; rfl
  generalize (c.2.2.2.2.2.2.any fun r => !(decide ((r.length : Int) = (c.1.length : Int)))) = any at e1
  simp [-List.length_eq_zero_iff, listB1, arityD, kB, countedD, alikeD, noneL]
  constructor
  · intro h
    omega
  · intro h
    have e2 := e1 (by omega)
    exact ⟨by omega, by omega, by omega, by omega, by omega, by omega, e2⟩
theorem F81k16.sem (c : Rest) (hl : c.2.2.2.2.2.2.length ≤ maxLen) : callW F81k16.E false F81k16.fn (c.2.2.2.2.2.2.length + 1) [.agg (explode ConT ((16 : Int), c)), .v .str ⟨#[118, 107, 119]⟩] = some (.v .bool (arityD (16, c) ⟨#[118, 107, 119]⟩)) := by
  refine (F81k16.start_eq _ c).trans ?_
  rw [search_loop (fun n i => F81k16.l1_1_1_1_1_1_1_1_1_1_1_1_1_1_0_1_0 n _ c.1.length i 16 c.1 c.2.1 c.2.2.1 c.2.2.2.1 c.2.2.2.2.1 c.2.2.2.2.2.1 c.2.2.2.2.2.2) c.2.2.2.2.2.2 [] (fun r => !(decide ((r.length : Int) = (c.1.length : Int)))) (fun _ => (F81k16.kt (c.2.2.2.2.2.2.length + 1) [1, 1, 1, 1, 1, 1, 1, 1, 1, 1, 1, 1, 1, 1, 0, 1, 0]).ret ⟨slots 215 [(4, .v .bool false)], []⟩) _ hl (fun n i => F81k16.l1_1_1_1_1_1_1_1_1_1_1_1_1_1_0_1_0_eq n _ _ i _ _ _ _ _ _ _ _) _ 0 (by omega) (by omega) (by omega)]
  simp only [F81k16.c0, F81k16.c1]
  have e0 : (c.2.2.2.2.2.2.drop (Int.toNat 0)) = c.2.2.2.2.2.2 := rfl
  rw [e0]
  simp only [bif_not, bif_pos, bif_neg, bif_no, Bool.cond_self]
  refine bools ?_
  have e1 : (c.2.2.2.2.2.2.length = 0) → (c.2.2.2.2.2.2.any fun r => !(decide ((r.length : Int) = (c.1.length : Int)))) = false := fun h => by
    rw [List.length_eq_zero_iff.mp h]; rfl
  generalize (c.2.2.2.2.2.2.any fun r => !(decide ((r.length : Int) = (c.1.length : Int)))) = any at e1
  simp [-List.length_eq_zero_iff, listB1, arityD, kB, countedD, alikeD, noneL]
  constructor
  · intro h
    omega
  · intro h
    have e2 := e1 (by omega)
    exact ⟨by omega, by omega, by omega, by omega, by omega, by omega, e2⟩
theorem F81k18.sem (c : Rest) (hl : c.2.2.2.2.2.2.length ≤ maxLen) : callW F81k18.E false F81k18.fn (c.2.2.2.2.2.2.length + 1) [.agg (explode ConT ((18 : Int), c)), .v .str ⟨#[86, 114]⟩] = some (.v .bool (arityD (18, c) ⟨#[86, 114]⟩)) := by
  refine (F81k18.start_eq _ c).trans ?_
  rw [search_loop (fun n i => F81k18.l1_1_1_1_1_1_1_1_1_1_1_1_1_1_0_1_0 n _ c.1.length i 18 c.1 c.2.1 c.2.2.1 c.2.2.2.1 c.2.2.2.2.1 c.2.2.2.2.2.1 c.2.2.2.2.2.2) c.2.2.2.2.2.2 [] (fun r => !(decide ((r.length : Int) = (c.1.length : Int)))) (fun _ => (F81k18.kt (c.2.2.2.2.2.2.length + 1) [1, 1, 1, 1, 1, 1, 1, 1, 1, 1, 1, 1, 1, 1, 0, 1, 0]).ret ⟨slots 215 [(4, .v .bool false)], []⟩) _ hl (fun n i => F81k18.l1_1_1_1_1_1_1_1_1_1_1_1_1_1_0_1_0_eq n _ _ i _ _ _ _ _ _ _ _) _ 0 (by omega) (by omega) (by omega)]
  simp only [F81k18.c0, F81k18.c1]
  have e0 : (c.2.2.2.2.2.2.drop (Int.toNat 0)) = c.2.2.2.2.2.2 := rfl
  rw [e0]
  simp only [bif_not, bif_pos, bif_neg, bif_no, Bool.cond_self]
  refine bools ?_
  have e3 : (c.2.2.2.2.2.2.any fun r => !(decide ((r.length : Int) = (c.1.length : Int)))) = c.2.2.2.2.2.2.any (rowN (18, c)) := rfl
  have e4 : arityD (18, c) ⟨#[86, 114]⟩ = (kB (18, c) && countedD (18, c) ⟨#[86, 114]⟩ && !(c.2.2.2.2.2.2.any (rowN (18, c)))) := rfl
  rw [e3, e4]
  generalize c.2.2.2.2.2.2.any (rowN (18, c)) = any
  cases any <;> simp [-List.length_eq_zero_iff, listB1, kB, countedD, noneL] <;> omega
theorem F92k11.sem (k : Nat) (c : Rest) : callW F92k11.E false F92k11.fn k [.agg (explode ConT ((11 : Int), c)), .v .str ⟨#[118, 99, 118]⟩] = some (.v .bool (countedD (11, c) ⟨#[118, 99, 118]⟩)) := by
  refine (F92k11.start_eq k c).trans ?_
  simp only [bif_not, bif_pos, bif_neg, bif_no, Bool.cond_self]
  refine bools ?_
  simp [-List.length_eq_zero_iff, withinD, countedD, noneL]
  constructor
  · intro h
    omega
  · intro h
    omega
theorem F93k11.sem (k : Nat) (c : Rest) : callW F93k11.E false F93k11.fn k [.agg (explode ConT ((11 : Int), c))] = some (.v .bool (alikeD (11, c))) := (F93k11.start_eq k c).trans rfl
theorem F98k11.sem (k : Nat) (c : Rest) : callW F98k11.E false F98k11.fn k [.agg (explode ConT ((11 : Int), c))] = some (.v .bool (countsD (11, c))) := (F98k11.start_eq k c).trans rfl
theorem F83k11.sem (c : Rest) (hl : c.2.2.2.2.2.2.length ≤ maxLen) : callW F83k11.E false F83k11.fn (c.2.2.2.2.2.2.length + 1) [.agg (explode ConT ((11 : Int), c))] = some (.v .bool (coefsD (11, c))) := by
  refine (F83k11.start_eq _ c).trans ?_
  rw [search_loop (fun n i => F83k11.l1_1_1_1_1_1_1_1_1_1_0_1_0 n _ i 11 c.1 c.2.1 c.2.2.1 c.2.2.2.1 c.2.2.2.2.1 c.2.2.2.2.2.1 c.2.2.2.2.2.2) c.2.2.2.2.2.2 [] (fun r => !(inL r (-1000000) 1000000)) (fun _ => (F83k11.kt (c.2.2.2.2.2.2.length + 1) [1, 1, 1, 1, 1, 1, 1, 1, 1, 1, 0, 1, 0]).ret ⟨slots 106 [(2, .v .bool false)], []⟩) _ hl (fun n i => F83k11.l1_1_1_1_1_1_1_1_1_1_0_1_0_eq n _ i _ _ _ _ _ _ _ _) _ 0 (by omega) (by omega) (by omega)]
  simp only [F83k11.c0, F83k11.c1, F83k11.l1_1_1_1_1_1_1_1_1_1_1_0_1_0_eq, F83k11.c3]
  have e0 : (c.2.2.2.2.2.2.drop (Int.toNat 0)) = c.2.2.2.2.2.2 := rfl
  have e1 : decide ((11 : Int) = 21) = false := rfl
  rw [e0, e1]
  simp only [cond_false, bif_not, bif_pos, bif_neg, bif_no, Bool.cond_self]
  refine bools ?_
  simp [coefsD]
  constructor
  · intro h; refine ⟨⟨⟨⟨⟨?_, ?_⟩, ?_⟩, ?_⟩, ?_⟩, ?_⟩ <;> first | exact h.1 | exact h.2.1 | exact h.2.2.1 | exact h.2.2.2.1 | exact h.2.2.2.2.1 | exact h.2.2.2.2.2
  · intro h; exact ⟨h.1.1.1.1.1, h.1.1.1.1.2, h.1.1.1.2, h.1.1.2, h.1.2, h.2⟩
theorem F51k11.sem (k : Nat) (c : Rest) (n : Int) (hn : n ≤ 1000000) : callW F51k11.E false F51k11.fn k [.agg (explode ConT ((11 : Int), c)), .v (.int .i64) n] = some (.v (.int .i64) (rightR (11, c) n)) := by
  refine (F51k11.start_eq k c n).trans ?_
  have e1 : decide ((11 : Int) < shapesL.length) = true := rfl
  have e2 : arityD (11, c) ⟨#[118, 99, 118]⟩ = arityD (11, c) ⟨#[]⟩ := rfl
  rw [e1, e2]
  unfold rightR
  by_cases h : n > 0
  · rw [wrap_ok (x := n - 1) (by omega) (by omega)]
    simp only [h, decide_true, cond_true, if_true]
    cases arityD (11, c) ⟨#[]⟩ <;> cases inL c.1 0 (n - 1) <;> cases inL c.2.1 0 (n - 1) <;> cases coefsD (11, c) <;> rfl
  · simp only [h, decide_false, cond_false, cond_true, if_false]
    cases arityD (11, c) ⟨#[]⟩ <;> cases inL c.1 0 (-1) <;> cases inL c.2.1 0 (-1) <;> cases coefsD (11, c) <;> rfl
theorem F92k13.sem (k : Nat) (c : Rest) : callW F92k13.E false F92k13.fn k [.agg (explode ConT ((13 : Int), c)), .v .str ⟨#[118, 107, 119]⟩] = some (.v .bool (countedD (13, c) ⟨#[118, 107, 119]⟩)) := by
  refine (F92k13.start_eq k c).trans ?_
  simp only [bif_not, bif_pos, bif_neg, bif_no, Bool.cond_self]
  refine bools ?_
  simp [-List.length_eq_zero_iff, withinD, countedD, noneL]
  constructor
  · intro h
    omega
  · intro h
    omega
theorem F93k13.sem (k : Nat) (c : Rest) : callW F93k13.E false F93k13.fn k [.agg (explode ConT ((13 : Int), c))] = some (.v .bool (alikeD (13, c))) := (F93k13.start_eq k c).trans rfl
theorem F98k13.sem (k : Nat) (c : Rest) : callW F98k13.E false F98k13.fn k [.agg (explode ConT ((13 : Int), c))] = some (.v .bool (countsD (13, c))) := (F98k13.start_eq k c).trans rfl
theorem F83k13.sem (c : Rest) (hl : c.2.2.2.2.2.2.length ≤ maxLen) : callW F83k13.E false F83k13.fn (c.2.2.2.2.2.2.length + 1) [.agg (explode ConT ((13 : Int), c))] = some (.v .bool (coefsD (13, c))) := by
  refine (F83k13.start_eq _ c).trans ?_
  rw [search_loop (fun n i => F83k13.l1_1_1_1_1_1_1_1_1_1_0_1_0 n _ i 13 c.1 c.2.1 c.2.2.1 c.2.2.2.1 c.2.2.2.2.1 c.2.2.2.2.2.1 c.2.2.2.2.2.2) c.2.2.2.2.2.2 [] (fun r => !(inL r (-1000000) 1000000)) (fun _ => (F83k13.kt (c.2.2.2.2.2.2.length + 1) [1, 1, 1, 1, 1, 1, 1, 1, 1, 1, 0, 1, 0]).ret ⟨slots 106 [(2, .v .bool false)], []⟩) _ hl (fun n i => F83k13.l1_1_1_1_1_1_1_1_1_1_0_1_0_eq n _ i _ _ _ _ _ _ _ _) _ 0 (by omega) (by omega) (by omega)]
  simp only [F83k13.c0, F83k13.c1, F83k13.l1_1_1_1_1_1_1_1_1_1_1_0_1_0_eq, F83k13.c3]
  have e0 : (c.2.2.2.2.2.2.drop (Int.toNat 0)) = c.2.2.2.2.2.2 := rfl
  have e1 : decide ((13 : Int) = 21) = false := rfl
  rw [e0, e1]
  simp only [cond_false, bif_not, bif_pos, bif_neg, bif_no, Bool.cond_self]
  refine bools ?_
  simp [coefsD]
  constructor
  · intro h; refine ⟨⟨⟨⟨⟨?_, ?_⟩, ?_⟩, ?_⟩, ?_⟩, ?_⟩ <;> first | exact h.1 | exact h.2.1 | exact h.2.2.1 | exact h.2.2.2.1 | exact h.2.2.2.2.1 | exact h.2.2.2.2.2
  · intro h; exact ⟨h.1.1.1.1.1, h.1.1.1.1.2, h.1.1.1.2, h.1.1.2, h.1.2, h.2⟩
theorem F51k13.sem (k : Nat) (c : Rest) (n : Int) (hn : n ≤ 1000000) : callW F51k13.E false F51k13.fn k [.agg (explode ConT ((13 : Int), c)), .v (.int .i64) n] = some (.v (.int .i64) (rightR (13, c) n)) := by
  refine (F51k13.start_eq k c n).trans ?_
  have e1 : decide ((13 : Int) < shapesL.length) = true := rfl
  have e2 : arityD (13, c) ⟨#[118, 107, 119]⟩ = arityD (13, c) ⟨#[]⟩ := rfl
  rw [e1, e2]
  unfold rightR
  by_cases h : n > 0
  · rw [wrap_ok (x := n - 1) (by omega) (by omega)]
    simp only [h, decide_true, cond_true, if_true]
    cases arityD (13, c) ⟨#[]⟩ <;> cases inL c.1 0 (n - 1) <;> cases inL c.2.1 0 (n - 1) <;> cases coefsD (13, c) <;> rfl
  · simp only [h, decide_false, cond_false, cond_true, if_false]
    cases arityD (13, c) ⟨#[]⟩ <;> cases inL c.1 0 (-1) <;> cases inL c.2.1 0 (-1) <;> cases coefsD (13, c) <;> rfl
theorem F92k14.sem (k : Nat) (c : Rest) : callW F92k14.E false F92k14.fn k [.agg (explode ConT ((14 : Int), c)), .v .str ⟨#[118, 107, 119]⟩] = some (.v .bool (countedD (14, c) ⟨#[118, 107, 119]⟩)) := by
  refine (F92k14.start_eq k c).trans ?_
  simp only [bif_not, bif_pos, bif_neg, bif_no, Bool.cond_self]
  refine bools ?_
  simp [-List.length_eq_zero_iff, withinD, countedD, noneL]
  constructor
  · intro h
    omega
  · intro h
    omega
theorem F93k14.sem (k : Nat) (c : Rest) : callW F93k14.E false F93k14.fn k [.agg (explode ConT ((14 : Int), c))] = some (.v .bool (alikeD (14, c))) := (F93k14.start_eq k c).trans rfl
theorem F98k14.sem (k : Nat) (c : Rest) : callW F98k14.E false F98k14.fn k [.agg (explode ConT ((14 : Int), c))] = some (.v .bool (countsD (14, c))) := (F98k14.start_eq k c).trans rfl
theorem F83k14.sem (c : Rest) (hl : c.2.2.2.2.2.2.length ≤ maxLen) : callW F83k14.E false F83k14.fn (c.2.2.2.2.2.2.length + 1) [.agg (explode ConT ((14 : Int), c))] = some (.v .bool (coefsD (14, c))) := by
  refine (F83k14.start_eq _ c).trans ?_
  rw [search_loop (fun n i => F83k14.l1_1_1_1_1_1_1_1_1_1_0_1_0 n _ i 14 c.1 c.2.1 c.2.2.1 c.2.2.2.1 c.2.2.2.2.1 c.2.2.2.2.2.1 c.2.2.2.2.2.2) c.2.2.2.2.2.2 [] (fun r => !(inL r (-1000000) 1000000)) (fun _ => (F83k14.kt (c.2.2.2.2.2.2.length + 1) [1, 1, 1, 1, 1, 1, 1, 1, 1, 1, 0, 1, 0]).ret ⟨slots 106 [(2, .v .bool false)], []⟩) _ hl (fun n i => F83k14.l1_1_1_1_1_1_1_1_1_1_0_1_0_eq n _ i _ _ _ _ _ _ _ _) _ 0 (by omega) (by omega) (by omega)]
  simp only [F83k14.c0, F83k14.c1, F83k14.l1_1_1_1_1_1_1_1_1_1_1_0_1_0_eq, F83k14.c3]
  have e0 : (c.2.2.2.2.2.2.drop (Int.toNat 0)) = c.2.2.2.2.2.2 := rfl
  have e1 : decide ((14 : Int) = 21) = false := rfl
  rw [e0, e1]
  simp only [cond_false, bif_not, bif_pos, bif_neg, bif_no, Bool.cond_self]
  refine bools ?_
  simp [coefsD]
  constructor
  · intro h; refine ⟨⟨⟨⟨⟨?_, ?_⟩, ?_⟩, ?_⟩, ?_⟩, ?_⟩ <;> first | exact h.1 | exact h.2.1 | exact h.2.2.1 | exact h.2.2.2.1 | exact h.2.2.2.2.1 | exact h.2.2.2.2.2
  · intro h; exact ⟨h.1.1.1.1.1, h.1.1.1.1.2, h.1.1.1.2, h.1.1.2, h.1.2, h.2⟩
theorem F51k14.sem (k : Nat) (c : Rest) (n : Int) (hn : n ≤ 1000000) : callW F51k14.E false F51k14.fn k [.agg (explode ConT ((14 : Int), c)), .v (.int .i64) n] = some (.v (.int .i64) (rightR (14, c) n)) := by
  refine (F51k14.start_eq k c n).trans ?_
  have e1 : decide ((14 : Int) < shapesL.length) = true := rfl
  have e2 : arityD (14, c) ⟨#[118, 107, 119]⟩ = arityD (14, c) ⟨#[]⟩ := rfl
  rw [e1, e2]
  unfold rightR
  by_cases h : n > 0
  · rw [wrap_ok (x := n - 1) (by omega) (by omega)]
    simp only [h, decide_true, cond_true, if_true]
    cases arityD (14, c) ⟨#[]⟩ <;> cases inL c.1 0 (n - 1) <;> cases inL c.2.1 0 (n - 1) <;> cases coefsD (14, c) <;> rfl
  · simp only [h, decide_false, cond_false, cond_true, if_false]
    cases arityD (14, c) ⟨#[]⟩ <;> cases inL c.1 0 (-1) <;> cases inL c.2.1 0 (-1) <;> cases coefsD (14, c) <;> rfl
theorem F92k15.sem (k : Nat) (c : Rest) : callW F92k15.E false F92k15.fn k [.agg (explode ConT ((15 : Int), c)), .v .str ⟨#[118, 107, 119]⟩] = some (.v .bool (countedD (15, c) ⟨#[118, 107, 119]⟩)) := by
  refine (F92k15.start_eq k c).trans ?_
  simp only [bif_not, bif_pos, bif_neg, bif_no, Bool.cond_self]
  refine bools ?_
  simp [-List.length_eq_zero_iff, withinD, countedD, noneL]
  constructor
  · intro h
    omega
  · intro h
    omega
theorem F93k15.sem (k : Nat) (c : Rest) : callW F93k15.E false F93k15.fn k [.agg (explode ConT ((15 : Int), c))] = some (.v .bool (alikeD (15, c))) := (F93k15.start_eq k c).trans rfl
theorem F98k15.sem (k : Nat) (c : Rest) : callW F98k15.E false F98k15.fn k [.agg (explode ConT ((15 : Int), c))] = some (.v .bool (countsD (15, c))) := (F98k15.start_eq k c).trans rfl
theorem F83k15.sem (c : Rest) (hl : c.2.2.2.2.2.2.length ≤ maxLen) : callW F83k15.E false F83k15.fn (c.2.2.2.2.2.2.length + 1) [.agg (explode ConT ((15 : Int), c))] = some (.v .bool (coefsD (15, c))) := by
  refine (F83k15.start_eq _ c).trans ?_
  rw [search_loop (fun n i => F83k15.l1_1_1_1_1_1_1_1_1_1_0_1_0 n _ i 15 c.1 c.2.1 c.2.2.1 c.2.2.2.1 c.2.2.2.2.1 c.2.2.2.2.2.1 c.2.2.2.2.2.2) c.2.2.2.2.2.2 [] (fun r => !(inL r (-1000000) 1000000)) (fun _ => (F83k15.kt (c.2.2.2.2.2.2.length + 1) [1, 1, 1, 1, 1, 1, 1, 1, 1, 1, 0, 1, 0]).ret ⟨slots 106 [(2, .v .bool false)], []⟩) _ hl (fun n i => F83k15.l1_1_1_1_1_1_1_1_1_1_0_1_0_eq n _ i _ _ _ _ _ _ _ _) _ 0 (by omega) (by omega) (by omega)]
  simp only [F83k15.c0, F83k15.c1, F83k15.l1_1_1_1_1_1_1_1_1_1_1_0_1_0_eq, F83k15.c3]
  have e0 : (c.2.2.2.2.2.2.drop (Int.toNat 0)) = c.2.2.2.2.2.2 := rfl
  have e1 : decide ((15 : Int) = 21) = false := rfl
  rw [e0, e1]
  simp only [cond_false, bif_not, bif_pos, bif_neg, bif_no, Bool.cond_self]
  refine bools ?_
  simp [coefsD]
  constructor
  · intro h; refine ⟨⟨⟨⟨⟨?_, ?_⟩, ?_⟩, ?_⟩, ?_⟩, ?_⟩ <;> first | exact h.1 | exact h.2.1 | exact h.2.2.1 | exact h.2.2.2.1 | exact h.2.2.2.2.1 | exact h.2.2.2.2.2
  · intro h; exact ⟨h.1.1.1.1.1, h.1.1.1.1.2, h.1.1.1.2, h.1.1.2, h.1.2, h.2⟩
theorem F51k15.sem (k : Nat) (c : Rest) (n : Int) (hn : n ≤ 1000000) : callW F51k15.E false F51k15.fn k [.agg (explode ConT ((15 : Int), c)), .v (.int .i64) n] = some (.v (.int .i64) (rightR (15, c) n)) := by
  refine (F51k15.start_eq k c n).trans ?_
  have e1 : decide ((15 : Int) < shapesL.length) = true := rfl
  have e2 : arityD (15, c) ⟨#[118, 107, 119]⟩ = arityD (15, c) ⟨#[]⟩ := rfl
  rw [e1, e2]
  unfold rightR
  by_cases h : n > 0
  · rw [wrap_ok (x := n - 1) (by omega) (by omega)]
    simp only [h, decide_true, cond_true, if_true]
    cases arityD (15, c) ⟨#[]⟩ <;> cases inL c.1 0 (n - 1) <;> cases inL c.2.1 0 (n - 1) <;> cases coefsD (15, c) <;> rfl
  · simp only [h, decide_false, cond_false, cond_true, if_false]
    cases arityD (15, c) ⟨#[]⟩ <;> cases inL c.1 0 (-1) <;> cases inL c.2.1 0 (-1) <;> cases coefsD (15, c) <;> rfl
theorem F92k16.sem (k : Nat) (c : Rest) : callW F92k16.E false F92k16.fn k [.agg (explode ConT ((16 : Int), c)), .v .str ⟨#[118, 107, 119]⟩] = some (.v .bool (countedD (16, c) ⟨#[118, 107, 119]⟩)) := by
  refine (F92k16.start_eq k c).trans ?_
  simp only [bif_not, bif_pos, bif_neg, bif_no, Bool.cond_self]
  refine bools ?_
  simp [-List.length_eq_zero_iff, withinD, countedD, noneL]
  constructor
  · intro h
    omega
  · intro h
    omega
theorem F93k16.sem (k : Nat) (c : Rest) : callW F93k16.E false F93k16.fn k [.agg (explode ConT ((16 : Int), c))] = some (.v .bool (alikeD (16, c))) := (F93k16.start_eq k c).trans rfl
theorem F98k16.sem (k : Nat) (c : Rest) : callW F98k16.E false F98k16.fn k [.agg (explode ConT ((16 : Int), c))] = some (.v .bool (countsD (16, c))) := (F98k16.start_eq k c).trans rfl
theorem F83k16.sem (c : Rest) (hl : c.2.2.2.2.2.2.length ≤ maxLen) : callW F83k16.E false F83k16.fn (c.2.2.2.2.2.2.length + 1) [.agg (explode ConT ((16 : Int), c))] = some (.v .bool (coefsD (16, c))) := by
  refine (F83k16.start_eq _ c).trans ?_
  rw [search_loop (fun n i => F83k16.l1_1_1_1_1_1_1_1_1_1_0_1_0 n _ i 16 c.1 c.2.1 c.2.2.1 c.2.2.2.1 c.2.2.2.2.1 c.2.2.2.2.2.1 c.2.2.2.2.2.2) c.2.2.2.2.2.2 [] (fun r => !(inL r (-1000000) 1000000)) (fun _ => (F83k16.kt (c.2.2.2.2.2.2.length + 1) [1, 1, 1, 1, 1, 1, 1, 1, 1, 1, 0, 1, 0]).ret ⟨slots 106 [(2, .v .bool false)], []⟩) _ hl (fun n i => F83k16.l1_1_1_1_1_1_1_1_1_1_0_1_0_eq n _ i _ _ _ _ _ _ _ _) _ 0 (by omega) (by omega) (by omega)]
  simp only [F83k16.c0, F83k16.c1, F83k16.l1_1_1_1_1_1_1_1_1_1_1_0_1_0_eq, F83k16.c3]
  have e0 : (c.2.2.2.2.2.2.drop (Int.toNat 0)) = c.2.2.2.2.2.2 := rfl
  have e1 : decide ((16 : Int) = 21) = false := rfl
  rw [e0, e1]
  simp only [cond_false, bif_not, bif_pos, bif_neg, bif_no, Bool.cond_self]
  refine bools ?_
  simp [coefsD]
  constructor
  · intro h; refine ⟨⟨⟨⟨⟨?_, ?_⟩, ?_⟩, ?_⟩, ?_⟩, ?_⟩ <;> first | exact h.1 | exact h.2.1 | exact h.2.2.1 | exact h.2.2.2.1 | exact h.2.2.2.2.1 | exact h.2.2.2.2.2
  · intro h; exact ⟨h.1.1.1.1.1, h.1.1.1.1.2, h.1.1.1.2, h.1.1.2, h.1.2, h.2⟩
theorem F51k16.sem (k : Nat) (c : Rest) (n : Int) (hn : n ≤ 1000000) : callW F51k16.E false F51k16.fn k [.agg (explode ConT ((16 : Int), c)), .v (.int .i64) n] = some (.v (.int .i64) (rightR (16, c) n)) := by
  refine (F51k16.start_eq k c n).trans ?_
  have e1 : decide ((16 : Int) < shapesL.length) = true := rfl
  have e2 : arityD (16, c) ⟨#[118, 107, 119]⟩ = arityD (16, c) ⟨#[]⟩ := rfl
  rw [e1, e2]
  unfold rightR
  by_cases h : n > 0
  · rw [wrap_ok (x := n - 1) (by omega) (by omega)]
    simp only [h, decide_true, cond_true, if_true]
    cases arityD (16, c) ⟨#[]⟩ <;> cases inL c.1 0 (n - 1) <;> cases inL c.2.1 0 (n - 1) <;> cases coefsD (16, c) <;> rfl
  · simp only [h, decide_false, cond_false, cond_true, if_false]
    cases arityD (16, c) ⟨#[]⟩ <;> cases inL c.1 0 (-1) <;> cases inL c.2.1 0 (-1) <;> cases coefsD (16, c) <;> rfl
theorem F92k18.sem (k : Nat) (c : Rest) : callW F92k18.E false F92k18.fn k [.agg (explode ConT ((18 : Int), c)), .v .str ⟨#[86, 114]⟩] = some (.v .bool (countedD (18, c) ⟨#[86, 114]⟩)) := by
  refine (F92k18.start_eq k c).trans ?_
  simp only [bif_not, bif_pos, bif_neg, bif_no, Bool.cond_self]
  refine bools ?_
  simp [-List.length_eq_zero_iff, withinD, countedD, noneL]
  constructor
  · intro h
    omega
  · intro h
    omega
theorem F93k18.sem (k : Nat) (c : Rest) : callW F93k18.E false F93k18.fn k [.agg (explode ConT ((18 : Int), c))] = some (.v .bool (alikeD (18, c))) := (F93k18.start_eq k c).trans rfl
theorem F98k18.sem (k : Nat) (c : Rest) : callW F98k18.E false F98k18.fn k [.agg (explode ConT ((18 : Int), c))] = some (.v .bool (countsD (18, c))) := (F98k18.start_eq k c).trans rfl
theorem F83k18.sem (c : Rest) (hl : c.2.2.2.2.2.2.length ≤ maxLen) : callW F83k18.E false F83k18.fn (c.2.2.2.2.2.2.length + 1) [.agg (explode ConT ((18 : Int), c))] = some (.v .bool (coefsD (18, c))) := by
  refine (F83k18.start_eq _ c).trans ?_
  rw [search_loop (fun n i => F83k18.l1_1_1_1_1_1_1_1_1_1_0_1_0 n _ i 18 c.1 c.2.1 c.2.2.1 c.2.2.2.1 c.2.2.2.2.1 c.2.2.2.2.2.1 c.2.2.2.2.2.2) c.2.2.2.2.2.2 [] (fun r => !(inL r (-1000000) 1000000)) (fun _ => (F83k18.kt (c.2.2.2.2.2.2.length + 1) [1, 1, 1, 1, 1, 1, 1, 1, 1, 1, 0, 1, 0]).ret ⟨slots 106 [(2, .v .bool false)], []⟩) _ hl (fun n i => F83k18.l1_1_1_1_1_1_1_1_1_1_0_1_0_eq n _ i _ _ _ _ _ _ _ _) _ 0 (by omega) (by omega) (by omega)]
  simp only [F83k18.c0, F83k18.c1, F83k18.l1_1_1_1_1_1_1_1_1_1_1_0_1_0_eq, F83k18.c3]
  have e0 : (c.2.2.2.2.2.2.drop (Int.toNat 0)) = c.2.2.2.2.2.2 := rfl
  have e1 : decide ((18 : Int) = 21) = false := rfl
  rw [e0, e1]
  simp only [cond_false, bif_not, bif_pos, bif_neg, bif_no, Bool.cond_self]
  refine bools ?_
  simp [coefsD]
  constructor
  · intro h; refine ⟨⟨⟨⟨⟨?_, ?_⟩, ?_⟩, ?_⟩, ?_⟩, ?_⟩ <;> first | exact h.1 | exact h.2.1 | exact h.2.2.1 | exact h.2.2.2.1 | exact h.2.2.2.2.1 | exact h.2.2.2.2.2
  · intro h; exact ⟨h.1.1.1.1.1, h.1.1.1.1.2, h.1.1.1.2, h.1.1.2, h.1.2, h.2⟩
theorem F51k18.sem (k : Nat) (c : Rest) (n : Int) (hn : n ≤ 1000000) : callW F51k18.E false F51k18.fn k [.agg (explode ConT ((18 : Int), c)), .v (.int .i64) n] = some (.v (.int .i64) (rightR (18, c) n)) := by
  refine (F51k18.start_eq k c n).trans ?_
  have e1 : decide ((18 : Int) < shapesL.length) = true := rfl
  have e2 : arityD (18, c) ⟨#[86, 114]⟩ = arityD (18, c) ⟨#[]⟩ := rfl
  rw [e1, e2]
  unfold rightR
  by_cases h : n > 0
  · rw [wrap_ok (x := n - 1) (by omega) (by omega)]
    simp only [h, decide_true, cond_true, if_true]
    cases arityD (18, c) ⟨#[]⟩ <;> cases inL c.1 0 (n - 1) <;> cases inL c.2.1 0 (n - 1) <;> cases coefsD (18, c) <;> rfl
  · simp only [h, decide_false, cond_false, cond_true, if_false]
    cases arityD (18, c) ⟨#[]⟩ <;> cases inL c.1 0 (-1) <;> cases inL c.2.1 0 (-1) <;> cases coefsD (18, c) <;> rfl

theorem F91.sem (k : Nat) (n : Int) : callW F91.E false F91.fn k [.v (.int .i64) n] = some (.v .str (shapeS n)) := by
  rw [F91.start_eq]
  unfold shapeS
  cases h : inS n with
  | false => simp
  | true =>
    unfold inS at h
    simp only [Bool.and_eq_true, decide_eq_true_eq] at h
    rw [wrap_ok (by omega) (by omega)]
    have e : formsL.length = 23 := rfl
    have h5 : 0 ≤ n - 1 := by omega
    have h6 : n - 1 < 23 := by omega
    rw [e]
    simp [h5, h6, h.1]
theorem F103.sem (k : Nat) (n : Int) : callW F103.E false F103.fn k [.v (.int .i64) n] = some (.tup [.v .str (wordS n), .v .bool (inS n)]) := by
  rw [F103.start_eq]
  unfold wordS inS
  have e : formsL.length = 23 := rfl
  rw [e]
  by_cases h1 : n < 1
  · have h2 : ¬ 1 ≤ n := by omega
    simp [h1, h2]
  · have h2 : 1 ≤ n := by omega
    by_cases h3 : n > 23
    · have h4 : ¬ n ≤ 23 := by omega
      simp [h1, h3, h4]
    · have h4 : n ≤ 23 := by omega
      rw [wrap_ok (by omega) (by omega)]
      have h5 : 0 ≤ n - 1 := by omega
      have h6 : n - 1 < 23 := by omega
      simp [h1, h2, h3, h4, h5, h6]
theorem F111.sem (k : Nat) (l : List Int) (m : Int) : callW F111.E false F111.fn k [.v (.sl (.int .i64)) l, .v (.int .i64) m] = some (.v .bool (boundedD l m)) := F111.start_eq k l m
theorem concat_vars {c : Con} (h : varsB c = true) : concatB [c.2.1, c.2.2.1] = true ∧ concatL [c.2.1, c.2.2.1] = varsD c := by
  unfold varsB at h
  simp only [Bool.and_eq_true, decide_eq_true_eq] at h
  refine ⟨?_, by unfold concatL varsD; simp⟩
  unfold concatB
  simp
  omega
theorem F95.sem (k : Nat) (c : Con) (h : varsB c = true) : callW F95.E false F95.fn k [.agg (explode ConT c)] = some (.v (.sl (.int .i64)) (varsD c)) := by
  refine (F95.start_eq k c).trans ?_
  obtain ⟨h1, h2⟩ := concat_vars h
  rw [h1, h2]
  rfl
theorem kind_cases {c : Con} (h : kindB c = true) : c.1 = 11 ∨ c.1 = 13 ∨ c.1 = 14 ∨ c.1 = 15 ∨ c.1 = 16 ∨ c.1 = 18 := by
  unfold kindB at h
  simp only [Bool.or_eq_true, decide_eq_true_eq] at h
  omega
theorem kind_facts {c : Con} (h : kindB c = true) : strEq (shapeS c.1) ⟨#[]⟩ = false ∧ shapeB c (shapeS c.1) = true ∧ has1 (shapeS c.1) ⟨#[107]⟩ = (decide (13 ≤ c.1) && decide (c.1 ≤ 16)) := by
  refine ⟨?_, by unfold shapeB; simp [h], ?_⟩
  · rcases kind_cases h with e | e | e | e | e | e <;> rw [e] <;> rfl
  · rcases kind_cases h with e | e | e | e | e | e <;> rw [e] <;> decide +kernel
theorem vars_of {c : Con} (h : kindB c = true) (hc : countedD c ⟨#[]⟩ = true) : varsB c = true := by
  unfold varsB
  simp only [Bool.and_eq_true, decide_eq_true_eq]
  rcases kind_cases h with e | e | e | e | e | e <;> simp [countedD, e, noneL, -List.length_eq_zero_iff] at hc <;> omega
theorem F76.sem (k : Nat) (c : Con) (n : Int) (hk : kindB c = true) : callW F76.E false F76.fn k [.agg (explode ConT c), .v (.int .i64) n] = some (.v (.int .i64) (rightM c n)) := by
  refine (F76.start_eq k c n).trans ?_
  obtain ⟨h1, h2, h3⟩ := kind_facts hk
  have e : countedD c (shapeS c.1) = countedD c ⟨#[]⟩ := rfl
  rw [h1, h2, hk, h3, e]
  unfold rightM kB countsD
  simp only [cond_true, cond_false]
  cases hc : countedD c ⟨#[]⟩ with
  | false => rfl
  | true =>
    rw [vars_of hk hc]
    simp only [cond_true, Bool.not_true, cond_false]
    cases alikeD c <;> cases decide (c.2.2.2.2.2.2.1 = 0) <;> cases (decide (13 ≤ c.1) && decide (c.1 ≤ 16)) <;> cases List.any (varsD c) (varB n) <;> cases numbersD c <;> rfl
theorem F97.sem (c : Con) (hk : kindB c = true) (hl : c.2.2.2.2.2.2.2.length ≤ maxLen) : callW F97.E false F97.fn (c.2.2.2.2.2.2.2.length + 1) [.agg (explode ConT c)] = some (.v .bool (numbersD c)) := by
  refine (F97.start_eq _ c).trans ?_
  have e1 : decide (c.1 = 19) = false := by rcases kind_cases hk with e | e | e | e | e | e <;> rw [e] <;> rfl
  have e2 : decide (c.1 = 21) = false := by rcases kind_cases hk with e | e | e | e | e | e <;> rw [e] <;> rfl
  rw [e1, e2]
  simp only [cond_false]
  rw [F97.n1_1_1_eq]
  rw [search_loop (fun n i => F97.l1_1_1_0_1_0 n _ (-1000000) (-1000000) (-9999999999) c.2.2.2.2.2.2.2 c.2.2.2.2.2.2.2.length i c.1 c.2.1 c.2.2.1 c.2.2.2.1 c.2.2.2.2.1 c.2.2.2.2.2.1 c.2.2.2.2.2.2.1 c.2.2.2.2.2.2.2) c.2.2.2.2.2.2.2 [] (fun r => !(boundedD r (-1000000))) (fun _ => (F97.k_n1_1_1 (c.2.2.2.2.2.2.2.length + 1) (F97.kt (c.2.2.2.2.2.2.2.length + 1) [1, 1, 1]) [0, 1, 0]).ret ⟨slots 53 [(2, .v .bool false)], []⟩) _ hl (fun n i => F97.l1_1_1_0_1_0_eq n _ _ _ _ _ _ i _ _ _ _ _ _ _ _) _ 0 (by omega) (by omega) (by omega)]
  simp only [F97.c0, F97.c1, F97.c2, F97.c3]
  have e0 : (c.2.2.2.2.2.2.2.drop (Int.toNat 0)) = c.2.2.2.2.2.2.2 := rfl
  rw [e0]
  simp only [bif_not, bif_pos, bif_neg, bif_no, Bool.cond_self]
  refine bools ?_
  simp [numbersD]
  constructor
  · intro h; refine ⟨⟨⟨⟨⟨?_, ?_⟩, ?_⟩, ?_⟩, ?_⟩, ?_⟩ <;> first | exact h.1 | exact h.2.1 | exact h.2.2.1 | exact h.2.2.2.1 | exact h.2.2.2.2.1 | exact h.2.2.2.2.2
  · intro h; exact ⟨h.1.1.1.1.1, h.1.1.1.1.2, h.1.1.1.2, h.1.1.2, h.1.2, h.2⟩
end Go.Proofs.YthdpbmcidebagaaGreatDoor.Ev
