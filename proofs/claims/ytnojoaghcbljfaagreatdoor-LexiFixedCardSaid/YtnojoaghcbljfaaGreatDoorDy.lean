/-
Does a constraint hold: what the functions answer.
The constraint's places are among the values.
Conditions: none.
-/
import Derived.Test.YtnojoaghcbljfaaGreatDoorDz
import Derived.Test.YtnojoaghcbljfaaGreatDoorAt
set_option linter.unusedVariables false
set_option linter.unusedSimpArgs false
set_option maxRecDepth 100000
namespace Go.Proofs.YtnojoaghcbljfaaGreatDoor.Ev
open Go
theorem bT' {α : Type} {b : Bool} {x y : α} (h : b = true) : (bif b then x else y) = x := by rw [h]; rfl
theorem bF' {α : Type} {b : Bool} {x y : α} (h : b = false) : (bif b then x else y) = y := by rw [h]; rfl
theorem self_lt' {α : Type} {a : Int} {x y : α} : (bif decide (a < a) then x else y) = y := bF' (decide_eq_false (by omega))
abbrev Rest18 := List Int × List Int × List Int × List Int × List Int × Int × List (List Int)
theorem drop_getD {α : Type} {l : List α} {i : Nat} (h : i < l.length) (d : α) : l.drop i = l.getD i d :: l.drop (i + 1) := by
  rw [List.drop_eq_getElem_cons h, List.getD_eq_getElem?_getD, List.getElem?_eq_getElem h]
  rfl
theorem F63k22.sem (c : Rest18) (a : List Int) (h : pairB (22, c) a = true) : callW F63k22.E false F63k22.fn 1002 [.agg (explode ConT ((22 : Int), c)), .v (.sl (.int .i64)) a] = some (.v .bool (pairC (22, c) a)) := by
  unfold pairB at h
  simp only [Bool.and_eq_true, List.all_eq_true, decide_eq_true_eq, Nat.ble_eq] at h
  obtain ⟨⟨⟨⟨_, hA⟩, hl⟩, hia⟩, hib⟩ := h
  refine (F63k22.start_eq 1002 c a).trans ?_
  unfold pairC
  obtain ⟨A, B, C, D, E, M, R⟩ := c
  simp only at hA hl hia hib ⊢
  have gm : ∀ {l : List Int} {i : Nat}, i < l.length → l.getD i 0 ∈ l := fun {l i} hi => by
    rw [List.getD_eq_getElem?_getD, List.getElem?_eq_getElem hi]
    exact List.getElem_mem hi
  have key : ∀ (d i n : Nat), i + d = A.length → d < n →
      F63k22.l1_1_0_1_0_0_1_0 n (F63k22.kt 1002 [1, 1, 0, 1, 0, 0, 1, 0]) a (A.length : Int) (i : Int) 22 A B C D E M R = some (.v .bool (pairGo a (A.drop i) (B.drop i))) := by
    intro d
    induction d with
    | zero =>
      intro i n h1 h2
      obtain ⟨n', rfl⟩ : ∃ n', n = n' + 1 := ⟨n - 1, by omega⟩
      obtain rfl : i = A.length := by omega
      rw [List.drop_length]
      refine (F63k22.l1_1_0_1_0_0_1_0_eq n' _ a _ _ 22 A B C D E M R).trans (self_lt'.trans ((F63k22.c1 1002).trans ?_))
      unfold pairGo
      rfl
    | succ d ih =>
      intro i n h1 h2
      obtain ⟨n', rfl⟩ : ∃ n', n = n' + 1 := ⟨n - 1, by omega⟩
      have hi : i < A.length := by omega
      have hib2 : i < B.length := by omega
      have b1 := hia _ (gm hi)
      have b2 := hib _ (gm hib2)
      unfold inB at b1 b2
      have w : IntKind.i64.wrap ((i : Int) + 1) = ((i + 1 : Nat) : Int) := by rw [wrap_ok (by omega) (by omega)]; omega
      have e1 : A.drop i = A.getD i 0 :: A.drop (i + 1) := by
        rw [List.drop_eq_getElem_cons hi, List.getD_eq_getElem?_getD, List.getElem?_eq_getElem hi]
        rfl
      have e2 : B.drop i = B.getD i 0 :: B.drop (i + 1) := by
        rw [List.drop_eq_getElem_cons hib2, List.getD_eq_getElem?_getD, List.getElem?_eq_getElem hib2]
        rfl
      rw [e1, e2]
      unfold pairGo
      refine (F63k22.l1_1_0_1_0_0_1_0_eq n' _ a _ _ 22 A B C D E M R).trans ?_
      rw [Int.toNat_natCast, w]
      refine (bT' (decide_eq_true (show (i : Int) < (A.length : Int) by omega))).trans ((bT' ?_).trans ((bT' b1).trans ((bT' ?_).trans ((bT' b2).trans ?_))))
      · rw [decide_eq_true (show (0 : Int) ≤ (i : Int) by omega), decide_eq_true (show (i : Int) < (A.length : Int) by omega)]; rfl
      · rw [decide_eq_true (show (0 : Int) ≤ (i : Int) by omega), decide_eq_true (show (i : Int) < (B.length : Int) by omega)]; rfl
      · by_cases hx : a.getD (A.getD i 0).toNat 0 = a.getD (B.getD i 0).toNat 0
        · rw [if_pos hx]
          exact (bF' (by rw [decide_eq_true hx]; rfl)).trans (ih (i + 1) n' (by omega) (by omega))
        · rw [if_neg hx]
          exact (bT' (by rw [decide_eq_false hx]; rfl)).trans (F63k22.c0 1002 _)
  exact key A.length 0 1002 (by omega) (by omega)
theorem F28k22.sem (k : Nat) (c : Rest18) (a : List Int) (h : holdsB (22, c) a = true) : callW F28k22.E false F28k22.fn k [.agg (explode ConT ((22 : Int), c)), .v (.sl (.int .i64)) a] = some (.v .bool (holdsC (22, c) a)) := by
  refine (F28k22.start_eq k c a).trans ?_
  have e : pairB (22, c) a = true := by
    unfold holdsB at h
    have h1 : linB (22, c) a = false := by simp [linB]
    have h2 : rowB (22, c) a = false := by simp [rowB]
    rw [h1, h2] at h
    simpa using h
  rw [e]
  rfl
end Go.Proofs.YtnojoaghcbljfaaGreatDoor.Ev
