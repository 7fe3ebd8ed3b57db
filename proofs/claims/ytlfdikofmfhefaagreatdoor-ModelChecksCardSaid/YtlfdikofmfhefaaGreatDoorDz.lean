/-
The functions as the evaluator runs them: printed by a program of mine, each equation by kernel_rfl.
Conditions: none.
Does a constraint hold: what the functions answer.
The constraint's places are among the values.
Conditions: none.
-/
import Derived.Test.YtlfdikofmfhefaaGreatDoorAa
import Derived.Test.YtlfdikofmfhefaaGreatDoorAt
set_option linter.unusedVariables false
set_option linter.unusedSimpArgs false
set_option maxRecDepth 100000
namespace Go.Proofs.YtlfdikofmfhefaaGreatDoor.Ev
open Go
end Go.Proofs.YtlfdikofmfhefaaGreatDoor.Ev
set_option linter.unusedVariables false
set_option linter.unusedSimpArgs false
set_option maxRecDepth 100000
namespace Go.Proofs.YtlfdikofmfhefaaGreatDoor.Ev
open Go
theorem bT' {α : Type} {b : Bool} {x y : α} (h : b = true) : (bif b then x else y) = x := by rw [h]; rfl
theorem bF' {α : Type} {b : Bool} {x y : α} (h : b = false) : (bif b then x else y) = y := by rw [h]; rfl
theorem self_lt' {α : Type} {a : Int} {x y : α} : (bif decide (a < a) then x else y) = y := bF' (decide_eq_false (by omega))
abbrev Rest18 := List Int × List Int × List Int × List Int × List Int × Int × List (List Int)
theorem any_loop {α : Type} (L : Nat → Int → Option AV) (xs : List α) (p : α → Bool) (T E : Option AV) (m : Nat) (hl : xs.length ≤ 1000000000) (hend : ∀ n, L (n + 1) (xs.length : Int) = E)
  (hstep : ∀ (n i : Nat) (hi : i < xs.length), m ≤ n → L (n + 1) (i : Int) = bif p xs[i] then T else L n (IntKind.i64.wrap ((i : Int) + 1))) (n : Nat) (hn : m + xs.length < n) : L n 0 = bif xs.any p then T else E := by
 have key : ∀ (d i n : Nat), i + d = xs.length → m + d < n → L n (i : Int) = bif (xs.drop i).any p then T else E := by
  intro d
  induction d with
  | zero =>
   intro i n h1 h2
   obtain ⟨n', rfl⟩ : ∃ n', n = n' + 1 := ⟨n - 1, by omega⟩
   obtain rfl : i = xs.length := by omega
   rw [hend, List.drop_length]
   rfl
  | succ d ih =>
   intro i n h1 h2
   obtain ⟨n', rfl⟩ : ∃ n', n = n' + 1 := ⟨n - 1, by omega⟩
   have w : IntKind.i64.wrap ((i : Int) + 1) = ((i + 1 : Nat) : Int) := by rw [wrap_ok (by omega) (by omega)]; omega
   rw [hstep n' i (by omega) (by omega), w, ih (i + 1) n' (by omega) (by omega), List.drop_eq_getElem_cons (show i < xs.length by omega), List.any_cons]
   cases p xs[i] <;> rfl
 exact key xs.length 0 n (by omega) (by omega)
theorem drop_getD {α : Type} {l : List α} {i : Nat} (h : i < l.length) (d : α) : l.drop i = l.getD i d :: l.drop (i + 1) := by
 rw [List.drop_eq_getElem_cons h, List.getD_eq_getElem?_getD, List.getElem?_eq_getElem h]
 rfl
end Go.Proofs.YtlfdikofmfhefaaGreatDoor.Ev
