/-
Seat 'a': the laws Keeps and Fixed of Element and of what is reified: what their functions answer.
Conditions: numbers are of 8 bits.
-/
import Derived.Test.YtnojoaghcbljfaaGreatDoorBh
set_option linter.unusedVariables false
set_option linter.unusedSimpArgs false
set_option maxRecDepth 100000
namespace Go.Proofs.YtnojoaghcbljfaaGreatDoor.Ev
open Go

theorem self_lt {α : Type} {a : Int} {x y : α} : (bif decide (a < a) then x else y) = y := by
  have : decide (a < a) = false := decide_eq_false (by omega)
  rw [this]
  rfl
theorem lt_nat {i n : Nat} (h : i < n) : decide ((i : Int) < (n : Int)) = true := decide_eq_true (by omega)
theorem in_nat {i n : Nat} (h : i < n) : (decide (0 ≤ (i : Int)) && decide ((i : Int) < (n : Int))) = true := by
  rw [decide_eq_true (show (0 : Int) ≤ (i : Int) by omega), decide_eq_true (show (i : Int) < (n : Int) by omega)]
  rfl
/-- A loop over places that goes on at each of them. -/
theorem pass_loop (L : Nat → Int → Option AV) (len m : Nat) (X : Option AV) (hl : len ≤ 1000000000) (hend : ∀ n, L (n + 1) (len : Int) = X)
    (hstep : ∀ (n i : Nat), m ≤ n → i < len → L (n + 1) (i : Int) = L n (IntKind.i64.wrap ((i : Int) + 1))) (n : Nat) (hn : m + len < n) : L n 0 = X := by
  have key : ∀ (d i n : Nat), i + d = len → m + d < n → L n (i : Int) = X := by
    intro d
    induction d with
    | zero =>
      intro i n h1 h2
      obtain ⟨n', rfl⟩ : ∃ n', n = n' + 1 := ⟨n - 1, by omega⟩
      obtain rfl : i = len := by omega
      exact hend n'
    | succ d ih =>
      intro i n h1 h2
      obtain ⟨n', rfl⟩ : ∃ n', n = n' + 1 := ⟨n - 1, by omega⟩
      rw [hstep n' i (by omega) (by omega), wrap_ok (by omega) (by omega)]
      have : (i : Int) + 1 = ((i + 1 : Nat) : Int) := by omega
      rw [this]
      exact ih (i + 1) n' (by omega) (by omega)
  exact key len 0 n (by omega) (by omega)
theorem contains_mem (xs : List Int) (v : Int) : containsL xs v = decide (v ∈ xs) := by
  unfold containsL indexL
  rw [idx_any _ _ _ (by omega), Bool.eq_iff_iff, List.any_eq_true, decide_eq_true_iff]
  constructor
  · rintro ⟨x, hx, e⟩
    have : v = x := of_decide_eq_true e
    rwa [this]
  · intro h
    exact ⟨v, h, decide_eq_true rfl⟩
theorem getD_mem {α : Type} {l : List α} {i : Nat} (h : i < l.length) (d : α) : l.getD i d ∈ l := by
  rw [List.getD_eq_getElem?_getD, List.getElem?_eq_getElem h]
  exact List.getElem_mem _
theorem rising_len : ∀ (l : List Int) (m M : Int), m ≤ M + 1 → Rising l → (∀ x ∈ l, m ≤ x ∧ x ≤ M) → (l.length : Int) ≤ M - m + 1
  | [], m, M, h, _, _ => by simp only [List.length_nil]; omega
  | x :: xs, m, M, h, hr, hx => by
    have h0 := hx x (by simp)
    obtain ⟨h1, h2⟩ := List.pairwise_cons.mp hr
    have := rising_len xs (x + 1) M (by omega) h2 fun y hy => by
      have g1 := h1 y hy
      have g2 := hx y (List.mem_cons_of_mem _ hy)
      omega
    simp only [List.length_cons]
    omega
theorem list_len {p : List Int} (hp : okL p = true) (np : near3 p) : (listD (ofD p).1).length ≤ 2001 := by
  have := rising_len (listD (ofD p).1) (-1000) 1000 (by omega) (list_ofD hp).2 fun x hx => np x (((list_ofD hp).1 x).mp hx)
  omega
/-! ### F6 -/
/-! ### F14 -/
/-! ### values that are fixed -/
def I8s (l : List Int) : Prop := ∀ x ∈ l, -128 ≤ x ∧ x ≤ 127
/-! ### F5 -/
/-! ### F9 -/
end Go.Proofs.YtnojoaghcbljfaaGreatDoor.Ev
