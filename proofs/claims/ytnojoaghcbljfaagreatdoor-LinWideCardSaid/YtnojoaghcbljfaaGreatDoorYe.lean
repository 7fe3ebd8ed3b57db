/-
Sorting, and leaving out what is there twice: the lists that come of it.
Conditions: none.
-/
import Derived.Test.YtnojoaghcbljfaaGreatDoorYd
import Derived.Test.YtnojoaghcbljfaaGreatDoorNq
import Derived.Lib.RowBridge
set_option linter.unusedVariables false
set_option linter.unusedSimpArgs false
namespace Go.Proofs.YtnojoaghcbljfaaGreatDoor.Ev
open Go
theorem sortL_mem {l : List Int} {x : Int} : x ∈ sortL l ↔ x ∈ l := List.mem_mergeSort
theorem sortL_len (l : List Int) : (sortL l).length = l.length := List.length_mergeSort l
theorem sortL_le (l : List Int) : (sortL l).Pairwise (· ≤ ·) := by
 have h := List.pairwise_mergeSort (le := fun x y : Int => decide (x ≤ y)) (fun a b c h1 h2 => by
  have h1 := of_decide_eq_true h1; have h2 := of_decide_eq_true h2; exact decide_eq_true (by omega)) (fun a b => by
  rw [Bool.or_eq_true, decide_eq_true_iff, decide_eq_true_iff]; omega) l
 exact h.imp fun h => of_decide_eq_true h
structure CompP (d : Array Int) (m : Nat) : Prop where
  ris : Rising (Lib.compactUpTo d m)
  mem : ∀ x ∈ Lib.compactUpTo d m, ∃ j, j < m ∧ x = d[j]!
  le : 0 < m → ∀ x ∈ Lib.compactUpTo d m, x ≤ d[m - 1]!
  last : 0 < m → d[m - 1]! ∈ Lib.compactUpTo d m
theorem comp_part {d : Array Int} (hs : ∀ i j, i ≤ j → j < d.size → d[i]! ≤ d[j]!) : ∀ m, m ≤ d.size → CompP d m
 | 0, _ => ⟨List.Pairwise.nil, (fun x hx => absurd hx (by simp [Lib.compactUpTo])), (fun h => absurd h (Nat.lt_irrefl 0)), (fun h => absurd h (Nat.lt_irrefl 0))⟩
 | m + 1, hm => by
  obtain ⟨r, me, le, la⟩ := comp_part hs m (by omega)
  have e : Lib.compactUpTo d (m + 1) = Lib.compactUpTo d m ++ (if Lib.keeps d m then [d[m]!] else []) := Lib.compactUpTo_succ d m
  by_cases hk : Lib.keeps d m = true
  ·rw [if_pos hk] at e
   have hk : m = 0 ∨ d[m]! ≠ d[m - 1]! := of_decide_eq_true (show decide (m = 0 ∨ d[m]! ≠ d[m - 1]!) = true from hk)
   have lt : ∀ x ∈ Lib.compactUpTo d m, x < d[m]! := fun x hx => by
    obtain ⟨j, hj, rfl⟩ := me x hx
    have h1 := le (by omega) _ hx
    have h2 := hs (m - 1) m (by omega) (by omega)
    rcases hk with h | h
    ·omega
    ·omega
   refine ⟨?_, ?_, ?_, ?_⟩
   ·rw [e]
    exact List.pairwise_append.mpr ⟨r, List.pairwise_singleton _ _, fun x hx y hy => by rw [List.mem_singleton.mp hy]; exact lt x hx⟩
   ·rw [e]
    intro x hx
    rcases List.mem_append.mp hx with h | h
    ·obtain ⟨j, hj, h⟩ := me x h
     exact ⟨j, by omega, h⟩
    ·exact ⟨m, by omega, List.mem_singleton.mp h⟩
   ·rw [e]
    intro _ x hx
    show x ≤ d[m]!
    rcases List.mem_append.mp hx with h | h
    ·have := lt x h; omega
    ·rw [List.mem_singleton.mp h]; exact Int.le_refl _
   ·rw [e]
    intro _
    exact List.mem_append.mpr (.inr (List.mem_singleton.mpr rfl))
  ·rw [if_neg hk, List.append_nil] at e
   have hk : ¬ (m = 0 ∨ d[m]! ≠ d[m - 1]!) := fun h => hk (decide_eq_true h)
   have h0 : 0 < m := by omega
   have he : d[m]! = d[m - 1]! := Classical.byContradiction fun h => hk (.inr h)
   refine ⟨by rw [e]; exact r, ?_, ?_, ?_⟩
   ·rw [e]
    intro x hx
    obtain ⟨j, hj, h⟩ := me x hx
    exact ⟨j, by omega, h⟩
   ·rw [e]
    intro _ x hx
    show x ≤ d[m]!
    rw [he]
    exact le h0 x hx
   ·rw [e]
    intro _
    show d[m]! ∈ _
    rw [he]
    exact la h0
theorem pair_le {l : List Int} (h : l.Pairwise (· ≤ ·)) : ∀ i j, i ≤ j → j < l.toArray.size → l.toArray[i]! ≤ l.toArray[j]! := by
 intro i j hij hj
 have hj : j < l.length := by simpa using hj
 by_cases e : i = j
 ·subst e; exact Int.le_refl _
 ·have := List.pairwise_iff_getElem.mp h i j (by omega) hj (by omega)
  simpa [hj, show i < l.length by omega] using this
structure CompS (l y : List Int) : Prop where
  ris : Rising y
  sub : ∀ x ∈ y, x ∈ l
  ne : y ≠ []
  len : y.length ≤ l.length
theorem comp_sort {l : List Int} (h : l ≠ []) : CompS l (compL (sortL l)) := by
 have hl := sortL_len l
 have h0 : 0 < l.length := List.length_pos_iff.mpr h
 obtain ⟨r, me, _, la⟩ := comp_part (pair_le (sortL_le l)) (sortL l).length (by simp)
 refine ⟨r, fun x hx => ?_, fun e => ?_, ?_⟩
 ·obtain ⟨j, hj, rfl⟩ := me x hx
  have : (sortL l).toArray[j]! ∈ sortL l := by
   simp [hj]
  exact sortL_mem.mp this
 ·have := la (by omega)
  rw [show Lib.compactUpTo (sortL l).toArray (sortL l).length = [] from e] at this
  cases this
 ·have := Lib.compact_length_le (sortL l)
  show (Lib.compact (sortL l)).length ≤ _
  omega
theorem map_loop {f : Int → Int} (xs : List Int) (L : Nat → Int → List Int → Option AV) (X : List Int → Option AV)
  (hstep : ∀ (n j : Nat) (acc : List Int), j < xs.length → acc.length ≤ 1000 → L (n + 1) (j : Int) acc = L n ((j + 1 : Nat) : Int) (acc ++ [f (xs.getD j 0)]))
  (hend : ∀ n acc, L (n + 1) (xs.length : Int) acc = X acc) : ∀ (d j n : Nat) (acc : List Int), j + d = xs.length → d < n → acc.length + d ≤ 1000 → L n (j : Int) acc = X (acc ++ (xs.drop j).map f)
 | 0, j, n, acc, h1, h2, h3 => by
  obtain ⟨n', rfl⟩ : ∃ n', n = n' + 1 := ⟨n - 1, by omega⟩
  obtain rfl : j = xs.length := by omega
  rw [hend, List.drop_length]
  simp
 | d + 1, j, n, acc, h1, h2, h3 => by
  obtain ⟨n', rfl⟩ : ∃ n', n = n' + 1 := ⟨n - 1, by omega⟩
  have hj : j < xs.length := by omega
  rw [hstep n' j acc hj (by omega), map_loop xs L X hstep hend d (j + 1) n' _ (by omega) (by omega) (by simp; omega)]
  have : xs.drop j = xs.getD j 0 :: xs.drop (j + 1) := by
   rw [List.drop_eq_getElem_cons hj, List.getD_eq_getElem?_getD, List.getElem?_eq_getElem hj]
   rfl
  rw [this]
  simp
theorem st_loop {α : Type} (st : Nat → α) (N M : Nat) (L : Nat → Int → α → Option AV) (X : Option AV)
  (hstep : ∀ n i : Nat, M ≤ n → i < N → L (n + 1) (i : Int) (st i) = L n ((i + 1 : Nat) : Int) (st (i + 1)))
  (hend : ∀ n, L (n + 1) (N : Int) (st N) = X) : ∀ (d i n : Nat), i + d = N → M + d < n → L n (i : Int) (st i) = X
 | 0, i, n, h1, h2 => by
  obtain ⟨n', rfl⟩ : ∃ n', n = n' + 1 := ⟨n - 1, by omega⟩
  obtain rfl : i = N := by omega
  exact hend n'
 | d + 1, i, n, h1, h2 => by
  obtain ⟨n', rfl⟩ : ∃ n', n = n' + 1 := ⟨n - 1, by omega⟩
  rw [hstep n' i (by omega) (by omega)]
  exact st_loop st N M L X hstep hend d (i + 1) n' (by omega) (by omega)
end Go.Proofs.YtnojoaghcbljfaaGreatDoor.Ev
