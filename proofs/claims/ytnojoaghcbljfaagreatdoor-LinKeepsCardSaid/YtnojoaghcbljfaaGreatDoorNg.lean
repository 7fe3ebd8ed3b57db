/-
Linear constraints: what the document's functions answer.
Conditions: as the handlers ask.
-/
import Derived.Test.YtnojoaghcbljfaaGreatDoorNe
import Derived.Test.YtnojoaghcbljfaaGreatDoorNc
set_option linter.unusedVariables false
set_option linter.unusedSimpArgs false
set_option maxRecDepth 100000
set_option maxHeartbeats 4000000
namespace Go.Proofs.YtnojoaghcbljfaaGreatDoor.Ev
open Go
structure LowP (k : Int) (l : List Int) : Prop where
  k : -1000000 ≤ k ∧ k ≤ 1000000
  ne : 0 < l.length
  le : l.length ≤ 1000000
  m : ∀ x ∈ l, -1000000 ≤ x ∧ x ≤ 1000000
structure ByP (c : List Int) (s most : Int) (d : List (List Int)) : Prop where
  s : s = 1 ∨ s = -1
  len : c.length = d.length
  le : d.length ≤ 1000
  cm : ∀ x ∈ c, -1000000 ≤ x ∧ x ≤ 1000000
  mo : -1099511627776000 ≤ most ∧ most ≤ 1099511627776000
  dl : ∀ x ∈ d, 0 < x.length ∧ x.length ≤ 100000 ∧ ∀ y ∈ x, -1000000 ≤ y ∧ y ≤ 1000000
theorem ByP.low {c : List Int} {s most : Int} {d : List (List Int)} (P : ByP c s most d) {j : Nat} (hj : j < c.length) : lowRB (s * c.getD j 0) (d.getD j []) = true := by
 have h1 := P.cm _ (getD_memD hj 0)
 obtain ⟨h2, h3, h4⟩ := P.dl _ (getD_memD (show j < d.length by rw [← P.len]; exact hj) [])
 have hk : millB (s * c.getD j 0) = true := by
  rw [mill_iff]
  rcases P.s with h | h <;> rw [h] <;> omega
 unfold lowRB
 rw [hk, decide_eq_true h2, Nat.ble_eq_true_of_le (show (d.getD j []).length ≤ 1000000 by omega), List.all_eq_true.mpr fun x hx => mill_iff.mpr (h4 x hx)]
 rfl
end Go.Proofs.YtnojoaghcbljfaaGreatDoor.Ev
