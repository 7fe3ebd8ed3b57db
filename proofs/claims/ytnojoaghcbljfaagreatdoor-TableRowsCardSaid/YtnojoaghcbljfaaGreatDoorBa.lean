/-
Seat 'a': elem.Filter's answer is the document's: the plain law.
Conditions: what is made of plain data.
Seat 'a': elem.Filter's answer is the document's: the plain laws.
Conditions: what is made of plain data.
Seat 'a': ElemFilters is true: what the law's function answers.
Conditions: the numbers of the constraint's first list are of 8 bits.
-/
import Derived.Test.YtnojoaghcbljfaaGreatDoorAy
import Derived.Test.YtnojoaghcbljfaaGreatDoorAp
set_option linter.unusedVariables false
set_option linter.unusedSimpArgs false
set_option maxRecDepth 100000
namespace Go.Proofs.YtnojoaghcbljfaaGreatDoor.Ev
open Go

/-- Numbers of 8 bits. -/
def U8s (l : List Int) : Prop := ∀ x ∈ l, 0 ≤ x ∧ x < 256
theorem places_range {l : List Int} {n v : Int} (hl : U8s l) (hv : 0 < v) : ∀ x ∈ placesL l n v, 0 ≤ x ∧ x < v := by
  intro x hx
  unfold placesL at hx
  obtain ⟨i, _, rfl⟩ := List.mem_map.mp hx
  have key : ∀ y : Int, 0 ≤ y → 0 ≤ y.tmod v ∧ y.tmod v < v := fun y hy => by
    rw [Int.tmod_eq_emod_of_nonneg hy]
    exact ⟨Int.emod_nonneg _ (by omega), Int.emod_lt_of_pos _ hv⟩
  split
  · rename_i hi
    have hm : l.getD i 0 ∈ l := by
      rw [List.getD_eq_getElem?_getD, List.getElem?_eq_getElem hi]
      exact List.getElem_mem _
    have := hl _ hm
    rw [wrap_ok (by omega) (by omega)]
    exact key _ (by omega)
  · exact key _ (by omega)
theorem numbers_range {l : List Int} {f n wide : Int} (hw : 0 < wide) : ∀ x ∈ numbersL l f n (-1) wide, -wide < x ∧ x < wide := by
  intro x hx
  unfold numbersL at hx
  obtain ⟨i, _, rfl⟩ := List.mem_map.mp hx
  unfold numR
  rw [if_neg (fun h => by have := h.2; omega)]
  exact tmod_abs hw
theorem numbers_length (l : List Int) (f n least wide : Int) : (numbersL l f n least wide).length = n.toNat := by unfold numbersL; simp
theorem not_any {α : Type} {l : List α} {p : α → Bool} (h : ∀ x ∈ l, p x = false) : l.any p = false := by
  rw [List.any_eq_false]
  intro x hx
  rw [h x hx]
  simp
theorem bounded_ok {l : List Int} (h : ∀ x ∈ l, -1000000 ≤ x ∧ x ≤ 1000000) : boundedD l (-1000000) = true := by
  unfold boundedD
  rw [not_any (fun x hx => ?_)]
  · rfl
  · have := h x hx
    unfold numB
    simp only [Bool.or_eq_false_iff, decide_eq_false_iff_not]
    omega
theorem vars_ok {l : List Int} (h : ∀ x ∈ l, 0 ≤ x ∧ x < 256) : List.any l (varB 256) = false := by
  refine not_any (fun x hx => ?_)
  have := h x hx
  unfold varB
  simp only [Bool.or_eq_false_iff, decide_eq_false_iff_not]
  omega
/-! ### domains of lists -/
theorem smallDom_ok {w : Int} {l : List Int} (h : SmallDom w l) (hw : w ≤ 1000) : okL l = true := okL_small h.ne (fun x hx => by have := h.abs x hx; omega)
theorem listB_of {l : List Int} (h : okL l = true) : listB (ofD l).1 = true := listB_wf (wf_ofD h)

/-! ### rows of two values -/
/-! ### what stands at a place -/
end Go.Proofs.YtnojoaghcbljfaaGreatDoor.Ev

set_option linter.unusedVariables false
set_option linter.unusedSimpArgs false
set_option maxRecDepth 100000
namespace Go.Proofs.YtnojoaghcbljfaaGreatDoor.Ev
open Go

def near3 (l : List Int) : Prop := ∀ x ∈ l, -1000 ≤ x ∧ x ≤ 1000
theorem okL_nil : okL [] = false := rfl
/-! ### the document's answer -/
end Go.Proofs.YtnojoaghcbljfaaGreatDoor.Ev

set_option linter.unusedVariables false
set_option linter.unusedSimpArgs false
set_option maxRecDepth 100000
namespace Go.Proofs.YtnojoaghcbljfaaGreatDoor.Ev
open Go

theorem two_of {α : Type} {l : List α} (h : l.length = 2) : ∃ a b, l = [a, b] := by
  match l, h with
  | [a, b], _ => exact ⟨a, b, rfl⟩
end Go.Proofs.YtnojoaghcbljfaaGreatDoor.Ev
