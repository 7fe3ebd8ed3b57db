/-
Seat 'a': constraints and domains made of plain data: what the functions answer, and what they are like.
Conditions: the kinds of Element, EqReif, LeReif, EqImp, LeImp.
Seat 'a': elem.Filter's answer is the document's: the plain law.
Conditions: what is made of plain data.
Seat 'a': elem.Filter's answer is the document's: the plain laws.
Conditions: what is made of plain data.
Seat 'a': ElemFilters is true: what the law's function answers.
Conditions: the numbers of the constraint's first list are of 8 bits.
Seat 'a': contracts off the shelf, at this program's numbers: slices.Grow, math/bits.TrailingZeros64.
Conditions: none.
-/
import Derived.Test.YtnojoaghcbljfaaGreatDoorAw
import Derived.Test.YtnojoaghcbljfaaGreatDoorAm
import Derived.Test.YtnojoaghcbljfaaGreatDoorAp
import Derived.Shelf.Spec.SlicesGrow
import Derived.Shelf.Spec.TrailingZeros
import Derived.Test.YtnojoaghcbljfaaGreatDoorProg
import Derived.KernelRfl
set_option linter.unusedVariables false
set_option linter.unusedSimpArgs false
set_option maxRecDepth 100000
namespace Go.Proofs.YtnojoaghcbljfaaGreatDoor.Ev
open Go
abbrev ZRest := List Int × List Int × List Int × Int × Int
abbrev SmallT : Ty := .pair (.int .u8) (.pair (.sl (.int .u8)) (.pair (.sl (.int .u8)) (.pair (.sl (.int .i8)) (.pair (.int .i16) (.int .u8)))))
abbrev CaseT : Ty := .pair SmallT (.sl (.sl (.int .i64)))
theorem places_ok {l : List Int} {n v : Int} (h0 : 0 ≤ n) (h1 : n ≤ 1000) (hv : v ≠ 0) : placesB l n v = true := by unfold placesB; simp [h0, h1, hv]
theorem tmod_abs {v w : Int} (hw : 0 < w) : -w < v.tmod w ∧ v.tmod w < w := by
 rcases Int.le_total 0 v with h | h
 ·rw [Int.tmod_eq_emod_of_nonneg h]
  have h1 := Int.emod_nonneg v (show w ≠ 0 by omega)
  have h2 := Int.emod_lt_of_pos v hw
  omega
 ·have e : v.tmod w = -((-v).tmod w) := by rw [Int.neg_tmod, Int.neg_neg]
  rw [e, Int.tmod_eq_emod_of_nonneg (by omega)]
  have h1 := Int.emod_nonneg (-v) (show w ≠ 0 by omega)
  have h2 := Int.emod_lt_of_pos (-v) hw
  omega
theorem okL_small {l : List Int} (hne : l ≠ []) (h : ∀ x ∈ l, -1000 ≤ x ∧ x ≤ 1000) : okL l = true := by
 refine okL_iff.mpr ⟨hne, fun x hx => ?_, ?_⟩
 ·have := h x hx
  exact inD_iff.mpr ⟨by omega, by omega⟩
 ·have h1 := h _ (maxL_spec hne).2
  have h2 := h _ (minL_spec hne).2
  omega
theorem cutL_small {l : List Int} {m w : Int} (hne : l ≠ []) (hm : 0 < m) (hw : 1 ≤ w) : cutL l m w ≠ [] ∧ ∀ x ∈ cutL l m w, -w < x ∧ x < w := by
 refine ⟨?_, fun x hx => ?_⟩
 ·unfold cutL
  intro e
  rw [List.map_eq_nil_iff] at e
  rcases List.take_eq_nil_iff.mp e with h | h
  ·omega
  ·exact hne h
 ·unfold cutL at hx
  obtain ⟨y, _, rfl⟩ := List.mem_map.mp hx
  exact tmod_abs (by omega)
theorem smallB_ok {l : List Int} {w : Int} (hne : l ≠ []) (hw : 1 ≤ w) (hw1 : w ≤ 1000) : smallB l 6 w = true := by
 unfold smallB
 obtain ⟨h1, h2⟩ := cutL_small hne (show (0 : Int) < 6 by omega) hw
 have h3 : okL (cutL l 6 w) = true := okL_small h1 (fun x hx => by have := h2 x hx; omega)
 have h4 : (cutL l 6 w).length ≤ 1000 := by unfold cutL; rw [List.length_map, List.length_take]; omega
 simp only [Bool.and_eq_true, decide_eq_true_eq, Nat.ble_eq]
 exact ⟨⟨⟨⟨h4, by omega⟩, by omega⟩, by omega⟩, h3⟩
theorem insR_mem (v : Int) : ∀ (out : List Int) (x : Int), x ∈ insR v out ↔ x = v ∨ x ∈ out
 | [], x => by simp [insR]
 | y :: out, x => by
  unfold insR
  split
  ·simp
  ·rw [List.mem_cons, insR_mem v out, List.mem_cons]
   constructor
   ·rintro (h | h | h)
    ·exact .inr (.inl h)
    ·exact .inl h
    ·exact .inr (.inr h)
   ·rintro (h | h | h)
    ·exact .inr (.inl h)
    ·exact .inl h
    ·exact .inr (.inr h)
theorem insR_rising (v : Int) : ∀ (out : List Int), Rising out → v ∉ out → Rising (insR v out)
 | [], _, _ => by unfold insR; exact List.pairwise_singleton _ _
 | y :: out, h, hv => by
  obtain ⟨h1, h2⟩ := List.pairwise_cons.mp h
  unfold insR
  split
  ·rename_i hy
   refine List.pairwise_cons.mpr ⟨fun z hz => ?_, h⟩
   rcases List.mem_cons.mp hz with rfl | hz
   ·omega
   ·have := h1 z hz; omega
  ·rename_i hy
   have hne : v ≠ y := fun e => hv (by rw [e]; simp)
   refine List.pairwise_cons.mpr ⟨fun z hz => ?_, insR_rising v out h2 (fun hm => hv (by simp [hm]))⟩
   rcases (insR_mem v out z).mp hz with rfl | hz
   ·omega
   ·exact h1 z hz
theorem hasL_mem (l : List Int) (v : Int) : hasL l v = decide (v ∈ l) := by
 unfold hasL
 rw [Bool.eq_iff_iff]
 simp
theorem refGo_spec : ∀ (l out : List Int), Rising out → Rising (refGo l out) ∧ (∀ x, x ∈ refGo l out ↔ x ∈ l ∨ x ∈ out) ∧ (refGo l out).length ≤ l.length + out.length
 | [], out, h => ⟨h, by simp [refGo], by simp [refGo]⟩
 | v :: l, out, h => by
  unfold refGo
  rw [hasL_mem]
  by_cases hv : v ∈ out
  ·simp only [hv, decide_true, if_true]
   obtain ⟨a, b, c⟩ := refGo_spec l out h
   refine ⟨a, fun x => ?_, by simp only [List.length_cons]; omega⟩
   rw [b, List.mem_cons]
   constructor
   ·rintro (h | h)
    ·exact .inl (.inr h)
    ·exact .inr h
   ·rintro ((h | h) | h)
    ·exact .inr (by rw [h]; exact hv)
    ·exact .inl h
    ·exact .inr h
  ·simp only [hv, decide_false, Bool.false_eq_true, if_false]
   obtain ⟨a, b, c⟩ := refGo_spec l (insR v out) (insR_rising v out h hv)
   refine ⟨a, fun x => ?_, by rw [insR_len] at c; simp only [List.length_cons]; omega⟩
   rw [b, insR_mem, List.mem_cons]
   constructor
   ·rintro (h | h | h)
    ·exact .inl (.inr h)
    ·exact .inl (.inl h)
    ·exact .inr h
   ·rintro ((h | h) | h)
    ·exact .inr (.inl h)
    ·exact .inl h
    ·exact .inr (.inr h)
structure SmallDom (w : Int) (l : List Int) : Prop where
  ris : Rising l
  ne : l ≠ []
  abs : ∀ x ∈ l, -w < x ∧ x < w
  len : l.length ≤ 6
theorem smallL_ok {l : List Int} {w : Int} (hne : l ≠ []) (hw : 1 ≤ w) : SmallDom w (smallL l 6 w) := by
 obtain ⟨h1, h2⟩ := cutL_small hne (show (0 : Int) < 6 by omega) hw
 obtain ⟨a, b, c⟩ := refGo_spec (cutL l 6 w) [] List.Pairwise.nil
 have e : smallL l 6 w = refGo (cutL l 6 w) [] := rfl
 rw [← e] at a b c
 have hc : (cutL l 6 w).length ≤ 6 := by unfold cutL; rw [List.length_map, List.length_take]; omega
 refine ⟨a, ?_, fun x hx => ?_, by simp only [List.length_nil] at c; omega⟩
 ·obtain ⟨x, hx⟩ := List.exists_mem_of_ne_nil _ h1
  exact List.ne_nil_of_mem ((b x).mpr (.inl hx))
 ·rcases (b x).mp hx with h | h
  ·exact h2 x h
  ·simp at h
theorem places_length (l : List Int) (n v : Int) : (placesL l n v).length = n.toNat := by unfold placesL; simp
theorem pick_ne (d : List (List Int)) (i : Nat) : pickL d i ≠ [] := by
 unfold pickL
 split
 ·rename_i h
  intro e
  rw [e] at h
  simp at h
 ·simp
end Go.Proofs.YtnojoaghcbljfaaGreatDoor.Ev
set_option linter.unusedVariables false
set_option linter.unusedSimpArgs false
set_option maxRecDepth 100000
namespace Go.Proofs.YtnojoaghcbljfaaGreatDoor.Ev
open Go
def U8s (l : List Int) : Prop := ∀ x ∈ l, 0 ≤ x ∧ x < 256
theorem numbers_length (l : List Int) (f n least wide : Int) : (numbersL l f n least wide).length = n.toNat := by unfold numbersL; simp
theorem smallDom_ok {w : Int} {l : List Int} (h : SmallDom w l) (hw : w ≤ 1000) : okL l = true := okL_small h.ne (fun x hx => by have := h.abs x hx; omega)
end Go.Proofs.YtnojoaghcbljfaaGreatDoor.Ev
set_option linter.unusedVariables false
set_option linter.unusedSimpArgs false
set_option maxRecDepth 100000
namespace Go.Proofs.YtnojoaghcbljfaaGreatDoor.Ev
open Go
end Go.Proofs.YtnojoaghcbljfaaGreatDoor.Ev
set_option linter.unusedVariables false
set_option linter.unusedSimpArgs false
set_option maxRecDepth 100000
namespace Go.Proofs.YtnojoaghcbljfaaGreatDoor.Ev
open Go
theorem two_of {α : Type} {l : List α} (h : l.length = 2) : ∃ a b, l = [a, b] := by
 match l, h with
 | [a, b], _ => exact ⟨a, b, rfl⟩
end Go.Proofs.YtnojoaghcbljfaaGreatDoor.Ev
namespace Go.Proofs
open Go Go.Shelf
def Tryz.growI_ren : Go.Shelf.Ren :=
 {f := fun x => match x with
   | 4 => 174
   | n => n
  t := fun x => match x with
   | 22 => 30
   | 25 => 3
   | n => n
  g := fun n => n }
theorem Tryz.growI : Lays8.n4 Tryz.prog Tryz.growI_ren where
 mixed := by kernel_rfl
 f4 := ⟨Tryz.f174.name, by kernel_rfl, by kernel_rfl⟩
 t0 := by kernel_rfl
 a0 := fun w => by kernel_rfl
 z0 := fun w => by kernel_rfl
 v0 := fun w => by kernel_rfl
 t3 := by kernel_rfl
 a3 := fun w => by kernel_rfl
 z3 := fun w => by kernel_rfl
 v3 := fun w => by kernel_rfl
 t4 := by kernel_rfl
 a4 := fun w => by kernel_rfl
 z4 := fun w => by kernel_rfl
 v4 := fun w => by kernel_rfl
 t9 := by kernel_rfl
 a9 := fun w => by kernel_rfl
 z9 := fun w => by kernel_rfl
 v9 := fun w => by kernel_rfl
 t20 := by kernel_rfl
 a20 := fun w => by kernel_rfl
 z20 := fun w => by kernel_rfl
 v20 := fun w => by kernel_rfl
 t22 := by kernel_rfl
 a22 := fun w => by kernel_rfl
 z22 := fun w => by kernel_rfl
 v22 := fun w => by kernel_rfl
def Tryz.tzI_ren : Go.Shelf.Ren :=
 {f := fun x => match x with
   | 29 => 55
   | n => n
  t := fun x => match x with
   | 22 => 81
   | 25 => 56
   | 54 => 115
   | n => n
  g := fun x => match x with
   | 1 => 0
   | n => n }
theorem Tryz.tzI : Lays7.n29 Tryz.prog Tryz.tzI_ren where
 mixed := by kernel_rfl
 f29 := by kernel_rfl
 t0 := by kernel_rfl
 a0 := fun w => by kernel_rfl
 z0 := fun w => by kernel_rfl
 v0 := fun w => by kernel_rfl
 i0 := by kernel_rfl
 t3 := by kernel_rfl
 a3 := fun w => by kernel_rfl
 z3 := fun w => by kernel_rfl
 v3 := fun w => by kernel_rfl
 i3 := by kernel_rfl
 t4 := by kernel_rfl
 a4 := fun w => by kernel_rfl
 z4 := fun w => by kernel_rfl
 v4 := fun w => by kernel_rfl
 i4 := by kernel_rfl
 t5 := by kernel_rfl
 a5 := fun w => by kernel_rfl
 z5 := fun w => by kernel_rfl
 v5 := fun w => by kernel_rfl
 i5 := by kernel_rfl
 t22 := by kernel_rfl
 a22 := fun w => by kernel_rfl
 z22 := fun w => by kernel_rfl
 v22 := fun w => by kernel_rfl
 i22 := by kernel_rfl
 t25 := by kernel_rfl
 a25 := fun w => by kernel_rfl
 z25 := fun w => by kernel_rfl
 v25 := fun w => by kernel_rfl
 i25 := by kernel_rfl
 t54 := by kernel_rfl
 a54 := fun w => by kernel_rfl
 z54 := fun w => by kernel_rfl
 g1 := by kernel_rfl
end Go.Proofs
