/-
Seat 'a': constraints and domains made of plain data: what the functions answer, and what they are like.
Conditions: the kinds of Element, EqReif, LeReif, EqImp, LeImp.
Seat 'a': elem.Filter's answer is the document's: the plain law.
Conditions: what is made of plain data.
Seat 'a': elem.Filter's answer is the document's: the plain laws.
Conditions: what is made of plain data.
Seat 'a': ElemFilters is true: what the law's function answers.
Conditions: the numbers of the constraint's first list are of 8 bits.
Seat 'a': contracts off the shelf, at this program's numbers: slices.Grow, math/bits.TrailingZeros64.
Conditions: none.
-/
import Derived.Test.YtlfdikofmfhefaaGreatDoorAw
import Derived.Test.YtlfdikofmfhefaaGreatDoorAm6
import Derived.Test.YtlfdikofmfhefaaGreatDoorAp
import Derived.Shelf.Spec.SlicesGrow
import Derived.Shelf.Spec.TrailingZeros
import Derived.Test.YtlfdikofmfhefaaGreatDoorProg
import Derived.KernelRfl
set_option linter.unusedVariables false
set_option linter.unusedSimpArgs false
set_option maxRecDepth 100000
namespace Go.Proofs.YtlfdikofmfhefaaGreatDoor.Ev
open Go
abbrev ZRest := List Int × List Int × List Int × Int × Int
abbrev SmallT : Ty := .pair (.int .u8) (.pair (.sl (.int .u8)) (.pair (.sl (.int .u8)) (.pair (.sl (.int .i8)) (.pair (.int .i16) (.int .u8)))))
abbrev CaseT : Ty := .pair SmallT (.sl (.sl (.int .i64)))
theorem places_ok {l : List Int} {n v : Int} (h0 : 0 ≤ n) (h1 : n ≤ 1000) (hv : v ≠ 0) : placesB l n v = true := by unfold placesB; simp [h0, h1, hv]
theorem insR_mem (v : Int) : ∀ (out : List Int) (x : Int), x ∈ insR v out ↔ x = v ∨ x ∈ out
 | [], x => by simp [insR]
 | y :: out, x => by
  unfold insR
  split
  ·simp
  ·rw [List.mem_cons, insR_mem v out, List.mem_cons]
   constructor
   ·rintro (h | h | h)
    ·exact .inr (.inl h)
    ·exact .inl h
    ·exact .inr (.inr h)
   ·rintro (h | h | h)
    ·exact .inr (.inl h)
    ·exact .inl h
    ·exact .inr (.inr h)
theorem insR_rising (v : Int) : ∀ (out : List Int), Rising out → v ∉ out → Rising (insR v out)
 | [], _, _ => by unfold insR; exact List.pairwise_singleton _ _
 | y :: out, h, hv => by
  obtain ⟨h1, h2⟩ := List.pairwise_cons.mp h
  unfold insR
  split
  ·rename_i hy
   refine List.pairwise_cons.mpr ⟨fun z hz => ?_, h⟩
   rcases List.mem_cons.mp hz with rfl | hz
   ·omega
   ·have := h1 z hz; omega
  ·rename_i hy
   have hne : v ≠ y := fun e => hv (by rw [e]; simp)
   refine List.pairwise_cons.mpr ⟨fun z hz => ?_, insR_rising v out h2 (fun hm => hv (by simp [hm]))⟩
   rcases (insR_mem v out z).mp hz with rfl | hz
   ·omega
   ·exact h1 z hz
theorem hasL_mem (l : List Int) (v : Int) : hasL l v = decide (v ∈ l) := by
 unfold hasL
 rw [Bool.eq_iff_iff]
 simp
theorem refGo_spec : ∀ (l out : List Int), Rising out → Rising (refGo l out) ∧ (∀ x, x ∈ refGo l out ↔ x ∈ l ∨ x ∈ out) ∧ (refGo l out).length ≤ l.length + out.length
 | [], out, h => ⟨h, by simp [refGo], by simp [refGo]⟩
 | v :: l, out, h => by
  unfold refGo
  rw [hasL_mem]
  by_cases hv : v ∈ out
  ·simp only [hv, decide_true, if_true]
   obtain ⟨a, b, c⟩ := refGo_spec l out h
   refine ⟨a, fun x => ?_, by simp only [List.length_cons]; omega⟩
   rw [b, List.mem_cons]
   constructor
   ·rintro (h | h)
    ·exact .inl (.inr h)
    ·exact .inr h
   ·rintro ((h | h) | h)
    ·exact .inr (by rw [h]; exact hv)
    ·exact .inl h
    ·exact .inr h
  ·simp only [hv, decide_false, Bool.false_eq_true, if_false]
   obtain ⟨a, b, c⟩ := refGo_spec l (insR v out) (insR_rising v out h hv)
   refine ⟨a, fun x => ?_, by rw [insR_len] at c; simp only [List.length_cons]; omega⟩
   rw [b, insR_mem, List.mem_cons]
   constructor
   ·rintro (h | h | h)
    ·exact .inl (.inr h)
    ·exact .inl (.inl h)
    ·exact .inr h
   ·rintro ((h | h) | h)
    ·exact .inr (.inl h)
    ·exact .inl h
    ·exact .inr (.inr h)
structure SmallDom (w : Int) (l : List Int) : Prop where
  ris : Rising l
  ne : l ≠ []
  abs : ∀ x ∈ l, -w < x ∧ x < w
  len : l.length ≤ 6
theorem places_length (l : List Int) (n v : Int) : (placesL l n v).length = n.toNat := by unfold placesL; simp
end Go.Proofs.YtlfdikofmfhefaaGreatDoor.Ev
set_option linter.unusedVariables false
set_option linter.unusedSimpArgs false
set_option maxRecDepth 100000
namespace Go.Proofs.YtlfdikofmfhefaaGreatDoor.Ev
open Go
def U8s (l : List Int) : Prop := ∀ x ∈ l, 0 ≤ x ∧ x < 256
theorem numbers_length (l : List Int) (f n least wide : Int) : (numbersL l f n least wide).length = n.toNat := by unfold numbersL; simp
theorem listB_of {l : List Int} (h : okL l = true) : listB (ofD l).1 = true := listB_wf (wf_ofD h)
end Go.Proofs.YtlfdikofmfhefaaGreatDoor.Ev
set_option linter.unusedVariables false
set_option linter.unusedSimpArgs false
set_option maxRecDepth 100000
namespace Go.Proofs.YtlfdikofmfhefaaGreatDoor.Ev
open Go
end Go.Proofs.YtlfdikofmfhefaaGreatDoor.Ev
set_option linter.unusedVariables false
set_option linter.unusedSimpArgs false
set_option maxRecDepth 100000
namespace Go.Proofs.YtlfdikofmfhefaaGreatDoor.Ev
open Go
theorem two_of {α : Type} {l : List α} (h : l.length = 2) : ∃ a b, l = [a, b] := by
 match l, h with
 | [a, b], _ => exact ⟨a, b, rfl⟩
end Go.Proofs.YtlfdikofmfhefaaGreatDoor.Ev
namespace Go.Proofs
open Go Go.Shelf
def Tryz.growI_ren : Go.Shelf.Ren :=
 {f := fun x => match x with
   | 4 => 141
   | n => n
  t := fun x => match x with
   | 22 => 29
   | 25 => 3
   | n => n
  g := fun n => n }
theorem Tryz.growI : Lays8.n4 Tryz.prog Tryz.growI_ren where
 mixed := by kernel_rfl
 f4 := ⟨Tryz.f141.name, by kernel_rfl, by kernel_rfl⟩
 t0 := by kernel_rfl
 a0 := fun w => by kernel_rfl
 z0 := fun w => by kernel_rfl
 v0 := fun w => by kernel_rfl
 t3 := by kernel_rfl
 a3 := fun w => by kernel_rfl
 z3 := fun w => by kernel_rfl
 v3 := fun w => by kernel_rfl
 t4 := by kernel_rfl
 a4 := fun w => by kernel_rfl
 z4 := fun w => by kernel_rfl
 v4 := fun w => by kernel_rfl
 t9 := by kernel_rfl
 a9 := fun w => by kernel_rfl
 z9 := fun w => by kernel_rfl
 v9 := fun w => by kernel_rfl
 t20 := by kernel_rfl
 a20 := fun w => by kernel_rfl
 z20 := fun w => by kernel_rfl
 v20 := fun w => by kernel_rfl
 t22 := by kernel_rfl
 a22 := fun w => by kernel_rfl
 z22 := fun w => by kernel_rfl
 v22 := fun w => by kernel_rfl
def Tryz.tzI_ren : Go.Shelf.Ren :=
 {f := fun x => match x with
   | 29 => 138
   | n => n
  t := fun x => match x with
   | 22 => 145
   | 25 => 48
   | 54 => 162
   | n => n
  g := fun x => match x with
   | 1 => 0
   | n => n }
theorem Tryz.tzI : Lays7.n29 Tryz.prog Tryz.tzI_ren where
 mixed := by kernel_rfl
 f29 := by kernel_rfl
 t0 := by kernel_rfl
 a0 := fun w => by kernel_rfl
 z0 := fun w => by kernel_rfl
 v0 := fun w => by kernel_rfl
 i0 := by kernel_rfl
 t3 := by kernel_rfl
 a3 := fun w => by kernel_rfl
 z3 := fun w => by kernel_rfl
 v3 := fun w => by kernel_rfl
 i3 := by kernel_rfl
 t4 := by kernel_rfl
 a4 := fun w => by kernel_rfl
 z4 := fun w => by kernel_rfl
 v4 := fun w => by kernel_rfl
 i4 := by kernel_rfl
 t5 := by kernel_rfl
 a5 := fun w => by kernel_rfl
 z5 := fun w => by kernel_rfl
 v5 := fun w => by kernel_rfl
 i5 := by kernel_rfl
 t22 := by kernel_rfl
 a22 := fun w => by kernel_rfl
 z22 := fun w => by kernel_rfl
 v22 := fun w => by kernel_rfl
 i22 := by kernel_rfl
 t25 := by kernel_rfl
 a25 := fun w => by kernel_rfl
 z25 := fun w => by kernel_rfl
 v25 := fun w => by kernel_rfl
 i25 := by kernel_rfl
 t54 := by kernel_rfl
 a54 := fun w => by kernel_rfl
 z54 := fun w => by kernel_rfl
 g1 := by kernel_rfl
end Go.Proofs
