/-
Seat 'a': contracts off the shelf, at this program's numbers: slices.Grow, math/bits.TrailingZeros64.
Conditions: none.
-/
import Derived.Shelf.Spec.SlicesGrow
import Derived.Shelf.Spec.TrailingZeros
import Derived.Test.YtnojoaghcbljfaaGreatDoorProg
import Derived.KernelRfl
namespace Go.Proofs
open Go Go.Shelf
def Tryz.growI_ren : Go.Shelf.Ren :=
  { f := fun x => match x with
      | 4 => 174
      | n => n
    t := fun x => match x with
      | 22 => 30
      | 25 => 3
      | n => n
    g := fun n => n }
theorem Tryz.growI : Lays8.n4 Tryz.prog Tryz.growI_ren where
  mixed := by kernel_rfl
  f4 := ⟨Tryz.f174.name, by kernel_rfl, by kernel_rfl⟩
  t0 := by kernel_rfl
  a0 := fun w => by kernel_rfl
  z0 := fun w => by kernel_rfl
  v0 := fun w => by kernel_rfl
  t3 := by kernel_rfl
  a3 := fun w => by kernel_rfl
  z3 := fun w => by kernel_rfl
  v3 := fun w => by kernel_rfl
  t4 := by kernel_rfl
  a4 := fun w => by kernel_rfl
  z4 := fun w => by kernel_rfl
  v4 := fun w => by kernel_rfl
  t9 := by kernel_rfl
  a9 := fun w => by kernel_rfl
  z9 := fun w => by kernel_rfl
  v9 := fun w => by kernel_rfl
  t20 := by kernel_rfl
  a20 := fun w => by kernel_rfl
  z20 := fun w => by kernel_rfl
  v20 := fun w => by kernel_rfl
  t22 := by kernel_rfl
  a22 := fun w => by kernel_rfl
  z22 := fun w => by kernel_rfl
  v22 := fun w => by kernel_rfl
def Tryz.tzI_ren : Go.Shelf.Ren :=
  { f := fun x => match x with
      | 29 => 55
      | n => n
    t := fun x => match x with
      | 22 => 81
      | 25 => 56
      | 54 => 115
      | n => n
    g := fun x => match x with
      | 1 => 0
      | n => n }
theorem Tryz.tzI : Lays7.n29 Tryz.prog Tryz.tzI_ren where
  mixed := by kernel_rfl
  f29 := by kernel_rfl
  t0 := by kernel_rfl
  a0 := fun w => by kernel_rfl
  z0 := fun w => by kernel_rfl
  v0 := fun w => by kernel_rfl
  i0 := by kernel_rfl
  t3 := by kernel_rfl
  a3 := fun w => by kernel_rfl
  z3 := fun w => by kernel_rfl
  v3 := fun w => by kernel_rfl
  i3 := by kernel_rfl
  t4 := by kernel_rfl
  a4 := fun w => by kernel_rfl
  z4 := fun w => by kernel_rfl
  v4 := fun w => by kernel_rfl
  i4 := by kernel_rfl
  t5 := by kernel_rfl
  a5 := fun w => by kernel_rfl
  z5 := fun w => by kernel_rfl
  v5 := fun w => by kernel_rfl
  i5 := by kernel_rfl
  t22 := by kernel_rfl
  a22 := fun w => by kernel_rfl
  z22 := fun w => by kernel_rfl
  v22 := fun w => by kernel_rfl
  i22 := by kernel_rfl
  t25 := by kernel_rfl
  a25 := fun w => by kernel_rfl
  z25 := fun w => by kernel_rfl
  v25 := fun w => by kernel_rfl
  i25 := by kernel_rfl
  t54 := by kernel_rfl
  a54 := fun w => by kernel_rfl
  z54 := fun w => by kernel_rfl
  g1 := by kernel_rfl
end Go.Proofs

