/-
slices.Grow of nothing: the shelf's contract, at this program's numbers.
Conditions: none.
-/
import Derived.Shelf.Spec.SlicesGrow
import Derived.Test.YtoplphfgbfcagaaProg
import Derived.KernelRfl
namespace Go.Proofs
open Go Go.Shelf
def Try.growI_ren : Go.Shelf.Ren :=
  { f := fun x => match x with
      | 4 => 37
      | n => n
    t := fun x => match x with
      | 22 => 41
      | 25 => 3
      | n => n
    g := fun n => n }
theorem Try.growI : Lays8.n4 Try.prog Try.growI_ren where
  mixed := by kernel_rfl
  f4 := ⟨Try.f37.name, by kernel_rfl, by kernel_rfl⟩
  t0 := by kernel_rfl
  a0 := fun w => by kernel_rfl
  z0 := fun w => by kernel_rfl
  v0 := fun w => by kernel_rfl
  t3 := by kernel_rfl
  a3 := fun w => by kernel_rfl
  z3 := fun w => by kernel_rfl
  v3 := fun w => by kernel_rfl
  t4 := by kernel_rfl
  a4 := fun w => by kernel_rfl
  z4 := fun w => by kernel_rfl
  v4 := fun w => by kernel_rfl
  t9 := by kernel_rfl
  a9 := fun w => by kernel_rfl
  z9 := fun w => by kernel_rfl
  v9 := fun w => by kernel_rfl
  t20 := by kernel_rfl
  a20 := fun w => by kernel_rfl
  z20 := fun w => by kernel_rfl
  v20 := fun w => by kernel_rfl
  t22 := by kernel_rfl
  a22 := fun w => by kernel_rfl
  z22 := fun w => by kernel_rfl
  v22 := fun w => by kernel_rfl
end Go.Proofs
