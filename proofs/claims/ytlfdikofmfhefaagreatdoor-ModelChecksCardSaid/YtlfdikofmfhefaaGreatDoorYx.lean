/-
Contracts off the shelf, at this program's numbers: slices.Sort, slices.Compact at []int.
Conditions: none.
-/
import Derived.Shelf.Sort.Plain
import Derived.Shelf.Slices.CompactI
import Derived.Test.YtlfdikofmfhefaaGreatDoorProg
import Derived.KernelRfl
set_option maxRecDepth 100000
namespace Go.Proofs
open Go Go.Shelf
def Tryz.sortI_ren : Go.Shelf.Ren :=
 {f := fun x => match x with
   | 189 => 32
   | 125 => 70
   | 257 => 69
   | 128 => 122
   | 129 => 123
   | 294 => 113
   | 295 => 114
   | 296 => 115
   | 297 => 116
   | 298 => 117
   | 299 => 118
   | 216 => 119
   | 300 => 120
   | 301 => 121
   | 328 => 145
   | 329 => 146
   | 330 => 147
   | 331 => 148
   | 332 => 149
   | 215 => 150
   | 343 => 162
   | n => n
  t := fun x => match x with
   | 28 => 29
   | 46 => 48
   | 51 => 143
   | 53 => 145
   | 183 => 137
   | 182 => 136
   | 131 => 57
   | 218 => 154
   | 222 => 158
   | 228 => 165
   | 229 => 35
   | n => n
  g := fun n => n }
theorem Tryz.sortI : Lays.n189 Tryz.prog Tryz.sortI_ren where
 mixed := by kernel_rfl
 f125 := by kernel_rfl
 f128 := by kernel_rfl
 f129 := by kernel_rfl
 f189 := by kernel_rfl
 f215 := by kernel_rfl
 f216 := by kernel_rfl
 f257 := by kernel_rfl
 f294 := by kernel_rfl
 f295 := by kernel_rfl
 f296 := by kernel_rfl
 f297 := by kernel_rfl
 f298 := by kernel_rfl
 f299 := by kernel_rfl
 f300 := by kernel_rfl
 f301 := by kernel_rfl
 f328 := by kernel_rfl
 f329 := by kernel_rfl
 f330 := by kernel_rfl
 f331 := by kernel_rfl
 f332 := by kernel_rfl
 f343 := by kernel_rfl
 t0 := by kernel_rfl
 a0 := fun w => by kernel_rfl
 z0 := fun w => by kernel_rfl
 v0 := fun w => by kernel_rfl
 t3 := by kernel_rfl
 a3 := fun w => by kernel_rfl
 z3 := fun w => by kernel_rfl
 v3 := fun w => by kernel_rfl
 t4 := by kernel_rfl
 a4 := fun w => by kernel_rfl
 z4 := fun w => by kernel_rfl
 v4 := fun w => by kernel_rfl
 t5 := by kernel_rfl
 a5 := fun w => by kernel_rfl
 z5 := fun w => by kernel_rfl
 v5 := fun w => by kernel_rfl
 t9 := by kernel_rfl
 a9 := fun w => by kernel_rfl
 z9 := fun w => by kernel_rfl
 v9 := fun w => by kernel_rfl
 t28 := by kernel_rfl
 a28 := fun w => by kernel_rfl
 z28 := fun w => by kernel_rfl
 v28 := fun w => by kernel_rfl
 t46 := by kernel_rfl
 a46 := fun w => by kernel_rfl
 z46 := fun w => by kernel_rfl
 v46 := fun w => by kernel_rfl
 t51 := by kernel_rfl
 a51 := fun w => by kernel_rfl
 z51 := fun w => by kernel_rfl
 v51 := fun w => by kernel_rfl
 t53 := by kernel_rfl
 a53 := fun w => by kernel_rfl
 z53 := fun w => by kernel_rfl
 v53 := fun w => by kernel_rfl
 t131 := by kernel_rfl
 a131 := fun w => by kernel_rfl
 z131 := fun w => by kernel_rfl
 v131 := fun w => by kernel_rfl
 t182 := by kernel_rfl
 a182 := fun w => by kernel_rfl
 z182 := fun w => by kernel_rfl
 v182 := fun w => by kernel_rfl
 t183 := by kernel_rfl
 a183 := fun w => by kernel_rfl
 z183 := fun w => by kernel_rfl
 v183 := fun w => by kernel_rfl
 t218 := by kernel_rfl
 a218 := fun w => by kernel_rfl
 z218 := fun w => by kernel_rfl
 v218 := fun w => by kernel_rfl
 t222 := by kernel_rfl
 a222 := fun w => by kernel_rfl
 z222 := fun w => by kernel_rfl
 v222 := fun w => by kernel_rfl
 t228 := by kernel_rfl
 a228 := fun w => by kernel_rfl
 z228 := fun w => by kernel_rfl
 v228 := fun w => by kernel_rfl
 t229 := by kernel_rfl
 a229 := fun w => by kernel_rfl
 z229 := fun w => by kernel_rfl
 v229 := fun w => by kernel_rfl
def Tryz.compI_ren : Go.Shelf.Ren :=
 {f := fun x => match x with
   | 20 => 33
   | n => n
  t := fun x => match x with
   | 22 => 29
   | n => n
  g := fun n => n }
theorem Tryz.compI : Lays2.n20 Tryz.prog Tryz.compI_ren where
 mixed := by kernel_rfl
 f20 := by kernel_rfl
 t0 := by kernel_rfl
 a0 := fun w => by kernel_rfl
 z0 := fun w => by kernel_rfl
 v0 := fun w => by kernel_rfl
 t3 := by kernel_rfl
 a3 := fun w => by kernel_rfl
 z3 := fun w => by kernel_rfl
 v3 := fun w => by kernel_rfl
 t4 := by kernel_rfl
 a4 := fun w => by kernel_rfl
 z4 := fun w => by kernel_rfl
 v4 := fun w => by kernel_rfl
 t22 := by kernel_rfl
 a22 := fun w => by kernel_rfl
 z22 := fun w => by kernel_rfl
 v22 := fun w => by kernel_rfl
 i3 := by kernel_rfl
end Go.Proofs
