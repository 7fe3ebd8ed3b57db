/-
Sorting, and leaving out what is there twice: data and handlers.
Conditions: none.
The functions as the evaluator runs them: printed by a program of mine, each equation by kernel_rfl.
Conditions: none.
-/
import Derived.Test.YtlfdikofmfhefaaGreatDoorAa
import Derived.Test.YtlfdikofmfhefaaGreatDoorGh
set_option linter.unusedVariables false
namespace Go.Proofs.YtlfdikofmfhefaaGreatDoor.Ev
open Go
def h_sortF (args : List AV) (e : Nat) : (t : Ty) → List t.D → (Option AV → List t.D → Option AV) → Option AV
 | .int .i64, xs, κ => (match args with
  | [.un] => bif Nat.beq e 3 && (!(List.isEmpty xs) && Nat.ble (List.length xs) 1000) then κ (some (.tup [])) (sortL xs) else none
  | _ => none)
 | _, _, _ => none
def h_sort : MHand := (0, h_sortF)
def h_compF (args : List AV) (e : Nat) : (t : Ty) → List t.D → (Option AV → List t.D → Option AV) → Option AV
 | .int .i64, xs, κ => (match args with
  | [.un] => bif Nat.beq e 3 && (!(List.isEmpty xs) && Nat.ble (List.length xs) 1000) then κ none (compL xs) else none
  | _ => none)
 | _, _, _ => none
def h_comp : MHand := (0, h_compF)
end Go.Proofs.YtlfdikofmfhefaaGreatDoor.Ev
set_option linter.unusedVariables false
set_option linter.unusedSimpArgs false
set_option maxRecDepth 100000
namespace Go.Proofs.YtlfdikofmfhefaaGreatDoor.Ev
open Go
noncomputable def F47.fn : Func := Go.Proofs.Tryz.f41
noncomputable def F47.body : Code := bodyOf F47.fn
noncomputable def F47.E : Env := ⟨tt, [], [(1, [0, 1]), (2, [0, 1, 10]), (3, [0, 1]), (4, [0, 1, 12, 13]), (5, [0, 1, 12, 13, 14]), (6, [0, 1, 5, 12, 13]), (7, [0, 1, 12, 13, 24]), (8, [0, 1, 12, 13]), (9, [])], [(0, []), (1, [0, 1, 12, 13])], some [4], inv, []⟩
noncomputable def F47.K0 : Conts := { nrm := endW F47.E false F47.fn.results.toList, ret := endW F47.E false F47.fn.results.toList, ex := [] }
noncomputable def F47.kt (k : Nat) (q : List Nat) : Conts := contAt F47.E k F47.body F47.K0 q
noncomputable def F47.l1_1_0_1_0 (n : Nat) (K : Conts) (p0 p1 : List Int) (p2 p3 : Int) : Option AV := loopF F47.E n (inLoop (subC [1,1,0,1,0] F47.body)) K ⟨slots 26 [(0, .v (.sl (.int .i64)) p0), (1, .v (.sl (.int .i64)) p1), (12, .v (.int .i64) p2), (13, .v (.int .i64) p3)], []⟩
theorem F47.start_eq (k : Nat) (a0 a1 : List Int) : callW F47.E false F47.fn k [.v (.sl (.int .i64)) a0, .v (.sl (.int .i64)) a1] =
 bif !(decide ((a0.length : Int) = (a1.length : Int))) then some (.v .bool false) else F47.l1_1_0_1_0 k (F47.kt k [1,1,0,1,0]) a0 a1 (a0.length : Int) 0 := by kernel_rfl
theorem F47.l1_1_0_1_0_eq (n : Nat) (K : Conts) (p0 p1 : List Int) (p2 p3 : Int) : F47.l1_1_0_1_0 (n + 1) K p0 p1 p2 p3 =
 bif decide (p3 < p2) then
 bif decide (0 ≤ p3) && decide (p3 < p0.length) then
 bif decide (0 ≤ p3) && decide (p3 < p1.length) then
 bif !(decide ((p0.getD p3.toNat (0 : Int)) = (p1.getD p3.toNat (0 : Int)))) then
 K.ret ⟨slots 26 [(4, .v .bool false)], []⟩
 else
 F47.l1_1_0_1_0 n K p0 p1 p2 (IntKind.i64.wrap (p3 + 1))
 else
 none
 else
 none
 else
 exitK K 0 ⟨slots 26 [], []⟩ := by kernel_rfl
theorem F47.c0 (k : Nat) : (F47.kt k [1,1,0,1,0]).ret ⟨slots 26 [(4, .v .bool false)], []⟩ =
 some (.v .bool false) := by kernel_rfl
theorem F47.c1 (k : Nat) : exitK (F47.kt k [1,1,0,1,0]) 0 ⟨slots 26 [], []⟩ =
 some (.v .bool true) := by kernel_rfl
end Go.Proofs.YtlfdikofmfhefaaGreatDoor.Ev
