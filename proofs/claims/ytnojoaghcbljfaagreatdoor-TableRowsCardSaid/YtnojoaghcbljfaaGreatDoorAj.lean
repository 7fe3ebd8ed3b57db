/-
The functions as the evaluator runs them: printed by a program of mine, each equation by kernel_rfl.
Conditions: none.
-/
import Derived.Test.YtnojoaghcbljfaaGreatDoorAa
set_option linter.unusedVariables false
set_option linter.unusedSimpArgs false
set_option maxRecDepth 100000
namespace Go.Proofs.YtnojoaghcbljfaaGreatDoor.Ev
open Go
/-! ### 92k18: jigsaw/model.counted -/
noncomputable def F92k18.fn : Func := Go.Proofs.Tryz.f129
noncomputable def F92k18.E : Env := ⟨tt, [(131, h_has1), (156, h_withinD), (157, h_namedD)], [(1, [1, 2]), (2, [1, 2, 8]), (3, [1, 2]), (4, [1, 2, 5]), (5, [1, 2, 5, 50]), (6, [1, 2, 5])], [], some [4], inv⟩
theorem F92k18.start_eq (k : Nat) (c : ((List Int) × ((List Int) × ((List Int) × ((List Int) × ((List Int) × (Int × (List (List Int))))))))) : callW F92k18.E false F92k18.fn k [.agg [.v (.int .i64) (18 : Int), .v (.sl (.int .i64)) c.1, .v (.sl (.int .i64)) c.2.1, .v (.sl (.int .i64)) c.2.2.1, .v (.sl (.int .i64)) c.2.2.2.1, .v (.sl (.int .i64)) c.2.2.2.2.1, .v (.int .i64) c.2.2.2.2.2.1, .v (.sl (.sl (.int .i64))) c.2.2.2.2.2.2], .v .str ⟨#[86, 114]⟩] =
    bif withinD (c.2.2.2.2.2.2.length : Int) 1 1024 then
      bif withinD (c.1.length : Int) 1 64 then
        bif decide ((c.2.1.length : Int) = (0 : Int)) then
          bif decide ((c.2.2.1.length : Int) = (0 : Int)) then
            bif decide ((c.2.2.2.1.length : Int) = (0 : Int)) then some (.v .bool (decide ((c.2.2.2.2.1.length : Int) = (0 : Int)))) else some (.v .bool false)
          else
            some (.v .bool false)
        else
          some (.v .bool false)
      else
        some (.v .bool false)
    else
      some (.v .bool false) := by kernel_rfl

/-! ### 93k18: jigsaw/model.alike -/
noncomputable def F93k18.fn : Func := Go.Proofs.Tryz.f130
noncomputable def F93k18.E : Env := ⟨tt, [(158, h_anyR)], [(1, [1]), (2, [1, 4]), (3, [1, 4, 5]), (4, [1, 4, 5]), (5, [1, 4, 5]), (6, [1, 4, 5]), (8, [1, 4, 17]), (10, [1, 4, 35]), (12, [1, 4, 53]), (13, [1, 4, 53]), (15, [1, 63]), (16, [])], [(0, [])], some [2], inv⟩
theorem F93k18.start_eq (k : Nat) (c : ((List Int) × ((List Int) × ((List Int) × ((List Int) × ((List Int) × (Int × (List (List Int))))))))) : callW F93k18.E false F93k18.fn k [.agg [.v (.int .i64) (18 : Int), .v (.sl (.int .i64)) c.1, .v (.sl (.int .i64)) c.2.1, .v (.sl (.int .i64)) c.2.2.1, .v (.sl (.int .i64)) c.2.2.2.1, .v (.sl (.int .i64)) c.2.2.2.2.1, .v (.int .i64) c.2.2.2.2.2.1, .v (.sl (.sl (.int .i64))) c.2.2.2.2.2.2]] =
    some (.v .bool (!(List.any c.2.2.2.2.2.2 (rowN (18, c))))) := by kernel_rfl

/-! ### 98k18: jigsaw/model.counts -/
noncomputable def F98k18.fn : Func := Go.Proofs.Tryz.f135
noncomputable def F98k18.E : Env := ⟨tt, [], [(1, [1]), (2, [1, 7]), (3, [1]), (4, [1, 3]), (5, [1, 3, 14, 15]), (6, [1, 3, 14, 15, 16]), (7, [1, 3, 4, 14, 15]), (8, [1, 3, 14, 15, 44]), (9, [1, 3, 14, 15]), (10, [])], [(0, []), (1, [1, 3, 14, 15])], some [2], inv⟩
theorem F98k18.start_eq (k : Nat) (c : ((List Int) × ((List Int) × ((List Int) × ((List Int) × ((List Int) × (Int × (List (List Int))))))))) : callW F98k18.E false F98k18.fn k [.agg [.v (.int .i64) (18 : Int), .v (.sl (.int .i64)) c.1, .v (.sl (.int .i64)) c.2.1, .v (.sl (.int .i64)) c.2.2.1, .v (.sl (.int .i64)) c.2.2.2.1, .v (.sl (.int .i64)) c.2.2.2.2.1, .v (.int .i64) c.2.2.2.2.2.1, .v (.sl (.sl (.int .i64))) c.2.2.2.2.2.2]] =
    some (.v .bool true) := by kernel_rfl

end Go.Proofs.YtnojoaghcbljfaaGreatDoor.Ev
