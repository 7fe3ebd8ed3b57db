/-
Seat 'a': the functions as the evaluator runs them: printed by a program of mine, each equation by kernel_rfl.
Conditions: none.
-/
import Derived.Test.YthdpbmcidebagaaGreatDoorAa
set_option linter.unusedVariables false
set_option maxRecDepth 100000
namespace Go.Proofs.YthdpbmcidebagaaGreatDoor.Ev
open Go
/-! ### 92k11: jigsaw/model.counted -/
noncomputable def F92k11.fn : Func := Go.Proofs.Tryz.f92
noncomputable def F92k11.E : Env := ⟨tt, [(94, h_has1), (106, h_namedD)], [(1, [1, 2]), (2, [1, 2, 8]), (3, [1, 2]), (4, [1, 2, 5]), (5, [1, 2, 5, 50]), (6, [1, 2, 5])], [], some [4], inv⟩
theorem F92k11.start_eq (k : Nat) (c : ((List Int) × ((List Int) × ((List Int) × ((List Int) × ((List Int) × (Int × (List (List Int))))))))) : callW F92k11.E false F92k11.fn k [.agg [.v (.int .i64) (11 : Int), .v (.sl (.int .i64)) c.1, .v (.sl (.int .i64)) c.2.1, .v (.sl (.int .i64)) c.2.2.1, .v (.sl (.int .i64)) c.2.2.2.1, .v (.sl (.int .i64)) c.2.2.2.2.1, .v (.int .i64) c.2.2.2.2.2.1, .v (.sl (.sl (.int .i64))) c.2.2.2.2.2.2], .v .str ⟨#[118, 99, 118]⟩] =
    bif decide ((c.2.2.2.2.2.2.length : Int) = 0) then
      bif decide ((c.1.length : Int) = (2 : Int)) then
        bif decide ((c.2.1.length : Int) = (0 : Int)) then
          bif withinD (c.2.2.1.length : Int) 1 64 then
            bif decide ((c.2.2.2.1.length : Int) = (0 : Int)) then some (.v .bool (decide ((c.2.2.2.2.1.length : Int) = (0 : Int)))) else some (.v .bool false)
          else
            some (.v .bool false)
        else
          some (.v .bool false)
      else
        some (.v .bool false)
    else
      some (.v .bool false) := by kernel_rfl

/-! ### 92k13: jigsaw/model.counted -/
noncomputable def F92k13.fn : Func := Go.Proofs.Tryz.f92
noncomputable def F92k13.E : Env := ⟨tt, [(94, h_has1), (106, h_namedD)], [(1, [1, 2]), (2, [1, 2, 8]), (3, [1, 2]), (4, [1, 2, 5]), (5, [1, 2, 5, 50]), (6, [1, 2, 5])], [], some [4], inv⟩
theorem F92k13.start_eq (k : Nat) (c : ((List Int) × ((List Int) × ((List Int) × ((List Int) × ((List Int) × (Int × (List (List Int))))))))) : callW F92k13.E false F92k13.fn k [.agg [.v (.int .i64) (13 : Int), .v (.sl (.int .i64)) c.1, .v (.sl (.int .i64)) c.2.1, .v (.sl (.int .i64)) c.2.2.1, .v (.sl (.int .i64)) c.2.2.2.1, .v (.sl (.int .i64)) c.2.2.2.2.1, .v (.int .i64) c.2.2.2.2.2.1, .v (.sl (.sl (.int .i64))) c.2.2.2.2.2.2], .v .str ⟨#[118, 107, 119]⟩] =
    bif decide ((c.2.2.2.2.2.2.length : Int) = 0) then
      bif decide ((c.1.length : Int) = (1 : Int)) then
        bif decide ((c.2.1.length : Int) = (1 : Int)) then
          bif decide ((c.2.2.1.length : Int) = (0 : Int)) then
            bif decide ((c.2.2.2.1.length : Int) = (0 : Int)) then some (.v .bool (decide ((c.2.2.2.2.1.length : Int) = (0 : Int)))) else some (.v .bool false)
          else
            some (.v .bool false)
        else
          some (.v .bool false)
      else
        some (.v .bool false)
    else
      some (.v .bool false) := by kernel_rfl

/-! ### 92k14: jigsaw/model.counted -/
noncomputable def F92k14.fn : Func := Go.Proofs.Tryz.f92
noncomputable def F92k14.E : Env := ⟨tt, [(94, h_has1), (106, h_namedD)], [(1, [1, 2]), (2, [1, 2, 8]), (3, [1, 2]), (4, [1, 2, 5]), (5, [1, 2, 5, 50]), (6, [1, 2, 5])], [], some [4], inv⟩
theorem F92k14.start_eq (k : Nat) (c : ((List Int) × ((List Int) × ((List Int) × ((List Int) × ((List Int) × (Int × (List (List Int))))))))) : callW F92k14.E false F92k14.fn k [.agg [.v (.int .i64) (14 : Int), .v (.sl (.int .i64)) c.1, .v (.sl (.int .i64)) c.2.1, .v (.sl (.int .i64)) c.2.2.1, .v (.sl (.int .i64)) c.2.2.2.1, .v (.sl (.int .i64)) c.2.2.2.2.1, .v (.int .i64) c.2.2.2.2.2.1, .v (.sl (.sl (.int .i64))) c.2.2.2.2.2.2], .v .str ⟨#[118, 107, 119]⟩] =
    bif decide ((c.2.2.2.2.2.2.length : Int) = 0) then
      bif decide ((c.1.length : Int) = (1 : Int)) then
        bif decide ((c.2.1.length : Int) = (1 : Int)) then
          bif decide ((c.2.2.1.length : Int) = (0 : Int)) then
            bif decide ((c.2.2.2.1.length : Int) = (0 : Int)) then some (.v .bool (decide ((c.2.2.2.2.1.length : Int) = (0 : Int)))) else some (.v .bool false)
          else
            some (.v .bool false)
        else
          some (.v .bool false)
      else
        some (.v .bool false)
    else
      some (.v .bool false) := by kernel_rfl

/-! ### 92k15: jigsaw/model.counted -/
noncomputable def F92k15.fn : Func := Go.Proofs.Tryz.f92
noncomputable def F92k15.E : Env := ⟨tt, [(94, h_has1), (106, h_namedD)], [(1, [1, 2]), (2, [1, 2, 8]), (3, [1, 2]), (4, [1, 2, 5]), (5, [1, 2, 5, 50]), (6, [1, 2, 5])], [], some [4], inv⟩
theorem F92k15.start_eq (k : Nat) (c : ((List Int) × ((List Int) × ((List Int) × ((List Int) × ((List Int) × (Int × (List (List Int))))))))) : callW F92k15.E false F92k15.fn k [.agg [.v (.int .i64) (15 : Int), .v (.sl (.int .i64)) c.1, .v (.sl (.int .i64)) c.2.1, .v (.sl (.int .i64)) c.2.2.1, .v (.sl (.int .i64)) c.2.2.2.1, .v (.sl (.int .i64)) c.2.2.2.2.1, .v (.int .i64) c.2.2.2.2.2.1, .v (.sl (.sl (.int .i64))) c.2.2.2.2.2.2], .v .str ⟨#[118, 107, 119]⟩] =
    bif decide ((c.2.2.2.2.2.2.length : Int) = 0) then
      bif decide ((c.1.length : Int) = (1 : Int)) then
        bif decide ((c.2.1.length : Int) = (1 : Int)) then
          bif decide ((c.2.2.1.length : Int) = (0 : Int)) then
            bif decide ((c.2.2.2.1.length : Int) = (0 : Int)) then some (.v .bool (decide ((c.2.2.2.2.1.length : Int) = (0 : Int)))) else some (.v .bool false)
          else
            some (.v .bool false)
        else
          some (.v .bool false)
      else
        some (.v .bool false)
    else
      some (.v .bool false) := by kernel_rfl

/-! ### 92k16: jigsaw/model.counted -/
noncomputable def F92k16.fn : Func := Go.Proofs.Tryz.f92
noncomputable def F92k16.E : Env := ⟨tt, [(94, h_has1), (106, h_namedD)], [(1, [1, 2]), (2, [1, 2, 8]), (3, [1, 2]), (4, [1, 2, 5]), (5, [1, 2, 5, 50]), (6, [1, 2, 5])], [], some [4], inv⟩
theorem F92k16.start_eq (k : Nat) (c : ((List Int) × ((List Int) × ((List Int) × ((List Int) × ((List Int) × (Int × (List (List Int))))))))) : callW F92k16.E false F92k16.fn k [.agg [.v (.int .i64) (16 : Int), .v (.sl (.int .i64)) c.1, .v (.sl (.int .i64)) c.2.1, .v (.sl (.int .i64)) c.2.2.1, .v (.sl (.int .i64)) c.2.2.2.1, .v (.sl (.int .i64)) c.2.2.2.2.1, .v (.int .i64) c.2.2.2.2.2.1, .v (.sl (.sl (.int .i64))) c.2.2.2.2.2.2], .v .str ⟨#[118, 107, 119]⟩] =
    bif decide ((c.2.2.2.2.2.2.length : Int) = 0) then
      bif decide ((c.1.length : Int) = (1 : Int)) then
        bif decide ((c.2.1.length : Int) = (1 : Int)) then
          bif decide ((c.2.2.1.length : Int) = (0 : Int)) then
            bif decide ((c.2.2.2.1.length : Int) = (0 : Int)) then some (.v .bool (decide ((c.2.2.2.2.1.length : Int) = (0 : Int)))) else some (.v .bool false)
          else
            some (.v .bool false)
        else
          some (.v .bool false)
      else
        some (.v .bool false)
    else
      some (.v .bool false) := by kernel_rfl

/-! ### 92k18: jigsaw/model.counted -/
noncomputable def F92k18.fn : Func := Go.Proofs.Tryz.f92
noncomputable def F92k18.E : Env := ⟨tt, [(94, h_has1), (105, h_withinD), (106, h_namedD)], [(1, [1, 2]), (2, [1, 2, 8]), (3, [1, 2]), (4, [1, 2, 5]), (5, [1, 2, 5, 50]), (6, [1, 2, 5])], [], some [4], inv⟩
theorem F92k18.start_eq (k : Nat) (c : ((List Int) × ((List Int) × ((List Int) × ((List Int) × ((List Int) × (Int × (List (List Int))))))))) : callW F92k18.E false F92k18.fn k [.agg [.v (.int .i64) (18 : Int), .v (.sl (.int .i64)) c.1, .v (.sl (.int .i64)) c.2.1, .v (.sl (.int .i64)) c.2.2.1, .v (.sl (.int .i64)) c.2.2.2.1, .v (.sl (.int .i64)) c.2.2.2.2.1, .v (.int .i64) c.2.2.2.2.2.1, .v (.sl (.sl (.int .i64))) c.2.2.2.2.2.2], .v .str ⟨#[86, 114]⟩] =
    bif withinD (c.2.2.2.2.2.2.length : Int) 1 1024 then
      bif withinD (c.1.length : Int) 1 64 then
        bif decide ((c.2.1.length : Int) = (0 : Int)) then
          bif decide ((c.2.2.1.length : Int) = (0 : Int)) then
            bif decide ((c.2.2.2.1.length : Int) = (0 : Int)) then some (.v .bool (decide ((c.2.2.2.2.1.length : Int) = (0 : Int)))) else some (.v .bool false)
          else
            some (.v .bool false)
        else
          some (.v .bool false)
      else
        some (.v .bool false)
    else
      some (.v .bool false) := by kernel_rfl

/-! ### 93k11: jigsaw/model.alike -/
noncomputable def F93k11.fn : Func := Go.Proofs.Tryz.f93
noncomputable def F93k11.E : Env := ⟨tt, [], [(1, [1]), (2, [1, 4]), (3, [1, 4, 5]), (4, [1, 4, 5]), (5, [1, 4, 5]), (6, [1, 4, 5]), (8, [1, 4, 17]), (10, [1, 4, 35]), (12, [1, 4, 53]), (13, [1, 4, 53]), (15, [1, 63]), (16, [])], [(0, [])], some [2], inv⟩
theorem F93k11.start_eq (k : Nat) (c : ((List Int) × ((List Int) × ((List Int) × ((List Int) × ((List Int) × (Int × (List (List Int))))))))) : callW F93k11.E false F93k11.fn k [.agg [.v (.int .i64) (11 : Int), .v (.sl (.int .i64)) c.1, .v (.sl (.int .i64)) c.2.1, .v (.sl (.int .i64)) c.2.2.1, .v (.sl (.int .i64)) c.2.2.2.1, .v (.sl (.int .i64)) c.2.2.2.2.1, .v (.int .i64) c.2.2.2.2.2.1, .v (.sl (.sl (.int .i64))) c.2.2.2.2.2.2]] =
    some (.v .bool true) := by kernel_rfl

/-! ### 93k13: jigsaw/model.alike -/
noncomputable def F93k13.fn : Func := Go.Proofs.Tryz.f93
noncomputable def F93k13.E : Env := ⟨tt, [], [(1, [1]), (2, [1, 4]), (3, [1, 4, 5]), (4, [1, 4, 5]), (5, [1, 4, 5]), (6, [1, 4, 5]), (8, [1, 4, 17]), (10, [1, 4, 35]), (12, [1, 4, 53]), (13, [1, 4, 53]), (15, [1, 63]), (16, [])], [(0, [])], some [2], inv⟩
theorem F93k13.start_eq (k : Nat) (c : ((List Int) × ((List Int) × ((List Int) × ((List Int) × ((List Int) × (Int × (List (List Int))))))))) : callW F93k13.E false F93k13.fn k [.agg [.v (.int .i64) (13 : Int), .v (.sl (.int .i64)) c.1, .v (.sl (.int .i64)) c.2.1, .v (.sl (.int .i64)) c.2.2.1, .v (.sl (.int .i64)) c.2.2.2.1, .v (.sl (.int .i64)) c.2.2.2.2.1, .v (.int .i64) c.2.2.2.2.2.1, .v (.sl (.sl (.int .i64))) c.2.2.2.2.2.2]] =
    some (.v .bool true) := by kernel_rfl

/-! ### 93k14: jigsaw/model.alike -/
noncomputable def F93k14.fn : Func := Go.Proofs.Tryz.f93
noncomputable def F93k14.E : Env := ⟨tt, [], [(1, [1]), (2, [1, 4]), (3, [1, 4, 5]), (4, [1, 4, 5]), (5, [1, 4, 5]), (6, [1, 4, 5]), (8, [1, 4, 17]), (10, [1, 4, 35]), (12, [1, 4, 53]), (13, [1, 4, 53]), (15, [1, 63]), (16, [])], [(0, [])], some [2], inv⟩
theorem F93k14.start_eq (k : Nat) (c : ((List Int) × ((List Int) × ((List Int) × ((List Int) × ((List Int) × (Int × (List (List Int))))))))) : callW F93k14.E false F93k14.fn k [.agg [.v (.int .i64) (14 : Int), .v (.sl (.int .i64)) c.1, .v (.sl (.int .i64)) c.2.1, .v (.sl (.int .i64)) c.2.2.1, .v (.sl (.int .i64)) c.2.2.2.1, .v (.sl (.int .i64)) c.2.2.2.2.1, .v (.int .i64) c.2.2.2.2.2.1, .v (.sl (.sl (.int .i64))) c.2.2.2.2.2.2]] =
    some (.v .bool true) := by kernel_rfl

/-! ### 93k15: jigsaw/model.alike -/
noncomputable def F93k15.fn : Func := Go.Proofs.Tryz.f93
noncomputable def F93k15.E : Env := ⟨tt, [], [(1, [1]), (2, [1, 4]), (3, [1, 4, 5]), (4, [1, 4, 5]), (5, [1, 4, 5]), (6, [1, 4, 5]), (8, [1, 4, 17]), (10, [1, 4, 35]), (12, [1, 4, 53]), (13, [1, 4, 53]), (15, [1, 63]), (16, [])], [(0, [])], some [2], inv⟩
theorem F93k15.start_eq (k : Nat) (c : ((List Int) × ((List Int) × ((List Int) × ((List Int) × ((List Int) × (Int × (List (List Int))))))))) : callW F93k15.E false F93k15.fn k [.agg [.v (.int .i64) (15 : Int), .v (.sl (.int .i64)) c.1, .v (.sl (.int .i64)) c.2.1, .v (.sl (.int .i64)) c.2.2.1, .v (.sl (.int .i64)) c.2.2.2.1, .v (.sl (.int .i64)) c.2.2.2.2.1, .v (.int .i64) c.2.2.2.2.2.1, .v (.sl (.sl (.int .i64))) c.2.2.2.2.2.2]] =
    some (.v .bool true) := by kernel_rfl

/-! ### 93k16: jigsaw/model.alike -/
noncomputable def F93k16.fn : Func := Go.Proofs.Tryz.f93
noncomputable def F93k16.E : Env := ⟨tt, [], [(1, [1]), (2, [1, 4]), (3, [1, 4, 5]), (4, [1, 4, 5]), (5, [1, 4, 5]), (6, [1, 4, 5]), (8, [1, 4, 17]), (10, [1, 4, 35]), (12, [1, 4, 53]), (13, [1, 4, 53]), (15, [1, 63]), (16, [])], [(0, [])], some [2], inv⟩
theorem F93k16.start_eq (k : Nat) (c : ((List Int) × ((List Int) × ((List Int) × ((List Int) × ((List Int) × (Int × (List (List Int))))))))) : callW F93k16.E false F93k16.fn k [.agg [.v (.int .i64) (16 : Int), .v (.sl (.int .i64)) c.1, .v (.sl (.int .i64)) c.2.1, .v (.sl (.int .i64)) c.2.2.1, .v (.sl (.int .i64)) c.2.2.2.1, .v (.sl (.int .i64)) c.2.2.2.2.1, .v (.int .i64) c.2.2.2.2.2.1, .v (.sl (.sl (.int .i64))) c.2.2.2.2.2.2]] =
    some (.v .bool true) := by kernel_rfl

/-! ### 93k18: jigsaw/model.alike -/
noncomputable def F93k18.fn : Func := Go.Proofs.Tryz.f93
noncomputable def F93k18.E : Env := ⟨tt, [(107, h_anyR)], [(1, [1]), (2, [1, 4]), (3, [1, 4, 5]), (4, [1, 4, 5]), (5, [1, 4, 5]), (6, [1, 4, 5]), (8, [1, 4, 17]), (10, [1, 4, 35]), (12, [1, 4, 53]), (13, [1, 4, 53]), (15, [1, 63]), (16, [])], [(0, [])], some [2], inv⟩
theorem F93k18.start_eq (k : Nat) (c : ((List Int) × ((List Int) × ((List Int) × ((List Int) × ((List Int) × (Int × (List (List Int))))))))) : callW F93k18.E false F93k18.fn k [.agg [.v (.int .i64) (18 : Int), .v (.sl (.int .i64)) c.1, .v (.sl (.int .i64)) c.2.1, .v (.sl (.int .i64)) c.2.2.1, .v (.sl (.int .i64)) c.2.2.2.1, .v (.sl (.int .i64)) c.2.2.2.2.1, .v (.int .i64) c.2.2.2.2.2.1, .v (.sl (.sl (.int .i64))) c.2.2.2.2.2.2]] =
    some (.v .bool (!(List.any c.2.2.2.2.2.2 (rowN (18, c))))) := by kernel_rfl

/-! ### 98k11: jigsaw/model.counts -/
noncomputable def F98k11.fn : Func := Go.Proofs.Tryz.f98
noncomputable def F98k11.E : Env := ⟨tt, [], [(1, [1]), (2, [1, 7]), (3, [1]), (4, [1, 3]), (5, [1, 3, 14, 15]), (6, [1, 3, 14, 15, 16]), (7, [1, 3, 4, 14, 15]), (8, [1, 3, 14, 15, 44]), (9, [1, 3, 14, 15]), (10, [])], [(0, []), (1, [1, 3, 14, 15])], some [2], inv⟩
theorem F98k11.start_eq (k : Nat) (c : ((List Int) × ((List Int) × ((List Int) × ((List Int) × ((List Int) × (Int × (List (List Int))))))))) : callW F98k11.E false F98k11.fn k [.agg [.v (.int .i64) (11 : Int), .v (.sl (.int .i64)) c.1, .v (.sl (.int .i64)) c.2.1, .v (.sl (.int .i64)) c.2.2.1, .v (.sl (.int .i64)) c.2.2.2.1, .v (.sl (.int .i64)) c.2.2.2.2.1, .v (.int .i64) c.2.2.2.2.2.1, .v (.sl (.sl (.int .i64))) c.2.2.2.2.2.2]] =
    some (.v .bool true) := by kernel_rfl

/-! ### 98k13: jigsaw/model.counts -/
noncomputable def F98k13.fn : Func := Go.Proofs.Tryz.f98
noncomputable def F98k13.E : Env := ⟨tt, [], [(1, [1]), (2, [1, 7]), (3, [1]), (4, [1, 3]), (5, [1, 3, 14, 15]), (6, [1, 3, 14, 15, 16]), (7, [1, 3, 4, 14, 15]), (8, [1, 3, 14, 15, 44]), (9, [1, 3, 14, 15]), (10, [])], [(0, []), (1, [1, 3, 14, 15])], some [2], inv⟩
theorem F98k13.start_eq (k : Nat) (c : ((List Int) × ((List Int) × ((List Int) × ((List Int) × ((List Int) × (Int × (List (List Int))))))))) : callW F98k13.E false F98k13.fn k [.agg [.v (.int .i64) (13 : Int), .v (.sl (.int .i64)) c.1, .v (.sl (.int .i64)) c.2.1, .v (.sl (.int .i64)) c.2.2.1, .v (.sl (.int .i64)) c.2.2.2.1, .v (.sl (.int .i64)) c.2.2.2.2.1, .v (.int .i64) c.2.2.2.2.2.1, .v (.sl (.sl (.int .i64))) c.2.2.2.2.2.2]] =
    some (.v .bool true) := by kernel_rfl

/-! ### 98k14: jigsaw/model.counts -/
noncomputable def F98k14.fn : Func := Go.Proofs.Tryz.f98
noncomputable def F98k14.E : Env := ⟨tt, [], [(1, [1]), (2, [1, 7]), (3, [1]), (4, [1, 3]), (5, [1, 3, 14, 15]), (6, [1, 3, 14, 15, 16]), (7, [1, 3, 4, 14, 15]), (8, [1, 3, 14, 15, 44]), (9, [1, 3, 14, 15]), (10, [])], [(0, []), (1, [1, 3, 14, 15])], some [2], inv⟩
theorem F98k14.start_eq (k : Nat) (c : ((List Int) × ((List Int) × ((List Int) × ((List Int) × ((List Int) × (Int × (List (List Int))))))))) : callW F98k14.E false F98k14.fn k [.agg [.v (.int .i64) (14 : Int), .v (.sl (.int .i64)) c.1, .v (.sl (.int .i64)) c.2.1, .v (.sl (.int .i64)) c.2.2.1, .v (.sl (.int .i64)) c.2.2.2.1, .v (.sl (.int .i64)) c.2.2.2.2.1, .v (.int .i64) c.2.2.2.2.2.1, .v (.sl (.sl (.int .i64))) c.2.2.2.2.2.2]] =
    some (.v .bool true) := by kernel_rfl

/-! ### 98k15: jigsaw/model.counts -/
noncomputable def F98k15.fn : Func := Go.Proofs.Tryz.f98
noncomputable def F98k15.E : Env := ⟨tt, [], [(1, [1]), (2, [1, 7]), (3, [1]), (4, [1, 3]), (5, [1, 3, 14, 15]), (6, [1, 3, 14, 15, 16]), (7, [1, 3, 4, 14, 15]), (8, [1, 3, 14, 15, 44]), (9, [1, 3, 14, 15]), (10, [])], [(0, []), (1, [1, 3, 14, 15])], some [2], inv⟩
theorem F98k15.start_eq (k : Nat) (c : ((List Int) × ((List Int) × ((List Int) × ((List Int) × ((List Int) × (Int × (List (List Int))))))))) : callW F98k15.E false F98k15.fn k [.agg [.v (.int .i64) (15 : Int), .v (.sl (.int .i64)) c.1, .v (.sl (.int .i64)) c.2.1, .v (.sl (.int .i64)) c.2.2.1, .v (.sl (.int .i64)) c.2.2.2.1, .v (.sl (.int .i64)) c.2.2.2.2.1, .v (.int .i64) c.2.2.2.2.2.1, .v (.sl (.sl (.int .i64))) c.2.2.2.2.2.2]] =
    some (.v .bool true) := by kernel_rfl

/-! ### 98k16: jigsaw/model.counts -/
noncomputable def F98k16.fn : Func := Go.Proofs.Tryz.f98
noncomputable def F98k16.E : Env := ⟨tt, [], [(1, [1]), (2, [1, 7]), (3, [1]), (4, [1, 3]), (5, [1, 3, 14, 15]), (6, [1, 3, 14, 15, 16]), (7, [1, 3, 4, 14, 15]), (8, [1, 3, 14, 15, 44]), (9, [1, 3, 14, 15]), (10, [])], [(0, []), (1, [1, 3, 14, 15])], some [2], inv⟩
theorem F98k16.start_eq (k : Nat) (c : ((List Int) × ((List Int) × ((List Int) × ((List Int) × ((List Int) × (Int × (List (List Int))))))))) : callW F98k16.E false F98k16.fn k [.agg [.v (.int .i64) (16 : Int), .v (.sl (.int .i64)) c.1, .v (.sl (.int .i64)) c.2.1, .v (.sl (.int .i64)) c.2.2.1, .v (.sl (.int .i64)) c.2.2.2.1, .v (.sl (.int .i64)) c.2.2.2.2.1, .v (.int .i64) c.2.2.2.2.2.1, .v (.sl (.sl (.int .i64))) c.2.2.2.2.2.2]] =
    some (.v .bool true) := by kernel_rfl

/-! ### 98k18: jigsaw/model.counts -/
noncomputable def F98k18.fn : Func := Go.Proofs.Tryz.f98
noncomputable def F98k18.E : Env := ⟨tt, [], [(1, [1]), (2, [1, 7]), (3, [1]), (4, [1, 3]), (5, [1, 3, 14, 15]), (6, [1, 3, 14, 15, 16]), (7, [1, 3, 4, 14, 15]), (8, [1, 3, 14, 15, 44]), (9, [1, 3, 14, 15]), (10, [])], [(0, []), (1, [1, 3, 14, 15])], some [2], inv⟩
theorem F98k18.start_eq (k : Nat) (c : ((List Int) × ((List Int) × ((List Int) × ((List Int) × ((List Int) × (Int × (List (List Int))))))))) : callW F98k18.E false F98k18.fn k [.agg [.v (.int .i64) (18 : Int), .v (.sl (.int .i64)) c.1, .v (.sl (.int .i64)) c.2.1, .v (.sl (.int .i64)) c.2.2.1, .v (.sl (.int .i64)) c.2.2.2.1, .v (.sl (.int .i64)) c.2.2.2.2.1, .v (.int .i64) c.2.2.2.2.2.1, .v (.sl (.sl (.int .i64))) c.2.2.2.2.2.2]] =
    some (.v .bool true) := by kernel_rfl

end Go.Proofs.YthdpbmcidebagaaGreatDoor.Ev
