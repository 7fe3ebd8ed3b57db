/-
A constraint of any kind, made of plain data, and the domains that are made with it.
Conditions: none.
The functions as the evaluator runs them: printed by a program of mine, each equation by kernel_rfl.
Conditions: none.
-/
import Derived.Test.YtnojoaghcbljfaaGreatDoorBh
import Derived.Test.YtnojoaghcbljfaaGreatDoorCf
set_option linter.unusedVariables false
set_option linter.unusedSimpArgs false
set_option maxRecDepth 100000
namespace Go.Proofs.YtnojoaghcbljfaaGreatDoor.Ev
open Go Go.RowKit
def isK (m : Int) : Prop := m = 0 ∨ m = 1 ∨ m = 2 ∨ m = 3
def conX (m : Int) (z : ZRest) (v : Int) : Con := if m = 0 then con1 z v else if m = 1 then con2 z v else if m = 2 then con3 z v else if m = 3 then con4 z v else (0, [], [], [], [], [], 0, [])
def IsCon (z : Small) (v : Int) (c : Con) : Prop := CallSpec Go.Proofs.Tryz.prog inv 34 [.agg (explode SmallT z), .v (.int .i64) v] (.agg (explode ConT c)) ∧ c.1 = z.1 + 1 ∧ 1 ≤ c.2.1.length ∧ c.2.1.length ≤ 4 ∧ c.2.2.1.length ≤ 4 ∧ (isK z.1 → c = conX z.1 z.2 v)
theorem con_of {E : Env} {fn : Func} {K : Nat} {k : Int} {z : ZRest} {v : Int} (h : AnyC E fn K k z v) (h1 : ¬ isK (k - 1))
  (hs : ∀ r, callW E false fn K [.agg (explode SmallT ((k - 1 : Int), z)), .v (.int .i64) v] = some r → CallSpec Go.Proofs.Tryz.prog inv 34 [.agg (explode SmallT ((k - 1 : Int), z)), .v (.int .i64) v] r) : ∃ c, IsCon (k - 1, z) v c := by
 obtain ⟨A, B, C, D, G, M, R, ⟨r, e, w⟩, a1, a2, a3⟩ := h
 exact ⟨(k, A, B, C, D, G, M, R), spec_weak w (hs r e), show k = k - 1 + 1 by omega, a1, a2, a3, fun h => absurd h h1⟩
theorem con_k1 (z : ZRest) (v : Int) (hv : v ≠ 0) : ∃ c, IsCon (0, z) v c := by
 obtain ⟨r, h1, h2⟩ := F26k1.sem 1 z v hv
 have hn := nA_range z.1
 exact ⟨con1 z v, spec_weak h2 (callW_ok (own := false) (k := 1) (eo (calls_cons ok52 (calls_cons ok53 (calls_cons ok54 (calls_cons ok55 calls_nil))))) mixed Go.Proofs.Tryz.func34 (by kernel_rfl) (show Go.Proofs.Tryz.f34.body = some (bodyOf Go.Proofs.Tryz.f34) by kernel_rfl) h1), rfl, by show 1 ≤ (placesL z.1 (nA z.1) v).length; rw [places_length]; omega, by show (placesL z.1 (nA z.1) v).length ≤ 4; rw [places_length]; omega, by show ([] : List Int).length ≤ 4; simp, fun _ => rfl⟩
theorem con_k2 (z : ZRest) (v : Int) (hv : v ≠ 0) : ∃ c, IsCon (1, z) v c := by
 obtain ⟨r, h1, h2⟩ := F26k2.sem 1 z v hv
 have hn := nA_range z.1
 exact ⟨con2 z v, spec_weak h2 (callW_ok (own := false) (k := 1) (eo (calls_cons ok52 (calls_cons ok53 (calls_cons ok54 (calls_cons ok55 calls_nil))))) mixed Go.Proofs.Tryz.func34 (by kernel_rfl) (show Go.Proofs.Tryz.f34.body = some (bodyOf Go.Proofs.Tryz.f34) by kernel_rfl) h1), rfl, by show 1 ≤ (placesL z.1 (nA z.1) v).length; rw [places_length]; omega, by show (placesL z.1 (nA z.1) v).length ≤ 4; rw [places_length]; omega, by show ([] : List Int).length ≤ 4; simp, fun _ => rfl⟩
theorem con_k3 (z : ZRest) (v : Int) (hv : v ≠ 0) : ∃ c, IsCon (2, z) v c := by
 obtain ⟨r, h1, h2⟩ := F26k3.sem 1 z v hv
 have hn := nA_range z.1
 exact ⟨con3 z v, spec_weak h2 (callW_ok (own := false) (k := 1) (eo (calls_cons ok52 (calls_cons ok53 (calls_cons ok54 (calls_cons ok55 calls_nil))))) mixed Go.Proofs.Tryz.func34 (by kernel_rfl) (show Go.Proofs.Tryz.f34.body = some (bodyOf Go.Proofs.Tryz.f34) by kernel_rfl) h1), rfl, by show 1 ≤ (placesL z.1 (nA z.1) v).length; rw [places_length]; omega, by show (placesL z.1 (nA z.1) v).length ≤ 4; rw [places_length]; omega, by show ([] : List Int).length ≤ 4; simp, fun _ => rfl⟩
theorem con_k4 (z : ZRest) (v : Int) (hv : v ≠ 0) : ∃ c, IsCon (3, z) v c := by
 obtain ⟨r, h1, h2⟩ := F26k4.sem 1 z v hv
 have hn := nA_range z.1
 exact ⟨con4 z v, spec_weak h2 (callW_ok (own := false) (k := 1) (eo (calls_cons ok52 (calls_cons ok53 (calls_cons ok54 (calls_cons ok55 calls_nil))))) mixed Go.Proofs.Tryz.func34 (by kernel_rfl) (show Go.Proofs.Tryz.f34.body = some (bodyOf Go.Proofs.Tryz.f34) by kernel_rfl) h1), rfl, by show 1 ≤ (placesL z.1 (nA z.1) v).length; rw [places_length]; omega, by show (placesL z.1 (nA z.1) v).length ≤ 4; rw [places_length]; omega, by show (placesL z.2.1 1 v).length ≤ 4; rw [places_length]; decide, fun _ => rfl⟩
theorem con_k5 (z : ZRest) (v : Int) (hv : v ≠ 0) : ∃ c, IsCon (4, z) v c := con_of (F26k5.any 1 z v hv) (by unfold isK; omega) fun r h1 => callW_ok (own := false) (k := 1) (eo (calls_cons ok52 (calls_cons ok53 (calls_cons ok54 calls_nil)))) mixed Go.Proofs.Tryz.func34 (by kernel_rfl) (show Go.Proofs.Tryz.f34.body = some (bodyOf Go.Proofs.Tryz.f34) by kernel_rfl) h1
theorem con_k6 (z : ZRest) (v : Int) (hv : v ≠ 0) : ∃ c, IsCon (5, z) v c := con_of (F26k6.any 1 z v hv) (by unfold isK; omega) fun r h1 => callW_ok (own := false) (k := 1) (eo (calls_cons ok52 (calls_cons ok53 (calls_cons ok54 calls_nil)))) mixed Go.Proofs.Tryz.func34 (by kernel_rfl) (show Go.Proofs.Tryz.f34.body = some (bodyOf Go.Proofs.Tryz.f34) by kernel_rfl) h1
theorem con_k7 (z : ZRest) (v : Int) (hv : v ≠ 0) : ∃ c, IsCon (6, z) v c := con_of (F26k7.any 1 z v hv) (by unfold isK; omega) fun r h1 => callW_ok (own := false) (k := 1) (eo (calls_cons ok52 (calls_cons ok53 (calls_cons ok54 calls_nil)))) mixed Go.Proofs.Tryz.func34 (by kernel_rfl) (show Go.Proofs.Tryz.f34.body = some (bodyOf Go.Proofs.Tryz.f34) by kernel_rfl) h1
theorem con_k8 (z : ZRest) (v : Int) (hv : v ≠ 0) : ∃ c, IsCon (7, z) v c := con_of (F26k8.any 1 z v hv) (by unfold isK; omega) fun r h1 => callW_ok (own := false) (k := 1) (eo (calls_cons ok52 (calls_cons ok53 (calls_cons ok54 calls_nil)))) mixed Go.Proofs.Tryz.func34 (by kernel_rfl) (show Go.Proofs.Tryz.f34.body = some (bodyOf Go.Proofs.Tryz.f34) by kernel_rfl) h1
theorem con_k9 (z : ZRest) (v : Int) (hv : v ≠ 0) : ∃ c, IsCon (8, z) v c := con_of (F26k9.any 1 z v hv) (by unfold isK; omega) fun r h1 => callW_ok (own := false) (k := 1) (eo (calls_cons ok52 (calls_cons ok53 (calls_cons ok54 calls_nil)))) mixed Go.Proofs.Tryz.func34 (by kernel_rfl) (show Go.Proofs.Tryz.f34.body = some (bodyOf Go.Proofs.Tryz.f34) by kernel_rfl) h1
theorem con_k10 (z : ZRest) (v : Int) (hv : v ≠ 0) : ∃ c, IsCon (9, z) v c := con_of (F26k10.any 1 z v hv) (by unfold isK; omega) fun r h1 => callW_ok (own := false) (k := 1) (eo (calls_cons ok52 (calls_cons ok53 (calls_cons ok54 calls_nil)))) mixed Go.Proofs.Tryz.func34 (by kernel_rfl) (show Go.Proofs.Tryz.f34.body = some (bodyOf Go.Proofs.Tryz.f34) by kernel_rfl) h1
theorem con_k11 (z : ZRest) (v : Int) (hv : v ≠ 0) : ∃ c, IsCon (10, z) v c := con_of (F26k11.any 1 z v hv) (by unfold isK; omega) fun r h1 => callW_ok (own := false) (k := 1) (eo (calls_cons ok52 (calls_cons ok53 (calls_cons ok54 (calls_cons ok55 calls_nil))))) mixed Go.Proofs.Tryz.func34 (by kernel_rfl) (show Go.Proofs.Tryz.f34.body = some (bodyOf Go.Proofs.Tryz.f34) by kernel_rfl) h1
theorem con_k12 (z : ZRest) (v : Int) (hv : v ≠ 0) : ∃ c, IsCon (11, z) v c := con_of (F26k12.any 1 z v hv) (by unfold isK; omega) fun r h1 => callW_ok (own := false) (k := 1) (eo (calls_cons ok52 (calls_cons ok53 (calls_cons ok54 calls_nil)))) mixed Go.Proofs.Tryz.func34 (by kernel_rfl) (show Go.Proofs.Tryz.f34.body = some (bodyOf Go.Proofs.Tryz.f34) by kernel_rfl) h1
theorem con_k13 (z : ZRest) (v : Int) (hv : v ≠ 0) : ∃ c, IsCon (12, z) v c := con_of (F26k13.any 1 z v hv) (by unfold isK; omega) fun r h1 => callW_ok (own := false) (k := 1) (eo (calls_cons ok52 (calls_cons ok53 (calls_cons ok54 calls_nil)))) mixed Go.Proofs.Tryz.func34 (by kernel_rfl) (show Go.Proofs.Tryz.f34.body = some (bodyOf Go.Proofs.Tryz.f34) by kernel_rfl) h1
theorem con_k14 (z : ZRest) (v : Int) (hv : v ≠ 0) : ∃ c, IsCon (13, z) v c := con_of (F26k14.any 1 z v hv) (by unfold isK; omega) fun r h1 => callW_ok (own := false) (k := 1) (eo (calls_cons ok52 (calls_cons ok53 (calls_cons ok54 calls_nil)))) mixed Go.Proofs.Tryz.func34 (by kernel_rfl) (show Go.Proofs.Tryz.f34.body = some (bodyOf Go.Proofs.Tryz.f34) by kernel_rfl) h1
theorem con_k15 (z : ZRest) (v : Int) (hv : v ≠ 0) : ∃ c, IsCon (14, z) v c := con_of (F26k15.any 1 z v hv) (by unfold isK; omega) fun r h1 => callW_ok (own := false) (k := 1) (eo (calls_cons ok52 (calls_cons ok53 (calls_cons ok54 calls_nil)))) mixed Go.Proofs.Tryz.func34 (by kernel_rfl) (show Go.Proofs.Tryz.f34.body = some (bodyOf Go.Proofs.Tryz.f34) by kernel_rfl) h1
theorem con_k16 (z : ZRest) (v : Int) (hv : v ≠ 0) : ∃ c, IsCon (15, z) v c := con_of (F26k16.any 1 z v hv) (by unfold isK; omega) fun r h1 => callW_ok (own := false) (k := 1) (eo (calls_cons ok52 (calls_cons ok53 (calls_cons ok54 calls_nil)))) mixed Go.Proofs.Tryz.func34 (by kernel_rfl) (show Go.Proofs.Tryz.f34.body = some (bodyOf Go.Proofs.Tryz.f34) by kernel_rfl) h1
theorem con_k17 (z : ZRest) (v : Int) (hv : v ≠ 0) : ∃ c, IsCon (16, z) v c := con_of (F26k17.any 1 z v hv) (by unfold isK; omega) fun r h1 => callW_ok (own := false) (k := 1) (eo (calls_cons ok52 (calls_cons ok53 (calls_cons ok54 calls_nil)))) mixed Go.Proofs.Tryz.func34 (by kernel_rfl) (show Go.Proofs.Tryz.f34.body = some (bodyOf Go.Proofs.Tryz.f34) by kernel_rfl) h1
theorem con_k18 (z : ZRest) (v : Int) (hv : v ≠ 0) : ∃ c, IsCon (17, z) v c := by
 obtain ⟨r, h1, h2⟩ := F26k18.sem 10 (Nat.le_refl _) z v hv
 have hn := nA_range z.1
 exact ⟨con18 z v, spec_weak h2 (callW_ok (own := false) (k := 10) (eo (calls_cons ok52 (calls_cons ok53 (calls_cons ok54 (calls_cons ok55 calls_nil))))) mixed Go.Proofs.Tryz.func34 (by kernel_rfl) (show Go.Proofs.Tryz.f34.body = some (bodyOf Go.Proofs.Tryz.f34) by kernel_rfl) h1), rfl, by show 1 ≤ (placesL z.1 (nA z.1) v).length; rw [places_length]; omega, by show (placesL z.1 (nA z.1) v).length ≤ 4; rw [places_length]; omega, by show ([] : List Int).length ≤ 4; simp, fun h => absurd h (by show ¬ isK 17; unfold isK; omega)⟩
theorem con_k19 (z : ZRest) (v : Int) (hv : v ≠ 0) : ∃ c, IsCon (18, z) v c := con_of (F26k19.any 1 z v hv) (by unfold isK; omega) fun r h1 => callW_ok (own := false) (k := 1) (eo (calls_cons ok52 (calls_cons ok53 (calls_cons ok54 (calls_cons ok55 calls_nil))))) mixed Go.Proofs.Tryz.func34 (by kernel_rfl) (show Go.Proofs.Tryz.f34.body = some (bodyOf Go.Proofs.Tryz.f34) by kernel_rfl) h1
theorem con_k20 (z : ZRest) (v : Int) (hv : v ≠ 0) : ∃ c, IsCon (19, z) v c := con_of (F26k20.any 1 z v hv) (by unfold isK; omega) fun r h1 => callW_ok (own := false) (k := 1) (eo (calls_cons ok52 (calls_cons ok53 (calls_cons ok54 calls_nil)))) mixed Go.Proofs.Tryz.func34 (by kernel_rfl) (show Go.Proofs.Tryz.f34.body = some (bodyOf Go.Proofs.Tryz.f34) by kernel_rfl) h1
theorem con_k21 (z : ZRest) (v : Int) (hv : v ≠ 0) : ∃ c, IsCon (20, z) v c := con_of (F26k21.any 10 (Nat.le_refl _) z v hv) (by unfold isK; omega) fun r h1 => callW_ok (own := false) (k := 10) (eo (calls_cons ok52 (calls_cons ok53 (calls_cons ok54 (calls_cons ok55 calls_nil))))) mixed Go.Proofs.Tryz.func34 (by kernel_rfl) (show Go.Proofs.Tryz.f34.body = some (bodyOf Go.Proofs.Tryz.f34) by kernel_rfl) h1
theorem con_k22 (z : ZRest) (v : Int) (hv : v ≠ 0) : ∃ c, IsCon (21, z) v c := con_of (F26k22.any 1 z v hv) (by unfold isK; omega) fun r h1 => callW_ok (own := false) (k := 1) (eo (calls_cons ok52 (calls_cons ok53 (calls_cons ok54 calls_nil)))) mixed Go.Proofs.Tryz.func34 (by kernel_rfl) (show Go.Proofs.Tryz.f34.body = some (bodyOf Go.Proofs.Tryz.f34) by kernel_rfl) h1
theorem con_k23 (z : ZRest) (v : Int) (hv : v ≠ 0) : ∃ c, IsCon (22, z) v c := con_of (F26k23.any 1 z v hv) (by unfold isK; omega) fun r h1 => callW_ok (own := false) (k := 1) (eo (calls_cons ok52 (calls_cons ok53 (calls_cons ok54 calls_nil)))) mixed Go.Proofs.Tryz.func34 (by kernel_rfl) (show Go.Proofs.Tryz.f34.body = some (bodyOf Go.Proofs.Tryz.f34) by kernel_rfl) h1
theorem con_any (z : Small) (v : Int) (h0 : 0 ≤ z.1) (h1 : z.1 ≤ 22) (hv : v ≠ 0) : ∃ c, IsCon z v c := by
 obtain ⟨m, z⟩ := z
 have hm : @Eq Int m 0 ∨ @Eq Int m 1 ∨ @Eq Int m 2 ∨ @Eq Int m 3 ∨ @Eq Int m 4 ∨ @Eq Int m 5 ∨ @Eq Int m 6 ∨ @Eq Int m 7 ∨ @Eq Int m 8 ∨ @Eq Int m 9 ∨ @Eq Int m 10 ∨ @Eq Int m 11 ∨ @Eq Int m 12 ∨ @Eq Int m 13 ∨ @Eq Int m 14 ∨ @Eq Int m 15 ∨ @Eq Int m 16 ∨ @Eq Int m 17 ∨ @Eq Int m 18 ∨ @Eq Int m 19 ∨ @Eq Int m 20 ∨ @Eq Int m 21 ∨ @Eq Int m 22 := by
  have a : (0 : Int) ≤ m := h0
  have b : m ≤ (22 : Int) := h1
  omega
 rcases hm with rfl | rfl | rfl | rfl | rfl | rfl | rfl | rfl | rfl | rfl | rfl | rfl | rfl | rfl | rfl | rfl | rfl | rfl | rfl | rfl | rfl | rfl | rfl
 ·exact con_k1 z v hv
 ·exact con_k2 z v hv
 ·exact con_k3 z v hv
 ·exact con_k4 z v hv
 ·exact con_k5 z v hv
 ·exact con_k6 z v hv
 ·exact con_k7 z v hv
 ·exact con_k8 z v hv
 ·exact con_k9 z v hv
 ·exact con_k10 z v hv
 ·exact con_k11 z v hv
 ·exact con_k12 z v hv
 ·exact con_k13 z v hv
 ·exact con_k14 z v hv
 ·exact con_k15 z v hv
 ·exact con_k16 z v hv
 ·exact con_k17 z v hv
 ·exact con_k18 z v hv
 ·exact con_k19 z v hv
 ·exact con_k20 z v hv
 ·exact con_k21 z v hv
 ·exact con_k22 z v hv
 ·exact con_k23 z v hv
def conAB (z : Small) (v : Int) : Bool := decide (0 ≤ z.1) && decide (z.1 ≤ 22) && decide (v ≠ 0)
theorem conA_ex (z : Small) (v : Int) : ∃ c, conAB z v = true → IsCon z v c := by
 by_cases h : conAB z v = true
 ·have h' := h
  unfold conAB at h'
  simp only [Bool.and_eq_true, decide_eq_true_eq] at h'
  obtain ⟨c, hc⟩ := con_any z v h'.1.1 h'.1.2 h'.2
  exact ⟨c, fun _ => hc⟩
 ·exact ⟨(0, [], [], [], [], [], 0, []), fun h' => absurd h' h⟩
noncomputable def conA (z : Small) (v : Int) : Con := Classical.choose (conA_ex z v)
theorem conA_spec {z : Small} {v : Int} (h : conAB z v = true) : IsCon z v (conA z v) := Classical.choose_spec (conA_ex z v) h
noncomputable def makeAC (z : Case) (k : Int) : Con := conA (k - 1, z.1.2) 5
def makeAB (_ : Case) (k w : Int) : Bool := decide (1 ≤ k) && decide (k ≤ 23) && decide (1 ≤ w) && decide (w ≤ 1000)
noncomputable def makeAL (z : Case) (k w : Int) : List (List Int) := (List.range ((makeAC z k).2.1.length + (makeAC z k).2.2.1.length)).map fun i => smallL (pickL z.2 i) 6 w
noncomputable def h_conA : Hand := handN [SmallT, .int .i64] fun xs κ => bif conAB xs.1 xs.2.1 then κ (argA ConT (conA xs.1 xs.2.1)) else none
noncomputable def h_makeA : Hand := handN [CaseT, .int .i64, .int .i64] fun xs κ => bif makeAB xs.1 xs.2.1 xs.2.2.1 then κ (.tup [.agg (explode ConT (makeAC xs.1 xs.2.1)), .nw 30 LI (makeAL xs.1 xs.2.1 xs.2.2.1)]) else none
theorem ok26A : HandOk Go.Proofs.Tryz.prog inv 34 h_conA := hand_if fun xs hc => (conA_spec hc).1
end Go.Proofs.YtnojoaghcbljfaaGreatDoor.Ev
set_option linter.unusedVariables false
set_option linter.unusedSimpArgs false
set_option maxRecDepth 100000
namespace Go.Proofs.YtnojoaghcbljfaaGreatDoor.Ev
open Go
noncomputable def F15a.fn : Func := Go.Proofs.Tryz.f14
noncomputable def F15a.body : Code := bodyOf F15a.fn
noncomputable def F15a.E : Env := ⟨tt, [(34, h_conA), (46, h_smallL)], [(1, [1, 2, 3, 6]), (2, [2, 3, 6]), (3, [2, 3, 6, 8]), (4, [2, 3, 6, 8, 9]), (5, [2, 3, 6, 8, 9, 10, 300009]), (6, [2, 3, 6, 8, 9, 10]), (7, [2, 3, 6, 8, 9, 10]), (8, [2, 3, 6, 8, 9, 10, 11]), (9, [2, 3, 6, 8, 9, 10, 11, 48]), (10, [2, 3, 6, 8, 9, 10, 11]), (11, [2, 3, 6, 8, 9, 10, 12]), (12, [6, 8, 9])], [(0, [6, 8, 9]), (1, [2, 3, 6, 8, 9, 10])], some [6, 7], inv⟩
noncomputable def F15a.K0 : Conts := { nrm := endW F15a.E true F15a.fn.results.toList, ret := endW F15a.E true F15a.fn.results.toList, ex := [] }
noncomputable def F15a.kt (k : Nat) (q : List Nat) : Conts := contAt F15a.E k F15a.body F15a.K0 q
noncomputable def F15a.l1_1_1_1_0_1_0 (n : Nat) (K : Conts) (p0 p1 p2 : Int) (p3 p4 p5 : List Int) (p6 p7 : Int) (p8 : List (List Int)) (p9 p10 p11 : Int) (p12 p13 p14 p15 p16 : List Int) (p17 : Int) (p18 p19 : List (List Int)) : Option AV := loopF F15a.E n (inLoop (subC [1,1,1,1,0,1,0] F15a.body)) K ⟨slots 63 [(2, .v (.int .i64) p0), (3, .pb 0 0), (6, .pb 1 0), (8, .pb 2 0), (9, .own 3), (10, .v (.int .i64) p1)], [.box [.v (.int .u8) p2, .v (.sl (.int .u8)) p3, .v (.sl (.int .u8)) p4, .v (.sl (.int .i8)) p5, .v (.int .i16) p6, .v (.int .u8) p7, .v (.sl (.sl (.int .i64))) p8], .box [.v (.int .i64) p9, .nl, .nl, .nl, .nl, .nl, .v (.int .i64) p10, .nl], .box (bC p11 p12 p13 p14 p15 p16 p17 p18), .row 30 (.sl (.int .i64)) p19]⟩
theorem F15a.start_eq (k : Nat) (a0 : (Int × ((List Int) × ((List Int) × ((List Int) × (Int × Int))))) × (List (List Int))) (a1 a2 : Int) : callW F15a.E true F15a.fn k [.agg [.v (.int .u8) a0.1.1, .v (.sl (.int .u8)) a0.1.2.1, .v (.sl (.int .u8)) a0.1.2.2.1, .v (.sl (.int .i8)) a0.1.2.2.2.1, .v (.int .i16) a0.1.2.2.2.2.1, .v (.int .u8) a0.1.2.2.2.2.2, .v (.sl (.sl (.int .i64))) a0.2], .v (.int .i64) a1, .v (.int .i64) a2] =
 bif conAB (IntKind.u8.wrap (IntKind.i64.wrap (a1 - 1)), a0.1.2) 5 then
 F15a.l1_1_1_1_0_1_0 k (F15a.kt k [1,1,1,1,0,1,0]) a2 0 (IntKind.u8.wrap (IntKind.i64.wrap (a1 - 1))) a0.1.2.1 a0.1.2.2.1 a0.1.2.2.2.1 a0.1.2.2.2.2.1 a0.1.2.2.2.2.2 a0.2 (0 : Int) (0 : Int) ((conA (IntKind.u8.wrap (IntKind.i64.wrap (a1 - 1)), a0.1.2) 5).1) (((conA (IntKind.u8.wrap (IntKind.i64.wrap (a1 - 1)), a0.1.2) 5).2).1) ((((conA (IntKind.u8.wrap (IntKind.i64.wrap (a1 - 1)), a0.1.2) 5).2).2).1) (((((conA (IntKind.u8.wrap (IntKind.i64.wrap (a1 - 1)), a0.1.2) 5).2).2).2).1) ((((((conA (IntKind.u8.wrap (IntKind.i64.wrap (a1 - 1)), a0.1.2) 5).2).2).2).2).1) (((((((conA (IntKind.u8.wrap (IntKind.i64.wrap (a1 - 1)), a0.1.2) 5).2).2).2).2).2).1) ((((((((conA (IntKind.u8.wrap (IntKind.i64.wrap (a1 - 1)), a0.1.2) 5).2).2).2).2).2).2).1) ((((((((conA (IntKind.u8.wrap (IntKind.i64.wrap (a1 - 1)), a0.1.2) 5).2).2).2).2).2).2).2) []
 else
 none := by kernel_rfl
theorem F15a.l1_1_1_1_0_1_0_eq (n : Nat) (K : Conts) (p0 p1 p2 : Int) (p3 p4 p5 : List Int) (p6 p7 : Int) (p8 : List (List Int)) (p9 p10 p11 : Int) (p12 p13 p14 p15 p16 : List Int) (p17 : Int) (p18 p19 : List (List Int)) : F15a.l1_1_1_1_0_1_0 (n + 1) K p0 p1 p2 p3 p4 p5 p6 p7 p8 p9 p10 p11 p12 p13 p14 p15 p16 p17 p18 p19 =
 bif decide (p1 < (IntKind.i64.wrap ((p12.length : Int) + (p13.length : Int)))) then
 bif decide (p1 < (p8.length : Int)) then
 bif decide (0 ≤ p1) && decide (p1 < p8.length) then
 bif decide (((p8.getD p1.toNat []).length : Int) > 0) then
 bif decide (0 ≤ p1) && decide (p1 < p8.length) then
 bif smallB (p8.getD p1.toNat []) 6 p0 then
 bif decide ((p19.length + [smallL (p8.getD p1.toNat []) 6 p0].length) * 24 ≤ LIM) then
 F15a.l1_1_1_1_0_1_0 n K p0 (IntKind.i64.wrap (p1 + 1)) p2 p3 p4 p5 p6 p7 p8 p9 p10 p11 p12 p13 p14 p15 p16 p17 p18 (p19 ++ [smallL (p8.getD p1.toNat []) 6 p0])
 else
 none
 else
 none
 else
 none
 else
 bif smallB [p1.tmod 3, 1] 6 p0 then
 bif decide ((p19.length + [smallL [p1.tmod 3, 1] 6 p0].length) * 24 ≤ LIM) then
 F15a.l1_1_1_1_0_1_0 n K p0 (IntKind.i64.wrap (p1 + 1)) p2 p3 p4 p5 p6 p7 p8 p9 p10 p11 p12 p13 p14 p15 p16 p17 p18 (p19 ++ [smallL [p1.tmod 3, 1] 6 p0])
 else
 none
 else
 none
 else
 none
 else
 bif smallB [p1.tmod 3, 1] 6 p0 then
 bif decide ((p19.length + [smallL [p1.tmod 3, 1] 6 p0].length) * 24 ≤ LIM) then
 F15a.l1_1_1_1_0_1_0 n K p0 (IntKind.i64.wrap (p1 + 1)) p2 p3 p4 p5 p6 p7 p8 p9 p10 p11 p12 p13 p14 p15 p16 p17 p18 (p19 ++ [smallL [p1.tmod 3, 1] 6 p0])
 else
 none
 else
 none
 else
 exitK K 0 ⟨slots 63 [(6, .pb 0 0), (8, .pb 1 0), (9, .own 2)], [.box [.v (.int .i64) p9, .nl, .nl, .nl, .nl, .nl, .v (.int .i64) p10, .nl], .box (bC p11 p12 p13 p14 p15 p16 p17 p18), .row 30 (.sl (.int .i64)) p19]⟩ := by kernel_rfl
theorem F15a.c0 (k : Nat) (p0 p1 p2 : Int) (p3 p4 p5 p6 p7 : List Int) (p8 : Int) (p9 p10 : List (List Int)) : exitK (F15a.kt k [1,1,1,1,0,1,0]) 0 ⟨slots 63 [(6, .pb 0 0), (8, .pb 1 0), (9, .own 2)], [.box [.v (.int .i64) p0, .nl, .nl, .nl, .nl, .nl, .v (.int .i64) p1, .nl], .box (bC p2 p3 p4 p5 p6 p7 p8 p9), .row 30 (.sl (.int .i64)) p10]⟩ =
 some (.tup [.agg (bC p2 p3 p4 p5 p6 p7 p8 p9), .nw 30 (.sl (.int .i64)) p10]) := by kernel_rfl
end Go.Proofs.YtnojoaghcbljfaaGreatDoor.Ev
