/-
A constraint of any kind, made of plain data, and the domains that are made with it.
Conditions: none.
-/
import Derived.Test.YtnojoaghcbljfaaGreatDoorBj
import Derived.Test.YtnojoaghcbljfaaGreatDoorCf
set_option linter.unusedVariables false
set_option linter.unusedSimpArgs false
set_option maxRecDepth 100000
namespace Go.Proofs.YtnojoaghcbljfaaGreatDoor.Ev
open Go Go.RowKit
def isK (m : Int) : Prop := m = 17
def conX (m : Int) (z : ZRest) (v : Int) : Con := if m = 17 then con18 z v else (0, [], [], [], [], [], 0, [])
def IsCon (z : Small) (v : Int) (c : Con) : Prop := CallSpec Go.Proofs.Tryz.prog inv 34 [.agg (explode SmallT z), .v (.int .i64) v] (.agg (explode ConT c)) ∧ c.1 = z.1 + 1 ∧ 1 ≤ c.2.1.length ∧ c.2.1.length ≤ 4 ∧ c.2.2.1.length ≤ 4 ∧ (isK z.1 → c = conX z.1 z.2 v)
theorem con_of {E : Env} {fn : Func} {K : Nat} {k : Int} {z : ZRest} {v : Int} (h : AnyC E fn K k z v) (h1 : ¬ isK (k - 1))
    (hs : ∀ r, callW E false fn K [.agg (explode SmallT ((k - 1 : Int), z)), .v (.int .i64) v] = some r → CallSpec Go.Proofs.Tryz.prog inv 34 [.agg (explode SmallT ((k - 1 : Int), z)), .v (.int .i64) v] r) : ∃ c, IsCon (k - 1, z) v c := by
  obtain ⟨A, B, C, D, G, M, R, ⟨r, e, w⟩, a1, a2, a3⟩ := h
  exact ⟨(k, A, B, C, D, G, M, R), spec_weak w (hs r e), show k = k - 1 + 1 by omega, a1, a2, a3, fun h => absurd h h1⟩
theorem con_k1 (z : ZRest) (v : Int) (hv : v ≠ 0) : ∃ c, IsCon (0, z) v c := con_of (F26k1.any 1 z v hv) (by unfold isK; omega) fun r h1 => callW_ok (own := false) (k := 1) (eo (calls_cons ok52 (calls_cons ok53 (calls_cons ok54 (calls_cons ok55 calls_nil))))) mixed Go.Proofs.Tryz.func34 (by kernel_rfl) (show Go.Proofs.Tryz.f34.body = some (bodyOf Go.Proofs.Tryz.f34) by kernel_rfl) h1
theorem con_k2 (z : ZRest) (v : Int) (hv : v ≠ 0) : ∃ c, IsCon (1, z) v c := con_of (F26k2.any 1 z v hv) (by unfold isK; omega) fun r h1 => callW_ok (own := false) (k := 1) (eo (calls_cons ok52 (calls_cons ok53 (calls_cons ok54 (calls_cons ok55 calls_nil))))) mixed Go.Proofs.Tryz.func34 (by kernel_rfl) (show Go.Proofs.Tryz.f34.body = some (bodyOf Go.Proofs.Tryz.f34) by kernel_rfl) h1
theorem con_k3 (z : ZRest) (v : Int) (hv : v ≠ 0) : ∃ c, IsCon (2, z) v c := con_of (F26k3.any 1 z v hv) (by unfold isK; omega) fun r h1 => callW_ok (own := false) (k := 1) (eo (calls_cons ok52 (calls_cons ok53 (calls_cons ok54 (calls_cons ok55 calls_nil))))) mixed Go.Proofs.Tryz.func34 (by kernel_rfl) (show Go.Proofs.Tryz.f34.body = some (bodyOf Go.Proofs.Tryz.f34) by kernel_rfl) h1
theorem con_k4 (z : ZRest) (v : Int) (hv : v ≠ 0) : ∃ c, IsCon (3, z) v c := con_of (F26k4.any 1 z v hv) (by unfold isK; omega) fun r h1 => callW_ok (own := false) (k := 1) (eo (calls_cons ok52 (calls_cons ok53 (calls_cons ok54 (calls_cons ok55 calls_nil))))) mixed Go.Proofs.Tryz.func34 (by kernel_rfl) (show Go.Proofs.Tryz.f34.body = some (bodyOf Go.Proofs.Tryz.f34) by kernel_rfl) h1
theorem con_k5 (z : ZRest) (v : Int) (hv : v ≠ 0) : ∃ c, IsCon (4, z) v c := con_of (F26k5.any 1 z v hv) (by unfold isK; omega) fun r h1 => callW_ok (own := false) (k := 1) (eo (calls_cons ok52 (calls_cons ok53 (calls_cons ok54 calls_nil)))) mixed Go.Proofs.Tryz.func34 (by kernel_rfl) (show Go.Proofs.Tryz.f34.body = some (bodyOf Go.Proofs.Tryz.f34) by kernel_rfl) h1
theorem con_k6 (z : ZRest) (v : Int) (hv : v ≠ 0) : ∃ c, IsCon (5, z) v c := con_of (F26k6.any 1 z v hv) (by unfold isK; omega) fun r h1 => callW_ok (own := false) (k := 1) (eo (calls_cons ok52 (calls_cons ok53 (calls_cons ok54 calls_nil)))) mixed Go.Proofs.Tryz.func34 (by kernel_rfl) (show Go.Proofs.Tryz.f34.body = some (bodyOf Go.Proofs.Tryz.f34) by kernel_rfl) h1
theorem con_k7 (z : ZRest) (v : Int) (hv : v ≠ 0) : ∃ c, IsCon (6, z) v c := con_of (F26k7.any 1 z v hv) (by unfold isK; omega) fun r h1 => callW_ok (own := false) (k := 1) (eo (calls_cons ok52 (calls_cons ok53 (calls_cons ok54 calls_nil)))) mixed Go.Proofs.Tryz.func34 (by kernel_rfl) (show Go.Proofs.Tryz.f34.body = some (bodyOf Go.Proofs.Tryz.f34) by kernel_rfl) h1
theorem con_k8 (z : ZRest) (v : Int) (hv : v ≠ 0) : ∃ c, IsCon (7, z) v c := con_of (F26k8.any 1 z v hv) (by unfold isK; omega) fun r h1 => callW_ok (own := false) (k := 1) (eo (calls_cons ok52 (calls_cons ok53 (calls_cons ok54 calls_nil)))) mixed Go.Proofs.Tryz.func34 (by kernel_rfl) (show Go.Proofs.Tryz.f34.body = some (bodyOf Go.Proofs.Tryz.f34) by kernel_rfl) h1
theorem con_k9 (z : ZRest) (v : Int) (hv : v ≠ 0) : ∃ c, IsCon (8, z) v c := con_of (F26k9.any 1 z v hv) (by unfold isK; omega) fun r h1 => callW_ok (own := false) (k := 1) (eo (calls_cons ok52 (calls_cons ok53 (calls_cons ok54 calls_nil)))) mixed Go.Proofs.Tryz.func34 (by kernel_rfl) (show Go.Proofs.Tryz.f34.body = some (bodyOf Go.Proofs.Tryz.f34) by kernel_rfl) h1
theorem con_k10 (z : ZRest) (v : Int) (hv : v ≠ 0) : ∃ c, IsCon (9, z) v c := con_of (F26k10.any 1 z v hv) (by unfold isK; omega) fun r h1 => callW_ok (own := false) (k := 1) (eo (calls_cons ok52 (calls_cons ok53 (calls_cons ok54 calls_nil)))) mixed Go.Proofs.Tryz.func34 (by kernel_rfl) (show Go.Proofs.Tryz.f34.body = some (bodyOf Go.Proofs.Tryz.f34) by kernel_rfl) h1
theorem con_k11 (z : ZRest) (v : Int) (hv : v ≠ 0) : ∃ c, IsCon (10, z) v c := con_of (F26k11.any 1 z v hv) (by unfold isK; omega) fun r h1 => callW_ok (own := false) (k := 1) (eo (calls_cons ok52 (calls_cons ok53 (calls_cons ok54 (calls_cons ok55 calls_nil))))) mixed Go.Proofs.Tryz.func34 (by kernel_rfl) (show Go.Proofs.Tryz.f34.body = some (bodyOf Go.Proofs.Tryz.f34) by kernel_rfl) h1
theorem con_k12 (z : ZRest) (v : Int) (hv : v ≠ 0) : ∃ c, IsCon (11, z) v c := con_of (F26k12.any 1 z v hv) (by unfold isK; omega) fun r h1 => callW_ok (own := false) (k := 1) (eo (calls_cons ok52 (calls_cons ok53 (calls_cons ok54 calls_nil)))) mixed Go.Proofs.Tryz.func34 (by kernel_rfl) (show Go.Proofs.Tryz.f34.body = some (bodyOf Go.Proofs.Tryz.f34) by kernel_rfl) h1
theorem con_k13 (z : ZRest) (v : Int) (hv : v ≠ 0) : ∃ c, IsCon (12, z) v c := con_of (F26k13.any 1 z v hv) (by unfold isK; omega) fun r h1 => callW_ok (own := false) (k := 1) (eo (calls_cons ok52 (calls_cons ok53 (calls_cons ok54 calls_nil)))) mixed Go.Proofs.Tryz.func34 (by kernel_rfl) (show Go.Proofs.Tryz.f34.body = some (bodyOf Go.Proofs.Tryz.f34) by kernel_rfl) h1
theorem con_k14 (z : ZRest) (v : Int) (hv : v ≠ 0) : ∃ c, IsCon (13, z) v c := con_of (F26k14.any 1 z v hv) (by unfold isK; omega) fun r h1 => callW_ok (own := false) (k := 1) (eo (calls_cons ok52 (calls_cons ok53 (calls_cons ok54 calls_nil)))) mixed Go.Proofs.Tryz.func34 (by kernel_rfl) (show Go.Proofs.Tryz.f34.body = some (bodyOf Go.Proofs.Tryz.f34) by kernel_rfl) h1
theorem con_k15 (z : ZRest) (v : Int) (hv : v ≠ 0) : ∃ c, IsCon (14, z) v c := con_of (F26k15.any 1 z v hv) (by unfold isK; omega) fun r h1 => callW_ok (own := false) (k := 1) (eo (calls_cons ok52 (calls_cons ok53 (calls_cons ok54 calls_nil)))) mixed Go.Proofs.Tryz.func34 (by kernel_rfl) (show Go.Proofs.Tryz.f34.body = some (bodyOf Go.Proofs.Tryz.f34) by kernel_rfl) h1
theorem con_k16 (z : ZRest) (v : Int) (hv : v ≠ 0) : ∃ c, IsCon (15, z) v c := con_of (F26k16.any 1 z v hv) (by unfold isK; omega) fun r h1 => callW_ok (own := false) (k := 1) (eo (calls_cons ok52 (calls_cons ok53 (calls_cons ok54 calls_nil)))) mixed Go.Proofs.Tryz.func34 (by kernel_rfl) (show Go.Proofs.Tryz.f34.body = some (bodyOf Go.Proofs.Tryz.f34) by kernel_rfl) h1
theorem con_k17 (z : ZRest) (v : Int) (hv : v ≠ 0) : ∃ c, IsCon (16, z) v c := con_of (F26k17.any 1 z v hv) (by unfold isK; omega) fun r h1 => callW_ok (own := false) (k := 1) (eo (calls_cons ok52 (calls_cons ok53 (calls_cons ok54 calls_nil)))) mixed Go.Proofs.Tryz.func34 (by kernel_rfl) (show Go.Proofs.Tryz.f34.body = some (bodyOf Go.Proofs.Tryz.f34) by kernel_rfl) h1
theorem con_k18 (z : ZRest) (v : Int) (hv : v ≠ 0) : ∃ c, IsCon (17, z) v c := by
  obtain ⟨r, h1, h2⟩ := F26k18.sem 10 (Nat.le_refl _) z v hv
  have hn := nA_range z.1
  exact ⟨con18 z v, spec_weak h2 (callW_ok (own := false) (k := 10) (eo (calls_cons ok52 (calls_cons ok53 (calls_cons ok54 (calls_cons ok55 calls_nil))))) mixed Go.Proofs.Tryz.func34 (by kernel_rfl) (show Go.Proofs.Tryz.f34.body = some (bodyOf Go.Proofs.Tryz.f34) by kernel_rfl) h1), rfl, by show 1 ≤ (placesL z.1 (nA z.1) v).length; rw [places_length]; omega, by show (placesL z.1 (nA z.1) v).length ≤ 4; rw [places_length]; omega, by show ([] : List Int).length ≤ 4; simp, fun _ => rfl⟩
theorem con_k19 (z : ZRest) (v : Int) (hv : v ≠ 0) : ∃ c, IsCon (18, z) v c := con_of (F26k19.any 1 z v hv) (by unfold isK; omega) fun r h1 => callW_ok (own := false) (k := 1) (eo (calls_cons ok52 (calls_cons ok53 (calls_cons ok54 (calls_cons ok55 calls_nil))))) mixed Go.Proofs.Tryz.func34 (by kernel_rfl) (show Go.Proofs.Tryz.f34.body = some (bodyOf Go.Proofs.Tryz.f34) by kernel_rfl) h1
theorem con_k20 (z : ZRest) (v : Int) (hv : v ≠ 0) : ∃ c, IsCon (19, z) v c := con_of (F26k20.any 1 z v hv) (by unfold isK; omega) fun r h1 => callW_ok (own := false) (k := 1) (eo (calls_cons ok52 (calls_cons ok53 (calls_cons ok54 calls_nil)))) mixed Go.Proofs.Tryz.func34 (by kernel_rfl) (show Go.Proofs.Tryz.f34.body = some (bodyOf Go.Proofs.Tryz.f34) by kernel_rfl) h1
theorem con_k21 (z : ZRest) (v : Int) (hv : v ≠ 0) : ∃ c, IsCon (20, z) v c := con_of (F26k21.any 10 (Nat.le_refl _) z v hv) (by unfold isK; omega) fun r h1 => callW_ok (own := false) (k := 10) (eo (calls_cons ok52 (calls_cons ok53 (calls_cons ok54 (calls_cons ok55 calls_nil))))) mixed Go.Proofs.Tryz.func34 (by kernel_rfl) (show Go.Proofs.Tryz.f34.body = some (bodyOf Go.Proofs.Tryz.f34) by kernel_rfl) h1
theorem con_k22 (z : ZRest) (v : Int) (hv : v ≠ 0) : ∃ c, IsCon (21, z) v c := con_of (F26k22.any 1 z v hv) (by unfold isK; omega) fun r h1 => callW_ok (own := false) (k := 1) (eo (calls_cons ok52 (calls_cons ok53 (calls_cons ok54 calls_nil)))) mixed Go.Proofs.Tryz.func34 (by kernel_rfl) (show Go.Proofs.Tryz.f34.body = some (bodyOf Go.Proofs.Tryz.f34) by kernel_rfl) h1
theorem con_k23 (z : ZRest) (v : Int) (hv : v ≠ 0) : ∃ c, IsCon (22, z) v c := con_of (F26k23.any 1 z v hv) (by unfold isK; omega) fun r h1 => callW_ok (own := false) (k := 1) (eo (calls_cons ok52 (calls_cons ok53 (calls_cons ok54 calls_nil)))) mixed Go.Proofs.Tryz.func34 (by kernel_rfl) (show Go.Proofs.Tryz.f34.body = some (bodyOf Go.Proofs.Tryz.f34) by kernel_rfl) h1
theorem con_any (z : Small) (v : Int) (h0 : 0 ≤ z.1) (h1 : z.1 ≤ 22) (hv : v ≠ 0) : ∃ c, IsCon z v c := by
  obtain ⟨m, z⟩ := z
  have hm : @Eq Int m 0 ∨ @Eq Int m 1 ∨ @Eq Int m 2 ∨ @Eq Int m 3 ∨ @Eq Int m 4 ∨ @Eq Int m 5 ∨ @Eq Int m 6 ∨ @Eq Int m 7 ∨ @Eq Int m 8 ∨ @Eq Int m 9 ∨ @Eq Int m 10 ∨ @Eq Int m 11 ∨ @Eq Int m 12 ∨ @Eq Int m 13 ∨ @Eq Int m 14 ∨ @Eq Int m 15 ∨ @Eq Int m 16 ∨ @Eq Int m 17 ∨ @Eq Int m 18 ∨ @Eq Int m 19 ∨ @Eq Int m 20 ∨ @Eq Int m 21 ∨ @Eq Int m 22 := by
    have a : (0 : Int) ≤ m := h0
    have b : m ≤ (22 : Int) := h1
    omega
  rcases hm with rfl | rfl | rfl | rfl | rfl | rfl | rfl | rfl | rfl | rfl | rfl | rfl | rfl | rfl | rfl | rfl | rfl | rfl | rfl | rfl | rfl | rfl | rfl
  · exact con_k1 z v hv
  · exact con_k2 z v hv
  · exact con_k3 z v hv
  · exact con_k4 z v hv
  · exact con_k5 z v hv
  · exact con_k6 z v hv
  · exact con_k7 z v hv
  · exact con_k8 z v hv
  · exact con_k9 z v hv
  · exact con_k10 z v hv
  · exact con_k11 z v hv
  · exact con_k12 z v hv
  · exact con_k13 z v hv
  · exact con_k14 z v hv
  · exact con_k15 z v hv
  · exact con_k16 z v hv
  · exact con_k17 z v hv
  · exact con_k18 z v hv
  · exact con_k19 z v hv
  · exact con_k20 z v hv
  · exact con_k21 z v hv
  · exact con_k22 z v hv
  · exact con_k23 z v hv
def conAB (z : Small) (v : Int) : Bool := decide (0 ≤ z.1) && decide (z.1 ≤ 22) && decide (v ≠ 0)
theorem conA_ex (z : Small) (v : Int) : ∃ c, conAB z v = true → IsCon z v c := by
  by_cases h : conAB z v = true
  · have h' := h
    unfold conAB at h'
    simp only [Bool.and_eq_true, decide_eq_true_eq] at h'
    obtain ⟨c, hc⟩ := con_any z v h'.1.1 h'.1.2 h'.2
    exact ⟨c, fun _ => hc⟩
  · exact ⟨(0, [], [], [], [], [], 0, []), fun h' => absurd h' h⟩
noncomputable def conA (z : Small) (v : Int) : Con := Classical.choose (conA_ex z v)
theorem conA_spec {z : Small} {v : Int} (h : conAB z v = true) : IsCon z v (conA z v) := Classical.choose_spec (conA_ex z v) h
noncomputable def makeAC (z : Case) (k : Int) : Con := conA (k - 1, z.1.2) 5
def makeAB (_ : Case) (k w : Int) : Bool := decide (1 ≤ k) && decide (k ≤ 23) && decide (1 ≤ w) && decide (w ≤ 1000)
noncomputable def makeAL (z : Case) (k w : Int) : List (List Int) := (List.range ((makeAC z k).2.1.length + (makeAC z k).2.2.1.length)).map fun i => smallL (pickL z.2 i) 6 w
noncomputable def h_conA : Hand := handN [SmallT, .int .i64] fun xs κ => bif conAB xs.1 xs.2.1 then κ (argA ConT (conA xs.1 xs.2.1)) else none
noncomputable def h_makeA : Hand := handN [CaseT, .int .i64, .int .i64] fun xs κ => bif makeAB xs.1 xs.2.1 xs.2.2.1 then κ (.tup [.agg (explode ConT (makeAC xs.1 xs.2.1)), .nw 30 LI (makeAL xs.1 xs.2.1 xs.2.2.1)]) else none
theorem ok26A : HandOk Go.Proofs.Tryz.prog inv 34 h_conA := hand_if fun xs hc => (conA_spec hc).1
end Go.Proofs.YtnojoaghcbljfaaGreatDoor.Ev
