/-
Seat 'a': a constraint of any kind, made of plain data, and the domains that are made with it.
Conditions: none.
-/
import Derived.Test.YthdpbmcidebagaaGreatDoorBj
import Derived.Test.YthdpbmcidebagaaGreatDoorCf
set_option linter.unusedVariables false
set_option linter.unusedSimpArgs false
set_option maxRecDepth 100000
namespace Go.Proofs.YthdpbmcidebagaaGreatDoor.Ev
open Go Go.RowKit
def IsCon (z : Small) (v : Int) (c : Con) : Prop := CallSpec Go.Proofs.Tryz.prog inv 26 [.agg (explode SmallT z), .v (.int .i64) v] (.agg (explode ConT c)) ∧ c.1 = z.1 + 1 ∧ 1 ≤ c.2.1.length ∧ c.2.1.length ≤ 4 ∧ c.2.2.1.length ≤ 4 ∧
  (z.1 = 10 ∨ z.1 = 12 ∨ z.1 = 13 ∨ z.1 = 14 ∨ z.1 = 15 → c = conC z v) ∧ (z.1 = 17 → c = con18 z.2 v)
theorem con_of {E : Env} {fn : Func} {K : Nat} {k : Int} {z : ZRest} {v : Int} (h : AnyC E fn K k z v) (h1 : ¬ (k - 1 = 10 ∨ k - 1 = 12 ∨ k - 1 = 13 ∨ k - 1 = 14 ∨ k - 1 = 15)) (h2 : ¬ k - 1 = 17)
    (hs : ∀ r, callW E false fn K [.agg (explode SmallT ((k - 1 : Int), z)), .v (.int .i64) v] = some r → CallSpec Go.Proofs.Tryz.prog inv 26 [.agg (explode SmallT ((k - 1 : Int), z)), .v (.int .i64) v] r) : ∃ c, IsCon (k - 1, z) v c := by
  obtain ⟨A, B, C, D, G, M, R, ⟨r, e, w⟩, a1, a2, a3⟩ := h
  exact ⟨(k, A, B, C, D, G, M, R), spec_weak w (hs r e), show k = k - 1 + 1 by omega, a1, a2, a3, fun h => absurd h h1, fun h => absurd h h2⟩
theorem conC_one (z : Small) (v : Int) : 1 ≤ (conC z v).2.1.length := by
  unfold conC
  split <;> simp [places_length]
theorem conC_kind {z : Small} {v : Int} (h : z.1 = 10 ∨ z.1 = 12 ∨ z.1 = 13 ∨ z.1 = 14 ∨ z.1 = 15) : (conC z v).1 = z.1 + 1 := by
  unfold conC
  split
  · rename_i e
    rw [e]
    rfl
  · rfl
theorem con_k1 (z : ZRest) (v : Int) (hv : v ≠ 0) : ∃ c, IsCon (0, z) v c := con_of (F26k1.any 1 z v hv) (by omega) (by omega) fun r h1 => callW_ok (own := false) (k := 1) (eo (calls_cons ok52 (calls_cons ok53 (calls_cons ok54 (calls_cons ok55 calls_nil))))) mixed Go.Proofs.Tryz.func26 (by kernel_rfl) (show Go.Proofs.Tryz.f26.body = some (bodyOf Go.Proofs.Tryz.f26) by kernel_rfl) h1
theorem con_k2 (z : ZRest) (v : Int) (hv : v ≠ 0) : ∃ c, IsCon (1, z) v c := con_of (F26k2.any 1 z v hv) (by omega) (by omega) fun r h1 => callW_ok (own := false) (k := 1) (eo (calls_cons ok52 (calls_cons ok53 (calls_cons ok54 (calls_cons ok55 calls_nil))))) mixed Go.Proofs.Tryz.func26 (by kernel_rfl) (show Go.Proofs.Tryz.f26.body = some (bodyOf Go.Proofs.Tryz.f26) by kernel_rfl) h1
theorem con_k3 (z : ZRest) (v : Int) (hv : v ≠ 0) : ∃ c, IsCon (2, z) v c := con_of (F26k3.any 1 z v hv) (by omega) (by omega) fun r h1 => callW_ok (own := false) (k := 1) (eo (calls_cons ok52 (calls_cons ok53 (calls_cons ok54 (calls_cons ok55 calls_nil))))) mixed Go.Proofs.Tryz.func26 (by kernel_rfl) (show Go.Proofs.Tryz.f26.body = some (bodyOf Go.Proofs.Tryz.f26) by kernel_rfl) h1
theorem con_k4 (z : ZRest) (v : Int) (hv : v ≠ 0) : ∃ c, IsCon (3, z) v c := con_of (F26k4.any 1 z v hv) (by omega) (by omega) fun r h1 => callW_ok (own := false) (k := 1) (eo (calls_cons ok52 (calls_cons ok53 (calls_cons ok54 (calls_cons ok55 calls_nil))))) mixed Go.Proofs.Tryz.func26 (by kernel_rfl) (show Go.Proofs.Tryz.f26.body = some (bodyOf Go.Proofs.Tryz.f26) by kernel_rfl) h1
theorem con_k5 (z : ZRest) (v : Int) (hv : v ≠ 0) : ∃ c, IsCon (4, z) v c := con_of (F26k5.any 1 z v hv) (by omega) (by omega) fun r h1 => callW_ok (own := false) (k := 1) (eo (calls_cons ok52 (calls_cons ok53 (calls_cons ok54 calls_nil)))) mixed Go.Proofs.Tryz.func26 (by kernel_rfl) (show Go.Proofs.Tryz.f26.body = some (bodyOf Go.Proofs.Tryz.f26) by kernel_rfl) h1
theorem con_k6 (z : ZRest) (v : Int) (hv : v ≠ 0) : ∃ c, IsCon (5, z) v c := con_of (F26k6.any 1 z v hv) (by omega) (by omega) fun r h1 => callW_ok (own := false) (k := 1) (eo (calls_cons ok52 (calls_cons ok53 (calls_cons ok54 calls_nil)))) mixed Go.Proofs.Tryz.func26 (by kernel_rfl) (show Go.Proofs.Tryz.f26.body = some (bodyOf Go.Proofs.Tryz.f26) by kernel_rfl) h1
theorem con_k7 (z : ZRest) (v : Int) (hv : v ≠ 0) : ∃ c, IsCon (6, z) v c := con_of (F26k7.any 1 z v hv) (by omega) (by omega) fun r h1 => callW_ok (own := false) (k := 1) (eo (calls_cons ok52 (calls_cons ok53 (calls_cons ok54 calls_nil)))) mixed Go.Proofs.Tryz.func26 (by kernel_rfl) (show Go.Proofs.Tryz.f26.body = some (bodyOf Go.Proofs.Tryz.f26) by kernel_rfl) h1
theorem con_k8 (z : ZRest) (v : Int) (hv : v ≠ 0) : ∃ c, IsCon (7, z) v c := con_of (F26k8.any 1 z v hv) (by omega) (by omega) fun r h1 => callW_ok (own := false) (k := 1) (eo (calls_cons ok52 (calls_cons ok53 (calls_cons ok54 calls_nil)))) mixed Go.Proofs.Tryz.func26 (by kernel_rfl) (show Go.Proofs.Tryz.f26.body = some (bodyOf Go.Proofs.Tryz.f26) by kernel_rfl) h1
theorem con_k9 (z : ZRest) (v : Int) (hv : v ≠ 0) : ∃ c, IsCon (8, z) v c := con_of (F26k9.any 1 z v hv) (by omega) (by omega) fun r h1 => callW_ok (own := false) (k := 1) (eo (calls_cons ok52 (calls_cons ok53 (calls_cons ok54 calls_nil)))) mixed Go.Proofs.Tryz.func26 (by kernel_rfl) (show Go.Proofs.Tryz.f26.body = some (bodyOf Go.Proofs.Tryz.f26) by kernel_rfl) h1
theorem con_k10 (z : ZRest) (v : Int) (hv : v ≠ 0) : ∃ c, IsCon (9, z) v c := con_of (F26k10.any 1 z v hv) (by omega) (by omega) fun r h1 => callW_ok (own := false) (k := 1) (eo (calls_cons ok52 (calls_cons ok53 (calls_cons ok54 calls_nil)))) mixed Go.Proofs.Tryz.func26 (by kernel_rfl) (show Go.Proofs.Tryz.f26.body = some (bodyOf Go.Proofs.Tryz.f26) by kernel_rfl) h1
theorem con_k11 (z : ZRest) (v : Int) (hv : v ≠ 0) : ∃ c, IsCon (10, z) v c := by
  obtain ⟨r, h1, h2⟩ := F26k11.sem 1 z v hv
  exact ⟨conC (10, z) v, spec_weak h2 (callW_ok (own := false) (k := 1) (eo (calls_cons ok52 (calls_cons ok53 (calls_cons ok54 (calls_cons ok55 calls_nil))))) mixed Go.Proofs.Tryz.func26 (by kernel_rfl) (show Go.Proofs.Tryz.f26.body = some (bodyOf Go.Proofs.Tryz.f26) by kernel_rfl) h1), conC_kind (by show (10 : Int) = 10 ∨ (10 : Int) = 12 ∨ (10 : Int) = 13 ∨ (10 : Int) = 14 ∨ (10 : Int) = 15; omega), conC_one _ _, by have := (conC_len (z := (10, z)) (v := v)).2.1; omega, by have := (conC_len (z := (10, z)) (v := v)).2.2; omega, fun _ => rfl, fun h => absurd (show (10 : Int) = 17 from h) (by omega)⟩
theorem con_k12 (z : ZRest) (v : Int) (hv : v ≠ 0) : ∃ c, IsCon (11, z) v c := con_of (F26k12.any 1 z v hv) (by omega) (by omega) fun r h1 => callW_ok (own := false) (k := 1) (eo (calls_cons ok52 (calls_cons ok53 (calls_cons ok54 calls_nil)))) mixed Go.Proofs.Tryz.func26 (by kernel_rfl) (show Go.Proofs.Tryz.f26.body = some (bodyOf Go.Proofs.Tryz.f26) by kernel_rfl) h1
theorem con_k13 (z : ZRest) (v : Int) (hv : v ≠ 0) : ∃ c, IsCon (12, z) v c := by
  obtain ⟨r, h1, h2⟩ := F26k13.sem 1 z v hv
  exact ⟨conC (12, z) v, spec_weak h2 (callW_ok (own := false) (k := 1) (eo (calls_cons ok52 (calls_cons ok53 (calls_cons ok54 calls_nil)))) mixed Go.Proofs.Tryz.func26 (by kernel_rfl) (show Go.Proofs.Tryz.f26.body = some (bodyOf Go.Proofs.Tryz.f26) by kernel_rfl) h1), conC_kind (by show (12 : Int) = 10 ∨ (12 : Int) = 12 ∨ (12 : Int) = 13 ∨ (12 : Int) = 14 ∨ (12 : Int) = 15; omega), conC_one _ _, by have := (conC_len (z := (12, z)) (v := v)).2.1; omega, by have := (conC_len (z := (12, z)) (v := v)).2.2; omega, fun _ => rfl, fun h => absurd (show (12 : Int) = 17 from h) (by omega)⟩
theorem con_k14 (z : ZRest) (v : Int) (hv : v ≠ 0) : ∃ c, IsCon (13, z) v c := by
  obtain ⟨r, h1, h2⟩ := F26k14.sem 1 z v hv
  exact ⟨conC (13, z) v, spec_weak h2 (callW_ok (own := false) (k := 1) (eo (calls_cons ok52 (calls_cons ok53 (calls_cons ok54 calls_nil)))) mixed Go.Proofs.Tryz.func26 (by kernel_rfl) (show Go.Proofs.Tryz.f26.body = some (bodyOf Go.Proofs.Tryz.f26) by kernel_rfl) h1), conC_kind (by show (13 : Int) = 10 ∨ (13 : Int) = 12 ∨ (13 : Int) = 13 ∨ (13 : Int) = 14 ∨ (13 : Int) = 15; omega), conC_one _ _, by have := (conC_len (z := (13, z)) (v := v)).2.1; omega, by have := (conC_len (z := (13, z)) (v := v)).2.2; omega, fun _ => rfl, fun h => absurd (show (13 : Int) = 17 from h) (by omega)⟩
theorem con_k15 (z : ZRest) (v : Int) (hv : v ≠ 0) : ∃ c, IsCon (14, z) v c := by
  obtain ⟨r, h1, h2⟩ := F26k15.sem 1 z v hv
  exact ⟨conC (14, z) v, spec_weak h2 (callW_ok (own := false) (k := 1) (eo (calls_cons ok52 (calls_cons ok53 (calls_cons ok54 calls_nil)))) mixed Go.Proofs.Tryz.func26 (by kernel_rfl) (show Go.Proofs.Tryz.f26.body = some (bodyOf Go.Proofs.Tryz.f26) by kernel_rfl) h1), conC_kind (by show (14 : Int) = 10 ∨ (14 : Int) = 12 ∨ (14 : Int) = 13 ∨ (14 : Int) = 14 ∨ (14 : Int) = 15; omega), conC_one _ _, by have := (conC_len (z := (14, z)) (v := v)).2.1; omega, by have := (conC_len (z := (14, z)) (v := v)).2.2; omega, fun _ => rfl, fun h => absurd (show (14 : Int) = 17 from h) (by omega)⟩
theorem con_k16 (z : ZRest) (v : Int) (hv : v ≠ 0) : ∃ c, IsCon (15, z) v c := by
  obtain ⟨r, h1, h2⟩ := F26k16.sem 1 z v hv
  exact ⟨conC (15, z) v, spec_weak h2 (callW_ok (own := false) (k := 1) (eo (calls_cons ok52 (calls_cons ok53 (calls_cons ok54 calls_nil)))) mixed Go.Proofs.Tryz.func26 (by kernel_rfl) (show Go.Proofs.Tryz.f26.body = some (bodyOf Go.Proofs.Tryz.f26) by kernel_rfl) h1), conC_kind (by show (15 : Int) = 10 ∨ (15 : Int) = 12 ∨ (15 : Int) = 13 ∨ (15 : Int) = 14 ∨ (15 : Int) = 15; omega), conC_one _ _, by have := (conC_len (z := (15, z)) (v := v)).2.1; omega, by have := (conC_len (z := (15, z)) (v := v)).2.2; omega, fun _ => rfl, fun h => absurd (show (15 : Int) = 17 from h) (by omega)⟩
theorem con_k17 (z : ZRest) (v : Int) (hv : v ≠ 0) : ∃ c, IsCon (16, z) v c := con_of (F26k17.any 1 z v hv) (by omega) (by omega) fun r h1 => callW_ok (own := false) (k := 1) (eo (calls_cons ok52 (calls_cons ok53 (calls_cons ok54 calls_nil)))) mixed Go.Proofs.Tryz.func26 (by kernel_rfl) (show Go.Proofs.Tryz.f26.body = some (bodyOf Go.Proofs.Tryz.f26) by kernel_rfl) h1
theorem con_k18 (z : ZRest) (v : Int) (hv : v ≠ 0) : ∃ c, IsCon (17, z) v c := by
  obtain ⟨r, h1, h2⟩ := F26k18.sem 10 (Nat.le_refl _) z v hv
  have hn := nA_range z.1
  exact ⟨con18 z v, spec_weak h2 (callW_ok (own := false) (k := 10) (eo (calls_cons ok52 (calls_cons ok53 (calls_cons ok54 (calls_cons ok55 calls_nil))))) mixed Go.Proofs.Tryz.func26 (by kernel_rfl) (show Go.Proofs.Tryz.f26.body = some (bodyOf Go.Proofs.Tryz.f26) by kernel_rfl) h1), rfl, by show 1 ≤ (placesL z.1 (nA z.1) v).length; rw [places_length]; omega, by show (placesL z.1 (nA z.1) v).length ≤ 4; rw [places_length]; omega, by show ([] : List Int).length ≤ 4; simp, fun h => absurd (show (17 : Int) = 10 ∨ (17 : Int) = 12 ∨ (17 : Int) = 13 ∨ (17 : Int) = 14 ∨ (17 : Int) = 15 from h) (by omega), fun _ => rfl⟩
theorem con_k19 (z : ZRest) (v : Int) (hv : v ≠ 0) : ∃ c, IsCon (18, z) v c := con_of (F26k19.any 1 z v hv) (by omega) (by omega) fun r h1 => callW_ok (own := false) (k := 1) (eo (calls_cons ok52 (calls_cons ok53 (calls_cons ok54 (calls_cons ok55 calls_nil))))) mixed Go.Proofs.Tryz.func26 (by kernel_rfl) (show Go.Proofs.Tryz.f26.body = some (bodyOf Go.Proofs.Tryz.f26) by kernel_rfl) h1
theorem con_k20 (z : ZRest) (v : Int) (hv : v ≠ 0) : ∃ c, IsCon (19, z) v c := con_of (F26k20.any 1 z v hv) (by omega) (by omega) fun r h1 => callW_ok (own := false) (k := 1) (eo (calls_cons ok52 (calls_cons ok53 (calls_cons ok54 calls_nil)))) mixed Go.Proofs.Tryz.func26 (by kernel_rfl) (show Go.Proofs.Tryz.f26.body = some (bodyOf Go.Proofs.Tryz.f26) by kernel_rfl) h1
theorem con_k21 (z : ZRest) (v : Int) (hv : v ≠ 0) : ∃ c, IsCon (20, z) v c := con_of (F26k21.any 10 (Nat.le_refl _) z v hv) (by omega) (by omega) fun r h1 => callW_ok (own := false) (k := 10) (eo (calls_cons ok52 (calls_cons ok53 (calls_cons ok54 (calls_cons ok55 calls_nil))))) mixed Go.Proofs.Tryz.func26 (by kernel_rfl) (show Go.Proofs.Tryz.f26.body = some (bodyOf Go.Proofs.Tryz.f26) by kernel_rfl) h1
theorem con_k22 (z : ZRest) (v : Int) (hv : v ≠ 0) : ∃ c, IsCon (21, z) v c := con_of (F26k22.any 1 z v hv) (by omega) (by omega) fun r h1 => callW_ok (own := false) (k := 1) (eo (calls_cons ok52 (calls_cons ok53 (calls_cons ok54 calls_nil)))) mixed Go.Proofs.Tryz.func26 (by kernel_rfl) (show Go.Proofs.Tryz.f26.body = some (bodyOf Go.Proofs.Tryz.f26) by kernel_rfl) h1
theorem con_k23 (z : ZRest) (v : Int) (hv : v ≠ 0) : ∃ c, IsCon (22, z) v c := con_of (F26k23.any 1 z v hv) (by omega) (by omega) fun r h1 => callW_ok (own := false) (k := 1) (eo (calls_cons ok52 (calls_cons ok53 (calls_cons ok54 calls_nil)))) mixed Go.Proofs.Tryz.func26 (by kernel_rfl) (show Go.Proofs.Tryz.f26.body = some (bodyOf Go.Proofs.Tryz.f26) by kernel_rfl) h1
theorem con_any (z : Small) (v : Int) (h0 : 0 ≤ z.1) (h1 : z.1 ≤ 22) (hv : v ≠ 0) : ∃ c, IsCon z v c := by
  obtain ⟨m, z⟩ := z
  have hm : @Eq Int m 0 ∨ @Eq Int m 1 ∨ @Eq Int m 2 ∨ @Eq Int m 3 ∨ @Eq Int m 4 ∨ @Eq Int m 5 ∨ @Eq Int m 6 ∨ @Eq Int m 7 ∨ @Eq Int m 8 ∨ @Eq Int m 9 ∨ @Eq Int m 10 ∨ @Eq Int m 11 ∨ @Eq Int m 12 ∨ @Eq Int m 13 ∨ @Eq Int m 14 ∨ @Eq Int m 15 ∨ @Eq Int m 16 ∨ @Eq Int m 17 ∨ @Eq Int m 18 ∨ @Eq Int m 19 ∨ @Eq Int m 20 ∨ @Eq Int m 21 ∨ @Eq Int m 22 := by
    have a : (0 : Int) ≤ m := h0
    have b : m ≤ (22 : Int) := h1
    omega
  rcases hm with rfl | rfl | rfl | rfl | rfl | rfl | rfl | rfl | rfl | rfl | rfl | rfl | rfl | rfl | rfl | rfl | rfl | rfl | rfl | rfl | rfl | rfl | rfl
  · exact con_k1 z v hv
  · exact con_k2 z v hv
  · exact con_k3 z v hv
  · exact con_k4 z v hv
  · exact con_k5 z v hv
  · exact con_k6 z v hv
  · exact con_k7 z v hv
  · exact con_k8 z v hv
  · exact con_k9 z v hv
  · exact con_k10 z v hv
  · exact con_k11 z v hv
  · exact con_k12 z v hv
  · exact con_k13 z v hv
  · exact con_k14 z v hv
  · exact con_k15 z v hv
  · exact con_k16 z v hv
  · exact con_k17 z v hv
  · exact con_k18 z v hv
  · exact con_k19 z v hv
  · exact con_k20 z v hv
  · exact con_k21 z v hv
  · exact con_k22 z v hv
  · exact con_k23 z v hv
def conAB (z : Small) (v : Int) : Bool := decide (0 ≤ z.1) && decide (z.1 ≤ 22) && decide (v ≠ 0)
theorem conA_ex (z : Small) (v : Int) : ∃ c, conAB z v = true → IsCon z v c := by
  by_cases h : conAB z v = true
  · have h' := h
    unfold conAB at h'
    simp only [Bool.and_eq_true, decide_eq_true_eq] at h'
    obtain ⟨c, hc⟩ := con_any z v h'.1.1 h'.1.2 h'.2
    exact ⟨c, fun _ => hc⟩
  · exact ⟨(0, [], [], [], [], [], 0, []), fun h' => absurd h' h⟩
noncomputable def conA (z : Small) (v : Int) : Con := Classical.choose (conA_ex z v)
theorem conA_spec {z : Small} {v : Int} (h : conAB z v = true) : IsCon z v (conA z v) := Classical.choose_spec (conA_ex z v) h
noncomputable def makeAC (z : Case) (k : Int) : Con := conA (k - 1, z.1.2) 5
def makeAB (_ : Case) (k w : Int) : Bool := decide (1 ≤ k) && decide (k ≤ 23) && decide (1 ≤ w) && decide (w ≤ 1000)
noncomputable def makeAL (z : Case) (k w : Int) : List (List Int) := (List.range ((makeAC z k).2.1.length + (makeAC z k).2.2.1.length)).map fun i => smallL (pickL z.2 i) 6 w
noncomputable def h_conA : Hand := handN [SmallT, .int .i64] fun xs κ => bif conAB xs.1 xs.2.1 then κ (argA ConT (conA xs.1 xs.2.1)) else none
noncomputable def h_makeA : Hand := handN [CaseT, .int .i64, .int .i64] fun xs κ => bif makeAB xs.1 xs.2.1 xs.2.2.1 then κ (.tup [.agg (explode ConT (makeAC xs.1 xs.2.1)), .nw 30 LI (makeAL xs.1 xs.2.1 xs.2.2.1)]) else none
theorem ok26A : HandOk Go.Proofs.Tryz.prog inv 26 h_conA := hand_if fun xs hc => (conA_spec hc).1
end Go.Proofs.YthdpbmcidebagaaGreatDoor.Ev
