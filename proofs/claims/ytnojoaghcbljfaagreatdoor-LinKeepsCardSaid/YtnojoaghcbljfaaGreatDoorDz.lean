/-
The functions as the evaluator runs them: printed by a program of mine, each equation by kernel_rfl.
Conditions: none.
Does a constraint hold: what the functions answer.
The constraint's places are among the values.
Conditions: none.
-/
import Derived.Test.YtnojoaghcbljfaaGreatDoorAa
import Derived.Test.YtnojoaghcbljfaaGreatDoorAt
set_option linter.unusedVariables false
set_option linter.unusedSimpArgs false
set_option maxRecDepth 100000
namespace Go.Proofs.YtnojoaghcbljfaaGreatDoor.Ev
open Go
noncomputable def F84.fn : Func := Go.Proofs.Tryz.f104
noncomputable def F84.body : Code := bodyOf F84.fn
noncomputable def F84.E : Env := ⟨tt, [], [(1, [1, 2]), (2, [1, 2, 5]), (3, [1, 2, 5, 6]), (4, [1, 2, 5, 6]), (5, [1, 2, 5, 6]), (6, [5])], [(0, [5]), (1, [1, 2, 5, 6])], some [4], inv⟩
noncomputable def F84.K0 : Conts := { nrm := endW F84.E false F84.fn.results.toList, ret := endW F84.E false F84.fn.results.toList, ex := [] }
noncomputable def F84.kt (k : Nat) (q : List Nat) : Conts := contAt F84.E k F84.body F84.K0 q
noncomputable def F84.l1_1_0_1_0 (n : Nat) (K : Conts) (p0 : List Int) (p1 p2 p3 : Int) (p4 p5 p6 p7 p8 : List Int) (p9 : Int) (p10 : List (List Int)) : Option AV := loopF F84.E n (inLoop (subC [1,1,0,1,0] F84.body)) K ⟨slots 31 [(1, .v (.sl (.int .i64)) p0), (2, .pb 0 0), (5, .v (.int .i64) p1), (6, .v (.int .i64) p2)], [.box (bC p3 p4 p5 p6 p7 p8 p9 p10)]⟩
theorem F84.start_eq (k : Nat) (a0 : Con) (a1 : List Int) : callW F84.E false F84.fn k [.agg (bC a0.1 a0.2.1 a0.2.2.1 a0.2.2.2.1 a0.2.2.2.2.1 a0.2.2.2.2.2.1 a0.2.2.2.2.2.2.1 a0.2.2.2.2.2.2.2), .v (.sl (.int .i64)) a1] =
 F84.l1_1_0_1_0 k (F84.kt k [1,1,0,1,0]) a1 0 0 a0.1 a0.2.1 a0.2.2.1 a0.2.2.2.1 a0.2.2.2.2.1 a0.2.2.2.2.2.1 a0.2.2.2.2.2.2.1 a0.2.2.2.2.2.2.2 := by kernel_rfl
theorem F84.l1_1_0_1_0_eq (n : Nat) (K : Conts) (p0 : List Int) (p1 p2 p3 : Int) (p4 p5 p6 p7 p8 : List Int) (p9 : Int) (p10 : List (List Int)) : F84.l1_1_0_1_0 (n + 1) K p0 p1 p2 p3 p4 p5 p6 p7 p8 p9 p10 =
 bif decide (p2 < (p4.length : Int)) then
 bif decide (0 ≤ p2) && decide (p2 < p6.length) then
 bif decide (0 ≤ p2) && decide (p2 < p4.length) then
 bif decide (0 ≤ (p4.getD p2.toNat (0 : Int))) && decide ((p4.getD p2.toNat (0 : Int)) < p0.length) then
 F84.l1_1_0_1_0 n K p0 (IntKind.i64.wrap (p1 + (IntKind.i64.wrap ((p6.getD p2.toNat (0 : Int)) * (p0.getD ((p4.getD p2.toNat (0 : Int)).toNat) (0 : Int)))))) (IntKind.i64.wrap (p2 + 1)) p3 p4 p5 p6 p7 p8 p9 p10
 else
 none
 else
 none
 else
 none
 else
 exitK K 0 ⟨slots 31 [(5, .v (.int .i64) p1)], []⟩ := by kernel_rfl
theorem F84.c0 (k : Nat) (p0 : Int) : exitK (F84.kt k [1,1,0,1,0]) 0 ⟨slots 31 [(5, .v (.int .i64) p0)], []⟩ =
 some (.v (.int .i64) p0) := by kernel_rfl
noncomputable def F56k1.fn : Func := Go.Proofs.Tryz.f69
noncomputable def F56k1.E : Env := ⟨tt, [(104, h_sumC)], [(1, [1, 2]), (2, [1, 2, 5]), (3, [1, 2, 5, 12]), (4, [1, 2, 5]), (5, [1, 2, 5, 19]), (6, [1, 2, 5]), (7, [1, 2, 5, 26]), (8, [1, 2, 5]), (9, [2, 5, 6])], [], some [4], inv⟩
theorem F56k1.start_eq (k : Nat) (c : (List Int) × ((List Int) × ((List Int) × ((List Int) × ((List Int) × (Int × (List (List Int)))))))) (a1 : List Int) : callW F56k1.E false F56k1.fn k [.agg (bC (1 : Int) c.1 c.2.1 c.2.2.1 c.2.2.2.1 c.2.2.2.2.1 c.2.2.2.2.2.1 c.2.2.2.2.2.2), .v (.sl (.int .i64)) a1] =
 bif sumB (1, c) a1 then some (.v .bool (decide ((sumC (1, c) a1) = c.2.2.2.2.2.1))) else none := by kernel_rfl
noncomputable def F56k2.fn : Func := Go.Proofs.Tryz.f69
noncomputable def F56k2.E : Env := ⟨tt, [(104, h_sumC)], [(1, [1, 2]), (2, [1, 2, 5]), (3, [1, 2, 5, 12]), (4, [1, 2, 5]), (5, [1, 2, 5, 19]), (6, [1, 2, 5]), (7, [1, 2, 5, 26]), (8, [1, 2, 5]), (9, [2, 5, 6])], [], some [4], inv⟩
theorem F56k2.start_eq (k : Nat) (c : (List Int) × ((List Int) × ((List Int) × ((List Int) × ((List Int) × (Int × (List (List Int)))))))) (a1 : List Int) : callW F56k2.E false F56k2.fn k [.agg (bC (2 : Int) c.1 c.2.1 c.2.2.1 c.2.2.2.1 c.2.2.2.2.1 c.2.2.2.2.2.1 c.2.2.2.2.2.2), .v (.sl (.int .i64)) a1] =
 bif sumB (2, c) a1 then some (.v .bool (decide ((sumC (2, c) a1) ≤ c.2.2.2.2.2.1))) else none := by kernel_rfl
noncomputable def F56k3.fn : Func := Go.Proofs.Tryz.f69
noncomputable def F56k3.E : Env := ⟨tt, [(104, h_sumC)], [(1, [1, 2]), (2, [1, 2, 5]), (3, [1, 2, 5, 12]), (4, [1, 2, 5]), (5, [1, 2, 5, 19]), (6, [1, 2, 5]), (7, [1, 2, 5, 26]), (8, [1, 2, 5]), (9, [2, 5, 6])], [], some [4], inv⟩
theorem F56k3.start_eq (k : Nat) (c : (List Int) × ((List Int) × ((List Int) × ((List Int) × ((List Int) × (Int × (List (List Int)))))))) (a1 : List Int) : callW F56k3.E false F56k3.fn k [.agg (bC (3 : Int) c.1 c.2.1 c.2.2.1 c.2.2.2.1 c.2.2.2.2.1 c.2.2.2.2.2.1 c.2.2.2.2.2.2), .v (.sl (.int .i64)) a1] =
 bif sumB (3, c) a1 then some (.v .bool (!(decide ((sumC (3, c) a1) = c.2.2.2.2.2.1)))) else none := by kernel_rfl
noncomputable def F56k4.fn : Func := Go.Proofs.Tryz.f69
noncomputable def F56k4.E : Env := ⟨tt, [(104, h_sumC)], [(1, [1, 2]), (2, [1, 2, 5]), (3, [1, 2, 5, 12]), (4, [1, 2, 5]), (5, [1, 2, 5, 19]), (6, [1, 2, 5]), (7, [1, 2, 5, 26]), (8, [1, 2, 5]), (9, [2, 5, 6])], [], some [4], inv⟩
theorem F56k4.start_eq (k : Nat) (c : (List Int) × ((List Int) × ((List Int) × ((List Int) × ((List Int) × (Int × (List (List Int)))))))) (a1 : List Int) : callW F56k4.E false F56k4.fn k [.agg (bC (4 : Int) c.1 c.2.1 c.2.2.1 c.2.2.2.1 c.2.2.2.2.1 c.2.2.2.2.2.1 c.2.2.2.2.2.2), .v (.sl (.int .i64)) a1] =
 bif sumB (4, c) a1 then
 bif decide ((0 : Int) < c.2.1.length) then
 bif decide (0 ≤ (c.2.1.getD 0 (0 : Int))) && decide ((c.2.1.getD 0 (0 : Int)) < a1.length) then
 bif decide ((a1.getD ((c.2.1.getD 0 (0 : Int)).toNat) (0 : Int)) = 1) then
 bif decide ((sumC (4, c) a1) ≤ c.2.2.2.2.2.1) then
 some (.v .bool true)
 else
 bif decide ((a1.getD ((c.2.1.getD 0 (0 : Int)).toNat) (0 : Int)) = 0) then some (.v .bool (decide ((sumC (4, c) a1) > c.2.2.2.2.2.1))) else some (.v .bool false)
 else
 bif decide ((a1.getD ((c.2.1.getD 0 (0 : Int)).toNat) (0 : Int)) = 0) then some (.v .bool (decide ((sumC (4, c) a1) > c.2.2.2.2.2.1))) else some (.v .bool false)
 else
 none
 else
 none
 else
 none := by kernel_rfl
noncomputable def F28k1.fn : Func := Go.Proofs.Tryz.f36
noncomputable def F28k1.E : Env := ⟨tt, [(69, h_linC)], [(1, [1, 2]), (2, [1, 2, 9]), (3, [1, 2]), (4, [1, 2, 15]), (5, [1, 2]), (6, [1, 2, 21]), (7, [1, 2]), (8, [1, 2, 26]), (9, [1, 2, 26, 27]), (10, [1, 2, 5]), (11, [1, 2, 5]), (12, [1, 2, 5]), (13, [1, 2, 5, 6]), (14, [1, 2, 5, 6]), (15, [1, 2, 5, 6]), (16, [1, 2, 5, 6, 57]), (17, []), (19, [1, 2, 26, 58]), (21, [1, 2, 26, 63]), (23, [1, 2, 26, 68]), (25, [1, 2, 73]), (26, [1, 2])], [(0, [1, 2]), (1, []), (2, [1, 2, 5]), (3, [1, 2, 5]), (4, [1, 2, 5, 6])], some [4], inv⟩
theorem F28k1.start_eq (k : Nat) (c : (List Int) × ((List Int) × ((List Int) × ((List Int) × ((List Int) × (Int × (List (List Int)))))))) (a1 : List Int) : callW F28k1.E false F28k1.fn k [.agg (bC (1 : Int) c.1 c.2.1 c.2.2.1 c.2.2.2.1 c.2.2.2.2.1 c.2.2.2.2.2.1 c.2.2.2.2.2.2), .v (.sl (.int .i64)) a1] =
 bif linB (1, c) a1 then some (.v .bool (linC (1, c) a1)) else none := by kernel_rfl
noncomputable def F28k2.fn : Func := Go.Proofs.Tryz.f36
noncomputable def F28k2.E : Env := ⟨tt, [(69, h_linC)], [(1, [1, 2]), (2, [1, 2, 9]), (3, [1, 2]), (4, [1, 2, 15]), (5, [1, 2]), (6, [1, 2, 21]), (7, [1, 2]), (8, [1, 2, 26]), (9, [1, 2, 26, 27]), (10, [1, 2, 5]), (11, [1, 2, 5]), (12, [1, 2, 5]), (13, [1, 2, 5, 6]), (14, [1, 2, 5, 6]), (15, [1, 2, 5, 6]), (16, [1, 2, 5, 6, 57]), (17, []), (19, [1, 2, 26, 58]), (21, [1, 2, 26, 63]), (23, [1, 2, 26, 68]), (25, [1, 2, 73]), (26, [1, 2])], [(0, [1, 2]), (1, []), (2, [1, 2, 5]), (3, [1, 2, 5]), (4, [1, 2, 5, 6])], some [4], inv⟩
theorem F28k2.start_eq (k : Nat) (c : (List Int) × ((List Int) × ((List Int) × ((List Int) × ((List Int) × (Int × (List (List Int)))))))) (a1 : List Int) : callW F28k2.E false F28k2.fn k [.agg (bC (2 : Int) c.1 c.2.1 c.2.2.1 c.2.2.2.1 c.2.2.2.2.1 c.2.2.2.2.2.1 c.2.2.2.2.2.2), .v (.sl (.int .i64)) a1] =
 bif linB (2, c) a1 then some (.v .bool (linC (2, c) a1)) else none := by kernel_rfl
noncomputable def F28k3.fn : Func := Go.Proofs.Tryz.f36
noncomputable def F28k3.E : Env := ⟨tt, [(69, h_linC)], [(1, [1, 2]), (2, [1, 2, 9]), (3, [1, 2]), (4, [1, 2, 15]), (5, [1, 2]), (6, [1, 2, 21]), (7, [1, 2]), (8, [1, 2, 26]), (9, [1, 2, 26, 27]), (10, [1, 2, 5]), (11, [1, 2, 5]), (12, [1, 2, 5]), (13, [1, 2, 5, 6]), (14, [1, 2, 5, 6]), (15, [1, 2, 5, 6]), (16, [1, 2, 5, 6, 57]), (17, []), (19, [1, 2, 26, 58]), (21, [1, 2, 26, 63]), (23, [1, 2, 26, 68]), (25, [1, 2, 73]), (26, [1, 2])], [(0, [1, 2]), (1, []), (2, [1, 2, 5]), (3, [1, 2, 5]), (4, [1, 2, 5, 6])], some [4], inv⟩
theorem F28k3.start_eq (k : Nat) (c : (List Int) × ((List Int) × ((List Int) × ((List Int) × ((List Int) × (Int × (List (List Int)))))))) (a1 : List Int) : callW F28k3.E false F28k3.fn k [.agg (bC (3 : Int) c.1 c.2.1 c.2.2.1 c.2.2.2.1 c.2.2.2.2.1 c.2.2.2.2.2.1 c.2.2.2.2.2.2), .v (.sl (.int .i64)) a1] =
 bif linB (3, c) a1 then some (.v .bool (linC (3, c) a1)) else none := by kernel_rfl
noncomputable def F28k4.fn : Func := Go.Proofs.Tryz.f36
noncomputable def F28k4.E : Env := ⟨tt, [(69, h_linC)], [(1, [1, 2]), (2, [1, 2, 9]), (3, [1, 2]), (4, [1, 2, 15]), (5, [1, 2]), (6, [1, 2, 21]), (7, [1, 2]), (8, [1, 2, 26]), (9, [1, 2, 26, 27]), (10, [1, 2, 5]), (11, [1, 2, 5]), (12, [1, 2, 5]), (13, [1, 2, 5, 6]), (14, [1, 2, 5, 6]), (15, [1, 2, 5, 6]), (16, [1, 2, 5, 6, 57]), (17, []), (19, [1, 2, 26, 58]), (21, [1, 2, 26, 63]), (23, [1, 2, 26, 68]), (25, [1, 2, 73]), (26, [1, 2])], [(0, [1, 2]), (1, []), (2, [1, 2, 5]), (3, [1, 2, 5]), (4, [1, 2, 5, 6])], some [4], inv⟩
theorem F28k4.start_eq (k : Nat) (c : (List Int) × ((List Int) × ((List Int) × ((List Int) × ((List Int) × (Int × (List (List Int)))))))) (a1 : List Int) : callW F28k4.E false F28k4.fn k [.agg (bC (4 : Int) c.1 c.2.1 c.2.2.1 c.2.2.2.1 c.2.2.2.2.1 c.2.2.2.2.2.1 c.2.2.2.2.2.2), .v (.sl (.int .i64)) a1] =
 bif linB (4, c) a1 then some (.v .bool (linC (4, c) a1)) else none := by kernel_rfl
end Go.Proofs.YtnojoaghcbljfaaGreatDoor.Ev
set_option linter.unusedVariables false
set_option linter.unusedSimpArgs false
set_option maxRecDepth 100000
namespace Go.Proofs.YtnojoaghcbljfaaGreatDoor.Ev
open Go
theorem bT' {α : Type} {b : Bool} {x y : α} (h : b = true) : (bif b then x else y) = x := by rw [h]; rfl
theorem bF' {α : Type} {b : Bool} {x y : α} (h : b = false) : (bif b then x else y) = y := by rw [h]; rfl
theorem self_lt' {α : Type} {a : Int} {x y : α} : (bif decide (a < a) then x else y) = y := bF' (decide_eq_false (by omega))
abbrev Rest18 := List Int × List Int × List Int × List Int × List Int × Int × List (List Int)
theorem drop_getD {α : Type} {l : List α} {i : Nat} (h : i < l.length) (d : α) : l.drop i = l.getD i d :: l.drop (i + 1) := by
 rw [List.drop_eq_getElem_cons h, List.getD_eq_getElem?_getD, List.getElem?_eq_getElem h]
 rfl
theorem mill_iff {v : Int} : millB v = true ↔ -1000000 ≤ v ∧ v ≤ 1000000 := by unfold millB; simp
theorem mul_mill {x y : Int} (hx : -1000000 ≤ x ∧ x ≤ 1000000) (hy : -1000000 ≤ y ∧ y ≤ 1000000) : -1000000000000 ≤ x * y ∧ x * y ≤ 1000000000000 := by
 have h1 : x.natAbs ≤ 1000000 := by omega
 have h2 : y.natAbs ≤ 1000000 := by omega
 have h3 : (x * y).natAbs ≤ 1000000 * 1000000 := by rw [Int.natAbs_mul]; exact Nat.mul_le_mul h1 h2
 omega
theorem F84.sem (c : Con) (a : List Int) (h : sumB c a = true) : callW F84.E false F84.fn 1002 [.agg (explode ConT c), .v (.sl (.int .i64)) a] = some (.v (.int .i64) (sumC c a)) := by
 unfold sumB at h
 simp only [Bool.and_eq_true, List.all_eq_true, decide_eq_true_eq, Nat.ble_eq] at h
 obtain ⟨⟨⟨⟨hA, hl⟩, hin⟩, hC⟩, ha⟩ := h
 refine (F84.start_eq 1002 c a).trans ?_
 unfold sumC
 obtain ⟨k, A, B, C, D, E, M, R⟩ := c
 simp only at hA hl hin hC ⊢
 have key : ∀ (d i n : Nat) (acc : Int), i + d = A.length → d < n → -1000000000000 * (i : Int) ≤ acc → acc ≤ 1000000000000 * (i : Int) →
   F84.l1_1_0_1_0 n (F84.kt 1002 [1, 1, 0, 1, 0]) a acc (i : Int) k A B C D E M R = some (.v (.int .i64) (acc + sumGo a (A.drop i) (C.drop i))) := by
  intro d
  induction d with
  | zero =>
   intro i n acc h1 h2 _ _
   obtain ⟨n', rfl⟩ : ∃ n', n = n' + 1 := ⟨n - 1, by omega⟩
   obtain rfl : i = A.length := by omega
   rw [List.drop_length]
   refine (F84.l1_1_0_1_0_eq n' _ a acc _ k A B C D E M R).trans (self_lt'.trans ((F84.c0 1002 acc).trans ?_))
   have : acc + sumGo a [] (C.drop A.length) = acc := by unfold sumGo; omega
   rw [this]
  | succ d ih =>
   intro i n acc h1 h2 l1 l2
   obtain ⟨n', rfl⟩ : ∃ n', n = n' + 1 := ⟨n - 1, by omega⟩
   have hi : i < A.length := by omega
   have hic : i < C.length := by omega
   have hm : A.getD i 0 ∈ A := by
    rw [List.getD_eq_getElem?_getD, List.getElem?_eq_getElem hi]
    exact List.getElem_mem hi
   have hk : C.getD i 0 ∈ C := by
    rw [List.getD_eq_getElem?_getD, List.getElem?_eq_getElem hic]
    exact List.getElem_mem hic
   have hb := hin _ hm
   unfold inB at hb
   have hb2 := hb
   simp only [Bool.and_eq_true, decide_eq_true_eq] at hb2
   have hv : a.getD (A.getD i 0).toNat 0 ∈ a := by
    have : (A.getD i 0).toNat < a.length := by omega
    rw [List.getD_eq_getElem?_getD (l := a), List.getElem?_eq_getElem this]
    exact List.getElem_mem this
   have p := mul_mill (mill_iff.mp (hC _ hk)) (mill_iff.mp (ha _ hv))
   have w : IntKind.i64.wrap ((i : Int) + 1) = ((i + 1 : Nat) : Int) := by rw [wrap_ok (by omega) (by omega)]; omega
   rw [drop_getD hi 0, drop_getD hic 0]
   unfold sumGo
   refine (F84.l1_1_0_1_0_eq n' _ a acc _ k A B C D E M R).trans ?_
   rw [Int.toNat_natCast]
   refine (bT' (decide_eq_true (show (i : Int) < (A.length : Int) by omega))).trans ((bT' ?_).trans ((bT' ?_).trans ((bT' hb).trans ?_)))
   ·rw [decide_eq_true (show (0 : Int) ≤ (i : Int) by omega), decide_eq_true (show (i : Int) < (C.length : Int) by omega)]; rfl
   ·rw [decide_eq_true (show (0 : Int) ≤ (i : Int) by omega), decide_eq_true (show (i : Int) < (A.length : Int) by omega)]; rfl
   ·rw [wrap_ok (x := C.getD i 0 * a.getD (A.getD i 0).toNat 0) (by omega) (by omega), wrap_ok (by omega) (by omega), w]
    refine (ih (i + 1) n' _ (by omega) (by omega) (by omega) (by omega)).trans ?_
    rw [Int.add_assoc]
 have := key A.length 0 1002 0 (by omega) (by omega) (by omega) (by omega)
 rw [Int.zero_add] at this
 exact this
theorem F56k1.sem (k : Nat) (c : Rest18) (a : List Int) (h : linB (1, c) a = true) : callW F56k1.E false F56k1.fn k [.agg (explode ConT ((1 : Int), c)), .v (.sl (.int .i64)) a] = some (.v .bool (linC (1, c) a)) := by
 unfold linB at h
 rw [Bool.and_eq_true, Bool.and_eq_true] at h
 exact (F56k1.start_eq k c a).trans (bT' h.1.2)
theorem F56k2.sem (k : Nat) (c : Rest18) (a : List Int) (h : linB (2, c) a = true) : callW F56k2.E false F56k2.fn k [.agg (explode ConT ((2 : Int), c)), .v (.sl (.int .i64)) a] = some (.v .bool (linC (2, c) a)) := by
 unfold linB at h
 rw [Bool.and_eq_true, Bool.and_eq_true] at h
 exact (F56k2.start_eq k c a).trans (bT' h.1.2)
theorem F56k3.sem (k : Nat) (c : Rest18) (a : List Int) (h : linB (3, c) a = true) : callW F56k3.E false F56k3.fn k [.agg (explode ConT ((3 : Int), c)), .v (.sl (.int .i64)) a] = some (.v .bool (linC (3, c) a)) := by
 unfold linB at h
 rw [Bool.and_eq_true, Bool.and_eq_true] at h
 exact (F56k3.start_eq k c a).trans (bT' h.1.2)
theorem F56k4.sem (k : Nat) (c : Rest18) (a : List Int) (h : linB (4, c) a = true) : callW F56k4.E false F56k4.fn k [.agg (explode ConT ((4 : Int), c)), .v (.sl (.int .i64)) a] = some (.v .bool (linC (4, c) a)) := by
 unfold linB at h
 rw [Bool.and_eq_true, Bool.and_eq_true] at h
 have h2 := h.2
 have h2 : (decide (0 < c.2.1.length) && inB a (c.2.1.getD 0 0)) = true := h2
 rw [Bool.and_eq_true, decide_eq_true_eq] at h2
 refine (F56k4.start_eq k c a).trans ((bT' h.1.2).trans ((bT' (decide_eq_true (show (0 : Int) < (c.2.1.length : Int) by omega))).trans ((bT' h2.2).trans ?_)))
 have e : linC (4, c) a = ((decide (a.getD (c.2.1.getD 0 0).toNat 0 = 1) && decide (sumC (4, c) a ≤ c.2.2.2.2.2.1)) || (decide (a.getD (c.2.1.getD 0 0).toNat 0 = 0) && decide (sumC (4, c) a > c.2.2.2.2.2.1))) := rfl
 rw [e]
 generalize a.getD (c.2.1.getD 0 0).toNat 0 = x
 generalize decide (sumC (4, c) a ≤ c.2.2.2.2.2.1) = p
 generalize decide (sumC (4, c) a > c.2.2.2.2.2.1) = q
 generalize decide (x = 1) = u
 generalize decide (x = 0) = t
 cases u <;> cases t <;> cases p <;> cases q <;> rfl
theorem F28k1.sem (k : Nat) (c : Rest18) (a : List Int) (h : holdsB (1, c) a = true) : callW F28k1.E false F28k1.fn k [.agg (explode ConT ((1 : Int), c)), .v (.sl (.int .i64)) a] = some (.v .bool (holdsC (1, c) a)) := by
 refine (F28k1.start_eq k c a).trans ?_
 have e : linB (1, c) a = true := by
  unfold holdsB at h
  have h1 : rowB (1, c) a = false := by simp [rowB]
  have h2 : pairB (1, c) a = false := by simp [pairB]
  rw [h1, h2] at h
  simpa using h
 rw [e]
 rfl
theorem F28k2.sem (k : Nat) (c : Rest18) (a : List Int) (h : holdsB (2, c) a = true) : callW F28k2.E false F28k2.fn k [.agg (explode ConT ((2 : Int), c)), .v (.sl (.int .i64)) a] = some (.v .bool (holdsC (2, c) a)) := by
 refine (F28k2.start_eq k c a).trans ?_
 have e : linB (2, c) a = true := by
  unfold holdsB at h
  have h1 : rowB (2, c) a = false := by simp [rowB]
  have h2 : pairB (2, c) a = false := by simp [pairB]
  rw [h1, h2] at h
  simpa using h
 rw [e]
 rfl
theorem F28k3.sem (k : Nat) (c : Rest18) (a : List Int) (h : holdsB (3, c) a = true) : callW F28k3.E false F28k3.fn k [.agg (explode ConT ((3 : Int), c)), .v (.sl (.int .i64)) a] = some (.v .bool (holdsC (3, c) a)) := by
 refine (F28k3.start_eq k c a).trans ?_
 have e : linB (3, c) a = true := by
  unfold holdsB at h
  have h1 : rowB (3, c) a = false := by simp [rowB]
  have h2 : pairB (3, c) a = false := by simp [pairB]
  rw [h1, h2] at h
  simpa using h
 rw [e]
 rfl
theorem F28k4.sem (k : Nat) (c : Rest18) (a : List Int) (h : holdsB (4, c) a = true) : callW F28k4.E false F28k4.fn k [.agg (explode ConT ((4 : Int), c)), .v (.sl (.int .i64)) a] = some (.v .bool (holdsC (4, c) a)) := by
 refine (F28k4.start_eq k c a).trans ?_
 have e : linB (4, c) a = true := by
  unfold holdsB at h
  have h1 : rowB (4, c) a = false := by simp [rowB]
  have h2 : pairB (4, c) a = false := by simp [pairB]
  rw [h1, h2] at h
  simpa using h
 rw [e]
 rfl
end Go.Proofs.YtnojoaghcbljfaaGreatDoor.Ev
