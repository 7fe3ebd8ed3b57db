/-
jigsawref09.row, and Holds of a table: as the evaluator runs them: printed by a program of mine, each equation by kernel_rfl.
Conditions: none.
jigsawref09.row, and Holds of a table: what they answer.
Conditions: the constraint's places are among the values.
-/
import Derived.Test.YthdpbmcidebagaaGreatDoorAa
import Derived.Test.YthdpbmcidebagaaGreatDoorAs
set_option linter.unusedVariables false
set_option linter.unusedSimpArgs false
set_option maxRecDepth 100000
namespace Go.Proofs.YthdpbmcidebagaaGreatDoor.Ev
open Go
/-! ### 59: jigsaw/jigsawref09.row -/
noncomputable def F59.fn : Func := Go.Proofs.Tryz.f59
noncomputable def F59.body : Code := bodyOf F59.fn
noncomputable def F59.E : Env := ⟨tt, [], [(1, [1, 2]), (2, [1, 2, 5]), (3, [1, 2, 5]), (4, [1, 2, 5]), (5, [1, 2, 5, 6]), (6, [1, 2, 5, 6, 7]), (7, [1, 2, 5, 6, 7]), (8, [1, 2, 5, 6, 7]), (9, [1, 2, 5, 6]), (10, [1, 2, 5, 42]), (11, [])], [(0, []), (1, [1, 2, 5]), (2, [1, 2, 5, 6]), (3, [1, 2, 5, 6, 7])], some [4], inv⟩
noncomputable def F59.K0 : Conts := { nrm := endW F59.E false F59.fn.results.toList, ret := endW F59.E false F59.fn.results.toList, ex := [] }
noncomputable def F59.kt (k : Nat) (q : List Nat) : Conts := contAt F59.E k F59.body F59.K0 q
noncomputable def F59.l1_0_1_0 (n : Nat) (K : Conts) (p0 : (List Int)) (p1 : Int) (p2 : Int) (p3 : (List Int)) (p4 : (List Int)) (p5 : (List Int)) (p6 : (List Int)) (p7 : (List Int)) (p8 : Int) (p9 : (List (List Int))) : Option AV := loopF F59.E n (inLoop (subC [1, 0, 1, 0] F59.body)) K ⟨slots 43 [(1, .v (.sl (.int .i64)) p0), (2, .pb 0 0), (5, .v (.int .i64) p1)], [.box [.v (.int .i64) p2, .v (.sl (.int .i64)) p3, .v (.sl (.int .i64)) p4, .v (.sl (.int .i64)) p5, .v (.sl (.int .i64)) p6, .v (.sl (.int .i64)) p7, .v (.int .i64) p8, .v (.sl (.sl (.int .i64))) p9]]⟩
noncomputable def F59.k_l1_0_1_0 (n : Nat) (K : Conts) (q : List Nat) : Conts := contAt F59.E n (inLoop (subC [1, 0, 1, 0] F59.body)) (loopK F59.E n (inLoop (subC [1, 0, 1, 0] F59.body)) K) q
noncomputable def F59.l1_0_1_0_0_1_0_0_1_0_1_0 (n : Nat) (K : Conts) (p0 : (List Int)) (p1 : Int) (p2 : Bool) (p3 : Int) (p4 : Int) (p5 : (List Int)) (p6 : (List Int)) (p7 : (List Int)) (p8 : (List Int)) (p9 : (List Int)) (p10 : Int) (p11 : (List (List Int))) : Option AV := loopF F59.E n (inLoop (subC [1, 0, 1, 0, 0, 1, 0, 0, 1, 0, 1, 0] F59.body)) K ⟨slots 43 [(1, .v (.sl (.int .i64)) p0), (2, .pb 0 0), (5, .v (.int .i64) p1), (6, .v .bool p2), (7, .v (.int .i64) p3)], [.box [.v (.int .i64) p4, .v (.sl (.int .i64)) p5, .v (.sl (.int .i64)) p6, .v (.sl (.int .i64)) p7, .v (.sl (.int .i64)) p8, .v (.sl (.int .i64)) p9, .v (.int .i64) p10, .v (.sl (.sl (.int .i64))) p11]]⟩
theorem F59.start_eq (k : Nat) (a0 : (Int × ((List Int) × ((List Int) × ((List Int) × ((List Int) × ((List Int) × (Int × (List (List Int)))))))))) (a1 : (List Int)) : callW F59.E false F59.fn k [.agg [.v (.int .i64) a0.1, .v (.sl (.int .i64)) a0.2.1, .v (.sl (.int .i64)) a0.2.2.1, .v (.sl (.int .i64)) a0.2.2.2.1, .v (.sl (.int .i64)) a0.2.2.2.2.1, .v (.sl (.int .i64)) a0.2.2.2.2.2.1, .v (.int .i64) a0.2.2.2.2.2.2.1, .v (.sl (.sl (.int .i64))) a0.2.2.2.2.2.2.2], .v (.sl (.int .i64)) a1] =
    F59.l1_0_1_0 k (F59.kt k [1, 0, 1, 0]) a1 0 a0.1 a0.2.1 a0.2.2.1 a0.2.2.2.1 a0.2.2.2.2.1 a0.2.2.2.2.2.1 a0.2.2.2.2.2.2.1 a0.2.2.2.2.2.2.2 := by kernel_rfl
theorem F59.l1_0_1_0_eq (n : Nat) (K : Conts) (p0 : (List Int)) (p1 : Int) (p2 : Int) (p3 : (List Int)) (p4 : (List Int)) (p5 : (List Int)) (p6 : (List Int)) (p7 : (List Int)) (p8 : Int) (p9 : (List (List Int))) : F59.l1_0_1_0 (n + 1) K p0 p1 p2 p3 p4 p5 p6 p7 p8 p9 =
    bif decide (p1 < (p9.length : Int)) then
      F59.l1_0_1_0_0_1_0_0_1_0_1_0 n (F59.k_l1_0_1_0 n K [1, 0, 0, 1, 0, 1, 0]) p0 p1 true 0 p2 p3 p4 p5 p6 p7 p8 p9
    else
      exitK K 0 ⟨slots 43 [], []⟩ := by kernel_rfl
theorem F59.l1_0_1_0_0_1_0_0_1_0_1_0_eq (n : Nat) (K : Conts) (p0 : (List Int)) (p1 : Int) (p2 : Bool) (p3 : Int) (p4 : Int) (p5 : (List Int)) (p6 : (List Int)) (p7 : (List Int)) (p8 : (List Int)) (p9 : (List Int)) (p10 : Int) (p11 : (List (List Int))) : F59.l1_0_1_0_0_1_0_0_1_0_1_0 (n + 1) K p0 p1 p2 p3 p4 p5 p6 p7 p8 p9 p10 p11 =
    bif decide (p3 < (p5.length : Int)) then
      bif p2 then
        bif decide (0 ≤ p1) && decide (p1 < p11.length) then
          bif decide (0 ≤ p3) && decide (p3 < (p11.getD p1.toNat []).length) then
            bif decide (0 ≤ p3) && decide (p3 < p5.length) then
              bif decide (0 ≤ (p5.getD p3.toNat (0 : Int))) && decide ((p5.getD p3.toNat (0 : Int)) < p0.length) then
                F59.l1_0_1_0_0_1_0_0_1_0_1_0 n K p0 p1 (decide (((p11.getD p1.toNat []).getD p3.toNat (0 : Int)) = (p0.getD ((p5.getD p3.toNat (0 : Int)).toNat) (0 : Int)))) (IntKind.i64.wrap (p3 + 1)) p4 p5 p6 p7 p8 p9 p10 p11
              else
                none
            else
              none
          else
            none
        else
          none
      else
        F59.l1_0_1_0_0_1_0_0_1_0_1_0 n K p0 p1 false (IntKind.i64.wrap (p3 + 1)) p4 p5 p6 p7 p8 p9 p10 p11
    else
      exitK K 2 ⟨slots 43 [(1, .v (.sl (.int .i64)) p0), (2, .pb 0 0), (5, .v (.int .i64) p1), (6, .v .bool p2)], [.box [.v (.int .i64) p4, .v (.sl (.int .i64)) p5, .v (.sl (.int .i64)) p6, .v (.sl (.int .i64)) p7, .v (.sl (.int .i64)) p8, .v (.sl (.int .i64)) p9, .v (.int .i64) p10, .v (.sl (.sl (.int .i64))) p11]]⟩ := by kernel_rfl
theorem F59.c0 (k : Nat) : exitK (F59.kt k [1, 0, 1, 0]) 0 ⟨slots 43 [], []⟩ =
    some (.v .bool false) := by kernel_rfl
theorem F59.c1 (n : Nat) (K : Conts) (p0 : (List Int)) (p1 : Int) (p2 : Bool) (p3 : Int) (p4 : (List Int)) (p5 : (List Int)) (p6 : (List Int)) (p7 : (List Int)) (p8 : (List Int)) (p9 : Int) (p10 : (List (List Int))) : exitK (F59.k_l1_0_1_0 n K [1, 0, 0, 1, 0, 1, 0]) 2 ⟨slots 43 [(1, .v (.sl (.int .i64)) p0), (2, .pb 0 0), (5, .v (.int .i64) p1), (6, .v .bool p2)], [.box [.v (.int .i64) p3, .v (.sl (.int .i64)) p4, .v (.sl (.int .i64)) p5, .v (.sl (.int .i64)) p6, .v (.sl (.int .i64)) p7, .v (.sl (.int .i64)) p8, .v (.int .i64) p9, .v (.sl (.sl (.int .i64))) p10]]⟩ =
    bif p2 then K.ret ⟨slots 43 [(4, .v .bool true)], []⟩ else F59.l1_0_1_0 n K p0 (IntKind.i64.wrap (p1 + 1)) p3 p4 p5 p6 p7 p8 p9 p10 := by kernel_rfl
theorem F59.c2 (k : Nat) : (F59.kt k [1, 0, 1, 0]).ret ⟨slots 43 [(4, .v .bool true)], []⟩ =
    some (.v .bool true) := by kernel_rfl

/-! ### 28k18: jigsaw/jigsawref09.Holds -/
noncomputable def F28k18.fn : Func := Go.Proofs.Tryz.f28
noncomputable def F28k18.E : Env := ⟨tt, [(59, h_rowC)], [(1, [1, 2]), (2, [1, 2, 9]), (3, [1, 2]), (4, [1, 2, 15]), (5, [1, 2]), (6, [1, 2, 21]), (7, [1, 2]), (8, [1, 2, 26]), (9, [1, 2, 26, 27]), (10, [1, 2, 5]), (11, [1, 2, 5]), (12, [1, 2, 5]), (13, [1, 2, 5, 6]), (14, [1, 2, 5, 6]), (15, [1, 2, 5, 6]), (16, [1, 2, 5, 6, 57]), (17, []), (19, [1, 2, 26, 58]), (21, [1, 2, 26, 63]), (23, [1, 2, 26, 68]), (25, [1, 2, 73]), (26, [1, 2])], [(0, [1, 2]), (1, []), (2, [1, 2, 5]), (3, [1, 2, 5]), (4, [1, 2, 5, 6])], some [4], inv⟩
theorem F28k18.start_eq (k : Nat) (c : ((List Int) × ((List Int) × ((List Int) × ((List Int) × ((List Int) × (Int × (List (List Int))))))))) (a1 : (List Int)) : callW F28k18.E false F28k18.fn k [.agg [.v (.int .i64) (18 : Int), .v (.sl (.int .i64)) c.1, .v (.sl (.int .i64)) c.2.1, .v (.sl (.int .i64)) c.2.2.1, .v (.sl (.int .i64)) c.2.2.2.1, .v (.sl (.int .i64)) c.2.2.2.2.1, .v (.int .i64) c.2.2.2.2.2.1, .v (.sl (.sl (.int .i64))) c.2.2.2.2.2.2], .v (.sl (.int .i64)) a1] =
    bif rowB (18, c) a1 then some (.v .bool (rowC (18, c) a1)) else none := by kernel_rfl

end Go.Proofs.YthdpbmcidebagaaGreatDoor.Ev

set_option linter.unusedVariables false
set_option linter.unusedSimpArgs false
set_option maxRecDepth 100000
namespace Go.Proofs.YthdpbmcidebagaaGreatDoor.Ev
open Go

theorem bT' {α : Type} {b : Bool} {x y : α} (h : b = true) : (bif b then x else y) = x := by rw [h]; rfl
theorem bF' {α : Type} {b : Bool} {x y : α} (h : b = false) : (bif b then x else y) = y := by rw [h]; rfl
theorem self_lt' {α : Type} {a : Int} {x y : α} : (bif decide (a < a) then x else y) = y := bF' (decide_eq_false (by omega))
abbrev Rest18 := List Int × List Int × List Int × List Int × List Int × Int × List (List Int)
/-- A loop that keeps a truth. -/
theorem flag_loop (L : Nat → Bool → Int → Option AV) (N : Nat) (f : Nat → Bool) (X : Bool → Option AV) (hN : N ≤ 1000000000) (hend : ∀ n b, L (n + 1) b (N : Int) = X b)
    (hstep : ∀ n (i : Nat), i < N → L (n + 1) true (i : Int) = L n (f i) (IntKind.i64.wrap ((i : Int) + 1))) (hstep' : ∀ n (i : Nat), i < N → L (n + 1) false (i : Int) = L n false (IntKind.i64.wrap ((i : Int) + 1)))
    (n : Nat) (hn : N < n) : L n true 0 = X ((List.range N).all f) := by
  have key : ∀ (d i n : Nat) (b : Bool), i + d = N → d < n → L n b (i : Int) = X (b && (List.range' i d).all f) := by
    intro d
    induction d with
    | zero =>
      intro i n b h1 h2
      obtain ⟨n', rfl⟩ : ∃ n', n = n' + 1 := ⟨n - 1, by omega⟩
      obtain rfl : i = N := by omega
      rw [hend]
      simp
    | succ d ih =>
      intro i n b h1 h2
      obtain ⟨n', rfl⟩ : ∃ n', n = n' + 1 := ⟨n - 1, by omega⟩
      have w : IntKind.i64.wrap ((i : Int) + 1) = ((i + 1 : Nat) : Int) := by rw [wrap_ok (by omega) (by omega)]; omega
      cases b with
      | true =>
        rw [hstep n' i (by omega), w, ih (i + 1) n' _ (by omega) (by omega), List.range'_succ, List.all_cons]
        simp
      | false =>
        rw [hstep' n' i (by omega), w, ih (i + 1) n' _ (by omega) (by omega)]
        simp
  have := key N 0 n true (by omega) hn
  rw [List.range_eq_range']
  simpa using this
theorem any_loop {α : Type} (L : Nat → Int → Option AV) (xs : List α) (p : α → Bool) (T E : Option AV) (m : Nat) (hl : xs.length ≤ 1000000000) (hend : ∀ n, L (n + 1) (xs.length : Int) = E)
    (hstep : ∀ (n i : Nat) (hi : i < xs.length), m ≤ n → L (n + 1) (i : Int) = bif p xs[i] then T else L n (IntKind.i64.wrap ((i : Int) + 1))) (n : Nat) (hn : m + xs.length < n) : L n 0 = bif xs.any p then T else E := by
  have key : ∀ (d i n : Nat), i + d = xs.length → m + d < n → L n (i : Int) = bif (xs.drop i).any p then T else E := by
    intro d
    induction d with
    | zero =>
      intro i n h1 h2
      obtain ⟨n', rfl⟩ : ∃ n', n = n' + 1 := ⟨n - 1, by omega⟩
      obtain rfl : i = xs.length := by omega
      rw [hend, List.drop_length]
      rfl
    | succ d ih =>
      intro i n h1 h2
      obtain ⟨n', rfl⟩ : ∃ n', n = n' + 1 := ⟨n - 1, by omega⟩
      have w : IntKind.i64.wrap ((i : Int) + 1) = ((i + 1 : Nat) : Int) := by rw [wrap_ok (by omega) (by omega)]; omega
      rw [hstep n' i (by omega) (by omega), w, ih (i + 1) n' (by omega) (by omega), List.drop_eq_getElem_cons (show i < xs.length by omega), List.any_cons]
      cases p xs[i] <;> rfl
  exact key xs.length 0 n (by omega) (by omega)
theorem row_eq {r A a : List Int} (h : r.length = A.length) : (List.range A.length).all (fun i => decide (r.getD i 0 = a.getD (A.getD i 0).toNat 0)) = decide (r = A.map fun i => a.getD i.toNat 0) := by
  rw [Bool.eq_iff_iff, List.all_eq_true, decide_eq_true_eq]
  constructor
  · intro hh
    apply List.ext_getElem (by simp [h])
    intro i h1 h2
    have := hh i (by rw [List.mem_range]; omega)
    simp only [decide_eq_true_eq] at this
    rw [List.getD_eq_getElem?_getD, List.getElem?_eq_getElem h1, List.getD_eq_getElem?_getD (l := A), List.getElem?_eq_getElem (by omega)] at this
    simpa using this
  · rintro rfl i hi
    have hi := List.mem_range.mp hi
    simp only [decide_eq_true_eq]
    rw [List.getD_eq_getElem?_getD, List.getElem?_map, List.getD_eq_getElem?_getD (l := A), List.getElem?_eq_getElem hi]
    rfl
theorem F59.sem (c : Con) (a : List Int) (h : rowB c a = true) : callW F59.E false F59.fn 12000 [.agg (explode ConT c), .v (.sl (.int .i64)) a] = some (.v .bool (rowC c a)) := by
  refine (F59.start_eq 12000 c a).trans ?_
  unfold rowB at h
  simp only [Bool.and_eq_true, List.all_eq_true, decide_eq_true_eq, Nat.ble_eq] at h
  obtain ⟨⟨⟨⟨_, hA⟩, hR⟩, hin⟩, hlen⟩ := h
  unfold rowC
  obtain ⟨k, A, B, C, D, E, M, R⟩ := c
  simp only at hA hR hin hlen ⊢
  refine (any_loop (fun n i => F59.l1_0_1_0 n (F59.kt 12000 [1, 0, 1, 0]) a i k A B C D E M R) R (fun r => decide (r = A.map fun i => a.getD i.toNat 0)) (some (.v .bool true)) (some (.v .bool false)) 1002 (by omega) (fun n => ?_) (fun n i hi hm => ?_) 12000 (by omega)).trans ?_
  · exact (F59.l1_0_1_0_eq n _ a _ k A B C D E M R).trans (self_lt'.trans (F59.c0 12000))
  · refine (F59.l1_0_1_0_eq n _ a _ k A B C D E M R).trans ?_
    refine (bT' (decide_eq_true (show (i : Int) < (R.length : Int) by omega))).trans ?_
    have hr : R[i].length = A.length := hlen _ (List.getElem_mem hi)
    have hg : R.getD (i : Int).toNat [] = R[i] := by rw [Int.toNat_natCast, List.getD_eq_getElem?_getD, List.getElem?_eq_getElem hi]; rfl
    refine (flag_loop (fun m b j => F59.l1_0_1_0_0_1_0_0_1_0_1_0 m (F59.k_l1_0_1_0 n (F59.kt 12000 [1, 0, 1, 0]) [1, 0, 0, 1, 0, 1, 0]) a i b j k A B C D E M R) A.length (fun j => decide (R[i].getD j 0 = a.getD (A.getD j 0).toNat 0))
      (fun b => bif b then some (.v .bool true) else F59.l1_0_1_0 n (F59.kt 12000 [1, 0, 1, 0]) a (IntKind.i64.wrap ((i : Int) + 1)) k A B C D E M R) (by omega) (fun m b => ?_) (fun m j hj => ?_) (fun m j hj => ?_) n (by omega)).trans ?_
    · refine (F59.l1_0_1_0_0_1_0_0_1_0_1_0_eq m _ a i b _ k A B C D E M R).trans (self_lt'.trans ((F59.c1 n _ a i b k A B C D E M R).trans ?_))
      cases b with
      | true => exact F59.c2 12000
      | false => rfl
    · refine (F59.l1_0_1_0_0_1_0_0_1_0_1_0_eq m _ a i true _ k A B C D E M R).trans ?_
      have hj2 : A.getD j 0 ∈ A := by
        rw [List.getD_eq_getElem?_getD, List.getElem?_eq_getElem hj]
        exact List.getElem_mem hj
      have hb := hin _ hj2
      unfold inB at hb
      rw [hg, Int.toNat_natCast]
      refine (bT' (decide_eq_true (show (j : Int) < (A.length : Int) by omega))).trans ((bT' rfl).trans ((bT' ?_).trans ((bT' ?_).trans ((bT' ?_).trans ((bT' hb).trans rfl)))))
      · rw [decide_eq_true (show (0 : Int) ≤ (i : Int) by omega), decide_eq_true (show (i : Int) < (R.length : Int) by omega)]; rfl
      · rw [decide_eq_true (show (0 : Int) ≤ (j : Int) by omega), decide_eq_true (show (j : Int) < (R[i].length : Int) by omega)]; rfl
      · rw [decide_eq_true (show (0 : Int) ≤ (j : Int) by omega), decide_eq_true (show (j : Int) < (A.length : Int) by omega)]; rfl
    · refine (F59.l1_0_1_0_0_1_0_0_1_0_1_0_eq m _ a i false _ k A B C D E M R).trans ?_
      exact (bT' (decide_eq_true (show (j : Int) < (A.length : Int) by omega))).trans (bF' rfl)
    · rw [row_eq hr]
  · cases R.any fun r => decide (r = A.map fun i => a.getD i.toNat 0) <;> rfl
theorem F28k18.sem (k : Nat) (c : Rest18) (a : List Int) (h : holdsB (18, c) a = true) : callW F28k18.E false F28k18.fn k [.agg (explode ConT ((18 : Int), c)), .v (.sl (.int .i64)) a] = some (.v .bool (holdsC (18, c) a)) := by
  refine (F28k18.start_eq k c a).trans ?_
  have e : rowB (18, c) a = true := by
    unfold holdsB at h
    have h1 : logicB (18, c) a = false := by simp [logicB, reifK]
    have h2 : threeB (18, c) a = false := by simp [threeB]
    rw [h1, h2] at h
    simpa using h
  rw [e]
  rfl
end Go.Proofs.YthdpbmcidebagaaGreatDoor.Ev
