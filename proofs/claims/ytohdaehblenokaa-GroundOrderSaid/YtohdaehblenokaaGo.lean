/-
Does a constraint hold, the program's answer: sums, tasks, the whole.
Conditions: as the handlers ask.
Does a constraint hold, the program's answer as a whole; its contracts.
Conditions: lists of at most 1000 elements.
-/
import Derived.Test.YtohdaehblenokaaGc
import Derived.Test.YtohdaehblenokaaGf
import Derived.Lib.RowBridge
set_option linter.unusedVariables false
set_option linter.unusedSimpArgs false
set_option maxRecDepth 100000
namespace Go.Proofs.Ytohdaehblenokaa.Ev
open Go
theorem F618.sem (k : Nat) (kk : Int) (c : RestG) (x y : List Int) (h : logicXB (kk, c) x y = true) : callW F618.E false F618.fn k [.agg (explode ConT (kk, c)), .v (.sl (.int .i64)) x, .v (.sl (.int .i64)) y] = some (.v .bool (logicX (kk, c) x y)) := by
 refine (F618.start_eq k kk c x y).trans ?_
 have e0 : logicX (kk, c) x y = bif decide (kk = 4) then truthB (y.getD 0 0) (decide (sumX (kk, c) x ≤ c.2.2.2.2.2.1)) else bif decide (kk = 13) then truthB (y.getD 0 0) (decide (x.getD 0 0 = c.2.2.2.2.2.1)) else bif decide (kk = 14) then truthB (y.getD 0 0) (decide (x.getD 0 0 ≤ c.2.2.2.2.2.1)) else
  bif decide (kk = 15) then impliedB (y.getD 0 0) (decide (x.getD 0 0 = c.2.2.2.2.2.1)) else bif decide (kk = 16) then impliedB (y.getD 0 0) (decide (x.getD 0 0 ≤ c.2.2.2.2.2.1)) else containsL x 1 || containsL y 0 := rfl
 have h0 : (bif decide (kk = 4) then decide (0 < y.length) && sumXB (kk, c) x else bif decide (13 ≤ kk) && decide (kk ≤ 16) then decide (0 < x.length) && decide (0 < y.length) else true) = true := h
 rw [e0]
 by_cases h4 : kk = 4
 ·rw [decide_eq_true h4] at h0 ⊢
  rw [cond_true, Bool.and_eq_true, decide_eq_true_eq] at h0
  exact (bT' rfl).trans ((bT' (decide_eq_true (by omega))).trans (bT' h0.2))
 ·rw [decide_eq_false h4] at h0 ⊢
  rw [cond_false] at h0
  refine (bF' rfl).trans ?_
  by_cases hr : 13 ≤ kk ∧ kk ≤ 16
  ·rw [decide_eq_true hr.1, decide_eq_true hr.2, Bool.and_self, cond_true, Bool.and_eq_true, decide_eq_true_eq, decide_eq_true_eq] at h0
   have hx : decide ((0 : Int) < x.length) = true := decide_eq_true (by omega)
   have hy : decide ((0 : Int) < y.length) = true := decide_eq_true (by omega)
   rw [hx, hy]
   have : kk = 13 ∨ kk = 14 ∨ kk = 15 ∨ kk = 16 := by omega
   rcases this with rfl | rfl | rfl | rfl <;> rfl
  ·rw [decide_eq_false (show ¬ kk = 13 by omega), decide_eq_false (show ¬ kk = 14 by omega), decide_eq_false (show ¬ kk = 15 by omega), decide_eq_false (show ¬ kk = 16 by omega)]
   cases containsL x 1 <;> rfl
theorem F627.sem (k : Nat) (kk : Int) (c : RestG) (x : List Int) (h : arithXB (kk, c) x = true) : callW F627.E false F627.fn k [.agg (explode ConT (kk, c)), .v (.sl (.int .i64)) x] = some (.v .bool (arithX (kk, c) x)) := by
 have h0 : (millsB x && (bif decide (kk = 8) || !(decide (5 ≤ kk) && decide (kk ≤ 10)) then decide (2 ≤ x.length) else decide (3 ≤ x.length))) = true := h
 rw [Bool.and_eq_true] at h0
 obtain ⟨hm, hl⟩ := h0
 obtain ⟨m1, m2⟩ := mills_iff hm
 have l2 : 2 ≤ x.length := by
  cases hb : decide (kk = 8) || !(decide (5 ≤ kk) && decide (kk ≤ 10)) with
  | true => rw [hb] at hl; exact of_decide_eq_true hl
  | false => rw [hb] at hl; have := of_decide_eq_true hl; omega
 have q0 : decide ((0 : Int) < x.length) = true := decide_eq_true (by omega)
 have q1 : decide ((1 : Int) < x.length) = true := decide_eq_true (by omega)
 have b0 := mill_of m2 (show 0 < x.length by omega)
 have b1 := mill_of m2 (show 1 < x.length by omega)
 refine (F627.start_eq k kk c x).trans ?_
 have e0 : arithX (kk, c) x = bif decide (kk = 5) then decide (x.getD 0 0 * x.getD 1 0 = x.getD 2 0) else bif decide (kk = 6) then !(decide (x.getD 1 0 = 0)) && decide ((x.getD 0 0).tdiv (x.getD 1 0) = x.getD 2 0) else bif decide (kk = 7) then !(decide (x.getD 1 0 = 0)) && decide ((x.getD 0 0).tmod (x.getD 1 0) = x.getD 2 0) else
  bif decide (kk = 8) then decide ((if x.getD 0 0 < -(x.getD 0 0) then -(x.getD 0 0) else x.getD 0 0) = x.getD 1 0) else bif decide (kk = 9) then decide ((if x.getD 1 0 < x.getD 0 0 then x.getD 1 0 else x.getD 0 0) = x.getD 2 0) else
  bif decide (kk = 10) then decide ((if x.getD 1 0 > x.getD 0 0 then x.getD 1 0 else x.getD 0 0) = x.getD 2 0) else
  decide (x.getD 0 0 ≥ 1) && (decide (x.getD 0 0 ≤ (c.2.2.1.length : Int)) && decide (c.2.2.1.getD (x.getD 0 0 - 1).toNat 0 = x.getD 1 0)) := rfl
 rw [e0, q0, q1]
 have q2 : (5 ≤ kk ∧ kk ≤ 10 ∧ kk ≠ 8) → decide ((2 : Int) < x.length) = true := fun hk => by
  have : (decide (kk = 8) || !(decide (5 ≤ kk) && decide (kk ≤ 10))) = false := by
   rw [decide_eq_false (show ¬ kk = 8 by omega), decide_eq_true (show 5 ≤ kk by omega), decide_eq_true (show kk ≤ 10 by omega)]
   rfl
  rw [this] at hl
  have hl := of_decide_eq_true hl
  exact decide_eq_true (by omega)
 generalize hv0 : x.getD 0 0 = v0 at b0 ⊢
 generalize hv1 : x.getD 1 0 = v1 at b1 ⊢
 generalize x.getD 2 0 = v2
 by_cases h5 : kk = 5
 ·rw [decide_eq_true h5, q2 (by omega)]
  have p := mul_mill b0 b1
  rw [wrap_ok (x := v0 * v1) (by omega) (by omega)]
  rfl
 ·rw [decide_eq_false h5]
  by_cases h6 : kk = 6
  ·rw [decide_eq_true h6, q2 (by omega)]
   have t : -1000000 ≤ v0.tdiv v1 ∧ v0.tdiv v1 ≤ 1000000 := by
    have h1 : (v0.tdiv v1).natAbs ≤ v0.natAbs := by rw [Int.natAbs_tdiv]; exact Nat.div_le_self _ _
    omega
   rw [wrap_ok (x := v0.tdiv v1) (by omega) (by omega)]
   cases decide (v1 = 0) <;> rfl
  ·rw [decide_eq_false h6]
   by_cases h7 : kk = 7
   ·rw [decide_eq_true h7, q2 (by omega)]
    cases decide (v1 = 0) <;> rfl
   ·rw [decide_eq_false h7]
    by_cases h8 : kk = 8
    ·rw [decide_eq_true h8, wrap_ok (x := 0 - v0) (by omega) (by omega)]
     have e : (if 0 - v0 > v0 then 0 - v0 else v0) = (if v0 < -v0 then -v0 else v0) := by
      split <;> split <;> omega
     rw [e]
     rfl
    ·rw [decide_eq_false h8]
     by_cases h9 : kk = 9
     ·rw [decide_eq_true h9, q2 (by omega)]
      rfl
     ·rw [decide_eq_false h9]
      by_cases h10 : kk = 10
      ·rw [decide_eq_true h10, q2 (by omega)]
       rfl
      ·rw [decide_eq_false h10]
       by_cases c1 : v0 ≥ 1
       ·rw [decide_eq_true c1]
        by_cases c2 : v0 ≤ (c.2.2.1.length : Int)
        ·rw [decide_eq_true c2, wrap_ok (x := v0 - 1) (by omega) (by omega), in_place (a := c.2.2.1) ⟨by omega, by omega⟩]
         rfl
        ·rw [decide_eq_false c2]
         rfl
       ·rw [decide_eq_false c1]
        rfl
theorem load_drop (t : Int) {x C D : List Int} {i : Nat} (h1 : i < x.length) (h2 : i < C.length) (h3 : i < D.length) :
  loadGo t (x.drop i) (C.drop i) (D.drop i) = (if x.getD i 0 ≤ t ∧ t < x.getD i 0 + C.getD i 0 then D.getD i 0 else 0) + loadGo t (x.drop (i + 1)) (C.drop (i + 1)) (D.drop (i + 1)) := by
 rw [drop_getD h1 0, drop_getD h2 0, drop_getD h3 0]
 rfl
theorem F622.sem (kk : Int) (c : RestG) (x : List Int) (h : fitsXB (kk, c) x = true) : callW F622.E false F622.fn 4000 [.agg (explode ConT (kk, c)), .v (.sl (.int .i64)) x] = some (.v .bool (fitsX (kk, c) x)) := by
 unfold fitsXB fitLB at h
 simp only [Bool.and_eq_true, decide_eq_true_eq] at h
 obtain ⟨⟨⟨⟨hC, hD⟩, hx⟩, lC⟩, lD⟩ := h
 obtain ⟨c1, c2⟩ := mills_iff hC
 obtain ⟨d1, d2⟩ := mills_iff hD
 obtain ⟨x1, x2⟩ := mills_iff hx
 refine (F622.start_eq 4000 kk c x).trans ?_
 have e0 : fitsX (kk, c) x = !(List.any x fun t => decide (loadGo t x c.2.2.1 c.2.2.2.1 > c.2.2.2.2.2.1)) := by
  show (x.all fun t => decide (loadGo t x c.2.2.1 c.2.2.2.1 ≤ c.2.2.2.2.2.1)) = _
  rw [List.all_eq_not_any_not]
  congr 2
  funext t
  rw [Bool.eq_iff_iff, Bool.not_eq_true', decide_eq_true_eq, decide_eq_false_iff_not]
  omega
 rw [e0]
 refine (any_loop (fun n i => F622.l1_0_1_0 n (F622.kt 4000 [1, 0, 1, 0]) x x (x.length : Int) i kk c.1 c.2.1 c.2.2.1 c.2.2.2.1 c.2.2.2.2.1 c.2.2.2.2.2.1 c.2.2.2.2.2.2) x (fun t => decide (loadGo t x c.2.2.1 c.2.2.2.1 > c.2.2.2.2.2.1)) (some (.v .bool false)) (some (.v .bool true)) 1500 (by omega)
  (fun n => (F622.l1_0_1_0_eq ..).trans (self_lt'.trans (F622.c0 4000))) (fun n i hi hn => ?_) 4000 (by omega)).trans ?_
 ·have e : x[i] = x.getD i 0 := by rw [List.getD_eq_getElem?_getD, List.getElem?_eq_getElem hi]; rfl
  rw [e]
  refine (F622.l1_0_1_0_eq ..).trans ((bT' (lt_natG hi)).trans ((bT' (in_natG hi)).trans ?_))
  rw [Int.toNat_natCast]
  have bt := mill_of x2 hi
  generalize x.getD i 0 = t at bt ⊢
  have key : ∀ (d j m : Nat) (acc : Int), j + d = x.length → d < m → -1000000 * (j : Int) ≤ acc → acc ≤ 1000000 * (j : Int) →
    F622.l1_0_1_0_0_1_1_0_0_1_1_0_1_0 m (F622.k_l1_0_1_0 n (F622.kt 4000 [1, 0, 1, 0]) [1, 1, 0, 0, 1, 1, 0, 1, 0]) x t acc x (x.length : Int) (i : Int) x (x.length : Int) (j : Int) kk c.1 c.2.1 c.2.2.1 c.2.2.2.1 c.2.2.2.2.1 c.2.2.2.2.2.1 c.2.2.2.2.2.2 =
    bif decide (acc + loadGo t (x.drop j) (c.2.2.1.drop j) (c.2.2.2.1.drop j) > c.2.2.2.2.2.1) then some (.v .bool false) else F622.l1_0_1_0 n (F622.kt 4000 [1, 0, 1, 0]) x x (x.length : Int) (IntKind.i64.wrap ((i : Int) + 1)) kk c.1 c.2.1 c.2.2.1 c.2.2.2.1 c.2.2.2.2.1 c.2.2.2.2.2.1 c.2.2.2.2.2.2 := by
   intro d
   induction d with
   | zero =>
    intro j m acc h1 h2 _ _
    obtain ⟨m', rfl⟩ : ∃ m', m = m' + 1 := ⟨m - 1, by omega⟩
    obtain rfl : j = x.length := by omega
    refine (F622.l1_0_1_0_0_1_1_0_0_1_1_0_1_0_eq ..).trans (self_lt'.trans ((F622.c1 ..).trans ?_))
    have e : acc + loadGo t (x.drop x.length) (c.2.2.1.drop x.length) (c.2.2.2.1.drop x.length) = acc := by rw [List.drop_length]; unfold loadGo; omega
    rw [e, F622.c2]
   | succ d ih =>
    intro j m acc h1 h2 h3 h4
    obtain ⟨m', rfl⟩ : ∃ m', m = m' + 1 := ⟨m - 1, by omega⟩
    have hj : j < x.length := by omega
    have hjc : j < c.2.2.1.length := by omega
    have hjd : j < c.2.2.2.1.length := by omega
    have bx := mill_of x2 hj
    have bc := mill_of c2 hjc
    have bd := mill_of d2 hjd
    refine (F622.l1_0_1_0_0_1_1_0_0_1_1_0_1_0_eq ..).trans ((bT' (lt_natG hj)).trans ((bT' (in_natG hj)).trans ?_))
    rw [Int.toNat_natCast, wrap1 (by omega), load_drop t hj hjc hjd]
    by_cases q1 : x.getD j 0 ≤ t
    ·refine (bT' (decide_eq_true q1)).trans ((bT' (in_natG hjc)).trans ?_)
     rw [wrap_ok (x := x.getD j 0 + c.2.2.1.getD j 0) (by omega) (by omega)]
     by_cases q2 : t < x.getD j 0 + c.2.2.1.getD j 0
     ·rw [if_pos ⟨q1, q2⟩, ← Int.add_assoc, wrap_ok (x := acc + c.2.2.2.1.getD j 0) (by omega) (by omega)]
      exact (bT' (decide_eq_true q2)).trans ((bT' (in_natG hjd)).trans (ih (j + 1) m' _ (by omega) (by omega) (by omega) (by omega)))
     ·rw [if_neg (fun h => q2 h.2), Int.zero_add]
      exact (bF' (decide_eq_false q2)).trans (ih (j + 1) m' acc (by omega) (by omega) (by omega) (by omega))
    ·rw [if_neg (fun h => q1 h.1), Int.zero_add]
     exact (bF' (decide_eq_false q1)).trans (ih (j + 1) m' acc (by omega) (by omega) (by omega) (by omega))
  have := key x.length 0 n 0 (by omega) (by omega) (by omega) (by omega)
  rw [List.drop_zero, List.drop_zero, List.drop_zero, Int.zero_add] at this
  exact this
 ·cases List.any x fun t => decide (loadGo t x c.2.2.1 c.2.2.2.1 > c.2.2.2.2.2.1) <;> rfl
end Go.Proofs.Ytohdaehblenokaa.Ev
set_option linter.unusedVariables false
set_option linter.unusedSimpArgs false
set_option maxRecDepth 100000
namespace Go.Proofs.Ytohdaehblenokaa.Ev
open Go Go.RowKit Go.Sort
structure Val (kk : Int) (c : RestG) (n : Nat) : Prop where
  kd : inS kk = true
  cn : countedG (kk, c) (shapeS kk) = true
  al : alikeG (kk, c) = true
  pl : ∀ v ∈ c.1 ++ c.2.1, 0 ≤ v ∧ v < (n : Int)
  nu : numbersG (kk, c) = true
theorem val_of {kk : Int} {c : RestG} {n : Nat} (h : rightG (kk, c) (n : Int) = 0) : Val kk c n := by
 have e0 : rightG (kk, c) (n : Int) = bif strEq (shapeS kk) ⟨#[]⟩ then 9 else bif !(countedG (kk, c) (shapeS kk) && alikeG (kk, c) && (decide (c.2.2.2.2.2.1 = 0) || has1 (shapeS kk) ⟨#[107]⟩)) then 10 else bif List.any (c.1 ++ c.2.1) (varB (n : Int)) then 7 else bif !(numbersG (kk, c) && countsG (kk, c)) then 11 else 0 := rfl
 rw [e0] at h
 cases hk : inS kk with
 | false => rw [shape_no hk] at h; exact absurd h (by simp)
 | true =>
  rw [shape_ne hk] at h
  cases hc : countedG (kk, c) (shapeS kk) with
  | false => rw [hc] at h; exact absurd h (by simp)
  | true =>
   cases ha : alikeG (kk, c) with
   | false => rw [hc, ha] at h; exact absurd h (by simp)
   | true =>
    cases hv : List.any (c.1 ++ c.2.1) (varB (n : Int)) with
    | true =>
     rw [hc, ha, hv] at h
     cases hq : (decide (c.2.2.2.2.2.1 = 0) || has1 (shapeS kk) ⟨#[107]⟩) <;> rw [hq] at h <;> exact absurd h (by simp)
    | false =>
     cases hn : numbersG (kk, c) with
     | false =>
      rw [hc, ha, hv, hn] at h
      cases hq : (decide (c.2.2.2.2.2.1 = 0) || has1 (shapeS kk) ⟨#[107]⟩) <;> rw [hq] at h <;> exact absurd h (by simp)
     | true =>
      refine ⟨hk, hc, ha, fun v hm => ?_, hn⟩
      rw [List.any_eq_false] at hv
      have := hv v hm
      unfold varB at this
      simp at this
      omega
theorem num_mill {l : List Int} {lo : Int} (h : boundedD l lo = true) (h0 : -1000000 ≤ lo) (hl : l.length ≤ 1000) : millsB l = true := by
 unfold millsB
 rw [Nat.ble_eq_true_of_le hl, Bool.true_and, List.all_eq_true]
 intro v hv
 unfold boundedD at h
 rw [Bool.not_eq_true', List.any_eq_false] at h
 have := h v hv
 unfold numB at this
 simp at this
 unfold millB
 rw [Bool.and_eq_true, decide_eq_true_eq, decide_eq_true_eq]
 omega
section
variable {kk : Int} {c : RestG} {a : List Int}
theorem Val.mills (h : Val kk c a.length) (hs : smallC (kk, c) = true) : millsB c.2.2.1 = true ∧ millsB c.2.2.2.1 = true ∧ millsB c.2.2.2.2.1 = true := by
 have n0 : numbersG (kk, c) = (!(List.any c.2.2.2.2.2.2 fun r => !(boundedD r (loG (kk, c)))) && (boundedD c.2.2.1 (loG (kk, c)) && (boundedD c.2.2.2.1 (seG (kk, c)) && (boundedD c.2.2.2.2.1 (seG (kk, c)) && (decide (c.2.2.2.2.2.1 ≥ kaG (kk, c)) && decide (c.2.2.2.2.2.1 ≤ 9999999999)))))) := rfl
 have hn := h.nu
 rw [n0] at hn
 simp only [Bool.and_eq_true] at hn
 have l1 : -1000000 ≤ loG (kk, c) := by unfold loG; split <;> omega
 have l2 : -1000000 ≤ seG (kk, c) := by
  unfold seG
  split
  ·omega
  ·split <;> omega
 have P := small_iff hs
 exact ⟨num_mill hn.2.1 l1 P.lc, num_mill hn.2.2.1 l2 P.ld, num_mill hn.2.2.2.1 l2 P.le⟩
theorem Val.placeA (h : Val kk c a.length) (hs : smallC (kk, c) = true) : placesB1 c.1 a = true := by
 unfold placesB1
 rw [Nat.ble_eq_true_of_le (small_iff hs).la, Bool.true_and, List.all_eq_true]
 intro v hv
 exact in_place (h.pl v (List.mem_append_left _ hv))
theorem Val.placeB (h : Val kk c a.length) (hs : smallC (kk, c) = true) : placesB1 c.2.1 a = true := by
 unfold placesB1
 rw [Nat.ble_eq_true_of_le (small_iff hs).lb, Bool.true_and, List.all_eq_true]
 intro v hv
 exact in_place (h.pl v (List.mem_append_right _ hv))
theorem far_mill (h : List.any a farB = false) : a.all millB = true := by
 rw [List.all_eq_true]
 intro v hv
 rw [List.any_eq_false] at h
 have := h v hv
 unfold farB at this
 simp at this
 unfold millB
 rw [Bool.and_eq_true, decide_eq_true_eq, decide_eq_true_eq]
 omega
theorem values_mill {l : List Int} (hp : placesB1 l a = true) (h : List.any a farB = false) : millsB (valuesL l a) = true := by
 obtain ⟨h1, h2⟩ := places_iff hp
 unfold millsB
 rw [Nat.ble_eq_true_of_le (by rw [values_len]; exact h1), Bool.true_and, List.all_eq_true]
 intro v hv
 unfold valuesL at hv
 obtain ⟨i, hi, rfl⟩ := List.mem_map.mp hv
 unfold placesB1 at hp
 rw [Bool.and_eq_true, List.all_eq_true] at hp
 have := hp.2 i hi
 unfold inB at this
 rw [Bool.and_eq_true, decide_eq_true_eq, decide_eq_true_eq] at this
 have hm := far_mill h
 rw [List.all_eq_true] at hm
 exact hm _ (getD_mem (by omega) 0)
end
theorem F567.sem (k : Nat) (kk : Int) (c : RestG) (a : List Int) (h : holdsXB (kk, c) a = true) : callW F567.E false F567.fn k [.agg (explode ConT (kk, c)), .v (.sl (.int .i64)) a] = some (.v .bool (holdsX (kk, c) a)) := by
 unfold holdsXB at h
 rw [Bool.and_eq_true] at h
 obtain ⟨hs, ha⟩ := h
 refine (F567.start_eq k kk c a).trans ((bT' hs).trans ?_)
 have e0 : holdsX (kk, c) a = bif !(decide (rightG (kk, c) (a.length : Int) = 0)) || List.any a farB then false else bodyX (kk, c) (valuesL c.1 a) (valuesL c.2.1 a) := rfl
 rw [e0]
 by_cases hr : rightG (kk, c) (a.length : Int) = 0
 ·rw [decide_eq_true hr]
  cases hf : List.any a farB with
  | true => rfl
  | false =>
   have V := val_of hr
   have pA := V.placeA hs
   have pB := V.placeB hs
   refine (bF' rfl).trans ((bF' rfl).trans ((bT' pA).trans ((bT' pB).trans ?_)))
   show _ = some (AV.v .bool (bodyX (kk, c) (valuesL c.1 a) (valuesL c.2.1 a)))
   have mx := values_mill pA hf
   have my := values_mill pB hf
   obtain ⟨mC, mD, mE⟩ := V.mills hs
   have P := small_iff hs
   have la := P.la
   have lb := P.lb
   have lc := P.lc
   simp only at la lb lc
   have vx := values_len c.1 a
   have vy := values_len c.2.1 a
   have cn := V.cn
   have al := V.al
   generalize valuesL c.1 a = x at mx vx ⊢
   generalize valuesL c.2.1 a = y at my vy ⊢
   have sum : c.2.2.1.length = x.length → sumXB (kk, c) x = true := fun h => by
    unfold sumXB
    show (millsB c.2.2.1 && millsB x && decide (c.2.2.1.length = x.length)) = true
    rw [mC, mx, decide_eq_true h]
    rfl
   rcases kinds V.kd with rfl | rfl | rfl | rfl | rfl | rfl | rfl | rfl | rfl | rfl | rfl | rfl | rfl | rfl | rfl | rfl | rfl | rfl | rfl | rfl | rfl | rfl | rfl
   ·rw [cnt_k1] at cn
    simp only [withinD, Bool.and_eq_true, decide_eq_true_eq] at cn
    have al : decide ((c.2.2.1.length : Int) = (c.1.length : Int)) = true := al
    simp only [Bool.and_eq_true, decide_eq_true_eq] at al
    exact bT' (sum (by omega))
   ·rw [cnt_k2] at cn
    simp only [withinD, Bool.and_eq_true, decide_eq_true_eq] at cn
    have al : decide ((c.2.2.1.length : Int) = (c.1.length : Int)) = true := al
    simp only [Bool.and_eq_true, decide_eq_true_eq] at al
    exact bT' (sum (by omega))
   ·rw [cnt_k3] at cn
    simp only [withinD, Bool.and_eq_true, decide_eq_true_eq] at cn
    have al : decide ((c.2.2.1.length : Int) = (c.1.length : Int)) = true := al
    simp only [Bool.and_eq_true, decide_eq_true_eq] at al
    exact bT' (sum (by omega))
   ·rw [cnt_k4] at cn
    simp only [withinD, Bool.and_eq_true, decide_eq_true_eq] at cn
    have al : decide ((c.2.2.1.length : Int) = (c.1.length : Int)) = true := al
    simp only [Bool.and_eq_true, decide_eq_true_eq] at al
    have e : logicXB (4, c) x y = true := by
     show (decide (0 < y.length) && sumXB (4, c) x) = true
     rw [sum (by omega), decide_eq_true (by omega)]
     rfl
    exact bT' e
   ·rw [cnt_k5] at cn
    simp only [withinD, Bool.and_eq_true, decide_eq_true_eq] at cn
    have e : arithXB (5, c) x = true := by
     show (millsB x && decide (3 ≤ x.length)) = true
     rw [mx, decide_eq_true (show 3 ≤ x.length by omega)]
     rfl
    exact bT' e
   ·rw [cnt_k6] at cn
    simp only [withinD, Bool.and_eq_true, decide_eq_true_eq] at cn
    have e : arithXB (6, c) x = true := by
     show (millsB x && decide (3 ≤ x.length)) = true
     rw [mx, decide_eq_true (show 3 ≤ x.length by omega)]
     rfl
    exact bT' e
   ·rw [cnt_k7] at cn
    simp only [withinD, Bool.and_eq_true, decide_eq_true_eq] at cn
    have e : arithXB (7, c) x = true := by
     show (millsB x && decide (3 ≤ x.length)) = true
     rw [mx, decide_eq_true (show 3 ≤ x.length by omega)]
     rfl
    exact bT' e
   ·rw [cnt_k8] at cn
    simp only [withinD, Bool.and_eq_true, decide_eq_true_eq] at cn
    have e : arithXB (8, c) x = true := by
     show (millsB x && decide (2 ≤ x.length)) = true
     rw [mx, decide_eq_true (show 2 ≤ x.length by omega)]
     rfl
    exact bT' e
   ·rw [cnt_k9] at cn
    simp only [withinD, Bool.and_eq_true, decide_eq_true_eq] at cn
    have e : arithXB (9, c) x = true := by
     show (millsB x && decide (3 ≤ x.length)) = true
     rw [mx, decide_eq_true (show 3 ≤ x.length by omega)]
     rfl
    exact bT' e
   ·rw [cnt_k10] at cn
    simp only [withinD, Bool.and_eq_true, decide_eq_true_eq] at cn
    have e : arithXB (10, c) x = true := by
     show (millsB x && decide (3 ≤ x.length)) = true
     rw [mx, decide_eq_true (show 3 ≤ x.length by omega)]
     rfl
    exact bT' e
   ·rw [cnt_k11] at cn
    simp only [withinD, Bool.and_eq_true, decide_eq_true_eq] at cn
    have e : arithXB (11, c) x = true := by
     show (millsB x && decide (2 ≤ x.length)) = true
     rw [mx, decide_eq_true (show 2 ≤ x.length by omega)]
     rfl
    exact bT' e
   ·rw [cnt_k12] at cn
    simp only [withinD, Bool.and_eq_true, decide_eq_true_eq] at cn
    show (bif logicXB (12, c) x y then some (AV.v .bool (logicX (12, c) x y)) else none) = some (AV.v .bool (logicX (12, c) x y))
    exact bT' rfl
   ·rw [cnt_k13] at cn
    simp only [withinD, Bool.and_eq_true, decide_eq_true_eq] at cn
    have e : logicXB (13, c) x y = true := by
     show (decide (0 < x.length) && decide (0 < y.length)) = true
     rw [decide_eq_true (show 0 < x.length by omega), decide_eq_true (show 0 < y.length by omega)]
     rfl
    exact bT' e
   ·rw [cnt_k14] at cn
    simp only [withinD, Bool.and_eq_true, decide_eq_true_eq] at cn
    have e : logicXB (14, c) x y = true := by
     show (decide (0 < x.length) && decide (0 < y.length)) = true
     rw [decide_eq_true (show 0 < x.length by omega), decide_eq_true (show 0 < y.length by omega)]
     rfl
    exact bT' e
   ·rw [cnt_k15] at cn
    simp only [withinD, Bool.and_eq_true, decide_eq_true_eq] at cn
    have e : logicXB (15, c) x y = true := by
     show (decide (0 < x.length) && decide (0 < y.length)) = true
     rw [decide_eq_true (show 0 < x.length by omega), decide_eq_true (show 0 < y.length by omega)]
     rfl
    exact bT' e
   ·rw [cnt_k16] at cn
    simp only [withinD, Bool.and_eq_true, decide_eq_true_eq] at cn
    have e : logicXB (16, c) x y = true := by
     show (decide (0 < x.length) && decide (0 < y.length)) = true
     rw [decide_eq_true (show 0 < x.length by omega), decide_eq_true (show 0 < y.length by omega)]
     rfl
    exact bT' e
   ·rw [cnt_k17] at cn
    simp only [withinD, Bool.and_eq_true, decide_eq_true_eq] at cn
    have e : sortB x = true := by
     unfold sortB
     rw [Nat.ble_eq_true_of_le (show x.length ≤ 1000 by omega)]
     have hx : 0 < x.length := by omega
     cases x with
     | nil => cases hx
     | cons v w => rfl
    exact bT' e
   ·rw [cnt_k18] at cn
    simp only [withinD, Bool.and_eq_true, decide_eq_true_eq] at cn
    rfl
   ·rw [cnt_k19] at cn
    simp only [withinD, Bool.and_eq_true, decide_eq_true_eq] at cn
    have al : (decide ((c.2.2.1.length : Int) = (c.1.length : Int)) && decide ((c.2.2.2.1.length : Int) = (c.1.length : Int))) = true := al
    simp only [Bool.and_eq_true, decide_eq_true_eq] at al
    have e : fitsXB (19, c) x = true := by
     show (millsB c.2.2.1 && millsB c.2.2.2.1 && millsB x && decide (c.2.2.1.length = x.length) && decide (c.2.2.2.1.length = x.length)) = true
     rw [mC, mD, mx, decide_eq_true (show c.2.2.1.length = x.length by omega), decide_eq_true (show c.2.2.2.1.length = x.length by omega)]
     rfl
    exact bT' e
   ·rw [cnt_k20] at cn
    simp only [withinD, Bool.and_eq_true, decide_eq_true_eq] at cn
    exact bT' (Nat.ble_eq_true_of_le (show x.length ≤ 1000 by omega))
   ·rw [cnt_k21] at cn
    simp only [withinD, Bool.and_eq_true, decide_eq_true_eq] at cn
    have al : (decide ((c.2.2.2.1.length : Int) = (c.2.2.1.length : Int)) && decide ((c.2.2.2.2.1.length : Int) = (c.2.2.1.length : Int))) = true := al
    simp only [Bool.and_eq_true, decide_eq_true_eq] at al
    have e : countedXB (21, c) x = true := by
     show (Nat.ble c.2.2.1.length 1000 && Nat.ble x.length 1000 && decide (c.2.2.2.1.length = c.2.2.1.length) && decide (c.2.2.2.2.1.length = c.2.2.1.length)) = true
     rw [Nat.ble_eq_true_of_le lc, Nat.ble_eq_true_of_le (show x.length ≤ 1000 by omega), decide_eq_true (show c.2.2.2.1.length = c.2.2.1.length by omega), decide_eq_true (show c.2.2.2.2.1.length = c.2.2.1.length by omega)]
     rfl
    exact bT' e
   ·rw [cnt_k22] at cn
    simp only [withinD, Bool.and_eq_true, decide_eq_true_eq] at cn
    have al : decide ((c.2.1.length : Int) = (c.1.length : Int)) = true := al
    simp only [Bool.and_eq_true, decide_eq_true_eq] at al
    have e : cmpXB x y = true := by
     unfold cmpXB
     rw [Nat.ble_eq_true_of_le (show x.length ≤ 1000 by omega), decide_eq_true (show y.length = x.length by omega)]
     rfl
    exact bT' e
   ·rw [cnt_k23] at cn
    simp only [withinD, Bool.and_eq_true, decide_eq_true_eq] at cn
    have al : decide ((c.2.1.length : Int) = (c.1.length : Int)) = true := al
    simp only [Bool.and_eq_true, decide_eq_true_eq] at al
    have e : (Nat.ble x.length 1000 && Nat.ble y.length 1000) = true := by
     rw [Nat.ble_eq_true_of_le (show x.length ≤ 1000 by omega), Nat.ble_eq_true_of_le (show y.length ≤ 1000 by omega)]
     rfl
    exact bT' e
 ·rw [decide_eq_false hr]
  rfl
theorem F616.eok : EOk Go.Proofs.Try.prog F616.E := eo calls_nil
theorem ok616 : HandOk Go.Proofs.Try.prog inv 25 h_valuesL := hand_if fun xs hc => callW_ok (own := false) (k := 2000) F616.eok mixed Go.Proofs.Try.func25 (by kernel_rfl) (show Go.Proofs.Try.f25.body = some (bodyOf Go.Proofs.Try.f25) by kernel_rfl) (F616.sem xs.1 xs.2.1 hc)
theorem F617.eok : EOk Go.Proofs.Try.prog F617.E := eo calls_nil
theorem ok617 : HandOk Go.Proofs.Try.prog inv 26 h_sumX := hand_if fun xs hc => callW_ok (own := false) (k := 2000) F617.eok mixed Go.Proofs.Try.func26 (by kernel_rfl) (show Go.Proofs.Try.f26.body = some (bodyOf Go.Proofs.Try.f26) by kernel_rfl) (F617.sem xs.1.1 xs.1.2 xs.2.1 hc)
theorem F666.eok : EOk Go.Proofs.Try.prog F666.E := eo calls_nil
theorem ok666 : HandOk Go.Proofs.Try.prog inv 50 h_truthB := hand_un fun xs => callW_ok (own := false) (k := 1) F666.eok mixed Go.Proofs.Try.func50 (by kernel_rfl) (show Go.Proofs.Try.f50.body = some (bodyOf Go.Proofs.Try.f50) by kernel_rfl) (F666.sem 1 xs.1 xs.2.1)
theorem F667.eok : EOk Go.Proofs.Try.prog F667.E := eo calls_nil
theorem ok667 : HandOk Go.Proofs.Try.prog inv 51 h_impliedB := hand_un fun xs => callW_ok (own := false) (k := 1) F667.eok mixed Go.Proofs.Try.func51 (by kernel_rfl) (show Go.Proofs.Try.f51.body = some (bodyOf Go.Proofs.Try.f51) by kernel_rfl) (F667.sem 1 xs.1 xs.2.1)
theorem F618.eok : EOk Go.Proofs.Try.prog F618.E := eo (calls_cons ok617 (calls_cons ok666 (calls_cons ok667 (calls_cons ok30 calls_nil))))
theorem ok618 : HandOk Go.Proofs.Try.prog inv 27 h_logicX := hand_if fun xs hc => callW_ok (own := false) (k := 1) F618.eok mixed Go.Proofs.Try.func27 (by kernel_rfl) (show Go.Proofs.Try.f27.body = some (bodyOf Go.Proofs.Try.f27) by kernel_rfl) (F618.sem 1 xs.1.1 xs.1.2 xs.2.1 xs.2.2.1 hc)
theorem below_grown {w1 w w' : World} {g : Nat} (hB : RowKit.Below w1.heap.size w1 w) (hg : w1.heap.size ≤ g) (h : w.grownBy w' (some g)) : RowKit.Below w1.heap.size w w' :=
 ⟨h.os, h.tape, h.output, h.size, fun k hk => h.block k (Nat.lt_of_lt_of_le hk hB.size) (fun e => by have := Option.some.inj e; omega)⟩
theorem comp_mspec (xs : List Int) (hne : xs ≠ []) (hle : xs.length ≤ 1000) : MSpec Go.Proofs.Try.prog inv 9 0 [.un] 3 (.int .i64) xs (compL xs) none := by
 intro w1 w ok us u hI hB hok ha hu hsl hrow hsep
 refine ⟨callFunc_enter Go.Proofs.Try.func9 (by kernel_rfl) (by kernel_rfl) _ _, ?_⟩
 obtain ⟨cs, hcs, hl, hown⟩ := hrow
 rcases hown with ⟨_, h0⟩ | ⟨g, cap, cur, rfl, hg, hb, hn, hcap, hcur, htake⟩
 ·exact absurd (List.length_eq_zero_iff.mp h0) hne
 have hn : @List.length Int xs ≤ cap := hn
 cases ha with
 | cons h1 h2 =>
  cases h2
  have hu := Option.some.inj (show some _ = some _ from hu)
  subst hu
  rw [ints_cells hcs] at htake
  have htake : cur.toList.take xs.length = xs.map (Value.int .i64) := by rw [← htake]; exact congrArg (fun k => cur.toList.take k) (Nat.mul_one _).symm
  have hH : Holds (Value.int .i64) w g 0 xs.toArray := holds_of_blockI hb htake
  have hsz : g < w.heap.size := (Array.getElem?_eq_some_iff.1 hb).1
  have C := Any.slices_Compact_int Go.Proofs.Try.compI g 0 cap xs w hH (by omega) hn
  refine Calls.mono (show Calls Go.Proofs.Try.prog 9 _ w _ from C) ?_
  rintro ex w' ⟨rfl, q, rfl⟩
  have hcl : (compL xs).length ≤ xs.length := Lib.compact_length_le xs
  have hcl : (Lib.compact xs).length ≤ xs.length := hcl
  have eg : ∀ W : World, grow W #[] = W := fun W => by simp [grow]
  have G := grownBy_sortedI (w := w) (g := g) (n := q) (os := #[]) (Lib.compact xs ++ List.replicate (xs.length - (Lib.compact xs).length) 0).toArray
  have O := heap_sortedI (n := q) (os := #[]) (Lib.compact xs ++ List.replicate (xs.length - (Lib.compact xs).length) 0).toArray hb
  rw [eg] at G O
  have hfull : (Lib.compact xs ++ List.replicate (xs.length - (Lib.compact xs).length) 0).length = xs.length := by simp; omega
  have hs1 : cur.size = cap := by rw [hcur]; exact Nat.mul_one cap
  have tk := take_putCellsI cur (Lib.compact xs ++ List.replicate (xs.length - (Lib.compact xs).length) 0) (by rw [hfull]; omega)
  rw [hfull] at tk
  refine ⟨_, rfl, below_grown hB hg G, G.size, fun k hk hm => G.block k hk (fun e => hm e.symm), ok, .slice (some ⟨g, 0, none⟩) (Lib.compact xs).length cap, (compL xs).map fun x => [Value.int .i64 x], fun k hk => hk, fun k hk => ⟨.inl hk, Nat.lt_of_lt_of_le (hok k hk) G.size⟩, cells_ints _, ?_, fun k hk => ⟨hsep k hk, .inl hk⟩, rfl, _, _, _, rfl⟩
  rw [flat_ints]
  refine ⟨by rw [List.length_map]; exact (Nat.mul_one _).symm, .inr ⟨g, cap, _, rfl, hg, O, by show (Lib.compact xs).length ≤ cap; omega, hcap, by show (putCells (Value.int .i64) 0 _ cur).size = cap * 1; simp [putCells, hs1], ?_⟩⟩
  have e2 : (compL xs).length * 1 = (Lib.compact xs).length := Nat.mul_one _
  show (putCells _ _ _ _).toList.take ((compL xs).length * 1) = _
  rw [e2]
  have := congrArg (fun l => l.take (Lib.compact xs).length) tk
  simp only [List.take_take, Nat.min_eq_left hcl] at this
  rw [this, List.map_append, List.take_append_of_le_length (by simp), List.take_of_length_le (by simp)]
  rfl
theorem okM345 : MHandOk Go.Proofs.Try.prog inv 9 h_comp := by
 intro args e t xs κ r h
 change h_compF args e t xs κ = some r at h
 unfold h_compF at h
 split at h
 case h_2 => simp at h
 split at h
 case h_2 => simp at h
 rename_i xs _ _
 cases hc : Nat.beq e 3 && (!(List.isEmpty xs) && Nat.ble (List.length xs) 1000) with
 | false => simp [hc] at h
 | true =>
  simp only [hc, cond_true] at h
  obtain ⟨he, hp⟩ := (Bool.and_eq_true _ _).mp hc
  obtain ⟨hne, hle⟩ := (Bool.and_eq_true _ _).mp hp
  have he := Nat.eq_of_beq_eq_true he
  subst he
  have hle : xs.length ≤ 1000 := by rwa [Nat.ble_eq] at hle
  refine ⟨_, _, h, ?_⟩
  have hne : (xs : List Int) ≠ [] := fun e => by rw [e] at hne; cases hne
  exact comp_mspec xs hne hle
theorem F619.eok : EOk Go.Proofs.Try.prog F619.E := ⟨tyOk_of tt_ok, (calls_cons ok112 (calls_cons ok113 calls_nil)), keep_inv, mcalls_cons okM345 mcalls_nil⟩
theorem ok619 : HandOk Go.Proofs.Try.prog inv 28 h_apartX := hand_if fun xs hc => callW_ok (own := false) (k := 1) F619.eok mixed Go.Proofs.Try.func28 (by kernel_rfl) (show Go.Proofs.Try.f28.body = some (bodyOf Go.Proofs.Try.f28) by kernel_rfl) (F619.sem 1 xs.1 hc)
theorem F622.eok : EOk Go.Proofs.Try.prog F622.E := eo calls_nil
theorem ok622 : HandOk Go.Proofs.Try.prog inv 32 h_fitsX := hand_if fun xs hc => callW_ok (own := false) (k := 4000) F622.eok mixed Go.Proofs.Try.func32 (by kernel_rfl) (show Go.Proofs.Try.f32.body = some (bodyOf Go.Proofs.Try.f32) by kernel_rfl) (F622.sem xs.1.1 xs.1.2 xs.2.1 hc)
theorem F623.eok : EOk Go.Proofs.Try.prog F623.E := eo calls_nil
theorem ok623 : HandOk Go.Proofs.Try.prog inv 33 h_roundX := hand_if fun xs hc => callW_ok (own := false) (k := 2000) F623.eok mixed Go.Proofs.Try.func33 (by kernel_rfl) (show Go.Proofs.Try.f33.body = some (bodyOf Go.Proofs.Try.f33) by kernel_rfl) (F623.sem xs.1 hc)
theorem F624.eok : EOk Go.Proofs.Try.prog F624.E := eo calls_nil
theorem ok624 : HandOk Go.Proofs.Try.prog inv 34 h_countedX := hand_if fun xs hc => callW_ok (own := false) (k := 4000) F624.eok mixed Go.Proofs.Try.func34 (by kernel_rfl) (show Go.Proofs.Try.f34.body = some (bodyOf Go.Proofs.Try.f34) by kernel_rfl) (F624.sem xs.1.1 xs.1.2 xs.2.1 hc)
theorem F453.eok : EOk Go.Proofs.Try.prog F453.E := eo calls_nil
theorem ok453 : HandOk Go.Proofs.Try.prog inv 67 h_nanI := hand_un fun xs => callW_ok (own := false) (k := 1) F453.eok mixed Go.Proofs.Try.func67 (by kernel_rfl) (show Go.Proofs.Try.f67.body = some (bodyOf Go.Proofs.Try.f67) by kernel_rfl) (F453.start_eq 1 xs.1)
theorem F669.eok : EOk Go.Proofs.Try.prog F669.E := eo (calls_cons ok453 calls_nil)
theorem ok669 : HandOk Go.Proofs.Try.prog inv 54 h_cmpI := hand_un fun xs => callW_ok (own := false) (k := 1) F669.eok mixed Go.Proofs.Try.func54 (by kernel_rfl) (show Go.Proofs.Try.f54.body = some (bodyOf Go.Proofs.Try.f54) by kernel_rfl) (F669.sem 1 xs.1 xs.2.1)
theorem F625.eok : EOk Go.Proofs.Try.prog F625.E := eo (calls_cons ok669 calls_nil)
theorem ok625 : HandOk Go.Proofs.Try.prog inv 35 h_cmpX := hand_if fun xs hc => callW_ok (own := false) (k := 2000) F625.eok mixed Go.Proofs.Try.func35 (by kernel_rfl) (show Go.Proofs.Try.f35.body = some (bodyOf Go.Proofs.Try.f35) by kernel_rfl) (F625.sem xs.1 xs.2.1 hc)
theorem F626.eok : EOk Go.Proofs.Try.prog F626.E := eo calls_nil
theorem ok626 : HandOk Go.Proofs.Try.prog inv 36 h_inverseX := hand_if fun xs hc => callW_ok (own := false) (k := 2000) F626.eok mixed Go.Proofs.Try.func36 (by kernel_rfl) (show Go.Proofs.Try.f36.body = some (bodyOf Go.Proofs.Try.f36) by kernel_rfl) (F626.sem xs.1 xs.2.1 hc)
theorem F627.eok : EOk Go.Proofs.Try.prog F627.E := eo calls_nil
theorem ok627 : HandOk Go.Proofs.Try.prog inv 37 h_arithX := hand_if fun xs hc => callW_ok (own := false) (k := 1) F627.eok mixed Go.Proofs.Try.func37 (by kernel_rfl) (show Go.Proofs.Try.f37.body = some (bodyOf Go.Proofs.Try.f37) by kernel_rfl) (F627.sem 1 xs.1.1 xs.1.2 xs.2.1 hc)
theorem F567.eok : EOk Go.Proofs.Try.prog F567.E := eo (calls_cons ok76 (calls_cons ok77 (calls_cons ok616 (calls_cons ok617 (calls_cons ok618 (calls_cons ok619 (calls_cons ok107 (calls_cons ok622 (calls_cons ok623 (calls_cons ok624 (calls_cons ok625 (calls_cons ok626 (calls_cons ok627 calls_nil)))))))))))))
theorem ok567 : HandOk Go.Proofs.Try.prog inv 8 h_holdsX := hand_if fun xs hc => callW_ok (own := false) (k := 1) F567.eok mixed Go.Proofs.Try.func8 (by kernel_rfl) (show Go.Proofs.Try.f8.body = some (bodyOf Go.Proofs.Try.f8) by kernel_rfl) (F567.sem 1 xs.1.1 xs.1.2 xs.2.1 hc)
end Go.Proofs.Ytohdaehblenokaa.Ev
