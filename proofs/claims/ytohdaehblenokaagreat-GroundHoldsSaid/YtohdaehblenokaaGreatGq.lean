/-
Does a constraint hold, the document's answer: sums, rows, tasks, circuits, numbers of values.
Conditions: as the handlers ask.
Does a constraint hold, the document's answer: numbers of values, pairs, linear ones.
Conditions: as the handlers ask.
-/
import Derived.Test.YtohdaehblenokaaGreatGo
import Derived.Test.YtohdaehblenokaaGreatGe
set_option linter.unusedVariables false
set_option linter.unusedSimpArgs false
set_option maxRecDepth 100000
namespace Go.Proofs.YtohdaehblenokaaGreat.Ev
open Go
theorem any_idx {l : List Int} (p : Int → Bool) : List.any l p = (List.range l.length).any fun i => p (l.getD i 0) := by
 rw [Bool.eq_iff_iff, List.any_eq_true, List.any_eq_true]
 constructor
 ·rintro ⟨x, hx, h⟩
  obtain ⟨i, hi, rfl⟩ := List.getElem_of_mem hx
  exact ⟨i, List.mem_range.mpr hi, by rw [get_of hi]; exact h⟩
 ·rintro ⟨i, hi, h⟩
  have hi := List.mem_range.mp hi
  exact ⟨_, getD_mem hi 0, h⟩
theorem val_mill {l a : List Int} (hp : placesB1 l a = true) (h : a.all millB = true) {i : Nat} (hi : i < l.length) : -1000000 ≤ (valuesL l a).getD i 0 ∧ (valuesL l a).getD i 0 ≤ 1000000 := by
 rw [values_get hi]
 have := (places_iff hp).2 i hi
 exact mill_of h (by omega)
theorem F84.sem (kk : Int) (c : RestG) (a : List Int) (h : sumYB (kk, c) a = true) : callW F84.E false F84.fn 2000 [.agg (explode ConT (kk, c)), .v (.sl (.int .i64)) a] = some (.v (.int .i64) (sumY (kk, c) a)) := by
 unfold sumYB at h
 simp only [Bool.and_eq_true, decide_eq_true_eq] at h
 obtain ⟨⟨⟨hp, hC⟩, ha⟩, hl⟩ := h
 obtain ⟨c1, c2⟩ := mills_iff hC
 obtain ⟨p1, p2⟩ := places_iff hp
 have p1 : c.1.length ≤ 1000 := p1
 have p2 : ∀ i, i < c.1.length → 0 ≤ c.1.getD i 0 ∧ c.1.getD i 0 < (a.length : Int) := p2
 refine (F84.start_eq 2000 kk c a).trans ?_
 show _ = some (AV.v (.int .i64) (dotL c.2.2.1 (valuesL c.1 a)))
 have vl := values_len c.1 a
 have key : ∀ (d i n : Nat) (acc : Int), i + d = c.1.length → d < n → -1000000000000 * (i : Int) ≤ acc → acc ≤ 1000000000000 * (i : Int) →
   F84.l1_1_0_1_0 n (F84.kt 2000 [1, 1, 0, 1, 0]) a acc (i : Int) kk c.1 c.2.1 c.2.2.1 c.2.2.2.1 c.2.2.2.2.1 c.2.2.2.2.2.1 c.2.2.2.2.2.2 = some (.v (.int .i64) (acc + dotL (c.2.2.1.drop i) ((valuesL c.1 a).drop i))) := by
  intro d
  induction d with
  | zero =>
   intro i n acc h1 h2 _ _
   obtain ⟨n', rfl⟩ : ∃ n', n = n' + 1 := ⟨n - 1, by omega⟩
   obtain rfl : i = c.1.length := by omega
   refine (F84.l1_1_0_1_0_eq ..).trans (self_lt'.trans ((F84.c0 2000 acc).trans ?_))
   rw [List.drop_of_length_le (show c.2.2.1.length ≤ c.1.length by omega)]
   have : acc + dotL [] ((valuesL c.1 a).drop c.1.length) = acc := by unfold dotL; omega
   rw [this]
  | succ d ih =>
   intro i n acc h1 h2 l1 l2
   obtain ⟨n', rfl⟩ : ∃ n', n = n' + 1 := ⟨n - 1, by omega⟩
   have hi : i < c.1.length := by omega
   have hic : i < c.2.2.1.length := by omega
   have hix : i < (valuesL c.1 a).length := by omega
   have p := mul_mill (mill_of c2 hic) (val_mill hp ha hi)
   refine (F84.l1_1_0_1_0_eq ..).trans ((bT' (lt_natG hi)).trans ((bT' (in_natG hic)).trans ((bT' (in_natG hi)).trans ?_)))
   rw [Int.toNat_natCast, wrap1 (by omega), ← values_get hi, wrap_ok (x := c.2.2.1.getD i 0 * (valuesL c.1 a).getD i 0) (by omega) (by omega), wrap_ok (by omega) (by omega), drop_getD hic 0, drop_getD hix 0]
   unfold dotL
   refine (bT' (in_place (p2 i hi))).trans ((ih (i + 1) n' _ (by omega) (by omega) (by omega) (by omega)).trans ?_)
   rw [Int.add_assoc]
 have := key c.1.length 0 2000 0 (by omega) (by omega) (by omega) (by omega)
 rw [Int.zero_add] at this
 exact this
theorem dec_cons (x y : Int) (s t : List Int) : decide (x :: s = y :: t) = (decide (x = y) && decide (s = t)) := by
 rw [Bool.eq_iff_iff, Bool.and_eq_true, decide_eq_true_eq, decide_eq_true_eq, decide_eq_true_eq]
 simp
theorem F59.sem (kk : Int) (c : RestG) (a : List Int) (h : rowYB (kk, c) a = true) : callW F59.E false F59.fn 4000 [.agg (explode ConT (kk, c)), .v (.sl (.int .i64)) a] = some (.v .bool (rowY (kk, c) a)) := by
 unfold rowYB at h
 simp only [Bool.and_eq_true, Nat.ble_eq, List.all_eq_true, decide_eq_true_eq] at h
 obtain ⟨⟨hp, hr⟩, hl⟩ := h
 obtain ⟨p1, p2⟩ := places_iff hp
 have p1 : c.1.length ≤ 1000 := p1
 have p2 : ∀ i, i < c.1.length → 0 ≤ c.1.getD i 0 ∧ c.1.getD i 0 < (a.length : Int) := p2
 refine (F59.start_eq 4000 kk c a).trans ?_
 have vl := values_len c.1 a
 show _ = some (AV.v .bool (List.any c.2.2.2.2.2.2 (rowEqB (valuesL c.1 a))))
 refine (any_loop (fun n i => F59.l1_0_1_0 n (F59.kt 4000 [1, 0, 1, 0]) a i kk c.1 c.2.1 c.2.2.1 c.2.2.2.1 c.2.2.2.2.1 c.2.2.2.2.2.1 c.2.2.2.2.2.2) c.2.2.2.2.2.2 (rowEqB (valuesL c.1 a)) (some (.v .bool true)) (some (.v .bool false)) 1500 (by omega) (fun n => (F59.l1_0_1_0_eq ..).trans (self_lt'.trans (F59.c0 4000))) (fun n i hi hn => ?_) 4000 (by omega)).trans ?_
 ·have e : c.2.2.2.2.2.2[i] = c.2.2.2.2.2.2.getD i [] := by rw [List.getD_eq_getElem?_getD, List.getElem?_eq_getElem hi]; rfl
  rw [e]
  have hrl := hl _ (getD_mem hi [])
  refine (F59.l1_0_1_0_eq ..).trans ((bT' (lt_natG hi)).trans ?_)
  have key : ∀ (d j m : Nat) (ok : Bool), j + d = c.1.length → d < m →
    F59.l1_0_1_0_0_1_0_0_1_0_1_0 m (F59.k_l1_0_1_0 n (F59.kt 4000 [1, 0, 1, 0]) [1, 0, 0, 1, 0, 1, 0]) a (i : Int) ok (j : Int) kk c.1 c.2.1 c.2.2.1 c.2.2.2.1 c.2.2.2.2.1 c.2.2.2.2.2.1 c.2.2.2.2.2.2 =
    bif ok && decide ((c.2.2.2.2.2.2.getD i []).drop j = (valuesL c.1 a).drop j) then some (.v .bool true) else F59.l1_0_1_0 n (F59.kt 4000 [1, 0, 1, 0]) a (IntKind.i64.wrap ((i : Int) + 1)) kk c.1 c.2.1 c.2.2.1 c.2.2.2.1 c.2.2.2.2.1 c.2.2.2.2.2.1 c.2.2.2.2.2.2 := by
   intro d
   induction d with
   | zero =>
    intro j m ok h1 h2
    obtain ⟨m', rfl⟩ : ∃ m', m = m' + 1 := ⟨m - 1, by omega⟩
    obtain rfl : j = c.1.length := by omega
    refine (F59.l1_0_1_0_0_1_0_0_1_0_1_0_eq ..).trans (self_lt'.trans ((F59.c1 ..).trans ?_))
    rw [List.drop_of_length_le (show (c.2.2.2.2.2.2.getD i []).length ≤ c.1.length by exact Nat.le_of_eq hrl), List.drop_of_length_le (show (valuesL c.1 a).length ≤ c.1.length by omega), decide_eq_true rfl, F59.c2]
    cases ok <;> rfl
   | succ d ih =>
    intro j m ok h1 h2
    obtain ⟨m', rfl⟩ : ∃ m', m = m' + 1 := ⟨m - 1, by omega⟩
    have hj : j < c.1.length := by omega
    have hjr : j < (c.2.2.2.2.2.2.getD i []).length := by
     have : (c.2.2.2.2.2.2.getD i []).length = c.1.length := hrl
     omega
    have hjx : j < (valuesL c.1 a).length := by omega
    refine (F59.l1_0_1_0_0_1_0_0_1_0_1_0_eq ..).trans ((bT' (lt_natG hj)).trans ?_)
    rw [Int.toNat_natCast, Int.toNat_natCast, wrap1 (by omega), drop_getD hjr 0, drop_getD hjx 0, dec_cons, ← values_get hj]
    cases ok with
    | true =>
     refine (bT' rfl).trans ((bT' (in_natG hi)).trans ((bT' (in_natG hjr)).trans ((bT' (in_natG hj)).trans ((bT' (in_place (p2 j hj))).trans ((ih (j + 1) m' _ (by omega) (by omega)).trans ?_)))))
     rw [Bool.true_and]
    | false => exact (bF' rfl).trans ((ih (j + 1) m' false (by omega) (by omega)).trans rfl)
  have := key c.1.length 0 n true (by omega) (by omega)
  rw [List.drop_zero, List.drop_zero, Bool.true_and] at this
  exact this
 ·cases List.any c.2.2.2.2.2.2 (rowEqB (valuesL c.1 a)) <;> rfl
theorem F86.sem (kk : Int) (c : RestG) (a : List Int) (t : Int) (h : runsYB (kk, c) a t = true) : callW F86.E false F86.fn 2000 [.agg (explode ConT (kk, c)), .v (.sl (.int .i64)) a, .v (.int .i64) t] = some (.v (.int .i64) (runsY (kk, c) a t)) := by
 unfold runsYB cumYB fitLB at h
 simp only [Bool.and_eq_true, decide_eq_true_eq] at h
 obtain ⟨⟨hp, ⟨⟨⟨hC, hD⟩, hx⟩, lC⟩, lD⟩, ht⟩ := h
 have bt := mill_iff.mp ht
 obtain ⟨p1, p2⟩ := places_iff hp
 have p1 : c.1.length ≤ 1000 := p1
 have p2 : ∀ i, i < c.1.length → 0 ≤ c.1.getD i 0 ∧ c.1.getD i 0 < (a.length : Int) := p2
 obtain ⟨c1, c2⟩ := mills_iff hC
 obtain ⟨d1, d2⟩ := mills_iff hD
 obtain ⟨x1, x2⟩ := mills_iff hx
 have vl : (valuesL c.1 a).length = c.1.length := values_len c.1 a
 have lC : c.2.2.1.length = (valuesL c.1 a).length := lC
 have lD : c.2.2.2.1.length = (valuesL c.1 a).length := lD
 refine (F86.start_eq 2000 kk c a t).trans ?_
 show _ = some (AV.v (.int .i64) (loadGo t (valuesL c.1 a) c.2.2.1 c.2.2.2.1))
 have key : ∀ (d j m : Nat) (acc : Int), j + d = c.1.length → d < m → -1000000 * (j : Int) ≤ acc → acc ≤ 1000000 * (j : Int) →
   F86.l1_1_0_1_0 m (F86.kt 2000 [1, 1, 0, 1, 0]) a t acc (j : Int) kk c.1 c.2.1 c.2.2.1 c.2.2.2.1 c.2.2.2.2.1 c.2.2.2.2.2.1 c.2.2.2.2.2.2 = some (.v (.int .i64) (acc + loadGo t ((valuesL c.1 a).drop j) (c.2.2.1.drop j) (c.2.2.2.1.drop j))) := by
  intro d
  induction d with
  | zero =>
   intro j m acc h1 h2 _ _
   obtain ⟨m', rfl⟩ : ∃ m', m = m' + 1 := ⟨m - 1, by omega⟩
   obtain rfl : j = c.1.length := by omega
   refine (F86.l1_1_0_1_0_eq ..).trans (self_lt'.trans ((F86.c0 2000 acc).trans ?_))
   have e : acc + loadGo t ((valuesL c.1 a).drop c.1.length) (c.2.2.1.drop c.1.length) (c.2.2.2.1.drop c.1.length) = acc := by
    rw [List.drop_of_length_le (show (valuesL c.1 a).length ≤ c.1.length by omega)]
    unfold loadGo
    omega
   rw [e]
  | succ d ih =>
   intro j m acc h1 h2 h3 h4
   obtain ⟨m', rfl⟩ : ∃ m', m = m' + 1 := ⟨m - 1, by omega⟩
   have hj : j < c.1.length := by omega
   have hjx : j < (valuesL c.1 a).length := by omega
   have hjc : j < c.2.2.1.length := by omega
   have hjd : j < c.2.2.2.1.length := by omega
   have bx := mill_of x2 hjx
   have bc := mill_of c2 hjc
   have bd := mill_of d2 hjd
   refine (F86.l1_1_0_1_0_eq ..).trans ((bT' (lt_natG hj)).trans ((bT' (in_natG hj)).trans ?_))
   rw [Int.toNat_natCast, wrap1 (by omega), ← values_get hj, load_drop t hjx hjc hjd]
   refine (bT' (in_place (p2 j hj))).trans ?_
   by_cases q1 : (valuesL c.1 a).getD j 0 ≤ t
   ·refine (bT' (decide_eq_true q1)).trans ((bT' (in_natG hjc)).trans ?_)
    rw [wrap_ok (x := t - (valuesL c.1 a).getD j 0) (by omega) (by omega)]
    by_cases q2 : t < (valuesL c.1 a).getD j 0 + c.2.2.1.getD j 0
    ·rw [if_pos ⟨q1, q2⟩, ← Int.add_assoc, wrap_ok (x := acc + c.2.2.2.1.getD j 0) (by omega) (by omega)]
     exact (bT' (decide_eq_true (by omega))).trans ((bT' (in_natG hjd)).trans (ih (j + 1) m' _ (by omega) (by omega) (by omega) (by omega)))
    ·rw [if_neg (fun h => q2 h.2), Int.zero_add]
     exact (bF' (decide_eq_false (by omega))).trans (ih (j + 1) m' acc (by omega) (by omega) (by omega) (by omega))
   ·rw [if_neg (fun h => q1 h.1), Int.zero_add]
    exact (bF' (decide_eq_false q1)).trans (ih (j + 1) m' acc (by omega) (by omega) (by omega) (by omega))
 have := key c.1.length 0 2000 0 (by omega) (by omega) (by omega) (by omega)
 rw [List.drop_zero, List.drop_zero, List.drop_zero, Int.zero_add] at this
 exact this
theorem F60.sem (kk : Int) (c : RestG) (a : List Int) (h : cumYB (kk, c) a = true) : callW F60.E false F60.fn 2000 [.agg (explode ConT (kk, c)), .v (.sl (.int .i64)) a] = some (.v .bool (cumY (kk, c) a)) := by
 have h0 := h
 unfold cumYB fitLB at h0
 simp only [Bool.and_eq_true, decide_eq_true_eq] at h0
 obtain ⟨hp, ⟨⟨⟨hC, hD⟩, hx⟩, lC⟩, lD⟩ := h0
 obtain ⟨p1, p2⟩ := places_iff hp
 have p1 : c.1.length ≤ 1000 := p1
 have p2 : ∀ i, i < c.1.length → 0 ≤ c.1.getD i 0 ∧ c.1.getD i 0 < (a.length : Int) := p2
 obtain ⟨x1, x2⟩ := mills_iff hx
 have vl : (valuesL c.1 a).length = c.1.length := values_len c.1 a
 refine (F60.start_eq 2000 kk c a).trans ?_
 have e0 : cumY (kk, c) a = !((List.range c.1.length).any fun i => decide (loadGo ((valuesL c.1 a).getD i 0) (valuesL c.1 a) c.2.2.1 c.2.2.2.1 > c.2.2.2.2.2.1)) := by
  show ((valuesL c.1 a).all fun t => decide (loadGo t (valuesL c.1 a) c.2.2.1 c.2.2.2.1 ≤ c.2.2.2.2.2.1)) = _
  rw [List.all_eq_not_any_not, any_idx, vl]
  congr 2
  funext i
  rw [Bool.eq_iff_iff, Bool.not_eq_true', decide_eq_true_eq, decide_eq_false_iff_not]
  omega
 rw [e0]
 refine (any_range (fun n i => F60.l1_0_1_0 n (F60.kt 2000 [1, 0, 1, 0]) a i kk c.1 c.2.1 c.2.2.1 c.2.2.2.1 c.2.2.2.2.1 c.2.2.2.2.2.1 c.2.2.2.2.2.2) c.1.length (fun i => decide (loadGo ((valuesL c.1 a).getD i 0) (valuesL c.1 a) c.2.2.1 c.2.2.2.1 > c.2.2.2.2.2.1)) (some (.v .bool false)) (some (.v .bool true)) 0 (by omega)
  (fun n _ => (F60.l1_0_1_0_eq ..).trans (self_lt'.trans (F60.c1 2000))) (fun n i hi _ => ?_) 2000 (by omega)).trans ?_
 ·refine (F60.l1_0_1_0_eq ..).trans ((bT' (lt_natG hi)).trans ((bT' (in_natG hi)).trans ?_))
  rw [Int.toNat_natCast, ← values_get hi]
  have hr : runsYB (kk, c) a ((valuesL c.1 a).getD i 0) = true := by
   unfold runsYB
   rw [h, mill_iff.mpr (mill_of x2 (by omega))]
   rfl
  refine (bT' (in_place (p2 i hi))).trans ((bT' hr).trans ?_)
  rw [F60.c0]
  rfl
 ·cases (List.range c.1.length).any (fun i => decide (loadGo ((valuesL c.1 a).getD i 0) (valuesL c.1 a) c.2.2.1 c.2.2.2.1 > c.2.2.2.2.2.1)) <;> rfl
theorem circGo_succ (x : List Int) (m i : Nat) (met : List Bool) : circGo x (m + 1) i met = if x.getD i 0 < 1 ∨ x.getD i 0 > (x.length : Int) then false else if met.getD (x.getD i 0 - 1).toNat false then false else circGo x m (x.getD i 0 - 1).toNat (met.set (x.getD i 0 - 1).toNat true) := rfl
theorem F61.sem (kk : Int) (c : RestG) (a : List Int) (h : circYB (kk, c) a = true) : callW F61.E false F61.fn 2000 [.agg (explode ConT (kk, c)), .v (.sl (.int .i64)) a] = some (.v .bool (circY (kk, c) a)) := by
 unfold circYB at h
 rw [Bool.and_eq_true, decide_eq_true_eq] at h
 obtain ⟨hp, h0⟩ := h
 obtain ⟨p1, p2⟩ := places_iff hp
 have p1 : c.1.length ≤ 1000 := p1
 have p2 : ∀ i, i < c.1.length → 0 ≤ c.1.getD i 0 ∧ c.1.getD i 0 < (a.length : Int) := p2
 have h0 : 0 < c.1.length := h0
 have vl : (valuesL c.1 a).length = c.1.length := values_len c.1 a
 refine (F61.start_eq 2000 kk c a).trans ?_
 have hlim : (decide (0 ≤ (c.1.length : Int)) && decide ((c.1.length : Int).toNat * 1 ≤ LIM)) = true := by
  have e : decide ((c.1.length : Int).toNat * 1 ≤ LIM) = true := decide_eq_true (show (c.1.length : Int).toNat * 1 ≤ 140737488355328 by rw [Int.toNat_natCast]; omega)
  rw [decide_eq_true (show (0 : Int) ≤ (c.1.length : Int) by omega), e]
  rfl
 refine (bT' hlim).trans ?_
 rw [Int.toNat_natCast]
 show _ = some (AV.v .bool (circGo (valuesL c.1 a) c.1.length 0 (List.replicate c.1.length false)))
 have key : ∀ (m k n i : Nat) (met : List Bool), k + m = c.1.length → m < n → i < c.1.length → met.length = c.1.length →
   F61.l1_1_1_1_0_1_0 n (F61.kt 2000 [1, 1, 1, 1, 0, 1, 0]) a (c.1.length : Int) (i : Int) (k : Int) kk c.1 c.2.1 c.2.2.1 c.2.2.2.1 c.2.2.2.2.1 c.2.2.2.2.2.1 c.2.2.2.2.2.2 met = some (.v .bool (circGo (valuesL c.1 a) m i met)) := by
  intro m
  induction m with
  | zero =>
   intro k n i met h1 h2 hi hm
   obtain ⟨n', rfl⟩ : ∃ n', n = n' + 1 := ⟨n - 1, by omega⟩
   obtain rfl : k = c.1.length := by omega
   refine (F61.l1_1_1_1_0_1_0_eq ..).trans (self_lt'.trans ((F61.c1 2000 _).trans ?_))
   have e : circGo (valuesL c.1 a) 0 i met = decide (i = 0) := rfl
   have e2 : decide ((i : Int) = 0) = decide (i = 0) := by rw [Bool.eq_iff_iff, decide_eq_true_eq, decide_eq_true_eq]; omega
   rw [e, e2]
  | succ m ih =>
   intro k n i met h1 h2 hi hm
   obtain ⟨n', rfl⟩ : ∃ n', n = n' + 1 := ⟨n - 1, by omega⟩
   refine (F61.l1_1_1_1_0_1_0_eq ..).trans ((bT' (lt_natG (show k < c.1.length by omega))).trans ((bT' (in_natG hi)).trans ?_))
   rw [Int.toNat_natCast, ← values_get hi, circGo_succ, vl, wrap1 (by omega)]
   refine (bT' (in_place (p2 i hi))).trans ?_
   generalize (valuesL c.1 a).getD i 0 = v
   by_cases q1 : v < 1
   ·rw [if_pos (.inl q1)]
    exact (bT' (decide_eq_true q1)).trans (F61.c0 2000)
   ·refine (bF' (decide_eq_false q1)).trans ?_
    by_cases q2 : v > (c.1.length : Int)
    ·rw [if_pos (.inr q2)]
     exact (bT' (decide_eq_true q2)).trans (F61.c0 2000)
    ·rw [if_neg (by omega), wrap_ok (x := v - 1) (by omega) (by omega)]
     have hin : (decide (0 ≤ v - 1) && decide (v - 1 < (met.length : Int))) = true := by
      rw [decide_eq_true (show 0 ≤ v - 1 by omega), decide_eq_true (show v - 1 < (met.length : Int) by omega)]
      rfl
     refine (bF' (decide_eq_false q2)).trans ((bT' hin).trans ?_)
     cases hq : met.getD (v - 1).toNat false with
     | true => exact (bT' rfl).trans (F61.c0 2000)
     | false =>
      refine (bF' rfl).trans ((bT' hin).trans ?_)
      have := ih (k + 1) n' (v - 1).toNat (met.set (v - 1).toNat true) (by omega) (by omega) (by omega) (by rw [List.length_set]; exact hm)
      have e : (((v - 1).toNat : Nat) : Int) = v - 1 := by omega
      rw [e] at this
      exact this
 exact key c.1.length 0 2000 0 _ (by omega) (by omega) h0 (List.length_replicate ..)
end Go.Proofs.YtohdaehblenokaaGreat.Ev
set_option linter.unusedVariables false
set_option linter.unusedSimpArgs false
set_option maxRecDepth 100000
namespace Go.Proofs.YtohdaehblenokaaGreat.Ev
open Go
theorem F62.sem (kk : Int) (c : RestG) (a : List Int) (h : gccYB (kk, c) a = true) : callW F62.E false F62.fn 4000 [.agg (explode ConT (kk, c)), .v (.sl (.int .i64)) a] = some (.v .bool (gccY (kk, c) a)) := by
 unfold gccYB gccLB at h
 simp only [Bool.and_eq_true, decide_eq_true_eq, Nat.ble_eq] at h
 obtain ⟨hp, ⟨⟨hC, hx⟩, hD⟩, hE⟩ := h
 obtain ⟨p1, p2⟩ := places_iff hp
 have p1 : c.1.length ≤ 1000 := p1
 have p2 : ∀ i, i < c.1.length → 0 ≤ c.1.getD i 0 ∧ c.1.getD i 0 < (a.length : Int) := p2
 have vl : (valuesL c.1 a).length = c.1.length := values_len c.1 a
 refine (F62.start_eq 4000 kk c a).trans ?_
 show _ = some (AV.v .bool (!((List.range c.2.2.1.length).any fun i => decide (cntL (valuesL c.1 a) (c.2.2.1.getD i 0) < c.2.2.2.1.getD i 0) || decide (cntL (valuesL c.1 a) (c.2.2.1.getD i 0) > c.2.2.2.2.1.getD i 0))))
 refine (any_range (fun n i => F62.l1_0_1_0 n (F62.kt 4000 [1, 0, 1, 0]) a i kk c.1 c.2.1 c.2.2.1 c.2.2.2.1 c.2.2.2.2.1 c.2.2.2.2.2.1 c.2.2.2.2.2.2) c.2.2.1.length (fun i => decide (cntL (valuesL c.1 a) (c.2.2.1.getD i 0) < c.2.2.2.1.getD i 0) || decide (cntL (valuesL c.1 a) (c.2.2.1.getD i 0) > c.2.2.2.2.1.getD i 0)) (some (.v .bool false)) (some (.v .bool true)) 1500 (by omega)
  (fun n _ => (F62.l1_0_1_0_eq ..).trans (self_lt'.trans (F62.c0 4000))) (fun n i hi hn => ?_) 4000 (by omega)).trans ?_
 ·refine (F62.l1_0_1_0_eq ..).trans ((bT' (lt_natG hi)).trans ?_)
  have key : ∀ (d j m : Nat) (acc : Int), j + d = c.1.length → d < m → 0 ≤ acc → acc ≤ (j : Int) →
    F62.l1_0_1_0_0_1_0_0_1_0_1_0 m (F62.k_l1_0_1_0 n (F62.kt 4000 [1, 0, 1, 0]) [1, 0, 0, 1, 0, 1, 0]) a (i : Int) acc (j : Int) kk c.1 c.2.1 c.2.2.1 c.2.2.2.1 c.2.2.2.2.1 c.2.2.2.2.2.1 c.2.2.2.2.2.2 =
    bif decide (acc + cntL ((valuesL c.1 a).drop j) (c.2.2.1.getD i 0) < c.2.2.2.1.getD i 0) || decide (acc + cntL ((valuesL c.1 a).drop j) (c.2.2.1.getD i 0) > c.2.2.2.2.1.getD i 0) then some (.v .bool false) else F62.l1_0_1_0 n (F62.kt 4000 [1, 0, 1, 0]) a (IntKind.i64.wrap ((i : Int) + 1)) kk c.1 c.2.1 c.2.2.1 c.2.2.2.1 c.2.2.2.2.1 c.2.2.2.2.2.1 c.2.2.2.2.2.2 := by
   intro d
   induction d with
   | zero =>
    intro j m acc h1 h2 _ _
    obtain ⟨m', rfl⟩ : ∃ m', m = m' + 1 := ⟨m - 1, by omega⟩
    obtain rfl : j = c.1.length := by omega
    refine (F62.l1_0_1_0_0_1_0_0_1_0_1_0_eq ..).trans (self_lt'.trans ((F62.c1 ..).trans ?_))
    have e : acc + cntL ((valuesL c.1 a).drop c.1.length) (c.2.2.1.getD i 0) = acc := by rw [List.drop_of_length_le (show (valuesL c.1 a).length ≤ c.1.length by omega)]; unfold cntL; simp
    rw [e, F62.c2, Int.toNat_natCast]
    refine (bT' (in_natG (show i < c.2.2.2.1.length by omega))).trans ?_
    cases decide (acc < c.2.2.2.1.getD i 0) with
    | true => rfl
    | false => exact (bF' rfl).trans (bT' (in_natG (show i < c.2.2.2.2.1.length by omega)))
   | succ d ih =>
    intro j m acc h1 h2 h3 h4
    obtain ⟨m', rfl⟩ : ∃ m', m = m' + 1 := ⟨m - 1, by omega⟩
    have hj : j < c.1.length := by omega
    have hjx : j < (valuesL c.1 a).length := by omega
    refine (F62.l1_0_1_0_0_1_0_0_1_0_1_0_eq ..).trans ((bT' (lt_natG hj)).trans ((bT' (in_natG hj)).trans ?_))
    rw [Int.toNat_natCast, Int.toNat_natCast, wrap1 (by omega), ← values_get hj, cnt_drop (valuesL c.1 a) (c.2.2.1.getD i 0) hjx, wrap_ok (x := acc + 1) (by omega) (by omega)]
    refine (bT' (in_place (p2 j hj))).trans ((bT' (in_natG hi)).trans ?_)
    by_cases e : (valuesL c.1 a).getD j 0 = c.2.2.1.getD i 0
    ·rw [if_pos e, ← Int.add_assoc]
     exact (bT' (decide_eq_true e)).trans (ih (j + 1) m' (acc + 1) (by omega) (by omega) (by omega) (by omega))
    ·rw [if_neg e, Int.zero_add]
     exact (bF' (decide_eq_false e)).trans (ih (j + 1) m' acc (by omega) (by omega) h3 (by omega))
  have := key c.1.length 0 n 0 (by omega) (by omega) (by omega) (by omega)
  rw [List.drop_zero, Int.zero_add] at this
  exact this
 ·cases (List.range c.2.2.1.length).any (fun i => decide (cntL (valuesL c.1 a) (c.2.2.1.getD i 0) < c.2.2.2.1.getD i 0) || decide (cntL (valuesL c.1 a) (c.2.2.1.getD i 0) > c.2.2.2.2.1.getD i 0)) <;> rfl
theorem lexY_cons (x y : Int) (s t : List Int) : lexY (x :: s) (y :: t) = if x = y then lexY s t else decide (x < y) := rfl
theorem F63.sem (kk : Int) (c : RestG) (a : List Int) (h : pairsYB (kk, c) a = true) : callW F63.E false F63.fn 4000 [.agg (explode ConT (kk, c)), .v (.sl (.int .i64)) a] = some (.v .bool (pairsY (kk, c) a)) := by
 unfold pairsYB at h
 rw [Bool.and_eq_true, Bool.and_eq_true, decide_eq_true_eq] at h
 obtain ⟨⟨hp, hq⟩, hl⟩ := h
 obtain ⟨p1, p2⟩ := places_iff hp
 obtain ⟨q1, q2⟩ := places_iff hq
 have p1 : c.1.length ≤ 1000 := p1
 have hl : c.2.1.length = c.1.length := hl
 have p2 : ∀ i, i < c.1.length → 0 ≤ c.1.getD i 0 ∧ c.1.getD i 0 < (a.length : Int) := p2
 have q2 : ∀ i, i < c.2.1.length → 0 ≤ c.2.1.getD i 0 ∧ c.2.1.getD i 0 < (a.length : Int) := q2
 have vx : (valuesL c.1 a).length = c.1.length := values_len c.1 a
 have vy : (valuesL c.2.1 a).length = c.2.1.length := values_len c.2.1 a
 refine (F63.start_eq 4000 kk c a).trans ?_
 have e0 : pairsY (kk, c) a = bif decide (kk = 22) then lexY (valuesL c.1 a) (valuesL c.2.1 a) else invY (valuesL c.1 a) (valuesL c.2.1 a) := rfl
 rw [e0]
 cases decide (kk = 22) with
 | true =>
  refine (bT' rfl).trans ?_
  show _ = some (AV.v .bool (lexY (valuesL c.1 a) (valuesL c.2.1 a)))
  have key : ∀ (d i n : Nat), i + d = c.1.length → d < n → F63.l1_1_0_1_0_0_1_0 n (F63.kt 4000 [1, 1, 0, 1, 0, 0, 1, 0]) a (c.1.length : Int) (i : Int) kk c.1 c.2.1 c.2.2.1 c.2.2.2.1 c.2.2.2.2.1 c.2.2.2.2.2.1 c.2.2.2.2.2.2 = some (.v .bool (lexY ((valuesL c.1 a).drop i) ((valuesL c.2.1 a).drop i))) := by
   intro d
   induction d with
   | zero =>
    intro i n h1 h2
    obtain ⟨n', rfl⟩ : ∃ n', n = n' + 1 := ⟨n - 1, by omega⟩
    obtain rfl : i = c.1.length := by omega
    rw [List.drop_of_length_le (show (valuesL c.1 a).length ≤ c.1.length by omega), List.drop_of_length_le (show (valuesL c.2.1 a).length ≤ c.1.length by omega)]
    exact (F63.l1_1_0_1_0_0_1_0_eq ..).trans (self_lt'.trans (F63.c1 4000))
   | succ d ih =>
    intro i n h1 h2
    obtain ⟨n', rfl⟩ : ∃ n', n = n' + 1 := ⟨n - 1, by omega⟩
    have hi : i < c.1.length := by omega
    have hib : i < c.2.1.length := by omega
    refine (F63.l1_1_0_1_0_0_1_0_eq ..).trans ((bT' (lt_natG hi)).trans ((bT' (in_natG hi)).trans ?_))
    rw [Int.toNat_natCast, wrap1 (by omega), ← values_get hi, ← values_get hib, drop_getD (show i < (valuesL c.1 a).length by omega) 0, drop_getD (show i < (valuesL c.2.1 a).length by omega) 0, lexY_cons]
    refine (bT' (in_place (p2 i hi))).trans ((bT' (in_natG hib)).trans ((bT' (in_place (q2 i hib))).trans ?_))
    by_cases e : (valuesL c.1 a).getD i 0 = (valuesL c.2.1 a).getD i 0
    ·rw [if_pos e]
     exact (bF' (by rw [decide_eq_true e]; rfl)).trans (ih (i + 1) n' (by omega) (by omega))
    ·rw [if_neg e]
     exact (bT' (by rw [decide_eq_false e]; rfl)).trans (F63.c0 4000 _)
  exact key c.1.length 0 4000 (by omega) (by omega)
 | false =>
  refine (bF' rfl).trans ?_
  show _ = some (AV.v .bool (!((List.range (valuesL c.1 a).length).any fun i => (List.range (valuesL c.1 a).length).any fun k => invP (valuesL c.1 a) (valuesL c.2.1 a) i k)))
  rw [vx]
  refine (any_range (fun n i => F63.l1_1_1_0_1_0 n (F63.kt 4000 [1, 1, 1, 0, 1, 0]) a (c.1.length : Int) i kk c.1 c.2.1 c.2.2.1 c.2.2.2.1 c.2.2.2.2.1 c.2.2.2.2.2.1 c.2.2.2.2.2.2) c.1.length (fun i => (List.range c.1.length).any fun k => invP (valuesL c.1 a) (valuesL c.2.1 a) i k) (some (.v .bool false)) (some (.v .bool true)) 1500 (by omega)
   (fun n _ => (F63.l1_1_1_0_1_0_eq ..).trans (self_lt'.trans (F63.c2 4000))) (fun n i hi hn => ?_) 4000 (by omega)).trans ?_
  ·refine (F63.l1_1_1_0_1_0_eq ..).trans ((bT' (lt_natG hi)).trans ?_)
   refine (any_range (fun m j => F63.l1_1_1_0_1_0_0_1_0_0_1_0 m (F63.k_l1_1_1_0_1_0 n (F63.kt 4000 [1, 1, 1, 0, 1, 0]) [1, 0, 0, 1, 0]) a (c.1.length : Int) (i : Int) j kk c.1 c.2.1 c.2.2.1 c.2.2.2.1 c.2.2.2.2.1 c.2.2.2.2.2.1 c.2.2.2.2.2.2) c.1.length (fun k => invP (valuesL c.1 a) (valuesL c.2.1 a) i k) (some (.v .bool false)) _ 0 (by omega)
    (fun m _ => (F63.l1_1_1_0_1_0_0_1_0_0_1_0_eq ..).trans (self_lt'.trans (F63.c4 ..))) (fun m j hj _ => ?_) n (by omega)).trans ?_
   ·have hjb : j < c.2.1.length := by omega
    have w1 : IntKind.i64.wrap ((i : Int) + 1) = (i : Int) + 1 := wrap_ok (by omega) (by omega)
    have w2 : IntKind.i64.wrap ((j : Int) + 1) = (j : Int) + 1 := wrap_ok (by omega) (by omega)
    refine (F63.l1_1_1_0_1_0_0_1_0_0_1_0_eq ..).trans ((bT' (lt_natG hj)).trans ((bT' (in_natG hi)).trans ?_))
    rw [Int.toNat_natCast, Int.toNat_natCast, ← values_get hi, ← values_get hjb, F63.c3, F63.c5]
    refine (bT' (in_place (p2 i hi))).trans ((bT' (in_natG hjb)).trans ((bT' (in_place (q2 j hjb))).trans ?_))
    have e1 : invP (valuesL c.1 a) (valuesL c.2.1 a) i j = (decide ((valuesL c.1 a).getD i 0 < 1) || (decide ((valuesL c.1 a).getD i 0 > (c.1.length : Int)) || (decide ((valuesL c.2.1 a).getD j 0 < 1) || (decide ((valuesL c.2.1 a).getD j 0 > (c.1.length : Int)) || !(decide ((valuesL c.1 a).getD i 0 = (j : Int) + 1) == decide ((valuesL c.2.1 a).getD j 0 = (i : Int) + 1)))))) := by
     unfold invP
     rw [vx]
    rw [e1, w1, w2]
    generalize decide ((valuesL c.1 a).getD i 0 < 1) = b1
    generalize decide ((valuesL c.1 a).getD i 0 > (c.1.length : Int)) = b2
    generalize decide ((valuesL c.2.1 a).getD j 0 < 1) = b3
    generalize decide ((valuesL c.2.1 a).getD j 0 > (c.1.length : Int)) = b4
    generalize (decide ((valuesL c.1 a).getD i 0 = (j : Int) + 1) == decide ((valuesL c.2.1 a).getD j 0 = (i : Int) + 1)) = b5
    cases b1 <;> cases b2 <;> cases b3 <;> cases b4 <;> cases b5 <;> rfl
   ·rfl
  ·cases (List.range c.1.length).any (fun i => (List.range c.1.length).any fun k => invP (valuesL c.1 a) (valuesL c.2.1 a) i k) <;> rfl
theorem F56.sem (k : Nat) (kk : Int) (c : RestG) (a : List Int) (h : linearYB (kk, c) a = true) : callW F56.E false F56.fn k [.agg (explode ConT (kk, c)), .v (.sl (.int .i64)) a] = some (.v .bool (linearY (kk, c) a)) := by
 have h0 : ((sumYB (kk, c) a && decide (1 ≤ kk)) && (!(decide (4 ≤ kk)) || (decide (0 < c.2.1.length) && placesB1 c.2.1 a))) = true := h
 rw [Bool.and_eq_true, Bool.and_eq_true, decide_eq_true_eq] at h0
 refine (F56.start_eq k kk c a).trans ((bT' h0.1.1).trans ?_)
 have e0 : linearY (kk, c) a = if kk = 1 then decide (sumY (kk, c) a = c.2.2.2.2.2.1) else if kk = 2 then decide (sumY (kk, c) a ≤ c.2.2.2.2.2.1) else if kk = 3 then !(decide (sumY (kk, c) a = c.2.2.2.2.2.1)) else
  (decide (a.getD (c.2.1.getD 0 0).toNat 0 = 1) && decide (sumY (kk, c) a ≤ c.2.2.2.2.2.1)) || (decide (a.getD (c.2.1.getD 0 0).toNat 0 = 0) && decide (sumY (kk, c) a > c.2.2.2.2.2.1)) := rfl
 rw [e0]
 by_cases h1 : kk = 1
 ·rw [if_pos h1]; exact bT' (decide_eq_true h1)
 ·rw [if_neg h1]
  refine (bF' (decide_eq_false h1)).trans ?_
  by_cases h2 : kk = 2
  ·rw [if_pos h2]; exact bT' (decide_eq_true h2)
  ·rw [if_neg h2]
   refine (bF' (decide_eq_false h2)).trans ?_
   by_cases h3 : kk = 3
   ·rw [if_pos h3]; exact bT' (decide_eq_true h3)
   ·rw [if_neg h3]
    refine (bF' (decide_eq_false h3)).trans ?_
    by_cases h4 : 4 ≤ kk
    ·have hb := h0.2
     rw [decide_eq_true h4] at hb
     have hb : (decide (0 < c.2.1.length) && placesB1 c.2.1 a) = true := hb
     rw [Bool.and_eq_true, decide_eq_true_eq] at hb
     obtain ⟨p1, p2⟩ := places_iff hb.2
     refine (bT' (decide_eq_true (by omega))).trans ((bT' (in_place (p2 0 hb.1))).trans ?_)
     generalize a.getD (c.2.1.getD 0 0).toNat 0 = v
     cases decide (v = 1) <;> cases decide (v = 0) <;> cases decide (sumY (kk, c) a ≤ c.2.2.2.2.2.1) <;> cases decide (sumY (kk, c) a > c.2.2.2.2.2.1) <;> rfl
    ·have := h0.1.2
     omega
end Go.Proofs.YtohdaehblenokaaGreat.Ev
