/-
Does a constraint hold, the document's answer as a whole.
Conditions: lists of at most 1000 elements.
Contracts of the document's functions; small values.
Conditions: as the handlers ask.
-/
import Derived.Test.YtohdaehblenokaaGreatGy
set_option linter.unusedVariables false
set_option linter.unusedSimpArgs false
set_option maxRecDepth 100000
namespace Go.Proofs.YtohdaehblenokaaGreat.Ev
open Go
theorem F28.sem (kk : Int) (c : RestG) (a : List Int) (h : holdsYB (kk, c) a = true) : callW F28.E false F28.fn 4000 [.agg (explode ConT (kk, c)), .v (.sl (.int .i64)) a] = some (.v .bool (holdsY (kk, c) a)) := by
 have h0 : (bif decide (kk ≤ 4) then linearYB (kk, c) a else bif decide (kk ≤ 11) then threeYB (kk, c) a else bif decide (kk ≤ 16) then logicYB (kk, c) a else bif decide (kk = 17) then placesB1 c.1 a else bif decide (kk = 18) then rowYB (kk, c) a else bif decide (kk = 19) then cumYB (kk, c) a else bif decide (kk = 20) then circYB (kk, c) a else bif decide (kk = 21) then gccYB (kk, c) a else pairsYB (kk, c) a) = true := h
 have e0 : holdsY (kk, c) a = bif decide (kk ≤ 4) then linearY (kk, c) a else bif decide (kk ≤ 11) then threeY (kk, c) a else bif decide (kk ≤ 16) then logicY (kk, c) a else bif decide (kk = 17) then unlikeY (valuesL c.1 a) else bif decide (kk = 18) then rowY (kk, c) a else bif decide (kk = 19) then cumY (kk, c) a else bif decide (kk = 20) then circY (kk, c) a else bif decide (kk = 21) then gccY (kk, c) a else pairsY (kk, c) a := rfl
 refine (F28.start_eq 4000 kk c a).trans ?_
 rw [e0]
 cases q4 : decide (kk ≤ 4) with
 | true => rw [q4] at h0; exact (bT' rfl).trans (bT' h0)
 | false =>
  rw [q4] at h0
  refine (bF' rfl).trans ?_
  cases q11 : decide (kk ≤ 11) with
  | true => rw [q11] at h0; exact (bT' rfl).trans (bT' h0)
  | false =>
   rw [q11] at h0
   refine (bF' rfl).trans ?_
   cases q16 : decide (kk ≤ 16) with
   | true => rw [q16] at h0; exact (bT' rfl).trans (bT' h0)
   | false =>
    rw [q16] at h0
    refine (bF' rfl).trans ?_
    cases q17 : decide (kk = 17) with
    | true =>
     rw [q17] at h0
     have hp : placesB1 c.1 a = true := h0
     obtain ⟨p1, p2⟩ := places_iff hp
     have vl : (valuesL c.1 a).length = c.1.length := values_len c.1 a
     refine (bT' rfl).trans ?_
     show _ = some (AV.v .bool (!((List.range (valuesL c.1 a).length).any fun i => (List.range i).any fun k => decide ((valuesL c.1 a).getD i 0 = (valuesL c.1 a).getD k 0))))
     rw [vl]
     refine (any_range (fun n i => F28.l1_1_1_1_0_1_0_1_0_0_1_0 n (F28.kt 4000 [1, 1, 1, 1, 0, 1, 0, 1, 0, 0, 1, 0]) a i kk c.1 c.2.1 c.2.2.1 c.2.2.2.1 c.2.2.2.2.1 c.2.2.2.2.2.1 c.2.2.2.2.2.2) c.1.length (fun i => (List.range i).any fun k => decide ((valuesL c.1 a).getD i 0 = (valuesL c.1 a).getD k 0)) (some (.v .bool false)) (some (.v .bool true)) 1500 (by omega)
      (fun n _ => (F28.l1_1_1_1_0_1_0_1_0_0_1_0_eq ..).trans (self_lt'.trans (F28.c0 4000))) (fun n i hi hn => ?_) 4000 (by omega)).trans ?_
     ·refine (F28.l1_1_1_1_0_1_0_1_0_0_1_0_eq ..).trans ((bT' (lt_natG hi)).trans ?_)
      refine (any_range (fun m j => F28.l1_1_1_1_0_1_0_1_0_0_1_0_0_1_0_0_1_0 m (F28.k_l1_1_1_1_0_1_0_1_0_0_1_0 n (F28.kt 4000 [1, 1, 1, 1, 0, 1, 0, 1, 0, 0, 1, 0]) [1, 0, 0, 1, 0]) a (i : Int) j kk c.1 c.2.1 c.2.2.1 c.2.2.2.1 c.2.2.2.2.1 c.2.2.2.2.2.1 c.2.2.2.2.2.2) i (fun k => decide ((valuesL c.1 a).getD i 0 = (valuesL c.1 a).getD k 0)) (some (.v .bool false)) _ 0 (by omega)
       (fun m _ => (F28.l1_1_1_1_0_1_0_1_0_0_1_0_0_1_0_0_1_0_eq ..).trans (self_lt'.trans (F28.c2 ..))) (fun m j hj _ => ?_) n (by omega)).trans ?_
      ·refine (F28.l1_1_1_1_0_1_0_1_0_0_1_0_0_1_0_0_1_0_eq ..).trans ((bT' (lt_natG hj)).trans ((bT' (in_natG hi)).trans ?_))
       have hj1 : j < c.1.length := by omega
       rw [Int.toNat_natCast, Int.toNat_natCast, ← values_get hi, ← values_get hj1, F28.c1, F28.c3]
       exact (bT' (in_place (p2 i hi))).trans ((bT' (in_natG hj1)).trans (bT' (in_place (p2 j hj1))))
      ·rfl
     ·cases (List.range c.1.length).any (fun i => (List.range i).any fun k => decide ((valuesL c.1 a).getD i 0 = (valuesL c.1 a).getD k 0)) <;> rfl
    | false =>
     rw [q17] at h0
     refine (bF' rfl).trans ?_
     cases q18 : decide (kk = 18) with
     | true => rw [q18] at h0; exact (bT' rfl).trans (bT' h0)
     | false =>
      rw [q18] at h0
      refine (bF' rfl).trans ?_
      cases q19 : decide (kk = 19) with
      | true => rw [q19] at h0; exact (bT' rfl).trans (bT' h0)
      | false =>
       rw [q19] at h0
       refine (bF' rfl).trans ?_
       cases q20 : decide (kk = 20) with
       | true => rw [q20] at h0; exact (bT' rfl).trans (bT' h0)
       | false =>
        rw [q20] at h0
        refine (bF' rfl).trans ?_
        cases q21 : decide (kk = 21) with
        | true => rw [q21] at h0; exact (bT' rfl).trans (bT' h0)
        | false => rw [q21] at h0; exact (bF' rfl).trans (bT' h0)
theorem any_cond {kk : Int} {c : RestG} {a : List Int} (V : Val kk c a.length) (hs : smallC (kk, c) = true) (hf : List.any a farB = false) : holdsYB (kk, c) a = true := by
 have pA := V.placeA hs
 have pB := V.placeB hs
 have mx := values_mill pA hf
 have am := far_mill hf
 obtain ⟨mC, mD, mE⟩ := V.mills hs
 have P := small_iff hs
 have la := P.la
 have lb := P.lb
 have lc := P.lc
 have lr := P.lr
 simp only at la lb lc lr
 have vx := values_len c.1 a
 have cn := V.cn
 have al := V.al
 have sum : c.2.2.1.length = c.1.length → sumYB (kk, c) a = true := fun h => by
  unfold sumYB
  show (placesB1 c.1 a && millsB c.2.2.1 && a.all millB && decide (c.2.2.1.length = c.1.length)) = true
  rw [pA, mC, am, decide_eq_true h]
  rfl
 rcases kinds V.kd with rfl | rfl | rfl | rfl | rfl | rfl | rfl | rfl | rfl | rfl | rfl | rfl | rfl | rfl | rfl | rfl | rfl | rfl | rfl | rfl | rfl | rfl | rfl
 ·rw [cnt_k1] at cn
  simp only [withinD, Bool.and_eq_true, decide_eq_true_eq] at cn
  have al : decide ((c.2.2.1.length : Int) = (c.1.length : Int)) = true := al
  simp only [Bool.and_eq_true, decide_eq_true_eq] at al
  show ((sumYB (1, c) a && true) && true) = true
  rw [sum (by omega)]
  rfl
 ·rw [cnt_k2] at cn
  simp only [withinD, Bool.and_eq_true, decide_eq_true_eq] at cn
  have al : decide ((c.2.2.1.length : Int) = (c.1.length : Int)) = true := al
  simp only [Bool.and_eq_true, decide_eq_true_eq] at al
  show ((sumYB (2, c) a && true) && true) = true
  rw [sum (by omega)]
  rfl
 ·rw [cnt_k3] at cn
  simp only [withinD, Bool.and_eq_true, decide_eq_true_eq] at cn
  have al : decide ((c.2.2.1.length : Int) = (c.1.length : Int)) = true := al
  simp only [Bool.and_eq_true, decide_eq_true_eq] at al
  show ((sumYB (3, c) a && true) && true) = true
  rw [sum (by omega)]
  rfl
 ·rw [cnt_k4] at cn
  simp only [withinD, Bool.and_eq_true, decide_eq_true_eq] at cn
  have al : decide ((c.2.2.1.length : Int) = (c.1.length : Int)) = true := al
  simp only [Bool.and_eq_true, decide_eq_true_eq] at al
  show ((sumYB (4, c) a && true) && (decide (0 < c.2.1.length) && placesB1 c.2.1 a)) = true
  rw [sum (by omega), pB, decide_eq_true (show 0 < c.2.1.length by omega)]
  rfl
 ·rw [cnt_k5] at cn
  simp only [withinD, Bool.and_eq_true, decide_eq_true_eq] at cn
  show (placesB1 c.1 a && a.all millB && decide (3 ≤ c.1.length) && true && true) = true
  rw [pA, am, decide_eq_true (show 3 ≤ c.1.length by omega)]
  rfl
 ·rw [cnt_k6] at cn
  simp only [withinD, Bool.and_eq_true, decide_eq_true_eq] at cn
  show (placesB1 c.1 a && a.all millB && decide (3 ≤ c.1.length) && true && true) = true
  rw [pA, am, decide_eq_true (show 3 ≤ c.1.length by omega)]
  rfl
 ·rw [cnt_k7] at cn
  simp only [withinD, Bool.and_eq_true, decide_eq_true_eq] at cn
  show (placesB1 c.1 a && a.all millB && decide (3 ≤ c.1.length) && true && true) = true
  rw [pA, am, decide_eq_true (show 3 ≤ c.1.length by omega)]
  rfl
 ·rw [cnt_k8] at cn
  simp only [withinD, Bool.and_eq_true, decide_eq_true_eq] at cn
  show (placesB1 c.1 a && a.all millB && decide (2 ≤ c.1.length) && true && true) = true
  rw [pA, am, decide_eq_true (show 2 ≤ c.1.length by omega)]
  rfl
 ·rw [cnt_k9] at cn
  simp only [withinD, Bool.and_eq_true, decide_eq_true_eq] at cn
  show (placesB1 c.1 a && a.all millB && decide (3 ≤ c.1.length) && true && true) = true
  rw [pA, am, decide_eq_true (show 3 ≤ c.1.length by omega)]
  rfl
 ·rw [cnt_k10] at cn
  simp only [withinD, Bool.and_eq_true, decide_eq_true_eq] at cn
  show (placesB1 c.1 a && a.all millB && decide (3 ≤ c.1.length) && true && true) = true
  rw [pA, am, decide_eq_true (show 3 ≤ c.1.length by omega)]
  rfl
 ·rw [cnt_k11] at cn
  simp only [withinD, Bool.and_eq_true, decide_eq_true_eq] at cn
  show (placesB1 c.1 a && a.all millB && decide (2 ≤ c.1.length) && (decide (1 ≤ c.2.2.1.length) && Nat.ble c.2.2.1.length 1000) && true) = true
  rw [pA, am, decide_eq_true (show 2 ≤ c.1.length by omega), decide_eq_true (show 1 ≤ c.2.2.1.length by omega), Nat.ble_eq_true_of_le lc]
  rfl
 ·rw [cnt_k12] at cn
  simp only [withinD, Bool.and_eq_true, decide_eq_true_eq] at cn
  show (placesB1 c.1 a && placesB1 c.2.1 a && true && true) = true
  rw [pA, pB]
  rfl
 ·rw [cnt_k13] at cn
  simp only [withinD, Bool.and_eq_true, decide_eq_true_eq] at cn
  show (placesB1 c.1 a && placesB1 c.2.1 a && (decide (0 < c.1.length) && decide (0 < c.2.1.length)) && true) = true
  rw [pA, pB, decide_eq_true (show 0 < c.1.length by omega), decide_eq_true (show 0 < c.2.1.length by omega)]
  rfl
 ·rw [cnt_k14] at cn
  simp only [withinD, Bool.and_eq_true, decide_eq_true_eq] at cn
  show (placesB1 c.1 a && placesB1 c.2.1 a && (decide (0 < c.1.length) && decide (0 < c.2.1.length)) && true) = true
  rw [pA, pB, decide_eq_true (show 0 < c.1.length by omega), decide_eq_true (show 0 < c.2.1.length by omega)]
  rfl
 ·rw [cnt_k15] at cn
  simp only [withinD, Bool.and_eq_true, decide_eq_true_eq] at cn
  show (placesB1 c.1 a && placesB1 c.2.1 a && (decide (0 < c.1.length) && decide (0 < c.2.1.length)) && true) = true
  rw [pA, pB, decide_eq_true (show 0 < c.1.length by omega), decide_eq_true (show 0 < c.2.1.length by omega)]
  rfl
 ·rw [cnt_k16] at cn
  simp only [withinD, Bool.and_eq_true, decide_eq_true_eq] at cn
  show (placesB1 c.1 a && placesB1 c.2.1 a && (decide (0 < c.1.length) && decide (0 < c.2.1.length)) && true) = true
  rw [pA, pB, decide_eq_true (show 0 < c.1.length by omega), decide_eq_true (show 0 < c.2.1.length by omega)]
  rfl
 ·rw [cnt_k17] at cn
  simp only [withinD, Bool.and_eq_true, decide_eq_true_eq] at cn
  exact pA
 ·rw [cnt_k18] at cn
  simp only [withinD, Bool.and_eq_true, decide_eq_true_eq] at cn
  have al : (!(List.any c.2.2.2.2.2.2 (rowN (18, c)))) = true := al
  rw [Bool.not_eq_true', List.any_eq_false] at al
  have e : (c.2.2.2.2.2.2.all fun r => decide (r.length = c.1.length)) = true := by
   rw [List.all_eq_true]
   intro r hr
   have := al r hr
   have e2 : rowN (18, c) r = !(decide ((r.length : Int) = (c.1.length : Int))) := rfl
   rw [e2, Bool.not_eq_true', decide_eq_false_iff_not, Classical.not_not] at this
   exact decide_eq_true (by omega)
  show (placesB1 c.1 a && Nat.ble c.2.2.2.2.2.2.length 1000 && (c.2.2.2.2.2.2.all fun r => decide (r.length = c.1.length))) = true
  rw [pA, Nat.ble_eq_true_of_le lr, e]
  rfl
 ·rw [cnt_k19] at cn
  simp only [withinD, Bool.and_eq_true, decide_eq_true_eq] at cn
  have al : (decide ((c.2.2.1.length : Int) = (c.1.length : Int)) && decide ((c.2.2.2.1.length : Int) = (c.1.length : Int))) = true := al
  simp only [Bool.and_eq_true, decide_eq_true_eq] at al
  show (placesB1 c.1 a && (millsB c.2.2.1 && millsB c.2.2.2.1 && millsB (valuesL c.1 a) && decide (c.2.2.1.length = (valuesL c.1 a).length) && decide (c.2.2.2.1.length = (valuesL c.1 a).length))) = true
  rw [pA, mC, mD, mx, decide_eq_true (show c.2.2.1.length = (valuesL c.1 a).length by omega), decide_eq_true (show c.2.2.2.1.length = (valuesL c.1 a).length by omega)]
  rfl
 ·rw [cnt_k20] at cn
  simp only [withinD, Bool.and_eq_true, decide_eq_true_eq] at cn
  show (placesB1 c.1 a && decide (0 < c.1.length)) = true
  rw [pA, decide_eq_true (show 0 < c.1.length by omega)]
  rfl
 ·rw [cnt_k21] at cn
  simp only [withinD, Bool.and_eq_true, decide_eq_true_eq] at cn
  have al : (decide ((c.2.2.2.1.length : Int) = (c.2.2.1.length : Int)) && decide ((c.2.2.2.2.1.length : Int) = (c.2.2.1.length : Int))) = true := al
  simp only [Bool.and_eq_true, decide_eq_true_eq] at al
  show (placesB1 c.1 a && (Nat.ble c.2.2.1.length 1000 && Nat.ble (valuesL c.1 a).length 1000 && decide (c.2.2.2.1.length = c.2.2.1.length) && decide (c.2.2.2.2.1.length = c.2.2.1.length))) = true
  rw [pA, Nat.ble_eq_true_of_le lc, Nat.ble_eq_true_of_le (show (valuesL c.1 a).length ≤ 1000 by omega), decide_eq_true (show c.2.2.2.1.length = c.2.2.1.length by omega), decide_eq_true (show c.2.2.2.2.1.length = c.2.2.1.length by omega)]
  rfl
 ·rw [cnt_k22] at cn
  simp only [withinD, Bool.and_eq_true, decide_eq_true_eq] at cn
  have al : decide ((c.2.1.length : Int) = (c.1.length : Int)) = true := al
  simp only [Bool.and_eq_true, decide_eq_true_eq] at al
  show (placesB1 c.1 a && placesB1 c.2.1 a && decide (c.2.1.length = c.1.length)) = true
  rw [pA, pB, decide_eq_true (show c.2.1.length = c.1.length by omega)]
  rfl
 ·rw [cnt_k23] at cn
  simp only [withinD, Bool.and_eq_true, decide_eq_true_eq] at cn
  have al : decide ((c.2.1.length : Int) = (c.1.length : Int)) = true := al
  simp only [Bool.and_eq_true, decide_eq_true_eq] at al
  show (placesB1 c.1 a && placesB1 c.2.1 a && decide (c.2.1.length = c.1.length)) = true
  rw [pA, pB, decide_eq_true (show c.2.1.length = c.1.length by omega)]
  rfl
theorem F522.sem (kk : Int) (c : RestG) (a : List Int) (h : anyYB (kk, c) a = true) : callW F522.E false F522.fn 4000 [.agg (explode ConT (kk, c)), .v (.sl (.int .i64)) a] = some (.v .bool (anyY (kk, c) a)) := by
 unfold anyYB at h
 rw [Bool.and_eq_true, Nat.ble_eq] at h
 obtain ⟨hs, ha⟩ := h
 have hc : (smallC (kk, c) && rightNB (a.length : Int)) = true := by
  rw [hs]
  unfold rightNB
  rw [decide_eq_true (show (0 : Int) ≤ (a.length : Int) by omega), decide_eq_true (show (a.length : Int) ≤ 1000000 by omega)]
  rfl
 refine (F522.start_eq 4000 kk c a).trans ((bT' hc).trans ?_)
 have e0 : anyY (kk, c) a = bif !(decide (rightD (kk, c) (a.length : Int) = 0)) || List.any a farB then false else holdsY (kk, c) a := rfl
 rw [e0]
 by_cases hr : rightD (kk, c) (a.length : Int) = 0
 ·rw [decide_eq_true hr]
  refine (bF' rfl).trans ?_
  refine (any_loop (fun n i => F522.l1_1_1_0_1_0 n (F522.kt 4000 [1, 1, 1, 0, 1, 0]) a i kk c.1 c.2.1 c.2.2.1 c.2.2.2.1 c.2.2.2.2.1 c.2.2.2.2.2.1 c.2.2.2.2.2.2) a farB (some (.v .bool false)) _ 0 (by omega) (fun n => (F522.l1_1_1_0_1_0_eq ..).trans (self_lt'.trans (F522.c1 ..))) (fun n i hi _ => ?_) 4000 (by omega)).trans ?_
  ·have e : a[i] = a.getD i 0 := by rw [List.getD_eq_getElem?_getD, List.getElem?_eq_getElem hi]; rfl
   rw [e]
   refine (F522.l1_1_1_0_1_0_eq ..).trans ((bT' (lt_natG hi)).trans ((bT' (in_natG hi)).trans ?_))
   rw [Int.toNat_natCast, F522.c0, in_natG hi]
   unfold farB
   cases decide (a.getD i 0 < -1000000) <;> cases decide (a.getD i 0 > 1000000) <;> rfl
  ·cases hf : List.any a farB with
   | true => rfl
   | false =>
    have V := val_of (show rightG (kk, c) (a.length : Int) = 0 by rw [right_all (kk, c) _ (by omega)]; exact hr)
    exact (bF' rfl).trans (bT' (any_cond V hs hf))
 ·rw [decide_eq_false hr]
  rfl
end Go.Proofs.YtohdaehblenokaaGreat.Ev
set_option linter.unusedVariables false
set_option linter.unusedSimpArgs false
set_option maxRecDepth 100000
namespace Go.Proofs.YtohdaehblenokaaGreat.Ev
open Go Go.RowKit
theorem F521.sem (a : List Int) (n : Int) (h : nearLB a n = true) : callW F521.E false F521.fn 2000 [.v (.sl (.int .i64)) a, .v (.int .i64) n] = some (.v (.sl (.int .i64)) (nearL a n)) := by
 unfold nearLB at h
 simp only [Bool.and_eq_true, decide_eq_true_eq, Nat.ble_eq] at h
 obtain ⟨⟨ha, h0⟩, h1⟩ := h
 obtain ⟨N, rfl⟩ : ∃ N : Nat, n = (N : Int) := ⟨n.toNat, by omega⟩
 refine (F521.start_eq 2000 a (N : Int)).trans ?_
 unfold nearL
 rw [Int.toNat_natCast]
 refine map_loopG (f := fun i => if i < a.length then (a.getD i 0).tmod 7 else (i : Int)) N (fun n i acc => F521.l1_1_0_1_0 n (F521.kt 2000 [1, 1, 0, 1, 0]) a (N : Int) i acc) (fun acc => some (.v (.sl (.int .i64)) acc)) (by omega) (fun n j acc hj hacc => ?_)
  (fun n acc => (F521.l1_1_0_1_0_eq ..).trans (self_lt'.trans (F521.c0 2000 acc))) 2000 (by omega)
 refine (F521.l1_1_0_1_0_eq ..).trans ((bT' (lt_natG hj)).trans ?_)
 rw [Int.toNat_natCast]
 by_cases hl : j < a.length
 ·rw [if_pos hl, ← wrap1 (show j ≤ 1000000000 by omega)]
  exact (bT' (lt_natG hl)).trans ((bT' (in_natG hl)).trans ((F521.n1_1_0_1_0_0_1_1_0_0_1_1_1_eq ..).trans ((bT' (lim8G (show acc.length ≤ 1000000 by omega) _)).trans (F521.c1 ..))))
 ·rw [if_neg hl, ← wrap1 (show j ≤ 1000000000 by omega)]
  exact (bF' (decide_eq_false (by omega))).trans ((F521.n1_1_0_1_0_0_1_1_0_0_1_1_1_eq ..).trans ((bT' (lim8G (show acc.length ≤ 1000000 by omega) _)).trans (F521.c1 ..)))
theorem F84.eok : EOk Go.Proofs.Tryz.prog F84.E := eo calls_nil
theorem ok84 : HandOk Go.Proofs.Tryz.prog inv 74 h_sumY := hand_if fun xs hc => callW_ok (own := false) (k := 2000) F84.eok mixed Go.Proofs.Tryz.func74 (by kernel_rfl) (show Go.Proofs.Tryz.f74.body = some (bodyOf Go.Proofs.Tryz.f74) by kernel_rfl) (F84.sem xs.1.1 xs.1.2 xs.2.1 hc)
theorem F56.eok : EOk Go.Proofs.Tryz.prog F56.E := eo (calls_cons ok84 calls_nil)
theorem ok56 : HandOk Go.Proofs.Tryz.prog inv 52 h_linearY := hand_if fun xs hc => callW_ok (own := false) (k := 1) F56.eok mixed Go.Proofs.Tryz.func52 (by kernel_rfl) (show Go.Proofs.Tryz.f52.body = some (bodyOf Go.Proofs.Tryz.f52) by kernel_rfl) (F56.sem 1 xs.1.1 xs.1.2 xs.2.1 hc)
theorem F101.eok : EOk Go.Proofs.Tryz.prog F101.E := eo calls_nil
theorem ok101 : HandOk Go.Proofs.Tryz.prog inv 84 h_absI := hand_if fun xs hc => callW_ok (own := false) (k := 1) F101.eok mixed Go.Proofs.Tryz.func84 (by kernel_rfl) (show Go.Proofs.Tryz.f84.body = some (bodyOf Go.Proofs.Tryz.f84) by kernel_rfl) (F101.sem 1 xs.1 hc)
theorem F85.eok : EOk Go.Proofs.Tryz.prog F85.E := eo (calls_cons ok101 calls_nil)
theorem ok85 : HandOk Go.Proofs.Tryz.prog inv 75 h_quoY := hand_if fun xs hc => callW_ok (own := false) (k := 1) F85.eok mixed Go.Proofs.Tryz.func75 (by kernel_rfl) (show Go.Proofs.Tryz.f75.body = some (bodyOf Go.Proofs.Tryz.f75) by kernel_rfl) (F85.sem 1 xs.1 xs.2.1 hc)
theorem F57.eok : EOk Go.Proofs.Tryz.prog F57.E := eo (calls_cons ok85 calls_nil)
theorem ok57 : HandOk Go.Proofs.Tryz.prog inv 53 h_threeY := hand_if fun xs hc => callW_ok (own := false) (k := 1) F57.eok mixed Go.Proofs.Tryz.func53 (by kernel_rfl) (show Go.Proofs.Tryz.f53.body = some (bodyOf Go.Proofs.Tryz.f53) by kernel_rfl) (F57.sem 1 xs.1.1 xs.1.2 xs.2.1 hc)
theorem F58.eok : EOk Go.Proofs.Tryz.prog F58.E := eo calls_nil
theorem ok58 : HandOk Go.Proofs.Tryz.prog inv 54 h_logicY := hand_if fun xs hc => callW_ok (own := false) (k := 2000) F58.eok mixed Go.Proofs.Tryz.func54 (by kernel_rfl) (show Go.Proofs.Tryz.f54.body = some (bodyOf Go.Proofs.Tryz.f54) by kernel_rfl) (F58.sem xs.1.1 xs.1.2 xs.2.1 hc)
theorem F59.eok : EOk Go.Proofs.Tryz.prog F59.E := eo calls_nil
theorem ok59 : HandOk Go.Proofs.Tryz.prog inv 55 h_rowY := hand_if fun xs hc => callW_ok (own := false) (k := 4000) F59.eok mixed Go.Proofs.Tryz.func55 (by kernel_rfl) (show Go.Proofs.Tryz.f55.body = some (bodyOf Go.Proofs.Tryz.f55) by kernel_rfl) (F59.sem xs.1.1 xs.1.2 xs.2.1 hc)
theorem F86.eok : EOk Go.Proofs.Tryz.prog F86.E := eo calls_nil
theorem ok86 : HandOk Go.Proofs.Tryz.prog inv 76 h_runsY := hand_if fun xs hc => callW_ok (own := false) (k := 2000) F86.eok mixed Go.Proofs.Tryz.func76 (by kernel_rfl) (show Go.Proofs.Tryz.f76.body = some (bodyOf Go.Proofs.Tryz.f76) by kernel_rfl) (F86.sem xs.1.1 xs.1.2 xs.2.1 xs.2.2.1 hc)
theorem F60.eok : EOk Go.Proofs.Tryz.prog F60.E := eo (calls_cons ok86 calls_nil)
theorem ok60 : HandOk Go.Proofs.Tryz.prog inv 56 h_cumY := hand_if fun xs hc => callW_ok (own := false) (k := 2000) F60.eok mixed Go.Proofs.Tryz.func56 (by kernel_rfl) (show Go.Proofs.Tryz.f56.body = some (bodyOf Go.Proofs.Tryz.f56) by kernel_rfl) (F60.sem xs.1.1 xs.1.2 xs.2.1 hc)
theorem F61.eok : EOk Go.Proofs.Tryz.prog F61.E := eo calls_nil
theorem ok61 : HandOk Go.Proofs.Tryz.prog inv 57 h_circY := hand_if fun xs hc => callW_ok (own := false) (k := 2000) F61.eok mixed Go.Proofs.Tryz.func57 (by kernel_rfl) (show Go.Proofs.Tryz.f57.body = some (bodyOf Go.Proofs.Tryz.f57) by kernel_rfl) (F61.sem xs.1.1 xs.1.2 xs.2.1 hc)
theorem F62.eok : EOk Go.Proofs.Tryz.prog F62.E := eo calls_nil
theorem ok62 : HandOk Go.Proofs.Tryz.prog inv 58 h_gccY := hand_if fun xs hc => callW_ok (own := false) (k := 4000) F62.eok mixed Go.Proofs.Tryz.func58 (by kernel_rfl) (show Go.Proofs.Tryz.f58.body = some (bodyOf Go.Proofs.Tryz.f58) by kernel_rfl) (F62.sem xs.1.1 xs.1.2 xs.2.1 hc)
theorem F63.eok : EOk Go.Proofs.Tryz.prog F63.E := eo calls_nil
theorem ok63 : HandOk Go.Proofs.Tryz.prog inv 59 h_pairsY := hand_if fun xs hc => callW_ok (own := false) (k := 4000) F63.eok mixed Go.Proofs.Tryz.func59 (by kernel_rfl) (show Go.Proofs.Tryz.f59.body = some (bodyOf Go.Proofs.Tryz.f59) by kernel_rfl) (F63.sem xs.1.1 xs.1.2 xs.2.1 hc)
theorem F28.eok : EOk Go.Proofs.Tryz.prog F28.E := eo (calls_cons ok56 (calls_cons ok57 (calls_cons ok58 (calls_cons ok59 (calls_cons ok60 (calls_cons ok61 (calls_cons ok62 (calls_cons ok63 calls_nil))))))))
theorem ok28 : HandOk Go.Proofs.Tryz.prog inv 31 h_holdsY := hand_if fun xs hc => callW_ok (own := false) (k := 4000) F28.eok mixed Go.Proofs.Tryz.func31 (by kernel_rfl) (show Go.Proofs.Tryz.f31.body = some (bodyOf Go.Proofs.Tryz.f31) by kernel_rfl) (F28.sem xs.1.1 xs.1.2 xs.2.1 hc)
theorem F522.eok : EOk Go.Proofs.Tryz.prog F522.E := eo (calls_cons ok51 (calls_cons ok28 calls_nil))
theorem ok522 : HandOk Go.Proofs.Tryz.prog inv 8 h_anyY := hand_if fun xs hc => callW_ok (own := false) (k := 4000) F522.eok mixed Go.Proofs.Tryz.func8 (by kernel_rfl) (show Go.Proofs.Tryz.f8.body = some (bodyOf Go.Proofs.Tryz.f8) by kernel_rfl) (F522.sem xs.1.1 xs.1.2 xs.2.1 hc)
theorem F521.eok : EOk Go.Proofs.Tryz.prog F521.E := eo calls_nil
theorem ok521 : HandOk Go.Proofs.Tryz.prog inv 6 h_nearL := hand_if fun xs hc => callW_ok (own := false) (k := 2000) F521.eok mixed Go.Proofs.Tryz.func6 (by kernel_rfl) (show Go.Proofs.Tryz.f6.body = some (bodyOf Go.Proofs.Tryz.f6) by kernel_rfl) (F521.sem xs.1 xs.2.1 hc)
end Go.Proofs.YtohdaehblenokaaGreat.Ev
