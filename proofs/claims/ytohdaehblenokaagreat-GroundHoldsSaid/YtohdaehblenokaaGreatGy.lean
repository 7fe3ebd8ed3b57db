/-
Does a constraint hold, the document's answer: quotients, three values, truths.
Conditions: as the handlers ask.
Does a constraint hold, the document's answer: three values.
Conditions: as the handler asks.
-/
import Derived.Test.YtohdaehblenokaaGreatGq
set_option linter.unusedVariables false
set_option linter.unusedSimpArgs false
set_option maxRecDepth 100000
namespace Go.Proofs.YtohdaehblenokaaGreat.Ev
open Go
theorem u64_ok {x : Int} (h1 : 0 ≤ x) (h2 : x ≤ 9223372036854775807) : IntKind.u64.wrap x = x := by rw [IntKind.wrap_u64]; omega
theorem F101.sem (k : Nat) (x : Int) (h : millB x = true) : callW F101.E false F101.fn k [.v (.int .i64) x] = some (.v (.int .u64) (absI x)) := by
 have b := mill_iff.mp h
 refine (F101.start_eq k x).trans ?_
 unfold absI
 by_cases c : x < 0
 ·rw [if_pos c, wrap_ok (x := x + 1) (by omega) (by omega), wrap_ok (x := 0 - (x + 1)) (by omega) (by omega), u64_ok (x := 0 - (x + 1)) (by omega) (by omega), u64_ok (x := 0 - (x + 1) + 1) (by omega) (by omega)]
  refine (bT' (decide_eq_true c)).trans ?_
  have e : 0 - (x + 1) + 1 = -x := by omega
  rw [e]
 ·rw [if_neg c, u64_ok (x := x) (by omega) (by omega)]
  exact bF' (decide_eq_false c)
theorem abs_div (x y : Int) : (if x < 0 then -x else x).tdiv (if y < 0 then -y else y) = if (decide (x < 0) == decide (y < 0)) = true then x.tdiv y else -(x.tdiv y) := by
 by_cases hx : x < 0
 ·rw [if_pos hx, decide_eq_true hx]
  by_cases hy : y < 0
  ·rw [if_pos hy, decide_eq_true hy, Int.neg_tdiv, Int.tdiv_neg, Int.neg_neg]
   rfl
  ·rw [if_neg hy, decide_eq_false hy, Int.neg_tdiv]
   rfl
 ·rw [if_neg hx, decide_eq_false hx]
  by_cases hy : y < 0
  ·rw [if_pos hy, decide_eq_true hy, Int.tdiv_neg]
   rfl
  ·rw [if_neg hy, decide_eq_false hy]
   rfl
theorem tdiv_small {x : Int} (y : Int) (b : -1000000 ≤ x ∧ x ≤ 1000000) : -1000000 ≤ x.tdiv y ∧ x.tdiv y ≤ 1000000 := by
 have h1 : (x.tdiv y).natAbs ≤ x.natAbs := by rw [Int.natAbs_tdiv]; exact Nat.div_le_self _ _
 omega
theorem F85.sem (k : Nat) (x y : Int) (h : (millB x && millB y) = true) : callW F85.E false F85.fn k [.v (.int .i64) x, .v (.int .i64) y] = some (.tup [.v (.int .i64) (quoY x y), .v .bool (unZ y)]) := by
 rw [Bool.and_eq_true] at h
 have bx := mill_iff.mp h.1
 have bz := mill_iff.mp h.2
 refine (F85.start_eq k x y).trans ?_
 unfold unZ quoY
 by_cases h0 : y = 0
 ·rw [decide_eq_true h0, h0, Int.tdiv_zero]
  rfl
 ·rw [decide_eq_false h0]
  have ha : (!decide (absI y = 0)) = true := by
   rw [decide_eq_false]
   ·rfl
   ·unfold absI
    split <;> omega
  have fin : (bif !((decide (x < 0)) == (decide (y < 0))) then F85.n1_1_1_1 k (F85.kt k [1, 1, 1, 1]) (IntKind.i64.wrap (0 - (IntKind.i64.wrap (IntKind.u64.wrap ((absI x).tdiv (absI y)))))) else F85.n1_1_1_1 k (F85.kt k [1, 1, 1, 1]) (IntKind.i64.wrap (IntKind.u64.wrap ((absI x).tdiv (absI y))))) = some (.tup [.v (.int .i64) (x.tdiv y), .v .bool (!false)]) := by
   have e := abs_div x y
   have t := tdiv_small y bx
   have p : 0 ≤ (absI x).tdiv (absI y) ∧ (absI x).tdiv (absI y) ≤ 1000000 := by
    have a1 : 0 ≤ absI x ∧ absI x ≤ 1000000 := by unfold absI; split <;> omega
    have a2 : 0 ≤ absI y := by unfold absI; split <;> omega
    exact ⟨Int.tdiv_nonneg a1.1 a2, (tdiv_small (absI y) ⟨by omega, a1.2⟩).2⟩
   have e : (absI x).tdiv (absI y) = if (decide (x < 0) == decide (y < 0)) = true then x.tdiv y else -(x.tdiv y) := e
   rw [u64_ok p.1 (by omega), wrap_ok (x := (absI x).tdiv (absI y)) (by omega) (by omega)]
   cases hb : (decide (x < 0) == decide (y < 0)) with
   | true =>
    rw [hb, if_pos rfl] at e
    rw [e]
    exact (bF' rfl).trans ((F85.n1_1_1_1_eq ..).trans (F85.c0 ..))
   | false =>
    rw [hb, if_neg (by simp)] at e
    rw [e, wrap_ok (x := 0 - -(x.tdiv y)) (by omega) (by omega)]
    have e2 : 0 - -(x.tdiv y) = x.tdiv y := by omega
    rw [e2]
    exact (bT' rfl).trans ((F85.n1_1_1_1_eq ..).trans (F85.c0 ..))
  refine (bF' rfl).trans ?_
  by_cases h1 : y = -1
  ·exact (bT' (decide_eq_true h1)).trans ((bF' (decide_eq_false (by omega))).trans ((bT' h.1).trans ((bT' h.2).trans ((bT' ha).trans fin))))
  ·exact (bF' (decide_eq_false h1)).trans ((bT' h.1).trans ((bT' h.2).trans ((bT' ha).trans fin)))
theorem F58.sem (kk : Int) (c : RestG) (a : List Int) (h : logicYB (kk, c) a = true) : callW F58.E false F58.fn 2000 [.agg (explode ConT (kk, c)), .v (.sl (.int .i64)) a] = some (.v .bool (logicY (kk, c) a)) := by
 have h0 : (placesB1 c.1 a && placesB1 c.2.1 a && (decide (kk = 12) || (decide (0 < c.1.length) && decide (0 < c.2.1.length))) && (decide (12 ≤ kk) && decide (kk ≤ 16))) = true := h
 rw [Bool.and_eq_true, Bool.and_eq_true, Bool.and_eq_true] at h0
 obtain ⟨⟨⟨hp, hq⟩, hn⟩, hk⟩ := h0
 rw [Bool.and_eq_true, decide_eq_true_eq, decide_eq_true_eq] at hk
 obtain ⟨p1, p2⟩ := places_iff hp
 obtain ⟨q1, q2⟩ := places_iff hq
 refine (F58.start_eq 2000 kk c a).trans ?_
 have e0 : logicY (kk, c) a = bif decide (kk = 12) then List.any (valuesL c.1 a) (fun v => decide (v = 1)) || List.any (valuesL c.2.1 a) (fun v => decide (v = 0)) else logicX (kk, c) (valuesL c.1 a) (valuesL c.2.1 a) := rfl
 rw [e0]
 by_cases h12 : kk = 12
 ·rw [decide_eq_true h12]
  refine (bT' rfl).trans ?_
  show _ = some (AV.v .bool (List.any (valuesL c.1 a) (fun v => decide (v = 1)) || List.any (valuesL c.2.1 a) (fun v => decide (v = 0))))
  rw [any_idx, any_idx, values_len, values_len]
  have two : F58.l1_0_1_0_1_0_1_0 2000 (F58.kt 2000 [1, 0, 1, 0, 1, 0, 1, 0]) a 0 kk c.1 c.2.1 c.2.2.1 c.2.2.2.1 c.2.2.2.2.1 c.2.2.2.2.2.1 c.2.2.2.2.2.2 = some (.v .bool ((List.range c.2.1.length).any fun i => decide ((valuesL c.2.1 a).getD i 0 = 0))) := by
   refine (any_range (fun n i => F58.l1_0_1_0_1_0_1_0 n (F58.kt 2000 [1, 0, 1, 0, 1, 0, 1, 0]) a i kk c.1 c.2.1 c.2.2.1 c.2.2.2.1 c.2.2.2.2.1 c.2.2.2.2.2.1 c.2.2.2.2.2.2) c.2.1.length (fun i => decide ((valuesL c.2.1 a).getD i 0 = 0)) (some (.v .bool true)) (some (.v .bool false)) 0 (by omega)
    (fun n _ => (F58.l1_0_1_0_1_0_1_0_eq ..).trans (self_lt'.trans (F58.c3 2000))) (fun n i hi _ => ?_) 2000 (by omega)).trans ?_
   ·refine (F58.l1_0_1_0_1_0_1_0_eq ..).trans ((bT' (lt_natG hi)).trans ((bT' (in_natG hi)).trans ?_))
    rw [Int.toNat_natCast, ← values_get hi, F58.c2]
    exact bT' (in_place (q2 i hi))
   ·cases (List.range c.2.1.length).any (fun i => decide ((valuesL c.2.1 a).getD i 0 = 0)) <;> rfl
  refine (any_range (fun n i => F58.l1_0_1_0_0_1_0 n (F58.kt 2000 [1, 0, 1, 0, 0, 1, 0]) a i kk c.1 c.2.1 c.2.2.1 c.2.2.2.1 c.2.2.2.2.1 c.2.2.2.2.2.1 c.2.2.2.2.2.2) c.1.length (fun i => decide ((valuesL c.1 a).getD i 0 = 1)) (some (.v .bool true)) _ 0 (by omega)
   (fun n _ => (F58.l1_0_1_0_0_1_0_eq ..).trans (self_lt'.trans ((F58.c1 ..).trans two))) (fun n i hi _ => ?_) 2000 (by omega)).trans ?_
  ·refine (F58.l1_0_1_0_0_1_0_eq ..).trans ((bT' (lt_natG hi)).trans ((bT' (in_natG hi)).trans ?_))
   rw [Int.toNat_natCast, ← values_get hi, F58.c0]
   exact bT' (in_place (p2 i hi))
  ·cases (List.range c.1.length).any (fun i => decide ((valuesL c.1 a).getD i 0 = 1)) <;> rfl
 ·rw [decide_eq_false h12] at hn ⊢
  have hn : (decide (0 < c.1.length) && decide (0 < c.2.1.length)) = true := hn
  rw [Bool.and_eq_true, decide_eq_true_eq, decide_eq_true_eq] at hn
  have la : decide ((0 : Int) < c.1.length) = true := decide_eq_true (by omega)
  have lb : decide ((0 : Int) < c.2.1.length) = true := decide_eq_true (by omega)
  have pa := in_place (p2 0 hn.1)
  have pb := in_place (q2 0 hn.2)
  rw [la, lb, pa, pb, ← values_get hn.1, ← values_get hn.2]
  refine (bF' rfl).trans ((bT' rfl).trans ((bT' rfl).trans ((bT' rfl).trans ((bT' rfl).trans ?_))))
  show _ = some (AV.v .bool (logicX (kk, c) (valuesL c.1 a) (valuesL c.2.1 a)))
  have e1 : logicX (kk, c) (valuesL c.1 a) (valuesL c.2.1 a) = bif decide (kk = 4) then truthB ((valuesL c.2.1 a).getD 0 0) (decide (sumX (kk, c) (valuesL c.1 a) ≤ c.2.2.2.2.2.1)) else bif decide (kk = 13) then truthB ((valuesL c.2.1 a).getD 0 0) (decide ((valuesL c.1 a).getD 0 0 = c.2.2.2.2.2.1)) else bif decide (kk = 14) then truthB ((valuesL c.2.1 a).getD 0 0) (decide ((valuesL c.1 a).getD 0 0 ≤ c.2.2.2.2.2.1)) else
   bif decide (kk = 15) then impliedB ((valuesL c.2.1 a).getD 0 0) (decide ((valuesL c.1 a).getD 0 0 = c.2.2.2.2.2.1)) else bif decide (kk = 16) then impliedB ((valuesL c.2.1 a).getD 0 0) (decide ((valuesL c.1 a).getD 0 0 ≤ c.2.2.2.2.2.1)) else containsL (valuesL c.1 a) 1 || containsL (valuesL c.2.1 a) 0 := rfl
  rw [e1]
  generalize (valuesL c.2.1 a).getD 0 0 = b
  generalize (valuesL c.1 a).getD 0 0 = x
  have tr : ∀ so : Bool, (bif decide (b = 1) then some (AV.v .bool so) else bif decide (b = 0) then (bif !so then some (AV.v .bool true) else some (AV.v .bool false)) else some (AV.v .bool false)) = some (AV.v .bool (truthB b so)) := fun so => by
   unfold truthB
   by_cases b1 : b = 1
   ·rw [decide_eq_true b1, decide_eq_false (show ¬ b = 0 by omega)]; cases so <;> rfl
   ·rw [decide_eq_false b1]
    cases decide (b = 0) <;> cases so <;> rfl
  have im : ∀ so : Bool, (bif decide (b = 1) then some (AV.v .bool so) else bif decide (b = 0) then (bif !so then some (AV.v .bool true) else some (AV.v .bool true)) else some (AV.v .bool false)) = some (AV.v .bool (impliedB b so)) := fun so => by
   unfold impliedB
   by_cases b1 : b = 1
   ·rw [decide_eq_true b1, decide_eq_false (show ¬ b = 0 by omega)]; cases so <;> rfl
   ·rw [decide_eq_false b1]
    cases decide (b = 0) <;> cases so <;> rfl
  have : kk = 13 ∨ kk = 14 ∨ kk = 15 ∨ kk = 16 := by omega
  rcases this with rfl | rfl | rfl | rfl
  ·exact tr (decide (x = c.2.2.2.2.2.1))
  ·exact tr (decide (x ≤ c.2.2.2.2.2.1))
  ·exact im (decide (x = c.2.2.2.2.2.1))
  ·exact im (decide (x ≤ c.2.2.2.2.2.1))
end Go.Proofs.YtohdaehblenokaaGreat.Ev
set_option linter.unusedVariables false
set_option linter.unusedSimpArgs false
set_option maxRecDepth 100000
namespace Go.Proofs.YtohdaehblenokaaGreat.Ev
open Go
theorem F57.sem (k : Nat) (kk : Int) (c : RestG) (a : List Int) (h : threeYB (kk, c) a = true) : callW F57.E false F57.fn k [.agg (explode ConT (kk, c)), .v (.sl (.int .i64)) a] = some (.v .bool (threeY (kk, c) a)) := by
 have h0 : (placesB1 c.1 a && a.all millB && (bif decide (kk = 8) || decide (kk = 11) then decide (2 ≤ c.1.length) else decide (3 ≤ c.1.length)) && (!(decide (kk = 11)) || (decide (1 ≤ c.2.2.1.length) && Nat.ble c.2.2.1.length 1000)) && (decide (5 ≤ kk) && decide (kk ≤ 11))) = true := h
 rw [Bool.and_eq_true, Bool.and_eq_true, Bool.and_eq_true, Bool.and_eq_true, Bool.and_eq_true, decide_eq_true_eq, decide_eq_true_eq] at h0
 obtain ⟨⟨⟨⟨hp, hm⟩, hl⟩, hC⟩, hk1, hk2⟩ := h0
 obtain ⟨p1, p2⟩ := places_iff hp
 have l2 : 2 ≤ c.1.length := by
  cases hb : (decide (kk = 8) || decide (kk = 11)) with
  | true => rw [hb] at hl; exact of_decide_eq_true hl
  | false => rw [hb] at hl; have := of_decide_eq_true hl; omega
 have l3 : kk ≠ 8 → kk ≠ 11 → 3 ≤ c.1.length := fun h8 h11 => by
  rw [decide_eq_false h8, decide_eq_false h11] at hl
  exact of_decide_eq_true hl
 have b0 := val_mill hp hm (show 0 < c.1.length by omega)
 have b1 := val_mill hp hm (show 1 < c.1.length by omega)
 refine (F57.start_eq k kk c a).trans ((bT' (decide_eq_true (by omega))).trans ((bT' (in_place (p2 0 (by omega)))).trans ((bT' (decide_eq_true (by omega))).trans ((bT' (in_place (p2 1 (by omega)))).trans ?_))))
 rw [← values_get (show 0 < c.1.length by omega), ← values_get (show 1 < c.1.length by omega)]
 have e0 : threeY (kk, c) a = bif decide (kk = 5) then decide ((valuesL c.1 a).getD 0 0 * (valuesL c.1 a).getD 1 0 = (valuesL c.1 a).getD 2 0) else bif decide (kk = 6) then !(decide ((valuesL c.1 a).getD 1 0 = 0)) && decide (((valuesL c.1 a).getD 0 0).tdiv ((valuesL c.1 a).getD 1 0) = (valuesL c.1 a).getD 2 0) else bif decide (kk = 7) then !(decide ((valuesL c.1 a).getD 1 0 = 0)) && decide (((valuesL c.1 a).getD 0 0).tmod ((valuesL c.1 a).getD 1 0) = (valuesL c.1 a).getD 2 0) else
  bif decide (kk = 8) then decide ((if (valuesL c.1 a).getD 0 0 < -((valuesL c.1 a).getD 0 0) then -((valuesL c.1 a).getD 0 0) else (valuesL c.1 a).getD 0 0) = (valuesL c.1 a).getD 1 0) else bif decide (kk = 9) then decide ((if (valuesL c.1 a).getD 1 0 < (valuesL c.1 a).getD 0 0 then (valuesL c.1 a).getD 1 0 else (valuesL c.1 a).getD 0 0) = (valuesL c.1 a).getD 2 0) else
  bif decide (kk = 10) then decide ((if (valuesL c.1 a).getD 1 0 > (valuesL c.1 a).getD 0 0 then (valuesL c.1 a).getD 1 0 else (valuesL c.1 a).getD 0 0) = (valuesL c.1 a).getD 2 0) else
  decide ((valuesL c.1 a).getD 0 0 ≥ 1) && (decide ((valuesL c.1 a).getD 0 0 ≤ (c.2.2.1.length : Int)) && decide (c.2.2.1.getD ((valuesL c.1 a).getD 0 0 - 1).toNat 0 = (valuesL c.1 a).getD 1 0)) := rfl
 rw [e0]
 generalize hx0 : (valuesL c.1 a).getD 0 0 = v0 at b0 ⊢
 generalize hx1 : (valuesL c.1 a).getD 1 0 = v1 at b1 ⊢
 by_cases h8 : kk = 8
 ·subst h8
  refine (bT' rfl).trans ?_
  show _ = some (AV.v .bool (decide ((if v0 < -v0 then -v0 else v0) = v1)))
  rw [wrap_ok (x := 0 - v0) (by omega) (by omega)]
  by_cases c1 : v0 ≥ 0
  ·have e : decide ((if v0 < -v0 then -v0 else v0) = v1) = decide (v1 = v0) := by
    rw [if_neg (by omega), Bool.eq_iff_iff, decide_eq_true_eq, decide_eq_true_eq]
    omega
   rw [e, decide_eq_true c1, decide_eq_false (show ¬ v0 < 0 by omega)]
   cases decide (v1 = v0) <;> rfl
  ·have e : decide ((if v0 < -v0 then -v0 else v0) = v1) = decide (v1 = 0 - v0) := by
    rw [if_pos (by omega), Bool.eq_iff_iff, decide_eq_true_eq, decide_eq_true_eq]
    omega
   rw [e, decide_eq_false c1, decide_eq_true (show v0 < 0 by omega)]
   rfl
 ·refine (bF' (decide_eq_false h8)).trans ?_
  by_cases h11 : kk = 11
  ·subst h11
   refine (bT' rfl).trans ?_
   show _ = some (AV.v .bool (decide (v0 ≥ 1) && (decide (v0 ≤ (c.2.2.1.length : Int)) && decide (c.2.2.1.getD (v0 - 1).toNat 0 = v1))))
   have hC : (decide (1 ≤ c.2.2.1.length) && Nat.ble c.2.2.1.length 1000) = true := hC
   rw [Bool.and_eq_true, decide_eq_true_eq, Nat.ble_eq] at hC
   rw [wrap_ok (x := v0 - 1) (by omega) (by omega)]
   by_cases c1 : v0 ≥ 1
   ·rw [decide_eq_true c1]
    by_cases c2 : v0 ≤ (c.2.2.1.length : Int)
    ·have e : ((if 0 > v0 - 1 then 0 else v0 - 1).tmod (c.2.2.1.length : Int)) = v0 - 1 := by
      rw [if_neg (by omega)]
      exact Int.tmod_eq_of_lt (by omega) (by omega)
     rw [decide_eq_true c2, e, decide_eq_false (show ¬ (c.2.2.1.length : Int) = 0 by omega), in_place (a := c.2.2.1) ⟨by omega, by omega⟩]
     rfl
    ·rw [decide_eq_false c2]
     rfl
   ·rw [decide_eq_false c1]
    rfl
  ·have l3 := l3 h8 h11
   have b2 := val_mill hp hm (show 2 < c.1.length by omega)
   refine (bF' (decide_eq_false h11)).trans ((bT' (decide_eq_true (by omega))).trans ((bT' (in_place (p2 2 (by omega)))).trans ?_))
   rw [← values_get (show 2 < c.1.length by omega)]
   generalize hx2 : (valuesL c.1 a).getD 2 0 = v2 at b2 ⊢
   have hk : kk = 5 ∨ kk = 6 ∨ kk = 7 ∨ kk = 9 ∨ kk = 10 := by omega
   have q : (millB v0 && millB v1) = true := by rw [mill_iff.mpr b0, mill_iff.mpr b1]; rfl
   have t := tdiv_small v1 b0
   rcases hk with rfl | rfl | rfl | rfl | rfl
   ·have p := mul_mill b0 b1
    rw [wrap_ok (x := v0 * v1) (by omega) (by omega)]
    rfl
   ·rw [q]
    show (bif unZ v1 then some (AV.v .bool (decide (v0.tdiv v1 = v2))) else some (AV.v .bool false)) = some (AV.v .bool (unZ v1 && decide (v0.tdiv v1 = v2)))
    cases unZ v1 <;> rfl
   ·rw [q]
    show (bif unZ v1 then some (AV.v .bool (decide (IntKind.i64.wrap (v0 - IntKind.i64.wrap (v1 * v0.tdiv v1)) = v2))) else some (AV.v .bool false)) = some (AV.v .bool (unZ v1 && decide (v0.tmod v1 = v2)))
    have p := mul_mill b1 t
    rw [wrap_ok (x := v1 * v0.tdiv v1) (by omega) (by omega), wrap_ok (x := v0 - v1 * v0.tdiv v1) (by omega) (by omega), ← Int.tmod_def]
    cases unZ v1 <;> rfl
   ·show (bif decide (v2 ≤ v0) then bif decide (v2 ≤ v1) then bif decide (v2 = v0) then some (AV.v .bool true) else some (AV.v .bool (decide (v2 = v1))) else some (AV.v .bool false) else some (AV.v .bool false)) = some (AV.v .bool (decide ((if v1 < v0 then v1 else v0) = v2)))
    have e : (decide (v2 ≤ v0) && (decide (v2 ≤ v1) && (decide (v2 = v0) || decide (v2 = v1)))) = decide ((if v1 < v0 then v1 else v0) = v2) := by
     rw [Bool.eq_iff_iff, Bool.and_eq_true, Bool.and_eq_true, Bool.or_eq_true, decide_eq_true_eq, decide_eq_true_eq, decide_eq_true_eq, decide_eq_true_eq, decide_eq_true_eq]
     split <;> omega
    rw [← e]
    cases decide (v2 ≤ v0) <;> cases decide (v2 ≤ v1) <;> cases decide (v2 = v0) <;> cases decide (v2 = v1) <;> rfl
   ·show (bif decide (v2 ≥ v0) then bif decide (v2 ≥ v1) then bif decide (v2 = v0) then some (AV.v .bool true) else some (AV.v .bool (decide (v2 = v1))) else some (AV.v .bool false) else some (AV.v .bool false)) = some (AV.v .bool (decide ((if v1 > v0 then v1 else v0) = v2)))
    have e : (decide (v2 ≥ v0) && (decide (v2 ≥ v1) && (decide (v2 = v0) || decide (v2 = v1)))) = decide ((if v1 > v0 then v1 else v0) = v2) := by
     rw [Bool.eq_iff_iff, Bool.and_eq_true, Bool.and_eq_true, Bool.or_eq_true, decide_eq_true_eq, decide_eq_true_eq, decide_eq_true_eq, decide_eq_true_eq, decide_eq_true_eq]
     split <;> omega
    rw [← e]
    cases decide (v2 ≥ v0) <;> cases decide (v2 ≥ v1) <;> cases decide (v2 = v0) <;> cases decide (v2 = v1) <;> rfl
end Go.Proofs.YtohdaehblenokaaGreat.Ev
