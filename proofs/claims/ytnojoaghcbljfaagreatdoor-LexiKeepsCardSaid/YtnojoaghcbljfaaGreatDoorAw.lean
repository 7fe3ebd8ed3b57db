/-
Seat 'a': rows of values, solutions among domains: what the functions answer.
Conditions: lists are short.
-/
import Derived.Test.YtnojoaghcbljfaaGreatDoorAv
import Derived.Test.YtnojoaghcbljfaaGreatDoorAh
import Derived.Test.YtnojoaghcbljfaaGreatDoorAt
set_option linter.unusedVariables false
set_option linter.unusedSimpArgs false
set_option maxRecDepth 100000
namespace Go.Proofs.YtnojoaghcbljfaaGreatDoor.Ev
open Go

theorem many_loop {L : Nat → Int → Int → Option AV} {d : List (List Int)} {most : Int} {hit : Option AV} {miss : Int → Option AV} (h0 : 0 ≤ most) (h1 : most ≤ 100000) (hl : d.length ≤ 1000) (hs : ∀ x ∈ d, x.length ≤ 1000)
    (h : ∀ n m i, L (n + 1) m i = bif decide (i < (d.length : Int)) then (bif decide (0 ≤ i) && decide (i < (d.length : Int)) then (bif decide (IntKind.i64.wrap (m * ((d.getD i.toNat []).length : Int)) > most) then hit else
      L n (IntKind.i64.wrap (m * ((d.getD i.toNat []).length : Int))) (IntKind.i64.wrap (i + 1))) else none) else miss m) :
    ∀ (n : Nat) (m i : Int), 0 ≤ i → i ≤ d.length → d.length - i < n → 0 ≤ m → m ≤ 100001 →
      L n m i = bif manyGo most (d.drop i.toNat) m then hit else miss (m * (prodN (d.drop i.toNat) : Int)) := by
  intro n
  induction n with
  | zero => intro m i h0 h1 h2; omega
  | succ n ih =>
    intro m i hi hi1 hn hm hm1
    rw [h]
    by_cases hlt : i < d.length
    · have hx := hs _ (getD_in (d := []) hi hlt)
      rw [drop_get (d := []) hi hlt]
      generalize d.getD i.toNat [] = x at hx
      have hp0 : 0 ≤ m * (x.length : Int) := Int.mul_nonneg hm (by omega)
      have hp1 : m * (x.length : Int) ≤ 100001 * 1000 := Int.mul_le_mul hm1 (by omega) (by omega) (by omega)
      rw [wrap_ok (x := m * (x.length : Int)) (by omega) (by omega), wrap_ok (x := i + 1) (by omega) (by omega)]
      simp only [hlt, hi, decide_true, Bool.and_true, cond_true, manyGo, prodN]
      by_cases hc : m * (x.length : Int) > most
      · simp only [hc, decide_true, cond_true, if_true]
      · simp only [hc, decide_false, cond_false, if_false]
        rw [ih _ (i + 1) (by omega) (by omega) (by omega) hp0 (by omega)]
        congr 2
        rw [Int.natCast_mul, Int.mul_assoc]
    · rw [List.drop_of_length_le (by omega)]
      simp only [hlt, decide_false, cond_false, manyGo, prodN]
      congr 1
      omega
structure PB (d : List (List Int)) (most : Int) : Prop where
  lo : 0 ≤ most
  hi : most ≤ 100000
  len : d.length ≤ 1000
  each : ∀ x ∈ d, x.length ≤ 1000 ∧ 1 ≤ x.length
theorem productB_ok {d : List (List Int)} {most : Int} (h : productB d most = true) : PB d most := by
  unfold productB at h
  simp only [Bool.and_eq_true, decide_eq_true_eq, Nat.ble_eq, List.all_eq_true] at h
  exact ⟨h.1.1.1, h.1.1.2, h.1.2, fun x hx => h.2 x hx⟩
theorem many_prod {most : Int} : ∀ (d : List (List Int)) (m : Int), 0 ≤ m → m ≤ max most 1 → (∀ x ∈ d, 1 ≤ x.length) → manyGo most d m = false → m * (prodN d : Int) ≤ max most 1
  | [], m, h0, h1, _, _ => by simp only [prodN]; omega
  | x :: d, m, h0, h1, hx, h => by
    simp only [manyGo] at h
    by_cases hc : m * (x.length : Int) > most
    · simp [hc] at h
    · simp only [hc, if_false] at h
      have := many_prod d (m * (x.length : Int)) (Int.mul_nonneg h0 (by omega)) (by omega) (fun y hy => hx y (by simp [hy])) h
      simp only [prodN]
      rw [Int.natCast_mul, ← Int.mul_assoc]
      exact this
theorem prod_le {d : List (List Int)} {most : Int} (hp : PB d most) (h : manyL d most = false) : prodN d ≤ 100000 := by
  have := many_prod d 1 (by omega) (by omega) (fun x hx => (hp.each x hx).2) h
  have := hp.hi
  have := hp.lo
  omega
theorem F45.row (K : Conts) (d : List (List Int)) (hd : ∀ x ∈ d, x.length ≤ 1000 ∧ 1 ≤ x.length) (hl : d.length ≤ 1000) (N k : Int) (acc : List (List Int)) : ∀ (j n r : Nat) (row : List Int), j ≤ d.length → row.length = d.length → j < n → r ≤ 1000000000 →
    F45.l1_1_1_1_0_1_0_0_1_0_0_1_1_0_1_0 n K d N k (r : Int) ((j : Int) - 1) acc row =
    exitK K 4 ⟨slots 72 [(0, .v (.sl (.sl (.int .i64))) d), (5, .v (.int .i64) N), (7, .own 0), (8, .v (.int .i64) k), (9, .own 1)], [.row 30 (.sl (.int .i64)) acc, .row 3 (.int .i64) ((rowR (d.take j).reverse r).reverse ++ row.drop j)]⟩ := by
  intro j
  induction j with
  | zero =>
    intro n r row hj hr hn hr1
    obtain ⟨n, rfl⟩ : ∃ m, n = m + 1 := ⟨n - 1, by omega⟩
    refine (F45.l1_1_1_1_0_1_0_0_1_0_0_1_1_0_1_0_eq n K d N k r _ acc row).trans ?_
    have : ¬ (((0 : Nat) : Int) - 1 ≥ 0) := by omega
    simp only [this, decide_false, cond_false]
    rfl
  | succ j ih =>
    intro n r row hj hr hn hr1
    obtain ⟨n, rfl⟩ : ∃ m, n = m + 1 := ⟨n - 1, by omega⟩
    refine (F45.l1_1_1_1_0_1_0_0_1_0_0_1_1_0_1_0_eq n K d N k r _ acc row).trans ?_
    have e : ((j + 1 : Nat) : Int) - 1 = (j : Int) := by omega
    rw [e]
    have ej : (j : Int).toNat = j := by omega
    rw [ej]
    have hjl : j < d.length := by omega
    have a1 : (j : Int) ≥ 0 := by omega
    have a1' : (0 : Int) ≤ (j : Int) := by omega
    have a2 : (j : Int) < d.length := by omega
    have a3 : (j : Int) < row.length := by omega
    have hx := hd _ (getD_in (i := (j : Int)) (d := []) (by omega) a2)
    rw [ej] at hx
    have htake : d.take (j + 1) = d.take j ++ [d.getD j []] := by
      rw [List.take_add_one, List.getD_eq_getElem?_getD, List.getElem?_eq_getElem hjl]
      rfl
    rw [htake]
    generalize d.getD j [] = x at hx
    have b1 : ¬ (x.length : Int) = 0 := by omega
    have em : (r : Int).tmod (x.length : Int) = ((r % x.length : Nat) : Int) := (Int.ofNat_tmod r x.length).symm
    have ed : (r : Int).tdiv (x.length : Int) = ((r / x.length : Nat) : Int) := (Int.ofNat_tdiv r x.length).symm
    have hm : r % x.length < x.length := Nat.mod_lt _ (by omega)
    have hq : r / x.length ≤ r := Nat.div_le_self _ _
    have hq0 : (0 : Int) ≤ ((r / x.length : Nat) : Int) := Int.natCast_nonneg _
    have hq1 : ((r / x.length : Nat) : Int) ≤ 1000000000 := Int.ofNat_le.mpr (Nat.le_trans hq hr1)
    have b2 : (0 : Int) ≤ ((r % x.length : Nat) : Int) := by omega
    have b3 : ((r % x.length : Nat) : Int) < (x.length : Int) := by omega
    rw [em, ed, wrap_ok (x := ((r / x.length : Nat) : Int)) (by omega) (by omega), wrap_ok (x := (j : Int) - 1) (by omega) (by omega)]
    simp only [a1, a1', a2, a3, b1, b2, b3, decide_true, decide_false, Bool.not_false, Bool.and_true, cond_true]
    rw [Int.toNat_natCast, ih n (r / x.length) (row.set j (x.getD (r % x.length) 0)) (by omega) (by simp [hr]) (by omega) (by omega)]
    congr 5
    rw [List.reverse_append, List.reverse_singleton, List.singleton_append]
    simp only [rowR, List.reverse_cons, List.append_assoc]
    congr 1
    rw [List.drop_set]
    have : ¬ j < j := Nat.lt_irrefl _
    simp only [this, if_false, Nat.sub_self]
    have hd2 : row.drop j = row.getD j 0 :: row.drop (j + 1) := by
      rw [List.drop_eq_getElem_cons (by omega), List.getD_eq_getElem?_getD, List.getElem?_eq_getElem (by omega)]
      rfl
    rw [hd2]
    rfl
theorem rowOf_eq (d : List (List Int)) (k : Nat) (row : List Int) (hr : row.length = d.length) : (rowR (d.take d.length).reverse k).reverse ++ row.drop d.length = rowOf d k := by
  rw [List.take_length, ← hr, List.drop_length, List.append_nil]
  rfl
theorem getD_range {n : Nat} {i : Int} (h0 : 0 ≤ i) (h1 : i < (List.range n).length) : (List.range n).getD i.toNat 0 = i.toNat := by
  rw [List.length_range] at h1
  rw [List.getD_eq_getElem?_getD, List.getElem?_range (by omega)]
  rfl
theorem F45.sem (d : List (List Int)) (most : Int) (h : productB d most = true) : ∃ r, callW F45.E false F45.fn 102000 [.v (.sl (.sl (.int .i64))) d, .v (.int .i64) most] = some r ∧ WA r (.v (.sl (.sl (.int .i64))) (productL d most)) := by
  have hp := productB_ok h
  rw [F45.start_eq]
  rw [many_loop (L := fun n m i => F45.l1_1_0_1_0 n (F45.kt 102000 [1, 1, 0, 1, 0]) d most m i) hp.lo hp.hi hp.len (fun x hx => (hp.each x hx).1) (fun n m i => F45.l1_1_0_1_0_eq n _ d most m i) 102000 1 0 (by omega) (by omega) (by have := hp.len; omega) (by omega) (by omega)]
  have e0 : d.drop (Int.toNat 0) = d := rfl
  rw [e0]
  unfold productL
  have em : manyGo most d 1 = manyL d most := rfl
  rw [em]
  cases hm : manyL d most with
  | true => exact ⟨_, F45.c0 _, .two (by simp) (.one (by simp) (.nl _))⟩
  | false =>
    simp only [cond_false]
    have hN := prod_le hp hm
    rw [Int.one_mul, F45.c1]
    have := range_loopN (fun n i (acc : List (List Int)) => F45.l1_1_1_1_0_1_0 n (F45.kt 102000 [1, 1, 1, 1, 0, 1, 0]) d (prodN d : Int) i acc) (List.range (prodN d)) 0 (fun _ acc k => acc ++ [rowOf d k])
      (fun acc => exitK (F45.kt 102000 [1, 1, 1, 1, 0, 1, 0]) 2 ⟨slots 72 [(7, .own 0)], [.row 30 (.sl (.int .i64)) acc]⟩) (fun i acc => acc.length ≤ i.toNat) 1001 (by
        intro n i acc hn hI h0 h1
        have hr := getD_range h0 h1
        rw [List.length_range] at h1
        have lim : ∀ x : List Int, (acc.length + [x].length) * 24 ≤ LIM := fun x => lim24 (by simp; omega)
        refine ⟨(F45.l1_1_1_1_0_1_0_eq n _ d _ i acc).trans ?_, by simp; omega⟩
        have a1 : (0 : Int) ≤ (d.length : Int) := by omega
        have a2 : (d.length : Int).toNat * 8 ≤ LIM := lim8 (by have := hp.len; omega)
        have hl := hp.len
        rw [wrap_ok (x := (d.length : Int) - 1) (by omega) (by omega)]
        simp only [h1, a1, a2, decide_true, Bool.and_true, cond_true]
        have ei : i = (i.toNat : Int) := by omega
        have hrow := F45.row (F45.k_l1_1_1_1_0_1_0 n (F45.kt 102000 [1, 1, 1, 1, 0, 1, 0]) [1, 0, 0, 1, 1, 0, 1, 0]) d hp.each hp.len (prodN d : Int) i acc d.length n i.toNat (List.replicate (d.length : Int).toNat 0) (Nat.le_refl _) (by simp) (by omega) (by omega)
        rw [← ei] at hrow
        rw [hrow, rowOf_eq _ _ _ (by simp), F45.c3]
        simp only [lim, decide_true, cond_true]
        rw [wrap_ok (by omega) (by omega), hr]) (by
        intro n i acc hn hI hi
        rw [List.length_range] at hi
        refine (F45.l1_1_1_1_0_1_0_eq n _ d _ i acc).trans ?_
        have : ¬ i < (prodN d : Int) := by omega
        simp only [this, decide_false, cond_false]) 102000 0 [] (by simp) (by omega) (by omega) (by rw [List.length_range]; omega)
    refine ⟨_, (show _ = _ from this).trans (F45.c2 _ _), ?_⟩
    rw [goFold_map]
    exact WA.refl _
/-! ### does a constraint hold? -/
end Go.Proofs.YtnojoaghcbljfaaGreatDoor.Ev
