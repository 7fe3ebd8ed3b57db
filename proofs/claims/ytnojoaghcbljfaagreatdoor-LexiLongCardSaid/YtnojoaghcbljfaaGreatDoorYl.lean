/-
The law of two long rows that begin alike: what its functions answer.
Conditions: none.
-/
import Derived.Test.YtnojoaghcbljfaaGreatDoorYd
import Derived.Test.YtnojoaghcbljfaaGreatDoorYe
import Derived.Test.YtnojoaghcbljfaaGreatDoorLg
set_option linter.unusedVariables false
set_option linter.unusedSimpArgs false
set_option maxRecDepth 100000
namespace Go.Proofs.YtnojoaghcbljfaaGreatDoor.Ev
open Go Go.RowKit
theorem min_take {α : Type} (k : Nat) (l : List α) : (decide (0 ≤ (if (k : Int) < (l.length : Int) then (k : Int) else (l.length : Int))) && decide ((if (k : Int) < (l.length : Int) then (k : Int) else (l.length : Int)) ≤ l.length)) = true ∧ l.take ((if (k : Int) < (l.length : Int) then (k : Int) else (l.length : Int)).toNat) = l.take k := by
 by_cases h : (k : Int) < (l.length : Int)
 ·rw [if_pos h, decide_eq_true (show (0 : Int) ≤ (k : Int) by omega), decide_eq_true (show (k : Int) ≤ (l.length : Int) by omega), Int.toNat_natCast]
  exact ⟨rfl, rfl⟩
 ·rw [if_neg h, decide_eq_true (show (0 : Int) ≤ (l.length : Int) by omega), decide_eq_true (show (l.length : Int) ≤ (l.length : Int) by omega), Int.toNat_natCast, List.take_of_length_le (Nat.le_refl _), List.take_of_length_le (by omega)]
  exact ⟨rfl, rfl⟩
theorem eqL_cons (x y : Int) (a b : List Int) : eqL (x :: a) (y :: b) = if x = y then eqL a b else false := by
 unfold eqL
 by_cases h : x = y
 ·rw [if_pos h, h]
  congr 1
  simp
 ·rw [if_neg h]
  exact decide_eq_false fun e => h (List.cons.inj e).1
theorem F47.sem (a b : List Int) (h : Nat.ble a.length 1000 = true) : callW F47.E false F47.fn 2000 [.v (.sl (.int .i64)) a, .v (.sl (.int .i64)) b] = some (.v .bool (eqL a b)) := by
 rw [Nat.ble_eq] at h
 refine (F47.start_eq 2000 a b).trans ?_
 by_cases hl : (a.length : Int) = (b.length : Int)
 ·refine (bF (by rw [decide_eq_true hl]; rfl)).trans ?_
  have key : ∀ d i n : Nat, i + d = a.length → d < n → F47.l1_1_0_1_0 n (F47.kt 2000 [1, 1, 0, 1, 0]) a b (a.length : Int) (i : Int) = some (.v .bool (eqL (a.drop i) (b.drop i))) := by
   intro d
   induction d with
   | zero =>
    intro i n h1 h2
    obtain ⟨n', rfl⟩ : ∃ n', n = n' + 1 := ⟨n - 1, by omega⟩
    obtain rfl : i = a.length := by omega
    refine (F47.l1_1_0_1_0_eq ..).trans (self_lt'.trans ((F47.c1 2000).trans ?_))
    have e : b.drop a.length = [] := List.drop_of_length_le (by omega)
    rw [List.drop_length, e]
    rfl
   | succ d ih =>
    intro i n h1 h2
    obtain ⟨n', rfl⟩ : ∃ n', n = n' + 1 := ⟨n - 1, by omega⟩
    have hi : i < a.length := by omega
    have hb : i < b.length := by omega
    have w : IntKind.i64.wrap ((i : Int) + 1) = ((i + 1 : Nat) : Int) := by rw [wrap_ok (by omega) (by omega)]; omega
    refine (F47.l1_1_0_1_0_eq ..).trans ((bT (lt_nat hi)).trans ((bT (in_nat hi)).trans ((bT (in_nat hb)).trans ?_)))
    rw [Int.toNat_natCast, w, drop_getD hi 0, drop_getD hb 0, eqL_cons]
    by_cases e : a.getD i 0 = b.getD i 0
    ·rw [if_pos e]
     exact (bF (by rw [decide_eq_true e]; rfl)).trans (ih (i + 1) n' (by omega) (by omega))
    ·rw [if_neg e]
     exact (bT (by rw [decide_eq_false e]; rfl)).trans (F47.c0 2000)
  exact key a.length 0 2000 (by omega) (by omega)
 ·refine (bT (by rw [decide_eq_false hl]; rfl)).trans ?_
  have : eqL a b = false := decide_eq_false fun e => hl (by rw [e])
  rw [this]
theorem F337.sem (l : List Int) : callW F337.E false F337.fn 2000 [.v (.sl (.int .i8)) l] = some (.v (.sl (.int .i64)) (risingL l)) := by
 have ne : ∀ m : List Int, m ≠ [] → m.length ≤ 1000 → (!(List.isEmpty m) && Nat.ble (List.length m) 1000) = true := fun m h1 h2 => by
  rw [Nat.ble_eq_true_of_le h2]
  cases m with
  | nil => exact absurd rfl h1
  | cons x m => rfl
 have fin : ∀ m : List Int, m ≠ [] → m.length ≤ 1000 → F337.n1_1_1 2000 (F337.kt 2000 [1, 1, 1]) m = some (.v (.sl (.int .i64)) (compL (sortL m))) := fun m h1 h2 => by
  have hs : sortL m ≠ [] := fun e => by
   have := sortL_len m
   rw [e] at this
   exact h1 (List.length_eq_zero_iff.mp this.symm)
  exact (F337.n1_1_1_eq ..).trans ((bT (ne m h1 h2)).trans ((bT (ne _ hs (by rw [sortL_len]; exact h2))).trans (F337.c1 ..)))
 refine (F337.start_eq 2000 l).trans ?_
 unfold risingL
 by_cases h : (l.length : Int) > 0
 ·rw [if_pos h]
  obtain ⟨m1, m2⟩ := min_take 5 l
  refine (bT (decide_eq_true h)).trans ((bT m1).trans ?_)
  show F337.l1_1_0_1_0_1_1_0 2000 (F337.kt 2000 [1, 1, 0, 1, 0, 1, 1, 0]) (l.take ((if ((5 : Nat) : Int) < (l.length : Int) then ((5 : Nat) : Int) else (l.length : Int)).toNat)) ((l.take ((if ((5 : Nat) : Int) < (l.length : Int) then ((5 : Nat) : Int) else (l.length : Int)).toNat)).length : Int) 0 [] = _
  rw [m2]
  have hn : (l.take 5).length ≤ 5 := by rw [List.length_take]; omega
  have hp : 0 < (l.take 5).length := by rw [List.length_take]; omega
  generalize l.take 5 = xs at hn hp ⊢
  refine (map_loop (f := IntKind.i64.wrap) xs (fun n j acc => F337.l1_1_0_1_0_1_1_0 n (F337.kt 2000 [1, 1, 0, 1, 0, 1, 1, 0]) xs (xs.length : Int) j acc) (fun acc => F337.n1_1_1 2000 (F337.kt 2000 [1, 1, 1]) acc) (fun n j acc hj ha => ?_) (fun n acc => ?_) xs.length 0 2000 [] (by omega) (by omega) (by simp; omega)).trans ?_
  ·have wj : IntKind.i64.wrap ((j : Int) + 1) = ((j + 1 : Nat) : Int) := by rw [wrap_ok (by omega) (by omega)]; omega
   have l1 : ∀ y : Int, decide ((acc.length + [y].length) * 8 ≤ LIM) = true := fun y => decide_eq_true (show (acc.length + 1) * 8 ≤ 140737488355328 by omega)
   refine (F337.l1_1_0_1_0_1_1_0_eq ..).trans ((bT (lt_nat hj)).trans ((bT (in_nat hj)).trans ((bT (l1 _)).trans ?_)))
   rw [wj, Int.toNat_natCast]
  ·exact (F337.l1_1_0_1_0_1_1_0_eq ..).trans (self_lt'.trans (F337.c0 ..))
  ·rw [List.drop_zero, List.nil_append]
   exact fin _ (fun e => by have := congrArg List.length e; simp at this; rw [this] at hp; cases hp) (by simp; omega)
 ·rw [if_neg h]
  exact (bF (decide_eq_false h)).trans (fin [3] (by simp) (by simp))
structure St4 where
  a : List (List Int)
  b : List (List Int)
  c : List Int
  d : List Int
def stL (J N : Nat) (a b : List Int) (i : Nat) : St4 := ⟨rowsJ J a i, rowsJ J b i, (List.range i).map fun (i : Nat) => (i : Int), (List.range i).map fun (i : Nat) => (N : Int) + (i : Int)⟩
theorem rowsJ_succ (J : Nat) (a : List Int) (i : Nat) : rowsJ J a (i + 1) = rowsJ J a i ++ [rowJ J a i] := by
 unfold rowsJ
 rw [List.range_succ, List.map_append]
 rfl
theorem lim24L {α : Type} {l : List α} (h : l.length ≤ 1000) (x : α) : decide ((l.length + [x].length) * 24 ≤ LIM) = true := decide_eq_true (show (l.length + 1) * 24 ≤ 140737488355328 by omega)
theorem lim8L {l : List Int} (h : l.length ≤ 1000) (x : Int) : decide ((l.length + [x].length) * 8 ≤ LIM) = true := decide_eq_true (show (l.length + 1) * 8 ≤ 140737488355328 by omega)
theorem F308.sem (z : Int × Int × List Int × List Int) (h1 : 0 ≤ z.1 ∧ z.1 < 256) (h2 : 0 ≤ z.2.1 ∧ z.2.1 < 256) (h3 : I8s z.2.2.1) (h4 : I8s z.2.2.2) :
  callW F308.E false F308.fn 2000 [.agg [.v (.int .u8) z.1, .v (.int .u8) z.2.1, .v (.sl (.int .i8)) z.2.2.1, .v (.sl (.int .i8)) z.2.2.2]] = some (.v .bool true) := by
 have ha := small_rising h3
 have hb := small_rising h4
 refine (F308.start_eq 2000 z).trans ?_
 generalize risingL z.2.2.1 = a at ha ⊢
 generalize risingL z.2.2.2 = b at hb ⊢
 obtain ⟨N, eN, N1, N30⟩ : ∃ N : Nat, IntKind.i64.wrap (1 + (IntKind.i64.wrap (z.1.tmod 30))) = (N : Int) ∧ 1 ≤ N ∧ N ≤ 30 := by
  have t1 := Int.tmod_lt_of_pos z.1 (show (0 : Int) < 30 by omega)
  have t2 := Int.tmod_nonneg 30 h1.1
  refine ⟨(1 + z.1.tmod 30).toNat, ?_, by omega, by omega⟩
  rw [wrap_ok (x := z.1.tmod 30) (by omega) (by omega), wrap_ok (by omega) (by omega)]
  omega
 rw [eN]
 obtain ⟨J, eJ, hJ⟩ : ∃ J : Nat, (IntKind.i64.wrap z.2.1).tmod (N : Int) = (J : Int) ∧ J < N := by
  rw [wrap_ok (x := z.2.1) (by omega) (by omega)]
  have t1 := Int.tmod_lt_of_pos z.2.1 (show (0 : Int) < (N : Int) by omega)
  have t2 := Int.tmod_nonneg (N : Int) h2.1
  exact ⟨(z.2.1.tmod (N : Int)).toNat, by omega, by omega⟩
 rw [eJ]
 refine (bT (by rw [decide_eq_false (show ¬ (N : Int) = 0 by omega)]; rfl)).trans ?_
 refine (st_loop (stL J N a b) N 0 (fun n i s => F308.l1_1_1_1_1_1_1_0_1_0 n (F308.kt 2000 [1, 1, 1, 1, 1, 1, 1, 0, 1, 0]) (N : Int) (J : Int) a b (N : Int) i 22 0 s.a s.b s.c s.d) _ (fun n i _ hi => ?_) (fun n => (F308.l1_1_1_1_1_1_1_0_1_0_eq ..).trans (self_lt'.trans (F308.c0 ..))) N 0 2000 (by omega) (by omega)).trans ?_
 ·have w : IntKind.i64.wrap ((i : Int) + 1) = ((i + 1 : Nat) : Int) := by rw [wrap_ok (by omega) (by omega)]; omega
  have w2 : IntKind.i64.wrap ((N : Int) + (i : Int)) = (N : Int) + (i : Int) := wrap_ok (by omega) (by omega)
  have la : (stL J N a b i).a.length ≤ 1000 := by unfold stL; rw [rowsJ_len]; omega
  have lb : (stL J N a b i).b.length ≤ 1000 := by unfold stL; rw [rowsJ_len]; omega
  have lc : (stL J N a b i).c.length ≤ 1000 := by unfold stL; simp; omega
  have ld : (stL J N a b i).d.length ≤ 1000 := by unfold stL; simp; omega
  have ec : (stL J N a b i).c ++ [(i : Int)] = (stL J N a b (i + 1)).c := by unfold stL; simp only [List.range_succ, List.map_append, List.map_cons, List.map_nil]
  have ed : (stL J N a b i).d ++ [(N : Int) + (i : Int)] = (stL J N a b (i + 1)).d := by unfold stL; simp only [List.range_succ, List.map_append, List.map_cons, List.map_nil]
  have ea : (stL J N a b i).a ++ [rowJ J a i] = (stL J N a b (i + 1)).a := (rowsJ_succ J a i).symm
  have eb : (stL J N a b i).b ++ [rowJ J b i] = (stL J N a b (i + 1)).b := (rowsJ_succ J b i).symm
  refine (F308.l1_1_1_1_1_1_1_0_1_0_eq ..).trans ((bT (lt_nat hi)).trans ((bT (lim8L lc (i : Int))).trans ((bT (lim8L ld ((N : Int) + (i : Int)))).trans ?_)))
  rw [w, w2, ec, ed]
  by_cases c1 : i < J
  ·have r1 : ∀ x, rowJ J x i = [(i : Int)] := fun x => by unfold rowJ; rw [if_pos c1]
   rw [r1] at ea eb
   refine (bT (lt_nat c1)).trans ((bT (lim24L la [(i : Int)])).trans ((bT (lim24L lb [(i : Int)])).trans ?_))
   rw [ea, eb]
  ·refine (bF (decide_eq_false (by omega))).trans ?_
   by_cases c2 : i = J
   ·have r1 : ∀ x, rowJ J x i = x := fun x => by unfold rowJ; rw [if_neg c1, if_pos c2]
    rw [r1] at ea eb
    refine (bT (decide_eq_true (by omega))).trans ((bT (lim24L la a)).trans ((bT (lim24L lb b)).trans ?_))
    rw [ea, eb]
   ·have r1 : ∀ x, rowJ J x i = [0, 1] := fun x => by unfold rowJ; rw [if_neg c1, if_neg c2]
    rw [r1] at ea eb
    refine (bF (decide_eq_false (by omega))).trans ((bT (lim24L la ([0, 1] : List Int))).trans ((bT (lim24L lb ([0, 1] : List Int))).trans ?_))
    rw [ea, eb]
 have L := long_law hJ N30 ha hb
 have hfl : (rowsJ J a N ++ rowsJ J b N).length = N + N := by rw [List.length_append, rowsJ_len, rowsJ_len]
 have hfb := (fits_long N1 N30 hfl fun x hx => (long_all N30 ha hb x hx).1).2
 have la : (rowsJ J a N).length = N := rowsJ_len _ _ _
 have lb : (rowsJ J b N).length = N := rowsJ_len _ _ _
 have q1 : cloneB (rowsJ J a N) = true := by
  unfold cloneB
  rw [la, decide_eq_false (show ¬ N = 0 by omega), Nat.ble_eq_true_of_le (by omega)]
  rfl
 have q2 : decide (((rowsJ J a N).length + (rowsJ J b N).length) * 24 ≤ LIM) = true := decide_eq_true (show ((rowsJ J a N).length + (rowsJ J b N).length) * 24 ≤ 140737488355328 by omega)
 have q3 : Nat.ble (rowsJ J a N ++ rowsJ J b N).length 1000 = true := Nat.ble_eq_true_of_le (by omega)
 have a0 : 0 < a.length := List.length_pos_iff.mpr ha.ne
 have b0 : 0 < b.length := List.length_pos_iff.mpr hb.ne
 have a5 := ha.len
 have b5 := hb.len
 have wb : IntKind.i64.wrap ((b.length : Int) - 1) = ((b.length - 1 : Nat) : Int) := by rw [wrap_ok (by omega) (by omega)]; omega
 refine (bT q1).trans ((bT q2).trans ((bT q3).trans ((bT hfb).trans ?_)))
 rw [wb, Int.toNat_natCast]
 refine (bT (in_nat (show b.length - 1 < b.length by omega))).trans ((bT (decide_eq_true (by omega))).trans ?_)
 show F308.l1_1_1_1_1_1_1_1_1_1_1_0_1_0 2000 _ (N : Int) (J : Int) b (lexiF (conL N) (domsL (rowsJ J a N ++ rowsJ J b N))).1 (lexiF (conL N) (domsL (rowsJ J a N ++ rowsJ J b N))).2 _ _ a (a.length : Int) 0 [] = _
 generalize lexiF (conL N) (domsL (rowsJ J a N ++ rowsJ J b N)) = R at L ⊢
 obtain ⟨D, ok⟩ := R
 show F308.l1_1_1_1_1_1_1_1_1_1_1_0_1_0 2000 _ (N : Int) (J : Int) b D ok _ _ a (a.length : Int) 0 [] = _
 refine (filt_loop (fun n i acc => F308.l1_1_1_1_1_1_1_1_1_1_1_0_1_0 n (F308.kt 2000 [1, 1, 1, 1, 1, 1, 1, 1, 1, 1, 1, 0, 1, 0]) (N : Int) (J : Int) b D ok (b.getD (b.length - 1) 0) (a.getD 0 0) a (a.length : Int) i acc) a (fun v => decide (v ≤ b.getD (b.length - 1) 0) && (decide (v < b.getD (b.length - 1) 0) || containsL b v))
  (fun acc => F308.l1_1_1_1_1_1_1_1_1_1_1_1_0_1_0 2000 (F308.kt 2000 [1, 1, 1, 1, 1, 1, 1, 1, 1, 1, 1, 1, 0, 1, 0]) (N : Int) (J : Int) D ok (a.getD 0 0) b (b.length : Int) 0 acc []) 0 (by omega) (fun n acc => (F308.l1_1_1_1_1_1_1_1_1_1_1_0_1_0_eq ..).trans (self_lt'.trans (F308.c1 ..))) (fun n i hi acc _ hacc => ?_) 2000 (by omega)).trans ?_
 ·have e : a[i] = a.getD i 0 := (getD_get hi 0).symm
  rw [e]
  refine (F308.l1_1_1_1_1_1_1_1_1_1_1_0_1_0_eq ..).trans ((bT (lt_nat hi)).trans ((bT (in_nat hi)).trans ?_))
  rw [Int.toNat_natCast]
  cases decide (a.getD i 0 ≤ b.getD (b.length - 1) 0) with
  | false => rfl
  | true =>
   cases decide (a.getD i 0 < b.getD (b.length - 1) 0) with
   | true => exact (bT rfl).trans ((bT rfl).trans (bT (lim8L (l := acc) (by omega) (a.getD i 0))))
   | false =>
    cases containsL b (a.getD i 0) with
    | true => exact (bT rfl).trans ((bF rfl).trans ((bT rfl).trans (bT (lim8L (l := acc) (by omega) (a.getD i 0)))))
    | false => rfl
 show F308.l1_1_1_1_1_1_1_1_1_1_1_1_0_1_0 2000 (F308.kt 2000 [1, 1, 1, 1, 1, 1, 1, 1, 1, 1, 1, 1, 0, 1, 0]) (N : Int) (J : Int) D ok (a.getD 0 0) b (b.length : Int) 0 (keepP a b) [] = _
 have lp : (keepP a b).length ≤ 5 := Nat.le_trans (List.length_filter_le _ _) a5
 have lq : (keepQ a b).length ≤ 5 := Nat.le_trans (List.length_filter_le _ _) b5
 refine (filt_loop (fun n i acc => F308.l1_1_1_1_1_1_1_1_1_1_1_1_0_1_0 n (F308.kt 2000 [1, 1, 1, 1, 1, 1, 1, 1, 1, 1, 1, 1, 0, 1, 0]) (N : Int) (J : Int) D ok (a.getD 0 0) b (b.length : Int) i (keepP a b) acc) b (fun v => decide (v > a.getD 0 0) || decide (v = a.getD 0 0))
  _ 0 (by omega) (fun n acc => (F308.l1_1_1_1_1_1_1_1_1_1_1_1_0_1_0_eq ..).trans (self_lt'.trans (F308.c2 ..))) (fun n i hi acc _ hacc => ?_) 2000 (by omega)).trans ?_
 ·have e : b[i] = b.getD i 0 := (getD_get hi 0).symm
  rw [e]
  refine (F308.l1_1_1_1_1_1_1_1_1_1_1_1_0_1_0_eq ..).trans ((bT (lt_nat hi)).trans ((bT (in_nat hi)).trans ?_))
  rw [Int.toNat_natCast]
  cases decide (b.getD i 0 > a.getD 0 0) with
  | true => exact (bT rfl).trans (bT (lim8L (l := acc) (by omega) (b.getD i 0)))
  | false =>
   cases decide (b.getD i 0 = a.getD 0 0) with
   | true => exact (bF rfl).trans ((bT rfl).trans (bT (lim8L (l := acc) (by omega) (b.getD i 0))))
   | false => rfl
 have hq : b.filter (fun v => decide (v > a.getD 0 0) || decide (v = a.getD 0 0)) = keepQ a b := rfl
 rw [hq]
 have no := L.no
 have yes := L.yes
 generalize keepP a b = P at lp no yes ⊢
 generalize keepQ a b = Q at lq no yes ⊢
 by_cases p0 : P = []
 ·have : ok = false := no (.inl p0)
  subst this
  exact bT (decide_eq_true (by rw [p0]; rfl))
 ·have hp : 0 < P.length := List.length_pos_iff.mpr p0
  refine (bF (decide_eq_false (by omega))).trans ?_
  by_cases q0 : Q = []
  ·have : ok = false := no (.inr q0)
   subst this
   exact bT (decide_eq_true (by rw [q0]; rfl))
  ·have hqq : 0 < Q.length := List.length_pos_iff.mpr q0
   refine (bF (decide_eq_false (by omega))).trans ?_
   obtain ⟨y1, y2, y3, y4, y5⟩ := yes p0 q0
   have y1 : ok = true := y1
   have y2 : D.length = N + N := y2
   have y3 : ∀ d ∈ D, listB d = true := y3
   have y4 : listD (D.getD J dom0) = P := y4
   have y5 : listD (D.getD (N + J) dom0) = Q := y5
   subst y1
   have w1 : IntKind.i64.wrap (2 * (N : Int)) = ((N + N : Nat) : Int) := by rw [wrap_ok (by omega) (by omega)]; omega
   have w2 : IntKind.i64.wrap ((N : Int) + (J : Int)) = ((N + J : Nat) : Int) := by rw [wrap_ok (by omega) (by omega)]; omega
   have b1 : Nat.ble (listD (D.getD J dom0)).length 1000 = true := Nat.ble_eq_true_of_le (by rw [y4]; omega)
   have b2 : Nat.ble (listD (D.getD (N + J) dom0)).length 1000 = true := Nat.ble_eq_true_of_le (by rw [y5]; omega)
   have e1 : eqL (listD (D.getD J dom0)) P = true := decide_eq_true y4
   have e2 : eqL (listD (D.getD (N + J) dom0)) Q = true := decide_eq_true y5
   rw [w1, w2, Int.toNat_natCast, Int.toNat_natCast]
   refine (bT rfl).trans ((bT (decide_eq_true (by omega))).trans ((bT (in_nat (show J < D.length by omega))).trans ((bT (y3 _ (getD_mem (by omega) dom0))).trans ((bT b1).trans ((bT e1).trans ((bT (in_nat (show N + J < D.length by omega))).trans ((bT (y3 _ (getD_mem (by omega) dom0))).trans ((bT b2).trans ?_))))))))
   show some (AV.v .bool (eqL (listD (D.getD (N + J) dom0)) Q)) = _
   rw [e2]
end Go.Proofs.YtnojoaghcbljfaaGreatDoor.Ev
