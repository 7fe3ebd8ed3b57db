/-
The law of linear constraints at lists that the program itself sorts.
Conditions: none.
-/
import Derived.Test.YtnojoaghcbljfaaGreatDoorLw
import Derived.Test.YtnojoaghcbljfaaGreatDoorYe
import Derived.Test.YtnojoaghcbljfaaGreatDoorNq
set_option linter.unusedVariables false
set_option linter.unusedSimpArgs false
set_option maxRecDepth 100000
namespace Go.Proofs.YtnojoaghcbljfaaGreatDoor.Ev
open Go Go.RowKit
def cW (l : List Int) (i : Int) : Int := if i < (l.length : Int) then (l.getD i.toNat 0).tmod 1000001 else 1
def bW (x : List Int) (c : Int) : Int := if (x.length : Int) > 0 then (x.getD 0 0).tmod 999991 else c
def eW (b v : Int) : Int := IntKind.i64.wrap (b + ((if v > 0 then v else 0).tmod 10))
theorem F313.tail (n : Nat) (K : Conts) (p0 : List Int) (i cv : Int) (rows : List (List Int)) (len idx kind Kc : Int) (doms : List (List Int)) (x A C : List Int) (hx : x ≠ []) (hl : x.length ≤ 1000) (h1 : A.length ≤ 1000) (h2 : C.length ≤ 1000) (h4 : doms.length ≤ 1000) :
  F313.n1_1_1_1_0_1_0_0_1_1_0_0_1_1_1_1_1_1_1_1 n (F313.k_n1_1_1_1_0_1_0_0_1 n (F313.k_l1_1_1_1_0_1_0 n K [1]) [1, 0, 0, 1, 1, 1, 1, 1, 1, 1, 1]) p0 i cv rows len idx kind Kc doms x A C =
  F313.l1_1_1_1_0_1_0 n K p0 rows len (IntKind.i64.wrap (idx + 1)) kind Kc (doms ++ [compL x]) (A ++ [i]) (C ++ [cv]) := by
 have e : (!(List.isEmpty x) && Nat.ble (List.length x) 1000) = true := by
  rw [Nat.ble_eq_true_of_le hl]
  cases x with
  | nil => exact absurd rfl hx
  | cons a b => rfl
 have l1 : ∀ (a : List Int) (y : Int), a.length ≤ 1000 → decide ((a.length + [y].length) * 8 ≤ LIM) = true := fun a y h => decide_eq_true (show (a.length + 1) * 8 ≤ 140737488355328 by omega)
 have l2 : decide ((doms.length + [compL x].length) * 24 ≤ LIM) = true := decide_eq_true (show (doms.length + 1) * 24 ≤ 140737488355328 by omega)
 exact (F313.n1_1_1_1_0_1_0_0_1_1_0_0_1_1_1_1_1_1_1_1_eq ..).trans ((bT (l1 A _ h1)).trans ((bT (l1 C _ h2)).trans ((bT e).trans ((bT l2).trans ((F313.c19 ..).trans (F313.c20 ..))))))
theorem F313.behind (n : Nat) (K : Conts) (p0 : List Int) (i cv : Int) (rows : List (List Int)) (len idx kind Kc : Int) (doms : List (List Int)) (x A C : List Int) (hx : x ≠ []) (hl : x.length ≤ 1000) (h1 : A.length ≤ 1000) (h2 : C.length ≤ 1000) (h4 : doms.length ≤ 1000) :
  exitK (F313.k_n1_1_1_1_0_1_0_0_1 n (F313.k_l1_1_1_1_0_1_0 n K [1]) [1, 0, 0, 1, 1, 1, 1, 1, 1, 0, 1, 0]) 2 ⟨slots 134 [(3, .v (.sl (.int .i64)) p0), (5, .pb 0 0), (6, .own 1), (7, .v (.int .i64) i), (9, .v (.int .i64) cv), (11, .own 2), (35, .v (.sl (.sl (.int .i64))) rows), (36, .v (.int .i64) len), (37, .v (.int .i64) idx)], [.box [.v (.int .i64) kind, .own 3, .nl, .own 4, .nl, .nl, .v (.int .i64) Kc, .nl], .row 30 (.sl (.int .i64)) doms, .row 3 (.int .i64) x, .row 3 (.int .i64) A, .row 3 (.int .i64) C]⟩ =
  F313.l1_1_1_1_0_1_0 n K p0 rows len (IntKind.i64.wrap (idx + 1)) kind Kc (doms ++ [compL (sortL x)]) (A ++ [i]) (C ++ [cv]) := by
 have e : (!(List.isEmpty x) && Nat.ble (List.length x) 1000) = true := by
  rw [Nat.ble_eq_true_of_le hl]
  cases x with
  | nil => exact absurd rfl hx
  | cons a b => rfl
 have hs : sortL x ≠ [] := fun h => by
  have := sortL_len x
  rw [h] at this
  exact hx (List.length_eq_zero_iff.mp this.symm)
 refine (F313.c9 ..).trans ((F313.n1_1_1_1_0_1_0_0_1_1_0_0_1_1_1_1_1_1_1_0_eq ..).trans ((bT e).trans ((F313.c14 ..).trans ?_)))
 exact F313.tail n K p0 i cv rows len idx kind Kc doms (sortL x) A C hs (by rw [sortL_len]; exact hl) h1 h2 h4
theorem F313.round (n : Nat) (hn : 100 ≤ n) (K : Conts) (p0 : List Int) (i cv b : Int) (rows : List (List Int)) (len idx : Int) (xs : List Int) (hx : xs.length ≤ 8) (kind Kc : Int) (doms : List (List Int)) (A C : List Int) (h1 : A.length ≤ 1000) (h2 : C.length ≤ 1000) (h4 : doms.length ≤ 1000) :
  F313.l1_1_1_1_0_1_0_0_1_1_0_0_1_1_1_1_1_1_0_1_0 n (F313.k_n1_1_1_1_0_1_0_0_1 n (F313.k_l1_1_1_1_0_1_0 n K [1]) [1, 0, 0, 1, 1, 1, 1, 1, 1, 0, 1, 0]) p0 i cv b rows len idx xs (xs.length : Int) 0 kind Kc doms [b] A C =
  F313.l1_1_1_1_0_1_0 n K p0 rows len (IntKind.i64.wrap (idx + 1)) kind Kc (doms ++ [compL (sortL (b :: xs.map (eW b)))]) (A ++ [i]) (C ++ [cv]) := by
 refine (map_loop (f := eW b) xs (fun m j acc => F313.l1_1_1_1_0_1_0_0_1_1_0_0_1_1_1_1_1_1_0_1_0 m (F313.k_n1_1_1_1_0_1_0_0_1 n (F313.k_l1_1_1_1_0_1_0 n K [1]) [1, 0, 0, 1, 1, 1, 1, 1, 1, 0, 1, 0]) p0 i cv b rows len idx xs (xs.length : Int) j kind Kc doms acc A C)
   (fun acc => exitK (F313.k_n1_1_1_1_0_1_0_0_1 n (F313.k_l1_1_1_1_0_1_0 n K [1]) [1, 0, 0, 1, 1, 1, 1, 1, 1, 0, 1, 0]) 2 ⟨slots 134 [(3, .v (.sl (.int .i64)) p0), (5, .pb 0 0), (6, .own 1), (7, .v (.int .i64) i), (9, .v (.int .i64) cv), (11, .own 2), (35, .v (.sl (.sl (.int .i64))) rows), (36, .v (.int .i64) len), (37, .v (.int .i64) idx)], [.box [.v (.int .i64) kind, .own 3, .nl, .own 4, .nl, .nl, .v (.int .i64) Kc, .nl], .row 30 (.sl (.int .i64)) doms, .row 3 (.int .i64) acc, .row 3 (.int .i64) A, .row 3 (.int .i64) C]⟩) (fun m j acc hj ha => ?_) (fun m acc => ?_) xs.length 0 n [b] (by omega) (by omega) (by simp; omega)).trans ?_
 ·have wj : IntKind.i64.wrap ((j : Int) + 1) = ((j + 1 : Nat) : Int) := by rw [wrap_ok (by omega) (by omega)]; omega
  have l1 : ∀ y : Int, decide ((acc.length + [y].length) * 8 ≤ LIM) = true := fun y => decide_eq_true (show (acc.length + 1) * 8 ≤ 140737488355328 by omega)
  refine (F313.l1_1_1_1_0_1_0_0_1_1_0_0_1_1_1_1_1_1_0_1_0_eq ..).trans ?_
  refine (F313.n1_1_1_1_0_1_0_0_1_1_0_0_1_1_1_1_1_1_0_1_0_0_1_eq ..).trans ?_
  refine (bT (lt_nat hj)).trans ?_
  refine (bT (in_nat hj)).trans ?_
  refine (bT (l1 _)).trans ?_
  rw [wj, Int.toNat_natCast]
  exact F313.c7 ..
 ·refine (F313.l1_1_1_1_0_1_0_0_1_1_0_0_1_1_1_1_1_1_0_1_0_eq ..).trans ?_
  refine (F313.n1_1_1_1_0_1_0_0_1_1_0_0_1_1_1_1_1_1_0_1_0_0_1_eq ..).trans ?_
  refine (bF (decide_eq_false (Int.lt_irrefl _))).trans ?_
  exact F313.c8 ..
 ·rw [List.drop_zero]
  exact F313.behind n K p0 i cv rows len idx kind Kc doms ([b] ++ xs.map (eW b)) A C (List.cons_ne_nil _ _) (by simp; omega) h1 h2 h4
theorem min_take {α : Type} (k : Nat) (l : List α) : (decide (0 ≤ (if (k : Int) < (l.length : Int) then (k : Int) else (l.length : Int))) && decide ((if (k : Int) < (l.length : Int) then (k : Int) else (l.length : Int)) ≤ l.length)) = true ∧ l.take ((if (k : Int) < (l.length : Int) then (k : Int) else (l.length : Int)).toNat) = l.take k := by
 by_cases h : (k : Int) < (l.length : Int)
 ·rw [if_pos h, decide_eq_true (show (0 : Int) ≤ (k : Int) by omega), decide_eq_true (show (k : Int) ≤ (l.length : Int) by omega), Int.toNat_natCast]
  exact ⟨rfl, rfl⟩
 ·rw [if_neg h, decide_eq_true (show (0 : Int) ≤ (l.length : Int) by omega), decide_eq_true (show (l.length : Int) ≤ (l.length : Int) by omega), Int.toNat_natCast, List.take_of_length_le (Nat.le_refl _), List.take_of_length_le (by omega)]
  exact ⟨rfl, rfl⟩
theorem F313.pre (n : Nat) (K : Conts) (p0 : List Int) (i : Int) (hi : 0 ≤ i) (x : List Int) (rows : List (List Int)) (len idx kind Kc : Int) (doms : List (List Int)) (A C : List Int) :
  F313.n1_1_1_1_0_1_0_0_1_1_0_0_1_1_0_1 n (F313.k_n1_1_1_1_0_1_0_0_1 n K [1, 0, 0, 1, 1, 0, 1]) p0 i x 1 rows len idx (decide (i < (p0.length : Int))) kind Kc doms A C =
  F313.l1_1_1_1_0_1_0_0_1_1_0_0_1_1_1_1_1_1_0_1_0 n (F313.k_n1_1_1_1_0_1_0_0_1 n K [1, 0, 0, 1, 1, 1, 1, 1, 1, 0, 1, 0]) p0 i (cW p0 i) (bW x (cW p0 i)) rows len idx (x.take 4) ((x.take 4).length : Int) 0 kind Kc doms [bW x (cW p0 i)] A C := by
 have s2 : ∀ cv : Int, F313.n1_1_1_1_0_1_0_0_1_1_0_0_1_1_1_1_0_1 n (F313.k_n1_1_1_1_0_1_0_0_1 n K [1, 0, 0, 1, 1, 1, 1, 0, 1]) p0 i x cv cv rows len idx (decide ((x.length : Int) > 0)) kind Kc doms A C = F313.l1_1_1_1_0_1_0_0_1_1_0_0_1_1_1_1_1_1_0_1_0 n (F313.k_n1_1_1_1_0_1_0_0_1 n K [1, 0, 0, 1, 1, 1, 1, 1, 1, 0, 1, 0]) p0 i cv (bW x cv) rows len idx (x.take 4) ((x.take 4).length : Int) 0 kind Kc doms [bW x cv] A C := fun cv => by
  obtain ⟨m1, m2⟩ := min_take 4 x
  refine (F313.n1_1_1_1_0_1_0_0_1_1_0_0_1_1_1_1_0_1_eq ..).trans ?_
  unfold bW
  by_cases h : (x.length : Int) > 0
  ·rw [if_pos h]
   refine (bT (decide_eq_true h)).trans ?_
   refine (bT (decide_eq_true (show (0 : Int) < (x.length : Int) from h))).trans ?_
   refine (F313.c4 ..).trans ?_
   refine (bT m1).trans ?_
   show F313.l1_1_1_1_0_1_0_0_1_1_0_0_1_1_1_1_1_1_0_1_0 n _ p0 i cv _ rows len idx (x.take ((if ((4 : Nat) : Int) < (x.length : Int) then ((4 : Nat) : Int) else (x.length : Int)).toNat)) ((x.take ((if ((4 : Nat) : Int) < (x.length : Int) then ((4 : Nat) : Int) else (x.length : Int)).toNat)).length : Int) 0 kind Kc doms _ A C = _
   rw [m2]
  ·rw [if_neg h]
   refine (bF (decide_eq_false h)).trans ?_
   refine (F313.c5 ..).trans ?_
   refine (bT m1).trans ?_
   show F313.l1_1_1_1_0_1_0_0_1_1_0_0_1_1_1_1_1_1_0_1_0 n _ p0 i cv _ rows len idx (x.take ((if ((4 : Nat) : Int) < (x.length : Int) then ((4 : Nat) : Int) else (x.length : Int)).toNat)) ((x.take ((if ((4 : Nat) : Int) < (x.length : Int) then ((4 : Nat) : Int) else (x.length : Int)).toNat)).length : Int) 0 kind Kc doms _ A C = _
   rw [m2]
 refine (F313.n1_1_1_1_0_1_0_0_1_1_0_0_1_1_0_1_eq ..).trans ?_
 by_cases h : i < (p0.length : Int)
 ·have e : cW p0 i = (p0.getD i.toNat 0).tmod 1000001 := by unfold cW; rw [if_pos h]
  rw [e]
  refine (bT (decide_eq_true h)).trans ?_
  refine (bT (by rw [decide_eq_true hi, decide_eq_true h]; rfl)).trans ?_
  exact (F313.c1 ..).trans (s2 _)
 ·have e : cW p0 i = 1 := by unfold cW; rw [if_neg h]
  rw [e]
  refine (bF (decide_eq_false h)).trans ?_
  exact (F313.c2 ..).trans (s2 _)
def rowV (p0 : List Int) (rows : List (List Int)) (i : Nat) : List Int := bW (rows.getD i []) (cW p0 (i : Int)) :: ((rows.getD i []).take 4).map (eW (bW (rows.getD i []) (cW p0 (i : Int))))
structure St3 where
  d : List (List Int)
  a : List Int
  c : List Int
def stV (p0 : List Int) (rows : List (List Int)) (n : Nat) : St3 := ⟨(List.range n).map fun i => compL (sortL (rowV p0 rows i)), (List.range n).map fun (i : Nat) => (i : Int), (List.range n).map fun (i : Nat) => cW p0 (i : Int)⟩
theorem F313.outer (k : Nat) (hk : 2000 ≤ k) (p0 : List Int) (rows : List (List Int)) (kind Kc : Int) (hr : rows.length ≤ 5) :
  F313.l1_1_1_1_0_1_0 k (F313.kt k [1, 1, 1, 1, 0, 1, 0]) p0 rows (rows.length : Int) 0 kind Kc [] [] [] = exitK (F313.kt k [1, 1, 1, 1, 0, 1, 0]) 0 ⟨slots 134 [(5, .pb 0 0), (6, .own 1)], [.box [.v (.int .i64) kind, .own 2, .nl, .own 3, .nl, .nl, .v (.int .i64) Kc, .nl], .row 30 (.sl (.int .i64)) (stV p0 rows rows.length).d, .row 3 (.int .i64) (stV p0 rows rows.length).a, .row 3 (.int .i64) (stV p0 rows rows.length).c]⟩ := by
 refine st_loop (stV p0 rows) rows.length 1500 (fun n i s => F313.l1_1_1_1_0_1_0 n (F313.kt k [1, 1, 1, 1, 0, 1, 0]) p0 rows (rows.length : Int) i kind Kc s.d s.a s.c) _ (fun n i hn hi => ?_) (fun n => ?_) rows.length 0 k (by omega) (by omega)
 ·have w : IntKind.i64.wrap ((i : Int) + 1) = ((i + 1 : Nat) : Int) := by rw [wrap_ok (by omega) (by omega)]; omega
  refine (F313.l1_1_1_1_0_1_0_eq ..).trans ?_
  refine (F313.n1_1_1_1_0_1_0_0_1_eq ..).trans ?_
  refine (bT (lt_nat hi)).trans ?_
  refine (bT (in_nat hi)).trans ?_
  rw [Int.toNat_natCast]
  refine (F313.pre n _ p0 (i : Int) (by omega) (rows.getD i []) rows (rows.length : Int) (i : Int) kind Kc _ _ _).trans ?_
  have hx : ((rows.getD i []).take 4).length ≤ 8 := by rw [List.length_take]; omega
  refine (F313.round n (by omega) (F313.kt k [1, 1, 1, 1, 0, 1, 0]) p0 (i : Int) _ _ rows (rows.length : Int) (i : Int) _ hx kind Kc (stV p0 rows i).d (stV p0 rows i).a (stV p0 rows i).c (by unfold stV; simp; omega) (by unfold stV; simp; omega) (by unfold stV; simp; omega)).trans ?_
  rw [w]
  show _ = F313.l1_1_1_1_0_1_0 n _ p0 rows (rows.length : Int) ((i + 1 : Nat) : Int) kind Kc (stV p0 rows (i + 1)).d (stV p0 rows (i + 1)).a (stV p0 rows (i + 1)).c
  unfold stV rowV
  simp only [List.range_succ, List.map_append, List.map_cons, List.map_nil]
 ·refine (F313.l1_1_1_1_0_1_0_eq ..).trans ?_
  refine (F313.n1_1_1_1_0_1_0_0_1_eq ..).trans ?_
  refine (bF (decide_eq_false (Int.lt_irrefl _))).trans ?_
  exact F313.c0 ..
theorem row_good (p0 : List Int) (rows : List (List Int)) (i : Nat) : ((okL (compL (sortL (rowV p0 rows i))) = true ∧ Rising (compL (sortL (rowV p0 rows i)))) ∨ compL (sortL (rowV p0 rows i)) = []) ∧ (compL (sortL (rowV p0 rows i))).length ≤ 6 := by
 have P := comp_sort (l := rowV p0 rows i) (by unfold rowV; exact List.cons_ne_nil _ _)
 have hl : (rowV p0 rows i).length ≤ 5 := by unfold rowV; simp; omega
 have pl := P.len
 have hc : -1000000 ≤ cW p0 (i : Int) ∧ cW p0 (i : Int) ≤ 1000000 := by
  unfold cW
  split
  ·have := tmod_abs (v := p0.getD (i : Int).toNat 0) (show (0 : Int) < 1000001 by omega)
   omega
  ·omega
 have hall : ∃ b : Int, -1000000 ≤ b ∧ b ≤ 1000000 ∧ ∀ x ∈ rowV p0 rows i, b ≤ x ∧ x ≤ b + 9 ∧ x ≤ 1000000 := by
  refine ⟨bW (rows.getD i []) (cW p0 (i : Int)), ?_⟩
  unfold rowV
  by_cases h : ((rows.getD i []).length : Int) > 0
  ·have hb : bW (rows.getD i []) (cW p0 (i : Int)) = ((rows.getD i []).getD 0 0).tmod 999991 := by unfold bW; rw [if_pos h]
   have := tmod_abs (v := (rows.getD i []).getD 0 0) (show (0 : Int) < 999991 by omega)
   rw [hb]
   generalize ((rows.getD i []).getD 0 0).tmod 999991 = b at this
   refine ⟨by omega, by omega, fun x hx => ?_⟩
   rcases List.mem_cons.mp hx with rfl | hx
   ·omega
   ·obtain ⟨v, _, rfl⟩ := List.mem_map.mp hx
    unfold eW
    have h0 : 0 ≤ (if v > 0 then v else 0) := by split <;> omega
    generalize (if v > 0 then v else 0) = u at h0
    have t1 := Int.tmod_lt_of_pos u (show (0 : Int) < 10 by omega)
    have t2 := Int.tmod_nonneg 10 h0
    rw [wrap_ok (by omega) (by omega)]
    omega
  ·have hb : bW (rows.getD i []) (cW p0 (i : Int)) = cW p0 (i : Int) := by unfold bW; rw [if_neg h]
   have hn : rows.getD i [] = [] := List.length_eq_zero_iff.mp (by omega)
   rw [hb, hn]
   refine ⟨hc.1, hc.2, fun x hx => ?_⟩
   rcases List.mem_cons.mp hx with rfl | hx
   ·omega
   ·cases hx
 obtain ⟨b, b1, b2, hv⟩ := hall
 refine ⟨.inl ⟨okL_iff.mpr ⟨P.ne, fun x hx => inD_iff.mpr (by have := hv x (P.sub x hx); omega), ?_⟩, P.ris⟩, by omega⟩
 have c1 := hv _ (P.sub _ (maxL_spec P.ne).2)
 have c2 := hv _ (P.sub _ (minL_spec P.ne).2)
 omega
theorem F313.sem (k : Nat) (hk : 2000 ≤ k) (m : Int) (C : List Int) (d : List (List Int)) (Kc : Int) : callW F313.E false F313.fn k [.agg [.v (.int .u8) m, .v (.sl (.int .i64)) C, .v (.sl (.sl (.int .i64))) d, .v (.int .i64) Kc]] = some (.v .bool true) := by
 obtain ⟨m1, m2⟩ := min_take 5 d
 refine (F313.start_eq k (m, C, d, Kc)).trans ((bT m1).trans ?_)
 show F313.l1_1_1_1_0_1_0 k (F313.kt k [1, 1, 1, 1, 0, 1, 0]) C (d.take ((if ((5 : Nat) : Int) < (d.length : Int) then ((5 : Nat) : Int) else (d.length : Int)).toNat)) ((d.take ((if ((5 : Nat) : Int) < (d.length : Int) then ((5 : Nat) : Int) else (d.length : Int)).toNat)).length : Int) 0 _ _ [] [] [] = _
 rw [m2]
 have hr : (d.take 5).length ≤ 5 := by rw [List.length_take]; omega
 generalize d.take 5 = rows at hr ⊢
 refine (F313.outer k hk C rows _ _ hr).trans ?_
 refine (F313.c3 ..).trans ?_
 refine (F313.n1_1_1_1_1_0_eq ..).trans ?_
 refine (F313.n1_1_1_1_1_0_0_eq ..).trans ?_
 refine (F313.c6 ..).trans ?_
 refine (F313.n1_1_1_1_1_0_1_eq ..).trans ?_
 have hd : ∀ x ∈ (stV C rows rows.length).d, ((okL x = true ∧ Rising x) ∨ x = []) ∧ x.length ≤ 6 := fun x hx => by
  obtain ⟨i, hi, rfl⟩ := List.mem_map.mp (show x ∈ (List.range rows.length).map fun i => compL (sortL (rowV C rows i)) from hx)
  exact row_good C rows i
 have hl : (stV C rows rows.length).d.length = rows.length := by unfold stV; simp
 generalize (stV C rows rows.length).d = doms at hd hl ⊢
 have g0 : Gd doms := ⟨hd, by omega⟩
 have g1 : Gd (doms ++ [[0, 1]]) := ⟨fun x hx => by
  rcases List.mem_append.mp hx with h | h
  ·exact hd x h
  ·obtain rfl := List.mem_singleton.mp h
   exact ⟨.inl ⟨rfl, by simp⟩, by simp⟩, by rw [List.length_append]; simp; omega⟩
 have l2 : decide ((doms.length + [[(0 : Int), 1]].length) * 24 ≤ LIM) = true := decide_eq_true (show (doms.length + 1) * 24 ≤ 140737488355328 by omega)
 by_cases h4 : IntKind.i64.wrap (1 + IntKind.i64.wrap (m.tmod 4)) = 4
 ·refine (bT (decide_eq_true h4)).trans ?_
  refine (bT l2).trans ?_
  refine (F313.c10 ..).trans ?_
  refine (F313.c12 ..).trans ?_
  refine (F313.n1_1_1_1_1_1_eq ..).trans ?_
  exact (lin_body (g1.lf _) fun b => (F313.kt k [1, 1, 1, 1, 1, 1]).ret ⟨slots 134 [(2, .v .bool b)], []⟩).trans (F313.c15 k true)
 ·refine (bF (decide_eq_false h4)).trans ?_
  refine (F313.c11 ..).trans ?_
  refine (F313.c13 ..).trans ?_
  refine (F313.n1_1_1_1_1_1b_eq ..).trans ?_
  exact (lin_body (g0.lf _) fun b => (F313.kt k [1, 1, 1, 1, 1, 1]).ret ⟨slots 134 [(2, .v .bool b)], []⟩).trans (F313.c17 k true)
end Go.Proofs.YtnojoaghcbljfaaGreatDoor.Ev
