/-
The law of tasks that share what there is, at lists that the program itself sorts.
Conditions: none.
Sorting, and leaving out what is there twice: the contracts; the law at lists that the program sorts.
Conditions: none.
-/
import Derived.Test.YtdihbphkbdelbaaGreatDoorLw
import Derived.Test.YtdihbphkbdelbaaGreatDoorSc
import Derived.Test.YtdihbphkbdelbaaGreatDoorSx
import Derived.Test.YtdihbphkbdelbaaGreatDoorMy
import Derived.Sort.OwnSortedInts
set_option linter.unusedVariables false
set_option linter.unusedSimpArgs false
set_option maxRecDepth 100000
namespace Go.Proofs.YtdihbphkbdelbaaGreatDoor.Ev
open Go Go.RowKit
def coefW (l : List Int) (m v : Int) (i : Int) : Int := if i < (l.length : Int) then IntKind.i64.wrap ((l.getD i.toNat 0).tmod m) else v
theorem F511.tail (n : Nat) (K : Conts) (p0 p1 : List Int) (i cv dv : Int) (rows : List (List Int)) (len idx kind Kc : Int) (doms : List (List Int)) (x A C D : List Int) (hx : x ≠ []) (hl : x.length ≤ 1000) (h1 : A.length ≤ 1000) (h2 : C.length ≤ 1000) (h3 : D.length ≤ 1000) (h4 : doms.length ≤ 1000) :
  F511.n1_1_1_1_0_1_0_0_1_1_0_0_1_1_1_1_1_1_1 n (F511.k_n1_1_1_1_0_1_0_0_1_1_0_0_1_1_1_1_1_1 n (F511.k_n1_1_1_1_0_1_0_0_1_1_0_0_1_1_1_1_1 n (F511.k_n1_1_1_1_0_1_0_0_1_1_0_0_1_1_1_1 n (F511.k_n1_1_1_1_0_1_0_0_1 n (F511.k_l1_1_1_1_0_1_0 n K [1]) [1, 0, 0, 1, 1, 1, 1]) [1]) [1]) [1]) p0 p1 i cv dv rows len idx kind Kc doms x A C D =
  F511.l1_1_1_1_0_1_0 n K p0 p1 rows len (IntKind.i64.wrap (idx + 1)) kind Kc (doms ++ [compL x]) (A ++ [i]) (C ++ [cv]) (D ++ [dv]) := by
 have e : (!(List.isEmpty x) && Nat.ble (List.length x) 1000) = true := by
  rw [Nat.ble_eq_true_of_le hl]
  cases x with
  | nil => exact absurd rfl hx
  | cons a b => rfl
 have l1 : ∀ (a : List Int) (y : Int), a.length ≤ 1000 → decide ((a.length + [y].length) * 8 ≤ LIM) = true := fun a y h => decide_eq_true (show (a.length + 1) * 8 ≤ 140737488355328 by omega)
 have l2 : decide ((doms.length + [compL x].length) * 24 ≤ LIM) = true := decide_eq_true (show (doms.length + 1) * 24 ≤ 140737488355328 by omega)
 exact (F511.n1_1_1_1_0_1_0_0_1_1_0_0_1_1_1_1_1_1_1_eq ..).trans ((bT (l1 A _ h1)).trans ((bT (l1 C _ h2)).trans ((bT (l1 D _ h3)).trans ((bT e).trans ((bT l2).trans ((F511.c17 ..).trans ((F511.c18 ..).trans ((F511.c19 ..).trans ((F511.c20 ..).trans (F511.c21 ..))))))))))
theorem F511.second (n : Nat) (K : Conts) (p0 p1 : List Int) (i cv dv : Int) (rows : List (List Int)) (len idx kind Kc : Int) (doms : List (List Int)) (x A C D : List Int) (hi : 0 ≤ i) :
  F511.n1_1_1_1_0_1_0_0_1_1_0_0_1_1_1_1_1_1 n K p0 p1 i cv dv rows len idx kind Kc doms x A C D = F511.n1_1_1_1_0_1_0_0_1_1_0_0_1_1_1_1_1_1_1 n (F511.k_n1_1_1_1_0_1_0_0_1_1_0_0_1_1_1_1_1_1 n K [1]) p0 p1 i cv (coefW p1 30 dv i) rows len idx kind Kc doms x A C D := by
 refine (F511.n1_1_1_1_0_1_0_0_1_1_0_0_1_1_1_1_1_1_eq ..).trans ((F511.n1_1_1_1_0_1_0_0_1_1_0_0_1_1_1_1_1_1_0_eq ..).trans ((F511.n1_1_1_1_0_1_0_0_1_1_0_0_1_1_1_1_1_1_0_0_eq ..).trans ((F511.c12 ..).trans ((F511.n1_1_1_1_0_1_0_0_1_1_0_0_1_1_1_1_1_1_0_1_eq ..).trans ?_))))
 unfold coefW
 by_cases h : i < (p1.length : Int)
 ·rw [if_pos h]
  exact (bT (decide_eq_true h)).trans ((bT (by rw [decide_eq_true hi, decide_eq_true h]; rfl)).trans ((F511.c13 ..).trans (F511.c15 ..)))
 ·rw [if_neg h]
  exact (bF (decide_eq_false h)).trans ((F511.c14 ..).trans (F511.c16 ..))
theorem F511.first (n : Nat) (K : Conts) (p0 p1 : List Int) (i cv dv : Int) (rows : List (List Int)) (len idx kind Kc : Int) (doms : List (List Int)) (x A C D : List Int) (hi : 0 ≤ i) :
  F511.n1_1_1_1_0_1_0_0_1_1_0_0_1_1_1_1_1 n K p0 p1 i cv dv rows len idx kind Kc doms x A C D = F511.n1_1_1_1_0_1_0_0_1_1_0_0_1_1_1_1_1_1 n (F511.k_n1_1_1_1_0_1_0_0_1_1_0_0_1_1_1_1_1 n K [1]) p0 p1 i (coefW p0 40 cv i) dv rows len idx kind Kc doms x A C D := by
 refine (F511.n1_1_1_1_0_1_0_0_1_1_0_0_1_1_1_1_1_eq ..).trans ((F511.n1_1_1_1_0_1_0_0_1_1_0_0_1_1_1_1_1_0_eq ..).trans ((F511.n1_1_1_1_0_1_0_0_1_1_0_0_1_1_1_1_1_0_0_eq ..).trans ((F511.c7 ..).trans ((F511.n1_1_1_1_0_1_0_0_1_1_0_0_1_1_1_1_1_0_1_eq ..).trans ?_))))
 unfold coefW
 by_cases h : i < (p0.length : Int)
 ·rw [if_pos h]
  exact (bT (decide_eq_true h)).trans ((bT (by rw [decide_eq_true hi, decide_eq_true h]; rfl)).trans ((F511.c8 ..).trans (F511.c10 ..)))
 ·rw [if_neg h]
  exact (bF (decide_eq_false h)).trans ((F511.c9 ..).trans (F511.c11 ..))
theorem F511.behind (n : Nat) (K : Conts) (p0 p1 : List Int) (i : Int) (rows : List (List Int)) (len idx kind Kc : Int) (doms : List (List Int)) (x A C D : List Int) (hi : 0 ≤ i) (hx : x ≠ []) (hl : x.length ≤ 1000) (h1 : A.length ≤ 1000) (h2 : C.length ≤ 1000) (h3 : D.length ≤ 1000) (h4 : doms.length ≤ 1000) :
  exitK (F511.k_n1_1_1_1_0_1_0_0_1 n (F511.k_l1_1_1_1_0_1_0 n K [1]) [1, 0, 0, 1, 1, 0, 1, 0]) 2 ⟨slots 130 [(4, .v (.sl (.int .u8)) p0), (5, .v (.sl (.int .u8)) p1), (6, .pb 0 0), (7, .own 1), (8, .v (.int .i64) i), (10, .own 2), (34, .v (.sl (.sl (.int .i64))) rows), (35, .v (.int .i64) len), (36, .v (.int .i64) idx)], [.box [.v (.int .i64) kind, .own 3, .nl, .own 4, .own 5, .nl, .v (.int .i64) Kc, .nl], .row 29 (.sl (.int .i64)) doms, .row 3 (.int .i64) x, .row 3 (.int .i64) A, .row 3 (.int .i64) C, .row 3 (.int .i64) D]⟩ =
  F511.l1_1_1_1_0_1_0 n K p0 p1 rows len (IntKind.i64.wrap (idx + 1)) kind Kc (doms ++ [compL (sortL x)]) (A ++ [i]) (C ++ [coefW p0 40 7 i]) (D ++ [coefW p1 30 5 i]) := by
 have e : (!(List.isEmpty x) && Nat.ble (List.length x) 1000) = true := by
  rw [Nat.ble_eq_true_of_le hl]
  cases x with
  | nil => exact absurd rfl hx
  | cons a b => rfl
 have hs : sortL x ≠ [] := fun h => by
  have := sortL_len x
  rw [h] at this
  exact hx (List.length_eq_zero_iff.mp this.symm)
 refine (F511.c4 ..).trans ((F511.n1_1_1_1_0_1_0_0_1_1_0_0_1_1_1_0_eq ..).trans ((bT e).trans ((F511.c5 ..).trans ((F511.n1_1_1_1_0_1_0_0_1_1_0_0_1_1_1_1_eq ..).trans ((F511.n1_1_1_1_0_1_0_0_1_1_0_0_1_1_1_1_0_eq ..).trans ((F511.c6 ..).trans ((F511.first _ _ _ _ _ _ _ _ _ _ _ _ _ _ _ _ _ hi).trans ((F511.second _ _ _ _ _ _ _ _ _ _ _ _ _ _ _ _ _ hi).trans ?_))))))))
 exact F511.tail n K p0 p1 i _ _ rows len idx kind Kc doms (sortL x) A C D hs (by rw [sortL_len]; exact hl) h1 h2 h3 h4
theorem F511.round (n : Nat) (hn : 100 ≤ n) (K : Conts) (p0 p1 : List Int) (i : Int) (rows : List (List Int)) (len idx : Int) (xs : List Int) (hx : xs.length ≤ 8) (kind Kc : Int) (doms : List (List Int)) (A C D : List Int) (hi : 0 ≤ i) (h1 : A.length ≤ 1000) (h2 : C.length ≤ 1000) (h3 : D.length ≤ 1000) (h4 : doms.length ≤ 1000) :
  F511.l1_1_1_1_0_1_0_0_1_1_0_0_1_1_0_1_0 n (F511.k_n1_1_1_1_0_1_0_0_1 n (F511.k_l1_1_1_1_0_1_0 n K [1]) [1, 0, 0, 1, 1, 0, 1, 0]) p0 p1 i rows len idx xs (xs.length : Int) 0 kind Kc doms [i] A C D =
  F511.l1_1_1_1_0_1_0 n K p0 p1 rows len (IntKind.i64.wrap (idx + 1)) kind Kc (doms ++ [compL (sortL (i :: xs.map fun v => v.tmod 40))]) (A ++ [i]) (C ++ [coefW p0 40 7 i]) (D ++ [coefW p1 30 5 i]) := by
 refine (map_loop (f := fun v => v.tmod 40) xs (fun m j acc => F511.l1_1_1_1_0_1_0_0_1_1_0_0_1_1_0_1_0 m (F511.k_n1_1_1_1_0_1_0_0_1 n (F511.k_l1_1_1_1_0_1_0 n K [1]) [1, 0, 0, 1, 1, 0, 1, 0]) p0 p1 i rows len idx xs (xs.length : Int) j kind Kc doms acc A C D)
   (fun acc => exitK (F511.k_n1_1_1_1_0_1_0_0_1 n (F511.k_l1_1_1_1_0_1_0 n K [1]) [1, 0, 0, 1, 1, 0, 1, 0]) 2 ⟨slots 130 [(4, .v (.sl (.int .u8)) p0), (5, .v (.sl (.int .u8)) p1), (6, .pb 0 0), (7, .own 1), (8, .v (.int .i64) i), (10, .own 2), (34, .v (.sl (.sl (.int .i64))) rows), (35, .v (.int .i64) len), (36, .v (.int .i64) idx)], [.box [.v (.int .i64) kind, .own 3, .nl, .own 4, .own 5, .nl, .v (.int .i64) Kc, .nl], .row 29 (.sl (.int .i64)) doms, .row 3 (.int .i64) acc, .row 3 (.int .i64) A, .row 3 (.int .i64) C, .row 3 (.int .i64) D]⟩) (fun m j acc hj ha => ?_) (fun m acc => ?_) xs.length 0 n [i] (by omega) (by omega) (by simp; omega)).trans ?_
 ·have wj : IntKind.i64.wrap ((j : Int) + 1) = ((j + 1 : Nat) : Int) := by rw [wrap_ok (by omega) (by omega)]; omega
  have l1 : ∀ y : Int, decide ((acc.length + [y].length) * 8 ≤ LIM) = true := fun y => decide_eq_true (show (acc.length + 1) * 8 ≤ 140737488355328 by omega)
  refine (F511.l1_1_1_1_0_1_0_0_1_1_0_0_1_1_0_1_0_eq ..).trans ?_
  refine (F511.n1_1_1_1_0_1_0_0_1_1_0_0_1_1_0_1_0_0_1_eq ..).trans ?_
  refine (bT (lt_nat hj)).trans ?_
  refine (bT (in_nat hj)).trans ?_
  refine (bT (l1 _)).trans ?_
  rw [wj, Int.toNat_natCast]
  exact F511.c1 ..
 ·refine (F511.l1_1_1_1_0_1_0_0_1_1_0_0_1_1_0_1_0_eq ..).trans ?_
  refine (F511.n1_1_1_1_0_1_0_0_1_1_0_0_1_1_0_1_0_0_1_eq ..).trans ?_
  refine (bF (decide_eq_false (Int.lt_irrefl _))).trans ?_
  exact F511.c2 ..
 ·rw [List.drop_zero]
  exact F511.behind n K p0 p1 i rows len idx kind Kc doms ([i] ++ xs.map fun v => v.tmod 40) A C D hi (List.cons_ne_nil _ _) (by simp; omega) h1 h2 h3 h4
theorem min_take {α : Type} (k : Nat) (l : List α) : (decide (0 ≤ (if (k : Int) < (l.length : Int) then (k : Int) else (l.length : Int))) && decide ((if (k : Int) < (l.length : Int) then (k : Int) else (l.length : Int)) ≤ l.length)) = true ∧ l.take ((if (k : Int) < (l.length : Int) then (k : Int) else (l.length : Int)).toNat) = l.take k := by
 by_cases h : (k : Int) < (l.length : Int)
 ·rw [if_pos h, decide_eq_true (show (0 : Int) ≤ (k : Int) by omega), decide_eq_true (show (k : Int) ≤ (l.length : Int) by omega), Int.toNat_natCast]
  exact ⟨rfl, rfl⟩
 ·rw [if_neg h, decide_eq_true (show (0 : Int) ≤ (l.length : Int) by omega), decide_eq_true (show (l.length : Int) ≤ (l.length : Int) by omega), Int.toNat_natCast, List.take_of_length_le (Nat.le_refl _), List.take_of_length_le (by omega)]
  exact ⟨rfl, rfl⟩
def rowW (rows : List (List Int)) (i : Nat) : List Int := (i : Int) :: ((rows.getD i []).take 8).map fun v => v.tmod 40
structure St4 where
  d : List (List Int)
  a : List Int
  c : List Int
  e : List Int
def stW (p0 p1 : List Int) (rows : List (List Int)) (n : Nat) : St4 := ⟨(List.range n).map fun i => compL (sortL (rowW rows i)), (List.range n).map fun (i : Nat) => (i : Int), (List.range n).map fun (i : Nat) => coefW p0 40 7 (i : Int), (List.range n).map fun (i : Nat) => coefW p1 30 5 (i : Int)⟩
theorem F511.outer (k : Nat) (hk : 2000 ≤ k) (p0 p1 : List Int) (rows : List (List Int)) (kind Kc : Int) (hr : rows.length ≤ 5) :
  F511.l1_1_1_1_0_1_0 k (F511.kt k [1, 1, 1, 1, 0, 1, 0]) p0 p1 rows (rows.length : Int) 0 kind Kc [] [] [] [] = exitK (F511.kt k [1, 1, 1, 1, 0, 1, 0]) 0 ⟨slots 130 [(6, .pb 0 0), (7, .own 1)], [.box [.v (.int .i64) kind, .own 2, .nl, .own 3, .own 4, .nl, .v (.int .i64) Kc, .nl], .row 29 (.sl (.int .i64)) (stW p0 p1 rows rows.length).d, .row 3 (.int .i64) (stW p0 p1 rows rows.length).a, .row 3 (.int .i64) (stW p0 p1 rows rows.length).c, .row 3 (.int .i64) (stW p0 p1 rows rows.length).e]⟩ := by
 refine st_loop (stW p0 p1 rows) rows.length 1500 (fun n i s => F511.l1_1_1_1_0_1_0 n (F511.kt k [1, 1, 1, 1, 0, 1, 0]) p0 p1 rows (rows.length : Int) i kind Kc s.d s.a s.c s.e) _ (fun n i hn hi => ?_) (fun n => ?_) rows.length 0 k (by omega) (by omega)
 ·have w : IntKind.i64.wrap ((i : Int) + 1) = ((i + 1 : Nat) : Int) := by rw [wrap_ok (by omega) (by omega)]; omega
  obtain ⟨m1, m2⟩ := min_take 8 (rows.getD i [])
  refine (F511.l1_1_1_1_0_1_0_eq ..).trans ((F511.n1_1_1_1_0_1_0_0_1_eq ..).trans ((bT (lt_nat hi)).trans ((bT (in_nat hi)).trans ?_)))
  rw [Int.toNat_natCast]
  refine (bT m1).trans ?_
  show F511.l1_1_1_1_0_1_0_0_1_1_0_0_1_1_0_1_0 n _ p0 p1 (i : Int) rows (rows.length : Int) (i : Int) ((rows.getD i []).take ((if ((8 : Nat) : Int) < ((rows.getD i []).length : Int) then ((8 : Nat) : Int) else ((rows.getD i []).length : Int)).toNat)) (((rows.getD i []).take ((if ((8 : Nat) : Int) < ((rows.getD i []).length : Int) then ((8 : Nat) : Int) else ((rows.getD i []).length : Int)).toNat)).length : Int) 0 kind Kc _ [(i : Int)] _ _ _ = _
  rw [m2]
  have hx : ((rows.getD i []).take 8).length ≤ 8 := by rw [List.length_take]; omega
  generalize hX : (rows.getD i []).take 8 = xs at hx ⊢
  refine (F511.round n (by omega) (F511.kt k [1, 1, 1, 1, 0, 1, 0]) p0 p1 (i : Int) rows (rows.length : Int) (i : Int) xs hx kind Kc (stW p0 p1 rows i).d (stW p0 p1 rows i).a (stW p0 p1 rows i).c (stW p0 p1 rows i).e (by omega) (by unfold stW; simp; omega) (by unfold stW; simp; omega) (by unfold stW; simp; omega) (by unfold stW; simp; omega)).trans ?_
  have e1 : (i : Int) :: xs.map (fun v => v.tmod 40) = rowW rows i := by
   unfold rowW
   rw [hX]
  rw [e1]
  rw [w]
  show _ = F511.l1_1_1_1_0_1_0 n _ p0 p1 rows (rows.length : Int) ((i + 1 : Nat) : Int) kind Kc (stW p0 p1 rows (i + 1)).d (stW p0 p1 rows (i + 1)).a (stW p0 p1 rows (i + 1)).c (stW p0 p1 rows (i + 1)).e
  unfold stW
  simp only [List.range_succ, List.map_append, List.map_cons, List.map_nil]
 ·refine (F511.l1_1_1_1_0_1_0_eq ..).trans ?_
  refine (F511.n1_1_1_1_0_1_0_0_1_eq ..).trans ?_
  refine (bF (decide_eq_false (Int.lt_irrefl _))).trans ?_
  exact F511.c0 ..
theorem F511.sem (k : Nat) (hk : 2000 ≤ k) (d : List (List Int)) (C D : List Int) (m : Int) : callW F511.E false F511.fn k [.agg [.v (.sl (.sl (.int .i64))) d, .v (.sl (.int .u8)) C, .v (.sl (.int .u8)) D, .v (.int .u8) m]] = some (.v .bool true) := by
 obtain ⟨m1, m2⟩ := min_take 5 d
 refine (F511.start_eq k (d, C, D, m)).trans ((bT m1).trans ?_)
 show F511.l1_1_1_1_0_1_0 k (F511.kt k [1, 1, 1, 1, 0, 1, 0]) C D (d.take ((if ((5 : Nat) : Int) < (d.length : Int) then ((5 : Nat) : Int) else (d.length : Int)).toNat)) ((d.take ((if ((5 : Nat) : Int) < (d.length : Int) then ((5 : Nat) : Int) else (d.length : Int)).toNat)).length : Int) 0 19 _ [] [] [] [] = _
 rw [m2]
 have hr : (d.take 5).length ≤ 5 := by rw [List.length_take]; omega
 generalize d.take 5 = rows at hr ⊢
 refine (F511.outer k hk C D rows 19 _ hr).trans ((F511.c3 ..).trans ?_)
 have g : ∀ c : Con, CF c (stW C D rows rows.length).d := fun c => by
  have hd : ∀ x ∈ (stW C D rows rows.length).d, (okL x = true ∧ Rising x) ∧ x.length ≤ 9 := fun x hx => by
   obtain ⟨i, hi, rfl⟩ := List.mem_map.mp (show x ∈ (List.range rows.length).map fun i => compL (sortL (rowW rows i)) from hx)
   have hi := List.mem_range.mp hi
   have P := comp_sort (l := rowW rows i) (by unfold rowW; exact List.cons_ne_nil _ _)
   have hrl : (rowW rows i).length ≤ 9 := by unfold rowW; simp; omega
   have pl := P.len
   refine ⟨⟨ok_small P.ne fun x hx => ?_, P.ris⟩, by omega⟩
   have := P.sub x hx
   unfold rowW at this
   rcases List.mem_cons.mp this with rfl | h
   ·omega
   ·obtain ⟨v, _, rfl⟩ := List.mem_map.mp h
    have := tmod_abs (v := v) (show (0 : Int) < 40 by omega)
    omega
  have hl : (stW C D rows rows.length).d.length = rows.length := by unfold stW; simp
  have ht := tot_small (m := 9) fun x hx => (hd x hx).2
  exact cf_any (fun x hx => .inl (hd x hx).1) (by omega) (by omega)
 exact cf_body (g _) fun b => some (.v .bool b)
end Go.Proofs.YtdihbphkbdelbaaGreatDoor.Ev
set_option linter.unusedVariables false
set_option linter.unusedSimpArgs false
set_option maxRecDepth 100000
namespace Go.Proofs.YtdihbphkbdelbaaGreatDoor.Ev
open Go Go.RowKit Go.Sort
theorem ints_cells {w : World} {ok : Nat → Prop} : ∀ {xs : List Int} {cs : List (List Value)}, F2 (Rd w ok (.int .i64)) xs cs → cs.flatten = xs.map (Value.int .i64)
 | [], _, .nil => rfl
 | x :: xs, _, .cons h t => by
  have h1 : _ = [Value.int .i64 x] := h
  rw [List.flatten_cons, ints_cells t, h1]
  rfl
theorem cells_ints {w : World} {ok : Nat → Prop} : ∀ xs : List Int, F2 (Rd w ok (.int .i64)) xs (xs.map fun x => [Value.int .i64 x])
 | [] => .nil
 | x :: xs => .cons rfl (cells_ints xs)
theorem flat_ints (xs : List Int) : (xs.map fun x => [Value.int .i64 x]).flatten = xs.map (Value.int .i64) := by
 induction xs with
 | nil => rfl
 | cons x xs ih => rw [List.map_cons, List.flatten_cons, ih]; rfl
theorem below_grown {w1 w w' : World} {g : Nat} (hB : RowKit.Below w1.heap.size w1 w) (hg : w1.heap.size ≤ g) (h : w.grownBy w' (some g)) : RowKit.Below w1.heap.size w w' :=
 ⟨h.os, h.tape, h.output, h.size, fun k hk => h.block k (Nat.lt_of_lt_of_le hk hB.size) (fun e => by have := Option.some.inj e; omega)⟩
theorem sort_mspec (xs : List Int) (hne : xs ≠ []) (hle : xs.length ≤ 1000) : MSpec Go.Proofs.Tryz.prog inv 44 0 [.un] 3 (.int .i64) xs (sortL xs) (some (.tup [])) := by
 intro w1 w ok us u hI hB hok ha hu hsl hrow hsep
 refine ⟨callFunc_enter Go.Proofs.Tryz.func44 (by kernel_rfl) (by kernel_rfl) _ _, ?_⟩
 obtain ⟨cs, hcs, hl, hown⟩ := hrow
 rcases hown with ⟨_, h0⟩ | ⟨g, cap, cur, rfl, hg, hb, hn, hcap, hcur, htake⟩
 ·exact absurd (List.length_eq_zero_iff.mp h0) hne
 have hn : @List.length Int xs ≤ cap := hn
 cases ha with
 | cons h1 h2 =>
  cases h2
  have hu := Option.some.inj (show some _ = some _ from hu)
  subst hu
  rw [ints_cells hcs] at htake
  have htake : cur.toList.take xs.length = xs.map (Value.int .i64) := by rw [← htake]; exact congrArg (fun k => cur.toList.take k) (Nat.mul_one _).symm
  have hH : Holds (Value.int .i64) w g 0 xs.toArray := holds_of_blockI hb htake
  have hsz : g < w.heap.size := (Array.getElem?_eq_some_iff.1 hb).1
  have C := Any.slices_Sort_int Go.Proofs.Tryz.sortI g 0 cap xs w hH hsz (by omega)
  refine Calls.mono (show Calls Go.Proofs.Tryz.prog 44 _ w _ from C) ?_
  rintro ex w' ⟨rfl, n, os, rfl⟩
  have hlen : (sortL xs).length = xs.length := sortL_len xs
  have G := grownBy_sortedI (w := w) (g := g) (n := n) (os := os) (sortL xs).toArray
  have O := ownsRow_sortedI (n := n) (os := os) hlen hg hb hn hcap (by rw [hcur]; rfl)
  refine ⟨_, rfl, below_grown hB hg G, G.size, fun k hk hm => G.block k hk (fun e => hm e.symm), ok, .slice (some ⟨g, 0, none⟩) xs.length cap, (sortL xs).map fun x => [Value.int .i64 x], fun k hk => hk, fun k hk => ⟨.inl hk, Nat.lt_of_lt_of_le (hok k hk) G.size⟩, cells_ints _, ?_, fun k hk => ⟨hsep k hk, .inl hk⟩, hlen, rfl, [], rfl, .nil⟩
  rw [flat_ints]
  show World.ownsRow _ _ _ 1 _ (@List.length Int (sortL xs)) _
  rw [hlen]
  exact O
theorem okM120 : MHandOk Go.Proofs.Tryz.prog inv 44 h_sort := by
 intro args e t xs κ r h
 change h_sortF args e t xs κ = some r at h
 unfold h_sortF at h
 split at h
 case h_2 => simp at h
 split at h
 case h_2 => simp at h
 rename_i xs _ _
 cases hc : Nat.beq e 3 && (!(List.isEmpty xs) && Nat.ble (List.length xs) 1000) with
 | false => simp [hc] at h
 | true =>
  simp only [hc, cond_true] at h
  obtain ⟨he, hp⟩ := (Bool.and_eq_true _ _).mp hc
  obtain ⟨hne, hle⟩ := (Bool.and_eq_true _ _).mp hp
  have he := Nat.eq_of_beq_eq_true he
  subst he
  have hle : xs.length ≤ 1000 := by rwa [Nat.ble_eq] at hle
  refine ⟨_, _, h, ?_⟩
  have hne : (xs : List Int) ≠ [] := fun e => by rw [e] at hne; cases hne
  exact sort_mspec xs hne hle
theorem comp_mspec (xs : List Int) (hne : xs ≠ []) (hle : xs.length ≤ 1000) : MSpec Go.Proofs.Tryz.prog inv 45 0 [.un] 3 (.int .i64) xs (compL xs) none := by
 intro w1 w ok us u hI hB hok ha hu hsl hrow hsep
 refine ⟨callFunc_enter Go.Proofs.Tryz.func45 (by kernel_rfl) (by kernel_rfl) _ _, ?_⟩
 obtain ⟨cs, hcs, hl, hown⟩ := hrow
 rcases hown with ⟨_, h0⟩ | ⟨g, cap, cur, rfl, hg, hb, hn, hcap, hcur, htake⟩
 ·exact absurd (List.length_eq_zero_iff.mp h0) hne
 have hn : @List.length Int xs ≤ cap := hn
 cases ha with
 | cons h1 h2 =>
  cases h2
  have hu := Option.some.inj (show some _ = some _ from hu)
  subst hu
  rw [ints_cells hcs] at htake
  have htake : cur.toList.take xs.length = xs.map (Value.int .i64) := by rw [← htake]; exact congrArg (fun k => cur.toList.take k) (Nat.mul_one _).symm
  have hH : Holds (Value.int .i64) w g 0 xs.toArray := holds_of_blockI hb htake
  have hsz : g < w.heap.size := (Array.getElem?_eq_some_iff.1 hb).1
  have C := Any.slices_Compact_int Go.Proofs.Tryz.compI g 0 cap xs w hH (by omega) hn
  refine Calls.mono (show Calls Go.Proofs.Tryz.prog 45 _ w _ from C) ?_
  rintro ex w' ⟨rfl, q, rfl⟩
  have hcl : (compL xs).length ≤ xs.length := Lib.compact_length_le xs
  have hcl : (Lib.compact xs).length ≤ xs.length := hcl
  have eg : ∀ W : World, grow W #[] = W := fun W => by simp [grow]
  have G := grownBy_sortedI (w := w) (g := g) (n := q) (os := #[]) (Lib.compact xs ++ List.replicate (xs.length - (Lib.compact xs).length) 0).toArray
  have O := heap_sortedI (n := q) (os := #[]) (Lib.compact xs ++ List.replicate (xs.length - (Lib.compact xs).length) 0).toArray hb
  rw [eg] at G O
  have hfull : (Lib.compact xs ++ List.replicate (xs.length - (Lib.compact xs).length) 0).length = xs.length := by simp; omega
  have hs1 : cur.size = cap := by rw [hcur]; exact Nat.mul_one cap
  have tk := take_putCellsI cur (Lib.compact xs ++ List.replicate (xs.length - (Lib.compact xs).length) 0) (by rw [hfull]; omega)
  rw [hfull] at tk
  refine ⟨_, rfl, below_grown hB hg G, G.size, fun k hk hm => G.block k hk (fun e => hm e.symm), ok, .slice (some ⟨g, 0, none⟩) (Lib.compact xs).length cap, (compL xs).map fun x => [Value.int .i64 x], fun k hk => hk, fun k hk => ⟨.inl hk, Nat.lt_of_lt_of_le (hok k hk) G.size⟩, cells_ints _, ?_, fun k hk => ⟨hsep k hk, .inl hk⟩, rfl, _, _, _, rfl⟩
  rw [flat_ints]
  refine ⟨by rw [List.length_map]; exact (Nat.mul_one _).symm, .inr ⟨g, cap, _, rfl, hg, O, by show (Lib.compact xs).length ≤ cap; omega, hcap, by show (putCells (Value.int .i64) 0 _ cur).size = cap * 1; simp [putCells, hs1], ?_⟩⟩
  have e2 : (compL xs).length * 1 = (Lib.compact xs).length := Nat.mul_one _
  show (putCells _ _ _ _).toList.take ((compL xs).length * 1) = _
  rw [e2]
  have := congrArg (fun l => l.take (Lib.compact xs).length) tk
  simp only [List.take_take, Nat.min_eq_left hcl] at this
  rw [this, List.map_append, List.take_append_of_le_length (by simp), List.take_of_length_le (by simp)]
  rfl
theorem okM345 : MHandOk Go.Proofs.Tryz.prog inv 45 h_comp := by
 intro args e t xs κ r h
 change h_compF args e t xs κ = some r at h
 unfold h_compF at h
 split at h
 case h_2 => simp at h
 split at h
 case h_2 => simp at h
 rename_i xs _ _
 cases hc : Nat.beq e 3 && (!(List.isEmpty xs) && Nat.ble (List.length xs) 1000) with
 | false => simp [hc] at h
 | true =>
  simp only [hc, cond_true] at h
  obtain ⟨he, hp⟩ := (Bool.and_eq_true _ _).mp hc
  obtain ⟨hne, hle⟩ := (Bool.and_eq_true _ _).mp hp
  have he := Nat.eq_of_beq_eq_true he
  subst he
  have hle : xs.length ≤ 1000 := by rwa [Nat.ble_eq] at hle
  refine ⟨_, _, h, ?_⟩
  have hne : (xs : List Int) ≠ [] := fun e => by rw [e] at hne; cases hne
  exact comp_mspec xs hne hle
theorem F511.eok : EOk Go.Proofs.Tryz.prog F511.E := ⟨tyOk_of tt_ok, (calls_cons ok529 (calls_cons ok530 (calls_cons ok531 (calls_cons ok532 (calls_cons ok22 (calls_cons ok534 calls_nil)))))), keep_inv, mcalls_cons okM120 (mcalls_cons okM345 mcalls_nil)⟩
theorem law511 (d : List (List Int)) (C D : List Int) (m : Int) : CallSpec Go.Proofs.Tryz.prog inv 11 [.agg [.v (.sl (.sl (.int .i64))) d, .v (.sl (.int .u8)) C, .v (.sl (.int .u8)) D, .v (.int .u8) m]] (.v .bool true) := callW_ok (own := false) (k := 2000) F511.eok mixed Go.Proofs.Tryz.func11 (by kernel_rfl) (show Go.Proofs.Tryz.f11.body = some (bodyOf Go.Proofs.Tryz.f11) by kernel_rfl) (F511.sem 2000 (Nat.le_refl _) d C D m)
end Go.Proofs.YtdihbphkbdelbaaGreatDoor.Ev
