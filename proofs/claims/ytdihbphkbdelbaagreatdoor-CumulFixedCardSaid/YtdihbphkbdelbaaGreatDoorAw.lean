/-
Seat 'a': rows of values, solutions among domains: what the functions answer.
Conditions: lists are short.
Seat 'a': solutions among domains; the values that are in one: what the functions answer.
Conditions: lists are short; each row is as long as it must be.
Seat 'a': a domain's list; a domain of numbers: what the functions answer.
Conditions: numbers and offsets are those of domains.
Seat 'a': the filters: what the functions answer.
Conditions: lists are short; constraints of the kinds that this seat is about.
-/
import Derived.Test.YtdihbphkbdelbaaGreatDoorAu
import Derived.Test.YtdihbphkbdelbaaGreatDoorAh
import Derived.Test.YtdihbphkbdelbaaGreatDoorAt
import Derived.Test.YtdihbphkbdelbaaGreatDoorAb
set_option linter.unusedVariables false
set_option linter.unusedSimpArgs false
set_option maxRecDepth 100000
namespace Go.Proofs.YtdihbphkbdelbaaGreatDoor.Ev
open Go
theorem many_loop {L : Nat → Int → Int → Option AV} {d : List (List Int)} {most : Int} {hit : Option AV} {miss : Int → Option AV} (h0 : 0 ≤ most) (h1 : most ≤ 100000) (hl : d.length ≤ 1000) (hs : ∀ x ∈ d, x.length ≤ 1000)
  (h : ∀ n m i, L (n + 1) m i = bif decide (i < (d.length : Int)) then (bif decide (0 ≤ i) && decide (i < (d.length : Int)) then (bif decide (IntKind.i64.wrap (m * ((d.getD i.toNat []).length : Int)) > most) then hit else
   L n (IntKind.i64.wrap (m * ((d.getD i.toNat []).length : Int))) (IntKind.i64.wrap (i + 1))) else none) else miss m) :
  ∀ (n : Nat) (m i : Int), 0 ≤ i → i ≤ d.length → d.length - i < n → 0 ≤ m → m ≤ 100001 →
   L n m i = bif manyGo most (d.drop i.toNat) m then hit else miss (m * (prodN (d.drop i.toNat) : Int)) := by
 intro n
 induction n with
 | zero => intro m i h0 h1 h2; omega
 | succ n ih =>
  intro m i hi hi1 hn hm hm1
  rw [h]
  by_cases hlt : i < d.length
  ·have hx := hs _ (getD_in (d := []) hi hlt)
   rw [drop_get (d := []) hi hlt]
   generalize d.getD i.toNat [] = x at hx
   have hp0 : 0 ≤ m * (x.length : Int) := Int.mul_nonneg hm (by omega)
   have hp1 : m * (x.length : Int) ≤ 100001 * 1000 := Int.mul_le_mul hm1 (by omega) (by omega) (by omega)
   rw [wrap_ok (x := m * (x.length : Int)) (by omega) (by omega), wrap_ok (x := i + 1) (by omega) (by omega)]
   simp only [hlt, hi, decide_true, Bool.and_true, cond_true, manyGo, prodN]
   by_cases hc : m * (x.length : Int) > most
   ·simp only [hc, decide_true, cond_true, if_true]
   ·simp only [hc, decide_false, cond_false, if_false]
    rw [ih _ (i + 1) (by omega) (by omega) (by omega) hp0 (by omega)]
    congr 2
    rw [Int.natCast_mul, Int.mul_assoc]
  ·rw [List.drop_of_length_le (by omega)]
   simp only [hlt, decide_false, cond_false, manyGo, prodN]
   congr 1
   omega
structure PB (d : List (List Int)) (most : Int) : Prop where
  lo : 0 ≤ most
  hi : most ≤ 100000
  len : d.length ≤ 1000
  each : ∀ x ∈ d, x.length ≤ 1000 ∧ 1 ≤ x.length
theorem productB_ok {d : List (List Int)} {most : Int} (h : productB d most = true) : PB d most := by
 unfold productB at h
 simp only [Bool.and_eq_true, decide_eq_true_eq, Nat.ble_eq, List.all_eq_true] at h
 exact ⟨h.1.1.1, h.1.1.2, h.1.2, fun x hx => h.2 x hx⟩
theorem many_prod {most : Int} : ∀ (d : List (List Int)) (m : Int), 0 ≤ m → m ≤ max most 1 → (∀ x ∈ d, 1 ≤ x.length) → manyGo most d m = false → m * (prodN d : Int) ≤ max most 1
 | [], m, h0, h1, _, _ => by simp only [prodN]; omega
 | x :: d, m, h0, h1, hx, h => by
  simp only [manyGo] at h
  by_cases hc : m * (x.length : Int) > most
  ·simp [hc] at h
  ·simp only [hc, if_false] at h
   have := many_prod d (m * (x.length : Int)) (Int.mul_nonneg h0 (by omega)) (by omega) (fun y hy => hx y (by simp [hy])) h
   simp only [prodN]
   rw [Int.natCast_mul, ← Int.mul_assoc]
   exact this
theorem prod_le {d : List (List Int)} {most : Int} (hp : PB d most) (h : manyL d most = false) : prodN d ≤ 100000 := by
 have := many_prod d 1 (by omega) (by omega) (fun x hx => (hp.each x hx).2) h
 have := hp.hi
 have := hp.lo
 omega
theorem F45.row (K : Conts) (d : List (List Int)) (hd : ∀ x ∈ d, x.length ≤ 1000 ∧ 1 ≤ x.length) (hl : d.length ≤ 1000) (N k : Int) (acc : List (List Int)) : ∀ (j n r : Nat) (row : List Int), j ≤ d.length → row.length = d.length → j < n → r ≤ 1000000000 →
  F45.l1_1_1_1_0_1_0_0_1_0_0_1_1_0_1_0 n K d N k (r : Int) ((j : Int) - 1) acc row =
  exitK K 4 ⟨slots 72 [(0, .v (.sl (.sl (.int .i64))) d), (5, .v (.int .i64) N), (7, .own 0), (8, .v (.int .i64) k), (9, .own 1)], [.row 29 (.sl (.int .i64)) acc, .row 3 (.int .i64) ((rowR (d.take j).reverse r).reverse ++ row.drop j)]⟩ := by
 intro j
 induction j with
 | zero =>
  intro n r row hj hr hn hr1
  obtain ⟨n, rfl⟩ : ∃ m, n = m + 1 := ⟨n - 1, by omega⟩
  refine (F45.l1_1_1_1_0_1_0_0_1_0_0_1_1_0_1_0_eq n K d N k r _ acc row).trans ?_
  have : ¬ (((0 : Nat) : Int) - 1 ≥ 0) := by omega
  simp only [this, decide_false, cond_false]
  rfl
 | succ j ih =>
  intro n r row hj hr hn hr1
  obtain ⟨n, rfl⟩ : ∃ m, n = m + 1 := ⟨n - 1, by omega⟩
  refine (F45.l1_1_1_1_0_1_0_0_1_0_0_1_1_0_1_0_eq n K d N k r _ acc row).trans ?_
  have e : ((j + 1 : Nat) : Int) - 1 = (j : Int) := by omega
  rw [e]
  have ej : (j : Int).toNat = j := by omega
  rw [ej]
  have hjl : j < d.length := by omega
  have a1 : (j : Int) ≥ 0 := by omega
  have a1' : (0 : Int) ≤ (j : Int) := by omega
  have a2 : (j : Int) < d.length := by omega
  have a3 : (j : Int) < row.length := by omega
  have hx := hd _ (getD_in (i := (j : Int)) (d := []) (by omega) a2)
  rw [ej] at hx
  have htake : d.take (j + 1) = d.take j ++ [d.getD j []] := by
   rw [List.take_add_one, List.getD_eq_getElem?_getD, List.getElem?_eq_getElem hjl]
   rfl
  rw [htake]
  generalize d.getD j [] = x at hx
  have b1 : ¬ (x.length : Int) = 0 := by omega
  have em : (r : Int).tmod (x.length : Int) = ((r % x.length : Nat) : Int) := (Int.ofNat_tmod r x.length).symm
  have ed : (r : Int).tdiv (x.length : Int) = ((r / x.length : Nat) : Int) := (Int.ofNat_tdiv r x.length).symm
  have hm : r % x.length < x.length := Nat.mod_lt _ (by omega)
  have hq : r / x.length ≤ r := Nat.div_le_self _ _
  have hq0 : (0 : Int) ≤ ((r / x.length : Nat) : Int) := Int.natCast_nonneg _
  have hq1 : ((r / x.length : Nat) : Int) ≤ 1000000000 := Int.ofNat_le.mpr (Nat.le_trans hq hr1)
  have b2 : (0 : Int) ≤ ((r % x.length : Nat) : Int) := by omega
  have b3 : ((r % x.length : Nat) : Int) < (x.length : Int) := by omega
  rw [em, ed, wrap_ok (x := ((r / x.length : Nat) : Int)) (by omega) (by omega), wrap_ok (x := (j : Int) - 1) (by omega) (by omega)]
  simp only [a1, a1', a2, a3, b1, b2, b3, decide_true, decide_false, Bool.not_false, Bool.and_true, cond_true]
  rw [Int.toNat_natCast, ih n (r / x.length) (row.set j (x.getD (r % x.length) 0)) (by omega) (by simp [hr]) (by omega) (by omega)]
  congr 5
  rw [List.reverse_append, List.reverse_singleton, List.singleton_append]
  simp only [rowR, List.reverse_cons, List.append_assoc]
  congr 1
  rw [List.drop_set]
  have : ¬ j < j := Nat.lt_irrefl _
  simp only [this, if_false, Nat.sub_self]
  have hd2 : row.drop j = row.getD j 0 :: row.drop (j + 1) := by
   rw [List.drop_eq_getElem_cons (by omega), List.getD_eq_getElem?_getD, List.getElem?_eq_getElem (by omega)]
   rfl
  rw [hd2]
  rfl
theorem rowOf_eq (d : List (List Int)) (k : Nat) (row : List Int) (hr : row.length = d.length) : (rowR (d.take d.length).reverse k).reverse ++ row.drop d.length = rowOf d k := by
 rw [List.take_length, ← hr, List.drop_length, List.append_nil]
 rfl
theorem getD_range {n : Nat} {i : Int} (h0 : 0 ≤ i) (h1 : i < (List.range n).length) : (List.range n).getD i.toNat 0 = i.toNat := by
 rw [List.length_range] at h1
 rw [List.getD_eq_getElem?_getD, List.getElem?_range (by omega)]
 rfl
theorem F45.sem (d : List (List Int)) (most : Int) (h : productB d most = true) : ∃ r, callW F45.E false F45.fn 102000 [.v (.sl (.sl (.int .i64))) d, .v (.int .i64) most] = some r ∧ WA r (.v (.sl (.sl (.int .i64))) (productL d most)) := by
 have hp := productB_ok h
 rw [F45.start_eq]
 rw [many_loop (L := fun n m i => F45.l1_1_0_1_0 n (F45.kt 102000 [1, 1, 0, 1, 0]) d most m i) hp.lo hp.hi hp.len (fun x hx => (hp.each x hx).1) (fun n m i => F45.l1_1_0_1_0_eq n _ d most m i) 102000 1 0 (by omega) (by omega) (by have := hp.len; omega) (by omega) (by omega)]
 have e0 : d.drop (Int.toNat 0) = d := rfl
 rw [e0]
 unfold productL
 have em : manyGo most d 1 = manyL d most := rfl
 rw [em]
 cases hm : manyL d most with
 | true => exact ⟨_, F45.c0 _, .two (by simp) (.one (by simp) (.nl _))⟩
 | false =>
  simp only [cond_false]
  have hN := prod_le hp hm
  rw [Int.one_mul, F45.c1]
  have := range_loopN (fun n i (acc : List (List Int)) => F45.l1_1_1_1_0_1_0 n (F45.kt 102000 [1, 1, 1, 1, 0, 1, 0]) d (prodN d : Int) i acc) (List.range (prodN d)) 0 (fun _ acc k => acc ++ [rowOf d k])
   (fun acc => exitK (F45.kt 102000 [1, 1, 1, 1, 0, 1, 0]) 2 ⟨slots 72 [(7, .own 0)], [.row 29 (.sl (.int .i64)) acc]⟩) (fun i acc => acc.length ≤ i.toNat) 1001 (by
    intro n i acc hn hI h0 h1
    have hr := getD_range h0 h1
    rw [List.length_range] at h1
    have lim : ∀ x : List Int, (acc.length + [x].length) * 24 ≤ LIM := fun x => lim24 (by simp; omega)
    refine ⟨(F45.l1_1_1_1_0_1_0_eq n _ d _ i acc).trans ?_, by simp; omega⟩
    have a1 : (0 : Int) ≤ (d.length : Int) := by omega
    have a2 : (d.length : Int).toNat * 8 ≤ LIM := lim8 (by have := hp.len; omega)
    have hl := hp.len
    rw [wrap_ok (x := (d.length : Int) - 1) (by omega) (by omega)]
    simp only [h1, a1, a2, decide_true, Bool.and_true, cond_true]
    have ei : i = (i.toNat : Int) := by omega
    have hrow := F45.row (F45.k_l1_1_1_1_0_1_0 n (F45.kt 102000 [1, 1, 1, 1, 0, 1, 0]) [1, 0, 0, 1, 1, 0, 1, 0]) d hp.each hp.len (prodN d : Int) i acc d.length n i.toNat (List.replicate (d.length : Int).toNat 0) (Nat.le_refl _) (by simp) (by omega) (by omega)
    rw [← ei] at hrow
    rw [hrow, rowOf_eq _ _ _ (by simp), F45.c3]
    simp only [lim, decide_true, cond_true]
    rw [wrap_ok (by omega) (by omega), hr]) (by
    intro n i acc hn hI hi
    rw [List.length_range] at hi
    refine (F45.l1_1_1_1_0_1_0_eq n _ d _ i acc).trans ?_
    have : ¬ i < (prodN d : Int) := by omega
    simp only [this, decide_false, cond_false]) 102000 0 [] (by simp) (by omega) (by omega) (by rw [List.length_range]; omega)
  refine ⟨_, (show _ = _ from this).trans (F45.c2 _ _), ?_⟩
  rw [goFold_map]
  exact WA.refl _
end Go.Proofs.YtdihbphkbdelbaaGreatDoor.Ev
set_option linter.unusedVariables false
set_option linter.unusedSimpArgs false
set_option maxRecDepth 100000
namespace Go.Proofs.YtdihbphkbdelbaaGreatDoor.Ev
open Go
theorem goFold_filter {α : Type} (p : α → Bool) : ∀ (xs : List α) (i : Int) (acc : List α), goFold (fun _ (a : List α) x => if p x then a ++ [x] else a) i acc xs = acc ++ xs.filter p
 | [], i, acc => by simp [goFold]
 | x :: xs, i, acc => by
  simp only [goFold]
  rw [goFold_filter p xs (i + 1)]
  cases h : p x <;> simp [h]
theorem prodL_length (d : List (List Int)) : (prodL d).length = prodN d := by unfold prodL; simp
structure SB (c : Con) (d : List (List Int)) (most : Int) : Prop where
  loc : localB c = true
  pb : productB d most = true
  all : manyL d most = false → ∀ r ∈ prodL d, holdsB (localC c) r = true
theorem solB_ok {c : Con} {d : List (List Int)} {most : Int} (h : solB c d most = true) : SB c d most := by
 unfold solB at h
 simp only [Bool.and_eq_true, Bool.or_eq_true, List.all_eq_true] at h
 refine ⟨h.1.1, h.1.2, fun hm r hr => ?_⟩
 rcases h.2 with h2 | h2
 ·rw [hm] at h2; simp at h2
 ·exact h2 r hr
theorem F17.sem (c : Con) (d : List (List Int)) (most : Int) (h : solB c d most = true) : ∃ r, callW F17.E false F17.fn 102000 [.agg (explode ConT c), .v (.sl (.sl (.int .i64))) d, .v (.int .i64) most] = some r ∧
  WA r (.tup [.v (.sl (.sl (.int .i64))) (solL c d most).1, .v .bool (solL c d most).2]) := by
 have hs := solB_ok h
 have hp := productB_ok hs.pb
 have st := F17.start_eq 102000 c d most
 rw [many_loop (L := fun n m i => F17.l1_1_0_1_0 n (F17.kt 102000 [1, 1, 0, 1, 0]) d most m i c.1 c.2.1 c.2.2.1 c.2.2.2.1 c.2.2.2.2.1 c.2.2.2.2.2.1 c.2.2.2.2.2.2.1 c.2.2.2.2.2.2.2) hp.lo hp.hi hp.len (fun x hx => (hp.each x hx).1) (fun n m i => F17.l1_1_0_1_0_eq n _ d most m i _ _ _ _ _ _ _ _) 102000 1 0 (by omega) (by omega) (by have := hp.len; omega) (by omega) (by omega)] at st
 have e0 : d.drop (Int.toNat 0) = d := rfl
 have em : manyGo most d 1 = manyL d most := rfl
 rw [e0, em] at st
 unfold solL
 cases hm : manyL d most with
 | true =>
  rw [hm] at st
  exact ⟨_, st.trans (F17.c0 _), .tup (.cons (.one (by simp) (.nl _)) (.cons (.one (by simp) (.same _)) .nil))⟩
 | false =>
  rw [hm] at st
  simp only [cond_false] at st
  rw [F17.c1] at st
  have el : localB (c.1, c.2.1, c.2.2.1, c.2.2.2.1, c.2.2.2.2.1, c.2.2.2.2.2.1, c.2.2.2.2.2.2.1, c.2.2.2.2.2.2.2) = true := hs.loc
  rw [el, hs.pb] at st
  simp only [cond_true] at st
  have epr : productL d most = prodL d := by unfold productL; rw [hm]; rfl
  rw [epr] at st
  have hN := prod_le hp hm
  have hlen := prodL_length d
  have hall := hs.all hm
  generalize hx : localC (c.1, c.2.1, c.2.2.1, c.2.2.2.1, c.2.2.2.2.1, c.2.2.2.2.2.1, c.2.2.2.2.2.2.1, c.2.2.2.2.2.2.2) = x at st
  have ex : localC c = x := hx
  rw [ex] at hall
  have := range_loop (fun n i (acc : List (List Int)) => F17.l1_1_1_1_1_1_0_1_0 n (F17.kt 102000 [1, 1, 1, 1, 1, 1, 0, 1, 0]) (prodL d) i x.1 x.2.1 x.2.2.1 x.2.2.2.1 x.2.2.2.2.1 x.2.2.2.2.2.1 x.2.2.2.2.2.2.1 x.2.2.2.2.2.2.2 acc) (prodL d) [] (fun _ acc r => if holdsC x r then acc ++ [r] else acc)
   (fun acc => exitK (F17.kt 102000 [1, 1, 1, 1, 1, 1, 0, 1, 0]) 2 ⟨slots 57 [(12, .own 0)], [.row 29 (.sl (.int .i64)) acc]⟩) (fun i acc => acc.length ≤ i.toNat) (by
    intro n i acc hI h0 h1
    have hr := hall _ (getD_in (d := []) h0 h1)
    have lim : ∀ y : List Int, (acc.length + [y].length) * 24 ≤ LIM := fun y => lim24 (by simp; omega)
    refine ⟨(F17.l1_1_1_1_1_1_0_1_0_eq n _ (prodL d) i _ _ _ _ _ _ _ _ acc).trans ?_, ?_⟩
    ·have er : holdsB (x.1, x.2.1, x.2.2.1, x.2.2.2.1, x.2.2.2.2.1, x.2.2.2.2.2.1, x.2.2.2.2.2.2.1, x.2.2.2.2.2.2.2) ((prodL d).getD i.toNat []) = true := hr
     have ec : holdsC (x.1, x.2.1, x.2.2.1, x.2.2.2.1, x.2.2.2.2.1, x.2.2.2.2.2.1, x.2.2.2.2.2.2.1, x.2.2.2.2.2.2.2) ((prodL d).getD i.toNat []) = holdsC x ((prodL d).getD i.toNat []) := rfl
     rw [er, ec, wrap_ok (by omega) (by omega)]
     simp only [h0, h1, lim, decide_true, Bool.and_true, cond_true]
     cases holdsC x ((prodL d).getD i.toNat []) <;> rfl
    ·cases holdsC x ((prodL d).getD i.toNat []) <;> simp <;> omega) (by
    intro n i acc hI hi
    refine (F17.l1_1_1_1_1_1_0_1_0_eq n _ (prodL d) i _ _ _ _ _ _ _ _ acc).trans ?_
    have : ¬ i < (prodL d).length := by omega
    simp only [this, decide_false, cond_false]) 102000 0 [] (by simp) (by omega) (by omega) (by omega)
  refine ⟨_, (st.trans (show _ = _ from this)).trans (F17.c2 _ _), ?_⟩
  rw [goFold_filter]
  exact WA.refl _
end Go.Proofs.YtdihbphkbdelbaaGreatDoor.Ev
set_option linter.unusedVariables false
set_option linter.unusedSimpArgs false
set_option maxRecDepth 100000
namespace Go.Proofs.YtdihbphkbdelbaaGreatDoor.Ev
open Go
theorem uB_U {w : Int} (h : uB w = true) : U w := by
 unfold uB at h
 simp only [Bool.and_eq_true, decide_eq_true_eq] at h
 exact h
theorem U_uB {w : Int} (h : U w) : uB w = true := by
 unfold U at h
 unfold uB
 simp [h.1, h.2]
theorem F29.inner (K : Conts) (i : Int) (ws : List Int) (len j off : Int) (p6 : List Int) (p7 p8 p9 : Int) (ho : nearB off = true) (hi : 0 ≤ i ∧ i ≤ 1000000) : ∀ (f : Nat) (w : Int) (acc : List Int) (n : Nat), U w → f ≤ 64 → (∀ j, j < 64 - f → tb w j = false) →
  acc.length + f ≤ 100000000 → f < n →
  F29.l1_1_0_1_0_0_1_1_0_0_1_0 n K i w ws len j off p6 p7 p8 p9 acc =
  exitK K 2 ⟨slots 33 [(1, .pb 0 0), (3, .own 1), (7, .v (.sl (.int .u64)) ws), (8, .v (.int .i64) len), (9, .v (.int .i64) j)], [.box [.v (.int .i64) off, .v (.sl (.int .u64)) p6, .v (.int .i64) p7, .v (.int .i64) p8, .v (.int .i64) p9], .row 3 (.int .i64) (acc ++ bitsFrom f (off + 64 * i) w)]⟩ := by
 have ho' := nearB_iff.mp ho
 intro f
 induction f with
 | zero =>
  intro w acc n hw hf hz hl hn
  have h0 : w = 0 := zero_of_tb hw (fun j hj => hz j (by omega))
  subst h0
  obtain ⟨n, rfl⟩ : ∃ m, n = m + 1 := ⟨n - 1, by omega⟩
  rw [F29.l1_1_0_1_0_0_1_1_0_0_1_0_eq]
  simp [bitsFrom]
 | succ f ih =>
  intro w acc n hw hf hz hl hn
  obtain ⟨n, rfl⟩ : ∃ m, n = m + 1 := ⟨n - 1, by omega⟩
  rw [F29.l1_1_0_1_0_0_1_1_0_0_1_0_eq]
  unfold bitsFrom
  by_cases h0 : w = 0
  ·simp [h0]
  ·obtain ⟨hl', t, ht, ht64, hbt, hlow, hcl⟩ := lessD_spec hw h0
   have e1 : IntKind.i64.wrap (64 * i) = 64 * i := wrap_ok (by omega) (by omega)
   have e2 : IntKind.i64.wrap (off + 64 * i) = off + 64 * i := wrap_ok (by omega) (by omega)
   have e3 : IntKind.i64.wrap (off + 64 * i + tzD w) = off + 64 * i + tzD w := wrap_ok (by rw [ht]; omega) (by rw [ht]; omega)
   have e4 : (acc.length + [off + 64 * i + tzD w].length) * 8 ≤ LIM := by unfold LIM; simp only [List.length_cons, List.length_nil]; omega
   rw [e1, e2, e3]
   have hu := U_uB hw
   simp only [h0, decide_false, Bool.not_false, cond_true, hu, e4, decide_true, if_false]
   have := ih (lessD w) (acc ++ [off + 64 * i + tzD w]) n hl' (by omega) (by
    intro j hj
    rw [hcl]
    cases hb : tb w j with
    | false => rfl
    | true =>
     have h1 := hlow j hb
     have h2 : ¬ t < 64 - (f + 1) := fun hlt => by rw [hz t hlt] at hbt; simp at hbt
     have hjt : j = t := by omega
     simp [hjt]) (by simp only [List.length_append, List.length_cons, List.length_nil]; omega) (by omega)
   refine (show _ = _ from this).trans ?_
   rw [List.append_assoc]
   rfl
theorem F29.loop (K : Conts) (ws : List Int) (off : Int) (p4 : List Int) (p5 p6 p7 : Int) (ho : nearB off = true) (hu : ws.all uB = true) (hl : ws.length ≤ 1000000) : ∀ (n : Nat) (i : Int) (acc : List Int), 0 ≤ i → i ≤ ws.length → ws.length - i + 66 < n → acc.length + 64 * (ws.length - i) ≤ 90000000 →
  F29.l1_1_0_1_0 n K ws ws.length i off p4 p5 p6 p7 acc = exitK K 0 ⟨slots 33 [(3, .own 0)], [.row 3 (.int .i64) (acc ++ listFrom off i (ws.drop i.toNat))]⟩ := by
 intro n
 induction n with
 | zero => intro i acc h0 h1 h2; omega
 | succ n ih =>
  intro i acc h0 h1 h2 h3
  rw [F29.l1_1_0_1_0_eq]
  by_cases hi : i < ws.length
  ·have hu1 := uB_U (getD_uB hu (i := i.toNat) (by omega))
   have hd := drop_get (d := (0 : Int)) h0 hi
   rw [hd]
   simp only [hi, h0, decide_true, Bool.and_true, cond_true, listFrom]
   rw [F29.inner _ i ws ws.length i off p4 p5 p6 p7 ho ⟨h0, by omega⟩ 64 _ acc n hu1 (Nat.le_refl _) (fun j hj => by omega) (by omega) (by omega), F29.c1]
   rw [wrap_ok (by omega) (by omega), ih (i + 1) _ (by omega) (by omega) (by omega) (by
    have := bitsFrom_length 64 (off + 64 * i) (ws.getD i.toNat 0)
    rw [List.length_append]
    omega)]
   rw [List.append_assoc]
  ·rw [List.drop_of_length_le (by omega)]
   simp only [hi, decide_false, cond_false, listFrom, List.append_nil]
theorem F29.sem (d : Dom) (h : listB d = true) : callW F29.E false F29.fn (d.2.1.length + 100) [.agg (explode DomT d)] = some (.v (.sl (.int .i64)) (listD d)) := by
 unfold listB at h
 simp only [Bool.and_eq_true, Nat.ble_eq] at h
 refine (F29.start_eq _ d).trans ?_
 rw [F29.loop _ d.2.1 d.1 _ _ _ _ h.1.1 h.1.2 h.2 _ 0 [] (by omega) (by omega) (by omega) (by simp only [List.length_nil]; omega), F29.c0]
 rfl
theorem F50.loop (K : Conts) (xs : List Int) (hl : xs.length ≤ maxLen) (off : Int) (hv : ∀ v ∈ xs, inD v = true) (ho : -1000064 ≤ off ∧ off ≤ 1000000) (p3 p4 p5 p6 p8 p9 p10 : Int) :
  ∀ (n : Nat) (i : Int) (ws : List Int), 0 ≤ i → i ≤ xs.length → xs.length - i < n → (∀ v ∈ xs, off ≤ v ∧ (v - off) / 64 < ws.length) →
  F50.l1_1_1_0_1_0 n K xs xs.length i p3 p4 p5 p6 off p8 p9 p10 ws =
  exitK K 1 ⟨slots 58 [(2, .pb 0 0), (4, .pb 1 0)], [.box [.v (.int .i64) p3, .nl, .v (.int .i64) p4, .v (.int .i64) p5, .v (.int .i64) p6], .box [.v (.int .i64) off, .own 2, .v (.int .i64) p8, .v (.int .i64) p9, .v (.int .i64) p10], .row 130 (.int .u64) (setsD off (xs.drop i.toNat) ws)]⟩ := by
 have hm := lenMax hl
 intro n
 induction n with
 | zero => intro i ws h0 h1 h2; omega
 | succ n ih =>
  intro i ws h0 h1 h2 h3
  rw [F50.l1_1_1_0_1_0_eq]
  by_cases hi : i < xs.length
  ·have hd := drop_get (d := (0 : Int)) h0 hi
   rw [hd]
   have hx : xs.getD i.toNat 0 ∈ xs := by
    rw [List.getD_eq_getElem?_getD, List.getElem?_eq_getElem (by omega)]
    exact List.getElem_mem _
   simp only [hi, h0, decide_true, Bool.and_true, cond_true]
   generalize xs.getD i.toNat 0 = v at hx
   have hv' := inD_iff.mp (hv v hx)
   obtain ⟨b1, b2⟩ := h3 v hx
   have e1 : IntKind.i64.wrap (v - off) = v - off := wrap_ok (by omega) (by omega)
   have e2 : (v - off).tdiv 64 = (v - off) / 64 := Int.tdiv_eq_ediv_of_nonneg (by omega)
   have e3 : IntKind.i64.wrap ((v - off) / 64) = (v - off) / 64 := wrap_ok (by omega) (by omega)
   have e4 : (v - off).tmod 64 = (v - off) % 64 := Int.tmod_eq_emod_of_nonneg (by omega)
   rw [e1, e2, e3, e4, wrap_ok (x := i + 1) (by omega) (by omega)]
   have c1 : 0 ≤ (v - off) / 64 := by omega
   have c2 : 0 ≤ (v - off) % 64 := by omega
   simp only [c1, c2, b2, decide_true, Bool.and_true, cond_true]
   exact ih (i + 1) (setD off ws v) (by omega) (by omega) (by omega) (fun y hy => by rw [setD_length]; exact h3 y hy)
  ·rw [List.drop_of_length_le (by omega)]
   simp only [hi, decide_false, cond_false]
   rfl
theorem no_out {xs : List Int} (h : xs.any outD = false) : ∀ v ∈ xs, inD v = true := by
 intro v hv
 rw [List.any_eq_false] at h
 have := h v hv
 unfold outD at this
 simpa using this
theorem F50.sem (xs : List Int) (hl : xs.length ≤ maxLen) : ∃ r, callW F50.E false F50.fn (xs.length + 1) [.v (.sl (.int .i64)) xs] = some r ∧ WA r (.tup [.agg (explode DomT (ofD xs).1), .v (.int .i64) (ofD xs).2]) := by
 rw [F50.start_eq]
 have bad : ∀ e : Int, WA (.tup [.agg [.v (.int .i64) (0 : Int), .nl, .v (.int .i64) (0 : Int), .v (.int .i64) (0 : Int), .v (.int .i64) (0 : Int)], .v (.int .i64) e])
   (.tup [.agg (explode DomT ((0 : Int), ([] : List Int), (0 : Int), (0 : Int), (0 : Int))), .v (.int .i64) e]) := fun e =>
  .tup (.cons (.agg (.cons (.same _) (.cons (.nl _) (.cons (.same _) (.cons (.same _) (.cons (.same _) .nil)))))) (.cons (.one (by simp) (.same _)) .nil))
 by_cases h0 : (xs.length : Int) = 0
 ·have h0' : xs.length = 0 := by omega
  simp only [h0, decide_true, cond_true]
  refine ⟨_, rfl, ?_⟩
  unfold ofD
  rw [if_pos h0']
  exact bad 4
 ·have h0' : ¬ xs.length = 0 := by omega
  have hne : xs ≠ [] := fun e => h0' (by simp [e])
  have hemp : (!xs.isEmpty) = true := by cases xs <;> simp_all
  simp only [h0, decide_false, cond_false]
  cases h1 : xs.any outD with
  | true =>
   simp only [cond_true]
   refine ⟨_, rfl, ?_⟩
   unfold ofD
   rw [if_neg h0', if_pos h1]
   exact bad 3
  | false =>
   have hin := no_out h1
   have i1 := inD_iff.mp (hin _ (maxL_spec hne).2)
   have i2 := inD_iff.mp (hin _ (minL_spec hne).2)
   rw [wrap_ok (x := maxL xs - minL xs) (by omega) (by omega)]
   simp only [cond_false, hemp, cond_true]
   by_cases h2 : maxL xs - minL xs ≥ 65536
   ·simp only [h2, decide_true, cond_true]
    refine ⟨_, rfl, ?_⟩
    unfold ofD
    rw [if_neg h0', if_neg (by rw [h1]; simp), if_pos h2]
    exact bad 5
   ·have hok : okL xs = true := okL_iff.mpr ⟨hne, hin, by omega⟩
    have ho := okL_ok hok
    have hr : roomB (minL xs) (maxL xs) = true := by
     unfold roomB
     have := ho.le
     rw [ho.pl, ho.ph]
     simp only [Bool.and_eq_true, decide_eq_true_eq]
     omega
    simp only [h2, decide_false, cond_false, hr, cond_true]
    have hoff : -1000064 ≤ placeD (minL xs) ∧ placeD (minL xs) ≤ 1000000 := by rw [ho.pl]; omega
    have hw : (wordsL xs).all uB = true := by
     rw [List.all_eq_true]
     exact fun w hw => U_uB ((words_spec hok).2.1 w hw)
    rw [F50.loop _ xs hl _ hin hoff _ _ _ _ _ _ _ _ 0 _ (by omega) (by omega) (by omega) ho.fit, F50.c0]
    have e : setsD (placeD (minL xs)) (xs.drop (Int.toNat 0)) (zerosD (minL xs) (maxL xs)) = wordsL xs := rfl
    rw [e, hw]
    refine ⟨_, rfl, ?_⟩
    rw [ofD_ok hok]
    exact WA.refl _
end Go.Proofs.YtdihbphkbdelbaaGreatDoor.Ev
set_option linter.unusedVariables false
set_option linter.unusedSimpArgs false
set_option maxRecDepth 100000
namespace Go.Proofs.YtdihbphkbdelbaaGreatDoor.Ev
open Go
theorem F48.sem (k : Nat) (c : Con) (d : List Dom) (f l : Int) (h : fitsB c f l = true) (hA : c.2.1.length ≤ maxLen) (hB : c.2.2.1.length ≤ maxLen) (hd : d.length ≤ maxLen) :
  callW F48.E false F48.fn k [.agg (explode ConT c), .v (.sl DomT) d, .v (.int .i64) f, .v (.int .i64) l] = some (.v .bool (fitsD c d f l)) := by
 refine (F48.start_eq k c d f l).trans ?_
 unfold fitsD lenCB
 by_cases h1 : c.1 ≥ f
 ·by_cases h2 : c.1 ≤ l
  ·have h1' : f ≤ c.1 := h1
   have hk : kindB c = true := by
    unfold fitsB at h
    simp only [h1', h2, decide_true, Bool.and_true, Bool.not_true, Bool.false_or] at h
    exact h
   simp only [h1, h1', h2, hk, decide_true, cond_true, Bool.true_and]
   by_cases h3 : rightM c 256 = 0
   ·have hc : countedD c ⟨#[]⟩ = true := by
     unfold rightM at h3
     cases hh : countedD c ⟨#[]⟩ with
     | true => rfl
     | false => rw [hh] at h3; simp at h3
    have hv := vars_of hk hc
    unfold varsB at hv
    simp only [Bool.and_eq_true, decide_eq_true_eq] at hv
    rw [wrap_ok (by omega) (by omega)]
    simp only [h3, decide_true, cond_true, Bool.true_and]
    by_cases h4 : d.length = c.2.1.length + c.2.2.1.length
    ·have h4' : (d.length : Int) = (c.2.1.length : Int) + (c.2.2.1.length : Int) := by omega
     rw [decide_eq_true h4', decide_eq_true h4]
     rfl
    ·have h4' : ¬ (d.length : Int) = (c.2.1.length : Int) + (c.2.2.1.length : Int) := by omega
     simp only [h4, h4', decide_false, cond_false, Bool.false_and]
   ·simp only [h3, decide_false, cond_false, Bool.false_and]
  ·simp only [h1, h2, decide_true, decide_false, cond_true, cond_false, Bool.false_and, Bool.and_false]
 ·have h1' : ¬ f ≤ c.1 := h1
  simp only [h1, h1', decide_false, cond_false, Bool.false_and]
theorem all_any {α : Type} (p : α → Bool) (l : List α) : (l.all fun x => !(p x)) = !(l.any p) := by
 induction l with
 | nil => rfl
 | cons x l ih => simp only [List.all_cons, List.any_cons, ih]; cases p x <;> rfl
theorem listB_near {d : Dom} (h : listB d = true) : nearB d.1 = true := by
 unfold listB at h
 simp only [Bool.and_eq_true] at h
 exact h.1.1
theorem listFrom_length (off : Int) : ∀ (ws : List Int) (i : Int), (listFrom off i ws).length ≤ 64 * ws.length
 | [], i => by simp [listFrom]
 | w :: ws, i => by
  unfold listFrom
  have h1 := bitsFrom_length 64 (off + 64 * i) w
  have h2 := listFrom_length off ws (i + 1)
  rw [List.length_append, List.length_cons]
  omega
theorem listD_length {d : Dom} (h : listB d = true) : (listD d).length ≤ 64000000 := by
 unfold listB at h
 simp only [Bool.and_eq_true, Nat.ble_eq] at h
 have := listFrom_length d.1 d.2.1 0
 unfold listD
 omega
end Go.Proofs.YtdihbphkbdelbaaGreatDoor.Ev
