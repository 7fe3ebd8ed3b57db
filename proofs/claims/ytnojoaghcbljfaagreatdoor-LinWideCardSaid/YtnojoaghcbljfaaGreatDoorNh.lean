/-
Linear constraints: what the document's functions answer: unlike, reified, the filter.
Conditions: as the handlers ask.
-/
import Derived.Test.YtnojoaghcbljfaaGreatDoorNg
set_option linter.unusedVariables false
set_option linter.unusedSimpArgs false
set_option maxRecDepth 100000
set_option maxHeartbeats 4000000
namespace Go.Proofs.YtnojoaghcbljfaaGreatDoor.Ev
open Go
structure UnP (C : List Int) (K : Int) (d : List (List Int)) : Prop where
  len : C.length = d.length
  le : d.length ≤ 1000
  cm : ∀ x ∈ C, -1000000 ≤ x ∧ x ≤ 1000000
  mo : -1099511627776000 ≤ K ∧ K ≤ 1099511627776000
  dl : ∀ x ∈ d, 0 < x.length ∧ x.length ≤ 100000 ∧ ∀ y ∈ x, -1000000 ≤ y ∧ y ≤ 1000000
theorem F384.loop (k : Nat) (d : List (List Int)) (m : Int) (A B C D E : List Int) (K : Int) (R : List (List Int)) (P : UnP C K d) : ∀ (q i n : Nat) (o at_ sum : Int), i + q = d.length → q < n → 0 ≤ o → o ≤ i → 0 ≤ at_ → at_ < (d.length : Int) + 1 → (0 < o → at_ < (i : Int)) → -1000000000000 * (i : Int) ≤ sum → sum ≤ 1000000000000 * (i : Int) →
  ∃ p : Int × Int × Int, openR o at_ sum (i : Int) (C.drop i) (d.drop i) = p ∧ F384.l1_1_1_1_0_1_0 n (F384.kt k [1, 1, 1, 1, 0, 1, 0]) d o at_ sum (i : Int) m A B C D E K R = exitK (F384.kt k [1, 1, 1, 1, 0, 1, 0]) 0 ⟨slots 109 [(1, .v (.sl (.sl (.int .i64))) d), (2, .pb 0 0), (6, .v (.int .i64) p.1), (7, .v (.int .i64) p.2.1), (8, .v (.int .i64) p.2.2)], [.box [.v (.int .i64) m, .v (.sl (.int .i64)) A, .v (.sl (.int .i64)) B, .v (.sl (.int .i64)) C, .v (.sl (.int .i64)) D, .v (.sl (.int .i64)) E, .v (.int .i64) K, .v (.sl (.sl (.int .i64))) R]]⟩ ∧
  0 ≤ p.1 ∧ (0 < p.1 → 0 ≤ p.2.1 ∧ p.2.1 < (d.length : Int)) ∧ -1000000000000000 ≤ p.2.2 ∧ p.2.2 ≤ 1000000000000000 := by
 have l1 := P.len
 have l2 := P.le
 intro q
 induction q with
 | zero =>
  intro i n o at_ sum h1 h2 h3 h4 h5 h6 h7 h8 h9
  obtain ⟨n', rfl⟩ : ∃ n', n = n' + 1 := ⟨n - 1, by omega⟩
  obtain rfl : i = d.length := by omega
  refine ⟨(o, at_, sum), ?_, (F384.l1_1_1_1_0_1_0_eq n' _ d o at_ sum _ m A B C D E K R).trans self_lt', h3, fun h => ⟨h5, h7 h⟩, by show -1000000000000000 ≤ sum; omega, by show sum ≤ 1000000000000000; omega⟩
  rw [← l1, List.drop_length]
  unfold openR
  rfl
 | succ q ih =>
  intro i n o at_ sum h1 h2 h3 h4 h5 h6 h7 h8 h9
  obtain ⟨n', rfl⟩ : ∃ n', n = n' + 1 := ⟨n - 1, by omega⟩
  have hd : i < d.length := by omega
  have hi : i < C.length := by omega
  obtain ⟨x1, x2, x3⟩ := P.dl _ (getD_memD hd [])
  have p := mul_mill (P.cm _ (getD_memD hi 0)) (x3 _ (getD_memD x1 0))
  have w : IntKind.i64.wrap ((i : Int) + 1) = ((i + 1 : Nat) : Int) := by rw [wrap_ok (by omega) (by omega)]; omega
  have w2 : (i : Int) + 1 = ((i + 1 : Nat) : Int) := by omega
  have wo : IntKind.i64.wrap (o + 1) = o + 1 := wrap_ok (by omega) (by omega)
  rw [drop_getD hi 0, drop_getD hd []]
  unfold openR
  rw [F384.l1_1_1_1_0_1_0_eq n' _ d o at_ sum _ m A B C D E K R, Int.toNat_natCast, w, w2, wo]
  by_cases c1 : ((d.getD i []).length : Int) > 1
  ·rw [if_pos c1]
   obtain ⟨p, g1, g2, g3⟩ := ih (i + 1) n' (o + 1) (i : Int) sum (by omega) (by omega) (by omega) (by omega) (by omega) (by omega) (fun _ => by omega) (by omega) (by omega)
   exact ⟨p, g1, (bT' (decide_eq_true (by omega))).trans ((bT' (in_natD hd)).trans ((bT' (decide_eq_true c1)).trans g2)), g3⟩
  ·rw [if_neg c1]
   have e : IntKind.i64.wrap (sum + IntKind.i64.wrap (C.getD i 0 * (d.getD i []).getD 0 0)) = sum + C.getD i 0 * (d.getD i []).getD 0 0 := by
    rw [wrap_ok (x := C.getD i 0 * (d.getD i []).getD 0 0) (by omega) (by omega), wrap_ok (by omega) (by omega)]
   rw [e]
   obtain ⟨p, g1, g2, g3⟩ := ih (i + 1) n' o at_ (sum + C.getD i 0 * (d.getD i []).getD 0 0) (by omega) (by omega) h3 (by omega) h5 h6 (fun h => by have := h7 h; omega) (by omega) (by omega)
   exact ⟨p, g1, (bT' (decide_eq_true (by omega))).trans ((bT' (in_natD hd)).trans ((bF' (decide_eq_false c1)).trans ((bT' (in_natD hi)).trans ((bT' (in_natD hd)).trans ((bT' (decide_eq_true (by omega))).trans g2))))), g3⟩
theorem F384.second (k : Nat) (d : List (List Int)) (at_ sum m : Int) (A B C D E : List Int) (K : Int) (R : List (List Int)) (P : UnP C K d) (hs : -1000000000000000 ≤ sum ∧ sum ≤ 1000000000000000) :
  F384.l1_1_1_1_1_1_1_1_0_1_0 200000 (F384.kt k [1, 1, 1, 1, 1, 1, 1, 1, 0, 1, 0]) d at_ sum 0 m A B C D E K R [] =
  bif (List.range d.length).all (fun i => !(dropR at_ sum K C d i).isEmpty) then some (.tup [.v (.sl (.sl (.int .i64))) ((List.range d.length).map (dropR at_ sum K C d)), .v .bool true]) else some (.tup [.nl, .v .bool false]) := by
 have l1 := P.len
 have l2 := P.le
 refine (by_loop (dropR at_ sum K C d) d.length 101000 (fun n i out => F384.l1_1_1_1_1_1_1_1_0_1_0 n (F384.kt k [1, 1, 1, 1, 1, 1, 1, 1, 0, 1, 0]) d at_ sum i m A B C D E K R out) _ _ (fun n i out hn hi ho => by
  have w : IntKind.i64.wrap ((i : Int) + 1) = ((i + 1 : Nat) : Int) := by rw [wrap_ok (by omega) (by omega)]; omega
  have hic : i < C.length := by omega
  obtain ⟨x1, x2, x3⟩ := P.dl _ (getD_memD hi [])
  have ck := P.cm _ (getD_memD hic 0)
  refine (F384.l1_1_1_1_1_1_1_1_0_1_0_eq n _ d at_ sum (i : Int) m A B C D E K R out).trans ((bT' (decide_eq_true (by omega))).trans ?_)
  refine (keep_loop (d.getD i []) (fun v => !(decide ((i : Int) = at_)) || !(decide (sum + C.getD i 0 * v = K))) (fun n' j l => F384.l1_1_1_1_1_1_1_1_0_1_0_0_1_0_0_1_0_1_0 n' (F384.k_l1_1_1_1_1_1_1_1_0_1_0 n (F384.kt k [1, 1, 1, 1, 1, 1, 1, 1, 0, 1, 0]) [1, 0, 0, 1, 0, 1, 0]) d at_ sum (i : Int) j m A B C D E K R out l) (fun l => exitK (F384.k_l1_1_1_1_1_1_1_1_0_1_0 n (F384.kt k [1, 1, 1, 1, 1, 1, 1, 1, 0, 1, 0]) [1, 0, 0, 1, 0, 1, 0]) 4 ⟨slots 109 [(1, .v (.sl (.sl (.int .i64))) d), (2, .pb 0 0), (7, .v (.int .i64) at_), (8, .v (.int .i64) sum), (10, .own 1), (11, .v (.int .i64) (i : Int)), (12, .own 2)], [.box [.v (.int .i64) m, .v (.sl (.int .i64)) A, .v (.sl (.int .i64)) B, .v (.sl (.int .i64)) C, .v (.sl (.int .i64)) D, .v (.sl (.int .i64)) E, .v (.int .i64) K, .v (.sl (.sl (.int .i64))) R], .row 30 (.sl (.int .i64)) out, .row 3 (.int .i64) l]⟩) (fun n' j l hj hl => ?_) (fun n' l => (F384.l1_1_1_1_1_1_1_1_0_1_0_0_1_0_0_1_0_1_0_eq n' _ d at_ sum (i : Int) _ m A B C D E K R out l).trans ((bT' (in_natD hi)).trans ?_)) n (by omega)).trans ?_
  ·have wj : IntKind.i64.wrap ((j : Int) + 1) = ((j + 1 : Nat) : Int) := by rw [wrap_ok (by omega) (by omega)]; omega
   have p := mul_mill ck (x3 _ (getD_memD hj 0))
   have e1 : IntKind.i64.wrap (sum + IntKind.i64.wrap (C.getD i 0 * (d.getD i []).getD j 0)) = sum + C.getD i 0 * (d.getD i []).getD j 0 := by
    rw [wrap_ok (x := C.getD i 0 * (d.getD i []).getD j 0) (by omega) (by omega), wrap_ok (by omega) (by omega)]
   have lim : decide ((l.length + [(d.getD i []).getD j 0].length) * 8 ≤ LIM) = true := decide_eq_true (show (l.length + 1) * 8 ≤ 140737488355328 by omega)
   refine (F384.l1_1_1_1_1_1_1_1_0_1_0_0_1_0_0_1_0_1_0_eq n' _ d at_ sum (i : Int) _ m A B C D E K R out l).trans ?_
   rw [Int.toNat_natCast, Int.toNat_natCast, e1, wj]
   refine (bT' (in_natD hi)).trans ((bT' (decide_eq_true (by omega))).trans ?_)
   by_cases c0 : (i : Int) = at_
   ·rw [decide_eq_true c0]
    refine (bF' rfl).trans ((bT' (in_natD hic)).trans ((bT' (in_natD hi)).trans ((bT' (in_natD hj)).trans ?_)))
    by_cases c1 : sum + C.getD i 0 * (d.getD i []).getD j 0 = K
    ·rw [decide_eq_true c1]
     rfl
    ·rw [decide_eq_false c1]
     exact (bT' (in_natD hi)).trans ((bT' (in_natD hj)).trans (bT' lim))
   ·rw [decide_eq_false c0]
    exact (bT' rfl).trans ((bT' (in_natD hi)).trans ((bT' (in_natD hj)).trans (bT' lim)))
  ·rw [Int.toNat_natCast]
   exact self_lt'
  ·refine (F384.c2 n _ d at_ sum (i : Int) m A B C D E K R out _).trans ?_
   rw [w]
   have lim : decide ((out.length + [dropR at_ sum K C d i].length) * 24 ≤ LIM) = true := decide_eq_true (show (out.length + 1) * 24 ≤ 140737488355328 by omega)
   show (bif decide (((dropR at_ sum K C d i).length : Int) = 0) then _ else _) = _
   by_cases c1 : ((dropR at_ sum K C d i).length : Int) = 0
   ·rw [decide_eq_true c1]
    rfl
   ·rw [decide_eq_false c1]
    exact bT' lim) (fun n out => (F384.l1_1_1_1_1_1_1_1_0_1_0_eq n _ d at_ sum _ m A B C D E K R out).trans self_lt') 200000 (by omega)).trans ?_
 cases (List.range d.length).all (fun i => !(dropR at_ sum K C d i).isEmpty) with
 | true => exact F384.c1 k _
 | false => exact F384.c3 k
theorem F384.sem (c : Con) (d : List (List Int)) (h : unlikeRB c d = true) : ∃ r, callW F384.E false F384.fn 200000 [.agg (explode ConT c), .v (.sl (.sl (.int .i64))) d] = some r ∧ WA r (.tup [.v (.sl (.sl (.int .i64))) (unlikeR c d).1, .v .bool (unlikeR c d).2]) := by
 unfold unlikeRB at h
 simp only [Bool.and_eq_true, List.all_eq_true, decide_eq_true_eq, Nat.ble_eq] at h
 obtain ⟨m, A, B, C, D, E, K, R⟩ := c
 have P : UnP C K d := ⟨h.1.1.1.1, h.1.1.1.2, fun x hx => mill_iff' (h.1.1.2 x hx), sums_iff h.1.2, fun x hx => ⟨(h.2 x hx).1.1, (h.2 x hx).1.2, fun y hy => mill_iff' ((h.2 x hx).2 y hy)⟩⟩
 have l2 := P.le
 obtain ⟨p, g1, g2, g3, g4, g5, g6⟩ := F384.loop 200000 d m A B C D E K R P d.length 0 200000 0 0 0 (by omega) (by omega) (by omega) (by omega) (by omega) (by omega) (fun h => by omega) (by omega) (by omega)
 have st := (F384.start_eq 200000 (m, A, B, C, D, E, K, R) d).trans (g2.trans (F384.c0 200000 d p.1 p.2.1 p.2.2 m A B C D E K R))
 rw [List.drop_zero, List.drop_zero] at g1
 have e0 : unlikeR (m, A, B, C, D, E, K, R) d = if p.1 > 1 then (d, true) else if p.1 = 0 then (d, !(decide (p.2.2 = K))) else
   bif (List.range d.length).all (fun i => !(dropR p.2.1 p.2.2 K C d i).isEmpty) then ((List.range d.length).map (dropR p.2.1 p.2.2 K C d), true) else ([], false) := by
  rw [← g1]
  rfl
 rw [e0]
 by_cases c1 : p.1 > 1
 ·rw [if_pos c1]
  exact ⟨_, st.trans (bT' (decide_eq_true c1)), WA.refl _⟩
 ·rw [if_neg c1]
  have st1 := st.trans (bF' (decide_eq_false c1))
  by_cases c2 : p.1 = 0
  ·rw [if_pos c2]
   exact ⟨_, st1.trans (bT' (decide_eq_true c2)), WA.refl _⟩
  ·rw [if_neg c2]
   have st2 := st1.trans ((bF' (decide_eq_false c2)).trans (F384.second 200000 d p.2.1 p.2.2 m A B C D E K R P ⟨g5, g6⟩))
   cases hall : (List.range d.length).all (fun i => !(dropR p.2.1 p.2.2 K C d i).isEmpty) with
   | true =>
    rw [hall] at st2
    exact ⟨_, st2, WA.refl _⟩
   | false =>
    rw [hall] at st2
    exact ⟨_, st2, .tup (.cons (.one (by simp) (.nl _)) (.cons (.one (by simp) (.same _)) .nil))⟩
theorem take_getD {α : Type} {l : List α} {n i : Nat} (h : i < n) (d : α) : (l.take n).getD i d = l.getD i d := by
 rw [List.getD_eq_getElem?_getD, List.getElem?_take_of_lt h, ← List.getD_eq_getElem?_getD]
theorem F385.loop (k : Nat) (d : List (List Int)) (nn : Nat) (hn : nn < d.length) (m : Int) (A B C D E : List Int) (K : Int) (R : List (List Int)) (most : Int) (P : ByP C 1 most (d.take nn)) (Q : ByP C (-1) (-most - 1) (d.take nn)) : ∀ (q i n : Nat) (least most_ : Int) (x : List (List Int)), i + q = nn → q < n → x.length = i →
  -1000000000000 * (i : Int) ≤ least → least ≤ 1000000000000 * (i : Int) → -1000000000000 * (i : Int) ≤ most_ → most_ ≤ 1000000000000 * (i : Int) →
  F385.l1_1_1_1_1_0_1_0 n (F385.kt k [1, 1, 1, 1, 1, 0, 1, 0]) d (nn : Int) least most_ (i : Int) m A B C D E K R x =
  (fun (l1 l2 : Int) (x1 : List (List Int)) => exitK (F385.kt k [1, 1, 1, 1, 1, 0, 1, 0]) 0 ⟨slots 132 [(1, .v (.sl (.sl (.int .i64))) d), (2, .pb 0 0), (6, .v (.int .i64) (nn : Int)), (7, .v (.int .i64) l1), (8, .v (.int .i64) l2), (9, .own 1)], [.box [.v (.int .i64) m, .v (.sl (.int .i64)) A, .v (.sl (.int .i64)) B, .v (.sl (.int .i64)) C, .v (.sl (.int .i64)) D, .v (.sl (.int .i64)) E, .v (.int .i64) K, .v (.sl (.sl (.int .i64))) R], .row 30 (.sl (.int .i64)) x1]⟩) (least + lowsR 1 (C.drop i) ((d.take nn).drop i)) (most_ - lowsR (-1) (C.drop i) ((d.take nn).drop i)) (x ++ (d.take nn).drop i) := by
 have l1 := P.len
 have l2 := P.le
 have tl : (d.take nn).length = nn := by rw [List.length_take]; omega
 intro q
 induction q with
 | zero =>
  intro i n least most_ x h1 h2 h3 h4 h5 h6 h7
  obtain ⟨n', rfl⟩ : ∃ n', n = n' + 1 := ⟨n - 1, by omega⟩
  obtain rfl : i = nn := by omega
  have e1 : C.drop i = [] := List.drop_of_length_le (by omega)
  have e2 : (d.take i).drop i = [] := List.drop_of_length_le (by omega)
  rw [e1, e2]
  have e3 : ∀ s : Int, lowsR s [] [] = 0 := fun s => by unfold lowsR; rfl
  rw [e3, e3, Int.add_zero, Int.sub_zero, List.append_nil]
  exact (F385.l1_1_1_1_1_0_1_0_eq n' _ d _ least most_ _ m A B C D E K R x).trans self_lt'
 | succ q ih =>
  intro i n least most_ x h1 h2 h3 h4 h5 h6 h7
  obtain ⟨n', rfl⟩ : ∃ n', n = n' + 1 := ⟨n - 1, by omega⟩
  have hi : i < C.length := by omega
  have hd : i < d.length := by omega
  have hb := P.low hi
  have hb2 := Q.low hi
  have ck := P.cm _ (getD_memD hi 0)
  have e1 : (1 : Int) * C.getD i 0 = C.getD i 0 := Int.one_mul _
  have e2 : (-1 : Int) * C.getD i 0 = -(C.getD i 0) := by omega
  rw [e1, take_getD (by omega)] at hb
  rw [e2, take_getD (by omega)] at hb2
  have p := lowR_range (lowRB_ok hb)
  have p2 := lowR_range (lowRB_ok hb2)
  have wc : IntKind.i64.wrap (0 - C.getD i 0) = -(C.getD i 0) := by rw [wrap_ok (by omega) (by omega)]; omega
  have w : IntKind.i64.wrap ((i : Int) + 1) = ((i + 1 : Nat) : Int) := by rw [wrap_ok (by omega) (by omega)]; omega
  have lim : decide ((x.length + [d.getD i []].length) * 24 ≤ LIM) = true := decide_eq_true (show (x.length + 1) * 24 ≤ 140737488355328 by omega)
  have w3 : IntKind.i64.wrap (least + lowR (C.getD i 0) (d.getD i [])) = least + lowR (C.getD i 0) (d.getD i []) := wrap_ok (by omega) (by omega)
  have w4 : IntKind.i64.wrap (most_ - lowR (-(C.getD i 0)) (d.getD i [])) = most_ - lowR (-(C.getD i 0)) (d.getD i []) := wrap_ok (by omega) (by omega)
  refine (F385.l1_1_1_1_1_0_1_0_eq n' _ d _ least most_ _ m A B C D E K R x).trans ?_
  rw [Int.toNat_natCast, w, wc, w3, w4]
  refine (bT' (decide_eq_true (by omega))).trans ((bT' (in_natD hi)).trans ((bT' (in_natD hd)).trans ((bT' hb).trans ((bT' (in_natD hi)).trans ((bT' (in_natD hd)).trans ((bT' hb2).trans ((bT' (in_natD hd)).trans ((bT' lim).trans ?_))))))))
  rw [ih (i + 1) n' _ _ _ (by omega) (by omega) (by simp [h3]) (by omega) (by omega) (by omega) (by omega), drop_getD hi 0, drop_getD (l := d.take nn) (show i < (d.take nn).length by omega) []]
  rw [take_getD (by omega)]
  have l1 : lowsR 1 (C.getD i 0 :: C.drop (i + 1)) (d.getD i [] :: (d.take nn).drop (i + 1)) = lowR (C.getD i 0) (d.getD i []) + lowsR 1 (C.drop (i + 1)) ((d.take nn).drop (i + 1)) := by
   conv => lhs; unfold lowsR
   rw [e1]
  have l2 : lowsR (-1) (C.getD i 0 :: C.drop (i + 1)) (d.getD i [] :: (d.take nn).drop (i + 1)) = lowR (-(C.getD i 0)) (d.getD i []) + lowsR (-1) (C.drop (i + 1)) ((d.take nn).drop (i + 1)) := by
   conv => lhs; unfold lowsR
   rw [e2]
  rw [l1, l2, ← Int.add_assoc, Int.sub_sub, List.append_assoc]
  rfl
theorem lim24b {n : Nat} {b : List Int} (h : n ≤ 1000000) : decide ((n + [b].length) * 24 ≤ LIM) = true := decide_eq_true (show (n + 1) * 24 ≤ 140737488355328 by omega)
theorem by_len {c : List Int} {s most : Int} {d : List (List Int)} : (byR c s most d).1.length ≤ d.length := by
 unfold byR
 cases (List.range d.length).all (fun i => !(keepR s most c d i).isEmpty) <;> simp
theorem F385.sem (c : Con) (d : List (List Int)) (h : reifiedRB c d = true) : ∃ r, callW F385.E false F385.fn 200000 [.agg (explode ConT c), .v (.sl (.sl (.int .i64))) d] = some r ∧ WA r (.tup [.v (.sl (.sl (.int .i64))) (reifiedR c d).1, .v .bool (reifiedR c d).2]) := by
 unfold reifiedRB at h
 simp only [Bool.and_eq_true, decide_eq_true_eq, Nat.ble_eq] at h
 obtain ⟨⟨⟨⟨⟨h1, h2⟩, h3⟩, h4⟩, h5⟩, h6⟩ := h
 obtain ⟨m, A, B, C, D, E, K, R⟩ := c
 have h5 : -10000000000 ≤ K := h5
 have h6 : K ≤ 10000000000 := h6
 have h1 : A.length < d.length := h1
 have h2 : byRB C 1 K (d.take A.length) = true := h2
 have h3 : byRB C (-1) (-K - 1) (d.take A.length) = true := h3
 have P := byRB_ok h2
 have Q := byRB_ok h3
 have l1 := P.len
 have l2 := P.le
 have tl : (d.take A.length).length = A.length := by rw [List.length_take]; omega
 have lp := F385.loop 200000 d A.length h1 m A B C D E K R K P Q A.length 0 200000 0 0 [] (by omega) (by omega) rfl (by omega) (by omega) (by omega) (by omega)
 rw [List.drop_zero, List.drop_zero, Int.zero_add, Int.zero_sub, List.nil_append] at lp
 have st := (F385.start_eq 200000 (m, A, B, C, D, E, K, R) d).trans (lp.trans (F385.c0 200000 d (A.length : Int) (lowsR 1 C (d.take A.length)) (-(lowsR (-1) C (d.take A.length))) m A B C D E K R (d.take A.length)))
 have w2 : IntKind.i64.wrap (IntKind.i64.wrap (0 - K) - 1) = -K - 1 := by
  rw [wrap_ok (x := 0 - K) (by omega) (by omega), wrap_ok (by omega) (by omega)]
  omega
 have i1 : (decide (0 ≤ (A.length : Int)) && decide ((A.length : Int) < (d.length : Int))) = true := in_natD h1
 have t1 : decide ([(0 : Int)].length * 8 ≤ LIM) = true := decide_eq_true (show 1 * 8 ≤ 140737488355328 by omega)
 have t2 : decide ([(1 : Int)].length * 8 ≤ LIM) = true := decide_eq_true (show 1 * 8 ≤ 140737488355328 by omega)
 have t3 : decide (([(0 : Int)].length + [(1 : Int)].length) * 8 ≤ LIM) = true := decide_eq_true (show 2 * 8 ≤ 140737488355328 by omega)
 have k1 : ∀ b : List Int, decide (((byR C 1 K (d.take A.length)).1.length + [b].length) * 24 ≤ LIM) = true := fun b => lim24b (Nat.le_trans by_len (by omega))
 have k2 : ∀ b : List Int, decide (((byR C (-1) (-K - 1) (d.take A.length)).1.length + [b].length) * 24 ≤ LIM) = true := fun b => lim24b (Nat.le_trans by_len (by omega))
 have k3 : ∀ b : List Int, decide (((d.take A.length).length + [b].length) * 24 ≤ LIM) = true := fun b => lim24b (by omega)
 have a0 : decide ((([(0 : Int)] ++ [(1 : Int)]).length : Int) = 0) = false := rfl
 have a1 : decide ((([(0 : Int)] ++ [(1 : Int)]).length : Int) = 1) = false := rfl
 have b0 : decide ((([(0 : Int)]).length : Int) = 0) = false := rfl
 have b1 : decide ((([(0 : Int)]).length : Int) = 1) = true := rfl
 have b2 : decide ((0 : Int) < ([(0 : Int)]).length) = true := rfl
 have b3 : decide (([(0 : Int)].getD 0 (0 : Int)) = 1) = false := rfl
 have b4 : decide (([(0 : Int)].getD 0 (0 : Int)) = 0) = true := rfl
 have c0 : decide ((([(1 : Int)]).length : Int) = 0) = false := rfl
 have c1 : decide ((([(1 : Int)]).length : Int) = 1) = true := rfl
 have c2 : decide ((0 : Int) < ([(1 : Int)]).length) = true := rfl
 have c3 : decide (([(1 : Int)].getD 0 (0 : Int)) = 1) = true := rfl
 have c4 : decide (([(1 : Int)].getD 0 (0 : Int)) = 0) = false := rfl
 simp only [Int.toNat_natCast, i1, w2, t1, t2, t3, h2, h3, k1, k2, k3, a0, a1, b0, b1, b2, b3, b4, c0, c1, c2, c3, c4, cond_true, cond_false] at st
 have nil : ∀ {r : Option AV}, r = some (.tup [.nl, .v .bool false]) → ∃ q, r = some q ∧ WA q (.tup [.v (.sl (.sl (.int .i64))) ([] : List (List Int)), .v .bool false]) := fun e => ⟨_, e, .tup (.cons (.one (by simp) (.nl _)) (.cons (.one (by simp) (.same _)) .nil))⟩
 have hl : lastR (m, A, B, C, D, E, K, R) d = (if hasL (d.getD A.length []) 0 && decide (-(lowsR (-1) C (d.take A.length)) > K) then [0] else []) ++ (if hasL (d.getD A.length []) 1 && decide (lowsR 1 C (d.take A.length) ≤ K) then [1] else []) := rfl
 have e0 : reifiedR (m, A, B, C, D, E, K, R) d = if (lastR (m, A, B, C, D, E, K, R) d).length = 0 then ([], false) else
  if (lastR (m, A, B, C, D, E, K, R) d).length = 1 ∧ (lastR (m, A, B, C, D, E, K, R) d).getD 0 0 = 1 then (bif (byR C 1 K (d.take A.length)).2 then ((byR C 1 K (d.take A.length)).1 ++ [lastR (m, A, B, C, D, E, K, R) d], true) else ([], false)) else
  if (lastR (m, A, B, C, D, E, K, R) d).length = 1 ∧ (lastR (m, A, B, C, D, E, K, R) d).getD 0 0 = 0 then (bif (byR C (-1) (-K - 1) (d.take A.length)).2 then ((byR C (-1) (-K - 1) (d.take A.length)).1 ++ [lastR (m, A, B, C, D, E, K, R) d], true) else ([], false)) else
  (d.take A.length ++ [lastR (m, A, B, C, D, E, K, R) d], true) := rfl
 have both : lastR (m, A, B, C, D, E, K, R) d = [0, 1] → reifiedR (m, A, B, C, D, E, K, R) d = (d.take A.length ++ [[0, 1]], true) := fun h => by rw [e0, h]; rfl
 have zero : lastR (m, A, B, C, D, E, K, R) d = [0] → reifiedR (m, A, B, C, D, E, K, R) d = bif (byR C (-1) (-K - 1) (d.take A.length)).2 then ((byR C (-1) (-K - 1) (d.take A.length)).1 ++ [[0]], true) else ([], false) := fun h => by rw [e0, h]; rfl
 have one : lastR (m, A, B, C, D, E, K, R) d = [1] → reifiedR (m, A, B, C, D, E, K, R) d = bif (byR C 1 K (d.take A.length)).2 then ((byR C 1 K (d.take A.length)).1 ++ [[1]], true) else ([], false) := fun h => by rw [e0, h]; rfl
 have none_ : lastR (m, A, B, C, D, E, K, R) d = [] → reifiedR (m, A, B, C, D, E, K, R) d = ([], false) := fun h => by rw [e0, h]; rfl
 have p0 : ∀ (b p : Bool), (b && p) = false → b = true → p = false := fun b p h1 h2 => by rw [h2] at h1; exact h1
 cases z : (hasL (d.getD A.length []) 0 && decide (-(lowsR (-1) C (d.take A.length)) > K)) with
 | true =>
  have z1 := (Bool.and_eq_true _ _).mp z
  cases u : (hasL (d.getD A.length []) 1 && decide (lowsR 1 C (d.take A.length) ≤ K)) with
  | true =>
   have u1 := (Bool.and_eq_true _ _).mp u
   rw [both (by rw [hl, z, u]; rfl)]
   simp only [z1.1, z1.2, u1.1, u1.2, cond_true] at st
   exact ⟨_, st, WA.refl _⟩
  | false =>
   rw [zero (by rw [hl, z, u]; rfl)]
   have hu : hasL (d.getD A.length []) 1 = false ∨ decide (lowsR 1 C (d.take A.length) ≤ K) = false := by
    cases hh : hasL (d.getD A.length []) 1 with
    | false => exact .inl rfl
    | true => exact .inr (p0 _ _ u hh)
   cases hq : (byR C (-1) (-K - 1) (d.take A.length)).2 with
   | true =>
    rcases hu with hu | hu <;> (cases hh : hasL (d.getD A.length []) 1 <;> simp only [z1.1, z1.2, hu, hh, hq, cond_true, cond_false] at st <;> first | exact ⟨_, st, WA.refl _⟩ | (rw [hh] at hu; cases hu))
   | false =>
    rcases hu with hu | hu <;> (cases hh : hasL (d.getD A.length []) 1 <;> simp only [z1.1, z1.2, hu, hh, hq, cond_true, cond_false] at st <;> first | exact nil st | (rw [hh] at hu; cases hu))
 | false =>
  have hz : hasL (d.getD A.length []) 0 = false ∨ decide (-(lowsR (-1) C (d.take A.length)) > K) = false := by
   cases hh : hasL (d.getD A.length []) 0 with
   | false => exact .inl rfl
   | true => exact .inr (p0 _ _ z hh)
  cases u : (hasL (d.getD A.length []) 1 && decide (lowsR 1 C (d.take A.length) ≤ K)) with
  | true =>
   have u1 := (Bool.and_eq_true _ _).mp u
   rw [one (by rw [hl, z, u]; rfl)]
   cases hq : (byR C 1 K (d.take A.length)).2 with
   | true =>
    rcases hz with hz | hz <;> (cases hh : hasL (d.getD A.length []) 0 <;> simp only [u1.1, u1.2, hz, hh, hq, cond_true, cond_false] at st <;> first | exact ⟨_, st, WA.refl _⟩ | (rw [hh] at hz; cases hz))
   | false =>
    rcases hz with hz | hz <;> (cases hh : hasL (d.getD A.length []) 0 <;> simp only [u1.1, u1.2, hz, hh, hq, cond_true, cond_false] at st <;> first | exact nil st | (rw [hh] at hz; cases hz))
  | false =>
   rw [none_ (by rw [hl, z, u]; rfl)]
   have hu : hasL (d.getD A.length []) 1 = false ∨ decide (lowsR 1 C (d.take A.length) ≤ K) = false := by
    cases hh : hasL (d.getD A.length []) 1 with
    | false => exact .inl rfl
    | true => exact .inr (p0 _ _ u hh)
   rcases hz with hz | hz <;> rcases hu with hu | hu <;> (cases hh : hasL (d.getD A.length []) 0 <;> cases h' : hasL (d.getD A.length []) 1 <;> simp only [hz, hu, hh, h', cond_true, cond_false] at st <;> first | exact nil st | (rw [hh] at hz; cases hz) | (rw [h'] at hu; cases hu))
theorem F341.sem (k : Nat) (c : Con) (d : List (List Int)) (h : linRB c d = true) : ∃ r, callW F341.E false F341.fn k [.agg (explode ConT c), .v (.sl (.sl (.int .i64))) d] = some r ∧ WA r (.tup [.v (.sl (.sl (.int .i64))) (linR c d).1, .v .bool (linR c d).2]) := by
 unfold linRB at h
 rw [Bool.and_eq_true] at h
 have st := (F341.start_eq k c d).trans (bT' h.1)
 have nil : ∀ {r : Option AV}, r = some (.tup [.nl, .v .bool false]) → ∃ q, r = some q ∧ WA q (.tup [.v (.sl (.sl (.int .i64))) ([] : List (List Int)), .v .bool false]) := fun e => ⟨_, e, .tup (.cons (.one (by simp) (.nl _)) (.cons (.one (by simp) (.same _)) .nil))⟩
 unfold linR
 cases hf : fitsR c d 1 4 with
 | false => exact nil (st.trans (bT' (by rw [hf]; rfl)))
 | true =>
  have hk : linKRB c d = true := by
   have := h.2
   rw [hf] at this
   simpa using this
  have st1 := st.trans (bF' (by rw [hf]; rfl))
  unfold linKRB at hk
  unfold linKR
  rw [cond_true]
  by_cases c1 : c.1 = 1
  ·rw [if_pos c1] at hk ⊢
   exact ⟨_, st1.trans ((bT' (decide_eq_true c1)).trans (bT' hk)), WA.refl _⟩
  ·rw [if_neg c1] at hk ⊢
   have st2 := st1.trans (bF' (decide_eq_false c1))
   by_cases c2 : c.1 = 2
   ·rw [if_pos c2] at hk ⊢
    exact ⟨_, st2.trans ((bT' (decide_eq_true c2)).trans (bT' hk)), WA.refl _⟩
   ·rw [if_neg c2] at hk ⊢
    have st3 := st2.trans (bF' (decide_eq_false c2))
    by_cases c3 : c.1 = 3
    ·rw [if_pos c3] at hk ⊢
     have st4 := st3.trans ((bT' (decide_eq_true c3)).trans (bT' hk))
     cases hu : (unlikeR c d).2 with
     | true => exact ⟨_, st4.trans (bF' (by rw [hu]; rfl)), WA.refl _⟩
     | false => exact nil (st4.trans (bT' (by rw [hu]; rfl)))
    ·rw [if_neg c3] at hk ⊢
     exact ⟨_, st3.trans ((bF' (decide_eq_false c3)).trans (bT' hk)), WA.refl _⟩
end Go.Proofs.YtnojoaghcbljfaaGreatDoor.Ev
