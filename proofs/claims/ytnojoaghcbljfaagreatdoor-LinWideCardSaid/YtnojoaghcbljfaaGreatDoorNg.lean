/-
Linear constraints: what the document's functions answer.
Conditions: as the handlers ask.
-/
import Derived.Test.YtnojoaghcbljfaaGreatDoorNe
import Derived.Test.YtnojoaghcbljfaaGreatDoorNc
set_option linter.unusedVariables false
set_option linter.unusedSimpArgs false
set_option maxRecDepth 100000
set_option maxHeartbeats 4000000
namespace Go.Proofs.YtnojoaghcbljfaaGreatDoor.Ev
open Go
theorem keep_loop (x : List Int) (p : Int → Bool) (L : Nat → Int → List Int → Option AV) (X : List Int → Option AV)
  (hs : ∀ n (j : Nat) acc, j < x.length → acc.length ≤ j → L (n + 1) (j : Int) acc = bif p (x.getD j 0) then L n ((j + 1 : Nat) : Int) (acc ++ [x.getD j 0]) else L n ((j + 1 : Nat) : Int) acc)
  (he : ∀ n acc, L (n + 1) (x.length : Int) acc = X acc) (n : Nat) (hn : x.length < n) : L n 0 [] = X (x.filter p) := by
 have key : ∀ (m j n : Nat) (acc : List Int), j + m = x.length → m < n → acc.length ≤ j → L n (j : Int) acc = X (acc ++ (x.drop j).filter p) := by
  intro m
  induction m with
  | zero =>
   intro j n acc h1 h2 _
   obtain ⟨n', rfl⟩ : ∃ n', n = n' + 1 := ⟨n - 1, by omega⟩
   obtain rfl : j = x.length := by omega
   rw [List.drop_length, he]
   simp
  | succ m ih =>
   intro j n acc h1 h2 h3
   obtain ⟨n', rfl⟩ : ∃ n', n = n' + 1 := ⟨n - 1, by omega⟩
   have hj : j < x.length := by omega
   rw [hs n' j acc hj h3, drop_getD hj 0, List.filter_cons]
   cases hp : p (x.getD j 0) with
   | true =>
    rw [cond_true, ih (j + 1) n' _ (by omega) (by omega) (by simp; omega)]
    simp
   | false =>
    rw [cond_false, ih (j + 1) n' _ (by omega) (by omega) (by omega)]
    simp
 have := key x.length 0 n [] (by omega) hn (Nat.le_refl _)
 simpa using this
theorem by_loop (f : Nat → List Int) (N M : Nat) (L : Nat → Int → List (List Int) → Option AV) (X : List (List Int) → Option AV) (bad : Option AV)
  (hs : ∀ n (i : Nat) out, M ≤ n → i < N → out.length = i → L (n + 1) (i : Int) out = bif decide (((f i).length : Int) = 0) then bad else L n ((i + 1 : Nat) : Int) (out ++ [f i]))
  (he : ∀ n out, L (n + 1) (N : Int) out = X out) (n : Nat) (hn : M + N < n) : L n 0 [] = bif (List.range N).all (fun i => !(f i).isEmpty) then X ((List.range N).map f) else bad := by
 have key : ∀ (m i n : Nat), i + m = N → M + m < n → (∀ j, j < i → f j ≠ []) → L n (i : Int) ((List.range i).map f) = bif (List.range N).all (fun i => !(f i).isEmpty) then X ((List.range N).map f) else bad := by
  intro m
  induction m with
  | zero =>
   intro i n h1 h2 h3
   obtain ⟨n', rfl⟩ : ∃ n', n = n' + 1 := ⟨n - 1, by omega⟩
   obtain rfl : i = N := by omega
   rw [he]
   have : (List.range i).all (fun i => !(f i).isEmpty) = true := by
    rw [List.all_eq_true]
    intro j hj
    have := h3 j (List.mem_range.mp hj)
    cases hf : f j with
    | nil => exact absurd hf this
    | cons => rfl
   rw [this]
   rfl
  | succ m ih =>
   intro i n h1 h2 h3
   obtain ⟨n', rfl⟩ : ∃ n', n = n' + 1 := ⟨n - 1, by omega⟩
   rw [hs n' i _ (by omega) (by omega) (by simp)]
   by_cases c : f i = []
   ·rw [c]
    have : (List.range N).all (fun i => !(f i).isEmpty) = false := by
     rw [List.all_eq_false]
     exact ⟨i, List.mem_range.mpr (by omega), by rw [c]; simp⟩
    rw [this]
    rfl
   ·have hl : ¬ (((f i).length : Int) = 0) := fun h => c (List.length_eq_zero_iff.mp (by omega))
    have e : (List.range i).map f ++ [f i] = (List.range (i + 1)).map f := by rw [List.range_succ, List.map_append]; rfl
    rw [decide_eq_false hl, cond_false, e]
    refine ih (i + 1) n' (by omega) (by omega) fun j hj => ?_
    by_cases hji : j = i
    ·subst hji; exact c
    ·exact h3 j (by omega)
 have := key N 0 n (by omega) hn (fun j hj => by omega)
 exact this
structure LowP (k : Int) (l : List Int) : Prop where
  k : -1000000 ≤ k ∧ k ≤ 1000000
  ne : 0 < l.length
  le : l.length ≤ 1000000
  m : ∀ x ∈ l, -1000000 ≤ x ∧ x ≤ 1000000
theorem lowRB_ok {k : Int} {l : List Int} (h : lowRB k l = true) : LowP k l := by
 unfold lowRB at h
 simp only [Bool.and_eq_true, List.all_eq_true, decide_eq_true_eq, Nat.ble_eq] at h
 exact ⟨mill_iff' h.1.1.1, h.1.1.2, h.1.2, fun x hx => mill_iff' (h.2 x hx)⟩
theorem lowR_range {k : Int} {l : List Int} (P : LowP k l) : -1000000000000 ≤ lowR k l ∧ lowR k l ≤ 1000000000000 := by
 have h := P.ne
 have p := mul_mill P.k (P.m _ (getD_memD h 0))
 have q := mul_mill P.k (P.m _ (getD_memD (show l.length - 1 < l.length by omega) 0))
 unfold lowR
 split <;> omega
theorem F414.sem (n : Nat) (k : Int) (l : List Int) (h : lowRB k l = true) : callW F414.E false F414.fn n [.v (.int .i64) k, .v (.sl (.int .i64)) l] = some (.v (.int .i64) (lowR k l)) := by
 have P := lowRB_ok h
 have h := P.ne
 have hl := P.le
 have p := mul_mill P.k (P.m _ (getD_memD h 0))
 have q := mul_mill P.k (P.m _ (getD_memD (show l.length - 1 < l.length by omega) 0))
 have w : IntKind.i64.wrap ((l.length : Int) - 1) = ((l.length - 1 : Nat) : Int) := by rw [wrap_ok (by omega) (by omega)]; omega
 refine (F414.start_eq n k l).trans ?_
 rw [w, Int.toNat_natCast, wrap_ok (x := k * l.getD 0 0) (by omega) (by omega), wrap_ok (x := k * l.getD (l.length - 1) 0) (by omega) (by omega)]
 refine (bT' (decide_eq_true (by omega))).trans ((bT' (in_natD (by omega))).trans ?_)
 unfold lowR
 by_cases c : k * l.getD 0 0 < k * l.getD (l.length - 1) 0
 ·rw [if_pos c]; exact bT' (decide_eq_true c)
 ·rw [if_neg c]; exact bF' (decide_eq_false c)
structure ByP (c : List Int) (s most : Int) (d : List (List Int)) : Prop where
  s : s = 1 ∨ s = -1
  len : c.length = d.length
  le : d.length ≤ 1000
  cm : ∀ x ∈ c, -1000000 ≤ x ∧ x ≤ 1000000
  mo : -1099511627776000 ≤ most ∧ most ≤ 1099511627776000
  dl : ∀ x ∈ d, 0 < x.length ∧ x.length ≤ 100000 ∧ ∀ y ∈ x, -1000000 ≤ y ∧ y ≤ 1000000
theorem byRB_ok {c : List Int} {s most : Int} {d : List (List Int)} (h : byRB c s most d = true) : ByP c s most d := by
 unfold byRB at h
 simp only [Bool.and_eq_true, Bool.or_eq_true, List.all_eq_true, decide_eq_true_eq, Nat.ble_eq] at h
 exact ⟨h.1.1.1.1.1, h.1.1.1.1.2, h.1.1.1.2, fun x hx => mill_iff' (h.1.1.2 x hx), sums_iff h.1.2, fun x hx => ⟨(h.2 x hx).1.1, (h.2 x hx).1.2, fun y hy => mill_iff' ((h.2 x hx).2 y hy)⟩⟩
theorem ByP.low {c : List Int} {s most : Int} {d : List (List Int)} (P : ByP c s most d) {j : Nat} (hj : j < c.length) : lowRB (s * c.getD j 0) (d.getD j []) = true := by
 have h1 := P.cm _ (getD_memD hj 0)
 obtain ⟨h2, h3, h4⟩ := P.dl _ (getD_memD (show j < d.length by rw [← P.len]; exact hj) [])
 have hk : millB (s * c.getD j 0) = true := by
  rw [mill_iff]
  rcases P.s with h | h <;> rw [h] <;> omega
 unfold lowRB
 rw [hk, decide_eq_true h2, Nat.ble_eq_true_of_le (show (d.getD j []).length ≤ 1000000 by omega), List.all_eq_true.mpr fun x hx => mill_iff.mpr (h4 x hx)]
 rfl
theorem sk_range {s k : Int} (hs : s = 1 ∨ s = -1) (hk : -1000000 ≤ k ∧ k ≤ 1000000) : -1000000 ≤ s * k ∧ s * k ≤ 1000000 := by rcases hs with h | h <;> rw [h] <;> omega
theorem others_loop {c : List Int} {s most : Int} {d : List (List Int)} (P : ByP c s most d) (i : Int) (L : Nat → Int → Int → Option AV) (X : Int → Option AV)
  (hs : ∀ n acc j, L (n + 1) acc j = bif decide (j < (c.length : Int)) then (bif !(decide (j = i)) then (bif decide (0 ≤ j) && decide (j < (c.length : Int)) then (bif decide (0 ≤ j) && decide (j < (d.length : Int)) then
   (bif lowRB (IntKind.i64.wrap (s * c.getD j.toNat 0)) (d.getD j.toNat []) then L n (IntKind.i64.wrap (acc + lowR (IntKind.i64.wrap (s * c.getD j.toNat 0)) (d.getD j.toNat []))) (IntKind.i64.wrap (j + 1)) else none) else none) else none)
   else L n acc (IntKind.i64.wrap (j + 1))) else X acc) (n : Nat) (hn : 1001 ≤ n) : L n 0 0 = X (othersR s i c d) ∧ -1000000000000000 ≤ othersR s i c d ∧ othersR s i c d ≤ 1000000000000000 := by
 have l1 := P.len
 have l2 := P.le
 have key : ∀ (m j n : Nat) (acc : Int), j + m = c.length → m < n → -1000000000000 * (j : Int) ≤ acc → acc ≤ 1000000000000 * (j : Int) →
   L n acc (j : Int) = X (acc + othersR s (i - j) (c.drop j) (d.drop j)) ∧ -1000000000000 * (c.length : Int) ≤ acc + othersR s (i - j) (c.drop j) (d.drop j) ∧ acc + othersR s (i - j) (c.drop j) (d.drop j) ≤ 1000000000000 * (c.length : Int) := by
  intro m
  induction m with
  | zero =>
   intro j n acc h1 h2 h3 h4
   obtain ⟨n', rfl⟩ : ∃ n', n = n' + 1 := ⟨n - 1, by omega⟩
   obtain rfl : j = c.length := by omega
   rw [List.drop_length]
   have e : acc + othersR s (i - (c.length : Int)) [] (d.drop c.length) = acc := by unfold othersR; omega
   rw [e]
   exact ⟨(hs n' acc _).trans self_lt', h3, h4⟩
  | succ m ih =>
   intro j n acc h1 h2 h3 h4
   obtain ⟨n', rfl⟩ : ∃ n', n = n' + 1 := ⟨n - 1, by omega⟩
   have hj : j < c.length := by omega
   have hd : j < d.length := by omega
   have hb := P.low hj
   have p := lowR_range (lowRB_ok hb)
   have ws : IntKind.i64.wrap (s * c.getD j 0) = s * c.getD j 0 := by
    have := sk_range P.s (P.cm _ (getD_memD hj 0))
    exact wrap_ok (by omega) (by omega)
   have w : IntKind.i64.wrap ((j : Int) + 1) = ((j + 1 : Nat) : Int) := by rw [wrap_ok (by omega) (by omega)]; omega
   have w2 : i - (j : Int) - 1 = i - ((j + 1 : Nat) : Int) := by omega
   rw [hs n' acc _, Int.toNat_natCast, w, ws, drop_getD hj 0, drop_getD hd []]
   unfold othersR
   rw [w2]
   by_cases c1 : (j : Int) = i
   ·have c2 : i - (j : Int) = 0 := by omega
    rw [if_pos c2, Int.zero_add]
    obtain ⟨g1, g2⟩ := ih (j + 1) n' acc (by omega) (by omega) (by omega) (by omega)
    refine ⟨(bT' (decide_eq_true (by omega))).trans ((bF' ?_).trans g1), g2⟩
    rw [decide_eq_true c1]; rfl
   ·have c2 : ¬ i - (j : Int) = 0 := by omega
    rw [if_neg c2, ← Int.add_assoc]
    obtain ⟨g1, g2⟩ := ih (j + 1) n' (acc + lowR (s * c.getD j 0) (d.getD j [])) (by omega) (by omega) (by omega) (by omega)
    refine ⟨(bT' (decide_eq_true (by omega))).trans ((bT' (by rw [decide_eq_false c1]; rfl)).trans ((bT' (in_natD hj)).trans ((bT' (in_natD hd)).trans ((bT' hb).trans ?_)))), g2⟩
    rw [wrap_ok (by omega) (by omega)]
    exact g1
 obtain ⟨g1, g2, g3⟩ := key c.length 0 n 0 (by omega) (by omega) (by omega) (by omega)
 have e0 : i - ((0 : Nat) : Int) = i := by omega
 rw [e0, List.drop_zero, List.drop_zero, Int.zero_add] at g1 g2 g3
 exact ⟨g1, by omega, by omega⟩
theorem F383.sem (c : List Int) (s most : Int) (d : List (List Int)) (h : byRB c s most d = true) : ∃ r, callW F383.E false F383.fn 200000 [.v (.sl (.int .i64)) c, .v (.int .i64) s, .v (.int .i64) most, .v (.sl (.sl (.int .i64))) d] = some r ∧ WA r (.tup [.v (.sl (.sl (.int .i64))) (byR c s most d).1, .v .bool (byR c s most d).2]) := by
 have P := byRB_ok h
 have l1 := P.len
 have l2 := P.le
 have lp := by_loop (keepR s most c d) d.length 101000 (fun n i out => F383.l1_1_0_1_0 n (F383.kt 200000 [1, 1, 0, 1, 0]) c s most d i out) _ _ (fun n i out hn hi ho => by
  have w : IntKind.i64.wrap ((i : Int) + 1) = ((i + 1 : Nat) : Int) := by rw [wrap_ok (by omega) (by omega)]; omega
  obtain ⟨g1, g2, g3⟩ := others_loop P (i : Int) (fun n' acc j => F383.l1_1_0_1_0_0_1_0_0_1_0_1_0 n' (F383.k_l1_1_0_1_0 n (F383.kt 200000 [1, 1, 0, 1, 0]) [1, 0, 0, 1, 0, 1, 0]) c s most d (i : Int) acc j out) _ (fun n' acc j => F383.l1_1_0_1_0_0_1_0_0_1_0_1_0_eq n' _ c s most d (i : Int) acc j out) n (by omega)
  refine (F383.l1_1_0_1_0_eq n _ c s most d (i : Int) out).trans ((bT' (decide_eq_true (by omega))).trans (g1.trans ((F383.c1 n _ c s most d (i : Int) (othersR s (i : Int) c d) out).trans ?_)))
  have hic : i < c.length := by omega
  obtain ⟨x1, x2, x3⟩ := P.dl _ (getD_memD hi [])
  have sk := sk_range P.s (P.cm _ (getD_memD hic 0))
  have ws : IntKind.i64.wrap (s * c.getD i 0) = s * c.getD i 0 := wrap_ok (by omega) (by omega)
  refine (keep_loop (d.getD i []) (fun v => decide (s * c.getD i 0 * v + othersR s (i : Int) c d ≤ most)) (fun n' j l => F383.l1_1_0_1_0_0_1_0_0_1_1_1_0_1_0 n' (F383.k_l1_1_0_1_0 n (F383.kt 200000 [1, 1, 0, 1, 0]) [1, 0, 0, 1, 1, 1, 0, 1, 0]) c s most d (i : Int) (othersR s (i : Int) c d) j out l) (fun l => exitK (F383.k_l1_1_0_1_0 n (F383.kt 200000 [1, 1, 0, 1, 0]) [1, 0, 0, 1, 1, 1, 0, 1, 0]) 4 ⟨slots 89 [(0, .v (.sl (.int .i64)) c), (1, .v (.int .i64) s), (2, .v (.int .i64) most), (3, .v (.sl (.sl (.int .i64))) d), (10, .own 0), (11, .v (.int .i64) (i : Int)), (14, .own 1)], [.row 30 (.sl (.int .i64)) out, .row 3 (.int .i64) l]⟩) (fun n' j l hj hl => ?_) (fun n' l => (F383.l1_1_0_1_0_0_1_0_0_1_1_1_0_1_0_eq n' _ c s most d (i : Int) _ _ out l).trans ((bT' (in_natD hi)).trans ?_)) n (by omega)).trans ?_
  ·have wj : IntKind.i64.wrap ((j : Int) + 1) = ((j + 1 : Nat) : Int) := by rw [wrap_ok (by omega) (by omega)]; omega
   have p := mul_mill sk (x3 _ (getD_memD hj 0))
   have e1 : IntKind.i64.wrap (IntKind.i64.wrap (s * c.getD i 0 * (d.getD i []).getD j 0) + othersR s (i : Int) c d) = s * c.getD i 0 * (d.getD i []).getD j 0 + othersR s (i : Int) c d := by
    rw [wrap_ok (x := s * c.getD i 0 * (d.getD i []).getD j 0) (by omega) (by omega), wrap_ok (by omega) (by omega)]
   have lim : decide ((l.length + [(d.getD i []).getD j 0].length) * 8 ≤ LIM) = true := decide_eq_true (show (l.length + 1) * 8 ≤ 140737488355328 by omega)
   refine (F383.l1_1_0_1_0_0_1_0_0_1_1_1_0_1_0_eq n' _ c s most d (i : Int) _ _ out l).trans ?_
   rw [Int.toNat_natCast, Int.toNat_natCast, ws, e1, wj]
   refine (bT' (in_natD hi)).trans ((bT' (decide_eq_true (by omega))).trans ((bT' (in_natD hic)).trans ((bT' (in_natD hi)).trans ((bT' (in_natD hj)).trans ?_))))
   by_cases c1 : s * c.getD i 0 * (d.getD i []).getD j 0 + othersR s (i : Int) c d ≤ most
   ·rw [decide_eq_true c1]
    exact (bT' (in_natD hi)).trans ((bT' (in_natD hj)).trans (bT' lim))
   ·rw [decide_eq_false c1]
    rfl
  ·rw [Int.toNat_natCast]
   exact self_lt'
  ·refine (F383.c2 n _ c s most d (i : Int) out _).trans ?_
   rw [w]
   have lim : decide ((out.length + [keepR s most c d i].length) * 24 ≤ LIM) = true := decide_eq_true (show (out.length + 1) * 24 ≤ 140737488355328 by omega)
   show (bif decide (((keepR s most c d i).length : Int) = 0) then _ else _) = _
   by_cases c1 : ((keepR s most c d i).length : Int) = 0
   ·rw [decide_eq_true c1]
    rfl
   ·rw [decide_eq_false c1]
    exact bT' lim) (fun n out => (F383.l1_1_0_1_0_eq n _ c s most d _ out).trans self_lt') 200000 (by omega)
 have st := (F383.start_eq 200000 c s most d).trans lp
 unfold byR
 cases hall : (List.range d.length).all (fun i => !(keepR s most c d i).isEmpty) with
 | true =>
  rw [hall] at st
  exact ⟨_, st.trans (F383.c0 200000 _), WA.refl _⟩
 | false =>
  rw [hall] at st
  exact ⟨_, st.trans (F383.c3 200000), .tup (.cons (.one (by simp) (.nl _)) (.cons (.one (by simp) (.same _)) .nil))⟩
theorem F383o.sem (c : List Int) (s most : Int) (d : List (List Int)) (h : byRB c s most d = true) : callW F383o.E true F383o.fn 200000 [.v (.sl (.int .i64)) c, .v (.int .i64) s, .v (.int .i64) most, .v (.sl (.sl (.int .i64))) d] = bif (byR c s most d).2 then some (.tup [.nw 30 (.sl (.int .i64)) (byR c s most d).1, .v .bool true]) else some (.tup [.nl, .v .bool false]) := by
 have P := byRB_ok h
 have l1 := P.len
 have l2 := P.le
 have lp := by_loop (keepR s most c d) d.length 101000 (fun n i out => F383o.l1_1_0_1_0 n (F383o.kt 200000 [1, 1, 0, 1, 0]) c s most d i out) _ _ (fun n i out hn hi ho => by
  have w : IntKind.i64.wrap ((i : Int) + 1) = ((i + 1 : Nat) : Int) := by rw [wrap_ok (by omega) (by omega)]; omega
  obtain ⟨g1, g2, g3⟩ := others_loop P (i : Int) (fun n' acc j => F383o.l1_1_0_1_0_0_1_0_0_1_0_1_0 n' (F383o.k_l1_1_0_1_0 n (F383o.kt 200000 [1, 1, 0, 1, 0]) [1, 0, 0, 1, 0, 1, 0]) c s most d (i : Int) acc j out) _ (fun n' acc j => F383o.l1_1_0_1_0_0_1_0_0_1_0_1_0_eq n' _ c s most d (i : Int) acc j out) n (by omega)
  refine (F383o.l1_1_0_1_0_eq n _ c s most d (i : Int) out).trans ((bT' (decide_eq_true (by omega))).trans (g1.trans ((F383o.c1 n _ c s most d (i : Int) (othersR s (i : Int) c d) out).trans ?_)))
  have hic : i < c.length := by omega
  obtain ⟨x1, x2, x3⟩ := P.dl _ (getD_memD hi [])
  have sk := sk_range P.s (P.cm _ (getD_memD hic 0))
  have ws : IntKind.i64.wrap (s * c.getD i 0) = s * c.getD i 0 := wrap_ok (by omega) (by omega)
  refine (keep_loop (d.getD i []) (fun v => decide (s * c.getD i 0 * v + othersR s (i : Int) c d ≤ most)) (fun n' j l => F383o.l1_1_0_1_0_0_1_0_0_1_1_1_0_1_0 n' (F383o.k_l1_1_0_1_0 n (F383o.kt 200000 [1, 1, 0, 1, 0]) [1, 0, 0, 1, 1, 1, 0, 1, 0]) c s most d (i : Int) (othersR s (i : Int) c d) j out l) (fun l => exitK (F383o.k_l1_1_0_1_0 n (F383o.kt 200000 [1, 1, 0, 1, 0]) [1, 0, 0, 1, 1, 1, 0, 1, 0]) 4 ⟨slots 89 [(0, .v (.sl (.int .i64)) c), (1, .v (.int .i64) s), (2, .v (.int .i64) most), (3, .v (.sl (.sl (.int .i64))) d), (10, .own 0), (11, .v (.int .i64) (i : Int)), (14, .own 1)], [.row 30 (.sl (.int .i64)) out, .row 3 (.int .i64) l]⟩) (fun n' j l hj hl => ?_) (fun n' l => (F383o.l1_1_0_1_0_0_1_0_0_1_1_1_0_1_0_eq n' _ c s most d (i : Int) _ _ out l).trans ((bT' (in_natD hi)).trans ?_)) n (by omega)).trans ?_
  ·have wj : IntKind.i64.wrap ((j : Int) + 1) = ((j + 1 : Nat) : Int) := by rw [wrap_ok (by omega) (by omega)]; omega
   have p := mul_mill sk (x3 _ (getD_memD hj 0))
   have e1 : IntKind.i64.wrap (IntKind.i64.wrap (s * c.getD i 0 * (d.getD i []).getD j 0) + othersR s (i : Int) c d) = s * c.getD i 0 * (d.getD i []).getD j 0 + othersR s (i : Int) c d := by
    rw [wrap_ok (x := s * c.getD i 0 * (d.getD i []).getD j 0) (by omega) (by omega), wrap_ok (by omega) (by omega)]
   have lim : decide ((l.length + [(d.getD i []).getD j 0].length) * 8 ≤ LIM) = true := decide_eq_true (show (l.length + 1) * 8 ≤ 140737488355328 by omega)
   refine (F383o.l1_1_0_1_0_0_1_0_0_1_1_1_0_1_0_eq n' _ c s most d (i : Int) _ _ out l).trans ?_
   rw [Int.toNat_natCast, Int.toNat_natCast, ws, e1, wj]
   refine (bT' (in_natD hi)).trans ((bT' (decide_eq_true (by omega))).trans ((bT' (in_natD hic)).trans ((bT' (in_natD hi)).trans ((bT' (in_natD hj)).trans ?_))))
   by_cases c1 : s * c.getD i 0 * (d.getD i []).getD j 0 + othersR s (i : Int) c d ≤ most
   ·rw [decide_eq_true c1]
    exact (bT' (in_natD hi)).trans ((bT' (in_natD hj)).trans (bT' lim))
   ·rw [decide_eq_false c1]
    rfl
  ·rw [Int.toNat_natCast]
   exact self_lt'
  ·refine (F383o.c2 n _ c s most d (i : Int) out _).trans ?_
   rw [w]
   have lim : decide ((out.length + [keepR s most c d i].length) * 24 ≤ LIM) = true := decide_eq_true (show (out.length + 1) * 24 ≤ 140737488355328 by omega)
   show (bif decide (((keepR s most c d i).length : Int) = 0) then _ else _) = _
   by_cases c1 : ((keepR s most c d i).length : Int) = 0
   ·rw [decide_eq_true c1]
    rfl
   ·rw [decide_eq_false c1]
    exact bT' lim) (fun n out => (F383o.l1_1_0_1_0_eq n _ c s most d _ out).trans self_lt') 200000 (by omega)
 have st := (F383o.start_eq 200000 c s most d).trans lp
 unfold byR
 cases hall : (List.range d.length).all (fun i => !(keepR s most c d i).isEmpty) with
 | true =>
  rw [hall] at st
  exact st.trans (F383o.c0 200000 _)
 | false =>
  rw [hall] at st
  exact st.trans (F383o.c3 200000)
theorem F382.loop (k : Nat) (m : Int) (A B C D E : List Int) (K : Int) (hK : -1099511627776000 ≤ K ∧ K ≤ 1099511627776000) (R : List (List Int)) : ∀ (n : Nat) (d : List (List Int)) (r : Nat), r + n ≤ 100000 → equalOkR C K n d = true →
  ∃ q, F382.l1_0_1_0 n (F382.kt k [1, 0, 1, 0]) d (r : Int) m A B C D E K R = some q ∧ WA q (.tup [.v (.sl (.sl (.int .i64))) (equalGoR C K n d).1, .v .bool (equalGoR C K n d).2])
 | 0, d, r, hr, h => by simp [equalOkR] at h
 | n + 1, d, r, hr, h => by
  unfold equalOkR at h
  rw [Bool.and_eq_true] at h
  obtain ⟨h1, h3⟩ := h
  have w : IntKind.i64.wrap ((r : Int) + 1) = ((r + 1 : Nat) : Int) := by rw [wrap_ok (by omega) (by omega)]; omega
  have st := (F382.l1_0_1_0_eq n (F382.kt k [1, 0, 1, 0]) d (r : Int) m A B C D E K R).trans ((bT' (decide_eq_true (by omega))).trans (bT' h1))
  have nil : ∀ {r : Option AV}, r = some (.tup [.nl, .v .bool false]) → ∃ q, r = some q ∧ WA q (.tup [.v (.sl (.sl (.int .i64))) ([] : List (List Int)), .v .bool false]) := fun e => ⟨_, e, .tup (.cons (.one (by simp) (.nl _)) (.cons (.one (by simp) (.same _)) .nil))⟩
  unfold equalGoR
  cases c1 : (byR C 1 K d).2 with
  | false => exact nil (st.trans ((bT' (by rw [c1]; rfl)).trans (F382.c0 k)))
  | true =>
   rw [c1] at h3
   have h3 : (byRB C (-1) (-K) (byR C 1 K d).1 && (!(byR C (-1) (-K) (byR C 1 K d).1).2 || ((Nat.ble (byR C (-1) (-K) (byR C 1 K d).1).1.length 1000 && lensB (byR C (-1) (-K) (byR C 1 K d).1).1) && (sameL (byR C (-1) (-K) (byR C 1 K d).1).1 d || equalOkR C K n (byR C (-1) (-K) (byR C 1 K d).1).1)))) = true := h3
   rw [Bool.and_eq_true] at h3
   obtain ⟨h4, h5⟩ := h3
   have st1 := st.trans (bF' (by rw [c1]; rfl))
   rw [neg_wrap hK] at st1
   have st2 := st1.trans (bT' h4)
   cases c2 : (byR C (-1) (-K) (byR C 1 K d).1).2 with
   | false => exact nil (st2.trans ((bT' (by rw [c2]; rfl)).trans (F382.c0 k)))
   | true =>
    rw [c2] at h5
    have h5 : ((Nat.ble (byR C (-1) (-K) (byR C 1 K d).1).1.length 1000 && lensB (byR C (-1) (-K) (byR C 1 K d).1).1) && (sameL (byR C (-1) (-K) (byR C 1 K d).1).1 d || equalOkR C K n (byR C (-1) (-K) (byR C 1 K d).1).1)) = true := h5
    rw [Bool.and_eq_true] at h5
    have st3 := st2.trans ((bF' (by rw [c2]; rfl)).trans (bT' h5.1))
    cases c3 : sameL (byR C (-1) (-K) (byR C 1 K d).1).1 d with
    | true => exact ⟨_, st3.trans ((bT' c3).trans (F382.c1 k _)), WA.refl _⟩
    | false =>
     have h6 := h5.2
     rw [c3] at h6
     obtain ⟨q, e1, e2⟩ := F382.loop k m A B C D E K hK R n _ (r + 1) (by omega) h6
     have st4 := st3.trans (bF' c3)
     rw [w] at st4
     exact ⟨q, st4.trans e1, e2⟩
theorem F382.sem (c : Con) (d : List (List Int)) (h : equalRB c d = true) : ∃ r, callW F382.E false F382.fn 100000 [.agg (explode ConT c), .v (.sl (.sl (.int .i64))) d] = some r ∧ WA r (.tup [.v (.sl (.sl (.int .i64))) (equalR c d).1, .v .bool (equalR c d).2]) := by
 have hK : -1099511627776000 ≤ c.2.2.2.2.2.2.1 ∧ c.2.2.2.2.2.2.1 ≤ 1099511627776000 := by
  have h' := h
  unfold equalRB equalOkR at h'
  rw [Bool.and_eq_true] at h'
  exact (byRB_ok h'.1).mo
 obtain ⟨r, e1, e2⟩ := F382.loop 100000 c.1 c.2.1 c.2.2.1 c.2.2.2.1 c.2.2.2.2.1 c.2.2.2.2.2.1 c.2.2.2.2.2.2.1 hK c.2.2.2.2.2.2.2 100000 d 0 (by omega) h
 exact ⟨r, (F382.start_eq 100000 c d).trans e1, e2⟩
end Go.Proofs.YtnojoaghcbljfaaGreatDoor.Ev
