/-
What the functions of names and domains of models answer.
Conditions: as the handlers ask.
-/
import Derived.Test.YtlfdikofmfhefaaGreatDoorIb
import Derived.Test.YtlfdikofmfhefaaGreatDoorHc
import Derived.Test.YtlfdikofmfhefaaGreatDoorAz
import Derived.Test.YtlfdikofmfhefaaGreatDoorAg
import Derived.Test.YtlfdikofmfhefaaGreatDoorAu
set_option linter.unusedVariables false
set_option linter.unusedSimpArgs false
set_option maxRecDepth 100000
namespace Go.Proofs.YtlfdikofmfhefaaGreatDoor.Ev
open Go Go.RowKit
theorem F652.sem (k : Nat) (c : Int) : callW F652.E false F652.fn k [.v (.int .i32) c] = some (.v .bool (letterI c)) := by
 refine (F652.start_eq k c).trans ?_
 unfold letterI
 cases decide (c ≥ 97) <;> cases decide (c ≤ 122) <;> cases decide (c ≥ 65) <;> rfl
theorem F683.sem (k : Nat) (c : Int) : callW F683.E false F683.fn k [.v (.int .i32) c] = some (.v .bool (digitI c)) := by
 refine (F683.start_eq k c).trans ?_
 unfold digitI
 cases decide (c ≥ 48) <;> rfl
theorem F654.sem (k : Nat) (c : Int) : callW F654.E false F654.fn k [.v (.int .i32) c] = some (.v .bool (innerI c)) := by
 refine (F654.start_eq k c).trans ?_
 unfold innerI
 cases letterI c <;> cases digitI c <;> rfl
theorem F663.sem (k : Nat) (c : Int) : callW F663.E false F663.fn k [.v (.int .u8) c] = some (.v .bool (letterI c)) := by
 refine (F663.start_eq k c).trans ?_
 unfold letterI
 cases decide (c ≥ 97) <;> cases decide (c ≤ 122) <;> cases decide (c ≥ 65) <;> rfl
theorem F664.sem (k : Nat) (c : Int) : callW F664.E false F664.fn k [.v (.int .u8) c] = some (.v .bool (digitI c)) := by
 refine (F664.start_eq k c).trans ?_
 unfold digitI
 cases decide (c ≥ 48) <;> rfl
theorem F607.sem (s : ByteArray) (h : s.size ≤ 1000) : callW F607.E false F607.fn 2000 [.v .str s, .v (.int .i64) (0 : Int)] = some (.v (.int .i64) (wordY s)) := by
 refine (F607.start_eq 2000 s 0).trans ?_
 have key : ∀ d i n : Nat, i + d = s.size → d < n → F607.l1_1_0_0 n (F607.kt 2000 [1, 1, 0, 0]) s 0 (i : Int) = some (.v (.int .i64) ((wordYGo s d i : Nat) : Int)) := by
  intro d
  induction d with
  | zero =>
   intro i n h1 h2
   obtain ⟨n, rfl⟩ : ∃ n', n = n' + 1 := ⟨n - 1, by omega⟩
   have w : IntKind.i64.wrap (0 + (i : Int)) = (i : Int) := by rw [Int.zero_add]; exact wrap_ok (by omega) (by omega)
   refine (F607.l1_1_0_0_eq ..).trans ?_
   rw [w]
   exact (bF' (decide_eq_false (by omega))).trans (F607.c1 2000 _)
  | succ d ih =>
   intro i n h1 h2
   obtain ⟨n, rfl⟩ : ∃ n', n = n' + 1 := ⟨n - 1, by omega⟩
   have w : IntKind.i64.wrap (0 + (i : Int)) = (i : Int) := by rw [Int.zero_add]; exact wrap_ok (by omega) (by omega)
   have w2 : IntKind.i64.wrap ((i : Int) + 1) = ((i + 1 : Nat) : Int) := by rw [wrap_ok (by omega) (by omega)]; omega
   have b1 : (decide (0 ≤ (i : Int)) && decide ((i : Int) < (s.size : Int))) = true := by rw [decide_eq_true (by omega), decide_eq_true (show (i : Int) < (s.size : Int) by omega)]; rfl
   refine (F607.l1_1_0_0_eq ..).trans ?_
   rw [w, w2, Int.toNat_natCast]
   refine (bT' (decide_eq_true (by omega))).trans ((bT' b1).trans ((bT' b1).trans ?_))
   have nx := ih (i + 1) n (by omega) (by omega)
   unfold wordYGo
   have di : decide ((i : Int) = 0) = decide (i = 0) := by
    by_cases e : i = 0
    ·rw [decide_eq_true e, decide_eq_true (by omega)]
    ·rw [decide_eq_false e, decide_eq_false (by omega)]
   rw [di]
   cases letterI (byteW s i) with
   | true => exact (bF' rfl).trans (nx.trans (by simp))
   | false =>
    refine (bT' rfl).trans ?_
    by_cases e : i = 0
    ·rw [decide_eq_true e]
     refine (bT' rfl).trans ((F607.c0 2000 _).trans ?_)
     simp
    ·rw [decide_eq_false e]
     refine (bF' rfl).trans ?_
     cases digitI (byteW s i) with
     | true => exact (bF' rfl).trans (nx.trans (by simp))
     | false =>
      refine (bT' rfl).trans ((bT' b1).trans ?_)
      by_cases e2 : byteW s i = 95
      ·rw [decide_eq_true e2]
       exact (bF' rfl).trans (nx.trans (by simp))
      ·rw [decide_eq_false e2]
       refine (bT' rfl).trans ((F607.c0 2000 _).trans ?_)
       simp
 have := key s.size 0 2000 (by omega) (by omega)
 exact this
theorem F549.sem (k : Nat) (s : ByteArray) (h : s.size ≤ 1000) : callW F549.E false F549.fn k [.v .str s] = some (.v .bool (nameY s)) := by
 refine (F549.start_eq k s).trans ((bT' (by rw [Nat.ble_eq_true_of_le h]; rfl)).trans ?_)
 unfold nameY
 cases decide (wordY s > 0) <;> cases decide (wordY s = (s.size : Int)) <;> rfl
theorem wrap32_ok {x : Int} (h1 : -2147483648 ≤ x) (h2 : x ≤ 2147483647) : IntKind.i32.wrap x = x := by rw [IntKind.wrap_i32]; omega
theorem strEq_iff {s t : ByteArray} : strEq s t = true ↔ s = t := by
 unfold strEq
 rw [u8sEq_eq, beq_iff_eq]
 constructor
 ·intro e
  cases s; cases t
  congr 1
  exact Array.ext' e
 ·rintro rfl; rfl
theorem byte_range (s : ByteArray) (i : Nat) : 0 ≤ byteW s i ∧ byteW s i < 256 := by
 unfold byteW
 split
 ·rename_i h
  have := (s[i]'h).toNat_lt
  omega
 ·omega
theorem F596.sem (k : Nat) (s : ByteArray) : callW F596.E false F596.fn k [.v .str s] = some (.v .bool (nameX s)) := by
 refine (F596.start_eq k s).trans ?_
 unfold nameX
 have hb := byte_range s 0
 rw [wrap32_ok (by omega) (by omega)]
 cases e : strEq s ⟨#[]⟩ with
 | true => rfl
 | false =>
  have h0 : 0 < s.size := by
   apply Nat.pos_of_ne_zero
   intro h
   have : s = ⟨#[]⟩ := by
    cases s with
    | mk d =>
     have : d.size = 0 := h
     rw [Array.eq_empty_of_size_eq_zero this]
   rw [strEq_iff.mpr this] at e
   cases e
  refine (bT' rfl).trans ?_
  cases decide ((s.size : Int) ≤ 32) with
  | false => rfl
  | true =>
   refine (bT' rfl).trans ((bT' (decide_eq_true (by omega))).trans ?_)
   cases letterI (byteW s 0) <;> rfl
theorem F70.run (K : Conts) (xs : List Int) (hl : xs.length ≤ 1000) : ∀ (d i n : Nat) (lo hi : Int), i + d = xs.length → d < n → (∀ j, j < i → lo ≤ xs.getD j 0 ∧ xs.getD j 0 ≤ hi) →
  ((∃ j, i ≤ j ∧ j < xs.length ∧ inD (xs.getD j 0) = false) ∧ F70.l1_1_1_1_0_1_0 n K xs lo hi (i : Int) = K.ret ⟨slots 121 [(2, .nl), (3, .v (.int .i64) (3 : Int))], []⟩) ∨
  ((∀ j, i ≤ j → j < xs.length → inD (xs.getD j 0) = true) ∧ ∃ lo' hi', (lo' = lo ∨ lo' ∈ xs) ∧ (hi' = hi ∨ hi' ∈ xs) ∧ (∀ j, j < xs.length → lo' ≤ xs.getD j 0 ∧ xs.getD j 0 ≤ hi') ∧
   F70.l1_1_1_1_0_1_0 n K xs lo hi (i : Int) = exitK K 0 ⟨slots 121 [(0, .v (.sl (.int .i64)) xs), (4, .v (.int .i64) lo'), (5, .v (.int .i64) hi')], []⟩) := by
 intro d
 induction d with
 | zero =>
  intro i n lo hi h1 h2 hp
  obtain ⟨n, rfl⟩ : ∃ n', n = n' + 1 := ⟨n - 1, by omega⟩
  refine .inr ⟨fun j a b => by omega, lo, hi, .inl rfl, .inl rfl, fun j hj => hp j (by omega), ?_⟩
  exact (F70.l1_1_1_1_0_1_0_eq ..).trans (bF' (decide_eq_false (by omega)))
 | succ d ih =>
  intro i n lo hi h1 h2 hp
  obtain ⟨n, rfl⟩ : ∃ n', n = n' + 1 := ⟨n - 1, by omega⟩
  have b1 : (decide (0 ≤ (i : Int)) && decide ((i : Int) < (xs.length : Int))) = true := by rw [decide_eq_true (by omega), decide_eq_true (show (i : Int) < (xs.length : Int) by omega)]; rfl
  have w2 : IntKind.i64.wrap ((i : Int) + 1) = ((i + 1 : Nat) : Int) := by rw [wrap_ok (by omega) (by omega)]; omega
  have hm : xs.getD i 0 ∈ xs := by rw [get_of (by omega)]; exact List.getElem_mem _
  have bad : inD (xs.getD i 0) = false → F70.l1_1_1_1_0_1_0 (n + 1) K xs lo hi (i : Int) = K.ret ⟨slots 121 [(2, .nl), (3, .v (.int .i64) (3 : Int))], []⟩ → ((∃ j, i ≤ j ∧ j < xs.length ∧ inD (xs.getD j 0) = false) ∧ F70.l1_1_1_1_0_1_0 (n + 1) K xs lo hi (i : Int) = K.ret ⟨slots 121 [(2, .nl), (3, .v (.int .i64) (3 : Int))], []⟩) := fun h e => ⟨⟨i, Nat.le_refl _, by omega, h⟩, e⟩
  have st := F70.l1_1_1_1_0_1_0_eq n K xs lo hi (i : Int)
  rw [Int.toNat_natCast, w2] at st
  have st := st.trans ((bT' (decide_eq_true (by omega))).trans (bT' b1))
  by_cases c1 : xs.getD i 0 < -1000000
  ·refine .inl (bad ?_ (st.trans (bT' (decide_eq_true c1))))
   cases e : inD (xs.getD i 0) with
   | false => rfl
   | true => have := inD_iff.mp e; omega
  ·have st := st.trans ((bF' (decide_eq_false c1)).trans (bT' b1))
   by_cases c2 : xs.getD i 0 > 1000000
   ·refine .inl (bad ?_ (st.trans (bT' (decide_eq_true c2))))
    cases e : inD (xs.getD i 0) with
    | false => rfl
    | true => have := inD_iff.mp e; omega
   ·have st := st.trans ((bF' (decide_eq_false c2)).trans (bT' b1))
    have good : inD (xs.getD i 0) = true := inD_iff.mpr (by omega)
    -- the next round
    have go : ∀ lo1 hi1, (lo1 = lo ∨ lo1 ∈ xs) → (hi1 = hi ∨ hi1 ∈ xs) → lo1 ≤ lo → hi ≤ hi1 → lo1 ≤ xs.getD i 0 → xs.getD i 0 ≤ hi1 → F70.l1_1_1_1_0_1_0 (n + 1) K xs lo hi (i : Int) = F70.l1_1_1_1_0_1_0 n K xs lo1 hi1 ((i + 1 : Nat) : Int) →
      ((∃ j, i ≤ j ∧ j < xs.length ∧ inD (xs.getD j 0) = false) ∧ F70.l1_1_1_1_0_1_0 (n + 1) K xs lo hi (i : Int) = K.ret ⟨slots 121 [(2, .nl), (3, .v (.int .i64) (3 : Int))], []⟩) ∨
      ((∀ j, i ≤ j → j < xs.length → inD (xs.getD j 0) = true) ∧ ∃ lo' hi', (lo' = lo ∨ lo' ∈ xs) ∧ (hi' = hi ∨ hi' ∈ xs) ∧ (∀ j, j < xs.length → lo' ≤ xs.getD j 0 ∧ xs.getD j 0 ≤ hi') ∧
       F70.l1_1_1_1_0_1_0 (n + 1) K xs lo hi (i : Int) = exitK K 0 ⟨slots 121 [(0, .v (.sl (.int .i64)) xs), (4, .v (.int .i64) lo'), (5, .v (.int .i64) hi')], []⟩) := by
     intro lo1 hi1 m1 m2 l1 l2 l3 l4 e
     rcases ih (i + 1) n lo1 hi1 (by omega) (by omega) (fun j hj => by
      by_cases q : j = i
      ·subst q; exact ⟨l3, l4⟩
      ·have := hp j (by omega); omega) with ⟨⟨j, a1, a2, a3⟩, e2⟩ | ⟨a1, lo', hi', a2, a3, a4, e2⟩
     ·exact .inl ⟨⟨j, by omega, a2, a3⟩, e.trans e2⟩
     ·refine .inr ⟨fun j h1 h2 => ?_, lo', hi', ?_, ?_, a4, e.trans e2⟩
      ·by_cases q : j = i
       ·subst q; exact good
       ·exact a1 j (by omega) h2
      ·rcases a2 with rfl | h
       ·exact m1
       ·exact .inr h
      ·rcases a3 with rfl | h
       ·exact m2
       ·exact .inr h
    by_cases c3 : xs.getD i 0 < lo
    ·have st := st.trans ((bT' (decide_eq_true c3)).trans ((bT' b1).trans (bT' b1)))
     by_cases c4 : xs.getD i 0 > hi
     ·exact go _ _ (.inr hm) (.inr hm) (by omega) (by omega) (by omega) (by omega) (st.trans ((bT' (decide_eq_true c4)).trans (bT' b1)))
     ·exact go _ _ (.inr hm) (.inl rfl) (by omega) (by omega) (by omega) (by omega) (st.trans (bF' (decide_eq_false c4)))
    ·have st := st.trans ((bF' (decide_eq_false c3)).trans (bT' b1))
     by_cases c4 : xs.getD i 0 > hi
     ·exact go _ _ (.inl rfl) (.inr hm) (by omega) (by omega) (by omega) (by omega) (st.trans ((bT' (decide_eq_true c4)).trans (bT' b1)))
     ·exact go _ _ (.inl rfl) (.inl rfl) (by omega) (by omega) (by omega) (by omega) (st.trans (bF' (decide_eq_false c4)))
theorem F70.semA (xs : List Int) (hl : xs.length ≤ 1000) : ∃ r, callW F70.E false F70.fn (xs.length + 2000) [.v (.sl (.int .i64)) xs] = some r ∧ WA r (.tup [.v (.sl (.int .i64)) (refL xs), .v (.int .i64) (refE xs)]) := by
 cases hok : okL xs with
 | true =>
  refine ⟨_, F70.sem xs hok hl, ?_⟩
  unfold refL refE
  rw [hok]
  exact .tup (.cons (.one (by simp) (.same _)) (.cons (.one (by simp) (.same _)) .nil))
 | false =>
  have nl : ∀ e : Int, refE xs = e → WA (.tup [.nl, .v (.int .i64) e]) (.tup [.v (.sl (.int .i64)) (refL xs), .v (.int .i64) (refE xs)]) := fun e he => by
   have h1 : refL xs = [] := by unfold refL; rw [hok]; rfl
   rw [h1, he]
   exact .tup (.cons (.one (by simp) (.nl _)) (.cons (.one (by simp) (.same _)) .nil))
  by_cases h0 : xs.length = 0
  ·refine ⟨_, (F70.start_eq _ xs).trans (bT' (decide_eq_true (by omega))), nl 4 ?_⟩
   unfold refE
   rw [hok, if_pos h0]
   rfl
  ·have st := (F70.start_eq (xs.length + 2000) xs).trans ((bF' (decide_eq_false (by omega))).trans ((bT' (decide_eq_true (by omega))).trans (bT' (decide_eq_true (by omega)))))
   have hm : xs.getD 0 0 ∈ xs := by rw [get_of (by omega)]; exact List.getElem_mem _
   rcases F70.run (F70.kt (xs.length + 2000) [1, 1, 1, 1, 0, 1, 0]) xs hl xs.length 0 (xs.length + 2000) (xs.getD 0 0) (xs.getD 0 0) (by omega) (by omega) (fun j hj => by omega) with ⟨⟨j, _, a2, a3⟩, e⟩ | ⟨a1, lo, hi, a2, a3, a4, e⟩
   ·refine ⟨_, st.trans (e.trans (F70.c0 _ _)), nl 3 ?_⟩
    unfold refE
    have : xs.any outD = true := by
     rw [List.any_eq_true]
     refine ⟨xs.getD j 0, by rw [get_of a2]; exact List.getElem_mem _, ?_⟩
     unfold outD
     rw [a3]
     rfl
    rw [hok, if_neg h0, if_pos this]
    rfl
   ·have hne : xs ≠ [] := fun q => h0 (by rw [q]; rfl)
    have hlo : lo ∈ xs := by
     rcases a2 with rfl | h
     ·exact hm
     ·exact h
    have hhi : hi ∈ xs := by
     rcases a3 with rfl | h
     ·exact hm
     ·exact h
    have hin : ∀ v ∈ xs, inD v = true := fun v hv => by
     obtain ⟨j, hj, rfl⟩ := List.getElem_of_mem hv
     rw [← get_of hj]
     exact a1 j (by omega) hj
    have r1 := inD_iff.mp (hin _ hlo)
    have r2 := inD_iff.mp (hin _ hhi)
    have hw : ¬ maxL xs - minL xs < 65536 := fun q => by rw [okL_iff.mpr ⟨hne, hin, q⟩] at hok; cases hok
    have m1 : maxL xs ≤ hi := by
     obtain ⟨j, hj, e⟩ := List.getElem_of_mem (maxL_spec hne).2
     rw [← e, ← get_of hj]
     exact (a4 j hj).2
    have m2 : lo ≤ minL xs := by
     obtain ⟨j, hj, e⟩ := List.getElem_of_mem (minL_spec hne).2
     rw [← e, ← get_of hj]
     exact (a4 j hj).1
    refine ⟨_, st.trans (e.trans ((F70.c1 _ _ _ _).trans (bT' ?_))), nl 5 ?_⟩
    ·rw [wrap_ok (by omega) (by omega)]
     exact decide_eq_true (by omega)
    ·unfold refE
     have : xs.any outD = false := by
      rw [List.any_eq_false]
      intro v hv
      unfold outD
      rw [hin v hv]
      decide
     rw [hok, if_neg h0, this]
     rfl
theorem ofD_zero (l : List Int) : (ofD l).2 = 0 ↔ okL l = true := by
 constructor
 ·intro h
  unfold ofD at h
  by_cases h0 : l.length = 0
  ·rw [if_pos h0] at h; cases h
  ·rw [if_neg h0] at h
   by_cases h1 : l.any outD = true
   ·rw [if_pos h1] at h; cases h
   ·rw [if_neg h1] at h
    by_cases h2 : maxL l - minL l ≥ 65536
    ·rw [if_pos h2] at h; cases h
    ·refine okL_iff.mpr ⟨fun e => h0 (by rw [e]; rfl), fun v hv => ?_, by omega⟩
     cases e : inD v with
     | true => rfl
     | false =>
      refine absurd (List.any_eq_true.mpr ⟨v, hv, ?_⟩) h1
      unfold outD
      rw [e]
      rfl
 ·intro h
  rw [ofD_ok h]
theorem F597.sem (k : Nat) (l : List Int) : callW F597.E false F597.fn k [.v (.sl (.int .i64)) l] = some (.v .bool (listedX l)) := by
 refine (F597.start_eq k l).trans ?_
 unfold listedX
 by_cases h : (ofD l).2 = 0
 ·rw [decide_eq_true h]
  refine (bT' rfl).trans ((bT' (listB_of ((ofD_zero l).mp h))).trans ?_)
  rfl
 ·rw [decide_eq_false h]
  rfl
theorem listed_same (l : List Int) : listedX l = (decide (refE l = 0) && eqL (refL l) l) := by
 unfold listedX
 cases h : okL l with
 | true =>
  rw [decide_eq_true ((ofD_zero l).mpr h), decide_eq_true (show refE l = 0 by unfold refE; rw [h]; rfl)]
  have e : refL l = listD (ofD l).1 := by
   unfold refL
   rw [h]
   have s := refGo_spec l [] List.Pairwise.nil
   exact rising_ext s.1 (list_ofD h).2 fun v => by
    rw [(list_ofD h).1 v]
    have := s.2.1 v
    show v ∈ refGo l [] ↔ v ∈ l
    simpa using this
  rw [e]
 | false =>
  have h1 : decide ((ofD l).2 = 0) = false := decide_eq_false fun q => by rw [(ofD_zero l).mp q] at h; cases h
  have h2 : decide (refE l = 0) = false := decide_eq_false fun q => by
   unfold refE at q
   rw [h] at q
   by_cases h0 : l.length = 0
   ·simp [h0] at q
   ·simp [h0] at q
    split at q <;> cases q
  rw [h1, h2]
  rfl
theorem F548.sem (k : Nat) (m : ModelP) (h : m.1.length ≤ 2000) : callW F548.E false F548.fn k [.agg [.v (.sl .str) m.1, .v (.sl (.sl (.int .i64))) m.2.1, .v (.sl ConT) m.2.2.1, .v (.int .i64) m.2.2.2.1, .v (.int .i64) m.2.2.2.2]] = some (.v .bool (goalX m)) := by
 refine (F548.start_eq k ..).trans ?_
 unfold goalX
 rw [wrap_ok (x := (m.1.length : Int) - 1) (by omega) (by omega)]
 cases decide (m.2.2.2.1 = 0) <;> cases withinD m.2.2.2.1 1 2 <;> rfl
theorem F551.sem (a b : List Int) (h : a.length ≤ 1000) : callW F551.E false F551.fn 2000 [.v (.sl (.int .i64)) a, .v (.sl (.int .i64)) b] = some (.v .bool (eqL a b)) := by
 have ec : ∀ (x y : Int) (s t : List Int), eqL (x :: s) (y :: t) = if x = y then eqL s t else false := fun x y s t => by
  unfold eqL
  by_cases h : x = y
  ·rw [if_pos h, h]
   congr 1
   simp
  ·rw [if_neg h]
   exact decide_eq_false fun e => h (List.cons.inj e).1
 refine (F551.start_eq 2000 a b).trans ?_
 by_cases hl : (a.length : Int) = (b.length : Int)
 ·refine (bF' (by rw [decide_eq_true hl]; rfl)).trans ?_
  have key : ∀ d i n : Nat, i + d = a.length → d < n → F551.l1_1_0_1_0 n (F551.kt 2000 [1, 1, 0, 1, 0]) a b (i : Int) = some (.v .bool (eqL (a.drop i) (b.drop i))) := by
   intro d
   induction d with
   | zero =>
    intro i n h1 h2
    obtain ⟨n', rfl⟩ : ∃ n', n = n' + 1 := ⟨n - 1, by omega⟩
    obtain rfl : i = a.length := by omega
    refine (F551.l1_1_0_1_0_eq ..).trans (self_lt'.trans ((F551.c1 2000).trans ?_))
    have e : b.drop a.length = [] := List.drop_of_length_le (by omega)
    rw [List.drop_length, e]
    rfl
   | succ d ih =>
    intro i n h1 h2
    obtain ⟨n', rfl⟩ : ∃ n', n = n' + 1 := ⟨n - 1, by omega⟩
    have hi : i < a.length := by omega
    have hb : i < b.length := by omega
    have w : IntKind.i64.wrap ((i : Int) + 1) = ((i + 1 : Nat) : Int) := by rw [wrap_ok (by omega) (by omega)]; omega
    refine (F551.l1_1_0_1_0_eq ..).trans ((bT' (lt_natG hi)).trans ((bT' (in_natG hi)).trans ((bT' (in_natG hb)).trans ?_)))
    rw [Int.toNat_natCast, w, drop_getD hi 0, drop_getD hb 0, ec]
    by_cases e : a.getD i 0 = b.getD i 0
    ·rw [if_pos e]
     exact (bF' (by rw [decide_eq_true e]; rfl)).trans (ih (i + 1) n' (by omega) (by omega))
    ·rw [if_neg e]
     exact (bT' (by rw [decide_eq_false e]; rfl)).trans (F551.c0 2000)
  exact key a.length 0 2000 (by omega) (by omega)
 ·refine (bT' (by rw [decide_eq_false hl]; rfl)).trans ?_
  have : eqL a b = false := decide_eq_false fun e => hl (by rw [e])
  rw [this]
theorem F652.eok : EOk Go.Proofs.Tryz.prog F652.E := eo calls_nil
theorem ok652 : HandOk Go.Proofs.Tryz.prog inv 97 h_letterI := hand_un fun xs => callW_ok (own := false) (k := 1) F652.eok mixed Go.Proofs.Tryz.func97 (by kernel_rfl) (show Go.Proofs.Tryz.f97.body = some (bodyOf Go.Proofs.Tryz.f97) by kernel_rfl) (F652.sem 1 xs.1)
theorem F683.eok : EOk Go.Proofs.Tryz.prog F683.E := eo calls_nil
theorem ok683 : HandOk Go.Proofs.Tryz.prog inv 131 h_digitI := hand_un fun xs => callW_ok (own := false) (k := 1) F683.eok mixed Go.Proofs.Tryz.func131 (by kernel_rfl) (show Go.Proofs.Tryz.f131.body = some (bodyOf Go.Proofs.Tryz.f131) by kernel_rfl) (F683.sem 1 xs.1)
theorem F654.eok : EOk Go.Proofs.Tryz.prog F654.E := eo (calls_cons ok652 (calls_cons ok683 calls_nil))
theorem F663.eok : EOk Go.Proofs.Tryz.prog F663.E := eo calls_nil
theorem ok663 : HandOk Go.Proofs.Tryz.prog inv 110 h_letterB := hand_un fun xs => callW_ok (own := false) (k := 1) F663.eok mixed Go.Proofs.Tryz.func110 (by kernel_rfl) (show Go.Proofs.Tryz.f110.body = some (bodyOf Go.Proofs.Tryz.f110) by kernel_rfl) (F663.sem 1 xs.1)
theorem F664.eok : EOk Go.Proofs.Tryz.prog F664.E := eo calls_nil
theorem ok664 : HandOk Go.Proofs.Tryz.prog inv 111 h_digitB := hand_un fun xs => callW_ok (own := false) (k := 1) F664.eok mixed Go.Proofs.Tryz.func111 (by kernel_rfl) (show Go.Proofs.Tryz.f111.body = some (bodyOf Go.Proofs.Tryz.f111) by kernel_rfl) (F664.sem 1 xs.1)
theorem F607.eok : EOk Go.Proofs.Tryz.prog F607.E := eo (calls_cons ok663 (calls_cons ok664 calls_nil))
theorem ok607 : HandOk Go.Proofs.Tryz.prog inv 61 h_wordY := hand_if fun xs hc => by
 obtain ⟨s, a, u⟩ := xs
 have hc2 := (Bool.and_eq_true _ _).mp hc
 have ha : @Eq Int a 0 := (fun (b : Int) (h : zeroI b = true) => of_decide_eq_true h) a hc2.1
 obtain rfl : (0 : Int) = a := ha.symm
 exact callW_ok (own := false) (k := 2000) F607.eok mixed Go.Proofs.Tryz.func61 (by kernel_rfl) (show Go.Proofs.Tryz.f61.body = some (bodyOf Go.Proofs.Tryz.f61) by kernel_rfl) (F607.sem s (Nat.le_of_ble_eq_true hc2.2))
theorem F549.eok : EOk Go.Proofs.Tryz.prog F549.E := eo (calls_cons ok607 calls_nil)
theorem ok549 : HandOk Go.Proofs.Tryz.prog inv 25 h_nameY := hand_if fun xs hc => callW_ok (own := false) (k := 1) F549.eok mixed Go.Proofs.Tryz.func25 (by kernel_rfl) (show Go.Proofs.Tryz.f25.body = some (bodyOf Go.Proofs.Tryz.f25) by kernel_rfl) (F549.sem 1 xs.1 (Nat.le_of_ble_eq_true hc))
theorem ok70A : HandOk Go.Proofs.Tryz.prog inv 26 h_refA := hand_if fun xs hc => by
 obtain ⟨r, h1, h2⟩ := F70.semA xs.1 (Nat.le_of_ble_eq_true hc)
 exact spec_weak h2 (callW_ok (own := false) (k := xs.1.length + 2000) F70.eok mixed Go.Proofs.Tryz.func26 (by kernel_rfl) (show Go.Proofs.Tryz.f26.body = some (bodyOf Go.Proofs.Tryz.f26) by kernel_rfl) (h1))
theorem F597.eok : EOk Go.Proofs.Tryz.prog F597.E := eo (calls_cons ok47 (calls_cons ok50 (calls_cons ok29 calls_nil)))
theorem F548.eok : EOk Go.Proofs.Tryz.prog F548.E := eo (calls_cons ok105 calls_nil)
theorem ok548 : HandOk Go.Proofs.Tryz.prog inv 24 h_goalX := hand_if fun xs hc => callW_ok (own := false) (k := 1) F548.eok mixed Go.Proofs.Tryz.func24 (by kernel_rfl) (show Go.Proofs.Tryz.f24.body = some (bodyOf Go.Proofs.Tryz.f24) by kernel_rfl) (F548.sem 1 xs.1 (Nat.le_of_ble_eq_true hc))
theorem F551.eok : EOk Go.Proofs.Tryz.prog F551.E := eo calls_nil
theorem ok551 : HandOk Go.Proofs.Tryz.prog inv 27 h_sameL := hand_if fun xs hc => callW_ok (own := false) (k := 2000) F551.eok mixed Go.Proofs.Tryz.func27 (by kernel_rfl) (show Go.Proofs.Tryz.f27.body = some (bodyOf Go.Proofs.Tryz.f27) by kernel_rfl) (F551.sem xs.1 xs.2.1 (Nat.le_of_ble_eq_true hc))
end Go.Proofs.YtlfdikofmfhefaaGreatDoor.Ev
