/-
What the functions of names and domains of models answer.
Conditions: as the handlers ask.
lex.run with lex.inner: how many bytes a word has (a range over a string, walked by hand).
Conditions: none.
model.variables: a map that the call makes (walked by hand): which names and domains may not be.
Conditions: as many domains as names, at most 2000; names of at most 1000 bytes.
-/
import Derived.Test.YtlfdikofmfhefaaGreatDoorIb
import Derived.Test.YtlfdikofmfhefaaGreatDoorHc
import Derived.Test.YtlfdikofmfhefaaGreatDoorAz
import Derived.Test.YtlfdikofmfhefaaGreatDoorAg
import Derived.Test.YtlfdikofmfhefaaGreatDoorAu
import Derived.WalkKit
import Derived.LoopTactic
import Derived.Laws.RangeAny
import Derived.Lib.OthersKept
import Derived.Test.YtlfdikofmfhefaaGreatDoorProg
import Derived.Maps.Own
import Derived.Maps.OwnOps
import Derived.Maps.Views
import Derived.StringKeys
set_option linter.unusedVariables false
set_option linter.unusedSimpArgs false
set_option maxRecDepth 100000
namespace Go.Proofs.YtlfdikofmfhefaaGreatDoor.Ev
open Go Go.RowKit
theorem F652.sem (k : Nat) (c : Int) : callW F652.E false F652.fn k [.v (.int .i32) c] = some (.v .bool (letterI c)) := by
 refine (F652.start_eq k c).trans ?_
 unfold letterI
 cases decide (c ≥ 97) <;> cases decide (c ≤ 122) <;> cases decide (c ≥ 65) <;> rfl
theorem F683.sem (k : Nat) (c : Int) : callW F683.E false F683.fn k [.v (.int .i32) c] = some (.v .bool (digitI c)) := by
 refine (F683.start_eq k c).trans ?_
 unfold digitI
 cases decide (c ≥ 48) <;> rfl
theorem F654.sem (k : Nat) (c : Int) : callW F654.E false F654.fn k [.v (.int .i32) c] = some (.v .bool (innerI c)) := by
 refine (F654.start_eq k c).trans ?_
 unfold innerI
 cases letterI c <;> cases digitI c <;> rfl
theorem F663.sem (k : Nat) (c : Int) : callW F663.E false F663.fn k [.v (.int .u8) c] = some (.v .bool (letterI c)) := by
 refine (F663.start_eq k c).trans ?_
 unfold letterI
 cases decide (c ≥ 97) <;> cases decide (c ≤ 122) <;> cases decide (c ≥ 65) <;> rfl
theorem F664.sem (k : Nat) (c : Int) : callW F664.E false F664.fn k [.v (.int .u8) c] = some (.v .bool (digitI c)) := by
 refine (F664.start_eq k c).trans ?_
 unfold digitI
 cases decide (c ≥ 48) <;> rfl
theorem F607.sem (s : ByteArray) (h : s.size ≤ 1000) : callW F607.E false F607.fn 2000 [.v .str s, .v (.int .i64) (0 : Int)] = some (.v (.int .i64) (wordY s)) := by
 refine (F607.start_eq 2000 s 0).trans ?_
 have key : ∀ d i n : Nat, i + d = s.size → d < n → F607.l1_1_0_0 n (F607.kt 2000 [1, 1, 0, 0]) s 0 (i : Int) = some (.v (.int .i64) ((wordYGo s d i : Nat) : Int)) := by
  intro d
  induction d with
  | zero =>
   intro i n h1 h2
   obtain ⟨n, rfl⟩ : ∃ n', n = n' + 1 := ⟨n - 1, by omega⟩
   have w : IntKind.i64.wrap (0 + (i : Int)) = (i : Int) := by rw [Int.zero_add]; exact wrap_ok (by omega) (by omega)
   refine (F607.l1_1_0_0_eq ..).trans ?_
   rw [w]
   exact (bF' (decide_eq_false (by omega))).trans (F607.c1 2000 _)
  | succ d ih =>
   intro i n h1 h2
   obtain ⟨n, rfl⟩ : ∃ n', n = n' + 1 := ⟨n - 1, by omega⟩
   have w : IntKind.i64.wrap (0 + (i : Int)) = (i : Int) := by rw [Int.zero_add]; exact wrap_ok (by omega) (by omega)
   have w2 : IntKind.i64.wrap ((i : Int) + 1) = ((i + 1 : Nat) : Int) := by rw [wrap_ok (by omega) (by omega)]; omega
   have b1 : (decide (0 ≤ (i : Int)) && decide ((i : Int) < (s.size : Int))) = true := by rw [decide_eq_true (by omega), decide_eq_true (show (i : Int) < (s.size : Int) by omega)]; rfl
   refine (F607.l1_1_0_0_eq ..).trans ?_
   rw [w, w2, Int.toNat_natCast]
   refine (bT' (decide_eq_true (by omega))).trans ((bT' b1).trans ((bT' b1).trans ?_))
   have nx := ih (i + 1) n (by omega) (by omega)
   unfold wordYGo
   have di : decide ((i : Int) = 0) = decide (i = 0) := by
    by_cases e : i = 0
    ·rw [decide_eq_true e, decide_eq_true (by omega)]
    ·rw [decide_eq_false e, decide_eq_false (by omega)]
   rw [di]
   cases letterI (byteW s i) with
   | true => exact (bF' rfl).trans (nx.trans (by simp))
   | false =>
    refine (bT' rfl).trans ?_
    by_cases e : i = 0
    ·rw [decide_eq_true e]
     refine (bT' rfl).trans ((F607.c0 2000 _).trans ?_)
     simp
    ·rw [decide_eq_false e]
     refine (bF' rfl).trans ?_
     cases digitI (byteW s i) with
     | true => exact (bF' rfl).trans (nx.trans (by simp))
     | false =>
      refine (bT' rfl).trans ((bT' b1).trans ?_)
      by_cases e2 : byteW s i = 95
      ·rw [decide_eq_true e2]
       exact (bF' rfl).trans (nx.trans (by simp))
      ·rw [decide_eq_false e2]
       refine (bT' rfl).trans ((F607.c0 2000 _).trans ?_)
       simp
 have := key s.size 0 2000 (by omega) (by omega)
 exact this
theorem F549.sem (k : Nat) (s : ByteArray) (h : s.size ≤ 1000) : callW F549.E false F549.fn k [.v .str s] = some (.v .bool (nameY s)) := by
 refine (F549.start_eq k s).trans ((bT' (by rw [Nat.ble_eq_true_of_le h]; rfl)).trans ?_)
 unfold nameY
 cases decide (wordY s > 0) <;> cases decide (wordY s = (s.size : Int)) <;> rfl
theorem wrap32_ok {x : Int} (h1 : -2147483648 ≤ x) (h2 : x ≤ 2147483647) : IntKind.i32.wrap x = x := by rw [IntKind.wrap_i32]; omega
theorem strEq_iff {s t : ByteArray} : strEq s t = true ↔ s = t := by
 unfold strEq
 rw [u8sEq_eq, beq_iff_eq]
 constructor
 ·intro e
  cases s; cases t
  congr 1
  exact Array.ext' e
 ·rintro rfl; rfl
theorem byte_range (s : ByteArray) (i : Nat) : 0 ≤ byteW s i ∧ byteW s i < 256 := by
 unfold byteW
 split
 ·rename_i h
  have := (s[i]'h).toNat_lt
  omega
 ·omega
theorem F596.sem (k : Nat) (s : ByteArray) : callW F596.E false F596.fn k [.v .str s] = some (.v .bool (nameX s)) := by
 refine (F596.start_eq k s).trans ?_
 unfold nameX
 have hb := byte_range s 0
 rw [wrap32_ok (by omega) (by omega)]
 cases e : strEq s ⟨#[]⟩ with
 | true => rfl
 | false =>
  have h0 : 0 < s.size := by
   apply Nat.pos_of_ne_zero
   intro h
   have : s = ⟨#[]⟩ := by
    cases s with
    | mk d =>
     have : d.size = 0 := h
     rw [Array.eq_empty_of_size_eq_zero this]
   rw [strEq_iff.mpr this] at e
   cases e
  refine (bT' rfl).trans ?_
  cases decide ((s.size : Int) ≤ 32) with
  | false => rfl
  | true =>
   refine (bT' rfl).trans ((bT' (decide_eq_true (by omega))).trans ?_)
   cases letterI (byteW s 0) <;> rfl
theorem F70.run (K : Conts) (xs : List Int) (hl : xs.length ≤ 1000) : ∀ (d i n : Nat) (lo hi : Int), i + d = xs.length → d < n → (∀ j, j < i → lo ≤ xs.getD j 0 ∧ xs.getD j 0 ≤ hi) →
  ((∃ j, i ≤ j ∧ j < xs.length ∧ inD (xs.getD j 0) = false) ∧ F70.l1_1_1_1_0_1_0 n K xs lo hi (i : Int) = K.ret ⟨slots 121 [(2, .nl), (3, .v (.int .i64) (3 : Int))], []⟩) ∨
  ((∀ j, i ≤ j → j < xs.length → inD (xs.getD j 0) = true) ∧ ∃ lo' hi', (lo' = lo ∨ lo' ∈ xs) ∧ (hi' = hi ∨ hi' ∈ xs) ∧ (∀ j, j < xs.length → lo' ≤ xs.getD j 0 ∧ xs.getD j 0 ≤ hi') ∧
   F70.l1_1_1_1_0_1_0 n K xs lo hi (i : Int) = exitK K 0 ⟨slots 121 [(0, .v (.sl (.int .i64)) xs), (4, .v (.int .i64) lo'), (5, .v (.int .i64) hi')], []⟩) := by
 intro d
 induction d with
 | zero =>
  intro i n lo hi h1 h2 hp
  obtain ⟨n, rfl⟩ : ∃ n', n = n' + 1 := ⟨n - 1, by omega⟩
  refine .inr ⟨fun j a b => by omega, lo, hi, .inl rfl, .inl rfl, fun j hj => hp j (by omega), ?_⟩
  exact (F70.l1_1_1_1_0_1_0_eq ..).trans (bF' (decide_eq_false (by omega)))
 | succ d ih =>
  intro i n lo hi h1 h2 hp
  obtain ⟨n, rfl⟩ : ∃ n', n = n' + 1 := ⟨n - 1, by omega⟩
  have b1 : (decide (0 ≤ (i : Int)) && decide ((i : Int) < (xs.length : Int))) = true := by rw [decide_eq_true (by omega), decide_eq_true (show (i : Int) < (xs.length : Int) by omega)]; rfl
  have w2 : IntKind.i64.wrap ((i : Int) + 1) = ((i + 1 : Nat) : Int) := by rw [wrap_ok (by omega) (by omega)]; omega
  have hm : xs.getD i 0 ∈ xs := by rw [get_of (by omega)]; exact List.getElem_mem _
  have bad : inD (xs.getD i 0) = false → F70.l1_1_1_1_0_1_0 (n + 1) K xs lo hi (i : Int) = K.ret ⟨slots 121 [(2, .nl), (3, .v (.int .i64) (3 : Int))], []⟩ → ((∃ j, i ≤ j ∧ j < xs.length ∧ inD (xs.getD j 0) = false) ∧ F70.l1_1_1_1_0_1_0 (n + 1) K xs lo hi (i : Int) = K.ret ⟨slots 121 [(2, .nl), (3, .v (.int .i64) (3 : Int))], []⟩) := fun h e => ⟨⟨i, Nat.le_refl _, by omega, h⟩, e⟩
  have st := F70.l1_1_1_1_0_1_0_eq n K xs lo hi (i : Int)
  rw [Int.toNat_natCast, w2] at st
  have st := st.trans ((bT' (decide_eq_true (by omega))).trans (bT' b1))
  by_cases c1 : xs.getD i 0 < -1000000
  ·refine .inl (bad ?_ (st.trans (bT' (decide_eq_true c1))))
   cases e : inD (xs.getD i 0) with
   | false => rfl
   | true => have := inD_iff.mp e; omega
  ·have st := st.trans ((bF' (decide_eq_false c1)).trans (bT' b1))
   by_cases c2 : xs.getD i 0 > 1000000
   ·refine .inl (bad ?_ (st.trans (bT' (decide_eq_true c2))))
    cases e : inD (xs.getD i 0) with
    | false => rfl
    | true => have := inD_iff.mp e; omega
   ·have st := st.trans ((bF' (decide_eq_false c2)).trans (bT' b1))
    have good : inD (xs.getD i 0) = true := inD_iff.mpr (by omega)
    -- the next round
    have go : ∀ lo1 hi1, (lo1 = lo ∨ lo1 ∈ xs) → (hi1 = hi ∨ hi1 ∈ xs) → lo1 ≤ lo → hi ≤ hi1 → lo1 ≤ xs.getD i 0 → xs.getD i 0 ≤ hi1 → F70.l1_1_1_1_0_1_0 (n + 1) K xs lo hi (i : Int) = F70.l1_1_1_1_0_1_0 n K xs lo1 hi1 ((i + 1 : Nat) : Int) →
      ((∃ j, i ≤ j ∧ j < xs.length ∧ inD (xs.getD j 0) = false) ∧ F70.l1_1_1_1_0_1_0 (n + 1) K xs lo hi (i : Int) = K.ret ⟨slots 121 [(2, .nl), (3, .v (.int .i64) (3 : Int))], []⟩) ∨
      ((∀ j, i ≤ j → j < xs.length → inD (xs.getD j 0) = true) ∧ ∃ lo' hi', (lo' = lo ∨ lo' ∈ xs) ∧ (hi' = hi ∨ hi' ∈ xs) ∧ (∀ j, j < xs.length → lo' ≤ xs.getD j 0 ∧ xs.getD j 0 ≤ hi') ∧
       F70.l1_1_1_1_0_1_0 (n + 1) K xs lo hi (i : Int) = exitK K 0 ⟨slots 121 [(0, .v (.sl (.int .i64)) xs), (4, .v (.int .i64) lo'), (5, .v (.int .i64) hi')], []⟩) := by
     intro lo1 hi1 m1 m2 l1 l2 l3 l4 e
     rcases ih (i + 1) n lo1 hi1 (by omega) (by omega) (fun j hj => by
      by_cases q : j = i
      ·subst q; exact ⟨l3, l4⟩
      ·have := hp j (by omega); omega) with ⟨⟨j, a1, a2, a3⟩, e2⟩ | ⟨a1, lo', hi', a2, a3, a4, e2⟩
     ·exact .inl ⟨⟨j, by omega, a2, a3⟩, e.trans e2⟩
     ·refine .inr ⟨fun j h1 h2 => ?_, lo', hi', ?_, ?_, a4, e.trans e2⟩
      ·by_cases q : j = i
       ·subst q; exact good
       ·exact a1 j (by omega) h2
      ·rcases a2 with rfl | h
       ·exact m1
       ·exact .inr h
      ·rcases a3 with rfl | h
       ·exact m2
       ·exact .inr h
    by_cases c3 : xs.getD i 0 < lo
    ·have st := st.trans ((bT' (decide_eq_true c3)).trans ((bT' b1).trans (bT' b1)))
     by_cases c4 : xs.getD i 0 > hi
     ·exact go _ _ (.inr hm) (.inr hm) (by omega) (by omega) (by omega) (by omega) (st.trans ((bT' (decide_eq_true c4)).trans (bT' b1)))
     ·exact go _ _ (.inr hm) (.inl rfl) (by omega) (by omega) (by omega) (by omega) (st.trans (bF' (decide_eq_false c4)))
    ·have st := st.trans ((bF' (decide_eq_false c3)).trans (bT' b1))
     by_cases c4 : xs.getD i 0 > hi
     ·exact go _ _ (.inl rfl) (.inr hm) (by omega) (by omega) (by omega) (by omega) (st.trans ((bT' (decide_eq_true c4)).trans (bT' b1)))
     ·exact go _ _ (.inl rfl) (.inl rfl) (by omega) (by omega) (by omega) (by omega) (st.trans (bF' (decide_eq_false c4)))
theorem F70.semA (xs : List Int) (hl : xs.length ≤ 1000) : ∃ r, callW F70.E false F70.fn (xs.length + 2000) [.v (.sl (.int .i64)) xs] = some r ∧ WA r (.tup [.v (.sl (.int .i64)) (refL xs), .v (.int .i64) (refE xs)]) := by
 cases hok : okL xs with
 | true =>
  refine ⟨_, F70.sem xs hok hl, ?_⟩
  unfold refL refE
  rw [hok]
  exact .tup (.cons (.one (by simp) (.same _)) (.cons (.one (by simp) (.same _)) .nil))
 | false =>
  have nl : ∀ e : Int, refE xs = e → WA (.tup [.nl, .v (.int .i64) e]) (.tup [.v (.sl (.int .i64)) (refL xs), .v (.int .i64) (refE xs)]) := fun e he => by
   have h1 : refL xs = [] := by unfold refL; rw [hok]; rfl
   rw [h1, he]
   exact .tup (.cons (.one (by simp) (.nl _)) (.cons (.one (by simp) (.same _)) .nil))
  by_cases h0 : xs.length = 0
  ·refine ⟨_, (F70.start_eq _ xs).trans (bT' (decide_eq_true (by omega))), nl 4 ?_⟩
   unfold refE
   rw [hok, if_pos h0]
   rfl
  ·have st := (F70.start_eq (xs.length + 2000) xs).trans ((bF' (decide_eq_false (by omega))).trans ((bT' (decide_eq_true (by omega))).trans (bT' (decide_eq_true (by omega)))))
   have hm : xs.getD 0 0 ∈ xs := by rw [get_of (by omega)]; exact List.getElem_mem _
   rcases F70.run (F70.kt (xs.length + 2000) [1, 1, 1, 1, 0, 1, 0]) xs hl xs.length 0 (xs.length + 2000) (xs.getD 0 0) (xs.getD 0 0) (by omega) (by omega) (fun j hj => by omega) with ⟨⟨j, _, a2, a3⟩, e⟩ | ⟨a1, lo, hi, a2, a3, a4, e⟩
   ·refine ⟨_, st.trans (e.trans (F70.c0 _ _)), nl 3 ?_⟩
    unfold refE
    have : xs.any outD = true := by
     rw [List.any_eq_true]
     refine ⟨xs.getD j 0, by rw [get_of a2]; exact List.getElem_mem _, ?_⟩
     unfold outD
     rw [a3]
     rfl
    rw [hok, if_neg h0, if_pos this]
    rfl
   ·have hne : xs ≠ [] := fun q => h0 (by rw [q]; rfl)
    have hlo : lo ∈ xs := by
     rcases a2 with rfl | h
     ·exact hm
     ·exact h
    have hhi : hi ∈ xs := by
     rcases a3 with rfl | h
     ·exact hm
     ·exact h
    have hin : ∀ v ∈ xs, inD v = true := fun v hv => by
     obtain ⟨j, hj, rfl⟩ := List.getElem_of_mem hv
     rw [← get_of hj]
     exact a1 j (by omega) hj
    have r1 := inD_iff.mp (hin _ hlo)
    have r2 := inD_iff.mp (hin _ hhi)
    have hw : ¬ maxL xs - minL xs < 65536 := fun q => by rw [okL_iff.mpr ⟨hne, hin, q⟩] at hok; cases hok
    have m1 : maxL xs ≤ hi := by
     obtain ⟨j, hj, e⟩ := List.getElem_of_mem (maxL_spec hne).2
     rw [← e, ← get_of hj]
     exact (a4 j hj).2
    have m2 : lo ≤ minL xs := by
     obtain ⟨j, hj, e⟩ := List.getElem_of_mem (minL_spec hne).2
     rw [← e, ← get_of hj]
     exact (a4 j hj).1
    refine ⟨_, st.trans (e.trans ((F70.c1 _ _ _ _).trans (bT' ?_))), nl 5 ?_⟩
    ·rw [wrap_ok (by omega) (by omega)]
     exact decide_eq_true (by omega)
    ·unfold refE
     have : xs.any outD = false := by
      rw [List.any_eq_false]
      intro v hv
      unfold outD
      rw [hin v hv]
      decide
     rw [hok, if_neg h0, this]
     rfl
theorem ofD_zero (l : List Int) : (ofD l).2 = 0 ↔ okL l = true := by
 constructor
 ·intro h
  unfold ofD at h
  by_cases h0 : l.length = 0
  ·rw [if_pos h0] at h; cases h
  ·rw [if_neg h0] at h
   by_cases h1 : l.any outD = true
   ·rw [if_pos h1] at h; cases h
   ·rw [if_neg h1] at h
    by_cases h2 : maxL l - minL l ≥ 65536
    ·rw [if_pos h2] at h; cases h
    ·refine okL_iff.mpr ⟨fun e => h0 (by rw [e]; rfl), fun v hv => ?_, by omega⟩
     cases e : inD v with
     | true => rfl
     | false =>
      refine absurd (List.any_eq_true.mpr ⟨v, hv, ?_⟩) h1
      unfold outD
      rw [e]
      rfl
 ·intro h
  rw [ofD_ok h]
theorem F597.sem (k : Nat) (l : List Int) : callW F597.E false F597.fn k [.v (.sl (.int .i64)) l] = some (.v .bool (listedX l)) := by
 refine (F597.start_eq k l).trans ?_
 unfold listedX
 by_cases h : (ofD l).2 = 0
 ·rw [decide_eq_true h]
  refine (bT' rfl).trans ((bT' (listB_of ((ofD_zero l).mp h))).trans ?_)
  rfl
 ·rw [decide_eq_false h]
  rfl
theorem listed_same (l : List Int) : listedX l = (decide (refE l = 0) && eqL (refL l) l) := by
 unfold listedX
 cases h : okL l with
 | true =>
  rw [decide_eq_true ((ofD_zero l).mpr h), decide_eq_true (show refE l = 0 by unfold refE; rw [h]; rfl)]
  have e : refL l = listD (ofD l).1 := by
   unfold refL
   rw [h]
   have s := refGo_spec l [] List.Pairwise.nil
   exact rising_ext s.1 (list_ofD h).2 fun v => by
    rw [(list_ofD h).1 v]
    have := s.2.1 v
    show v ∈ refGo l [] ↔ v ∈ l
    simpa using this
  rw [e]
 | false =>
  have h1 : decide ((ofD l).2 = 0) = false := decide_eq_false fun q => by rw [(ofD_zero l).mp q] at h; cases h
  have h2 : decide (refE l = 0) = false := decide_eq_false fun q => by
   unfold refE at q
   rw [h] at q
   by_cases h0 : l.length = 0
   ·simp [h0] at q
   ·simp [h0] at q
    split at q <;> cases q
  rw [h1, h2]
  rfl
theorem F548.sem (k : Nat) (m : ModelP) (h : m.1.length ≤ 2000) : callW F548.E false F548.fn k [.agg [.v (.sl .str) m.1, .v (.sl (.sl (.int .i64))) m.2.1, .v (.sl ConT) m.2.2.1, .v (.int .i64) m.2.2.2.1, .v (.int .i64) m.2.2.2.2]] = some (.v .bool (goalX m)) := by
 refine (F548.start_eq k ..).trans ?_
 unfold goalX
 rw [wrap_ok (x := (m.1.length : Int) - 1) (by omega) (by omega)]
 cases decide (m.2.2.2.1 = 0) <;> cases withinD m.2.2.2.1 1 2 <;> rfl
theorem F551.sem (a b : List Int) (h : a.length ≤ 1000) : callW F551.E false F551.fn 2000 [.v (.sl (.int .i64)) a, .v (.sl (.int .i64)) b] = some (.v .bool (eqL a b)) := by
 have ec : ∀ (x y : Int) (s t : List Int), eqL (x :: s) (y :: t) = if x = y then eqL s t else false := fun x y s t => by
  unfold eqL
  by_cases h : x = y
  ·rw [if_pos h, h]
   congr 1
   simp
  ·rw [if_neg h]
   exact decide_eq_false fun e => h (List.cons.inj e).1
 refine (F551.start_eq 2000 a b).trans ?_
 by_cases hl : (a.length : Int) = (b.length : Int)
 ·refine (bF' (by rw [decide_eq_true hl]; rfl)).trans ?_
  have key : ∀ d i n : Nat, i + d = a.length → d < n → F551.l1_1_0_1_0 n (F551.kt 2000 [1, 1, 0, 1, 0]) a b (i : Int) = some (.v .bool (eqL (a.drop i) (b.drop i))) := by
   intro d
   induction d with
   | zero =>
    intro i n h1 h2
    obtain ⟨n', rfl⟩ : ∃ n', n = n' + 1 := ⟨n - 1, by omega⟩
    obtain rfl : i = a.length := by omega
    refine (F551.l1_1_0_1_0_eq ..).trans (self_lt'.trans ((F551.c1 2000).trans ?_))
    have e : b.drop a.length = [] := List.drop_of_length_le (by omega)
    rw [List.drop_length, e]
    rfl
   | succ d ih =>
    intro i n h1 h2
    obtain ⟨n', rfl⟩ : ∃ n', n = n' + 1 := ⟨n - 1, by omega⟩
    have hi : i < a.length := by omega
    have hb : i < b.length := by omega
    have w : IntKind.i64.wrap ((i : Int) + 1) = ((i + 1 : Nat) : Int) := by rw [wrap_ok (by omega) (by omega)]; omega
    refine (F551.l1_1_0_1_0_eq ..).trans ((bT' (lt_natG hi)).trans ((bT' (in_natG hi)).trans ((bT' (in_natG hb)).trans ?_)))
    rw [Int.toNat_natCast, w, drop_getD hi 0, drop_getD hb 0, ec]
    by_cases e : a.getD i 0 = b.getD i 0
    ·rw [if_pos e]
     exact (bF' (by rw [decide_eq_true e]; rfl)).trans (ih (i + 1) n' (by omega) (by omega))
    ·rw [if_neg e]
     exact (bT' (by rw [decide_eq_false e]; rfl)).trans (F551.c0 2000)
  exact key a.length 0 2000 (by omega) (by omega)
 ·refine (bT' (by rw [decide_eq_false hl]; rfl)).trans ?_
  have : eqL a b = false := decide_eq_false fun e => hl (by rw [e])
  rw [this]
theorem F652.eok : EOk Go.Proofs.Tryz.prog F652.E := eo calls_nil
theorem ok652 : HandOk Go.Proofs.Tryz.prog inv 97 h_letterI := hand_un fun xs => callW_ok (own := false) (k := 1) F652.eok mixed Go.Proofs.Tryz.func97 (by kernel_rfl) (show Go.Proofs.Tryz.f97.body = some (bodyOf Go.Proofs.Tryz.f97) by kernel_rfl) (F652.sem 1 xs.1)
theorem F683.eok : EOk Go.Proofs.Tryz.prog F683.E := eo calls_nil
theorem ok683 : HandOk Go.Proofs.Tryz.prog inv 131 h_digitI := hand_un fun xs => callW_ok (own := false) (k := 1) F683.eok mixed Go.Proofs.Tryz.func131 (by kernel_rfl) (show Go.Proofs.Tryz.f131.body = some (bodyOf Go.Proofs.Tryz.f131) by kernel_rfl) (F683.sem 1 xs.1)
theorem F654.eok : EOk Go.Proofs.Tryz.prog F654.E := eo (calls_cons ok652 (calls_cons ok683 calls_nil))
theorem F663.eok : EOk Go.Proofs.Tryz.prog F663.E := eo calls_nil
theorem ok663 : HandOk Go.Proofs.Tryz.prog inv 110 h_letterB := hand_un fun xs => callW_ok (own := false) (k := 1) F663.eok mixed Go.Proofs.Tryz.func110 (by kernel_rfl) (show Go.Proofs.Tryz.f110.body = some (bodyOf Go.Proofs.Tryz.f110) by kernel_rfl) (F663.sem 1 xs.1)
theorem F664.eok : EOk Go.Proofs.Tryz.prog F664.E := eo calls_nil
theorem ok664 : HandOk Go.Proofs.Tryz.prog inv 111 h_digitB := hand_un fun xs => callW_ok (own := false) (k := 1) F664.eok mixed Go.Proofs.Tryz.func111 (by kernel_rfl) (show Go.Proofs.Tryz.f111.body = some (bodyOf Go.Proofs.Tryz.f111) by kernel_rfl) (F664.sem 1 xs.1)
theorem F607.eok : EOk Go.Proofs.Tryz.prog F607.E := eo (calls_cons ok663 (calls_cons ok664 calls_nil))
theorem ok607 : HandOk Go.Proofs.Tryz.prog inv 61 h_wordY := hand_if fun xs hc => by
 obtain ⟨s, a, u⟩ := xs
 have hc2 := (Bool.and_eq_true _ _).mp hc
 have ha : @Eq Int a 0 := (fun (b : Int) (h : zeroI b = true) => of_decide_eq_true h) a hc2.1
 obtain rfl : (0 : Int) = a := ha.symm
 exact callW_ok (own := false) (k := 2000) F607.eok mixed Go.Proofs.Tryz.func61 (by kernel_rfl) (show Go.Proofs.Tryz.f61.body = some (bodyOf Go.Proofs.Tryz.f61) by kernel_rfl) (F607.sem s (Nat.le_of_ble_eq_true hc2.2))
theorem F549.eok : EOk Go.Proofs.Tryz.prog F549.E := eo (calls_cons ok607 calls_nil)
theorem ok549 : HandOk Go.Proofs.Tryz.prog inv 25 h_nameY := hand_if fun xs hc => callW_ok (own := false) (k := 1) F549.eok mixed Go.Proofs.Tryz.func25 (by kernel_rfl) (show Go.Proofs.Tryz.f25.body = some (bodyOf Go.Proofs.Tryz.f25) by kernel_rfl) (F549.sem 1 xs.1 (Nat.le_of_ble_eq_true hc))
theorem ok70A : HandOk Go.Proofs.Tryz.prog inv 26 h_refA := hand_if fun xs hc => by
 obtain ⟨r, h1, h2⟩ := F70.semA xs.1 (Nat.le_of_ble_eq_true hc)
 exact spec_weak h2 (callW_ok (own := false) (k := xs.1.length + 2000) F70.eok mixed Go.Proofs.Tryz.func26 (by kernel_rfl) (show Go.Proofs.Tryz.f26.body = some (bodyOf Go.Proofs.Tryz.f26) by kernel_rfl) (h1))
theorem F597.eok : EOk Go.Proofs.Tryz.prog F597.E := eo (calls_cons ok47 (calls_cons ok50 (calls_cons ok29 calls_nil)))
theorem F548.eok : EOk Go.Proofs.Tryz.prog F548.E := eo (calls_cons ok105 calls_nil)
theorem ok548 : HandOk Go.Proofs.Tryz.prog inv 24 h_goalX := hand_if fun xs hc => callW_ok (own := false) (k := 1) F548.eok mixed Go.Proofs.Tryz.func24 (by kernel_rfl) (show Go.Proofs.Tryz.f24.body = some (bodyOf Go.Proofs.Tryz.f24) by kernel_rfl) (F548.sem 1 xs.1 (Nat.le_of_ble_eq_true hc))
theorem F551.eok : EOk Go.Proofs.Tryz.prog F551.E := eo calls_nil
theorem ok551 : HandOk Go.Proofs.Tryz.prog inv 27 h_sameL := hand_if fun xs hc => callW_ok (own := false) (k := 2000) F551.eok mixed Go.Proofs.Tryz.func27 (by kernel_rfl) (show Go.Proofs.Tryz.f27.body = some (bodyOf Go.Proofs.Tryz.f27) by kernel_rfl) (F551.sem xs.1 xs.2.1 (Nat.le_of_ble_eq_true hc))
end Go.Proofs.YtlfdikofmfhefaaGreatDoor.Ev
set_option linter.unusedVariables false
set_option linter.unusedSimpArgs false
namespace Go.Proofs
open Go Go.RowKit Go.Lib
namespace YtlfdikofmfhefaaGreatDoor.Ev
theorem iter_pos {w : World} {k : Nat} {s : ByteArray} {p : Nat} (h : w.heap[k]? = some (.stringIter s p)) : w.iterPos k = p := by simp [World.iterPos, h]
theorem byteW_at {s : ByteArray} {i : Nat} (h : i < s.size) : byteW s i = ((s[i]'h).toNat : Int) := by
 unfold byteW
 rw [dif_pos h]
theorem inner_high {c : Int} (h : 128 ≤ c) : innerI c = false := by
 unfold innerI letterI digitI
 rw [decide_eq_false (show ¬ c ≤ 122 by omega), decide_eq_false (show ¬ c ≤ 90 by omega), decide_eq_false (show ¬ c ≤ 57 by omega), decide_eq_false (show ¬ c = 95 by omega)]
 simp
theorem decode_inner {s : ByteArray} {pos : Nat} (h : pos < s.size) : innerI (Utf8.decode s pos).1 = innerI (byteW s pos) ∧ (innerI (byteW s pos) = true → (Utf8.decode s pos).2 = 1) ∧ 1 ≤ (Utf8.decode s pos).2 := by
 rw [byteW_at h]
 by_cases ha : (s[pos]'h).toNat < 128
 ·rw [decode_ascii s pos h ha]
  exact ⟨rfl, fun _ => rfl, Nat.le_refl _⟩
 ·have hd := decode_high s pos h (by omega)
  rw [inner_high (by omega), inner_high (by omega)]
  exact ⟨rfl, (fun q => by cases q), hd.2⟩
theorem run_succ (s : ByteArray) (n i : Nat) : runGo s (n + 1) i = if innerI (byteW s i) then runGo s n (i + 1) else i := rfl
end YtlfdikofmfhefaaGreatDoor.Ev
theorem Tryz.run_any (s : ByteArray) (w : World) (hin : ∀ (c : Int) (W : World), Below w.heap.size w W → Calls Tryz.prog 99 #[.int .i32 c] W fun e w' => e = .returned (.bool (YtlfdikofmfhefaaGreatDoor.Ev.innerI c)) ∧ Below W.heap.size W w') :
  Calls Tryz.prog 98 #[.string s, .func (.func 99) #[] #[]] w fun e w' => e = .returned (.int .i64 (YtlfdikofmfhefaaGreatDoor.Ev.runD s)) ∧ Below w.heap.size w w' := by
 go_enter Tryz.func98, Tryz.ntmps98
 go_wp2
 go_loopw [5] (fun _ wr => ∃ pos : Nat, pos ≤ s.size ∧ wr.heap[w.heap.size]? = some (.stringIter s pos) ∧ Below w.heap.size w wr ∧ YtlfdikofmfhefaaGreatDoor.Ev.runGo s (s.size - pos) pos = YtlfdikofmfhefaaGreatDoor.Ev.runGo s s.size 0)
  (fun _ wr => s.size - wr.iterPos w.heap.size)
 case atStart => exact ⟨0, Nat.zero_le _, World.iter_heap w s 0, (Below.refl _ _).alloc (Nat.le_refl _) _, rfl⟩
 case round =>
  obtain ⟨pos, hle, hk, hB, hr⟩ := hrel
  by_cases hp : pos < s.size
  ·obtain ⟨d1, d2, d3⟩ := YtlfdikofmfhefaaGreatDoor.Ev.decode_inner hp
   have hnx : ∀ ty, (Instr.next (.pointer (some ⟨w.heap.size, 0, none⟩)) true ty).run Tryz.prog wr = _ := fun ty => run_next_any_at wr w.heap.size s pos ty hk hp
   have hB1 : Below w.heap.size w (wr.iterAt w.heap.size s (pos + (Utf8.decode s pos).2)) := below_iterAt hB (Nat.le_refl _) _ _
   have hk1 : (wr.iterAt w.heap.size s (pos + (Utf8.decode s pos).2)).heap[w.heap.size]? = some (.stringIter s (pos + (Utf8.decode s pos).2)) := iterAt_heap wr w.heap.size s pos _ hk
   have hlt : w.heap.size < (wr.iterAt w.heap.size s (pos + (Utf8.decode s pos).2)).heap.size := (Array.getElem?_eq_some_iff.1 hk1).1
   have hC := hin (Utf8.decode s pos).1 _ hB1
   rw [d1] at hC
   obtain ⟨m, hm⟩ : ∃ m, s.size - pos = m + 1 := ⟨s.size - pos - 1, by omega⟩
   cases hb : YtlfdikofmfhefaaGreatDoor.Ev.innerI (YtlfdikofmfhefaaGreatDoor.Ev.byteW s pos) with
   | true =>
    rw [hb] at hC
    rw [d2 hb] at hC hk1 hlt hB1 hnx
    go_wp2_with (go_at_call 99; refine hC.mono ?_; rintro e W' ⟨rfl, hW⟩)
    go_wp2
    have hk2 : W'.heap[w.heap.size]? = some (.stringIter s (pos + 1)) := (hW.block _ hlt).trans hk1
    go_roundw
    case rel =>
     refine ⟨pos + 1, by omega, hk2, hB1.trans (hW.mono hB1.size), ?_⟩
     rw [← hr, hm, YtlfdikofmfhefaaGreatDoor.Ev.run_succ, hb, if_pos rfl, show s.size - (pos + 1) = m by omega]
    case measure =>
     rw [YtlfdikofmfhefaaGreatDoor.Ev.iter_pos hk2, YtlfdikofmfhefaaGreatDoor.Ev.iter_pos hk]
     omega
   | false =>
    rw [hb] at hC
    go_wp2_with (go_at_call 99; refine hC.mono ?_; rintro e W' ⟨rfl, hW⟩)
    go_wp2
    go_ret
    refine ⟨?_, hB1.trans (hW.mono hB1.size)⟩
    have : YtlfdikofmfhefaaGreatDoor.Ev.runGo s s.size 0 = pos := by
     rw [← hr, hm, YtlfdikofmfhefaaGreatDoor.Ev.run_succ, hb]
     rfl
    unfold YtlfdikofmfhefaaGreatDoor.Ev.runD
    rw [this]
    rfl
  ·have hnx : ∀ ty, (Instr.next (.pointer (some ⟨w.heap.size, 0, none⟩)) true ty).run Tryz.prog wr = _ := fun ty => run_next_end_at wr w.heap.size s pos ty hk hp
   go_wp2
   go_ret
   refine ⟨?_, hB⟩
   have : YtlfdikofmfhefaaGreatDoor.Ev.runGo s s.size 0 = s.size := by
    rw [← hr, show s.size - pos = 0 by omega]
    show pos = s.size
    omega
   unfold YtlfdikofmfhefaaGreatDoor.Ev.runD
   rw [this]
   rfl
end Go.Proofs
set_option linter.unusedVariables false
set_option linter.unusedSimpArgs false
set_option maxRecDepth 1000000
set_option maxHeartbeats 4000000
namespace Go.Proofs
open Go Go.RowKit Go.WideMaps Go.Maps
namespace YtlfdikofmfhefaaGreatDoor.Ev
def keyL (s : ByteArray) : Lit := .string s.data.toList
def i64D (n : Int) : DataW Unit := .lit (.int .i64 n)
def D0 : DataW Unit := (((.map [] : DataW Unit).put (keyL ⟨#[118, 97, 114]⟩) (i64D 1)).put (keyL ⟨#[99, 111, 110, 115, 116, 114, 97, 105, 110, 116]⟩) (i64D 1)).put (keyL ⟨#[115, 111, 108, 118, 101]⟩) (i64D 1)
def Dm : List ByteArray → DataW Unit
 | [] => D0
 | s :: met => (Dm met).put (keyL s) (i64D 2)
theorem key_inj {s t : ByteArray} (h : keyL s = keyL t) : s = t := by
 have h : s.data.toList = t.data.toList := Lit.string.inj h
 cases s; cases t
 congr 1
 exact Array.ext' h
theorem key_lit (s : ByteArray) : WideAt.IsKeyLit (keyL s) := trivial
theorem d0_map : IsMap D0 := ((isMap_empty.put _ _).put _ _).put _ _
theorem dm_map : ∀ met, IsMap (Dm met)
 | [] => d0_map
 | s :: met => (dm_map met).put _ _
theorem d0_at (s : ByteArray) : D0.atKey (keyL s) (i64D 0) = i64D (if keptS s then 1 else 0) := by
 unfold D0 keptS
 by_cases h3 : s = ⟨#[115, 111, 108, 118, 101]⟩
 ·rw [← h3, atKey_put_same ((isMap_empty.put _ _).put _ _) (key_lit s)]
  have : strEq s s = true := strEq_iff.mpr rfl
  rw [this]
  simp
 ·rw [atKey_put_other fun e => h3 (key_inj e)]
  have e3 : strEq s ⟨#[115, 111, 108, 118, 101]⟩ = false := by
   cases q : strEq s ⟨#[115, 111, 108, 118, 101]⟩ with
   | false => rfl
   | true => exact absurd (strEq_iff.mp q) h3
  rw [e3]
  by_cases h2 : s = ⟨#[99, 111, 110, 115, 116, 114, 97, 105, 110, 116]⟩
  ·rw [← h2, atKey_put_same (isMap_empty.put _ _) (key_lit s)]
   have : strEq s s = true := strEq_iff.mpr rfl
   rw [this]
   simp
  ·rw [atKey_put_other fun e => h2 (key_inj e)]
   have e2 : strEq s ⟨#[99, 111, 110, 115, 116, 114, 97, 105, 110, 116]⟩ = false := by
    cases q : strEq s ⟨#[99, 111, 110, 115, 116, 114, 97, 105, 110, 116]⟩ with
    | false => rfl
    | true => exact absurd (strEq_iff.mp q) h2
   rw [e2]
   by_cases h1 : s = ⟨#[118, 97, 114]⟩
   ·rw [← h1, atKey_put_same isMap_empty (key_lit s)]
    have : strEq s s = true := strEq_iff.mpr rfl
    rw [this]
    rfl
   ·rw [atKey_put_other fun e => h1 (key_inj e)]
    have e1 : strEq s ⟨#[118, 97, 114]⟩ = false := by
     cases q : strEq s ⟨#[118, 97, 114]⟩ with
     | false => rfl
     | true => exact absurd (strEq_iff.mp q) h1
    rw [e1]
    rfl
theorem dm_at (s : ByteArray) : ∀ met : List ByteArray, (Dm met).atKey (keyL s) (i64D 0) = i64D (if met.any (fun t => strEq t s) then 2 else if keptS s then 1 else 0)
 | [] => d0_at s
 | t :: met => by
  have ih := dm_at s met
  show ((Dm met).put (keyL t) (i64D 2)).atKey (keyL s) (i64D 0) = _
  rw [List.any_cons]
  by_cases h : s = t
  ·rw [h, atKey_put_same (dm_map met) (key_lit t)]
   have : strEq t t = true := strEq_iff.mpr rfl
   rw [this]
   simp
  ·rw [atKey_put_other fun e => h (key_inj e), ih]
   have e1 : strEq t s = false := by
    cases q : strEq t s with
    | false => rfl
    | true => exact absurd (strEq_iff.mp q).symm h
   rw [e1, Bool.false_or]
theorem grown_below {w w' : World} (h : Below w.heap.size w w') (row : Option Nat) : w.grownBy w' row := ⟨h.os, h.tape, h.output, h.size, fun k hk _ => h.block k hk⟩
theorem i64D_inj {a b : Int} (h : i64D a = i64D b) : a = b := (Lit.int.inj (DataW.lit.inj h)).2
theorem cell_box {W : World} {b : Nat} {cs : Array Value} {t : TypeId} (h : W.heap[b]? = some (.cells cs t)) (j : Nat) : W.cell? ⟨b, j, none⟩ = cs[j]? := by simp [World.cell?, h]
def metK (ns : List ByteArray) (k : Nat) : List ByteArray := (ns.take k).reverse
theorem metK_succ {ns : List ByteArray} {k : Nat} (h : k < ns.length) : metK ns (k + 1) = ns.getD k ⟨#[]⟩ :: metK ns k := by
 unfold metK
 rw [List.take_add_one, List.getElem?_eq_getElem h, List.getD_eq_getElem?_getD, List.getElem?_eq_getElem h]
 simp
theorem vars_step {met ns : List ByteArray} {ds : List (List Int)} {k : Nat} (h1 : k < ns.length) (h2 : k < ds.length) :
  varsGo met (ns.drop k) (ds.drop k) = if !(nameX (ns.getD k ⟨#[]⟩)) || keptS (ns.getD k ⟨#[]⟩) then 7 else if met.any (fun t => strEq t (ns.getD k ⟨#[]⟩)) then 8 else if !(listedX (ds.getD k [])) then 3 else varsGo (ns.getD k ⟨#[]⟩ :: met) (ns.drop (k + 1)) (ds.drop (k + 1)) := by
 rw [List.drop_eq_getElem_cons h1, List.drop_eq_getElem_cons h2, List.getD_eq_getElem?_getD, List.getElem?_eq_getElem h1, List.getD_eq_getElem?_getD, List.getElem?_eq_getElem h2]
 rfl
end YtlfdikofmfhefaaGreatDoor.Ev
theorem Tryz.keyed : Keyed Tryz.prog 9 := string_keyed (by kernel_rfl)
theorem Tryz.zeroI (w : World) : (zeroValue 3).run Tryz.prog w = .ok (.int .i64 0) w := by kernel_rfl
theorem Tryz.undMap : Tryz.prog.underlying 90 = some (.map 9 3) := by kernel_rfl
theorem Tryz.undI : Tryz.prog.underlying 3 = some (.int .i64) := by kernel_rfl
theorem Tryz.undS : Tryz.prog.underlying 9 = some .string := by kernel_rfl
theorem Tryz.vars_any (w : World) (ns : List ByteArray) (ds : List (List Int)) (an ad : Addr) (cn cd : Nat) (dv : Nat → Value) (vc : Value) (g o : Int) (hl : ds.length = ns.length) (hle : ns.length ≤ 2000)
  (hsz : ∀ s ∈ ns, s.size ≤ 1000) (hba : an.block < w.heap.size) (hbd : ad.block < w.heap.size)
  (hcn : ∀ j, j < ns.length → w.cell? (an.add j) = some (.string (ns.getD j ⟨#[]⟩))) (hcd : ∀ j, j < ds.length → w.cell? (ad.add j) = some (dv j))
  (hN : ∀ (s : ByteArray) (W : World), Below w.heap.size w W → Calls Tryz.prog 50 #[.string s] W fun e w' => e = .returned (.bool (YtlfdikofmfhefaaGreatDoor.Ev.nameX s)) ∧ Below W.heap.size W w')
  (hL : ∀ (i : Nat) (W : World), i < ds.length → Below w.heap.size w W → Calls Tryz.prog 51 #[dv i] W fun e w' => e = .returned (.bool (YtlfdikofmfhefaaGreatDoor.Ev.listedX (ds.getD i []))) ∧ Below W.heap.size W w') :
  Calls Tryz.prog 22 #[.agg #[.slice (some an) ns.length cn, .slice (some ad) ns.length cd, vc, .int .i64 g, .int .i64 o]] w fun e w' => e = .returned (.int .i64 (YtlfdikofmfhefaaGreatDoor.Ev.varsGo [] ns ds)) ∧ Below w.heap.size w w' := by
 have hmm := @run_makeMap Tryz.prog
 have ea : ∀ (a : Addr) (k : Nat), (a.add k).block = a.block := fun a k => by unfold Addr.add; split <;> rfl
 have k1 : keyOf Tryz.prog 9 (.string ⟨#[118, 97, 114]⟩) = some (YtlfdikofmfhefaaGreatDoor.Ev.keyL ⟨#[118, 97, 114]⟩) := keyOf_string_mk Tryz.undS (by unfold maxLen; decide)
 have k2 : keyOf Tryz.prog 9 (.string ⟨#[99, 111, 110, 115, 116, 114, 97, 105, 110, 116]⟩) = some (YtlfdikofmfhefaaGreatDoor.Ev.keyL ⟨#[99, 111, 110, 115, 116, 114, 97, 105, 110, 116]⟩) := keyOf_string_mk Tryz.undS (by unfold maxLen; decide)
 have k3 : keyOf Tryz.prog 9 (.string ⟨#[115, 111, 108, 118, 101]⟩) = some (YtlfdikofmfhefaaGreatDoor.Ev.keyL ⟨#[115, 111, 108, 118, 101]⟩) := keyOf_string_mk Tryz.undS (by unfold maxLen; decide)
 have pe : ∀ n : Int, (Lit.int .i64 n).wf = true → plainElem (H := Unit) Tryz.prog 3 (.int .i64 n) = some (YtlfdikofmfhefaaGreatDoor.Ev.i64D n, []) := fun n h => plainElem_int Tryz.undI h
 have o0 := World.ownsMap_made (w.alloc (.cells #[.slice (some an) ns.length cn, .slice (some ad) ns.length cd, vc, .int .i64 g, .int .i64 o] 27)) Tryz.prog 9 (plainElem (H := Unit) Tryz.prog 3)
 rw [World.size_alloc] at o0
 obtain ⟨w1, r1, o1, g1⟩ := o0.update Tryz.keyed Tryz.undMap (by unfold maxLen; omega) k1 (pe 1 (by decide))
 obtain ⟨w2, r2, o2, g2⟩ := o1.update Tryz.keyed Tryz.undMap (by unfold maxLen; omega) k2 (pe 1 (by decide))
 obtain ⟨w3, r3, o3, g3⟩ := o2.update Tryz.keyed Tryz.undMap (by unfold maxLen; omega) k3 (pe 1 (by decide))
 have o3 : w3.ownsMap Tryz.prog 9 (plainElem Tryz.prog 3) (w.heap.size + 1) 3 (YtlfdikofmfhefaaGreatDoor.Ev.Dm []) := o3
 have G := (g1.trans g2).trans g3
 have hB3 : Below w.heap.size w w3 := ⟨G.os, G.tape, G.output, Nat.le_trans (by rw [World.size_alloc, World.size_alloc]; omega) G.size, fun k hk => (G.block k (by rw [World.size_alloc, World.size_alloc]; omega) (fun e => by have := Option.some.inj e; omega)).trans (by
  rw [Below.heap_alloc _ _ k (by rw [World.size_alloc]; omega), Below.heap_alloc _ _ k hk])⟩
 have hbx : w3.heap[w.heap.size]? = some (.cells #[.slice (some an) ns.length cn, .slice (some ad) ns.length cd, vc, .int .i64 g, .int .i64 o] 27) :=
  (G.block w.heap.size (by rw [World.size_alloc, World.size_alloc]; omega) (fun e => by have := Option.some.inj e; omega)).trans (by
   rw [Below.heap_alloc _ _ _ (by rw [World.size_alloc]; omega)]
   show (w.heap.push _)[w.heap.size]? = _
   simp)
 have hc0 : w3.cell? ⟨w.heap.size, 0, none⟩ = some (.slice (some an) ns.length cn) := by rw [YtlfdikofmfhefaaGreatDoor.Ev.cell_box hbx]; rfl
 go_enter Tryz.func22, Tryz.ntmps22
 go_wp2
 clear r1 r2 r3 o0 o1 o2 g1 g2 g3 G
 go_loopw [11] (fun i wr => ∃ k : Nat, k ≤ ns.length ∧ i = .int .i64 k ∧ wr.ownsMap Tryz.prog 9 (plainElem Tryz.prog 3) (w.heap.size + 1) (3 + k) (YtlfdikofmfhefaaGreatDoor.Ev.Dm (YtlfdikofmfhefaaGreatDoor.Ev.metK ns k)) ∧
   wr.heap[w.heap.size]? = some (.cells #[.slice (some an) ns.length cn, .slice (some ad) ns.length cd, vc, .int .i64 g, .int .i64 o] 27) ∧ Below w.heap.size w wr ∧
   (∀ t ∈ YtlfdikofmfhefaaGreatDoor.Ev.metK ns k, YtlfdikofmfhefaaGreatDoor.Ev.keptS t = false) ∧ YtlfdikofmfhefaaGreatDoor.Ev.varsGo (YtlfdikofmfhefaaGreatDoor.Ev.metK ns k) (ns.drop k) (ds.drop k) = YtlfdikofmfhefaaGreatDoor.Ev.varsGo [] ns ds)
  (fun i _ => ns.length - (intOf i).toNat)
 case atStart => exact ⟨0, Nat.zero_le _, rfl, o3, hbx, hB3, (by intro t h; simp [YtlfdikofmfhefaaGreatDoor.Ev.metK] at h), rfl⟩
 case round =>
  obtain ⟨k, hk, rfl, hown, hbox, hB, hfree, hrest⟩ := hrel
  clear o3 hbx hB3 hc0
  by_cases hlt : k < ns.length
  ·obtain ⟨s, hs⟩ : ∃ s, s = ns.getD k ⟨#[]⟩ := ⟨_, rfl⟩
   have hcx : wr.cell? (an.add k) = some (.string s) := by rw [hs]; exact (hB.cell (p := an.add k) (by rw [ea]; exact hba)).trans (hcn k hlt)
   have hss : s.size ≤ 1000 := hsz s (by rw [hs, List.getD_eq_getElem?_getD, List.getElem?_eq_getElem hlt]; exact List.getElem_mem _)
   have hkey : keyOf Tryz.prog 9 (.string s) = some (YtlfdikofmfhefaaGreatDoor.Ev.keyL s) := keyOf_string_mk Tryz.undS (by unfold maxLen; omega)
   have hval := hrest.symm.trans (YtlfdikofmfhefaaGreatDoor.Ev.vars_step (met := YtlfdikofmfhefaaGreatDoor.Ev.metK ns k) hlt (show k < ds.length by omega))
   have hsucc := YtlfdikofmfhefaaGreatDoor.Ev.metK_succ hlt
   rw [← hs] at hval hsucc
   clear hs
   have hC := hN s wr hB
   have hlB : w.heap.size < wr.heap.size := (Array.getElem?_eq_some_iff.1 hbox).1
   cases hn : YtlfdikofmfhefaaGreatDoor.Ev.nameX s with
   | false =>
    rw [hn] at hC hval
    go_wp2_with (go_at_call 50; refine hC.mono ?_; rintro e W' ⟨rfl, hW⟩)
    go_wp2
    go_ret
    exact ⟨by rw [hval]; rfl, hB.trans (hW.mono hB.size)⟩
   | true =>
    rw [hn] at hC hval
    go_wp2_with (go_at_call 50; refine hC.mono ?_; rintro e W' ⟨rfl, hW⟩)
    have hB1 : Below w.heap.size w W' := hB.trans (hW.mono hB.size)
    have hown1 := hown.kept (YtlfdikofmfhefaaGreatDoor.Ev.grown_below hW none) (by simp)
    obtain ⟨c, hrun, hat, _⟩ := hown1.lookup_int Tryz.keyed Tryz.undMap Tryz.undI (Tryz.zeroI _) hkey
    have hc := YtlfdikofmfhefaaGreatDoor.Ev.i64D_inj (hat.symm.trans (YtlfdikofmfhefaaGreatDoor.Ev.dm_at s _))
    cases hm : (YtlfdikofmfhefaaGreatDoor.Ev.metK ns k).any (fun t => YtlfdikofmfhefaaGreatDoor.Ev.strEq t s) with
    | true =>
     rw [hm, if_pos rfl] at hc
     subst hc
     have hkp : YtlfdikofmfhefaaGreatDoor.Ev.keptS s = false := by
      obtain ⟨t, ht, he⟩ := List.any_eq_true.mp hm
      rw [← YtlfdikofmfhefaaGreatDoor.Ev.strEq_iff.mp he]
      exact hfree t ht
     rw [hm, hkp] at hval
     go_wp2
     go_ret
     exact ⟨by rw [hval]; rfl, hB1⟩
    | false =>
     rw [hm] at hc hval
     cases hkp : YtlfdikofmfhefaaGreatDoor.Ev.keptS s with
     | true =>
      rw [hkp] at hc hval
      have hc2 : c = 1 := hc
      clear hc
      subst hc2
      go_wp2
      all_goals (try rw [hrun])
      go_wp2
      go_ret
      exact ⟨by rw [hval]; rfl, hB1⟩
     | false =>
      rw [hkp] at hc hval
      have hc2 : c = 0 := hc
      clear hc
      subst hc2
      have hbox1 := (hW.block _ hlB).trans hbox
      have hc1 : W'.cell? ⟨w.heap.size, 1, none⟩ = some (.slice (some ad) ns.length cd) := by rw [YtlfdikofmfhefaaGreatDoor.Ev.cell_box hbox1]; rfl
      have hcy : W'.cell? (ad.add k) = some (dv k) := (hB1.cell (p := ad.add k) (by rw [ea]; exact hbd)).trans (hcd k (by omega))
      have hD := hL k W' (by omega) hB1
      go_wp2_with fail
      all_goals (try rw [hrun])
      go_wp2_with fail
      all_goals (try rw [hrun])
      go_wp2_with fail
      cases hls : YtlfdikofmfhefaaGreatDoor.Ev.listedX (ds.getD k []) with
      | false =>
       rw [hls] at hD hval
       go_wp2_with (go_at_call 51; refine hD.mono ?_; rintro e W2 ⟨rfl, hW2⟩)
       go_wp2
       go_ret
       exact ⟨by rw [hval]; rfl, hB1.trans (hW2.mono hB1.size)⟩
      | true =>
       rw [hls] at hD hval
       go_wp2_with (go_at_call 51; refine hD.mono ?_; rintro e W2 ⟨rfl, hW2⟩)
       have hB2 : Below w.heap.size w W2 := hB1.trans (hW2.mono hB1.size)
       have hown2 := hown1.kept (YtlfdikofmfhefaaGreatDoor.Ev.grown_below hW2 none) (by simp)
       obtain ⟨w4, hr4, ho4, hg4⟩ := hown2.update Tryz.keyed Tryz.undMap (by unfold maxLen; omega) hkey (pe 2 (by decide))
       have hlB1 : w.heap.size < W'.heap.size := (Array.getElem?_eq_some_iff.1 hbox1).1
       have hbox2 := (hW2.block _ hlB1).trans hbox1
       have hlB2 : w.heap.size < W2.heap.size := (Array.getElem?_eq_some_iff.1 hbox2).1
       have hbox4 := (hg4.block w.heap.size hlB2 (fun e => by have := Option.some.inj e; omega)).trans hbox2
       have hB4 : Below w.heap.size w w4 := hB2.trans ⟨hg4.os, hg4.tape, hg4.output, hg4.size, fun j hj => hg4.block j (by omega) (fun e => by have := Option.some.inj e; omega)⟩
       go_wp2
       all_goals (try rw [hr4])
       all_goals (try simp only [Result.andThen])
       go_wp2
       go_roundw
       case rel =>
        refine ⟨k + 1, by omega, by go_num, ?_, hbox4, hB4, ?_, ?_⟩
        ·rw [hsucc]
         exact ho4
        ·rw [hsucc]
         intro t ht
         rcases List.mem_cons.mp ht with rfl | ht
         ·exact hkp
         ·exact hfree t ht
        ·rw [hsucc, hval]
         rfl
       case measure => simp [intOf]; omega
  ·have hk : k = ns.length := by omega
   subst hk
   go_wp2
   go_ret
   refine ⟨?_, hB⟩
   rw [← hrest, List.drop_length]
   have : ∀ m d, YtlfdikofmfhefaaGreatDoor.Ev.varsGo m [] d = 0 := fun m d => by cases d <;> rfl
   rw [this]
   rfl
end Go.Proofs
