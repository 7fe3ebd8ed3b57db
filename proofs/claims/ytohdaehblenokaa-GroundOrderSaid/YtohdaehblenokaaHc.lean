/-
Does a constraint hold: the program's answer is the document's. Plain lists (rows in order, inverses, unlike ones).
Conditions: none.
Circuits: the program's answer is the document's. Plain lists.
Conditions: none.
Whether a constraint holds: the program's answer is the document's.
Conditions: lists of at most 1000 elements.
Whether a constraint holds does not hang on the order of its variables (of an AllDiff, a Gcc, a Clause), terms (of a linear one), rows (of a table), tasks (of a Cumulative). Plain lists.
Conditions: none.
-/
import Derived.Test.YtohdaehblenokaaGe
set_option linter.unusedVariables false
set_option linter.unusedSimpArgs false
set_option maxRecDepth 100000
namespace Go.Proofs.Ytohdaehblenokaa.Ev
open Go
theorem lex_cmp : ∀ x y : List Int, x.length = y.length → decide (cmpX x y ≤ 0) = lexY x y
 | [], [], _ => rfl
 | [], _ :: _, h => by simp at h
 | _ :: _, [], h => by simp at h
 | x :: xs, y :: ys, h => by
  have ih := lex_cmp xs ys (by simpa using h)
  unfold cmpX
  rw [lexY_cons]
  by_cases c1 : x < y
  ·rw [if_pos c1, if_neg (by omega), decide_eq_true c1]
   rfl
  ·rw [if_neg c1]
   by_cases c2 : x > y
   ·rw [if_pos c2, if_neg (by omega), decide_eq_false c1]
    rfl
   ·rw [if_neg c2, if_pos (by omega), ih]
theorem nodup_le {α : Type} [DecidableEq α] : ∀ (l m : List α), l.Nodup → (∀ x ∈ l, x ∈ m) → l.length ≤ m.length
 | [], _, _, _ => Nat.zero_le _
 | x :: l, m, hn, hs => by
  obtain ⟨h1, h2⟩ := List.nodup_cons.mp hn
  have hm := hs x List.mem_cons_self
  have := nodup_le l (m.erase x) h2 fun y hy => (List.mem_erase_of_ne (fun e => h1 (by rw [← e]; exact hy))).mpr (hs y (List.mem_cons_of_mem _ hy))
  rw [List.length_erase_of_mem hm] at this
  have hp := List.length_pos_of_mem hm
  rw [List.length_cons]
  omega
theorem pigeon {n : Nat} {l : List Nat} (hn : l.Nodup) (hl : l.length = n) (hb : ∀ x ∈ l, x < n) {k : Nat} (hk : k < n) : k ∈ l := by
 by_cases h : k ∈ l
 ·exact h
 ·have := nodup_le l ((List.range n).erase k) hn fun x hx => (List.mem_erase_of_ne (fun e => h (by rw [← e]; exact hx))).mpr (List.mem_range.mpr (hb x hx))
  rw [List.length_erase_of_mem (List.mem_range.mpr hk), List.length_range] at this
  omega
theorem not_any_iff {n : Nat} {p : Nat → Bool} : (!((List.range n).any p)) = true ↔ ∀ i, i < n → p i = false := by
 rw [Bool.not_eq_true', any_false]
theorem inv_same {x y : List Int} (hl : y.length = x.length) : inverseX x y = invY x y := by
 rw [Bool.eq_iff_iff]
 unfold inverseX invY
 rw [not_any_iff, not_any_iff]
 constructor
 ·intro h
  have f : ∀ i, i < x.length → 1 ≤ x.getD i 0 ∧ x.getD i 0 ≤ (x.length : Int) ∧ y.getD (x.getD i 0 - 1).toNat 0 = (i : Int) + 1 := fun i hi => by
   have := h i hi
   rw [Bool.or_eq_false_iff, Bool.or_eq_false_iff, decide_eq_false_iff_not, decide_eq_false_iff_not, Bool.not_eq_false', decide_eq_true_eq] at this
   omega
  have hm : ((List.range x.length).map fun i => (x.getD i 0 - 1).toNat).Nodup := by
   unfold List.Nodup
   rw [List.pairwise_iff_getElem]
   intro i j hi hj hij e
   simp only [List.length_map, List.length_range] at hi hj
   rw [List.getElem_map, List.getElem_map, List.getElem_range, List.getElem_range] at e
   have a := (f i hi).2.2
   have b := (f j hj).2.2
   rw [e] at a
   omega
  have surj : ∀ k, k < x.length → ∃ i, i < x.length ∧ x.getD i 0 = (k : Int) + 1 := fun k hk => by
   have := pigeon hm (by simp) (fun v hv => by
    obtain ⟨i, hi, rfl⟩ := List.mem_map.mp hv
    have hi := List.mem_range.mp hi
    have := f i hi
    omega) hk
   obtain ⟨i, hi, e⟩ := List.mem_map.mp this
   have hi := List.mem_range.mp hi
   have := f i hi
   exact ⟨i, hi, by omega⟩
  intro i hi
  refine any_false.mpr fun k hk => ?_
  obtain ⟨a1, a2, a3⟩ := f i hi
  obtain ⟨j, hj, e⟩ := surj k hk
  obtain ⟨b1, b2, b3⟩ := f j hj
  have b3 : y.getD k 0 = (j : Int) + 1 := by
   rw [e] at b3
   have : ((k : Int) + 1 - 1).toNat = k := by omega
   rwa [this] at b3
  unfold invP
  rw [decide_eq_false (show ¬ x.getD i 0 < 1 by omega), decide_eq_false (show ¬ x.getD i 0 > (x.length : Int) by omega), decide_eq_false (show ¬ y.getD k 0 < 1 by omega), decide_eq_false (show ¬ y.getD k 0 > (x.length : Int) by omega)]
  by_cases q : x.getD i 0 = (k : Int) + 1
  ·have : y.getD k 0 = (i : Int) + 1 := by
    rw [q] at a3
    have t : ((k : Int) + 1 - 1).toNat = k := by omega
    rwa [t] at a3
   rw [decide_eq_true q, decide_eq_true this]
   rfl
  ·have : ¬ y.getD k 0 = (i : Int) + 1 := fun h => by
    have : j = i := by omega
    rw [this] at e
    exact q e
   rw [decide_eq_false q, decide_eq_false this]
   rfl
 ·intro h i hi
  have g : ∀ k, k < x.length → invP x y i k = false := fun k hk => any_false.mp (h i hi) k hk
  have g0 := g 0 (by omega)
  unfold invP at g0
  simp only [Bool.or_eq_false_iff, decide_eq_false_iff_not] at g0
  have gk := g (x.getD i 0 - 1).toNat (by omega)
  unfold invP at gk
  simp only [Bool.or_eq_false_iff, decide_eq_false_iff_not] at gk
  have e : (((x.getD i 0 - 1).toNat : Nat) : Int) + 1 = x.getD i 0 := by omega
  have gl := gk.2.2.2.2
  rw [e, decide_eq_true (rfl : x.getD i 0 = x.getD i 0)] at gl
  have : y.getD (x.getD i 0 - 1).toNat 0 = (i : Int) + 1 := by
   cases hd : decide (y.getD (x.getD i 0 - 1).toNat 0 = (i : Int) + 1) with
   | true => exact of_decide_eq_true hd
   | false => rw [hd] at gl; exact absurd gl (by decide)
  rw [decide_eq_false g0.1, decide_eq_false (show ¬ x.getD i 0 > (y.length : Int) by omega), decide_eq_true this]
  rfl
theorem comp_upto (d : Array Int) : ∀ m, (Lib.compactUpTo d m).length ≤ m ∧ ((Lib.compactUpTo d m).length = m ↔ ∀ i, i < m → Lib.keeps d i = true)
 | 0 => ⟨by simp [Lib.compactUpTo], by simp [Lib.compactUpTo]⟩
 | m + 1 => by
  obtain ⟨h1, h2⟩ := comp_upto d m
  have e : Lib.compactUpTo d (m + 1) = Lib.compactUpTo d m ++ (if Lib.keeps d m then [d[m]!] else []) := Lib.compactUpTo_succ d m
  by_cases hk : Lib.keeps d m = true
  ·rw [if_pos hk] at e
   rw [e, List.length_append, List.length_singleton]
   refine ⟨by omega, ?_⟩
   rw [show ((Lib.compactUpTo d m).length + 1 = m + 1) = ((Lib.compactUpTo d m).length = m) from by rw [Nat.add_right_cancel_iff], h2]
   constructor
   ·intro h i hi
    by_cases q : i = m
    ·rw [q]; exact hk
    ·exact h i (by omega)
   ·exact fun h i hi => h i (by omega)
  ·rw [if_neg hk, List.append_nil] at e
   rw [e]
   exact ⟨by omega, fun h => by omega, fun h => absurd (h m (by omega)) hk⟩
theorem apart_same (x : List Int) : apartX x = unlikeY x := by
 rw [Bool.eq_iff_iff]
 have hl := sortL_lenG x
 have l1 : apartX x = true ↔ x.Nodup := by
  rw [← (sortL_perm x).nodup_iff, ← adj_nodup (sortL_leG x)]
  unfold apartX
  rw [decide_eq_true_eq]
  have := (comp_upto (sortL x).toArray (sortL x).length).2
  have e : ((compL (sortL x)).length : Int) = (x.length : Int) ↔ (Lib.compactUpTo (sortL x).toArray (sortL x).length).length = (sortL x).length := by
   show ((Lib.compactUpTo (sortL x).toArray (sortL x).length).length : Int) = (x.length : Int) ↔ _
   omega
  rw [e, this]
  have kp : ∀ i, i < (sortL x).length → (Lib.keeps (sortL x).toArray i = true ↔ (i = 0 ∨ (sortL x).getD i 0 ≠ (sortL x).getD (i - 1) 0)) := fun i hi => by
   show decide (i = 0 ∨ (sortL x).toArray[i]! ≠ (sortL x).toArray[i - 1]!) = true ↔ _
   rw [decide_eq_true_eq]
   have g : ∀ j, j < (sortL x).length → (sortL x).toArray[j]! = (sortL x).getD j 0 := fun j hj => by
    rw [get_of hj]
    simp [hj]
   rw [g i hi, g (i - 1) (by omega)]
  constructor
  ·intro h i h0 hi
   rcases (kp i hi).mp (h i hi) with q | q
   ·omega
   ·exact q
  ·intro h i hi
   refine (kp i hi).mpr ?_
   by_cases q : i = 0
   ·exact .inl q
   ·exact .inr (h i (by omega) hi)
 rw [l1, nodup_iff]
 unfold unlikeY
 rw [not_any_iff]
 constructor
 ·exact fun h i hi => any_false.mpr fun k hk => decide_eq_false (h i k hk hi)
 ·exact fun h i j hj hi => of_decide_eq_false (any_false.mp (h i hi) j hj)
end Go.Proofs.Ytohdaehblenokaa.Ev
set_option linter.unusedVariables false
set_option linter.unusedSimpArgs false
set_option maxRecDepth 100000
namespace Go.Proofs.Ytohdaehblenokaa.Ev
open Go
theorem round_closed {x : List Int} {S : Nat → Prop} (h0 : ¬ S 0) (hc : ∀ j, S j → 1 ≤ x.getD j 0 ∧ x.getD j 0 ≤ (x.length : Int) ∧ S (x.getD j 0 - 1).toNat) : ∀ (m pos i : Nat), S pos → roundGo x m ((pos : Int) + 1) i = false
 | 0, _, _, _ => rfl
 | m + 1, pos, i, hp => by
  have e : ((pos : Int) + 1 - 1).toNat = pos := by omega
  obtain ⟨a, b, c⟩ := hc pos hp
  rw [roundGo_succ, e, if_neg (by omega)]
  by_cases h1 : x.getD pos 0 = 1
  ·rw [h1] at c
   exact absurd c h0
  ·rw [if_neg h1]
   have e2 : x.getD pos 0 = (((x.getD pos 0 - 1).toNat : Nat) : Int) + 1 := by omega
   rw [e2]
   exact round_closed h0 hc m _ _ c
theorem set_at {l : List Bool} {i : Nat} (h : i < l.length) (j : Nat) : (l.set i true).getD j false = true ↔ j = i ∨ l.getD j false = true := by
 by_cases e : j = i
 ·subst e
  rw [List.getD_eq_getElem?_getD, List.getElem?_set_self h]
  simp
 ·rw [List.getD_eq_getElem?_getD, List.getElem?_set_ne (fun q => e q.symm), ← List.getD_eq_getElem?_getD]
  simp [e]
theorem circ_step (x : List Int) : ∀ (m k pos : Nat) (met : List Bool), k + m = x.length → pos < x.length → met.length = x.length →
  (∀ j, met.getD j false = true → j = pos ∨ (1 ≤ x.getD j 0 ∧ x.getD j 0 ≤ (x.length : Int) ∧ met.getD (x.getD j 0 - 1).toNat false = true)) → met.getD 0 false = false →
  ((k = 0 ∧ pos = 0) ∨ (1 ≤ k ∧ met.getD pos false = true ∧ 1 ≤ x.getD 0 0 ∧ x.getD 0 0 ≤ (x.length : Int) ∧ met.getD (x.getD 0 0 - 1).toNat false = true)) →
  roundGo x m ((pos : Int) + 1) (k + 1) = circGo x m pos met
 | 0, k, pos, met, hk, hp, hl, h2, h3, h4 => by
  have e : circGo x 0 pos met = decide (pos = 0) := rfl
  rw [e]
  show false = _
  rcases h4 with ⟨a, b⟩ | ⟨a, b, _⟩
  ·omega
  ·rw [decide_eq_false]
   intro q
   rw [q, h3] at b
   cases b
 | m + 1, k, pos, met, hk, hp, hl, h2, h3, h4 => by
  have e : ((pos : Int) + 1 - 1).toNat = pos := by omega
  rw [roundGo_succ, circGo_succ, e]
  by_cases hv : x.getD pos 0 < 1 ∨ x.getD pos 0 > (x.length : Int)
  ·rw [if_pos hv, if_pos hv]
  ·rw [if_neg hv, if_neg hv]
   generalize hw : x.getD pos 0 = v at hv ⊢
   have vn : (v - 1).toNat < met.length := by omega
   have ev : v = (((v - 1).toNat : Nat) : Int) + 1 := by omega
   cases hm : met.getD (v - 1).toNat false with
   | true =>
    rw [if_pos rfl]
    have h1 : ¬ v = 1 := fun q => by
     rw [q] at hm
     have hm : met.getD 0 false = true := hm
     rw [h3] at hm
     cases hm
    rw [if_neg h1, ev]
    refine round_closed (S := fun j => met.getD j false = true) (by rw [h3]; simp) (fun j hj => ?_) m _ _ hm
    rcases h2 j hj with rfl | q
    ·rw [hw]
     exact ⟨by omega, by omega, hm⟩
    ·exact q
   | false =>
    rw [if_neg (show ¬ (false = true) by simp)]
    by_cases h1 : v = 1
    ·rw [if_pos h1]
     have z : (v - 1).toNat = 0 := by omega
     rw [z]
     cases m with
     | zero =>
      have e2 : circGo x 0 0 (met.set 0 true) = decide (0 = 0) := rfl
      rw [e2, decide_eq_true rfl, decide_eq_true (by omega)]
     | succ m =>
      rw [decide_eq_false (by omega), circGo_succ]
      have key : 1 ≤ x.getD 0 0 ∧ x.getD 0 0 ≤ (x.length : Int) ∧ (met.set 0 true).getD (x.getD 0 0 - 1).toNat false = true := by
       rcases h4 with ⟨a, b⟩ | ⟨a, b, c, d, f⟩
       ·subst b
        rw [hw]
        exact ⟨by omega, by omega, (set_at (by omega) _).mpr (.inl z)⟩
       ·exact ⟨c, d, (set_at (by omega) _).mpr (.inr f)⟩
      rw [if_neg (by omega), key.2.2, if_pos rfl]
    ·rw [if_neg h1]
     have st := set_at (l := met) vn
     have := circ_step x m (k + 1) (v - 1).toNat (met.set (v - 1).toNat true) (by omega) (by omega) (by rw [List.length_set]; exact hl)
      (fun j hj => by
       rcases (st j).mp hj with q | q
       ·exact .inl q
       ·refine .inr ?_
        rcases h2 j q with rfl | ⟨a, b, c⟩
        ·rw [hw]
         exact ⟨by omega, by omega, (st _).mpr (.inl rfl)⟩
        ·exact ⟨a, b, (st _).mpr (.inr c)⟩)
      (by
       cases hq : (met.set (v - 1).toNat true).getD 0 false with
       | false => rfl
       | true =>
        rcases (st 0).mp hq with q | q
        ·omega
        ·rw [h3] at q; cases q)
      (.inr ⟨by omega, (st _).mpr (.inl rfl), by
       rcases h4 with ⟨a, b⟩ | ⟨a, b, c, d, f⟩
       ·subst b
        rw [hw]
        exact ⟨by omega, by omega, (st _).mpr (.inl rfl)⟩
       ·exact ⟨c, d, (st _).mpr (.inr f)⟩⟩)
     rw [← ev] at this
     exact this
theorem circ_same (x : List Int) (h : 0 < x.length) : roundX x = circGo x x.length 0 (List.replicate x.length false) := by
 have no : ∀ j, (List.replicate x.length false).getD j false = false := fun j => by
  rw [List.getD_eq_getElem?_getD, List.getElem?_replicate]
  split <;> rfl
 exact circ_step x x.length 0 0 _ (by omega) h (List.length_replicate ..) (fun j hj => by rw [no] at hj; cases hj) (no 0) (.inl ⟨rfl, rfl⟩)
end Go.Proofs.Ytohdaehblenokaa.Ev
set_option linter.unusedVariables false
set_option linter.unusedSimpArgs false
set_option maxRecDepth 100000
namespace Go.Proofs.Ytohdaehblenokaa.Ev
open Go
theorem has_any (l : List Int) (v : Int) : containsL l v = List.any l fun w => decide (w = v) := by
 rw [contains_mem, Bool.eq_iff_iff, decide_eq_true_eq, List.any_eq_true]
 constructor
 ·exact fun h => ⟨v, h, decide_eq_true rfl⟩
 ·rintro ⟨w, h, e⟩
  rw [← of_decide_eq_true e]
  exact h
theorem body_same {kk : Int} {c : RestG} {a : List Int} (V : Val kk c a.length) : bodyX (kk, c) (valuesL c.1 a) (valuesL c.2.1 a) = holdsY (kk, c) a := by
 have vx := values_len c.1 a
 have vy := values_len c.2.1 a
 have cn := V.cn
 have al := V.al
 rcases kinds V.kd with rfl | rfl | rfl | rfl | rfl | rfl | rfl | rfl | rfl | rfl | rfl | rfl | rfl | rfl | rfl | rfl | rfl | rfl | rfl | rfl | rfl | rfl | rfl
 ·rfl
 ·rfl
 ·rfl
 ·rw [cnt_k4] at cn
  simp only [withinD, Bool.and_eq_true, decide_eq_true_eq] at cn
  show truthB ((valuesL c.2.1 a).getD 0 0) (decide (dotL c.2.2.1 (valuesL c.1 a) ≤ c.2.2.2.2.2.1)) = ((decide (a.getD (c.2.1.getD 0 0).toNat 0 = 1) && decide (dotL c.2.2.1 (valuesL c.1 a) ≤ c.2.2.2.2.2.1)) || (decide (a.getD (c.2.1.getD 0 0).toNat 0 = 0) && decide (dotL c.2.2.1 (valuesL c.1 a) > c.2.2.2.2.2.1)))
  rw [← values_get (show 0 < c.2.1.length by omega)]
  generalize (valuesL c.2.1 a).getD 0 0 = b
  generalize dotL c.2.2.1 (valuesL c.1 a) = s
  unfold truthB
  have e : decide (s > c.2.2.2.2.2.1) = !(decide (s ≤ c.2.2.2.2.2.1)) := by
   rw [Bool.eq_iff_iff, Bool.not_eq_true', decide_eq_true_eq, decide_eq_false_iff_not]
   omega
  rw [e]
  cases decide (b = 0) <;> cases decide (b = 1) <;> cases decide (s ≤ c.2.2.2.2.2.1) <;> rfl
 ·rfl
 ·rfl
 ·rfl
 ·rfl
 ·rfl
 ·rfl
 ·rfl
 ·show (containsL (valuesL c.1 a) 1 || containsL (valuesL c.2.1 a) 0) = (List.any (valuesL c.1 a) (fun v => decide (v = 1)) || List.any (valuesL c.2.1 a) (fun v => decide (v = 0)))
  rw [has_any, has_any]
 ·rfl
 ·rfl
 ·rfl
 ·rfl
 ·exact apart_same _
 ·rfl
 ·rfl
 ·rw [cnt_k20] at cn
  simp only [withinD, Bool.and_eq_true, decide_eq_true_eq] at cn
  show roundX (valuesL c.1 a) = circGo (valuesL c.1 a) c.1.length 0 (List.replicate c.1.length false)
  rw [circ_same _ (by omega), vx]
 ·rfl
 ·have al : decide ((c.2.1.length : Int) = (c.1.length : Int)) = true := al
  rw [decide_eq_true_eq] at al
  exact lex_cmp _ _ (by omega)
 ·have al : decide ((c.2.1.length : Int) = (c.1.length : Int)) = true := al
  rw [decide_eq_true_eq] at al
  exact inv_same (by omega)
theorem holds_any (c : Con) (a : List Int) : holdsX c a = anyY c a := by
 obtain ⟨kk, c⟩ := c
 have e0 : holdsX (kk, c) a = bif !(decide (rightG (kk, c) (a.length : Int) = 0)) || List.any a farB then false else bodyX (kk, c) (valuesL c.1 a) (valuesL c.2.1 a) := rfl
 have e1 : anyY (kk, c) a = bif !(decide (rightD (kk, c) (a.length : Int) = 0)) || List.any a farB then false else holdsY (kk, c) a := rfl
 rw [e0, e1, ← right_all (kk, c) _ (by omega)]
 by_cases hr : rightG (kk, c) (a.length : Int) = 0
 ·rw [body_same (val_of hr)]
 ·rw [decide_eq_false hr]
  rfl
end Go.Proofs.Ytohdaehblenokaa.Ev
set_option linter.unusedVariables false
set_option linter.unusedSimpArgs false
set_option maxRecDepth 100000
namespace Go.Proofs.Ytohdaehblenokaa.Ev
open Go
theorem dot_snoc (k v : Int) : ∀ (C x : List Int), C.length = x.length → dotL (C ++ [k]) (x ++ [v]) = dotL C x + k * v
 | [], [], _ => by simp [dotL]
 | [], _ :: _, h => by simp at h
 | _ :: _, [], h => by simp at h
 | c :: C, y :: x, h => by
  have ih := dot_snoc k v C x (by simpa using h)
  show c * y + dotL (C ++ [k]) (x ++ [v]) = c * y + dotL C x + k * v
  rw [ih, Int.add_assoc]
theorem dot_rev : ∀ (C x : List Int), C.length = x.length → dotL C.reverse x.reverse = dotL C x
 | [], [], _ => rfl
 | [], _ :: _, h => by simp at h
 | _ :: _, [], h => by simp at h
 | c :: C, y :: x, h => by
  have h' : C.length = x.length := by simpa using h
  rw [List.reverse_cons, List.reverse_cons, dot_snoc _ _ _ _ (by rw [List.length_reverse, List.length_reverse, h']), dot_rev C x h']
  show dotL C x + c * y = c * y + dotL C x
  exact Int.add_comm _ _
theorem load_snoc (t x c d : Int) : ∀ (xs cs ds : List Int), cs.length = xs.length → ds.length = xs.length → loadGo t (xs ++ [x]) (cs ++ [c]) (ds ++ [d]) = loadGo t xs cs ds + (if x ≤ t ∧ t < x + c then d else 0)
 | [], [], [], _, _ => by simp [loadGo]
 | [], _ :: _, _, h, _ => by simp at h
 | [], [], _ :: _, _, h => by simp at h
 | _ :: _, [], _, h, _ => by simp at h
 | _ :: _, _ :: _, [], _, h => by simp at h
 | x' :: xs, c' :: cs, d' :: ds, h1, h2 => by
  have ih := load_snoc t x c d xs cs ds (by simpa using h1) (by simpa using h2)
  show (if x' ≤ t ∧ t < x' + c' then d' else 0) + loadGo t (xs ++ [x]) (cs ++ [c]) (ds ++ [d]) = (if x' ≤ t ∧ t < x' + c' then d' else 0) + loadGo t xs cs ds + (if x ≤ t ∧ t < x + c then d else 0)
  rw [ih, Int.add_assoc]
theorem load_rev (t : Int) : ∀ (xs cs ds : List Int), cs.length = xs.length → ds.length = xs.length → loadGo t xs.reverse cs.reverse ds.reverse = loadGo t xs cs ds
 | [], [], [], _, _ => rfl
 | [], _ :: _, _, h, _ => by simp at h
 | [], [], _ :: _, _, h => by simp at h
 | _ :: _, [], _, h, _ => by simp at h
 | _ :: _, _ :: _, [], _, h => by simp at h
 | x :: xs, c :: cs, d :: ds, h1, h2 => by
  have h1' : cs.length = xs.length := by simpa using h1
  have h2' : ds.length = xs.length := by simpa using h2
  rw [List.reverse_cons, List.reverse_cons, List.reverse_cons, load_snoc _ _ _ _ _ _ _ (by rw [List.length_reverse, List.length_reverse, h1']) (by rw [List.length_reverse, List.length_reverse, h2']), load_rev t xs cs ds h1' h2']
  show loadGo t xs cs ds + (if x ≤ t ∧ t < x + c then d else 0) = (if x ≤ t ∧ t < x + c then d else 0) + loadGo t xs cs ds
  exact Int.add_comm _ _
theorem fit_rev (C D : List Int) (K : Int) (x : List Int) (h1 : C.length = x.length) (h2 : D.length = x.length) : fitL C.reverse D.reverse K x.reverse = fitL C D K x := by
 unfold fitL
 rw [List.all_reverse]
 congr 1
 funext t
 rw [load_rev t x C D h1 h2]
theorem unlike_iff (x : List Int) : unlikeY x = true ↔ x.Nodup := by
 unfold unlikeY
 rw [not_any_iff, nodup_iff]
 constructor
 ·intro h i j hj hi
  have := any_false.mp (h i hi) j hj
  exact of_decide_eq_false this
 ·intro h i hi
  exact any_false.mpr fun j hj => decide_eq_false (h i j hj hi)
theorem unlike_rev (x : List Int) : unlikeY x.reverse = unlikeY x := by
 rw [Bool.eq_iff_iff, unlike_iff, unlike_iff]
 exact (List.reverse_perm x).nodup_iff
theorem cnt_rev (x : List Int) (v : Int) : cntL x.reverse v = cntL x v := by
 unfold cntL
 rw [List.filter_reverse, List.length_reverse]
theorem gcc_rev (C D E x : List Int) : gccL C D E x.reverse = gccL C D E x := by
 unfold gccL
 congr 2
 funext i
 rw [cnt_rev]
theorem has_rev (l : List Int) (v : Int) : containsL l.reverse v = containsL l v := by
 rw [has_any, has_any, List.any_reverse]
theorem values_rev (l a : List Int) : valuesL l.reverse a = (valuesL l a).reverse := List.map_reverse
theorem right_eq (kk : Int) (c : RestG) (n : Int) : rightG (kk, c) n = bif strEq (shapeS kk) ⟨#[]⟩ then 9 else bif !(countedG (kk, c) (shapeS kk) && alikeG (kk, c) && (decide (c.2.2.2.2.2.1 = 0) || has1 (shapeS kk) ⟨#[107]⟩)) then 10 else bif List.any (c.1 ++ c.2.1) (varB n) then 7 else bif !(numbersG (kk, c) && countsG (kk, c)) then 11 else 0 := rfl
theorem holds_eq (kk : Int) (c : RestG) (a : List Int) : holdsX (kk, c) a = bif !(decide (rightG (kk, c) (a.length : Int) = 0)) || List.any a farB then false else bodyX (kk, c) (valuesL c.1 a) (valuesL c.2.1 a) := rfl
theorem right_congr {kk kk' : Int} {c c' : RestG} (n : Int) (h0 : shapeS kk' = shapeS kk) (h1 : countedG (kk', c') (shapeS kk) = countedG (kk, c) (shapeS kk)) (h2 : alikeG (kk', c') = alikeG (kk, c)) (h3 : c'.2.2.2.2.2.1 = c.2.2.2.2.2.1)
  (h4 : List.any (c'.1 ++ c'.2.1) (varB n) = List.any (c.1 ++ c.2.1) (varB n)) (h5 : numbersG (kk', c') = numbersG (kk, c)) (h6 : countsG (kk', c') = countsG (kk, c)) : rightG (kk', c') n = rightG (kk, c) n := by
 rw [right_eq, right_eq, h0, h1, h2, h3, h4, h5, h6]
theorem holds_congr {kk kk' : Int} {c c' : RestG} {a : List Int} (hr : rightG (kk', c') (a.length : Int) = rightG (kk, c) (a.length : Int)) (hb : Val kk c a.length → bodyX (kk', c') (valuesL c'.1 a) (valuesL c'.2.1 a) = bodyX (kk, c) (valuesL c.1 a) (valuesL c.2.1 a)) : holdsX (kk', c') a = holdsX (kk, c) a := by
 rw [holds_eq, holds_eq, hr]
 by_cases h : rightG (kk, c) (a.length : Int) = 0
 ·rw [hb (val_of h)]
 ·rw [decide_eq_false h]
  rfl
theorem bounded_rev (l : List Int) (m : Int) : boundedD l.reverse m = boundedD l m := by
 unfold boundedD
 rw [List.any_reverse]
theorem num_eq (kk : Int) (c : RestG) : numbersG (kk, c) = (!(List.any c.2.2.2.2.2.2 fun r => !(boundedD r (loG (kk, c)))) && (boundedD c.2.2.1 (loG (kk, c)) && (boundedD c.2.2.2.1 (seG (kk, c)) && (boundedD c.2.2.2.2.1 (seG (kk, c)) && (decide (c.2.2.2.2.2.1 ≥ kaG (kk, c)) && decide (c.2.2.2.2.2.1 ≤ 9999999999)))))) := rfl
theorem num_rev1 (kk : Int) (A B C : List Int) (r : List Int × List Int × Int × List (List Int)) : numbersG (kk, (A.reverse, (B, (C.reverse, r)))) = numbersG (kk, (A, (B, (C, r)))) := by
 rw [num_eq, num_eq]
 show (_ && (boundedD C.reverse _ && _)) = _
 rw [bounded_rev]
 rfl
theorem num_rev2 (kk : Int) (A B C D : List Int) (r : List Int × Int × List (List Int)) : numbersG (kk, (A.reverse, (B, (C.reverse, (D.reverse, r))))) = numbersG (kk, (A, (B, (C, (D, r))))) := by
 rw [num_eq, num_eq]
 show (_ && (boundedD C.reverse _ && (boundedD D.reverse _ && _))) = _
 rw [bounded_rev, bounded_rev]
 rfl
theorem num_rev3 (kk : Int) (A B C D G : List Int) (K : Int) (R : List (List Int)) : numbersG (kk, (A, (B, (C, (D, (G, (K, R.reverse))))))) = numbersG (kk, (A, (B, (C, (D, (G, (K, R))))))) := by
 rw [num_eq, num_eq]
 show (!(List.any R.reverse _) && _) = _
 rw [List.any_reverse]
 rfl
theorem order_lin {kk : Int} (hk : kk = 1 ∨ kk = 2 ∨ kk = 3 ∨ kk = 4) (A B C : List Int) (r : List Int × List Int × Int × List (List Int)) (a : List Int) : holdsX (kk, (A.reverse, (B, (C.reverse, r)))) a = holdsX (kk, (A, (B, (C, r)))) a := by
 refine holds_congr (right_congr _ rfl ?_ ?_ rfl ?_ ?_ ?_) fun V => ?_
 ·simp only [countedG, List.length_reverse]
 ·rcases hk with rfl | rfl | rfl | rfl
  all_goals
   show decide ((C.reverse.length : Int) = (A.reverse.length : Int)) = decide ((C.length : Int) = (A.length : Int))
   rw [List.length_reverse, List.length_reverse]
 ·show List.any (A.reverse ++ B) _ = List.any (A ++ B) _
  rw [List.any_append, List.any_append, List.any_reverse]
 ·exact num_rev1 kk A B C r
 ·rcases hk with rfl | rfl | rfl | rfl <;> rfl
 ·have al := V.al
  have hl : C.length = (valuesL A a).length := by
   rw [values_len]
   rcases hk with rfl | rfl | rfl | rfl
   all_goals
    have al : decide ((C.length : Int) = (A.length : Int)) = true := al
    rw [decide_eq_true_eq] at al
    omega
  have hd : dotL C.reverse (valuesL A.reverse a) = dotL C (valuesL A a) := by rw [values_rev, dot_rev _ _ hl]
  rcases hk with rfl | rfl | rfl | rfl
  ·show decide (dotL C.reverse (valuesL A.reverse a) = r.2.2.1) = decide (dotL C (valuesL A a) = r.2.2.1)
   rw [hd]
  ·show decide (dotL C.reverse (valuesL A.reverse a) ≤ r.2.2.1) = decide (dotL C (valuesL A a) ≤ r.2.2.1)
   rw [hd]
  ·show (!(decide (dotL C.reverse (valuesL A.reverse a) = r.2.2.1))) = !(decide (dotL C (valuesL A a) = r.2.2.1))
   rw [hd]
  ·show truthB ((valuesL B a).getD 0 0) (decide (dotL C.reverse (valuesL A.reverse a) ≤ r.2.2.1)) = truthB ((valuesL B a).getD 0 0) (decide (dotL C (valuesL A a) ≤ r.2.2.1))
   rw [hd]
theorem order_vars {kk : Int} (hk : kk = 17 ∨ kk = 21) (A : List Int) (r : List Int × List Int × List Int × List Int × Int × List (List Int)) (a : List Int) : holdsX (kk, (A.reverse, r)) a = holdsX (kk, (A, r)) a := by
 refine holds_congr (right_congr _ rfl ?_ ?_ rfl ?_ ?_ ?_) fun V => ?_
 ·simp only [countedG, List.length_reverse]
 ·rcases hk with rfl | rfl <;> rfl
 ·show List.any (A.reverse ++ _) _ = List.any (A ++ _) _
  rw [List.any_append, List.any_append, List.any_reverse]
 ·rfl
 ·rfl
 ·rcases hk with rfl | rfl
  ·show apartX (valuesL A.reverse a) = apartX (valuesL A a)
   rw [apart_same, apart_same, values_rev, unlike_rev]
  ·show gccL r.2.1 r.2.2.1 r.2.2.2.1 (valuesL A.reverse a) = gccL r.2.1 r.2.2.1 r.2.2.2.1 (valuesL A a)
   rw [values_rev, gcc_rev]
theorem order_clause (A B : List Int) (r : List Int × List Int × List Int × Int × List (List Int)) (a : List Int) : holdsX (12, (A.reverse, (B.reverse, r))) a = holdsX (12, (A, (B, r))) a := by
 refine holds_congr (right_congr _ rfl ?_ rfl rfl ?_ rfl rfl) fun V => ?_
 ·simp only [countedG, List.length_reverse]
 ·show List.any (A.reverse ++ B.reverse) _ = List.any (A ++ B) _
  rw [List.any_append, List.any_append, List.any_reverse, List.any_reverse]
 ·show (containsL (valuesL A.reverse a) 1 || containsL (valuesL B.reverse a) 0) = (containsL (valuesL A a) 1 || containsL (valuesL B a) 0)
  rw [values_rev, values_rev, has_rev, has_rev]
theorem order_cumul (A B C D : List Int) (r : List Int × Int × List (List Int)) (a : List Int) : holdsX (19, (A.reverse, (B, (C.reverse, (D.reverse, r))))) a = holdsX (19, (A, (B, (C, (D, r))))) a := by
 refine holds_congr (right_congr _ rfl ?_ ?_ rfl ?_ ?_ rfl) fun V => ?_
 ·simp only [countedG, List.length_reverse]
 ·show (decide ((C.reverse.length : Int) = (A.reverse.length : Int)) && decide ((D.reverse.length : Int) = (A.reverse.length : Int))) = (decide ((C.length : Int) = (A.length : Int)) && decide ((D.length : Int) = (A.length : Int)))
  rw [List.length_reverse, List.length_reverse, List.length_reverse]
 ·show List.any (A.reverse ++ B) _ = List.any (A ++ B) _
  rw [List.any_append, List.any_append, List.any_reverse]
 ·exact num_rev2 19 A B C D r
 ·have al : (decide ((C.length : Int) = (A.length : Int)) && decide ((D.length : Int) = (A.length : Int))) = true := V.al
  rw [Bool.and_eq_true, decide_eq_true_eq, decide_eq_true_eq] at al
  show fitL C.reverse D.reverse r.2.1 (valuesL A.reverse a) = fitL C D r.2.1 (valuesL A a)
  rw [values_rev, fit_rev _ _ _ _ (by rw [values_len]; omega) (by rw [values_len]; omega)]
theorem order_rows (A B C D G : List Int) (K : Int) (R : List (List Int)) (a : List Int) : holdsX (18, (A, (B, (C, (D, (G, (K, R.reverse))))))) a = holdsX (18, (A, (B, (C, (D, (G, (K, R))))))) a := by
 refine holds_congr (right_congr _ rfl ?_ ?_ rfl rfl ?_ rfl) fun V => ?_
 ·simp only [countedG, List.length_reverse]
 ·show (!(List.any R.reverse (rowN (18, (A, (B, (C, (D, (G, (K, R.reverse)))))))))) = !(List.any R (rowN (18, (A, (B, (C, (D, (G, (K, R)))))))))
  rw [List.any_reverse]
  rfl
 ·exact num_rev3 18 A B C D G K R
 ·show List.any R.reverse (rowEqB (valuesL A a)) = List.any R (rowEqB (valuesL A a))
  rw [List.any_reverse]
end Go.Proofs.Ytohdaehblenokaa.Ev
