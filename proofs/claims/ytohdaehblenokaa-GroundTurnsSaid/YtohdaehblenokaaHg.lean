/-
GroundHolds: what the law's function answers.
Conditions: the kind of what is made is a byte.
GroundTurns without the document's answer: sums, halves, circuits, inverses. Plain lists.
Conditions: the values are small, of five variables.
-/
import Derived.Test.YtohdaehblenokaaHc
import Derived.Test.YtohdaehblenokaaHf
import Derived.Test.YtohdaehblenokaaCf
import Derived.Lib.RowBridge
set_option linter.unusedVariables false
set_option linter.unusedSimpArgs false
set_option maxRecDepth 100000
namespace Go.Proofs.Ytohdaehblenokaa.Ev
open Go Go.RowKit
theorem F526.sem (k : Nat) : callW F526.E false F526.fn k [] = some (.v .bool true) := by
 have e1 : holdsX (17, ([0, 1, 2], ([], ([], ([], ([], ((0 : Int), []))))))) [3, 1, 2] = true := (holds_any _ _).trans (by decide +kernel)
 have e2 : holdsX (17, ([0, 1, 2], ([], ([], ([], ([], ((0 : Int), []))))))) [3, 1, 3] = false := (holds_any _ _).trans (by decide +kernel)
 have e3 : holdsX (20, ([0, 1, 2], ([], ([], ([], ([], ((0 : Int), []))))))) [2, 3, 1] = true := (holds_any _ _).trans (by decide +kernel)
 have e4 : holdsX (20, ([0, 1, 2], ([], ([], ([], ([], ((0 : Int), []))))))) [1, 3, 2] = false := (holds_any _ _).trans (by decide +kernel)
 refine (F526.start_eq k).trans ((bT' rfl).trans ((bT' e1).trans ((bT' rfl).trans ((bT' (by rw [e2]; rfl)).trans ((bT' rfl).trans ((bT' e3).trans ((bT' rfl).trans ?_)))))))
 rw [e4]
 rfl
theorem F526.eok : EOk Go.Proofs.Try.prog F526.E := eo (calls_cons ok567 calls_nil)
theorem ok526 : HandOk Go.Proofs.Try.prog inv 12 h_wakes526 := hand_un fun xs => callW_ok (own := false) (k := 1) F526.eok mixed Go.Proofs.Try.func12 (by kernel_rfl) (show Go.Proofs.Try.f12.body = some (bodyOf Go.Proofs.Try.f12) by kernel_rfl) (F526.sem 1)
theorem nearLB_of {a : List Int} {n : Int} (h0 : 0 ≤ n) (h1 : n ≤ 1000) : nearLB a n = true := by
 unfold nearLB
 rw [decide_eq_true h0, decide_eq_true h1]
 rfl
theorem near_len (a : List Int) (n : Int) : (nearL a n).length = n.toNat := by
 unfold nearL
 rw [List.length_map, List.length_range]
end Go.Proofs.Ytohdaehblenokaa.Ev
set_option linter.unusedVariables false
set_option linter.unusedSimpArgs false
set_option maxRecDepth 100000
namespace Go.Proofs.Ytohdaehblenokaa.Ev
open Go
structure CompP (d : Array Int) (m : Nat) : Prop where
  ris : Rising (Lib.compactUpTo d m)
  mem : ∀ x ∈ Lib.compactUpTo d m, ∃ j, j < m ∧ x = d[j]!
  le : 0 < m → ∀ x ∈ Lib.compactUpTo d m, x ≤ d[m - 1]!
  last : 0 < m → d[m - 1]! ∈ Lib.compactUpTo d m
theorem comp_part {d : Array Int} (hs : ∀ i j, i ≤ j → j < d.size → d[i]! ≤ d[j]!) : ∀ m, m ≤ d.size → CompP d m
 | 0, _ => ⟨List.Pairwise.nil, (fun x hx => absurd hx (by simp [Lib.compactUpTo])), (fun h => absurd h (Nat.lt_irrefl 0)), (fun h => absurd h (Nat.lt_irrefl 0))⟩
 | m + 1, hm => by
  obtain ⟨r, me, le, la⟩ := comp_part hs m (by omega)
  have e : Lib.compactUpTo d (m + 1) = Lib.compactUpTo d m ++ (if Lib.keeps d m then [d[m]!] else []) := Lib.compactUpTo_succ d m
  by_cases hk : Lib.keeps d m = true
  ·rw [if_pos hk] at e
   have hk : m = 0 ∨ d[m]! ≠ d[m - 1]! := of_decide_eq_true (show decide (m = 0 ∨ d[m]! ≠ d[m - 1]!) = true from hk)
   have lt : ∀ x ∈ Lib.compactUpTo d m, x < d[m]! := fun x hx => by
    obtain ⟨j, hj, rfl⟩ := me x hx
    have h1 := le (by omega) _ hx
    have h2 := hs (m - 1) m (by omega) (by omega)
    rcases hk with h | h
    ·omega
    ·omega
   refine ⟨?_, ?_, ?_, ?_⟩
   ·rw [e]
    exact List.pairwise_append.mpr ⟨r, List.pairwise_singleton _ _, fun x hx y hy => by rw [List.mem_singleton.mp hy]; exact lt x hx⟩
   ·rw [e]
    intro x hx
    rcases List.mem_append.mp hx with h | h
    ·obtain ⟨j, hj, h⟩ := me x h
     exact ⟨j, by omega, h⟩
    ·exact ⟨m, by omega, List.mem_singleton.mp h⟩
   ·rw [e]
    intro _ x hx
    show x ≤ d[m]!
    rcases List.mem_append.mp hx with h | h
    ·have := lt x h; omega
    ·rw [List.mem_singleton.mp h]; exact Int.le_refl _
   ·rw [e]
    intro _
    exact List.mem_append.mpr (.inr (List.mem_singleton.mpr rfl))
  ·rw [if_neg hk, List.append_nil] at e
   have hk : ¬ (m = 0 ∨ d[m]! ≠ d[m - 1]!) := fun h => hk (decide_eq_true h)
   have h0 : 0 < m := by omega
   have he : d[m]! = d[m - 1]! := Classical.byContradiction fun h => hk (.inr h)
   refine ⟨by rw [e]; exact r, ?_, ?_, ?_⟩
   ·rw [e]
    intro x hx
    obtain ⟨j, hj, h⟩ := me x hx
    exact ⟨j, by omega, h⟩
   ·rw [e]
    intro _ x hx
    show x ≤ d[m]!
    rw [he]
    exact le h0 x hx
   ·rw [e]
    intro _
    show d[m]! ∈ _
    rw [he]
    exact la h0
theorem pair_le {l : List Int} (h : l.Pairwise (· ≤ ·)) : ∀ i j, i ≤ j → j < l.toArray.size → l.toArray[i]! ≤ l.toArray[j]! := by
 intro i j hij hj
 have hj : j < l.length := by simpa using hj
 by_cases e : i = j
 ·subst e; exact Int.le_refl _
 ·have := List.pairwise_iff_getElem.mp h i j (by omega) hj (by omega)
  simpa [hj, show i < l.length by omega] using this
structure CompS (l y : List Int) : Prop where
  ris : Rising y
  sub : ∀ x ∈ y, x ∈ l
  ne : y ≠ []
  len : y.length ≤ l.length
theorem comp_sort {l : List Int} (h : l ≠ []) : CompS l (compL (sortL l)) := by
 have hl := sortL_lenG l
 have h0 : 0 < l.length := List.length_pos_iff.mpr h
 obtain ⟨r, me, _, la⟩ := comp_part (pair_le (sortL_leG l)) (sortL l).length (by simp)
 refine ⟨r, fun x hx => ?_, fun e => ?_, ?_⟩
 ·obtain ⟨j, hj, rfl⟩ := me x hx
  have : (sortL l).toArray[j]! ∈ sortL l := by
   simp [hj]
  exact sortL_memG.mp this
 ·have := la (by omega)
  rw [show Lib.compactUpTo (sortL l).toArray (sortL l).length = [] from e] at this
  cases this
 ·have := Lib.compact_length_le (sortL l)
  show (Lib.compact (sortL l)).length ≤ _
  omega
theorem holds_true {kk : Int} {c : RestG} {a : List Int} : holdsX (kk, c) a = true ↔ rightG (kk, c) (a.length : Int) = 0 ∧ List.any a farB = false ∧ bodyX (kk, c) (valuesL c.1 a) (valuesL c.2.1 a) = true := by
 rw [holds_eq]
 by_cases h : rightG (kk, c) (a.length : Int) = 0
 ·rw [decide_eq_true h]
  cases List.any a farB with
  | true => simp
  | false => simp [h]
 ·rw [decide_eq_false h]
  simp [h]
theorem holds_ok {kk : Int} {c : RestG} {a : List Int} (h : rightG (kk, c) (a.length : Int) = 0) (hf : List.any a farB = false) : holdsX (kk, c) a = bodyX (kk, c) (valuesL c.1 a) (valuesL c.2.1 a) := by
 rw [holds_eq, decide_eq_true h, hf]
 rfl
theorem near_far (a : List Int) : List.any (nearL a 5) farB = false := by
 rw [List.any_eq_false]
 intro v hv
 unfold nearL at hv
 obtain ⟨i, hi, rfl⟩ := List.mem_map.mp hv
 rw [List.mem_range] at hi
 have hi : i < 5 := hi
 have h : -7 < (if i < a.length then (a.getD i 0).tmod 7 else (i : Int)) ∧ (if i < a.length then (a.getD i 0).tmod 7 else (i : Int)) < 7 := by
  by_cases h : i < a.length
  ·rw [if_pos h]
   exact tmod_abs (by decide)
  ·rw [if_neg h]
   omega
 unfold farB
 rw [decide_eq_false (by omega), decide_eq_false (by omega)]
 decide
theorem near5 (a : List Int) : (nearL a 5).length = 5 := near_len a 5
structure LinOk (A C : List Int) (K : Int) : Prop where
  h1 : 1 ≤ A.length
  h2 : A.length ≤ 64
  hc : C.length = A.length
  ha : ∀ v ∈ A, 0 ≤ v ∧ v < 5
  hC : ∀ v ∈ C, -1000000 ≤ v ∧ v ≤ 1000000
  hK : -9999999999 ≤ K ∧ K ≤ 9999999999
theorem bounded_of {C : List Int} {m : Int} (h : ∀ v ∈ C, m ≤ v ∧ v ≤ 1000000) : boundedD C m = true := by
 unfold boundedD
 have : List.any C (numB m) = false := by
  rw [List.any_eq_false]
  intro v hv
  unfold numB
  have := h v hv
  rw [decide_eq_false (by omega), decide_eq_false (by omega)]
  decide
 rw [this]
 rfl
theorem lin_right {kk : Int} (hk : kk = 1 ∨ kk = 2 ∨ kk = 3) {A C : List Int} {K : Int} (L : LinOk A C K) : rightG (kk, (A, ([], (C, ([], ([], (K, []))))))) 5 = 0 := by
 have hi : inS kk = true := by rcases hk with rfl | rfl | rfl <;> rfl
 have e1 : countedG (kk, (A, ([], (C, ([], ([], (K, []))))))) (shapeS kk) = true := by
  have w1 : withinD (A.length : Int) 1 64 = true := by unfold withinD; rw [decide_eq_true (by have := L.h1; omega), decide_eq_true (by have := L.h2; omega)]; rfl
  have w2 : withinD (C.length : Int) 1 64 = true := by rw [L.hc]; exact w1
  rcases hk with rfl | rfl | rfl
  ·rw [cnt_k1]; show (true && (withinD (A.length : Int) 1 64 && (true && (withinD (C.length : Int) 1 64 && (true && true))))) = true; rw [w1, w2]; rfl
  ·rw [cnt_k2]; show (true && (withinD (A.length : Int) 1 64 && (true && (withinD (C.length : Int) 1 64 && (true && true))))) = true; rw [w1, w2]; rfl
  ·rw [cnt_k3]; show (true && (withinD (A.length : Int) 1 64 && (true && (withinD (C.length : Int) 1 64 && (true && true))))) = true; rw [w1, w2]; rfl
 have e2 : alikeG (kk, (A, ([], (C, ([], ([], (K, []))))))) = true := by
  rcases hk with rfl | rfl | rfl
  all_goals
   show decide ((C.length : Int) = (A.length : Int)) = true
   exact decide_eq_true (by rw [L.hc])
 have e3 : has1 (shapeS kk) ⟨#[107]⟩ = true := by
  rcases hk with rfl | rfl | rfl
  ·exact h1_1_107
  ·exact h1_2_107
  ·exact h1_3_107
 have e4 : List.any (A ++ []) (varB 5) = false := by
  rw [List.append_nil, List.any_eq_false]
  intro v hv
  have := L.ha v hv
  unfold varB
  rw [decide_eq_false (by omega), decide_eq_false (by omega)]
  decide
 have e5 : numbersG (kk, (A, ([], (C, ([], ([], (K, []))))))) = true := by
  rcases hk with rfl | rfl | rfl
  all_goals
   show (true && (boundedD C (-1000000) && (boundedD [] (-1000000) && (boundedD [] (-1000000) && (decide (K ≥ -9999999999) && decide (K ≤ 9999999999)))))) = true
   rw [bounded_of L.hC, decide_eq_true (show K ≥ -9999999999 from L.hK.1), decide_eq_true L.hK.2]
   rfl
 have e6 : countsG (kk, (A, ([], (C, ([], ([], (K, []))))))) = true := by rcases hk with rfl | rfl | rfl <;> rfl
 rw [right_eq, shape_ne hi, e1, e2, e3]
 show (bif !(true && true && (_ || true)) then (10 : Int) else bif List.any (A ++ []) (varB 5) then 7 else _) = 0
 rw [e4, Bool.or_true]
 show (bif !(numbersG (kk, (A, ([], (C, ([], ([], (K, []))))))) && countsG (kk, (A, ([], (C, ([], ([], (K, []))))))) ) then (11 : Int) else 0) = 0
 rw [e5, e6]
 rfl
theorem turn_lin {A C : List Int} {K : Int} (L : LinOk A C K) (a : List Int) : ((holdsX (1, (A, ([], (C, ([], ([], (K, []))))))) (nearL a 5) == holdsX (3, (A, ([], (C, ([], ([], (K, []))))))) (nearL a 5)) = false) ∧
  (holdsX (1, (A, ([], (C, ([], ([], (K, []))))))) (nearL a 5) = true → holdsX (2, (A, ([], (C, ([], ([], (K, []))))))) (nearL a 5) = true) := by
 have hl : (((nearL a 5).length : Nat) : Int) = 5 := by rw [near5]; rfl
 have f := near_far a
 have r := fun {kk : Int} (hk : kk = 1 ∨ kk = 2 ∨ kk = 3) => (show rightG (kk, (A, ([], (C, ([], ([], (K, []))))))) ((nearL a 5).length : Int) = 0 by rw [hl]; exact lin_right hk L)
 rw [holds_ok (r (.inl rfl)) f, holds_ok (r (.inr (.inl rfl))) f, holds_ok (r (.inr (.inr rfl))) f]
 show (decide (dotL C (valuesL A (nearL a 5)) = K) == !(decide (dotL C (valuesL A (nearL a 5)) = K))) = false ∧ (decide (dotL C (valuesL A (nearL a 5)) = K) = true → decide (dotL C (valuesL A (nearL a 5)) ≤ K) = true)
 generalize dotL C (valuesL A (nearL a 5)) = s
 refine ⟨by cases decide (s = K) <;> rfl, fun h => ?_⟩
 have h := of_decide_eq_true h
 exact decide_eq_true (by omega)
theorem half_right {kk kk' : Int} (h : (kk = 13 ∧ kk' = 15) ∨ (kk = 14 ∧ kk' = 16)) (c : RestG) (n : Int) : rightG (kk', c) n = rightG (kk, c) n := by
 rcases h with ⟨rfl, rfl⟩ | ⟨rfl, rfl⟩
 ·exact right_congr n (by decide +kernel) rfl rfl rfl rfl rfl rfl
 ·exact right_congr n (by decide +kernel) rfl rfl rfl rfl rfl rfl
theorem truth_implied {b : Int} {so : Bool} (h : truthB b so = true) : impliedB b so = true ∧ (b = 0 ∨ b = 1) := by
 unfold truthB at h
 unfold impliedB
 cases so
 ·simp at h
  simp [h]
 ·simp at h
  simp [h]
theorem turn_half {kk kk' : Int} (h : (kk = 13 ∧ kk' = 15) ∨ (kk = 14 ∧ kk' = 16)) {c : RestG} {a : List Int} (hh : holdsX (kk, c) a = true) : holdsX (kk', c) a = true := by
 obtain ⟨h1, h2, h3⟩ := holds_true.mp hh
 refine holds_true.mpr ⟨(half_right h c _).trans h1, h2, ?_⟩
 rcases h with ⟨rfl, rfl⟩ | ⟨rfl, rfl⟩
 ·exact (truth_implied (show truthB ((valuesL c.2.1 a).getD 0 0) (decide ((valuesL c.1 a).getD 0 0 = c.2.2.2.2.2.1)) = true from h3)).1
 ·exact (truth_implied (show truthB ((valuesL c.2.1 a).getD 0 0) (decide ((valuesL c.1 a).getD 0 0 ≤ c.2.2.2.2.2.1)) = true from h3)).1
theorem turn_01 {kk : Int} (h : kk = 13 ∨ kk = 14) {c : RestG} {a : List Int} (hh : holdsX (kk, c) a = true) : 0 < c.2.1.length ∧ 0 ≤ c.2.1.getD 0 0 ∧ c.2.1.getD 0 0 < (a.length : Int) ∧ (a.getD (c.2.1.getD 0 0).toNat 0 = 0 ∨ a.getD (c.2.1.getD 0 0).toNat 0 = 1) := by
 obtain ⟨h1, h2, h3⟩ := holds_true.mp hh
 have V := val_of h1
 have hb : 0 < c.2.1.length := by
  have cn := V.cn
  rcases h with rfl | rfl
  ·rw [cnt_k13] at cn
   simp only [withinD, Bool.and_eq_true, decide_eq_true_eq] at cn
   omega
  ·rw [cnt_k14] at cn
   simp only [withinD, Bool.and_eq_true, decide_eq_true_eq] at cn
   omega
 have hp := V.pl (c.2.1.getD 0 0) (List.mem_append_right _ (by
  rw [get_of hb]
  exact List.getElem_mem hb))
 refine ⟨hb, hp.1, hp.2, ?_⟩
 rw [← values_get hb]
 rcases h with rfl | rfl
 ·exact (truth_implied (show truthB ((valuesL c.2.1 a).getD 0 0) (decide ((valuesL c.1 a).getD 0 0 = c.2.2.2.2.2.1)) = true from h3)).2
 ·exact (truth_implied (show truthB ((valuesL c.2.1 a).getD 0 0) (decide ((valuesL c.1 a).getD 0 0 ≤ c.2.2.2.2.2.1)) = true from h3)).2
theorem circ_sur (x : List Int) : ∀ (m i : Nat) (met : List Bool), met.length = x.length → i < x.length → circGo x m i met = true →
  ∃ q : List Nat, q.length = m ∧ q.Nodup ∧ ∀ j ∈ q, j < x.length ∧ met.getD j false = false ∧ ∃ s, s < x.length ∧ x.getD s 0 = (j : Int) + 1
 | 0, i, met, _, _, _ => ⟨[], rfl, List.nodup_nil, fun j h => absurd h (by simp)⟩
 | m + 1, i, met, hm, hi, h => by
  have h : (if x.getD i 0 < 1 ∨ x.getD i 0 > (x.length : Int) then false else if met.getD (x.getD i 0 - 1).toNat false then false else circGo x m (x.getD i 0 - 1).toNat (met.set (x.getD i 0 - 1).toNat true)) = true := h
  by_cases h1 : x.getD i 0 < 1 ∨ x.getD i 0 > (x.length : Int)
  ·rw [if_pos h1] at h
   cases h
  ·rw [if_neg h1] at h
   by_cases h2 : met.getD (x.getD i 0 - 1).toNat false = true
   ·rw [if_pos h2] at h
    cases h
   ·rw [if_neg h2] at h
    have hj : (x.getD i 0 - 1).toNat < x.length := by omega
    obtain ⟨q, q1, q2, q3⟩ := circ_sur x m _ _ (by rw [List.length_set, hm]) hj h
    refine ⟨(x.getD i 0 - 1).toNat :: q, by rw [List.length_cons, q1], List.nodup_cons.mpr ⟨fun hmem => ?_, q2⟩, fun j hjm => ?_⟩
    ·have := (q3 _ hmem).2.1
     rw [(set_at (by omega) _).mpr (.inl rfl)] at this
     cases this
    ·rcases List.mem_cons.mp hjm with rfl | hjm
     ·exact ⟨hj, by simpa using h2, i, hi, by omega⟩
     ·obtain ⟨a1, a2, a3⟩ := q3 j hjm
      refine ⟨a1, ?_, a3⟩
      cases hb : met.getD j false with
      | false => rfl
      | true => rw [(set_at (by omega) j).mpr (.inr hb)] at a2; cases a2
theorem circ_nodup {x : List Int} (h0 : 0 < x.length) (h : circGo x x.length 0 (List.replicate x.length false) = true) : x.Nodup := by
 obtain ⟨q, q1, q2, q3⟩ := circ_sur x x.length 0 _ (by rw [List.length_replicate]) h0 h
 have sur : ∀ j, j < x.length → ∃ s, s < x.length ∧ x.getD s 0 = (j : Int) + 1 := fun j hj => (q3 j (pigeon q2 q1 (fun p hp => (q3 p hp).1) hj)).2.2
 rw [nodup_iff]
 intro i j hji hi e
 have hn : ((List.range x.length).map fun k : Nat => (k : Int) + 1).Nodup := by
  unfold List.Nodup
  rw [List.pairwise_map]
  exact List.nodup_range.imp fun {a b} hab hc => hab (by omega)
 have := nodup_le _ (x.eraseIdx i) hn fun v hv => by
  obtain ⟨k, hk, rfl⟩ := List.mem_map.mp hv
  obtain ⟨s, hs, hx⟩ := sur k (List.mem_range.mp hk)
  rw [List.mem_eraseIdx_iff_getElem]
  by_cases hsi : s = i
  ·subst hsi
   exact ⟨j, by omega, by omega, by rw [← get_of (by omega), ← e]; exact hx⟩
  ·exact ⟨s, hs, hsi, by rw [← get_of hs]; exact hx⟩
 rw [List.length_map, List.length_range, List.length_eraseIdx_of_lt hi] at this
 omega
theorem sub_values {A y a : List Int} (hr : Rising y) (hs : ∀ v ∈ y, v ∈ A) (hn : (valuesL A a).Nodup) : (valuesL y a).Nodup := by
 unfold valuesL List.Nodup
 rw [List.pairwise_map]
 refine hr.imp_of_mem fun {u v} hu hv huv e => ?_
 obtain ⟨i, hi, e1⟩ := List.getElem_of_mem (hs u hu)
 obtain ⟨j, hj, e2⟩ := List.getElem_of_mem (hs v hv)
 have hl := values_len A a
 have vi : (valuesL A a).getD i 0 = a.getD u.toNat 0 := by rw [values_get hi, get_of hi, e1]
 have vj : (valuesL A a).getD j 0 = a.getD v.toNat 0 := by rw [values_get hj, get_of hj, e2]
 have hij : i ≠ j := fun q => by
  subst q
  have : u = v := e1.symm.trans e2
  omega
 rw [nodup_iff] at hn
 rcases Nat.lt_or_gt_of_ne hij with q | q
 ·exact hn j i q (by omega) (by rw [vi, vj, e])
 ·exact hn i j q (by omega) (by rw [vi, vj, e])
theorem turn_circ {c : RestG} {a : List Int} (h : holdsX (20, c) a = true) : holdsX (17, (compL (sortL c.1), ([], ([], ([], ([], ((0 : Int), []))))))) a = true := by
 obtain ⟨h1, h2, h3⟩ := holds_true.mp h
 have V := val_of h1
 have cn := V.cn
 rw [cnt_k20] at cn
 simp only [withinD, Bool.and_eq_true, decide_eq_true_eq] at cn
 have h0 : 0 < c.1.length := by omega
 have hl := values_len c.1 a
 have hx : (valuesL c.1 a).Nodup := by
  have h3 : roundX (valuesL c.1 a) = true := h3
  rw [circ_same _ (by omega)] at h3
  exact circ_nodup (by omega) h3
 have S := comp_sort (l := c.1) (List.length_pos_iff.mp h0)
 generalize compL (sortL c.1) = y at S
 have hy : 1 ≤ y.length := List.length_pos_iff.mpr S.ne
 have hy2 := S.len
 have r : rightG (17, (y, ([], ([], ([], ([], ((0 : Int), []))))))) (a.length : Int) = 0 := by
  have e1 : countedG (17, (y, ([], ([], ([], ([], ((0 : Int), []))))))) (shapeS 17) = true := by
   rw [cnt_k17]
   show (true && (withinD (y.length : Int) 1 64 && true)) = true
   unfold withinD
   rw [decide_eq_true (show (y.length : Int) ≥ 1 by omega), decide_eq_true (show (y.length : Int) ≤ 64 by omega)]
   rfl
  have e4 : List.any (y ++ []) (varB (a.length : Int)) = false := by
   rw [List.append_nil, List.any_eq_false]
   intro v hv
   have := V.pl v (List.mem_append_left _ (S.sub v hv))
   unfold varB
   rw [decide_eq_false (by omega), decide_eq_false (by omega)]
   decide
  rw [right_eq, shape_ne rfl, e1]
  show (bif !(true && true && (true || has1 (shapeS 17) ⟨#[107]⟩)) then (10 : Int) else bif List.any (y ++ []) (varB (a.length : Int)) then 7 else _) = 0
  rw [Bool.true_or, e4]
  rfl
 refine holds_true.mpr ⟨r, h2, ?_⟩
 show apartX (valuesL y a) = true
 rw [apart_same, unlike_iff]
 exact sub_values S.ris S.sub hx
theorem inv_sym {x y : List Int} (hl : y.length = x.length) : invY y x = invY x y := by
 rw [Bool.eq_iff_iff]
 unfold invY
 rw [not_any_iff, not_any_iff, hl]
 have sw : ∀ i k, invP y x i k = false ↔ invP x y k i = false := fun i k => by
  unfold invP
  rw [hl]
  simp only [Bool.or_eq_false_iff, decide_eq_false_iff_not, Bool.not_eq_false', beq_iff_eq]
  constructor
  ·rintro ⟨a1, a2, a3, a4, a5⟩
   exact ⟨a3, a4, a1, a2, a5.symm⟩
  ·rintro ⟨a1, a2, a3, a4, a5⟩
   exact ⟨a3, a4, a1, a2, a5.symm⟩
 constructor
 ·intro h i hi
  exact any_false.mpr fun k hk => (sw k i).mp (any_false.mp (h k hk) i hi)
 ·intro h i hi
  exact any_false.mpr fun k hk => (sw i k).mpr (any_false.mp (h k hk) i hi)
theorem turn_inv (A B : List Int) (r : List Int × List Int × List Int × Int × List (List Int)) (a : List Int) : holdsX (23, (B, (A, r))) a = holdsX (23, (A, (B, r))) a := by
 refine holds_congr (right_congr _ rfl ?_ ?_ rfl ?_ rfl rfl) fun V => ?_
 ·rw [cnt_k23, cnt_k23]
  show (_ && (withinD (B.length : Int) 1 64 && (withinD (A.length : Int) 1 64 && _))) = (_ && (withinD (A.length : Int) 1 64 && (withinD (B.length : Int) 1 64 && _)))
  cases withinD (B.length : Int) 1 64 <;> cases withinD (A.length : Int) 1 64 <;> rfl
 ·show decide ((A.length : Int) = (B.length : Int)) = decide ((B.length : Int) = (A.length : Int))
  by_cases h : (A.length : Int) = (B.length : Int)
  ·rw [decide_eq_true h, decide_eq_true h.symm]
  ·rw [decide_eq_false h, decide_eq_false fun q => h q.symm]
 ·show List.any (B ++ A) _ = List.any (A ++ B) _
  rw [List.any_append, List.any_append, Bool.or_comm]
 ·have al : decide ((B.length : Int) = (A.length : Int)) = true := V.al
  rw [decide_eq_true_eq] at al
  have l1 := values_len A a
  have l2 := values_len B a
  show inverseX (valuesL B a) (valuesL A a) = inverseX (valuesL A a) (valuesL B a)
  rw [inv_same (by omega), inv_same (by omega), inv_sym (by omega)]
end Go.Proofs.Ytohdaehblenokaa.Ev
