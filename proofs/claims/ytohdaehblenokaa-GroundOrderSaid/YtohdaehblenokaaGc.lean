/-
The functions as the evaluator runs them: printed by a program of mine, each equation by kernel_rfl.
Conditions: none.
The functions as the evaluator runs them: printed by a program of mine, each equation by kernel_rfl.
Conditions: none.
The functions as the evaluator runs them: printed by a program of mine, each equation by kernel_rfl.
Conditions: none.
The functions as the evaluator runs them: printed by a program of mine, each equation by kernel_rfl.
Conditions: none.
The functions as the evaluator runs them: printed by a program of mine, each equation by kernel_rfl.
Conditions: none.
May a constraint be: the program's answer, the document's; what the functions answer.
Conditions: lists of at most 1000 elements.
May a constraint be: the program's answer is the document's; the contracts.
Conditions: lists of at most 1000 elements, so many variables that there may be.
Does a constraint hold, the program's answer: what the functions answer.
Conditions: as the handlers ask.
-/
import Derived.Test.YtohdaehblenokaaGh
import Derived.Test.YtohdaehblenokaaGj
set_option linter.unusedVariables false
set_option linter.unusedSimpArgs false
set_option maxRecDepth 100000
namespace Go.Proofs.Ytohdaehblenokaa.Ev
open Go
end Go.Proofs.Ytohdaehblenokaa.Ev
set_option linter.unusedVariables false
set_option linter.unusedSimpArgs false
set_option maxRecDepth 100000
namespace Go.Proofs.Ytohdaehblenokaa.Ev
open Go
end Go.Proofs.Ytohdaehblenokaa.Ev
set_option linter.unusedVariables false
set_option linter.unusedSimpArgs false
set_option maxRecDepth 100000
namespace Go.Proofs.Ytohdaehblenokaa.Ev
open Go
end Go.Proofs.Ytohdaehblenokaa.Ev
set_option linter.unusedVariables false
set_option linter.unusedSimpArgs false
set_option maxRecDepth 100000
namespace Go.Proofs.Ytohdaehblenokaa.Ev
open Go
end Go.Proofs.Ytohdaehblenokaa.Ev
set_option linter.unusedVariables false
set_option linter.unusedSimpArgs false
set_option maxRecDepth 100000
namespace Go.Proofs.Ytohdaehblenokaa.Ev
open Go
end Go.Proofs.Ytohdaehblenokaa.Ev
set_option linter.unusedVariables false
set_option linter.unusedSimpArgs false
set_option maxRecDepth 100000
namespace Go.Proofs.Ytohdaehblenokaa.Ev
open Go
theorem kinds {k : Int} (h : inS k = true) : k = 1 ∨ k = 2 ∨ k = 3 ∨ k = 4 ∨ k = 5 ∨ k = 6 ∨ k = 7 ∨ k = 8 ∨ k = 9 ∨ k = 10 ∨ k = 11 ∨ k = 12 ∨ k = 13 ∨ k = 14 ∨ k = 15 ∨ k = 16 ∨ k = 17 ∨ k = 18 ∨ k = 19 ∨ k = 20 ∨ k = 21 ∨ k = 22 ∨ k = 23 := by
 unfold inS at h
 simp only [Bool.and_eq_true, decide_eq_true_eq] at h
 omega
theorem shape_ne {k : Int} (h : inS k = true) : strEq (shapeS k) ⟨#[]⟩ = false := by
 rcases kinds h with rfl | rfl | rfl | rfl | rfl | rfl | rfl | rfl | rfl | rfl | rfl | rfl | rfl | rfl | rfl | rfl | rfl | rfl | rfl | rfl | rfl | rfl | rfl <;> rfl
theorem shape_no {k : Int} (h : inS k = false) : strEq (shapeS k) ⟨#[]⟩ = true := by
 unfold shapeS
 rw [h]
 rfl
theorem rig_all (kk : Int) (c : RestG) (h : inS kk = true) : (countedG (kk, c) (shapeS kk) && alikeG (kk, c) && (decide (c.2.2.2.2.2.1 = 0) || has1 (shapeS kk) ⟨#[107]⟩)) = arityG (kk, c) (shapesL.getD kk.toNat ByteArray.empty) := by
 rcases kinds h with rfl | rfl | rfl | rfl | rfl | rfl | rfl | rfl | rfl | rfl | rfl | rfl | rfl | rfl | rfl | rfl | rfl | rfl | rfl | rfl | rfl | rfl | rfl
 ·exact rig_k1 c
 ·exact rig_k2 c
 ·exact rig_k3 c
 ·exact rig_k4 c
 ·exact rig_k5 c
 ·exact rig_k6 c
 ·exact rig_k7 c
 ·exact rig_k8 c
 ·exact rig_k9 c
 ·exact rig_k10 c
 ·exact rig_k11 c
 ·exact rig_k12 c
 ·exact rig_k13 c
 ·exact rig_k14 c
 ·exact rig_k15 c
 ·exact rig_k16 c
 ·exact rig_k17 c
 ·exact rig_k18 c
 ·exact rig_k19 c
 ·exact rig_k20 c
 ·exact rig_k21 c
 ·exact rig_k22 c
 ·exact rig_k23 c
theorem cnt_vars (kk : Int) (c : RestG) (hk : inS kk = true) (h : countedG (kk, c) (shapeS kk) = true) : varsB (kk, c) = true := by
 unfold varsB
 simp only [Bool.and_eq_true, decide_eq_true_eq]
 show 0 < (c.1.length : Int) + c.2.1.length ∧ (c.1.length : Int) + c.2.1.length ≤ 1000
 rcases kinds hk with rfl | rfl | rfl | rfl | rfl | rfl | rfl | rfl | rfl | rfl | rfl | rfl | rfl | rfl | rfl | rfl | rfl | rfl | rfl | rfl | rfl | rfl | rfl <;>
  simp only [cnt_k1, cnt_k2, cnt_k3, cnt_k4, cnt_k5, cnt_k6, cnt_k7, cnt_k8, cnt_k9, cnt_k10, cnt_k11, cnt_k12, cnt_k13, cnt_k14, cnt_k15, cnt_k16, cnt_k17, cnt_k18, cnt_k19, cnt_k20, cnt_k21, cnt_k22, cnt_k23, withinD, Bool.and_eq_true, decide_eq_true_eq] at h <;> omega
theorem cnt_counts (kk : Int) (c : RestG) (h : countedG (kk, c) (shapeS kk) = true) (ha : alikeG (kk, c) = true) : countsB (kk, c) = true := by
 unfold countsB
 by_cases h1 : kk = 21
 ·subst h1
  rw [cnt_k21] at h
  have ha : (decide ((c.2.2.2.1.length : Int) = (c.2.2.1.length : Int)) && decide ((c.2.2.2.2.1.length : Int) = (c.2.2.1.length : Int))) = true := ha
  simp only [withinD, Bool.and_eq_true, decide_eq_true_eq] at h ha
  show (!(decide ((21 : Int) = 21)) || (sortB c.2.2.1 && decide (c.2.2.2.1.length = c.2.2.1.length) && decide (c.2.2.2.2.1.length = c.2.2.1.length))) = true
  have e1 : sortB c.2.2.1 = true := by
   unfold sortB
   have hc : 0 < c.2.2.1.length := by omega
   cases hl : c.2.2.1 with
   | nil => rw [hl] at hc; cases hc
   | cons x xs =>
    have : (x :: xs).length ≤ 1000 := by rw [← hl]; omega
    rw [Nat.ble_eq_true_of_le this]
    rfl
  rw [e1, decide_eq_true (show c.2.2.2.1.length = c.2.2.1.length by omega), decide_eq_true (show c.2.2.2.2.1.length = c.2.2.1.length by omega)]
  rfl
 ·show (!(decide (kk = 21)) || _) = true
  rw [decide_eq_false h1]
  rfl
theorem F76.sem (k : Nat) (kk : Int) (c : RestG) (n : Int) (hs : smallC (kk, c) = true) : callW F76.E false F76.fn k [.agg (explode ConT (kk, c)), .v (.int .i64) n] = some (.v (.int .i64) (rightG (kk, c) n)) := by
 refine (F76.start_eq k kk c n).trans ?_
 have e0 : rightG (kk, c) n = bif strEq (shapeS kk) ⟨#[]⟩ then 9 else bif !(countedG (kk, c) (shapeS kk) && alikeG (kk, c) && (decide (c.2.2.2.2.2.1 = 0) || has1 (shapeS kk) ⟨#[107]⟩)) then 10 else bif List.any (varsD (kk, c)) (varB n) then 7 else bif !(numbersG (kk, c) && countsG (kk, c)) then 11 else 0 := rfl
 rw [e0]
 cases hk : inS kk with
 | false => rw [shape_no hk]; rfl
 | true =>
  rw [shape_ne hk]
  refine (bF' rfl).trans ((bT' hs).trans ?_)
  cases hc : countedG (kk, c) (shapeS kk) with
  | false => rfl
  | true =>
   refine (bF' rfl).trans ((bT' hs).trans ?_)
   cases ha : alikeG (kk, c) with
   | false => rfl
   | true =>
    refine (bF' rfl).trans ?_
    rw [cnt_vars kk c hk hc, hs, cnt_counts kk c hc ha]
    cases decide (c.2.2.2.2.2.1 = 0) <;> cases has1 (shapeS kk) ⟨#[107]⟩ <;> cases List.any (varsD (kk, c)) (varB n) <;> cases numbersG (kk, c) <;> cases countsG (kk, c) <;> rfl
end Go.Proofs.Ytohdaehblenokaa.Ev
set_option linter.unusedVariables false
set_option linter.unusedSimpArgs false
set_option maxRecDepth 100000
namespace Go.Proofs.Ytohdaehblenokaa.Ev
open Go Go.RowKit
theorem sortL_memG {l : List Int} {x : Int} : x ∈ sortL l ↔ x ∈ l := List.mem_mergeSort
theorem sortL_leG (l : List Int) : (sortL l).Pairwise (· ≤ ·) := by
 have h := List.pairwise_mergeSort (le := fun x y : Int => decide (x ≤ y)) (fun a b c h1 h2 => by
  have h1 := of_decide_eq_true h1; have h2 := of_decide_eq_true h2; exact decide_eq_true (by omega)) (fun a b => by
  rw [Bool.or_eq_true, decide_eq_true_iff, decide_eq_true_iff]; omega) l
 exact h.imp fun h => of_decide_eq_true h
theorem sortL_perm (l : List Int) : (sortL l).Perm l := List.mergeSort_perm l _
theorem get_of {l : List Int} {i : Nat} (h : i < l.length) : l.getD i 0 = l[i] := by rw [List.getD_eq_getElem?_getD, List.getElem?_eq_getElem h]; rfl
theorem nodup_iff {l : List Int} : l.Nodup ↔ ∀ i j, j < i → i < l.length → l.getD i 0 ≠ l.getD j 0 := by
 unfold List.Nodup
 rw [List.pairwise_iff_getElem]
 constructor
 ·intro h i j hj hi e
  rw [get_of hi, get_of (by omega)] at e
  exact h j i (by omega) hi hj e.symm
 ·intro h j i hj hi hji e
  refine h i j hji hi ?_
  rw [get_of hi, get_of hj]
  exact e.symm
theorem adj_nodup {l : List Int} (hs : l.Pairwise (· ≤ ·)) : (∀ i, 0 < i → i < l.length → l.getD i 0 ≠ l.getD (i - 1) 0) ↔ l.Nodup := by
 rw [nodup_iff]
 have mono : ∀ i j, j ≤ i → i < l.length → l.getD j 0 ≤ l.getD i 0 := fun i j hj hi => by
  by_cases e : j = i
  ·rw [e]; exact Int.le_refl _
  ·have := List.pairwise_iff_getElem.mp hs j i (by omega) hi (by omega)
   rw [get_of hi, get_of (by omega)]
   exact this
 constructor
 ·intro h i j hj hi e
  have h1 := h i (by omega) hi
  have h2 := mono i (i - 1) (by omega) hi
  have h3 := mono (i - 1) j (by omega) (by omega)
  omega
 ·intro h i h0 hi
  exact h i (i - 1) (by omega) hi
theorem any_false {n : Nat} {p : Nat → Bool} : (List.range n).any p = false ↔ ∀ i, i < n → p i = false := by
 rw [List.any_eq_false]
 exact ⟨fun h i hi => by have := h i (List.mem_range.mpr hi); cases hp : p i <;> simp_all, fun h i hi => by rw [h i (List.mem_range.mp hi)]; simp⟩
theorem counts_same (C D E : List Int) : (List.range C.length).any (cntP C D E (sortL C)) = (List.range C.length).any fun i => decide (D.getD i 0 > E.getD i 0) || twiceY C i := by
 have key : (List.range C.length).any (cntP C D E (sortL C)) = false ↔ ((List.range C.length).any fun i => decide (D.getD i 0 > E.getD i 0) || twiceY C i) = false := by
  rw [any_false, any_false]
  have l1 : (∀ i, i < C.length → cntP C D E (sortL C) i = false) ↔ (∀ i, i < C.length → ¬ D.getD i 0 > E.getD i 0) ∧ (sortL C).Nodup := by
   rw [← adj_nodup (sortL_leG C)]
   constructor
   ·intro h
    refine ⟨fun i hi => ?_, fun i h0 hi => ?_⟩
    ·have := h i hi
     unfold cntP at this
     rw [Bool.or_eq_false_iff] at this
     exact of_decide_eq_false this.1
    ·have := h i (by rw [sortL_lenG] at hi; exact hi)
     unfold cntP at this
     rw [Bool.or_eq_false_iff, decide_eq_true (show (i : Int) > 0 by omega)] at this
     exact of_decide_eq_false this.2
   ·rintro ⟨h1, h2⟩ i hi
    unfold cntP
    rw [decide_eq_false (h1 i hi)]
    by_cases h0 : 0 < i
    ·rw [decide_eq_false (h2 i h0 (by rw [sortL_lenG]; exact hi))]
     cases decide ((i : Int) > 0) <;> rfl
    ·rw [decide_eq_false (show ¬ (i : Int) > 0 by omega)]
     rfl
  have l2 : (∀ i, i < C.length → (decide (D.getD i 0 > E.getD i 0) || twiceY C i) = false) ↔ (∀ i, i < C.length → ¬ D.getD i 0 > E.getD i 0) ∧ C.Nodup := by
   rw [nodup_iff]
   constructor
   ·intro h
    refine ⟨fun i hi => ?_, fun i j hj hi => ?_⟩
    ·have := h i hi
     rw [Bool.or_eq_false_iff] at this
     exact of_decide_eq_false this.1
    ·have := h i hi
     rw [Bool.or_eq_false_iff] at this
     have := this.2
     unfold twiceY at this
     exact of_decide_eq_false (any_false.mp this j hj)
   ·rintro ⟨h1, h2⟩ i hi
    rw [decide_eq_false (h1 i hi)]
    show twiceY C i = false
    unfold twiceY
    exact any_false.mpr fun j hj => decide_eq_false (h2 i j hj hi)
  rw [l1, l2, (sortL_perm C).nodup_iff]
 cases h1 : (List.range C.length).any (cntP C D E (sortL C)) with
 | false => exact (key.mp h1).symm
 | true =>
  cases h2 : (List.range C.length).any fun i => decide (D.getD i 0 > E.getD i 0) || twiceY C i with
  | false => rw [key.mpr h2] at h1; cases h1
  | true => rfl
theorem vars_same (A B : List Int) (n : Int) (hn : 0 ≤ n) : List.any (A ++ B) (varB n) = !(inL A 0 (hiY n) && inL B 0 (hiY n)) := by
 unfold inL
 rw [List.any_append]
 have h : ∀ v : Int, varB n v = (decide (v < 0) || decide (v > hiY n)) := fun v => by
  unfold varB hiY
  congr 1
  rw [Bool.eq_iff_iff, decide_eq_true_eq, decide_eq_true_eq]
  split <;> omega
 rw [show varB n = (fun v => decide (v < 0) || decide (v > hiY n)) from funext h]
 simp
theorem coefs_same {kk : Int} {c : RestG} (hk : inS kk = true) (h : arityG (kk, c) (shapesL.getD kk.toNat ByteArray.empty) = true) : (numbersG (kk, c) && countsG (kk, c)) = coefsG (kk, c) := by
 have n0 : numbersG (kk, c) = (!(List.any c.2.2.2.2.2.2 fun r => !(inL r (loG (kk, c)) 1000000)) && (inL c.2.2.1 (loG (kk, c)) 1000000 && (inL c.2.2.2.1 (seG (kk, c)) 1000000 && (inL c.2.2.2.2.1 (seG (kk, c)) 1000000 && (decide (c.2.2.2.2.2.1 ≥ kaG (kk, c)) && decide (c.2.2.2.2.2.1 ≤ 9999999999)))))) := rfl
 have c0 : countsG (kk, c) = bif decide (kk = 21) then !((List.range c.2.2.1.length).any (cntP c.2.2.1 c.2.2.2.1 c.2.2.2.2.1 (sortL c.2.2.1))) else true := rfl
 have e0 : coefsG (kk, c) = (inL c.2.2.1 (loY (kk, c)) 1000000 && (inL c.2.2.2.1 (seY (kk, c)) 1000000 && (inL c.2.2.2.2.1 (seY (kk, c)) 1000000 && (!(decide (c.2.2.2.2.2.1 < kaY (kk, c))) && (!(decide (c.2.2.2.2.2.1 > 9999999999)) &&
  (!(List.any c.2.2.2.2.2.2 fun r => !(inL r (-1000000) 1000000)) && !(decide (kk = 21) && (List.range c.2.2.1.length).any fun i => decide (c.2.2.2.1.getD i 0 > c.2.2.2.2.1.getD i 0) || twiceY c.2.2.1 i))))))) := rfl
 have rows : (List.any c.2.2.2.2.2.2 fun r => !(inL r (loG (kk, c)) 1000000)) = (List.any c.2.2.2.2.2.2 fun r => !(inL r (-1000000) 1000000)) := by
  by_cases h1 : kk = 19
  ·subst h1
   have h := (ari_k19 c).symm.trans h
   simp only [Bool.and_eq_true, Bool.not_eq_true', decide_eq_false_iff_not] at h
   have hr : c.2.2.2.2.2.2 = [] := List.length_eq_zero_iff.mp (by omega)
   rw [hr]
   rfl
  ·have : loG (kk, c) = -1000000 := if_neg h1
   rw [this]
 have lo : loG (kk, c) = loY (kk, c) := rfl
 have ka : kaG (kk, c) = kaY (kk, c) := rfl
 have se : seG (kk, c) = seY (kk, c) := by
  show (if kk = 19 then (0 : Int) else if kk = 21 then 0 else -1000000) = (if kk = 21 then 0 else if kk = 19 then 0 else -1000000)
  by_cases h1 : kk = 19
  ·rw [if_pos h1, if_neg (by omega), if_pos h1]
  ·rw [if_neg h1, if_neg h1]
 rw [n0, c0, e0, rows, lo, ka, se, counts_same]
 have k1 : decide (c.2.2.2.2.2.1 ≥ kaY (kk, c)) = !(decide (c.2.2.2.2.2.1 < kaY (kk, c))) := by
  rw [Bool.eq_iff_iff, Bool.not_eq_true', decide_eq_true_eq, decide_eq_false_iff_not]
  omega
 have k2 : decide (c.2.2.2.2.2.1 ≤ 9999999999) = !(decide (c.2.2.2.2.2.1 > 9999999999)) := by
  rw [Bool.eq_iff_iff, Bool.not_eq_true', decide_eq_true_eq, decide_eq_false_iff_not]
  omega
 rw [k1, k2]
 generalize (List.any c.2.2.2.2.2.2 fun r => !(inL r (-1000000) 1000000)) = b1
 generalize ((List.range c.2.2.1.length).any fun i => decide (c.2.2.2.1.getD i 0 > c.2.2.2.2.1.getD i 0) || twiceY c.2.2.1 i) = b2
 generalize inL c.2.2.1 (loY (kk, c)) 1000000 = b3
 generalize inL c.2.2.2.1 (seY (kk, c)) 1000000 = b4
 generalize inL c.2.2.2.2.1 (seY (kk, c)) 1000000 = b5
 generalize decide (c.2.2.2.2.2.1 < kaY (kk, c)) = b6
 generalize decide (c.2.2.2.2.2.1 > 9999999999) = b7
 generalize decide (kk = 21) = b8
 cases b1 <;> cases b3 <;> cases b4 <;> cases b5 <;> cases b6 <;> cases b7 <;> cases b8 <;> cases b2 <;> rfl
theorem right_all (c : Con) (n : Int) (hn : 0 ≤ n) : rightG c n = rightD c n := by
 obtain ⟨kk, c⟩ := c
 have e0 : rightG (kk, c) n = bif strEq (shapeS kk) ⟨#[]⟩ then 9 else bif !(countedG (kk, c) (shapeS kk) && alikeG (kk, c) && (decide (c.2.2.2.2.2.1 = 0) || has1 (shapeS kk) ⟨#[107]⟩)) then 10 else bif List.any (c.1 ++ c.2.1) (varB n) then 7 else bif !(numbersG (kk, c) && countsG (kk, c)) then 11 else 0 := rfl
 have e1 : rightD (kk, c) n = bif decide (kk < 1) || decide (kk > 23) then 9 else bif !(arityG (kk, c) (shapesL.getD kk.toNat ByteArray.empty)) then 10 else bif !(inL c.1 0 (hiY n) && inL c.2.1 0 (hiY n)) then 7 else bif !(coefsG (kk, c)) then 11 else 0 := rfl
 rw [e0, e1]
 cases hk : inS kk with
 | false =>
  have : (decide (kk < 1) || decide (kk > 23)) = true := by
   unfold inS at hk
   rw [Bool.and_eq_false_iff, decide_eq_false_iff_not, decide_eq_false_iff_not] at hk
   rw [Bool.or_eq_true, decide_eq_true_eq, decide_eq_true_eq]
   omega
  rw [shape_no hk, this]
  rfl
 | true =>
  have : (decide (kk < 1) || decide (kk > 23)) = false := by
   unfold inS at hk
   rw [Bool.and_eq_true, decide_eq_true_eq, decide_eq_true_eq] at hk
   rw [Bool.or_eq_false_iff, decide_eq_false_iff_not, decide_eq_false_iff_not]
   omega
  rw [shape_ne hk, this, rig_all kk c hk, vars_same _ _ n hn]
  cases ha : arityG (kk, c) (shapesL.getD kk.toNat ByteArray.empty) with
  | false => rfl
  | true => rw [coefs_same hk ha]
theorem ints_cells {w : World} {ok : Nat → Prop} : ∀ {xs : List Int} {cs : List (List Value)}, F2 (Rd w ok (.int .i64)) xs cs → cs.flatten = xs.map (Value.int .i64)
 | [], _, .nil => rfl
 | x :: xs, _, .cons h t => by
  have h1 : _ = [Value.int .i64 x] := h
  rw [List.flatten_cons, ints_cells t, h1]
  rfl
theorem cells_ints {w : World} {ok : Nat → Prop} : ∀ xs : List Int, F2 (Rd w ok (.int .i64)) xs (xs.map fun x => [Value.int .i64 x])
 | [] => .nil
 | x :: xs => .cons rfl (cells_ints xs)
theorem flat_ints (xs : List Int) : (xs.map fun x => [Value.int .i64 x]).flatten = xs.map (Value.int .i64) := by
 induction xs with
 | nil => rfl
 | cons x xs ih => rw [List.map_cons, List.flatten_cons, ih]; rfl
theorem F92.eok : EOk Go.Proofs.Try.prog F92.E := eo (calls_cons ok94 (calls_cons ok105 (calls_cons ok106 calls_nil)))
theorem ok92 : HandOk Go.Proofs.Try.prog inv 42 h_countedG := hand_if fun xs hc => callW_ok (own := false) (k := 1) F92.eok mixed Go.Proofs.Try.func42 (by kernel_rfl) (show Go.Proofs.Try.f42.body = some (bodyOf Go.Proofs.Try.f42) by kernel_rfl) (F92.sem 1 xs.1.1 xs.1.2 xs.2.1 hc)
theorem F93.eok : EOk Go.Proofs.Try.prog F93.E := eo (calls_cons ok107 calls_nil)
theorem ok93 : HandOk Go.Proofs.Try.prog inv 43 h_alikeG := hand_if fun xs hc => callW_ok (own := false) (k := 1) F93.eok mixed Go.Proofs.Try.func43 (by kernel_rfl) (show Go.Proofs.Try.f43.body = some (bodyOf Go.Proofs.Try.f43) by kernel_rfl) (F93.sem 1 xs.1.1 xs.1.2)
theorem F97.eok : EOk Go.Proofs.Try.prog F97.E := eo (calls_cons ok111 calls_nil)
theorem ok97 : HandOk Go.Proofs.Try.prog inv 47 h_numbersG := hand_if fun xs hc => callW_ok (own := false) (k := 2000) F97.eok mixed Go.Proofs.Try.func47 (by kernel_rfl) (show Go.Proofs.Try.f47.body = some (bodyOf Go.Proofs.Try.f47) by kernel_rfl) (F97.sem xs.1.1 xs.1.2 hc)
theorem ok113 : HandOk Go.Proofs.Try.prog inv 11 h_values := by
 intro args κ r h
 unfold h_values at h
 split at h
 case h_2 => simp at h
 rename_i x0
 cases hp : pullA (.sl (.int .i64)) x0 with
 | none => simp [hp] at h
 | some xs =>
  simp only [hp] at h
  refine ⟨_, h, spec_args (args' := [.v (.sl (.int .i64)) xs]) (fun w okk us hf => ?_) ?_⟩
  ·cases hf with
   | cons a b => exact .cons (pullA_rel hp a) b
  ·intro w ok us hI hok ha
   cases ha with
   | cons h1 h2 =>
    cases h2
    rename_i u
    have h1 : Rd w ok (.sl (.int .i64)) xs [u] := h1
    have h1' := h1
    unfold Rd at h1'
    obtain ⟨a, c, e, _⟩ := h1'
    have e : u = .slice a xs.length c := (List.cons.inj e).1
    subst e
    refine .inl ⟨callFunc_enter Go.Proofs.Try.func11 (by kernel_rfl) (by kernel_rfl) _ _, ?_⟩
    refine Calls.mono ((callsIn_wide (n := 9)).1 (Go.Proofs.Try.values_in Fence.wide 9 trivial rfl a xs.length c w)) ?_
    rintro e w' ⟨rfl, rfl⟩
    have old : ∀ k, k < w.heap.size → (w.alloc (.cells #[.slice a xs.length c] 27)).heap[k]? = w.heap[k]? := fun k hk => Below.heap_alloc _ _ k hk
    refine ⟨_, rfl, (RowKit.Below.refl _ w).alloc (Nat.le_refl _) _, fun k => ok k ∨ k = w.heap.size, mz, ⟨fun k hk => ?_, fun id r h => by simp [rowsA, rows2, rows1] at h, fun id r k h => by simp [rowsA, rows2, rows1] at h, fun i j ri rj k h => by simp [rowsA, rows2, rows1] at h⟩, ⟨[], [.pointer (some ⟨w.heap.size, 0, none⟩)], rfl, .nil, .cons ?_ .nil⟩, fun k hk => ?_⟩
    ·rw [World.size_alloc]
     rcases hk with h | h
     ·have := hok k h; omega
     ·omega
    ·refine ⟨⟨w.heap.size, 0, none⟩, [.slice a xs.length c], rfl, .inr rfl, by rw [World.size_alloc]; show w.heap.size < _; omega, fun j u hj => ?_, .cons ?_ .nil⟩
     ·have hb := Boxed.new w 27 (.slice a xs.length c)
      cases j with
      | zero =>
       have : u = .slice a xs.length c := by simpa using hj.symm
       subst this
       exact hb.cell
      | succ j => simp at hj
     ·exact Rd_move (fun k hk _ => ⟨old k (hok k hk), .inl hk⟩) h1
    ·rcases hk with h | h
     ·exact .inl h
     ·exact .inr (by omega)
theorem ok112 : HandOk Go.Proofs.Try.prog inv 10 h_sorted := by
 intro args κ r h
 unfold h_sorted at h
 split at h
 case h_2 => simp at h
 rename_i cs
 cases hq : pullC (.sl (.int .i64)) cs with
 | none => simp [hq] at h
 | some xs0 =>
  obtain ⟨xs, e0⟩ : ∃ xs : List Int, xs = xs0 := ⟨xs0, rfl⟩
  subst e0
  simp only [hq] at h
  cases hb : sortB xs with
  | false => simp [hb] at h
  | true =>
   simp only [hb, cond_true] at h
   refine ⟨_, h, spec_args (args' := [.fn 40 [] [.rp [.v (.sl (.int .i64)) xs]]]) (fun w okk us hf => ?_) ?_⟩
   ·cases hf with
    | cons a b => exact .cons (fn_rel hq a) b
   ·unfold sortB at hb
    rw [Bool.and_eq_true, Nat.ble_eq] at hb
    have hne : xs ≠ [] := fun e => by
     have h0 : (!(List.isEmpty ([] : List Int))) = true := by
      have := hb.1
      rw [e] at this
      exact this
     exact absurd h0 (by decide)
    intro w ok us hI hok ha
    cases ha with
    | cons h1 h2 =>
     cases h2
     obtain ⟨fs, vs, rfl, hf, hv⟩ := h1
     cases hf
     cases hv with
     | cons g1 g2 =>
      cases g2
      obtain ⟨bx, cs', rfl, hk, hlt, hc, hr⟩ := g1
      cases hr with
      | cons r1 r2 =>
       cases r2
       rename_i u
       have r1 : Rd w ok (.sl (.int .i64)) xs [u] := r1
       unfold Rd at r1
       obtain ⟨a, c, e, _, _, hx⟩ := r1
       have e : u = .slice a xs.length c := (List.cons.inj e).1
       subst e
       obtain ⟨ad, cells, rfl, ho, hF, hC⟩ := hx hne
       have hcell : w.cell? bx = some (.slice (some ad) xs.length c) := by
        have := hc 0 (.slice (some ad) xs.length c) rfl
        simpa [Addr.add] using this
       have hI : Go.Proofs.Try.Ints w.heap.size w (.slice (some ad) xs.length c) xs := .inr ⟨ad, c, rfl, hok _ ho, fun j hj => by
        have hfl := ints_cells hF
        have hm : (xs.map (Value.int .i64))[j]? = some (.int .i64 (xs[j]?.getD 0)) := by
         rw [List.getElem?_map, List.getElem?_eq_getElem hj]
         rfl
        refine hC j _ ?_
        rw [hfl]
        exact hm⟩
       refine .inl ⟨callFunc_enter Go.Proofs.Try.func10 (by kernel_rfl) (by kernel_rfl) _ _, ?_⟩
       refine Calls.mono (Go.Proofs.Try.sorted_calls bx _ xs (by omega) hne w hlt hcell hI) ?_
       rintro e w' ⟨v, rfl, hrow, hbel⟩
       have hl : (sortL xs).length = xs.length := sortL_lenG xs
       refine ⟨v, rfl, hbel, ok, fun _ => v, ⟨fun k hk => Nat.lt_of_lt_of_le (hok k hk) hbel.size, fun id r h => ?_, fun id r k h hli hR hk => ?_, fun i j ri rj k h1 h2 _ _ _ _ => ?_⟩, ⟨?_, rfl⟩, fun k hk => .inl hk⟩
       ·have : r = .row 3 (.int .i64) (sortL xs) := by
         cases id with
         | zero => simpa [rowsA, rows2, rows1] using h.symm
         | succ id => simp [rowsA, rows2, rows1] at h
        subst this
        refine ⟨(sortL xs).map fun x => [Value.int .i64 x], cells_ints _, ?_⟩
        rw [flat_ints]
        show World.ownsRow _ _ _ 1 _ (@List.length Int (sortL xs)) _
        rw [hl]
        exact hrow
       ·have : r = .row 3 (.int .i64) (sortL xs) := by
         cases id with
         | zero => simpa [rowsA, rows2, rows1] using h.symm
         | succ id => simp [rowsA, rows2, rows1] at h
        subst this
        rcases hrow.2 with ⟨rfl, h0⟩ | ⟨g, cap, cur, rfl, hg, _⟩
        ·exact absurd (List.length_eq_zero_iff.mp h0) hne
        ·have hR : mblk (.slice (some ⟨g, 0, none⟩) (List.length xs) cap) = some k := hR
         have : g = k := by simpa [mblk] using hR
         have := hok k hk
         omega
       ·cases i with
        | zero =>
         cases j with
         | zero => rfl
         | succ j => simp [rowsA, rows2, rows1] at h2
        | succ i => simp [rowsA, rows2, rows1] at h1
       ·rcases hrow.2 with ⟨rfl, _⟩ | ⟨g, cap, cur, rfl, _⟩
        ·exact ⟨_, _, _, rfl⟩
        ·exact ⟨_, _, _, rfl⟩
theorem F98.eok : EOk Go.Proofs.Try.prog F98.E := eo (calls_cons ok112 (calls_cons ok113 calls_nil))
theorem ok98 : HandOk Go.Proofs.Try.prog inv 48 h_countsG := hand_if fun xs hc => callW_ok (own := false) (k := 2000) F98.eok mixed Go.Proofs.Try.func48 (by kernel_rfl) (show Go.Proofs.Try.f48.body = some (bodyOf Go.Proofs.Try.f48) by kernel_rfl) (F98.sem xs.1.1 xs.1.2 hc)
theorem F76.eok : EOk Go.Proofs.Try.prog F76.E := eo (calls_cons ok77 (calls_cons ok91 (calls_cons ok92 (calls_cons ok93 (calls_cons ok94 (calls_cons ok95 (calls_cons ok97 (calls_cons ok98 calls_nil))))))))
theorem ok76 : HandOk Go.Proofs.Try.prog inv 22 h_rightG := hand_if fun xs hc => callW_ok (own := false) (k := 1) F76.eok mixed Go.Proofs.Try.func22 (by kernel_rfl) (show Go.Proofs.Try.f22.body = some (bodyOf Go.Proofs.Try.f22) by kernel_rfl) (F76.sem 1 xs.1.1 xs.1.2 xs.2.1 hc)
end Go.Proofs.Ytohdaehblenokaa.Ev
set_option linter.unusedVariables false
set_option linter.unusedSimpArgs false
set_option maxRecDepth 100000
namespace Go.Proofs.Ytohdaehblenokaa.Ev
open Go
theorem wrap1 {i : Nat} (h : i ≤ 1000000000) : IntKind.i64.wrap ((i : Int) + 1) = ((i + 1 : Nat) : Int) := by rw [wrap_ok (by omega) (by omega)]; omega
theorem lim8G {α : Type} {l : List α} (h : l.length ≤ 1000000) (x : α) : decide ((l.length + [x].length) * 8 ≤ LIM) = true := decide_eq_true (show (l.length + 1) * 8 ≤ 140737488355328 by omega)
theorem map_loopG {f : Nat → Int} (N : Nat) (L : Nat → Int → List Int → Option AV) (X : List Int → Option AV) (hN : N ≤ 1000)
  (hstep : ∀ (n j : Nat) (acc : List Int), j < N → acc.length ≤ 1000 → L (n + 1) (j : Int) acc = L n ((j + 1 : Nat) : Int) (acc ++ [f j]))
  (hend : ∀ n acc, L (n + 1) (N : Int) acc = X acc) (n : Nat) (hn : N < n) : L n 0 [] = X ((List.range N).map f) := by
 have key : ∀ (d j n : Nat), j + d = N → d < n → L n (j : Int) ((List.range j).map f) = X ((List.range N).map f) := by
  intro d
  induction d with
  | zero =>
   intro j n h1 h2
   obtain ⟨n', rfl⟩ : ∃ n', n = n' + 1 := ⟨n - 1, by omega⟩
   obtain rfl : j = N := by omega
   exact hend n' _
  | succ d ih =>
   intro j n h1 h2
   obtain ⟨n', rfl⟩ : ∃ n', n = n' + 1 := ⟨n - 1, by omega⟩
   rw [hstep n' j _ (by omega) (by simp; omega)]
   have e : (List.range j).map f ++ [f j] = (List.range (j + 1)).map f := by rw [List.range_succ, List.map_append]; rfl
   rw [e]
   exact ih (j + 1) n' (by omega) (by omega)
 exact key N 0 n (by omega) (by omega)
theorem mill_of {l : List Int} (h : l.all millB = true) {i : Nat} (hi : i < l.length) : -1000000 ≤ l.getD i 0 ∧ l.getD i 0 ≤ 1000000 := by
 rw [List.all_eq_true] at h
 have := h _ (getD_mem hi 0)
 unfold millB at this
 simpa using this
theorem mills_iff {l : List Int} (h : millsB l = true) : l.length ≤ 1000 ∧ l.all millB = true := by
 unfold millsB at h
 rwa [Bool.and_eq_true, Nat.ble_eq] at h
theorem places_iff {l a : List Int} (h : placesB1 l a = true) : l.length ≤ 1000 ∧ ∀ i, i < l.length → 0 ≤ l.getD i 0 ∧ l.getD i 0 < a.length := by
 unfold placesB1 at h
 rw [Bool.and_eq_true, Nat.ble_eq, List.all_eq_true] at h
 refine ⟨h.1, fun i hi => ?_⟩
 have := h.2 _ (getD_mem hi 0)
 unfold inB at this
 simpa using this
theorem in_place {x : Int} {a : List Int} (h : 0 ≤ x ∧ x < a.length) : (decide (0 ≤ x) && decide (x < (a.length : Int))) = true := by
 rw [decide_eq_true h.1, decide_eq_true h.2]; rfl
theorem values_len (l a : List Int) : (valuesL l a).length = l.length := List.length_map _
theorem values_get {l a : List Int} {i : Nat} (h : i < l.length) : (valuesL l a).getD i 0 = a.getD (l.getD i 0).toNat 0 := by
 unfold valuesL
 rw [List.getD_eq_getElem?_getD, List.getElem?_map, List.getElem?_eq_getElem h, List.getD_eq_getElem?_getD (l := l), List.getElem?_eq_getElem h]
 rfl
theorem values_range (l a : List Int) : valuesL l a = (List.range l.length).map fun i => a.getD (l.getD i 0).toNat 0 := by
 apply List.ext_getElem
 ·simp [values_len]
 ·intro i h1 h2
  have hi : i < l.length := by rw [values_len] at h1; exact h1
  have := values_get (a := a) hi
  rw [List.getD_eq_getElem?_getD, List.getElem?_eq_getElem h1] at this
  rw [List.getElem_map, List.getElem_range]
  exact this
theorem F616.sem (l a : List Int) (h : placesB1 l a = true) : callW F616.E false F616.fn 2000 [.v (.sl (.int .i64)) l, .v (.sl (.int .i64)) a] = some (.v (.sl (.int .i64)) (valuesL l a)) := by
 obtain ⟨hl, hp⟩ := places_iff h
 refine (F616.start_eq 2000 l a).trans ?_
 rw [values_range]
 exact map_loopG (f := fun i => a.getD (l.getD i 0).toNat 0) l.length (fun n i acc => F616.l1_1_0_1_0 n (F616.kt 2000 [1, 1, 0, 1, 0]) a l (l.length : Int) i acc) (fun acc => some (.v (.sl (.int .i64)) acc)) hl (fun n j acc hj ha => by
  refine (F616.l1_1_0_1_0_eq ..).trans ((bT' (lt_natG hj)).trans ((bT' (in_natG hj)).trans ?_))
  rw [Int.toNat_natCast, wrap1 (by omega)]
  exact (bT' (in_place (hp j hj))).trans (bT' (lim8G (show acc.length ≤ 1000000 by omega) _)))
  (fun n acc => (F616.l1_1_0_1_0_eq ..).trans (self_lt'.trans (F616.c0 2000 acc))) 2000 (by omega)
theorem F617.sem (kk : Int) (c : RestG) (x : List Int) (h : sumXB (kk, c) x = true) : callW F617.E false F617.fn 2000 [.agg (explode ConT (kk, c)), .v (.sl (.int .i64)) x] = some (.v (.int .i64) (sumX (kk, c) x)) := by
 unfold sumXB at h
 rw [Bool.and_eq_true, Bool.and_eq_true, decide_eq_true_eq] at h
 obtain ⟨⟨hC, hx⟩, hl⟩ := h
 have hC : millsB c.2.2.1 = true := hC
 have hl : c.2.2.1.length = x.length := hl
 obtain ⟨c1, c2⟩ := mills_iff hC
 obtain ⟨x1, x2⟩ := mills_iff hx
 refine (F617.start_eq 2000 kk c x).trans ?_
 show _ = some (AV.v (.int .i64) (dotL c.2.2.1 x))
 generalize c.2.2.1 = C at c1 c2 hl ⊢
 have key : ∀ (d i n : Nat) (acc : Int), i + d = C.length → d < n → -1000000000000 * (i : Int) ≤ acc → acc ≤ 1000000000000 * (i : Int) →
   F617.l1_1_0_1_0 n (F617.kt 2000 [1, 1, 0, 1, 0]) x acc C (C.length : Int) (i : Int) = some (.v (.int .i64) (acc + dotL (C.drop i) (x.drop i))) := by
  intro d
  induction d with
  | zero =>
   intro i n acc h1 h2 _ _
   obtain ⟨n', rfl⟩ : ∃ n', n = n' + 1 := ⟨n - 1, by omega⟩
   obtain rfl : i = C.length := by omega
   refine (F617.l1_1_0_1_0_eq ..).trans (self_lt'.trans ((F617.c0 2000 acc).trans ?_))
   rw [List.drop_length]
   have : acc + dotL [] (x.drop C.length) = acc := by unfold dotL; omega
   rw [this]
  | succ d ih =>
   intro i n acc h1 h2 l1 l2
   obtain ⟨n', rfl⟩ : ∃ n', n = n' + 1 := ⟨n - 1, by omega⟩
   have hi : i < C.length := by omega
   have hix : i < x.length := by omega
   have p := mul_mill (mill_of c2 hi) (mill_of x2 hix)
   refine (F617.l1_1_0_1_0_eq ..).trans ((bT' (lt_natG hi)).trans ((bT' (in_natG hi)).trans ((bT' (in_natG hix)).trans ?_)))
   rw [Int.toNat_natCast, wrap1 (by omega), wrap_ok (x := C.getD i 0 * x.getD i 0) (by omega) (by omega), wrap_ok (by omega) (by omega), drop_getD hi 0, drop_getD hix 0]
   unfold dotL
   refine (ih (i + 1) n' _ (by omega) (by omega) (by omega) (by omega)).trans ?_
   rw [Int.add_assoc]
 have := key C.length 0 2000 0 (by omega) (by omega) (by omega) (by omega)
 rw [Int.zero_add] at this
 exact this
theorem F666.sem (k : Nat) (b : Int) (so : Bool) : callW F666.E false F666.fn k [.v (.int .i64) b, .v .bool so] = some (.v .bool (truthB b so)) := by
 refine (F666.start_eq k b so).trans ?_
 unfold truthB
 cases decide (b = 0) <;> cases so <;> cases decide (b = 1) <;> rfl
theorem F667.sem (k : Nat) (b : Int) (so : Bool) : callW F667.E false F667.fn k [.v (.int .i64) b, .v .bool so] = some (.v .bool (impliedB b so)) := by
 refine (F667.start_eq k b so).trans ?_
 unfold impliedB
 cases decide (b = 0) <;> cases so <;> cases decide (b = 1) <;> rfl
theorem F619.sem (k : Nat) (x : List Int) (h : sortB x = true) : callW F619.E false F619.fn k [.v (.sl (.int .i64)) x] = some (.v .bool (apartX x)) := by
 refine (F619.start_eq k x).trans ((bT' h).trans (bT' ?_))
 unfold sortB at h
 rw [Bool.and_eq_true, Nat.ble_eq] at h
 have hl := sortL_lenG x
 have hs : sortL x ≠ [] := fun e => by
  rw [e] at hl
  have : x = [] := List.length_eq_zero_iff.mp hl.symm
  rw [this] at h
  exact absurd h.1 (by decide)
 rw [Nat.ble_eq_true_of_le (show (sortL x).length ≤ 1000 by omega)]
 cases hx : sortL x with
 | nil => exact absurd hx hs
 | cons a b => rfl
theorem roundGo_succ (x : List Int) (m : Nat) (a : Int) (i : Nat) : roundGo x (m + 1) a i = if x.getD (a - 1).toNat 0 < 1 ∨ x.getD (a - 1).toNat 0 > (x.length : Int) then false else if x.getD (a - 1).toNat 0 = 1 then decide (i = x.length) else roundGo x m (x.getD (a - 1).toNat 0) (i + 1) := rfl
theorem F623.sem (x : List Int) (h : Nat.ble x.length 1000 = true) : callW F623.E false F623.fn 2000 [.v (.sl (.int .i64)) x] = some (.v .bool (roundX x)) := by
 rw [Nat.ble_eq] at h
 refine (F623.start_eq 2000 x).trans ?_
 have key : ∀ (m i : Nat) (at_ : Int) (n : Nat), i + m = x.length + 1 → m < n → 1 ≤ at_ → (0 < m → at_ ≤ x.length) → F623.l1_1_0_1_0 n (F623.kt 2000 [1, 1, 0, 1, 0]) x at_ (i : Int) = some (.v .bool (roundGo x m at_ i)) := by
  intro m
  induction m with
  | zero =>
   intro i at_ n h1 h2 _ _
   obtain ⟨n', rfl⟩ : ∃ n', n = n' + 1 := ⟨n - 1, by omega⟩
   exact (F623.l1_1_0_1_0_eq ..).trans ((bF' (decide_eq_false (by omega))).trans (F623.c2 2000))
  | succ m ih =>
   intro i at_ n h1 h2 ha hb
   obtain ⟨n', rfl⟩ : ∃ n', n = n' + 1 := ⟨n - 1, by omega⟩
   have hb := hb (by omega)
   have w : IntKind.i64.wrap (at_ - 1) = at_ - 1 := wrap_ok (by omega) (by omega)
   have hin : (decide (0 ≤ at_ - 1) && decide (at_ - 1 < (x.length : Int))) = true := in_place ⟨by omega, by omega⟩
   refine (F623.l1_1_0_1_0_eq ..).trans ((bT' (decide_eq_true (by omega))).trans ?_)
   rw [w, wrap1 (by omega)]
   refine (bT' hin).trans ?_
   rw [roundGo_succ]
   generalize x.getD (at_ - 1).toNat 0 = v
   by_cases c1 : v < 1
   ·rw [if_pos (.inl c1)]
    exact (bT' (decide_eq_true c1)).trans (F623.c0 2000)
   ·refine (bF' (decide_eq_false c1)).trans ((bT' hin).trans ?_)
    by_cases c2 : v > (x.length : Int)
    ·rw [if_pos (.inr c2)]
     exact (bT' (decide_eq_true c2)).trans (F623.c0 2000)
    ·rw [if_neg (by omega)]
     refine (bF' (decide_eq_false c2)).trans ((bT' hin).trans ?_)
     by_cases c3 : v = 1
     ·rw [if_pos c3]
      refine (bT' (decide_eq_true c3)).trans ((F623.c1 2000 _).trans ?_)
      have e : decide ((i : Int) = (x.length : Int)) = decide (i = x.length) := by
       rw [Bool.eq_iff_iff, decide_eq_true_eq, decide_eq_true_eq]
       omega
      rw [e]
     ·rw [if_neg c3]
      exact (bF' (decide_eq_false c3)).trans (ih (i + 1) v n' (by omega) (by omega) (by omega) (fun _ => by omega))
 exact key x.length 1 1 2000 (by omega) (by omega) (by omega) (fun _ => by omega)
theorem cnt_drop (x : List Int) (v : Int) {i : Nat} (h : i < x.length) : cntL (x.drop i) v = (if x.getD i 0 = v then 1 else 0) + cntL (x.drop (i + 1)) v := by
 unfold cntL
 rw [drop_getD h 0, List.filter_cons]
 by_cases e : x.getD i 0 = v
 ·rw [if_pos e, if_pos (decide_eq_true e)]
  simp
  omega
 ·rw [if_neg e, if_neg (by rw [decide_eq_true_eq]; exact e)]
  omega
theorem F624.sem (kk : Int) (c : RestG) (x : List Int) (h : countedXB (kk, c) x = true) : callW F624.E false F624.fn 4000 [.agg (explode ConT (kk, c)), .v (.sl (.int .i64)) x] = some (.v .bool (countedX (kk, c) x)) := by
 unfold countedXB gccLB at h
 simp only [Bool.and_eq_true, decide_eq_true_eq, Nat.ble_eq] at h
 obtain ⟨⟨⟨hC, hx⟩, hD⟩, hE⟩ := h
 refine (F624.start_eq 4000 kk c x).trans ?_
 show _ = some (AV.v .bool (!((List.range c.2.2.1.length).any fun i => decide (cntL x (c.2.2.1.getD i 0) < c.2.2.2.1.getD i 0) || decide (cntL x (c.2.2.1.getD i 0) > c.2.2.2.2.1.getD i 0))))
 refine (any_range (fun n i => F624.l1_0_1_0 n (F624.kt 4000 [1, 0, 1, 0]) x c.2.2.1 (c.2.2.1.length : Int) i kk c.1 c.2.1 c.2.2.1 c.2.2.2.1 c.2.2.2.2.1 c.2.2.2.2.2.1 c.2.2.2.2.2.2) c.2.2.1.length (fun i => decide (cntL x (c.2.2.1.getD i 0) < c.2.2.2.1.getD i 0) || decide (cntL x (c.2.2.1.getD i 0) > c.2.2.2.2.1.getD i 0)) (some (.v .bool false)) (some (.v .bool true)) 1500 (by omega)
  (fun n _ => (F624.l1_0_1_0_eq ..).trans (self_lt'.trans (F624.c0 4000))) (fun n i hi hn => ?_) 4000 (by omega)).trans ?_
 ·refine (F624.l1_0_1_0_eq ..).trans ((bT' (lt_natG hi)).trans ((bT' (in_natG hi)).trans ?_))
  rw [Int.toNat_natCast]
  generalize hv : c.2.2.1.getD i 0 = v
  have key : ∀ (d j m : Nat) (acc : Int), j + d = x.length → d < m → 0 ≤ acc → acc ≤ (j : Int) →
    F624.l1_0_1_0_0_1_1_0_0_1_1_0_1_0 m (F624.k_l1_0_1_0 n (F624.kt 4000 [1, 0, 1, 0]) [1, 1, 0, 0, 1, 1, 0, 1, 0]) x (i : Int) v acc c.2.2.1 (c.2.2.1.length : Int) (i : Int) x (x.length : Int) (j : Int) kk c.1 c.2.1 c.2.2.1 c.2.2.2.1 c.2.2.2.2.1 c.2.2.2.2.2.1 c.2.2.2.2.2.2 =
    bif decide (acc + cntL (x.drop j) v < c.2.2.2.1.getD i 0) || decide (acc + cntL (x.drop j) v > c.2.2.2.2.1.getD i 0) then some (.v .bool false) else F624.l1_0_1_0 n (F624.kt 4000 [1, 0, 1, 0]) x c.2.2.1 (c.2.2.1.length : Int) (IntKind.i64.wrap ((i : Int) + 1)) kk c.1 c.2.1 c.2.2.1 c.2.2.2.1 c.2.2.2.2.1 c.2.2.2.2.2.1 c.2.2.2.2.2.2 := by
   intro d
   induction d with
   | zero =>
    intro j m acc h1 h2 _ _
    obtain ⟨m', rfl⟩ : ∃ m', m = m' + 1 := ⟨m - 1, by omega⟩
    obtain rfl : j = x.length := by omega
    refine (F624.l1_0_1_0_0_1_1_0_0_1_1_0_1_0_eq ..).trans (self_lt'.trans ((F624.c1 ..).trans ?_))
    have e : acc + cntL (x.drop x.length) v = acc := by rw [List.drop_length]; unfold cntL; simp
    rw [e, F624.c2, Int.toNat_natCast]
    refine (bT' (in_natG (show i < c.2.2.2.1.length by omega))).trans ?_
    cases decide (acc < c.2.2.2.1.getD i 0) with
    | true => rfl
    | false => exact (bF' rfl).trans (bT' (in_natG (show i < c.2.2.2.2.1.length by omega)))
   | succ d ih =>
    intro j m acc h1 h2 h3 h4
    obtain ⟨m', rfl⟩ : ∃ m', m = m' + 1 := ⟨m - 1, by omega⟩
    have hj : j < x.length := by omega
    refine (F624.l1_0_1_0_0_1_1_0_0_1_1_0_1_0_eq ..).trans ((bT' (lt_natG hj)).trans ((bT' (in_natG hj)).trans ?_))
    rw [Int.toNat_natCast, wrap1 (by omega), cnt_drop x v hj, wrap_ok (x := acc + 1) (by omega) (by omega)]
    by_cases e : x.getD j 0 = v
    ·rw [if_pos e, ← Int.add_assoc]
     exact (bT' (decide_eq_true e)).trans (ih (j + 1) m' (acc + 1) (by omega) (by omega) (by omega) (by omega))
    ·rw [if_neg e, Int.zero_add]
     exact (bF' (decide_eq_false e)).trans (ih (j + 1) m' acc (by omega) (by omega) h3 (by omega))
  have := key x.length 0 n 0 (by omega) (by omega) (by omega) (by omega)
  rw [List.drop_zero, Int.zero_add] at this
  exact this
 ·cases (List.range c.2.2.1.length).any (fun i => decide (cntL x (c.2.2.1.getD i 0) < c.2.2.2.1.getD i 0) || decide (cntL x (c.2.2.1.getD i 0) > c.2.2.2.2.1.getD i 0)) <;> rfl
theorem F669.sem (k : Nat) (a b : Int) : callW F669.E false F669.fn k [.v (.int .i64) a, .v (.int .i64) b] = some (.v (.int .i64) (cmpI a b)) := by
 refine (F669.start_eq k a b).trans ?_
 have e : ∀ x, nanI x = false := fun x => by unfold nanI; rw [decide_eq_true rfl]; rfl
 rw [e, e]
 unfold cmpI
 by_cases h1 : a < b
 ·rw [if_pos h1, decide_eq_true h1]; rfl
 ·rw [if_neg h1, decide_eq_false h1]
  by_cases h2 : a > b
  ·rw [if_pos h2, decide_eq_true h2]; rfl
  ·rw [if_neg h2, decide_eq_false h2]; rfl
theorem F625.sem (x y : List Int) (h : cmpXB x y = true) : callW F625.E false F625.fn 2000 [.v (.sl (.int .i64)) x, .v (.sl (.int .i64)) y] = some (.v (.int .i64) (cmpX x y)) := by
 unfold cmpXB at h
 rw [Bool.and_eq_true, Nat.ble_eq, decide_eq_true_eq] at h
 refine (F625.start_eq 2000 x y).trans ?_
 have key : ∀ (d i n : Nat), i + d = x.length → d < n → F625.l1_0_1_0 n (F625.kt 2000 [1, 0, 1, 0]) x y x (x.length : Int) (i : Int) = some (.v (.int .i64) (cmpX (x.drop i) (y.drop i))) := by
  intro d
  induction d with
  | zero =>
   intro i n h1 h2
   obtain ⟨n', rfl⟩ : ∃ n', n = n' + 1 := ⟨n - 1, by omega⟩
   obtain rfl : i = x.length := by omega
   have e : y.drop x.length = [] := List.drop_of_length_le (by omega)
   rw [List.drop_length, e]
   exact (F625.l1_0_1_0_eq ..).trans (self_lt'.trans ((F625.c1 2000 x y).trans (bF' (decide_eq_false (by omega)))))
  | succ d ih =>
   intro i n h1 h2
   obtain ⟨n', rfl⟩ : ∃ n', n = n' + 1 := ⟨n - 1, by omega⟩
   have hi : i < x.length := by omega
   have hy : i < y.length := by omega
   refine (F625.l1_0_1_0_eq ..).trans ((bT' (lt_natG hi)).trans ((bT' (in_natG hi)).trans ((bF' (decide_eq_false (by omega))).trans ((bT' (in_natG hy)).trans ?_))))
   rw [Int.toNat_natCast, wrap1 (by omega), drop_getD hi 0, drop_getD hy 0]
   unfold cmpX
   generalize x.getD i 0 = a
   generalize y.getD i 0 = b
   by_cases c1 : a < b
   ·have e : cmpI a b = -1 := if_pos c1
    rw [e, if_pos c1]
    exact (bT' rfl).trans (F625.c0 2000 _)
   ·by_cases c2 : a > b
    ·have e : cmpI a b = 1 := (if_neg c1).trans (if_pos c2)
     rw [e, if_neg c1, if_pos c2]
     exact (bT' rfl).trans (F625.c0 2000 _)
    ·have e : cmpI a b = 0 := (if_neg c1).trans (if_neg c2)
     rw [e, if_neg c1, if_neg c2]
     exact (bF' rfl).trans (ih (i + 1) n' (by omega) (by omega))
 exact key x.length 0 2000 (by omega) (by omega)
theorem F626.sem (x y : List Int) (h : (Nat.ble x.length 1000 && Nat.ble y.length 1000) = true) : callW F626.E false F626.fn 2000 [.v (.sl (.int .i64)) x, .v (.sl (.int .i64)) y] = some (.v .bool (inverseX x y)) := by
 rw [Bool.and_eq_true, Nat.ble_eq, Nat.ble_eq] at h
 refine (F626.start_eq 2000 x y).trans ?_
 unfold inverseX
 refine (any_range (fun n i => F626.l1_0_1_0 n (F626.kt 2000 [1, 0, 1, 0]) y x (x.length : Int) i) x.length (fun i => decide (x.getD i 0 < 1) || (decide (x.getD i 0 > (y.length : Int)) || !(decide (y.getD (x.getD i 0 - 1).toNat 0 = (i : Int) + 1)))) (some (.v .bool false)) (some (.v .bool true)) 0 (by omega)
  (fun n _ => (F626.l1_0_1_0_eq ..).trans (self_lt'.trans (F626.c1 2000))) (fun n i hi _ => ?_) 2000 (by omega)).trans ?_
 ·have w : IntKind.i64.wrap ((i : Int) + 1) = (i : Int) + 1 := wrap_ok (by omega) (by omega)
  refine (F626.l1_0_1_0_eq ..).trans ((bT' (lt_natG hi)).trans ((bT' (in_natG hi)).trans ?_))
  rw [Int.toNat_natCast, w, F626.c0]
  generalize x.getD i 0 = v
  by_cases c1 : v < 1
  ·rw [decide_eq_true c1]; rfl
  ·rw [decide_eq_false c1]
   by_cases c2 : v > (y.length : Int)
   ·rw [decide_eq_true c2]; rfl
   ·rw [decide_eq_false c2, wrap_ok (x := v - 1) (by omega) (by omega)]
    refine (bF' rfl).trans ((bF' rfl).trans ((bT' (in_place ⟨by omega, by omega⟩)).trans ?_))
    rfl
 ·cases (List.range x.length).any (fun i => decide (x.getD i 0 < 1) || (decide (x.getD i 0 > (y.length : Int)) || !(decide (y.getD (x.getD i 0 - 1).toNat 0 = (i : Int) + 1)))) <;> rfl
end Go.Proofs.Ytohdaehblenokaa.Ev
