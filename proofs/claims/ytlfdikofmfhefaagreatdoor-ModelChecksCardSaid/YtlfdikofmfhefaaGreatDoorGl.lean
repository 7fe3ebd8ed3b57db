/-
May a constraint be: the program's answer, the document's; what the functions answer.
Conditions: lists of at most 1000 elements.
May a constraint be: the program's answer is the document's; the contracts.
Conditions: lists of at most 1000 elements, so many variables that there may be.
Does a constraint hold, the program's answer: what the functions answer.
Conditions: as the handlers ask.
-/
import Derived.Test.YtlfdikofmfhefaaGreatDoorGj
import Derived.Test.YtlfdikofmfhefaaGreatDoorGc
import Derived.Test.YtlfdikofmfhefaaGreatDoorGr
import Derived.Test.YtlfdikofmfhefaaGreatDoorGs
import Derived.Test.YtlfdikofmfhefaaGreatDoorGt
import Derived.Test.YtlfdikofmfhefaaGreatDoorGu
set_option linter.unusedVariables false
set_option linter.unusedSimpArgs false
set_option maxRecDepth 100000
namespace Go.Proofs.YtlfdikofmfhefaaGreatDoor.Ev
open Go
theorem kinds {k : Int} (h : inS k = true) : k = 1 ∨ k = 2 ∨ k = 3 ∨ k = 4 ∨ k = 5 ∨ k = 6 ∨ k = 7 ∨ k = 8 ∨ k = 9 ∨ k = 10 ∨ k = 11 ∨ k = 12 ∨ k = 13 ∨ k = 14 ∨ k = 15 ∨ k = 16 ∨ k = 17 ∨ k = 18 ∨ k = 19 ∨ k = 20 ∨ k = 21 ∨ k = 22 ∨ k = 23 := by
 unfold inS at h
 simp only [Bool.and_eq_true, decide_eq_true_eq] at h
 omega
theorem shape_ne {k : Int} (h : inS k = true) : strEq (shapeS k) ⟨#[]⟩ = false := by
 rcases kinds h with rfl | rfl | rfl | rfl | rfl | rfl | rfl | rfl | rfl | rfl | rfl | rfl | rfl | rfl | rfl | rfl | rfl | rfl | rfl | rfl | rfl | rfl | rfl <;> rfl
theorem shape_no {k : Int} (h : inS k = false) : strEq (shapeS k) ⟨#[]⟩ = true := by
 unfold shapeS
 rw [h]
 rfl
theorem rig_all (kk : Int) (c : RestG) (h : inS kk = true) : (countedG (kk, c) (shapeS kk) && alikeG (kk, c) && (decide (c.2.2.2.2.2.1 = 0) || has1 (shapeS kk) ⟨#[107]⟩)) = arityG (kk, c) (shapesL.getD kk.toNat ByteArray.empty) := by
 rcases kinds h with rfl | rfl | rfl | rfl | rfl | rfl | rfl | rfl | rfl | rfl | rfl | rfl | rfl | rfl | rfl | rfl | rfl | rfl | rfl | rfl | rfl | rfl | rfl
 ·exact rig_k1 c
 ·exact rig_k2 c
 ·exact rig_k3 c
 ·exact rig_k4 c
 ·exact rig_k5 c
 ·exact rig_k6 c
 ·exact rig_k7 c
 ·exact rig_k8 c
 ·exact rig_k9 c
 ·exact rig_k10 c
 ·exact rig_k11 c
 ·exact rig_k12 c
 ·exact rig_k13 c
 ·exact rig_k14 c
 ·exact rig_k15 c
 ·exact rig_k16 c
 ·exact rig_k17 c
 ·exact rig_k18 c
 ·exact rig_k19 c
 ·exact rig_k20 c
 ·exact rig_k21 c
 ·exact rig_k22 c
 ·exact rig_k23 c
theorem cnt_vars (kk : Int) (c : RestG) (hk : inS kk = true) (h : countedG (kk, c) (shapeS kk) = true) : varsB (kk, c) = true := by
 unfold varsB
 simp only [Bool.and_eq_true, decide_eq_true_eq]
 show 0 < (c.1.length : Int) + c.2.1.length ∧ (c.1.length : Int) + c.2.1.length ≤ 1000
 rcases kinds hk with rfl | rfl | rfl | rfl | rfl | rfl | rfl | rfl | rfl | rfl | rfl | rfl | rfl | rfl | rfl | rfl | rfl | rfl | rfl | rfl | rfl | rfl | rfl <;>
  simp only [cnt_k1, cnt_k2, cnt_k3, cnt_k4, cnt_k5, cnt_k6, cnt_k7, cnt_k8, cnt_k9, cnt_k10, cnt_k11, cnt_k12, cnt_k13, cnt_k14, cnt_k15, cnt_k16, cnt_k17, cnt_k18, cnt_k19, cnt_k20, cnt_k21, cnt_k22, cnt_k23, withinD, Bool.and_eq_true, decide_eq_true_eq] at h <;> omega
theorem cnt_counts (kk : Int) (c : RestG) (h : countedG (kk, c) (shapeS kk) = true) (ha : alikeG (kk, c) = true) : countsB (kk, c) = true := by
 unfold countsB
 by_cases h1 : kk = 21
 ·subst h1
  rw [cnt_k21] at h
  have ha : (decide ((c.2.2.2.1.length : Int) = (c.2.2.1.length : Int)) && decide ((c.2.2.2.2.1.length : Int) = (c.2.2.1.length : Int))) = true := ha
  simp only [withinD, Bool.and_eq_true, decide_eq_true_eq] at h ha
  show (!(decide ((21 : Int) = 21)) || (sortB c.2.2.1 && decide (c.2.2.2.1.length = c.2.2.1.length) && decide (c.2.2.2.2.1.length = c.2.2.1.length))) = true
  have e1 : sortB c.2.2.1 = true := by
   unfold sortB
   have hc : 0 < c.2.2.1.length := by omega
   cases hl : c.2.2.1 with
   | nil => rw [hl] at hc; cases hc
   | cons x xs =>
    have : (x :: xs).length ≤ 1000 := by rw [← hl]; omega
    rw [Nat.ble_eq_true_of_le this]
    rfl
  rw [e1, decide_eq_true (show c.2.2.2.1.length = c.2.2.1.length by omega), decide_eq_true (show c.2.2.2.2.1.length = c.2.2.1.length by omega)]
  rfl
 ·show (!(decide (kk = 21)) || _) = true
  rw [decide_eq_false h1]
  rfl
theorem F76.sem (k : Nat) (kk : Int) (c : RestG) (n : Int) (hs : smallC (kk, c) = true) : callW F76.E false F76.fn k [.agg (explode ConT (kk, c)), .v (.int .i64) n] = some (.v (.int .i64) (rightG (kk, c) n)) := by
 refine (F76.start_eq k kk c n).trans ?_
 have e0 : rightG (kk, c) n = bif strEq (shapeS kk) ⟨#[]⟩ then 9 else bif !(countedG (kk, c) (shapeS kk) && alikeG (kk, c) && (decide (c.2.2.2.2.2.1 = 0) || has1 (shapeS kk) ⟨#[107]⟩)) then 10 else bif List.any (varsD (kk, c)) (varB n) then 7 else bif !(numbersG (kk, c) && countsG (kk, c)) then 11 else 0 := rfl
 rw [e0]
 cases hk : inS kk with
 | false => rw [shape_no hk]; rfl
 | true =>
  rw [shape_ne hk]
  refine (bF' rfl).trans ((bT' hs).trans ?_)
  cases hc : countedG (kk, c) (shapeS kk) with
  | false => rfl
  | true =>
   refine (bF' rfl).trans ((bT' hs).trans ?_)
   cases ha : alikeG (kk, c) with
   | false => rfl
   | true =>
    refine (bF' rfl).trans ?_
    rw [cnt_vars kk c hk hc, hs, cnt_counts kk c hc ha]
    cases decide (c.2.2.2.2.2.1 = 0) <;> cases has1 (shapeS kk) ⟨#[107]⟩ <;> cases List.any (varsD (kk, c)) (varB n) <;> cases numbersG (kk, c) <;> cases countsG (kk, c) <;> rfl
theorem F83.sem (kk : Int) (c : RestG) (h : smallC (kk, c) = true) (hb : coefsB (kk, c) = true) : callW F83.E false F83.fn 4000 [.agg (explode ConT (kk, c))] = some (.v .bool (coefsG (kk, c))) := by
 have hr := (small_iff h).lr
 have hlc := (small_iff h).lc
 simp only at hr hlc
 have tail : F83.l1_1_1_1_1_1_1_1_1_1_0_1_0 4000 (F83.kt 4000 [1, 1, 1, 1, 1, 1, 1, 1, 1, 1, 0, 1, 0]) 0 kk c.1 c.2.1 c.2.2.1 c.2.2.2.1 c.2.2.2.2.1 c.2.2.2.2.2.1 c.2.2.2.2.2.2 =
   some (.v .bool (!(List.any c.2.2.2.2.2.2 fun r => !(inL r (-1000000) 1000000)) && !(decide (kk = 21) && (List.range c.2.2.1.length).any fun i => decide (c.2.2.2.1.getD i 0 > c.2.2.2.2.1.getD i 0) || twiceY c.2.2.1 i))) := by
  have two : F83.l1_1_1_1_1_1_1_1_1_1_1_0_1_0 4000 (F83.kt 4000 [1, 1, 1, 1, 1, 1, 1, 1, 1, 1, 1, 0, 1, 0]) 0 kk c.1 c.2.1 c.2.2.1 c.2.2.2.1 c.2.2.2.2.1 c.2.2.2.2.2.1 c.2.2.2.2.2.2 = some (.v .bool (!(decide (kk = 21) && (List.range c.2.2.1.length).any fun i => decide (c.2.2.2.1.getD i 0 > c.2.2.2.2.1.getD i 0) || twiceY c.2.2.1 i))) := by
   by_cases h1 : kk = 21
   ·unfold coefsB at hb
    have hb : (!(decide (kk = 21)) || (decide (c.2.2.2.1.length = c.2.2.1.length) && decide (c.2.2.2.2.1.length = c.2.2.1.length))) = true := hb
    have e1 : decide (kk = 21) = true := decide_eq_true h1
    rw [e1] at hb ⊢
    have hb : (decide (c.2.2.2.1.length = c.2.2.1.length) && decide (c.2.2.2.2.1.length = c.2.2.1.length)) = true := hb
    rw [Bool.and_eq_true, decide_eq_true_eq, decide_eq_true_eq] at hb
    refine (any_range (fun n i => F83.l1_1_1_1_1_1_1_1_1_1_1_0_1_0 n (F83.kt 4000 [1, 1, 1, 1, 1, 1, 1, 1, 1, 1, 1, 0, 1, 0]) i kk c.1 c.2.1 c.2.2.1 c.2.2.2.1 c.2.2.2.2.1 c.2.2.2.2.2.1 c.2.2.2.2.2.2) c.2.2.1.length (fun i => decide (c.2.2.2.1.getD i 0 > c.2.2.2.2.1.getD i 0) || twiceY c.2.2.1 i) (some (.v .bool false)) (some (.v .bool true)) 1500 (by omega)
     (fun n _ => (F83.l1_1_1_1_1_1_1_1_1_1_1_0_1_0_eq ..).trans ((bT' e1).trans (self_lt'.trans (F83.c3 4000)))) (fun n i hi hn => ?_) 4000 (by omega)).trans ?_
    ·refine (F83.l1_1_1_1_1_1_1_1_1_1_1_0_1_0_eq ..).trans ((bT' e1).trans ((bT' (lt_natG hi)).trans ((bT' (in_natG (show i < c.2.2.2.1.length by omega))).trans ((bT' (in_natG (show i < c.2.2.2.2.1.length by omega))).trans ?_))))
     rw [Int.toNat_natCast]
     cases decide (c.2.2.2.1.getD i 0 > c.2.2.2.2.1.getD i 0) with
     | true => exact F83.c2 4000
     | false =>
      refine (bF' rfl).trans ((any_range (fun n' j => F83.l1_1_1_1_1_1_1_1_1_1_1_0_1_0_0_1_0_0_1_1_0 n' (F83.k_l1_1_1_1_1_1_1_1_1_1_1_0_1_0 n (F83.kt 4000 [1, 1, 1, 1, 1, 1, 1, 1, 1, 1, 1, 0, 1, 0]) [1, 0, 0, 1, 1, 0]) (i : Int) j kk c.1 c.2.1 c.2.2.1 c.2.2.2.1 c.2.2.2.2.1 c.2.2.2.2.2.1 c.2.2.2.2.2.2) i (fun j => decide (c.2.2.1.getD i 0 = c.2.2.1.getD j 0)) (some (.v .bool false)) _ 0 (by omega)
       (fun n' _ => (F83.l1_1_1_1_1_1_1_1_1_1_1_0_1_0_0_1_0_0_1_1_0_eq ..).trans (self_lt'.trans (F83.c5 ..))) (fun n' j hj _ => ?_) n (by omega)).trans ?_)
      ·refine (F83.l1_1_1_1_1_1_1_1_1_1_1_0_1_0_0_1_0_0_1_1_0_eq ..).trans ((bT' (lt_natG hj)).trans ((bT' (in_natG hi)).trans ((bT' (in_natG (show j < c.2.2.1.length by omega))).trans ?_)))
       rw [Int.toNat_natCast, Int.toNat_natCast, F83.c4, F83.c2]
      ·rfl
    ·cases (List.range c.2.2.1.length).any (fun i => decide (c.2.2.2.1.getD i 0 > c.2.2.2.2.1.getD i 0) || twiceY c.2.2.1 i) <;> rfl
   ·rw [decide_eq_false h1]
    exact (F83.l1_1_1_1_1_1_1_1_1_1_1_0_1_0_eq ..).trans ((bF' (decide_eq_false h1)).trans (F83.c3 4000))
  refine (any_loop (fun n i => F83.l1_1_1_1_1_1_1_1_1_1_0_1_0 n (F83.kt 4000 [1, 1, 1, 1, 1, 1, 1, 1, 1, 1, 0, 1, 0]) i kk c.1 c.2.1 c.2.2.1 c.2.2.2.1 c.2.2.2.2.1 c.2.2.2.2.2.1 c.2.2.2.2.2.2) c.2.2.2.2.2.2 (fun r => !(inL r (-1000000) 1000000)) (some (.v .bool false)) _ 0 (by omega)
   (fun n => (F83.l1_1_1_1_1_1_1_1_1_1_0_1_0_eq ..).trans (self_lt'.trans ((F83.c1 ..).trans two))) (fun n i hi _ => ?_) 4000 (by omega)).trans ?_
  ·have e : c.2.2.2.2.2.2[i] = c.2.2.2.2.2.2.getD i [] := by rw [List.getD_eq_getElem?_getD, List.getElem?_eq_getElem hi]; rfl
   rw [e]
   refine (F83.l1_1_1_1_1_1_1_1_1_1_0_1_0_eq ..).trans ((bT' (lt_natG hi)).trans ((bT' (in_natG hi)).trans ?_))
   rw [Int.toNat_natCast, F83.c0]
  ·cases (List.any c.2.2.2.2.2.2 fun r => !(inL r (-1000000) 1000000)) <;> rfl
 refine (F83.start_eq 4000 kk c).trans ?_
 rw [tail]
 have e0 : coefsG (kk, c) = (inL c.2.2.1 (loY (kk, c)) 1000000 && (inL c.2.2.2.1 (seY (kk, c)) 1000000 && (inL c.2.2.2.2.1 (seY (kk, c)) 1000000 && (!(decide (c.2.2.2.2.2.1 < kaY (kk, c))) && (!(decide (c.2.2.2.2.2.1 > 9999999999)) &&
  (!(List.any c.2.2.2.2.2.2 fun r => !(inL r (-1000000) 1000000)) && !(decide (kk = 21) && (List.range c.2.2.1.length).any fun i => decide (c.2.2.2.1.getD i 0 > c.2.2.2.2.1.getD i 0) || twiceY c.2.2.1 i))))))) := rfl
 rw [e0]
 generalize (!(List.any c.2.2.2.2.2.2 fun r => !(inL r (-1000000) 1000000)) && !(decide (kk = 21) && (List.range c.2.2.1.length).any fun i => decide (c.2.2.2.1.getD i 0 > c.2.2.2.2.1.getD i 0) || twiceY c.2.2.1 i)) = t
 have fin : ∀ lo se ka : Int, (bif !(inL c.2.2.1 lo 1000000) then some (AV.v .bool false) else bif !(inL c.2.2.2.1 se 1000000) then some (AV.v .bool false) else bif !(inL c.2.2.2.2.1 se 1000000) then some (AV.v .bool false) else bif decide (c.2.2.2.2.2.1 < ka) then some (AV.v .bool false) else bif decide (c.2.2.2.2.2.1 > 9999999999) then some (AV.v .bool false) else some (AV.v .bool t)) =
   some (AV.v .bool (inL c.2.2.1 lo 1000000 && (inL c.2.2.2.1 se 1000000 && (inL c.2.2.2.2.1 se 1000000 && (!(decide (c.2.2.2.2.2.1 < ka)) && (!(decide (c.2.2.2.2.2.1 > 9999999999)) && t)))))) := fun lo se ka => by
  cases inL c.2.2.1 lo 1000000 <;> cases inL c.2.2.2.1 se 1000000 <;> cases inL c.2.2.2.2.1 se 1000000 <;> cases decide (c.2.2.2.2.2.1 < ka) <;> cases decide (c.2.2.2.2.2.1 > 9999999999) <;> rfl
 by_cases h1 : kk = 19
 ·have l1 : loY (kk, c) = 0 := if_pos h1
  have l2 : seY (kk, c) = 0 := (if_neg (show ¬ (kk, c).1 = 21 by show ¬ kk = 21; omega)).trans (if_pos h1)
  have l3 : kaY (kk, c) = 0 := if_pos h1
  rw [l1, l2, l3]
  exact (bT' (decide_eq_true h1)).trans ((bF' (decide_eq_false (by omega))).trans (fin 0 0 0))
 ·have l1 : loY (kk, c) = -1000000 := if_neg h1
  have l3 : kaY (kk, c) = -9999999999 := if_neg h1
  rw [l1, l3]
  refine (bF' (decide_eq_false h1)).trans ?_
  by_cases h2 : kk = 21
  ·have l2 : seY (kk, c) = 0 := if_pos h2
   rw [l2]
   exact (bT' (decide_eq_true h2)).trans (fin _ _ _)
  ·have l2 : seY (kk, c) = -1000000 := (if_neg h2).trans (if_neg h1)
   rw [l2]
   exact (bF' (decide_eq_false h2)).trans (fin _ _ _)
theorem F81k1.sem (c : RestG) (h : smallC (1, c) = true) : callW F81k1.E false F81k1.fn 2000 [.agg (explode ConT ((1 : Int), c)), .v .str ⟨#[99, 86, 107]⟩] = some (.v .bool (arityG (1, c) ⟨#[99, 86, 107]⟩)) := by
 have hr := (small_iff h).lr
 simp only at hr
 have lp : F81k1.l1_1_1_1_1_1_1_1_1_1_1_1_1_1_0_1_0 2000 (F81k1.kt 2000 [1, 1, 1, 1, 1, 1, 1, 1, 1, 1, 1, 1, 1, 1, 0, 1, 0]) (c.1.length : Int) 0 1 c.1 c.2.1 c.2.2.1 c.2.2.2.1 c.2.2.2.2.1 c.2.2.2.2.2.1 c.2.2.2.2.2.2 = some (.v .bool (!(List.any c.2.2.2.2.2.2 (rowN (1, c))))) := by
  refine (any_loop (fun n i => F81k1.l1_1_1_1_1_1_1_1_1_1_1_1_1_1_0_1_0 n (F81k1.kt 2000 [1, 1, 1, 1, 1, 1, 1, 1, 1, 1, 1, 1, 1, 1, 0, 1, 0]) (c.1.length : Int) i 1 c.1 c.2.1 c.2.2.1 c.2.2.2.1 c.2.2.2.2.1 c.2.2.2.2.2.1 c.2.2.2.2.2.2) c.2.2.2.2.2.2 (rowN (1, c)) (some (.v .bool false)) (some (.v .bool true)) 0 (by omega) (fun n => (F81k1.l1_1_1_1_1_1_1_1_1_1_1_1_1_1_0_1_0_eq ..).trans (self_lt'.trans (F81k1.c1 2000))) (fun n i hi _ => ?_) 2000 (by omega)).trans ?_
  ·have e : c.2.2.2.2.2.2[i] = c.2.2.2.2.2.2.getD i [] := by rw [List.getD_eq_getElem?_getD, List.getElem?_eq_getElem hi]; rfl
   rw [e]
   refine (F81k1.l1_1_1_1_1_1_1_1_1_1_1_1_1_1_0_1_0_eq ..).trans ((bT' (lt_natG hi)).trans ((bT' (in_natG hi)).trans ?_))
   rw [Int.toNat_natCast, F81k1.c0]
   rfl
  ·cases List.any c.2.2.2.2.2.2 (rowN (1, c)) <;> rfl
 rw [ari_k1]
 refine (F81k1.start_eq 2000 c).trans ?_
 rw [lp]
 simp only [pushC, cAnd, cNot, Bool.not_not, Bool.not_or, Bool.and_assoc, Bool.cond_self]
theorem F81k2.sem (c : RestG) (h : smallC (2, c) = true) : callW F81k2.E false F81k2.fn 2000 [.agg (explode ConT ((2 : Int), c)), .v .str ⟨#[99, 86, 107]⟩] = some (.v .bool (arityG (2, c) ⟨#[99, 86, 107]⟩)) := by
 have hr := (small_iff h).lr
 simp only at hr
 have lp : F81k2.l1_1_1_1_1_1_1_1_1_1_1_1_1_1_0_1_0 2000 (F81k2.kt 2000 [1, 1, 1, 1, 1, 1, 1, 1, 1, 1, 1, 1, 1, 1, 0, 1, 0]) (c.1.length : Int) 0 2 c.1 c.2.1 c.2.2.1 c.2.2.2.1 c.2.2.2.2.1 c.2.2.2.2.2.1 c.2.2.2.2.2.2 = some (.v .bool (!(List.any c.2.2.2.2.2.2 (rowN (2, c))))) := by
  refine (any_loop (fun n i => F81k2.l1_1_1_1_1_1_1_1_1_1_1_1_1_1_0_1_0 n (F81k2.kt 2000 [1, 1, 1, 1, 1, 1, 1, 1, 1, 1, 1, 1, 1, 1, 0, 1, 0]) (c.1.length : Int) i 2 c.1 c.2.1 c.2.2.1 c.2.2.2.1 c.2.2.2.2.1 c.2.2.2.2.2.1 c.2.2.2.2.2.2) c.2.2.2.2.2.2 (rowN (2, c)) (some (.v .bool false)) (some (.v .bool true)) 0 (by omega) (fun n => (F81k2.l1_1_1_1_1_1_1_1_1_1_1_1_1_1_0_1_0_eq ..).trans (self_lt'.trans (F81k2.c1 2000))) (fun n i hi _ => ?_) 2000 (by omega)).trans ?_
  ·have e : c.2.2.2.2.2.2[i] = c.2.2.2.2.2.2.getD i [] := by rw [List.getD_eq_getElem?_getD, List.getElem?_eq_getElem hi]; rfl
   rw [e]
   refine (F81k2.l1_1_1_1_1_1_1_1_1_1_1_1_1_1_0_1_0_eq ..).trans ((bT' (lt_natG hi)).trans ((bT' (in_natG hi)).trans ?_))
   rw [Int.toNat_natCast, F81k2.c0]
   rfl
  ·cases List.any c.2.2.2.2.2.2 (rowN (2, c)) <;> rfl
 rw [ari_k2]
 refine (F81k2.start_eq 2000 c).trans ?_
 rw [lp]
 simp only [pushC, cAnd, cNot, Bool.not_not, Bool.not_or, Bool.and_assoc, Bool.cond_self]
theorem F81k3.sem (c : RestG) (h : smallC (3, c) = true) : callW F81k3.E false F81k3.fn 2000 [.agg (explode ConT ((3 : Int), c)), .v .str ⟨#[99, 86, 107]⟩] = some (.v .bool (arityG (3, c) ⟨#[99, 86, 107]⟩)) := by
 have hr := (small_iff h).lr
 simp only at hr
 have lp : F81k3.l1_1_1_1_1_1_1_1_1_1_1_1_1_1_0_1_0 2000 (F81k3.kt 2000 [1, 1, 1, 1, 1, 1, 1, 1, 1, 1, 1, 1, 1, 1, 0, 1, 0]) (c.1.length : Int) 0 3 c.1 c.2.1 c.2.2.1 c.2.2.2.1 c.2.2.2.2.1 c.2.2.2.2.2.1 c.2.2.2.2.2.2 = some (.v .bool (!(List.any c.2.2.2.2.2.2 (rowN (3, c))))) := by
  refine (any_loop (fun n i => F81k3.l1_1_1_1_1_1_1_1_1_1_1_1_1_1_0_1_0 n (F81k3.kt 2000 [1, 1, 1, 1, 1, 1, 1, 1, 1, 1, 1, 1, 1, 1, 0, 1, 0]) (c.1.length : Int) i 3 c.1 c.2.1 c.2.2.1 c.2.2.2.1 c.2.2.2.2.1 c.2.2.2.2.2.1 c.2.2.2.2.2.2) c.2.2.2.2.2.2 (rowN (3, c)) (some (.v .bool false)) (some (.v .bool true)) 0 (by omega) (fun n => (F81k3.l1_1_1_1_1_1_1_1_1_1_1_1_1_1_0_1_0_eq ..).trans (self_lt'.trans (F81k3.c1 2000))) (fun n i hi _ => ?_) 2000 (by omega)).trans ?_
  ·have e : c.2.2.2.2.2.2[i] = c.2.2.2.2.2.2.getD i [] := by rw [List.getD_eq_getElem?_getD, List.getElem?_eq_getElem hi]; rfl
   rw [e]
   refine (F81k3.l1_1_1_1_1_1_1_1_1_1_1_1_1_1_0_1_0_eq ..).trans ((bT' (lt_natG hi)).trans ((bT' (in_natG hi)).trans ?_))
   rw [Int.toNat_natCast, F81k3.c0]
   rfl
  ·cases List.any c.2.2.2.2.2.2 (rowN (3, c)) <;> rfl
 rw [ari_k3]
 refine (F81k3.start_eq 2000 c).trans ?_
 rw [lp]
 simp only [pushC, cAnd, cNot, Bool.not_not, Bool.not_or, Bool.and_assoc, Bool.cond_self]
theorem F81k4.sem (c : RestG) (h : smallC (4, c) = true) : callW F81k4.E false F81k4.fn 2000 [.agg (explode ConT ((4 : Int), c)), .v .str ⟨#[99, 86, 107, 119]⟩] = some (.v .bool (arityG (4, c) ⟨#[99, 86, 107, 119]⟩)) := by
 have hr := (small_iff h).lr
 simp only at hr
 have lp : F81k4.l1_1_1_1_1_1_1_1_1_1_1_1_1_1_0_1_0 2000 (F81k4.kt 2000 [1, 1, 1, 1, 1, 1, 1, 1, 1, 1, 1, 1, 1, 1, 0, 1, 0]) (c.1.length : Int) 0 4 c.1 c.2.1 c.2.2.1 c.2.2.2.1 c.2.2.2.2.1 c.2.2.2.2.2.1 c.2.2.2.2.2.2 = some (.v .bool (!(List.any c.2.2.2.2.2.2 (rowN (4, c))))) := by
  refine (any_loop (fun n i => F81k4.l1_1_1_1_1_1_1_1_1_1_1_1_1_1_0_1_0 n (F81k4.kt 2000 [1, 1, 1, 1, 1, 1, 1, 1, 1, 1, 1, 1, 1, 1, 0, 1, 0]) (c.1.length : Int) i 4 c.1 c.2.1 c.2.2.1 c.2.2.2.1 c.2.2.2.2.1 c.2.2.2.2.2.1 c.2.2.2.2.2.2) c.2.2.2.2.2.2 (rowN (4, c)) (some (.v .bool false)) (some (.v .bool true)) 0 (by omega) (fun n => (F81k4.l1_1_1_1_1_1_1_1_1_1_1_1_1_1_0_1_0_eq ..).trans (self_lt'.trans (F81k4.c1 2000))) (fun n i hi _ => ?_) 2000 (by omega)).trans ?_
  ·have e : c.2.2.2.2.2.2[i] = c.2.2.2.2.2.2.getD i [] := by rw [List.getD_eq_getElem?_getD, List.getElem?_eq_getElem hi]; rfl
   rw [e]
   refine (F81k4.l1_1_1_1_1_1_1_1_1_1_1_1_1_1_0_1_0_eq ..).trans ((bT' (lt_natG hi)).trans ((bT' (in_natG hi)).trans ?_))
   rw [Int.toNat_natCast, F81k4.c0]
   rfl
  ·cases List.any c.2.2.2.2.2.2 (rowN (4, c)) <;> rfl
 rw [ari_k4]
 refine (F81k4.start_eq 2000 c).trans ?_
 rw [lp]
 simp only [pushC, cAnd, cNot, Bool.not_not, Bool.not_or, Bool.and_assoc, Bool.cond_self]
theorem F81k5.sem (c : RestG) (h : smallC (5, c) = true) : callW F81k5.E false F81k5.fn 2000 [.agg (explode ConT ((5 : Int), c)), .v .str ⟨#[118, 118, 118]⟩] = some (.v .bool (arityG (5, c) ⟨#[118, 118, 118]⟩)) := by
 have hr := (small_iff h).lr
 simp only at hr
 have lp : F81k5.l1_1_1_1_1_1_1_1_1_1_1_1_1_1_0_1_0 2000 (F81k5.kt 2000 [1, 1, 1, 1, 1, 1, 1, 1, 1, 1, 1, 1, 1, 1, 0, 1, 0]) (c.1.length : Int) 0 5 c.1 c.2.1 c.2.2.1 c.2.2.2.1 c.2.2.2.2.1 c.2.2.2.2.2.1 c.2.2.2.2.2.2 = some (.v .bool (!(List.any c.2.2.2.2.2.2 (rowN (5, c))))) := by
  refine (any_loop (fun n i => F81k5.l1_1_1_1_1_1_1_1_1_1_1_1_1_1_0_1_0 n (F81k5.kt 2000 [1, 1, 1, 1, 1, 1, 1, 1, 1, 1, 1, 1, 1, 1, 0, 1, 0]) (c.1.length : Int) i 5 c.1 c.2.1 c.2.2.1 c.2.2.2.1 c.2.2.2.2.1 c.2.2.2.2.2.1 c.2.2.2.2.2.2) c.2.2.2.2.2.2 (rowN (5, c)) (some (.v .bool false)) (some (.v .bool true)) 0 (by omega) (fun n => (F81k5.l1_1_1_1_1_1_1_1_1_1_1_1_1_1_0_1_0_eq ..).trans (self_lt'.trans (F81k5.c1 2000))) (fun n i hi _ => ?_) 2000 (by omega)).trans ?_
  ·have e : c.2.2.2.2.2.2[i] = c.2.2.2.2.2.2.getD i [] := by rw [List.getD_eq_getElem?_getD, List.getElem?_eq_getElem hi]; rfl
   rw [e]
   refine (F81k5.l1_1_1_1_1_1_1_1_1_1_1_1_1_1_0_1_0_eq ..).trans ((bT' (lt_natG hi)).trans ((bT' (in_natG hi)).trans ?_))
   rw [Int.toNat_natCast, F81k5.c0]
   rfl
  ·cases List.any c.2.2.2.2.2.2 (rowN (5, c)) <;> rfl
 rw [ari_k5]
 refine (F81k5.start_eq 2000 c).trans ?_
 rw [lp]
 simp only [pushC, cAnd, cNot, Bool.not_not, Bool.not_or, Bool.and_assoc, Bool.cond_self]
theorem F81k6.sem (c : RestG) (h : smallC (6, c) = true) : callW F81k6.E false F81k6.fn 2000 [.agg (explode ConT ((6 : Int), c)), .v .str ⟨#[118, 118, 118]⟩] = some (.v .bool (arityG (6, c) ⟨#[118, 118, 118]⟩)) := by
 have hr := (small_iff h).lr
 simp only at hr
 have lp : F81k6.l1_1_1_1_1_1_1_1_1_1_1_1_1_1_0_1_0 2000 (F81k6.kt 2000 [1, 1, 1, 1, 1, 1, 1, 1, 1, 1, 1, 1, 1, 1, 0, 1, 0]) (c.1.length : Int) 0 6 c.1 c.2.1 c.2.2.1 c.2.2.2.1 c.2.2.2.2.1 c.2.2.2.2.2.1 c.2.2.2.2.2.2 = some (.v .bool (!(List.any c.2.2.2.2.2.2 (rowN (6, c))))) := by
  refine (any_loop (fun n i => F81k6.l1_1_1_1_1_1_1_1_1_1_1_1_1_1_0_1_0 n (F81k6.kt 2000 [1, 1, 1, 1, 1, 1, 1, 1, 1, 1, 1, 1, 1, 1, 0, 1, 0]) (c.1.length : Int) i 6 c.1 c.2.1 c.2.2.1 c.2.2.2.1 c.2.2.2.2.1 c.2.2.2.2.2.1 c.2.2.2.2.2.2) c.2.2.2.2.2.2 (rowN (6, c)) (some (.v .bool false)) (some (.v .bool true)) 0 (by omega) (fun n => (F81k6.l1_1_1_1_1_1_1_1_1_1_1_1_1_1_0_1_0_eq ..).trans (self_lt'.trans (F81k6.c1 2000))) (fun n i hi _ => ?_) 2000 (by omega)).trans ?_
  ·have e : c.2.2.2.2.2.2[i] = c.2.2.2.2.2.2.getD i [] := by rw [List.getD_eq_getElem?_getD, List.getElem?_eq_getElem hi]; rfl
   rw [e]
   refine (F81k6.l1_1_1_1_1_1_1_1_1_1_1_1_1_1_0_1_0_eq ..).trans ((bT' (lt_natG hi)).trans ((bT' (in_natG hi)).trans ?_))
   rw [Int.toNat_natCast, F81k6.c0]
   rfl
  ·cases List.any c.2.2.2.2.2.2 (rowN (6, c)) <;> rfl
 rw [ari_k6]
 refine (F81k6.start_eq 2000 c).trans ?_
 rw [lp]
 simp only [pushC, cAnd, cNot, Bool.not_not, Bool.not_or, Bool.and_assoc, Bool.cond_self]
theorem F81k7.sem (c : RestG) (h : smallC (7, c) = true) : callW F81k7.E false F81k7.fn 2000 [.agg (explode ConT ((7 : Int), c)), .v .str ⟨#[118, 118, 118]⟩] = some (.v .bool (arityG (7, c) ⟨#[118, 118, 118]⟩)) := by
 have hr := (small_iff h).lr
 simp only at hr
 have lp : F81k7.l1_1_1_1_1_1_1_1_1_1_1_1_1_1_0_1_0 2000 (F81k7.kt 2000 [1, 1, 1, 1, 1, 1, 1, 1, 1, 1, 1, 1, 1, 1, 0, 1, 0]) (c.1.length : Int) 0 7 c.1 c.2.1 c.2.2.1 c.2.2.2.1 c.2.2.2.2.1 c.2.2.2.2.2.1 c.2.2.2.2.2.2 = some (.v .bool (!(List.any c.2.2.2.2.2.2 (rowN (7, c))))) := by
  refine (any_loop (fun n i => F81k7.l1_1_1_1_1_1_1_1_1_1_1_1_1_1_0_1_0 n (F81k7.kt 2000 [1, 1, 1, 1, 1, 1, 1, 1, 1, 1, 1, 1, 1, 1, 0, 1, 0]) (c.1.length : Int) i 7 c.1 c.2.1 c.2.2.1 c.2.2.2.1 c.2.2.2.2.1 c.2.2.2.2.2.1 c.2.2.2.2.2.2) c.2.2.2.2.2.2 (rowN (7, c)) (some (.v .bool false)) (some (.v .bool true)) 0 (by omega) (fun n => (F81k7.l1_1_1_1_1_1_1_1_1_1_1_1_1_1_0_1_0_eq ..).trans (self_lt'.trans (F81k7.c1 2000))) (fun n i hi _ => ?_) 2000 (by omega)).trans ?_
  ·have e : c.2.2.2.2.2.2[i] = c.2.2.2.2.2.2.getD i [] := by rw [List.getD_eq_getElem?_getD, List.getElem?_eq_getElem hi]; rfl
   rw [e]
   refine (F81k7.l1_1_1_1_1_1_1_1_1_1_1_1_1_1_0_1_0_eq ..).trans ((bT' (lt_natG hi)).trans ((bT' (in_natG hi)).trans ?_))
   rw [Int.toNat_natCast, F81k7.c0]
   rfl
  ·cases List.any c.2.2.2.2.2.2 (rowN (7, c)) <;> rfl
 rw [ari_k7]
 refine (F81k7.start_eq 2000 c).trans ?_
 rw [lp]
 simp only [pushC, cAnd, cNot, Bool.not_not, Bool.not_or, Bool.and_assoc, Bool.cond_self]
theorem F81k8.sem (c : RestG) (h : smallC (8, c) = true) : callW F81k8.E false F81k8.fn 2000 [.agg (explode ConT ((8 : Int), c)), .v .str ⟨#[118, 118]⟩] = some (.v .bool (arityG (8, c) ⟨#[118, 118]⟩)) := by
 have hr := (small_iff h).lr
 simp only at hr
 have lp : F81k8.l1_1_1_1_1_1_1_1_1_1_1_1_1_1_0_1_0 2000 (F81k8.kt 2000 [1, 1, 1, 1, 1, 1, 1, 1, 1, 1, 1, 1, 1, 1, 0, 1, 0]) (c.1.length : Int) 0 8 c.1 c.2.1 c.2.2.1 c.2.2.2.1 c.2.2.2.2.1 c.2.2.2.2.2.1 c.2.2.2.2.2.2 = some (.v .bool (!(List.any c.2.2.2.2.2.2 (rowN (8, c))))) := by
  refine (any_loop (fun n i => F81k8.l1_1_1_1_1_1_1_1_1_1_1_1_1_1_0_1_0 n (F81k8.kt 2000 [1, 1, 1, 1, 1, 1, 1, 1, 1, 1, 1, 1, 1, 1, 0, 1, 0]) (c.1.length : Int) i 8 c.1 c.2.1 c.2.2.1 c.2.2.2.1 c.2.2.2.2.1 c.2.2.2.2.2.1 c.2.2.2.2.2.2) c.2.2.2.2.2.2 (rowN (8, c)) (some (.v .bool false)) (some (.v .bool true)) 0 (by omega) (fun n => (F81k8.l1_1_1_1_1_1_1_1_1_1_1_1_1_1_0_1_0_eq ..).trans (self_lt'.trans (F81k8.c1 2000))) (fun n i hi _ => ?_) 2000 (by omega)).trans ?_
  ·have e : c.2.2.2.2.2.2[i] = c.2.2.2.2.2.2.getD i [] := by rw [List.getD_eq_getElem?_getD, List.getElem?_eq_getElem hi]; rfl
   rw [e]
   refine (F81k8.l1_1_1_1_1_1_1_1_1_1_1_1_1_1_0_1_0_eq ..).trans ((bT' (lt_natG hi)).trans ((bT' (in_natG hi)).trans ?_))
   rw [Int.toNat_natCast, F81k8.c0]
   rfl
  ·cases List.any c.2.2.2.2.2.2 (rowN (8, c)) <;> rfl
 rw [ari_k8]
 refine (F81k8.start_eq 2000 c).trans ?_
 rw [lp]
 simp only [pushC, cAnd, cNot, Bool.not_not, Bool.not_or, Bool.and_assoc, Bool.cond_self]
theorem F81k9.sem (c : RestG) (h : smallC (9, c) = true) : callW F81k9.E false F81k9.fn 2000 [.agg (explode ConT ((9 : Int), c)), .v .str ⟨#[118, 118, 118]⟩] = some (.v .bool (arityG (9, c) ⟨#[118, 118, 118]⟩)) := by
 have hr := (small_iff h).lr
 simp only at hr
 have lp : F81k9.l1_1_1_1_1_1_1_1_1_1_1_1_1_1_0_1_0 2000 (F81k9.kt 2000 [1, 1, 1, 1, 1, 1, 1, 1, 1, 1, 1, 1, 1, 1, 0, 1, 0]) (c.1.length : Int) 0 9 c.1 c.2.1 c.2.2.1 c.2.2.2.1 c.2.2.2.2.1 c.2.2.2.2.2.1 c.2.2.2.2.2.2 = some (.v .bool (!(List.any c.2.2.2.2.2.2 (rowN (9, c))))) := by
  refine (any_loop (fun n i => F81k9.l1_1_1_1_1_1_1_1_1_1_1_1_1_1_0_1_0 n (F81k9.kt 2000 [1, 1, 1, 1, 1, 1, 1, 1, 1, 1, 1, 1, 1, 1, 0, 1, 0]) (c.1.length : Int) i 9 c.1 c.2.1 c.2.2.1 c.2.2.2.1 c.2.2.2.2.1 c.2.2.2.2.2.1 c.2.2.2.2.2.2) c.2.2.2.2.2.2 (rowN (9, c)) (some (.v .bool false)) (some (.v .bool true)) 0 (by omega) (fun n => (F81k9.l1_1_1_1_1_1_1_1_1_1_1_1_1_1_0_1_0_eq ..).trans (self_lt'.trans (F81k9.c1 2000))) (fun n i hi _ => ?_) 2000 (by omega)).trans ?_
  ·have e : c.2.2.2.2.2.2[i] = c.2.2.2.2.2.2.getD i [] := by rw [List.getD_eq_getElem?_getD, List.getElem?_eq_getElem hi]; rfl
   rw [e]
   refine (F81k9.l1_1_1_1_1_1_1_1_1_1_1_1_1_1_0_1_0_eq ..).trans ((bT' (lt_natG hi)).trans ((bT' (in_natG hi)).trans ?_))
   rw [Int.toNat_natCast, F81k9.c0]
   rfl
  ·cases List.any c.2.2.2.2.2.2 (rowN (9, c)) <;> rfl
 rw [ari_k9]
 refine (F81k9.start_eq 2000 c).trans ?_
 rw [lp]
 simp only [pushC, cAnd, cNot, Bool.not_not, Bool.not_or, Bool.and_assoc, Bool.cond_self]
theorem F81k10.sem (c : RestG) (h : smallC (10, c) = true) : callW F81k10.E false F81k10.fn 2000 [.agg (explode ConT ((10 : Int), c)), .v .str ⟨#[118, 118, 118]⟩] = some (.v .bool (arityG (10, c) ⟨#[118, 118, 118]⟩)) := by
 have hr := (small_iff h).lr
 simp only at hr
 have lp : F81k10.l1_1_1_1_1_1_1_1_1_1_1_1_1_1_0_1_0 2000 (F81k10.kt 2000 [1, 1, 1, 1, 1, 1, 1, 1, 1, 1, 1, 1, 1, 1, 0, 1, 0]) (c.1.length : Int) 0 10 c.1 c.2.1 c.2.2.1 c.2.2.2.1 c.2.2.2.2.1 c.2.2.2.2.2.1 c.2.2.2.2.2.2 = some (.v .bool (!(List.any c.2.2.2.2.2.2 (rowN (10, c))))) := by
  refine (any_loop (fun n i => F81k10.l1_1_1_1_1_1_1_1_1_1_1_1_1_1_0_1_0 n (F81k10.kt 2000 [1, 1, 1, 1, 1, 1, 1, 1, 1, 1, 1, 1, 1, 1, 0, 1, 0]) (c.1.length : Int) i 10 c.1 c.2.1 c.2.2.1 c.2.2.2.1 c.2.2.2.2.1 c.2.2.2.2.2.1 c.2.2.2.2.2.2) c.2.2.2.2.2.2 (rowN (10, c)) (some (.v .bool false)) (some (.v .bool true)) 0 (by omega) (fun n => (F81k10.l1_1_1_1_1_1_1_1_1_1_1_1_1_1_0_1_0_eq ..).trans (self_lt'.trans (F81k10.c1 2000))) (fun n i hi _ => ?_) 2000 (by omega)).trans ?_
  ·have e : c.2.2.2.2.2.2[i] = c.2.2.2.2.2.2.getD i [] := by rw [List.getD_eq_getElem?_getD, List.getElem?_eq_getElem hi]; rfl
   rw [e]
   refine (F81k10.l1_1_1_1_1_1_1_1_1_1_1_1_1_1_0_1_0_eq ..).trans ((bT' (lt_natG hi)).trans ((bT' (in_natG hi)).trans ?_))
   rw [Int.toNat_natCast, F81k10.c0]
   rfl
  ·cases List.any c.2.2.2.2.2.2 (rowN (10, c)) <;> rfl
 rw [ari_k10]
 refine (F81k10.start_eq 2000 c).trans ?_
 rw [lp]
 simp only [pushC, cAnd, cNot, Bool.not_not, Bool.not_or, Bool.and_assoc, Bool.cond_self]
theorem F81k11.sem (c : RestG) (h : smallC (11, c) = true) : callW F81k11.E false F81k11.fn 2000 [.agg (explode ConT ((11 : Int), c)), .v .str ⟨#[118, 99, 118]⟩] = some (.v .bool (arityG (11, c) ⟨#[118, 99, 118]⟩)) := by
 have hr := (small_iff h).lr
 simp only at hr
 have lp : F81k11.l1_1_1_1_1_1_1_1_1_1_1_1_1_1_0_1_0 2000 (F81k11.kt 2000 [1, 1, 1, 1, 1, 1, 1, 1, 1, 1, 1, 1, 1, 1, 0, 1, 0]) (c.1.length : Int) 0 11 c.1 c.2.1 c.2.2.1 c.2.2.2.1 c.2.2.2.2.1 c.2.2.2.2.2.1 c.2.2.2.2.2.2 = some (.v .bool (!(List.any c.2.2.2.2.2.2 (rowN (11, c))))) := by
  refine (any_loop (fun n i => F81k11.l1_1_1_1_1_1_1_1_1_1_1_1_1_1_0_1_0 n (F81k11.kt 2000 [1, 1, 1, 1, 1, 1, 1, 1, 1, 1, 1, 1, 1, 1, 0, 1, 0]) (c.1.length : Int) i 11 c.1 c.2.1 c.2.2.1 c.2.2.2.1 c.2.2.2.2.1 c.2.2.2.2.2.1 c.2.2.2.2.2.2) c.2.2.2.2.2.2 (rowN (11, c)) (some (.v .bool false)) (some (.v .bool true)) 0 (by omega) (fun n => (F81k11.l1_1_1_1_1_1_1_1_1_1_1_1_1_1_0_1_0_eq ..).trans (self_lt'.trans (F81k11.c1 2000))) (fun n i hi _ => ?_) 2000 (by omega)).trans ?_
  ·have e : c.2.2.2.2.2.2[i] = c.2.2.2.2.2.2.getD i [] := by rw [List.getD_eq_getElem?_getD, List.getElem?_eq_getElem hi]; rfl
   rw [e]
   refine (F81k11.l1_1_1_1_1_1_1_1_1_1_1_1_1_1_0_1_0_eq ..).trans ((bT' (lt_natG hi)).trans ((bT' (in_natG hi)).trans ?_))
   rw [Int.toNat_natCast, F81k11.c0]
   rfl
  ·cases List.any c.2.2.2.2.2.2 (rowN (11, c)) <;> rfl
 rw [ari_k11]
 refine (F81k11.start_eq 2000 c).trans ?_
 rw [lp]
 simp only [pushC, cAnd, cNot, Bool.not_not, Bool.not_or, Bool.and_assoc, Bool.cond_self]
theorem F81k12.sem (c : RestG) (h : smallC (12, c) = true) : callW F81k12.E false F81k12.fn 2000 [.agg (explode ConT ((12 : Int), c)), .v .str ⟨#[86, 87]⟩] = some (.v .bool (arityG (12, c) ⟨#[86, 87]⟩)) := by
 have ha := (small_iff h).la
 have hb := (small_iff h).lb
 simp only at ha hb
 rw [ari_k12]
 refine (F81k12.start_eq 2000 c).trans ?_
 rw [wrap_ok (x := (c.1.length : Int) + (c.2.1.length : Int)) (by omega) (by omega)]
 simp only [pushC, cAnd, cNot, Bool.not_not]
theorem F81k13.sem (c : RestG) (h : smallC (13, c) = true) : callW F81k13.E false F81k13.fn 2000 [.agg (explode ConT ((13 : Int), c)), .v .str ⟨#[118, 107, 119]⟩] = some (.v .bool (arityG (13, c) ⟨#[118, 107, 119]⟩)) := by
 have hr := (small_iff h).lr
 simp only at hr
 have lp : F81k13.l1_1_1_1_1_1_1_1_1_1_1_1_1_1_0_1_0 2000 (F81k13.kt 2000 [1, 1, 1, 1, 1, 1, 1, 1, 1, 1, 1, 1, 1, 1, 0, 1, 0]) (c.1.length : Int) 0 13 c.1 c.2.1 c.2.2.1 c.2.2.2.1 c.2.2.2.2.1 c.2.2.2.2.2.1 c.2.2.2.2.2.2 = some (.v .bool (!(List.any c.2.2.2.2.2.2 (rowN (13, c))))) := by
  refine (any_loop (fun n i => F81k13.l1_1_1_1_1_1_1_1_1_1_1_1_1_1_0_1_0 n (F81k13.kt 2000 [1, 1, 1, 1, 1, 1, 1, 1, 1, 1, 1, 1, 1, 1, 0, 1, 0]) (c.1.length : Int) i 13 c.1 c.2.1 c.2.2.1 c.2.2.2.1 c.2.2.2.2.1 c.2.2.2.2.2.1 c.2.2.2.2.2.2) c.2.2.2.2.2.2 (rowN (13, c)) (some (.v .bool false)) (some (.v .bool true)) 0 (by omega) (fun n => (F81k13.l1_1_1_1_1_1_1_1_1_1_1_1_1_1_0_1_0_eq ..).trans (self_lt'.trans (F81k13.c1 2000))) (fun n i hi _ => ?_) 2000 (by omega)).trans ?_
  ·have e : c.2.2.2.2.2.2[i] = c.2.2.2.2.2.2.getD i [] := by rw [List.getD_eq_getElem?_getD, List.getElem?_eq_getElem hi]; rfl
   rw [e]
   refine (F81k13.l1_1_1_1_1_1_1_1_1_1_1_1_1_1_0_1_0_eq ..).trans ((bT' (lt_natG hi)).trans ((bT' (in_natG hi)).trans ?_))
   rw [Int.toNat_natCast, F81k13.c0]
   rfl
  ·cases List.any c.2.2.2.2.2.2 (rowN (13, c)) <;> rfl
 rw [ari_k13]
 refine (F81k13.start_eq 2000 c).trans ?_
 rw [lp]
 simp only [pushC, cAnd, cNot, Bool.not_not, Bool.not_or, Bool.and_assoc, Bool.cond_self]
theorem F81k14.sem (c : RestG) (h : smallC (14, c) = true) : callW F81k14.E false F81k14.fn 2000 [.agg (explode ConT ((14 : Int), c)), .v .str ⟨#[118, 107, 119]⟩] = some (.v .bool (arityG (14, c) ⟨#[118, 107, 119]⟩)) := by
 have hr := (small_iff h).lr
 simp only at hr
 have lp : F81k14.l1_1_1_1_1_1_1_1_1_1_1_1_1_1_0_1_0 2000 (F81k14.kt 2000 [1, 1, 1, 1, 1, 1, 1, 1, 1, 1, 1, 1, 1, 1, 0, 1, 0]) (c.1.length : Int) 0 14 c.1 c.2.1 c.2.2.1 c.2.2.2.1 c.2.2.2.2.1 c.2.2.2.2.2.1 c.2.2.2.2.2.2 = some (.v .bool (!(List.any c.2.2.2.2.2.2 (rowN (14, c))))) := by
  refine (any_loop (fun n i => F81k14.l1_1_1_1_1_1_1_1_1_1_1_1_1_1_0_1_0 n (F81k14.kt 2000 [1, 1, 1, 1, 1, 1, 1, 1, 1, 1, 1, 1, 1, 1, 0, 1, 0]) (c.1.length : Int) i 14 c.1 c.2.1 c.2.2.1 c.2.2.2.1 c.2.2.2.2.1 c.2.2.2.2.2.1 c.2.2.2.2.2.2) c.2.2.2.2.2.2 (rowN (14, c)) (some (.v .bool false)) (some (.v .bool true)) 0 (by omega) (fun n => (F81k14.l1_1_1_1_1_1_1_1_1_1_1_1_1_1_0_1_0_eq ..).trans (self_lt'.trans (F81k14.c1 2000))) (fun n i hi _ => ?_) 2000 (by omega)).trans ?_
  ·have e : c.2.2.2.2.2.2[i] = c.2.2.2.2.2.2.getD i [] := by rw [List.getD_eq_getElem?_getD, List.getElem?_eq_getElem hi]; rfl
   rw [e]
   refine (F81k14.l1_1_1_1_1_1_1_1_1_1_1_1_1_1_0_1_0_eq ..).trans ((bT' (lt_natG hi)).trans ((bT' (in_natG hi)).trans ?_))
   rw [Int.toNat_natCast, F81k14.c0]
   rfl
  ·cases List.any c.2.2.2.2.2.2 (rowN (14, c)) <;> rfl
 rw [ari_k14]
 refine (F81k14.start_eq 2000 c).trans ?_
 rw [lp]
 simp only [pushC, cAnd, cNot, Bool.not_not, Bool.not_or, Bool.and_assoc, Bool.cond_self]
theorem F81k15.sem (c : RestG) (h : smallC (15, c) = true) : callW F81k15.E false F81k15.fn 2000 [.agg (explode ConT ((15 : Int), c)), .v .str ⟨#[118, 107, 119]⟩] = some (.v .bool (arityG (15, c) ⟨#[118, 107, 119]⟩)) := by
 have hr := (small_iff h).lr
 simp only at hr
 have lp : F81k15.l1_1_1_1_1_1_1_1_1_1_1_1_1_1_0_1_0 2000 (F81k15.kt 2000 [1, 1, 1, 1, 1, 1, 1, 1, 1, 1, 1, 1, 1, 1, 0, 1, 0]) (c.1.length : Int) 0 15 c.1 c.2.1 c.2.2.1 c.2.2.2.1 c.2.2.2.2.1 c.2.2.2.2.2.1 c.2.2.2.2.2.2 = some (.v .bool (!(List.any c.2.2.2.2.2.2 (rowN (15, c))))) := by
  refine (any_loop (fun n i => F81k15.l1_1_1_1_1_1_1_1_1_1_1_1_1_1_0_1_0 n (F81k15.kt 2000 [1, 1, 1, 1, 1, 1, 1, 1, 1, 1, 1, 1, 1, 1, 0, 1, 0]) (c.1.length : Int) i 15 c.1 c.2.1 c.2.2.1 c.2.2.2.1 c.2.2.2.2.1 c.2.2.2.2.2.1 c.2.2.2.2.2.2) c.2.2.2.2.2.2 (rowN (15, c)) (some (.v .bool false)) (some (.v .bool true)) 0 (by omega) (fun n => (F81k15.l1_1_1_1_1_1_1_1_1_1_1_1_1_1_0_1_0_eq ..).trans (self_lt'.trans (F81k15.c1 2000))) (fun n i hi _ => ?_) 2000 (by omega)).trans ?_
  ·have e : c.2.2.2.2.2.2[i] = c.2.2.2.2.2.2.getD i [] := by rw [List.getD_eq_getElem?_getD, List.getElem?_eq_getElem hi]; rfl
   rw [e]
   refine (F81k15.l1_1_1_1_1_1_1_1_1_1_1_1_1_1_0_1_0_eq ..).trans ((bT' (lt_natG hi)).trans ((bT' (in_natG hi)).trans ?_))
   rw [Int.toNat_natCast, F81k15.c0]
   rfl
  ·cases List.any c.2.2.2.2.2.2 (rowN (15, c)) <;> rfl
 rw [ari_k15]
 refine (F81k15.start_eq 2000 c).trans ?_
 rw [lp]
 simp only [pushC, cAnd, cNot, Bool.not_not, Bool.not_or, Bool.and_assoc, Bool.cond_self]
theorem F81k16.sem (c : RestG) (h : smallC (16, c) = true) : callW F81k16.E false F81k16.fn 2000 [.agg (explode ConT ((16 : Int), c)), .v .str ⟨#[118, 107, 119]⟩] = some (.v .bool (arityG (16, c) ⟨#[118, 107, 119]⟩)) := by
 have hr := (small_iff h).lr
 simp only at hr
 have lp : F81k16.l1_1_1_1_1_1_1_1_1_1_1_1_1_1_0_1_0 2000 (F81k16.kt 2000 [1, 1, 1, 1, 1, 1, 1, 1, 1, 1, 1, 1, 1, 1, 0, 1, 0]) (c.1.length : Int) 0 16 c.1 c.2.1 c.2.2.1 c.2.2.2.1 c.2.2.2.2.1 c.2.2.2.2.2.1 c.2.2.2.2.2.2 = some (.v .bool (!(List.any c.2.2.2.2.2.2 (rowN (16, c))))) := by
  refine (any_loop (fun n i => F81k16.l1_1_1_1_1_1_1_1_1_1_1_1_1_1_0_1_0 n (F81k16.kt 2000 [1, 1, 1, 1, 1, 1, 1, 1, 1, 1, 1, 1, 1, 1, 0, 1, 0]) (c.1.length : Int) i 16 c.1 c.2.1 c.2.2.1 c.2.2.2.1 c.2.2.2.2.1 c.2.2.2.2.2.1 c.2.2.2.2.2.2) c.2.2.2.2.2.2 (rowN (16, c)) (some (.v .bool false)) (some (.v .bool true)) 0 (by omega) (fun n => (F81k16.l1_1_1_1_1_1_1_1_1_1_1_1_1_1_0_1_0_eq ..).trans (self_lt'.trans (F81k16.c1 2000))) (fun n i hi _ => ?_) 2000 (by omega)).trans ?_
  ·have e : c.2.2.2.2.2.2[i] = c.2.2.2.2.2.2.getD i [] := by rw [List.getD_eq_getElem?_getD, List.getElem?_eq_getElem hi]; rfl
   rw [e]
   refine (F81k16.l1_1_1_1_1_1_1_1_1_1_1_1_1_1_0_1_0_eq ..).trans ((bT' (lt_natG hi)).trans ((bT' (in_natG hi)).trans ?_))
   rw [Int.toNat_natCast, F81k16.c0]
   rfl
  ·cases List.any c.2.2.2.2.2.2 (rowN (16, c)) <;> rfl
 rw [ari_k16]
 refine (F81k16.start_eq 2000 c).trans ?_
 rw [lp]
 simp only [pushC, cAnd, cNot, Bool.not_not, Bool.not_or, Bool.and_assoc, Bool.cond_self]
theorem F81k17.sem (c : RestG) (h : smallC (17, c) = true) : callW F81k17.E false F81k17.fn 2000 [.agg (explode ConT ((17 : Int), c)), .v .str ⟨#[86]⟩] = some (.v .bool (arityG (17, c) ⟨#[86]⟩)) := by
 have hr := (small_iff h).lr
 simp only at hr
 have lp : F81k17.l1_1_1_1_1_1_1_1_1_1_1_1_1_1_0_1_0 2000 (F81k17.kt 2000 [1, 1, 1, 1, 1, 1, 1, 1, 1, 1, 1, 1, 1, 1, 0, 1, 0]) (c.1.length : Int) 0 17 c.1 c.2.1 c.2.2.1 c.2.2.2.1 c.2.2.2.2.1 c.2.2.2.2.2.1 c.2.2.2.2.2.2 = some (.v .bool (!(List.any c.2.2.2.2.2.2 (rowN (17, c))))) := by
  refine (any_loop (fun n i => F81k17.l1_1_1_1_1_1_1_1_1_1_1_1_1_1_0_1_0 n (F81k17.kt 2000 [1, 1, 1, 1, 1, 1, 1, 1, 1, 1, 1, 1, 1, 1, 0, 1, 0]) (c.1.length : Int) i 17 c.1 c.2.1 c.2.2.1 c.2.2.2.1 c.2.2.2.2.1 c.2.2.2.2.2.1 c.2.2.2.2.2.2) c.2.2.2.2.2.2 (rowN (17, c)) (some (.v .bool false)) (some (.v .bool true)) 0 (by omega) (fun n => (F81k17.l1_1_1_1_1_1_1_1_1_1_1_1_1_1_0_1_0_eq ..).trans (self_lt'.trans (F81k17.c1 2000))) (fun n i hi _ => ?_) 2000 (by omega)).trans ?_
  ·have e : c.2.2.2.2.2.2[i] = c.2.2.2.2.2.2.getD i [] := by rw [List.getD_eq_getElem?_getD, List.getElem?_eq_getElem hi]; rfl
   rw [e]
   refine (F81k17.l1_1_1_1_1_1_1_1_1_1_1_1_1_1_0_1_0_eq ..).trans ((bT' (lt_natG hi)).trans ((bT' (in_natG hi)).trans ?_))
   rw [Int.toNat_natCast, F81k17.c0]
   rfl
  ·cases List.any c.2.2.2.2.2.2 (rowN (17, c)) <;> rfl
 rw [ari_k17]
 refine (F81k17.start_eq 2000 c).trans ?_
 rw [lp]
 simp only [pushC, cAnd, cNot, Bool.not_not, Bool.not_or, Bool.and_assoc, Bool.cond_self]
theorem F81k18.sem (c : RestG) (h : smallC (18, c) = true) : callW F81k18.E false F81k18.fn 2000 [.agg (explode ConT ((18 : Int), c)), .v .str ⟨#[86, 114]⟩] = some (.v .bool (arityG (18, c) ⟨#[86, 114]⟩)) := by
 have hr := (small_iff h).lr
 simp only at hr
 have lp : F81k18.l1_1_1_1_1_1_1_1_1_1_1_1_1_1_0_1_0 2000 (F81k18.kt 2000 [1, 1, 1, 1, 1, 1, 1, 1, 1, 1, 1, 1, 1, 1, 0, 1, 0]) (c.1.length : Int) 0 18 c.1 c.2.1 c.2.2.1 c.2.2.2.1 c.2.2.2.2.1 c.2.2.2.2.2.1 c.2.2.2.2.2.2 = some (.v .bool (!(List.any c.2.2.2.2.2.2 (rowN (18, c))))) := by
  refine (any_loop (fun n i => F81k18.l1_1_1_1_1_1_1_1_1_1_1_1_1_1_0_1_0 n (F81k18.kt 2000 [1, 1, 1, 1, 1, 1, 1, 1, 1, 1, 1, 1, 1, 1, 0, 1, 0]) (c.1.length : Int) i 18 c.1 c.2.1 c.2.2.1 c.2.2.2.1 c.2.2.2.2.1 c.2.2.2.2.2.1 c.2.2.2.2.2.2) c.2.2.2.2.2.2 (rowN (18, c)) (some (.v .bool false)) (some (.v .bool true)) 0 (by omega) (fun n => (F81k18.l1_1_1_1_1_1_1_1_1_1_1_1_1_1_0_1_0_eq ..).trans (self_lt'.trans (F81k18.c1 2000))) (fun n i hi _ => ?_) 2000 (by omega)).trans ?_
  ·have e : c.2.2.2.2.2.2[i] = c.2.2.2.2.2.2.getD i [] := by rw [List.getD_eq_getElem?_getD, List.getElem?_eq_getElem hi]; rfl
   rw [e]
   refine (F81k18.l1_1_1_1_1_1_1_1_1_1_1_1_1_1_0_1_0_eq ..).trans ((bT' (lt_natG hi)).trans ((bT' (in_natG hi)).trans ?_))
   rw [Int.toNat_natCast, F81k18.c0]
   rfl
  ·cases List.any c.2.2.2.2.2.2 (rowN (18, c)) <;> rfl
 rw [ari_k18]
 refine (F81k18.start_eq 2000 c).trans ?_
 rw [lp]
 simp only [pushC, cAnd, cNot, Bool.not_not, Bool.not_or, Bool.and_assoc, Bool.cond_self]
theorem F81k19.sem (c : RestG) (h : smallC (19, c) = true) : callW F81k19.E false F81k19.fn 2000 [.agg (explode ConT ((19 : Int), c)), .v .str ⟨#[86, 99, 100, 107]⟩] = some (.v .bool (arityG (19, c) ⟨#[86, 99, 100, 107]⟩)) := by
 have hr := (small_iff h).lr
 simp only at hr
 have lp : F81k19.l1_1_1_1_1_1_1_1_1_1_1_1_1_1_0_1_0 2000 (F81k19.kt 2000 [1, 1, 1, 1, 1, 1, 1, 1, 1, 1, 1, 1, 1, 1, 0, 1, 0]) (c.1.length : Int) 0 19 c.1 c.2.1 c.2.2.1 c.2.2.2.1 c.2.2.2.2.1 c.2.2.2.2.2.1 c.2.2.2.2.2.2 = some (.v .bool (!(List.any c.2.2.2.2.2.2 (rowN (19, c))))) := by
  refine (any_loop (fun n i => F81k19.l1_1_1_1_1_1_1_1_1_1_1_1_1_1_0_1_0 n (F81k19.kt 2000 [1, 1, 1, 1, 1, 1, 1, 1, 1, 1, 1, 1, 1, 1, 0, 1, 0]) (c.1.length : Int) i 19 c.1 c.2.1 c.2.2.1 c.2.2.2.1 c.2.2.2.2.1 c.2.2.2.2.2.1 c.2.2.2.2.2.2) c.2.2.2.2.2.2 (rowN (19, c)) (some (.v .bool false)) (some (.v .bool true)) 0 (by omega) (fun n => (F81k19.l1_1_1_1_1_1_1_1_1_1_1_1_1_1_0_1_0_eq ..).trans (self_lt'.trans (F81k19.c1 2000))) (fun n i hi _ => ?_) 2000 (by omega)).trans ?_
  ·have e : c.2.2.2.2.2.2[i] = c.2.2.2.2.2.2.getD i [] := by rw [List.getD_eq_getElem?_getD, List.getElem?_eq_getElem hi]; rfl
   rw [e]
   refine (F81k19.l1_1_1_1_1_1_1_1_1_1_1_1_1_1_0_1_0_eq ..).trans ((bT' (lt_natG hi)).trans ((bT' (in_natG hi)).trans ?_))
   rw [Int.toNat_natCast, F81k19.c0]
   rfl
  ·cases List.any c.2.2.2.2.2.2 (rowN (19, c)) <;> rfl
 rw [ari_k19]
 refine (F81k19.start_eq 2000 c).trans ?_
 rw [lp]
 simp only [pushC, cAnd, cNot, Bool.not_not, Bool.not_or, Bool.and_assoc, Bool.cond_self]
theorem F81k20.sem (c : RestG) (h : smallC (20, c) = true) : callW F81k20.E false F81k20.fn 2000 [.agg (explode ConT ((20 : Int), c)), .v .str ⟨#[86]⟩] = some (.v .bool (arityG (20, c) ⟨#[86]⟩)) := by
 have hr := (small_iff h).lr
 simp only at hr
 have lp : F81k20.l1_1_1_1_1_1_1_1_1_1_1_1_1_1_0_1_0 2000 (F81k20.kt 2000 [1, 1, 1, 1, 1, 1, 1, 1, 1, 1, 1, 1, 1, 1, 0, 1, 0]) (c.1.length : Int) 0 20 c.1 c.2.1 c.2.2.1 c.2.2.2.1 c.2.2.2.2.1 c.2.2.2.2.2.1 c.2.2.2.2.2.2 = some (.v .bool (!(List.any c.2.2.2.2.2.2 (rowN (20, c))))) := by
  refine (any_loop (fun n i => F81k20.l1_1_1_1_1_1_1_1_1_1_1_1_1_1_0_1_0 n (F81k20.kt 2000 [1, 1, 1, 1, 1, 1, 1, 1, 1, 1, 1, 1, 1, 1, 0, 1, 0]) (c.1.length : Int) i 20 c.1 c.2.1 c.2.2.1 c.2.2.2.1 c.2.2.2.2.1 c.2.2.2.2.2.1 c.2.2.2.2.2.2) c.2.2.2.2.2.2 (rowN (20, c)) (some (.v .bool false)) (some (.v .bool true)) 0 (by omega) (fun n => (F81k20.l1_1_1_1_1_1_1_1_1_1_1_1_1_1_0_1_0_eq ..).trans (self_lt'.trans (F81k20.c1 2000))) (fun n i hi _ => ?_) 2000 (by omega)).trans ?_
  ·have e : c.2.2.2.2.2.2[i] = c.2.2.2.2.2.2.getD i [] := by rw [List.getD_eq_getElem?_getD, List.getElem?_eq_getElem hi]; rfl
   rw [e]
   refine (F81k20.l1_1_1_1_1_1_1_1_1_1_1_1_1_1_0_1_0_eq ..).trans ((bT' (lt_natG hi)).trans ((bT' (in_natG hi)).trans ?_))
   rw [Int.toNat_natCast, F81k20.c0]
   rfl
  ·cases List.any c.2.2.2.2.2.2 (rowN (20, c)) <;> rfl
 rw [ari_k20]
 refine (F81k20.start_eq 2000 c).trans ?_
 rw [lp]
 simp only [pushC, cAnd, cNot, Bool.not_not, Bool.not_or, Bool.and_assoc, Bool.cond_self]
theorem F81k21.sem (c : RestG) (h : smallC (21, c) = true) : callW F81k21.E false F81k21.fn 2000 [.agg (explode ConT ((21 : Int), c)), .v .str ⟨#[86, 99, 100, 101]⟩] = some (.v .bool (arityG (21, c) ⟨#[86, 99, 100, 101]⟩)) := by
 have hr := (small_iff h).lr
 simp only at hr
 have lp : F81k21.l1_1_1_1_1_1_1_1_1_1_1_1_1_1_0_1_0 2000 (F81k21.kt 2000 [1, 1, 1, 1, 1, 1, 1, 1, 1, 1, 1, 1, 1, 1, 0, 1, 0]) (c.1.length : Int) 0 21 c.1 c.2.1 c.2.2.1 c.2.2.2.1 c.2.2.2.2.1 c.2.2.2.2.2.1 c.2.2.2.2.2.2 = some (.v .bool (!(List.any c.2.2.2.2.2.2 (rowN (21, c))))) := by
  refine (any_loop (fun n i => F81k21.l1_1_1_1_1_1_1_1_1_1_1_1_1_1_0_1_0 n (F81k21.kt 2000 [1, 1, 1, 1, 1, 1, 1, 1, 1, 1, 1, 1, 1, 1, 0, 1, 0]) (c.1.length : Int) i 21 c.1 c.2.1 c.2.2.1 c.2.2.2.1 c.2.2.2.2.1 c.2.2.2.2.2.1 c.2.2.2.2.2.2) c.2.2.2.2.2.2 (rowN (21, c)) (some (.v .bool false)) (some (.v .bool true)) 0 (by omega) (fun n => (F81k21.l1_1_1_1_1_1_1_1_1_1_1_1_1_1_0_1_0_eq ..).trans (self_lt'.trans (F81k21.c1 2000))) (fun n i hi _ => ?_) 2000 (by omega)).trans ?_
  ·have e : c.2.2.2.2.2.2[i] = c.2.2.2.2.2.2.getD i [] := by rw [List.getD_eq_getElem?_getD, List.getElem?_eq_getElem hi]; rfl
   rw [e]
   refine (F81k21.l1_1_1_1_1_1_1_1_1_1_1_1_1_1_0_1_0_eq ..).trans ((bT' (lt_natG hi)).trans ((bT' (in_natG hi)).trans ?_))
   rw [Int.toNat_natCast, F81k21.c0]
   rfl
  ·cases List.any c.2.2.2.2.2.2 (rowN (21, c)) <;> rfl
 rw [ari_k21]
 refine (F81k21.start_eq 2000 c).trans ?_
 rw [lp]
 simp only [pushC, cAnd, cNot, Bool.not_not, Bool.not_or, Bool.and_assoc, Bool.cond_self]
theorem F81k22.sem (c : RestG) (h : smallC (22, c) = true) : callW F81k22.E false F81k22.fn 2000 [.agg (explode ConT ((22 : Int), c)), .v .str ⟨#[86, 87]⟩] = some (.v .bool (arityG (22, c) ⟨#[86, 87]⟩)) := by
 have hr := (small_iff h).lr
 simp only at hr
 have lp : F81k22.l1_1_1_1_1_1_1_1_1_1_1_1_1_1_0_1_0 2000 (F81k22.kt 2000 [1, 1, 1, 1, 1, 1, 1, 1, 1, 1, 1, 1, 1, 1, 0, 1, 0]) (c.1.length : Int) 0 22 c.1 c.2.1 c.2.2.1 c.2.2.2.1 c.2.2.2.2.1 c.2.2.2.2.2.1 c.2.2.2.2.2.2 = some (.v .bool (!(List.any c.2.2.2.2.2.2 (rowN (22, c))))) := by
  refine (any_loop (fun n i => F81k22.l1_1_1_1_1_1_1_1_1_1_1_1_1_1_0_1_0 n (F81k22.kt 2000 [1, 1, 1, 1, 1, 1, 1, 1, 1, 1, 1, 1, 1, 1, 0, 1, 0]) (c.1.length : Int) i 22 c.1 c.2.1 c.2.2.1 c.2.2.2.1 c.2.2.2.2.1 c.2.2.2.2.2.1 c.2.2.2.2.2.2) c.2.2.2.2.2.2 (rowN (22, c)) (some (.v .bool false)) (some (.v .bool true)) 0 (by omega) (fun n => (F81k22.l1_1_1_1_1_1_1_1_1_1_1_1_1_1_0_1_0_eq ..).trans (self_lt'.trans (F81k22.c1 2000))) (fun n i hi _ => ?_) 2000 (by omega)).trans ?_
  ·have e : c.2.2.2.2.2.2[i] = c.2.2.2.2.2.2.getD i [] := by rw [List.getD_eq_getElem?_getD, List.getElem?_eq_getElem hi]; rfl
   rw [e]
   refine (F81k22.l1_1_1_1_1_1_1_1_1_1_1_1_1_1_0_1_0_eq ..).trans ((bT' (lt_natG hi)).trans ((bT' (in_natG hi)).trans ?_))
   rw [Int.toNat_natCast, F81k22.c0]
   rfl
  ·cases List.any c.2.2.2.2.2.2 (rowN (22, c)) <;> rfl
 rw [ari_k22]
 refine (F81k22.start_eq 2000 c).trans ?_
 rw [lp]
 simp only [pushC, cAnd, cNot, Bool.not_not, Bool.not_or, Bool.and_assoc, Bool.cond_self]
theorem F81k23.sem (c : RestG) (h : smallC (23, c) = true) : callW F81k23.E false F81k23.fn 2000 [.agg (explode ConT ((23 : Int), c)), .v .str ⟨#[86, 87]⟩] = some (.v .bool (arityG (23, c) ⟨#[86, 87]⟩)) := by
 have hr := (small_iff h).lr
 simp only at hr
 have lp : F81k23.l1_1_1_1_1_1_1_1_1_1_1_1_1_1_0_1_0 2000 (F81k23.kt 2000 [1, 1, 1, 1, 1, 1, 1, 1, 1, 1, 1, 1, 1, 1, 0, 1, 0]) (c.1.length : Int) 0 23 c.1 c.2.1 c.2.2.1 c.2.2.2.1 c.2.2.2.2.1 c.2.2.2.2.2.1 c.2.2.2.2.2.2 = some (.v .bool (!(List.any c.2.2.2.2.2.2 (rowN (23, c))))) := by
  refine (any_loop (fun n i => F81k23.l1_1_1_1_1_1_1_1_1_1_1_1_1_1_0_1_0 n (F81k23.kt 2000 [1, 1, 1, 1, 1, 1, 1, 1, 1, 1, 1, 1, 1, 1, 0, 1, 0]) (c.1.length : Int) i 23 c.1 c.2.1 c.2.2.1 c.2.2.2.1 c.2.2.2.2.1 c.2.2.2.2.2.1 c.2.2.2.2.2.2) c.2.2.2.2.2.2 (rowN (23, c)) (some (.v .bool false)) (some (.v .bool true)) 0 (by omega) (fun n => (F81k23.l1_1_1_1_1_1_1_1_1_1_1_1_1_1_0_1_0_eq ..).trans (self_lt'.trans (F81k23.c1 2000))) (fun n i hi _ => ?_) 2000 (by omega)).trans ?_
  ·have e : c.2.2.2.2.2.2[i] = c.2.2.2.2.2.2.getD i [] := by rw [List.getD_eq_getElem?_getD, List.getElem?_eq_getElem hi]; rfl
   rw [e]
   refine (F81k23.l1_1_1_1_1_1_1_1_1_1_1_1_1_1_0_1_0_eq ..).trans ((bT' (lt_natG hi)).trans ((bT' (in_natG hi)).trans ?_))
   rw [Int.toNat_natCast, F81k23.c0]
   rfl
  ·cases List.any c.2.2.2.2.2.2 (rowN (23, c)) <;> rfl
 rw [ari_k23]
 refine (F81k23.start_eq 2000 c).trans ?_
 rw [lp]
 simp only [pushC, cAnd, cNot, Bool.not_not, Bool.not_or, Bool.and_assoc, Bool.cond_self]
end Go.Proofs.YtlfdikofmfhefaaGreatDoor.Ev
set_option linter.unusedVariables false
set_option linter.unusedSimpArgs false
set_option maxRecDepth 100000
namespace Go.Proofs.YtlfdikofmfhefaaGreatDoor.Ev
open Go Go.RowKit
theorem arity_b {kk : Int} {c : RestG} (hk : inS kk = true) (h : smallC (kk, c) = true) : arityB (kk, c) (shapesL.getD kk.toNat ByteArray.empty) = true := by
 unfold inS at hk
 unfold arityB
 rw [h, decide_eq_true (show shapesL.getD kk.toNat ByteArray.empty = shapesL.getD (kk, c).1.toNat ByteArray.empty from rfl)]
 show (true && (decide (1 ≤ kk) && decide (kk ≤ 23)) && true) = true
 rw [hk]
 rfl
theorem arity_coefs {kk : Int} {c : RestG} (hk : inS kk = true) (h : arityG (kk, c) (shapesL.getD kk.toNat ByteArray.empty) = true) : coefsB (kk, c) = true := by
 unfold coefsB
 by_cases h1 : kk = 21
 ·subst h1
  have h := (ari_k21 c).symm.trans h
  simp only [listB1, Bool.and_eq_true, decide_eq_true_eq] at h
  show (!(decide ((21 : Int) = 21)) || (decide (c.2.2.2.1.length = c.2.2.1.length) && decide (c.2.2.2.2.1.length = c.2.2.1.length))) = true
  rw [decide_eq_true (show c.2.2.2.1.length = c.2.2.1.length by omega), decide_eq_true (show c.2.2.2.2.1.length = c.2.2.1.length by omega)]
  rfl
 ·show (!(decide (kk = 21)) || _) = true
  rw [decide_eq_false h1]
  rfl
theorem F51.sem (k : Nat) (kk : Int) (c : RestG) (n : Int) (hs : smallC (kk, c) = true) (hn : rightNB n = true) : callW F51.E false F51.fn k [.agg (explode ConT (kk, c)), .v (.int .i64) n] = some (.v (.int .i64) (rightD (kk, c) n)) := by
 unfold rightNB at hn
 rw [Bool.and_eq_true, decide_eq_true_eq, decide_eq_true_eq] at hn
 refine (F51.start_eq k kk c n).trans ?_
 have e0 : rightD (kk, c) n = bif decide (kk < 1) || decide (kk > 23) then 9 else bif !(arityG (kk, c) (shapesL.getD kk.toNat ByteArray.empty)) then 10 else bif !(inL c.1 0 (hiY n) && inL c.2.1 0 (hiY n)) then 7 else bif !(coefsG (kk, c)) then 11 else 0 := rfl
 rw [e0]
 by_cases h1 : kk < 1
 ·rw [decide_eq_true h1]; rfl
 ·by_cases h2 : kk > 23
  ·rw [decide_eq_false h1, decide_eq_true h2]; rfl
  ·have hk : inS kk = true := by
    unfold inS
    rw [decide_eq_true (show 1 ≤ kk by omega), decide_eq_true (show kk ≤ 23 by omega)]
    rfl
   have e1 : (decide (0 ≤ kk) && decide (kk < (shapesL.length : Int))) = true := by
    have : shapesL.length = 24 := rfl
    rw [this, decide_eq_true (show 0 ≤ kk by omega), decide_eq_true (show kk < ((24 : Nat) : Int) by omega)]
    rfl
   rw [decide_eq_false h1, decide_eq_false h2]
   refine (bF' rfl).trans ((bF' rfl).trans ((bT' e1).trans ((bT' (arity_b hk hs)).trans ?_)))
   cases ha : arityG (kk, c) (shapesL.getD kk.toNat ByteArray.empty) with
   | false => rfl
   | true =>
    have hb : (smallC (kk, c) && coefsB (kk, c)) = true := by rw [hs, arity_coefs hk ha]; rfl
    refine (bF' rfl).trans ?_
    rw [hb]
    unfold hiY
    by_cases hp : n > 0
    ·rw [decide_eq_true hp, if_pos hp, wrap_ok (x := n - 1) (by omega) (by omega)]
     cases inL c.1 0 (n - 1) <;> cases inL c.2.1 0 (n - 1) <;> cases coefsG (kk, c) <;> rfl
    ·rw [decide_eq_false hp, if_neg hp]
     cases inL c.1 0 (-1) <;> cases inL c.2.1 0 (-1) <;> cases coefsG (kk, c) <;> rfl
theorem sortL_leG (l : List Int) : (sortL l).Pairwise (· ≤ ·) := by
 have h := List.pairwise_mergeSort (le := fun x y : Int => decide (x ≤ y)) (fun a b c h1 h2 => by
  have h1 := of_decide_eq_true h1; have h2 := of_decide_eq_true h2; exact decide_eq_true (by omega)) (fun a b => by
  rw [Bool.or_eq_true, decide_eq_true_iff, decide_eq_true_iff]; omega) l
 exact h.imp fun h => of_decide_eq_true h
theorem sortL_perm (l : List Int) : (sortL l).Perm l := List.mergeSort_perm l _
theorem get_of {l : List Int} {i : Nat} (h : i < l.length) : l.getD i 0 = l[i] := by rw [List.getD_eq_getElem?_getD, List.getElem?_eq_getElem h]; rfl
theorem nodup_iff {l : List Int} : l.Nodup ↔ ∀ i j, j < i → i < l.length → l.getD i 0 ≠ l.getD j 0 := by
 unfold List.Nodup
 rw [List.pairwise_iff_getElem]
 constructor
 ·intro h i j hj hi e
  rw [get_of hi, get_of (by omega)] at e
  exact h j i (by omega) hi hj e.symm
 ·intro h j i hj hi hji e
  refine h i j hji hi ?_
  rw [get_of hi, get_of hj]
  exact e.symm
theorem adj_nodup {l : List Int} (hs : l.Pairwise (· ≤ ·)) : (∀ i, 0 < i → i < l.length → l.getD i 0 ≠ l.getD (i - 1) 0) ↔ l.Nodup := by
 rw [nodup_iff]
 have mono : ∀ i j, j ≤ i → i < l.length → l.getD j 0 ≤ l.getD i 0 := fun i j hj hi => by
  by_cases e : j = i
  ·rw [e]; exact Int.le_refl _
  ·have := List.pairwise_iff_getElem.mp hs j i (by omega) hi (by omega)
   rw [get_of hi, get_of (by omega)]
   exact this
 constructor
 ·intro h i j hj hi e
  have h1 := h i (by omega) hi
  have h2 := mono i (i - 1) (by omega) hi
  have h3 := mono (i - 1) j (by omega) (by omega)
  omega
 ·intro h i h0 hi
  exact h i (i - 1) (by omega) hi
theorem any_false {n : Nat} {p : Nat → Bool} : (List.range n).any p = false ↔ ∀ i, i < n → p i = false := by
 rw [List.any_eq_false]
 exact ⟨fun h i hi => by have := h i (List.mem_range.mpr hi); cases hp : p i <;> simp_all, fun h i hi => by rw [h i (List.mem_range.mp hi)]; simp⟩
theorem counts_same (C D E : List Int) : (List.range C.length).any (cntP C D E (sortL C)) = (List.range C.length).any fun i => decide (D.getD i 0 > E.getD i 0) || twiceY C i := by
 have key : (List.range C.length).any (cntP C D E (sortL C)) = false ↔ ((List.range C.length).any fun i => decide (D.getD i 0 > E.getD i 0) || twiceY C i) = false := by
  rw [any_false, any_false]
  have l1 : (∀ i, i < C.length → cntP C D E (sortL C) i = false) ↔ (∀ i, i < C.length → ¬ D.getD i 0 > E.getD i 0) ∧ (sortL C).Nodup := by
   rw [← adj_nodup (sortL_leG C)]
   constructor
   ·intro h
    refine ⟨fun i hi => ?_, fun i h0 hi => ?_⟩
    ·have := h i hi
     unfold cntP at this
     rw [Bool.or_eq_false_iff] at this
     exact of_decide_eq_false this.1
    ·have := h i (by rw [sortL_lenG] at hi; exact hi)
     unfold cntP at this
     rw [Bool.or_eq_false_iff, decide_eq_true (show (i : Int) > 0 by omega)] at this
     exact of_decide_eq_false this.2
   ·rintro ⟨h1, h2⟩ i hi
    unfold cntP
    rw [decide_eq_false (h1 i hi)]
    by_cases h0 : 0 < i
    ·rw [decide_eq_false (h2 i h0 (by rw [sortL_lenG]; exact hi))]
     cases decide ((i : Int) > 0) <;> rfl
    ·rw [decide_eq_false (show ¬ (i : Int) > 0 by omega)]
     rfl
  have l2 : (∀ i, i < C.length → (decide (D.getD i 0 > E.getD i 0) || twiceY C i) = false) ↔ (∀ i, i < C.length → ¬ D.getD i 0 > E.getD i 0) ∧ C.Nodup := by
   rw [nodup_iff]
   constructor
   ·intro h
    refine ⟨fun i hi => ?_, fun i j hj hi => ?_⟩
    ·have := h i hi
     rw [Bool.or_eq_false_iff] at this
     exact of_decide_eq_false this.1
    ·have := h i hi
     rw [Bool.or_eq_false_iff] at this
     have := this.2
     unfold twiceY at this
     exact of_decide_eq_false (any_false.mp this j hj)
   ·rintro ⟨h1, h2⟩ i hi
    rw [decide_eq_false (h1 i hi)]
    show twiceY C i = false
    unfold twiceY
    exact any_false.mpr fun j hj => decide_eq_false (h2 i j hj hi)
  rw [l1, l2, (sortL_perm C).nodup_iff]
 cases h1 : (List.range C.length).any (cntP C D E (sortL C)) with
 | false => exact (key.mp h1).symm
 | true =>
  cases h2 : (List.range C.length).any fun i => decide (D.getD i 0 > E.getD i 0) || twiceY C i with
  | false => rw [key.mpr h2] at h1; cases h1
  | true => rfl
theorem vars_same (A B : List Int) (n : Int) (hn : 0 ≤ n) : List.any (A ++ B) (varB n) = !(inL A 0 (hiY n) && inL B 0 (hiY n)) := by
 unfold inL
 rw [List.any_append]
 have h : ∀ v : Int, varB n v = (decide (v < 0) || decide (v > hiY n)) := fun v => by
  unfold varB hiY
  congr 1
  rw [Bool.eq_iff_iff, decide_eq_true_eq, decide_eq_true_eq]
  split <;> omega
 rw [show varB n = (fun v => decide (v < 0) || decide (v > hiY n)) from funext h]
 simp
theorem coefs_same {kk : Int} {c : RestG} (hk : inS kk = true) (h : arityG (kk, c) (shapesL.getD kk.toNat ByteArray.empty) = true) : (numbersG (kk, c) && countsG (kk, c)) = coefsG (kk, c) := by
 have n0 : numbersG (kk, c) = (!(List.any c.2.2.2.2.2.2 fun r => !(inL r (loG (kk, c)) 1000000)) && (inL c.2.2.1 (loG (kk, c)) 1000000 && (inL c.2.2.2.1 (seG (kk, c)) 1000000 && (inL c.2.2.2.2.1 (seG (kk, c)) 1000000 && (decide (c.2.2.2.2.2.1 ≥ kaG (kk, c)) && decide (c.2.2.2.2.2.1 ≤ 9999999999)))))) := rfl
 have c0 : countsG (kk, c) = bif decide (kk = 21) then !((List.range c.2.2.1.length).any (cntP c.2.2.1 c.2.2.2.1 c.2.2.2.2.1 (sortL c.2.2.1))) else true := rfl
 have e0 : coefsG (kk, c) = (inL c.2.2.1 (loY (kk, c)) 1000000 && (inL c.2.2.2.1 (seY (kk, c)) 1000000 && (inL c.2.2.2.2.1 (seY (kk, c)) 1000000 && (!(decide (c.2.2.2.2.2.1 < kaY (kk, c))) && (!(decide (c.2.2.2.2.2.1 > 9999999999)) &&
  (!(List.any c.2.2.2.2.2.2 fun r => !(inL r (-1000000) 1000000)) && !(decide (kk = 21) && (List.range c.2.2.1.length).any fun i => decide (c.2.2.2.1.getD i 0 > c.2.2.2.2.1.getD i 0) || twiceY c.2.2.1 i))))))) := rfl
 have rows : (List.any c.2.2.2.2.2.2 fun r => !(inL r (loG (kk, c)) 1000000)) = (List.any c.2.2.2.2.2.2 fun r => !(inL r (-1000000) 1000000)) := by
  by_cases h1 : kk = 19
  ·subst h1
   have h := (ari_k19 c).symm.trans h
   simp only [Bool.and_eq_true, Bool.not_eq_true', decide_eq_false_iff_not] at h
   have hr : c.2.2.2.2.2.2 = [] := List.length_eq_zero_iff.mp (by omega)
   rw [hr]
   rfl
  ·have : loG (kk, c) = -1000000 := if_neg h1
   rw [this]
 have lo : loG (kk, c) = loY (kk, c) := rfl
 have ka : kaG (kk, c) = kaY (kk, c) := rfl
 have se : seG (kk, c) = seY (kk, c) := by
  show (if kk = 19 then (0 : Int) else if kk = 21 then 0 else -1000000) = (if kk = 21 then 0 else if kk = 19 then 0 else -1000000)
  by_cases h1 : kk = 19
  ·rw [if_pos h1, if_neg (by omega), if_pos h1]
  ·rw [if_neg h1, if_neg h1]
 rw [n0, c0, e0, rows, lo, ka, se, counts_same]
 have k1 : decide (c.2.2.2.2.2.1 ≥ kaY (kk, c)) = !(decide (c.2.2.2.2.2.1 < kaY (kk, c))) := by
  rw [Bool.eq_iff_iff, Bool.not_eq_true', decide_eq_true_eq, decide_eq_false_iff_not]
  omega
 have k2 : decide (c.2.2.2.2.2.1 ≤ 9999999999) = !(decide (c.2.2.2.2.2.1 > 9999999999)) := by
  rw [Bool.eq_iff_iff, Bool.not_eq_true', decide_eq_true_eq, decide_eq_false_iff_not]
  omega
 rw [k1, k2]
 generalize (List.any c.2.2.2.2.2.2 fun r => !(inL r (-1000000) 1000000)) = b1
 generalize ((List.range c.2.2.1.length).any fun i => decide (c.2.2.2.1.getD i 0 > c.2.2.2.2.1.getD i 0) || twiceY c.2.2.1 i) = b2
 generalize inL c.2.2.1 (loY (kk, c)) 1000000 = b3
 generalize inL c.2.2.2.1 (seY (kk, c)) 1000000 = b4
 generalize inL c.2.2.2.2.1 (seY (kk, c)) 1000000 = b5
 generalize decide (c.2.2.2.2.2.1 < kaY (kk, c)) = b6
 generalize decide (c.2.2.2.2.2.1 > 9999999999) = b7
 generalize decide (kk = 21) = b8
 cases b1 <;> cases b3 <;> cases b4 <;> cases b5 <;> cases b6 <;> cases b7 <;> cases b8 <;> cases b2 <;> rfl
theorem right_all (c : Con) (n : Int) (hn : 0 ≤ n) : rightG c n = rightD c n := by
 obtain ⟨kk, c⟩ := c
 have e0 : rightG (kk, c) n = bif strEq (shapeS kk) ⟨#[]⟩ then 9 else bif !(countedG (kk, c) (shapeS kk) && alikeG (kk, c) && (decide (c.2.2.2.2.2.1 = 0) || has1 (shapeS kk) ⟨#[107]⟩)) then 10 else bif List.any (c.1 ++ c.2.1) (varB n) then 7 else bif !(numbersG (kk, c) && countsG (kk, c)) then 11 else 0 := rfl
 have e1 : rightD (kk, c) n = bif decide (kk < 1) || decide (kk > 23) then 9 else bif !(arityG (kk, c) (shapesL.getD kk.toNat ByteArray.empty)) then 10 else bif !(inL c.1 0 (hiY n) && inL c.2.1 0 (hiY n)) then 7 else bif !(coefsG (kk, c)) then 11 else 0 := rfl
 rw [e0, e1]
 cases hk : inS kk with
 | false =>
  have : (decide (kk < 1) || decide (kk > 23)) = true := by
   unfold inS at hk
   rw [Bool.and_eq_false_iff, decide_eq_false_iff_not, decide_eq_false_iff_not] at hk
   rw [Bool.or_eq_true, decide_eq_true_eq, decide_eq_true_eq]
   omega
  rw [shape_no hk, this]
  rfl
 | true =>
  have : (decide (kk < 1) || decide (kk > 23)) = false := by
   unfold inS at hk
   rw [Bool.and_eq_true, decide_eq_true_eq, decide_eq_true_eq] at hk
   rw [Bool.or_eq_false_iff, decide_eq_false_iff_not, decide_eq_false_iff_not]
   omega
  rw [shape_ne hk, this, rig_all kk c hk, vars_same _ _ n hn]
  cases ha : arityG (kk, c) (shapesL.getD kk.toNat ByteArray.empty) with
  | false => rfl
  | true => rw [coefs_same hk ha]
theorem ints_cells {w : World} {ok : Nat → Prop} : ∀ {xs : List Int} {cs : List (List Value)}, F2 (Rd w ok (.int .i64)) xs cs → cs.flatten = xs.map (Value.int .i64)
 | [], _, .nil => rfl
 | x :: xs, _, .cons h t => by
  have h1 : _ = [Value.int .i64 x] := h
  rw [List.flatten_cons, ints_cells t, h1]
  rfl
theorem cells_ints {w : World} {ok : Nat → Prop} : ∀ xs : List Int, F2 (Rd w ok (.int .i64)) xs (xs.map fun x => [Value.int .i64 x])
 | [] => .nil
 | x :: xs => .cons rfl (cells_ints xs)
theorem flat_ints (xs : List Int) : (xs.map fun x => [Value.int .i64 x]).flatten = xs.map (Value.int .i64) := by
 induction xs with
 | nil => rfl
 | cons x xs ih => rw [List.map_cons, List.flatten_cons, ih]; rfl
theorem F92.eok : EOk Go.Proofs.Tryz.prog F92.E := eo (calls_cons ok94 (calls_cons ok105 (calls_cons ok106 calls_nil)))
theorem ok92 : HandOk Go.Proofs.Tryz.prog inv 52 h_countedG := hand_if fun xs hc => callW_ok (own := false) (k := 1) F92.eok mixed Go.Proofs.Tryz.func52 (by kernel_rfl) (show Go.Proofs.Tryz.f52.body = some (bodyOf Go.Proofs.Tryz.f52) by kernel_rfl) (F92.sem 1 xs.1.1 xs.1.2 xs.2.1 hc)
theorem F93.eok : EOk Go.Proofs.Tryz.prog F93.E := eo (calls_cons ok107 calls_nil)
theorem ok93 : HandOk Go.Proofs.Tryz.prog inv 53 h_alikeG := hand_if fun xs hc => callW_ok (own := false) (k := 1) F93.eok mixed Go.Proofs.Tryz.func53 (by kernel_rfl) (show Go.Proofs.Tryz.f53.body = some (bodyOf Go.Proofs.Tryz.f53) by kernel_rfl) (F93.sem 1 xs.1.1 xs.1.2)
theorem F97.eok : EOk Go.Proofs.Tryz.prog F97.E := eo (calls_cons ok111 calls_nil)
theorem ok97 : HandOk Go.Proofs.Tryz.prog inv 58 h_numbersG := hand_if fun xs hc => callW_ok (own := false) (k := 2000) F97.eok mixed Go.Proofs.Tryz.func58 (by kernel_rfl) (show Go.Proofs.Tryz.f58.body = some (bodyOf Go.Proofs.Tryz.f58) by kernel_rfl) (F97.sem xs.1.1 xs.1.2 hc)
theorem ok113 : HandOk Go.Proofs.Tryz.prog inv 109 h_values := by
 intro args κ r h
 unfold h_values at h
 split at h
 case h_2 => simp at h
 rename_i x0
 cases hp : pullA (.sl (.int .i64)) x0 with
 | none => simp [hp] at h
 | some xs =>
  simp only [hp] at h
  refine ⟨_, h, spec_args (args' := [.v (.sl (.int .i64)) xs]) (fun w okk us hf => ?_) ?_⟩
  ·cases hf with
   | cons a b => exact .cons (pullA_rel hp a) b
  ·intro w ok us hI hok ha
   cases ha with
   | cons h1 h2 =>
    cases h2
    rename_i u
    have h1 : Rd w ok (.sl (.int .i64)) xs [u] := h1
    have h1' := h1
    unfold Rd at h1'
    obtain ⟨a, c, e, _⟩ := h1'
    have e : u = .slice a xs.length c := (List.cons.inj e).1
    subst e
    refine .inl ⟨callFunc_enter Go.Proofs.Tryz.func109 (by kernel_rfl) (by kernel_rfl) _ _, ?_⟩
    refine Calls.mono ((callsIn_wide (n := 9)).1 (Go.Proofs.Tryz.values_in Fence.wide 9 trivial rfl a xs.length c w)) ?_
    rintro e w' ⟨rfl, rfl⟩
    have old : ∀ k, k < w.heap.size → (w.alloc (.cells #[.slice a xs.length c] 29)).heap[k]? = w.heap[k]? := fun k hk => Below.heap_alloc _ _ k hk
    refine ⟨_, rfl, (RowKit.Below.refl _ w).alloc (Nat.le_refl _) _, fun k => ok k ∨ k = w.heap.size, mz, ⟨fun k hk => ?_, fun id r h => by simp [rowsA, rows2, rows1] at h, fun id r k h => by simp [rowsA, rows2, rows1] at h, fun i j ri rj k h => by simp [rowsA, rows2, rows1] at h⟩, ⟨[], [.pointer (some ⟨w.heap.size, 0, none⟩)], rfl, .nil, .cons ?_ .nil⟩, fun k hk => ?_⟩
    ·rw [World.size_alloc]
     rcases hk with h | h
     ·have := hok k h; omega
     ·omega
    ·refine ⟨⟨w.heap.size, 0, none⟩, [.slice a xs.length c], rfl, .inr rfl, by rw [World.size_alloc]; show w.heap.size < _; omega, fun j u hj => ?_, .cons ?_ .nil⟩
     ·have hb := Boxed.new w 29 (.slice a xs.length c)
      cases j with
      | zero =>
       have : u = .slice a xs.length c := by simpa using hj.symm
       subst this
       exact hb.cell
      | succ j => simp at hj
     ·exact Rd_move (fun k hk _ => ⟨old k (hok k hk), .inl hk⟩) h1
    ·rcases hk with h | h
     ·exact .inl h
     ·exact .inr (by omega)
theorem ok112 : HandOk Go.Proofs.Tryz.prog inv 108 h_sorted := by
 intro args κ r h
 unfold h_sorted at h
 split at h
 case h_2 => simp at h
 rename_i cs
 cases hq : pullC (.sl (.int .i64)) cs with
 | none => simp [hq] at h
 | some xs0 =>
  obtain ⟨xs, e0⟩ : ∃ xs : List Int, xs = xs0 := ⟨xs0, rfl⟩
  subst e0
  simp only [hq] at h
  cases hb : sortB xs with
  | false => simp [hb] at h
  | true =>
   simp only [hb, cond_true] at h
   refine ⟨_, h, spec_args (args' := [.fn 144 [] [.rp [.v (.sl (.int .i64)) xs]]]) (fun w okk us hf => ?_) ?_⟩
   ·cases hf with
    | cons a b => exact .cons (fn_rel hq a) b
   ·unfold sortB at hb
    rw [Bool.and_eq_true, Nat.ble_eq] at hb
    have hne : xs ≠ [] := fun e => by
     have h0 : (!(List.isEmpty ([] : List Int))) = true := by
      have := hb.1
      rw [e] at this
      exact this
     exact absurd h0 (by decide)
    intro w ok us hI hok ha
    cases ha with
    | cons h1 h2 =>
     cases h2
     obtain ⟨fs, vs, rfl, hf, hv⟩ := h1
     cases hf
     cases hv with
     | cons g1 g2 =>
      cases g2
      obtain ⟨bx, cs', rfl, hk, hlt, hc, hr⟩ := g1
      cases hr with
      | cons r1 r2 =>
       cases r2
       rename_i u
       have r1 : Rd w ok (.sl (.int .i64)) xs [u] := r1
       unfold Rd at r1
       obtain ⟨a, c, e, _, _, hx⟩ := r1
       have e : u = .slice a xs.length c := (List.cons.inj e).1
       subst e
       obtain ⟨ad, cells, rfl, ho, hF, hC⟩ := hx hne
       have hcell : w.cell? bx = some (.slice (some ad) xs.length c) := by
        have := hc 0 (.slice (some ad) xs.length c) rfl
        simpa [Addr.add] using this
       have hI : Go.Proofs.Tryz.Ints w.heap.size w (.slice (some ad) xs.length c) xs := .inr ⟨ad, c, rfl, hok _ ho, fun j hj => by
        have hfl := ints_cells hF
        have hm : (xs.map (Value.int .i64))[j]? = some (.int .i64 (xs[j]?.getD 0)) := by
         rw [List.getElem?_map, List.getElem?_eq_getElem hj]
         rfl
        refine hC j _ ?_
        rw [hfl]
        exact hm⟩
       refine .inl ⟨callFunc_enter Go.Proofs.Tryz.func108 (by kernel_rfl) (by kernel_rfl) _ _, ?_⟩
       refine Calls.mono (Go.Proofs.Tryz.sorted_calls bx _ xs (by omega) hne w hlt hcell hI) ?_
       rintro e w' ⟨v, rfl, hrow, hbel⟩
       have hl : (sortL xs).length = xs.length := sortL_lenG xs
       refine ⟨v, rfl, hbel, ok, fun _ => v, ⟨fun k hk => Nat.lt_of_lt_of_le (hok k hk) hbel.size, fun id r h => ?_, fun id r k h hli hR hk => ?_, fun i j ri rj k h1 h2 _ _ _ _ => ?_⟩, ⟨?_, rfl⟩, fun k hk => .inl hk⟩
       ·have : r = .row 3 (.int .i64) (sortL xs) := by
         cases id with
         | zero => simpa [rowsA, rows2, rows1] using h.symm
         | succ id => simp [rowsA, rows2, rows1] at h
        subst this
        refine ⟨(sortL xs).map fun x => [Value.int .i64 x], cells_ints _, ?_⟩
        rw [flat_ints]
        show World.ownsRow _ _ _ 1 _ (@List.length Int (sortL xs)) _
        rw [hl]
        exact hrow
       ·have : r = .row 3 (.int .i64) (sortL xs) := by
         cases id with
         | zero => simpa [rowsA, rows2, rows1] using h.symm
         | succ id => simp [rowsA, rows2, rows1] at h
        subst this
        rcases hrow.2 with ⟨rfl, h0⟩ | ⟨g, cap, cur, rfl, hg, _⟩
        ·exact absurd (List.length_eq_zero_iff.mp h0) hne
        ·have hR : mblk (.slice (some ⟨g, 0, none⟩) (List.length xs) cap) = some k := hR
         have : g = k := by simpa [mblk] using hR
         have := hok k hk
         omega
       ·cases i with
        | zero =>
         cases j with
         | zero => rfl
         | succ j => simp [rowsA, rows2, rows1] at h2
        | succ i => simp [rowsA, rows2, rows1] at h1
       ·rcases hrow.2 with ⟨rfl, _⟩ | ⟨g, cap, cur, rfl, _⟩
        ·exact ⟨_, _, _, rfl⟩
        ·exact ⟨_, _, _, rfl⟩
theorem F98.eok : EOk Go.Proofs.Tryz.prog F98.E := eo (calls_cons ok112 (calls_cons ok113 calls_nil))
theorem ok98 : HandOk Go.Proofs.Tryz.prog inv 59 h_countsG := hand_if fun xs hc => callW_ok (own := false) (k := 2000) F98.eok mixed Go.Proofs.Tryz.func59 (by kernel_rfl) (show Go.Proofs.Tryz.f59.body = some (bodyOf Go.Proofs.Tryz.f59) by kernel_rfl) (F98.sem xs.1.1 xs.1.2 hc)
theorem F76.eok : EOk Go.Proofs.Tryz.prog F76.E := eo (calls_cons ok91 (calls_cons ok92 (calls_cons ok93 (calls_cons ok94 (calls_cons ok77 (calls_cons ok95 (calls_cons ok97 (calls_cons ok98 calls_nil))))))))
theorem ok76 : HandOk Go.Proofs.Tryz.prog inv 23 h_rightG := hand_if fun xs hc => callW_ok (own := false) (k := 1) F76.eok mixed Go.Proofs.Tryz.func23 (by kernel_rfl) (show Go.Proofs.Tryz.f23.body = some (bodyOf Go.Proofs.Tryz.f23) by kernel_rfl) (F76.sem 1 xs.1.1 xs.1.2 xs.2.1 hc)
theorem F81k1.eok : EOk Go.Proofs.Tryz.prog F81k1.E := eo (calls_cons ok53 (calls_cons ok100 calls_nil))
theorem F81k2.eok : EOk Go.Proofs.Tryz.prog F81k2.E := eo (calls_cons ok53 (calls_cons ok100 calls_nil))
theorem F81k3.eok : EOk Go.Proofs.Tryz.prog F81k3.E := eo (calls_cons ok53 (calls_cons ok100 calls_nil))
theorem F81k4.eok : EOk Go.Proofs.Tryz.prog F81k4.E := eo (calls_cons ok53 (calls_cons ok100 calls_nil))
theorem F81k5.eok : EOk Go.Proofs.Tryz.prog F81k5.E := eo (calls_cons ok53 (calls_cons ok100 calls_nil))
theorem F81k6.eok : EOk Go.Proofs.Tryz.prog F81k6.E := eo (calls_cons ok53 (calls_cons ok100 calls_nil))
theorem F81k7.eok : EOk Go.Proofs.Tryz.prog F81k7.E := eo (calls_cons ok53 (calls_cons ok100 calls_nil))
theorem F81k8.eok : EOk Go.Proofs.Tryz.prog F81k8.E := eo (calls_cons ok53 (calls_cons ok100 calls_nil))
theorem F81k9.eok : EOk Go.Proofs.Tryz.prog F81k9.E := eo (calls_cons ok53 (calls_cons ok100 calls_nil))
theorem F81k10.eok : EOk Go.Proofs.Tryz.prog F81k10.E := eo (calls_cons ok53 (calls_cons ok100 calls_nil))
theorem F81k11.eok : EOk Go.Proofs.Tryz.prog F81k11.E := eo (calls_cons ok53 (calls_cons ok100 calls_nil))
theorem F81k12.eok : EOk Go.Proofs.Tryz.prog F81k12.E := eo (calls_cons ok53 calls_nil)
theorem F81k13.eok : EOk Go.Proofs.Tryz.prog F81k13.E := eo (calls_cons ok53 (calls_cons ok100 calls_nil))
theorem F81k14.eok : EOk Go.Proofs.Tryz.prog F81k14.E := eo (calls_cons ok53 (calls_cons ok100 calls_nil))
theorem F81k15.eok : EOk Go.Proofs.Tryz.prog F81k15.E := eo (calls_cons ok53 (calls_cons ok100 calls_nil))
theorem F81k16.eok : EOk Go.Proofs.Tryz.prog F81k16.E := eo (calls_cons ok53 (calls_cons ok100 calls_nil))
theorem F81k17.eok : EOk Go.Proofs.Tryz.prog F81k17.E := eo (calls_cons ok53 (calls_cons ok100 calls_nil))
theorem F81k18.eok : EOk Go.Proofs.Tryz.prog F81k18.E := eo (calls_cons ok53 (calls_cons ok100 calls_nil))
theorem F81k19.eok : EOk Go.Proofs.Tryz.prog F81k19.E := eo (calls_cons ok53 (calls_cons ok100 calls_nil))
theorem F81k20.eok : EOk Go.Proofs.Tryz.prog F81k20.E := eo (calls_cons ok53 (calls_cons ok100 calls_nil))
theorem F81k21.eok : EOk Go.Proofs.Tryz.prog F81k21.E := eo (calls_cons ok53 (calls_cons ok100 calls_nil))
theorem F81k22.eok : EOk Go.Proofs.Tryz.prog F81k22.E := eo (calls_cons ok53 (calls_cons ok100 calls_nil))
theorem F81k23.eok : EOk Go.Proofs.Tryz.prog F81k23.E := eo (calls_cons ok53 (calls_cons ok100 calls_nil))
theorem ok81 : HandOk Go.Proofs.Tryz.prog inv 63 h_arityG := hand_if fun xs hc => by
 obtain ⟨⟨k0, c⟩, s, u⟩ := xs
 obtain ⟨kk, ek⟩ : ∃ kk : Int, kk = k0 := ⟨k0, rfl⟩
 subst ek
 have hc : arityB (kk, c) s = true := hc
 unfold arityB at hc
 simp only [Bool.and_eq_true, decide_eq_true_eq] at hc
 obtain ⟨⟨hs, h1, h2⟩, he⟩ := hc
 have hk : inS kk = true := by
  unfold inS
  rw [decide_eq_true h1, decide_eq_true h2]
  rfl
 subst he
 rcases kinds hk with rfl | rfl | rfl | rfl | rfl | rfl | rfl | rfl | rfl | rfl | rfl | rfl | rfl | rfl | rfl | rfl | rfl | rfl | rfl | rfl | rfl | rfl | rfl
 ·exact callW_ok (own := false) (k := 2000) F81k1.eok mixed Go.Proofs.Tryz.func63 (by kernel_rfl) (show Go.Proofs.Tryz.f63.body = some (bodyOf Go.Proofs.Tryz.f63) by kernel_rfl) (F81k1.sem c hs)
 ·exact callW_ok (own := false) (k := 2000) F81k2.eok mixed Go.Proofs.Tryz.func63 (by kernel_rfl) (show Go.Proofs.Tryz.f63.body = some (bodyOf Go.Proofs.Tryz.f63) by kernel_rfl) (F81k2.sem c hs)
 ·exact callW_ok (own := false) (k := 2000) F81k3.eok mixed Go.Proofs.Tryz.func63 (by kernel_rfl) (show Go.Proofs.Tryz.f63.body = some (bodyOf Go.Proofs.Tryz.f63) by kernel_rfl) (F81k3.sem c hs)
 ·exact callW_ok (own := false) (k := 2000) F81k4.eok mixed Go.Proofs.Tryz.func63 (by kernel_rfl) (show Go.Proofs.Tryz.f63.body = some (bodyOf Go.Proofs.Tryz.f63) by kernel_rfl) (F81k4.sem c hs)
 ·exact callW_ok (own := false) (k := 2000) F81k5.eok mixed Go.Proofs.Tryz.func63 (by kernel_rfl) (show Go.Proofs.Tryz.f63.body = some (bodyOf Go.Proofs.Tryz.f63) by kernel_rfl) (F81k5.sem c hs)
 ·exact callW_ok (own := false) (k := 2000) F81k6.eok mixed Go.Proofs.Tryz.func63 (by kernel_rfl) (show Go.Proofs.Tryz.f63.body = some (bodyOf Go.Proofs.Tryz.f63) by kernel_rfl) (F81k6.sem c hs)
 ·exact callW_ok (own := false) (k := 2000) F81k7.eok mixed Go.Proofs.Tryz.func63 (by kernel_rfl) (show Go.Proofs.Tryz.f63.body = some (bodyOf Go.Proofs.Tryz.f63) by kernel_rfl) (F81k7.sem c hs)
 ·exact callW_ok (own := false) (k := 2000) F81k8.eok mixed Go.Proofs.Tryz.func63 (by kernel_rfl) (show Go.Proofs.Tryz.f63.body = some (bodyOf Go.Proofs.Tryz.f63) by kernel_rfl) (F81k8.sem c hs)
 ·exact callW_ok (own := false) (k := 2000) F81k9.eok mixed Go.Proofs.Tryz.func63 (by kernel_rfl) (show Go.Proofs.Tryz.f63.body = some (bodyOf Go.Proofs.Tryz.f63) by kernel_rfl) (F81k9.sem c hs)
 ·exact callW_ok (own := false) (k := 2000) F81k10.eok mixed Go.Proofs.Tryz.func63 (by kernel_rfl) (show Go.Proofs.Tryz.f63.body = some (bodyOf Go.Proofs.Tryz.f63) by kernel_rfl) (F81k10.sem c hs)
 ·exact callW_ok (own := false) (k := 2000) F81k11.eok mixed Go.Proofs.Tryz.func63 (by kernel_rfl) (show Go.Proofs.Tryz.f63.body = some (bodyOf Go.Proofs.Tryz.f63) by kernel_rfl) (F81k11.sem c hs)
 ·exact callW_ok (own := false) (k := 2000) F81k12.eok mixed Go.Proofs.Tryz.func63 (by kernel_rfl) (show Go.Proofs.Tryz.f63.body = some (bodyOf Go.Proofs.Tryz.f63) by kernel_rfl) (F81k12.sem c hs)
 ·exact callW_ok (own := false) (k := 2000) F81k13.eok mixed Go.Proofs.Tryz.func63 (by kernel_rfl) (show Go.Proofs.Tryz.f63.body = some (bodyOf Go.Proofs.Tryz.f63) by kernel_rfl) (F81k13.sem c hs)
 ·exact callW_ok (own := false) (k := 2000) F81k14.eok mixed Go.Proofs.Tryz.func63 (by kernel_rfl) (show Go.Proofs.Tryz.f63.body = some (bodyOf Go.Proofs.Tryz.f63) by kernel_rfl) (F81k14.sem c hs)
 ·exact callW_ok (own := false) (k := 2000) F81k15.eok mixed Go.Proofs.Tryz.func63 (by kernel_rfl) (show Go.Proofs.Tryz.f63.body = some (bodyOf Go.Proofs.Tryz.f63) by kernel_rfl) (F81k15.sem c hs)
 ·exact callW_ok (own := false) (k := 2000) F81k16.eok mixed Go.Proofs.Tryz.func63 (by kernel_rfl) (show Go.Proofs.Tryz.f63.body = some (bodyOf Go.Proofs.Tryz.f63) by kernel_rfl) (F81k16.sem c hs)
 ·exact callW_ok (own := false) (k := 2000) F81k17.eok mixed Go.Proofs.Tryz.func63 (by kernel_rfl) (show Go.Proofs.Tryz.f63.body = some (bodyOf Go.Proofs.Tryz.f63) by kernel_rfl) (F81k17.sem c hs)
 ·exact callW_ok (own := false) (k := 2000) F81k18.eok mixed Go.Proofs.Tryz.func63 (by kernel_rfl) (show Go.Proofs.Tryz.f63.body = some (bodyOf Go.Proofs.Tryz.f63) by kernel_rfl) (F81k18.sem c hs)
 ·exact callW_ok (own := false) (k := 2000) F81k19.eok mixed Go.Proofs.Tryz.func63 (by kernel_rfl) (show Go.Proofs.Tryz.f63.body = some (bodyOf Go.Proofs.Tryz.f63) by kernel_rfl) (F81k19.sem c hs)
 ·exact callW_ok (own := false) (k := 2000) F81k20.eok mixed Go.Proofs.Tryz.func63 (by kernel_rfl) (show Go.Proofs.Tryz.f63.body = some (bodyOf Go.Proofs.Tryz.f63) by kernel_rfl) (F81k20.sem c hs)
 ·exact callW_ok (own := false) (k := 2000) F81k21.eok mixed Go.Proofs.Tryz.func63 (by kernel_rfl) (show Go.Proofs.Tryz.f63.body = some (bodyOf Go.Proofs.Tryz.f63) by kernel_rfl) (F81k21.sem c hs)
 ·exact callW_ok (own := false) (k := 2000) F81k22.eok mixed Go.Proofs.Tryz.func63 (by kernel_rfl) (show Go.Proofs.Tryz.f63.body = some (bodyOf Go.Proofs.Tryz.f63) by kernel_rfl) (F81k22.sem c hs)
 ·exact callW_ok (own := false) (k := 2000) F81k23.eok mixed Go.Proofs.Tryz.func63 (by kernel_rfl) (show Go.Proofs.Tryz.f63.body = some (bodyOf Go.Proofs.Tryz.f63) by kernel_rfl) (F81k23.sem c hs)
theorem F83.eok : EOk Go.Proofs.Tryz.prog F83.E := eo (calls_cons ok82 calls_nil)
theorem ok83 : HandOk Go.Proofs.Tryz.prog inv 65 h_coefsG := hand_if fun xs hc => callW_ok (own := false) (k := 4000) F83.eok mixed Go.Proofs.Tryz.func65 (by kernel_rfl) (show Go.Proofs.Tryz.f65.body = some (bodyOf Go.Proofs.Tryz.f65) by kernel_rfl) (F83.sem xs.1.1 xs.1.2 ((Bool.and_eq_true _ _).mp hc).1 ((Bool.and_eq_true _ _).mp hc).2)
theorem F51.eok : EOk Go.Proofs.Tryz.prog F51.E := eo (calls_cons ok52 (calls_cons ok81 (calls_cons ok82 (calls_cons ok83 calls_nil))))
theorem ok51 : HandOk Go.Proofs.Tryz.prog inv 28 h_rightD := hand_if fun xs hc => callW_ok (own := false) (k := 1) F51.eok mixed Go.Proofs.Tryz.func28 (by kernel_rfl) (show Go.Proofs.Tryz.f28.body = some (bodyOf Go.Proofs.Tryz.f28) by kernel_rfl) (F51.sem 1 xs.1.1 xs.1.2 xs.2.1 ((Bool.and_eq_true _ _).mp hc).1 ((Bool.and_eq_true _ _).mp hc).2)
end Go.Proofs.YtlfdikofmfhefaaGreatDoor.Ev
set_option linter.unusedVariables false
set_option linter.unusedSimpArgs false
set_option maxRecDepth 100000
namespace Go.Proofs.YtlfdikofmfhefaaGreatDoor.Ev
open Go
end Go.Proofs.YtlfdikofmfhefaaGreatDoor.Ev
