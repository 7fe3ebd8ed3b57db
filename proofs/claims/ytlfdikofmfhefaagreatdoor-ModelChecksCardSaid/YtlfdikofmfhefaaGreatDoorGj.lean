/-
May a constraint be, the program's answer: what the functions answer.
Conditions: lists of at most 1000 elements.
Kind by kind: what a constraint must be, by the program and by the document.
Conditions: none.
-/
import Derived.Test.YtlfdikofmfhefaaGreatDoorGb
import Derived.Test.YtlfdikofmfhefaaGreatDoorGw
import Derived.Test.YtlfdikofmfhefaaGreatDoorDz
set_option linter.unusedVariables false
set_option linter.unusedSimpArgs false
set_option maxRecDepth 100000
namespace Go.Proofs.YtlfdikofmfhefaaGreatDoor.Ev
open Go
abbrev RestG := List Int × List Int × List Int × List Int × List Int × Int × List (List Int)
theorem pushC (b x y : Bool) : (bif b then some (AV.v .bool x) else some (AV.v .bool y)) = some (AV.v .bool (@cond Bool b x y)) := by cases b <;> rfl
theorem cAnd (b x : Bool) : (bif b then x else false) = (b && x) := by cases b <;> rfl
theorem cNot (b x : Bool) : (bif b then false else x) = (!b && x) := by cases b <;> rfl
structure SmallP (c : Con) : Prop where
  la : c.2.1.length ≤ 1000
  lb : c.2.2.1.length ≤ 1000
  lc : c.2.2.2.1.length ≤ 1000
  ld : c.2.2.2.2.1.length ≤ 1000
  le : c.2.2.2.2.2.1.length ≤ 1000
  lr : c.2.2.2.2.2.2.2.length ≤ 1000
theorem small_iff {c : Con} (h : smallC c = true) : SmallP c := by
 unfold smallC at h
 simp only [Bool.and_eq_true, Nat.ble_eq] at h
 obtain ⟨⟨⟨⟨⟨h1, h2⟩, h3⟩, h4⟩, h5⟩, h6⟩ := h
 exact ⟨h1, h2, h3, h4, h5, h6⟩
theorem F92.sem (k : Nat) (kk : Int) (c : RestG) (s : ByteArray) (h : smallC (kk, c) = true) : callW F92.E false F92.fn k [.agg (explode ConT (kk, c)), .v .str s] = some (.v .bool (countedG (kk, c) s)) := by
 obtain ⟨ha, hb, hc, hd, he, hr⟩ := small_iff h
 simp only at ha hb hc hd he hr
 refine (F92.start_eq k kk c s).trans ?_
 unfold countedG
 rw [wrap_ok (x := (c.1.length : Int) + (c.2.1.length : Int)) (by omega) (by omega), wrap_ok (x := (c.2.2.1.length : Int) + (c.2.2.2.1.length : Int)) (by omega) (by omega)]
 rw [wrap_ok (x := (c.2.2.1.length : Int) + (c.2.2.2.1.length : Int) + (c.2.2.2.2.1.length : Int)) (by omega) (by omega)]
 rw [wrap_ok (x := (c.2.2.1.length : Int) + (c.2.2.2.1.length : Int) + (c.2.2.2.2.1.length : Int) + (c.2.2.2.2.2.2.length : Int)) (by omega) (by omega)]
 have hm : decide ((if (c.2.1.length : Int) > (c.1.length : Int) then (c.2.1.length : Int) else (c.1.length : Int)) ≤ 64) = (decide ((c.1.length : Int) ≤ 64) && decide ((c.2.1.length : Int) ≤ 64)) := by
  rw [Bool.eq_iff_iff, Bool.and_eq_true, decide_eq_true_eq, decide_eq_true_eq, decide_eq_true_eq]
  split <;> omega
 rw [hm]
 simp only [pushC, cAnd, Bool.and_assoc]
 cases decide (kk = 12) <;> cases has1 s ⟨#[114]⟩ <;> rfl
theorem F93.sem (k : Nat) (kk : Int) (c : RestG) : callW F93.E false F93.fn k [.agg (explode ConT (kk, c))] = some (.v .bool (alikeG (kk, c))) := by
 refine (F93.start_eq k kk c).trans ?_
 unfold alikeG
 simp only [pushC, cAnd]
theorem F97.sem (kk : Int) (c : RestG) (h : smallC (kk, c) = true) : callW F97.E false F97.fn 2000 [.agg (explode ConT (kk, c))] = some (.v .bool (numbersG (kk, c))) := by
 have hr := (small_iff h).lr
 simp only at hr
 have st : callW F97.E false F97.fn 2000 [.agg (explode ConT (kk, c))] = F97.l1_1_1_0_1_0 2000 (F97.kt 2000 [1, 1, 1, 0, 1, 0]) (loG (kk, c)) (seG (kk, c)) (kaG (kk, c)) c.2.2.2.2.2.2 (c.2.2.2.2.2.2.length : Int) 0 kk c.1 c.2.1 c.2.2.1 c.2.2.2.1 c.2.2.2.2.1 c.2.2.2.2.2.1 c.2.2.2.2.2.2 := by
  refine (F97.start_eq 2000 kk c).trans ?_
  by_cases h1 : kk = 19
  ·have l1 : loG (kk, c) = 0 := if_pos h1
   have l2 : seG (kk, c) = 0 := if_pos h1
   have l3 : kaG (kk, c) = 0 := if_pos h1
   rw [l1, l2, l3]
   exact bT' (decide_eq_true h1)
  ·have l1 : loG (kk, c) = -1000000 := if_neg h1
   have l3 : kaG (kk, c) = -9999999999 := if_neg h1
   rw [l1, l3]
   refine (bF' (decide_eq_false h1)).trans ?_
   by_cases h2 : kk = 21
   ·have l2 : seG (kk, c) = 0 := (if_neg h1).trans (if_pos h2)
    rw [l2]
    exact bT' (decide_eq_true h2)
   ·have l2 : seG (kk, c) = -1000000 := (if_neg h1).trans (if_neg h2)
    rw [l2]
    exact bF' (decide_eq_false h2)
 refine st.trans ?_
 unfold numbersG
 generalize loG (kk, c) = lo
 generalize seG (kk, c) = se
 generalize kaG (kk, c) = ka
 refine (any_loop (fun n i => F97.l1_1_1_0_1_0 n (F97.kt 2000 [1, 1, 1, 0, 1, 0]) lo se ka c.2.2.2.2.2.2 (c.2.2.2.2.2.2.length : Int) i kk c.1 c.2.1 c.2.2.1 c.2.2.2.1 c.2.2.2.2.1 c.2.2.2.2.2.1 c.2.2.2.2.2.2) c.2.2.2.2.2.2 (fun r => !(boundedD r lo)) (some (.v .bool false)) _ 0 (by omega) (fun n => (F97.l1_1_1_0_1_0_eq ..).trans (self_lt'.trans (F97.c1 ..)))
  (fun n i hi _ => ?_) 2000 (by omega)).trans ?_
 ·have e : c.2.2.2.2.2.2[i] = c.2.2.2.2.2.2.getD i [] := by rw [List.getD_eq_getElem?_getD, List.getElem?_eq_getElem hi]; rfl
  rw [e]
  refine (F97.l1_1_1_0_1_0_eq ..).trans ((bT' (lt_natG hi)).trans ((bT' (in_natG hi)).trans ?_))
  rw [Int.toNat_natCast, F97.c0]
 ·simp only [pushC, cAnd, cNot]
theorem sortL_lenG (l : List Int) : (sortL l).length = l.length := List.length_mergeSort l
theorem any_range (L : Nat → Int → Option AV) (N : Nat) (p : Nat → Bool) (T E : Option AV) (m : Nat) (hl : N ≤ 1000000000) (hend : ∀ n, m ≤ n → L (n + 1) (N : Int) = E)
  (hstep : ∀ (n i : Nat), i < N → m ≤ n → L (n + 1) (i : Int) = bif p i then T else L n (IntKind.i64.wrap ((i : Int) + 1))) (n : Nat) (hn : m + N < n) : L n 0 = bif (List.range N).any p then T else E := by
 have key : ∀ (d i n : Nat), i + d = N → m + d < n → L n (i : Int) = bif (List.range' i d).any p then T else E := by
  intro d
  induction d with
  | zero =>
   intro i n h1 h2
   obtain ⟨n', rfl⟩ : ∃ n', n = n' + 1 := ⟨n - 1, by omega⟩
   obtain rfl : i = N := by omega
   rw [hend n' (by omega)]
   rfl
  | succ d ih =>
   intro i n h1 h2
   obtain ⟨n', rfl⟩ : ∃ n', n = n' + 1 := ⟨n - 1, by omega⟩
   have w : IntKind.i64.wrap ((i : Int) + 1) = ((i + 1 : Nat) : Int) := by rw [wrap_ok (by omega) (by omega)]; omega
   rw [hstep n' i (by omega) (by omega), w, ih (i + 1) n' (by omega) (by omega), List.range'_succ, List.any_cons]
   cases p i <;> rfl
 rw [List.range_eq_range']
 exact key N 0 n (by omega) (by omega)
theorem F98.sem (kk : Int) (c : RestG) (h : countsB (kk, c) = true) : callW F98.E false F98.fn 2000 [.agg (explode ConT (kk, c))] = some (.v .bool (countsG (kk, c))) := by
 refine (F98.start_eq 2000 kk c).trans ?_
 unfold countsB at h
 unfold countsG
 by_cases h1 : kk = 21
 ·have e1 : decide (kk = 21) = true := decide_eq_true h1
  have h : (!(decide (kk = 21)) || (sortB c.2.2.1 && decide (c.2.2.2.1.length = c.2.2.1.length) && decide (c.2.2.2.2.1.length = c.2.2.1.length))) = true := h
  rw [e1] at h
  have h : (sortB c.2.2.1 && decide (c.2.2.2.1.length = c.2.2.1.length) && decide (c.2.2.2.2.1.length = c.2.2.1.length)) = true := h
  rw [Bool.and_eq_true, Bool.and_eq_true, decide_eq_true_eq, decide_eq_true_eq] at h
  obtain ⟨⟨hs, hd⟩, he⟩ := h
  have hs2 := hs
  unfold sortB at hs2
  rw [Bool.and_eq_true, Nat.ble_eq] at hs2
  have hsl := sortL_lenG c.2.2.1
  refine (bF' (by rw [e1]; rfl)).trans ((bT' hs).trans ?_)
  show _ = some (AV.v .bool (bif decide (kk = 21) then !((List.range c.2.2.1.length).any (cntP c.2.2.1 c.2.2.2.1 c.2.2.2.2.1 (sortL c.2.2.1))) else true))
  rw [e1]
  refine (any_range (fun n i => F98.l1_1_1_0_1_0 n (F98.kt 2000 [1, 1, 1, 0, 1, 0]) (c.2.2.1.length : Int) i kk c.1 c.2.1 c.2.2.1 c.2.2.2.1 c.2.2.2.2.1 c.2.2.2.2.2.1 c.2.2.2.2.2.2 (sortL c.2.2.1)) c.2.2.1.length (cntP c.2.2.1 c.2.2.2.1 c.2.2.2.2.1 (sortL c.2.2.1)) (some (.v .bool false)) (some (.v .bool true)) 0 (by omega) (fun n _ => (F98.l1_1_1_0_1_0_eq ..).trans (self_lt'.trans (F98.c1 ..)))
   (fun n i hi _ => ?_) 2000 (by omega)).trans ?_
  ·refine (F98.l1_1_1_0_1_0_eq ..).trans ((bT' (lt_natG hi)).trans ((bT' (in_natG (show i < c.2.2.2.1.length by omega))).trans ((bT' (in_natG (show i < c.2.2.2.2.1.length by omega))).trans ?_)))
   rw [Int.toNat_natCast, F98.c0]
   unfold cntP
   cases decide (c.2.2.2.1.getD i 0 > c.2.2.2.2.1.getD i 0) with
   | true => rfl
   | false =>
    by_cases h0 : (i : Int) > 0
    ·have w : IntKind.i64.wrap ((i : Int) - 1) = ((i - 1 : Nat) : Int) := by rw [wrap_ok (by omega) (by omega)]; omega
     rw [w, Int.toNat_natCast, decide_eq_true h0]
     refine (bF' rfl).trans ((bT' rfl).trans ((bT' (in_natG (show i < (sortL c.2.2.1).length by omega))).trans ((bT' (in_natG (show i - 1 < (sortL c.2.2.1).length by omega))).trans ?_)))
     rfl
    ·rw [decide_eq_false h0]
     rfl
  ·cases (List.range c.2.2.1.length).any (cntP c.2.2.1 c.2.2.2.1 c.2.2.2.2.1 (sortL c.2.2.1)) <;> rfl
 ·have e1 : decide (kk = 21) = false := decide_eq_false h1
  show _ = some (AV.v .bool (bif decide (kk = 21) then _ else true))
  rw [e1]
  rfl
end Go.Proofs.YtlfdikofmfhefaaGreatDoor.Ev
set_option linter.unusedVariables false
set_option linter.unusedSimpArgs false
set_option maxRecDepth 100000
namespace Go.Proofs.YtlfdikofmfhefaaGreatDoor.Ev
open Go
theorem rig_fin {a b : Bool} (h : a = true ↔ b = true) : a = b := Bool.eq_iff_iff.mpr h
theorem h1_1_114 : has1 (shapeS 1) ⟨#[114]⟩ = false := by decide +kernel
theorem h1_1_86 : has1 (shapeS 1) ⟨#[86]⟩ = true := by decide +kernel
theorem h1_1_87 : has1 (shapeS 1) ⟨#[87]⟩ = false := by decide +kernel
theorem h1_1_99 : has1 (shapeS 1) ⟨#[99]⟩ = true := by decide +kernel
theorem h1_1_100 : has1 (shapeS 1) ⟨#[100]⟩ = false := by decide +kernel
theorem h1_1_101 : has1 (shapeS 1) ⟨#[101]⟩ = false := by decide +kernel
theorem h1_1_107 : has1 (shapeS 1) ⟨#[107]⟩ = true := by decide +kernel
theorem h2_1_118 : cnt1 (shapeS 1) ⟨#[118]⟩ = 0 := by decide +kernel
theorem h2_1_119 : cnt1 (shapeS 1) ⟨#[119]⟩ = 0 := by decide +kernel
theorem h2_1_45 : cnt1 (shapeS 1) ⟨#[45]⟩ = 0 := by decide +kernel
theorem h3_1_107 : hasB ⟨#[99, 86, 107]⟩ 107 = 1 := by decide +kernel
theorem h3_1_118 : hasB ⟨#[99, 86, 107]⟩ 118 = 0 := by decide +kernel
theorem h3_1_86 : hasB ⟨#[99, 86, 107]⟩ 86 = 1 := by decide +kernel
theorem h3_1_119 : hasB ⟨#[99, 86, 107]⟩ 119 = 0 := by decide +kernel
theorem h3_1_87 : hasB ⟨#[99, 86, 107]⟩ 87 = 0 := by decide +kernel
theorem h3_1_99 : hasB ⟨#[99, 86, 107]⟩ 99 = 1 := by decide +kernel
theorem h3_1_100 : hasB ⟨#[99, 86, 107]⟩ 100 = 0 := by decide +kernel
theorem h3_1_101 : hasB ⟨#[99, 86, 107]⟩ 101 = 0 := by decide +kernel
theorem h3_1_114 : hasB ⟨#[99, 86, 107]⟩ 114 = 0 := by decide +kernel
theorem cnt_k1 (c : RestG) : countedG (1, c) (shapeS 1) = (decide ((c.2.2.2.2.2.2.length : Int) = 0) && (withinD (c.1.length : Int) 1 64 && (decide ((c.2.1.length : Int) = 0) && (withinD (c.2.2.1.length : Int) 1 64 && (decide ((c.2.2.2.1.length : Int) = 0) && decide ((c.2.2.2.2.1.length : Int) = 0)))))) := by
 have e : decide ((1 : Int) = 12) = false := rfl
 simp only [countedG, namedD, e, h1_1_114, h1_1_86, h1_1_87, h1_1_99, h1_1_100, h1_1_101, h2_1_118, h2_1_119, h2_1_45, cond_true, cond_false]
theorem ari_k1 (c : RestG) : arityG (1, c) ⟨#[99, 86, 107]⟩ = ((listB1 (c.1.length : Int) 0 1 && (listB1 (c.2.1.length : Int) 0 0 && (listB1 (c.2.2.1.length : Int) 0 1 && (listB1 (c.2.2.2.1.length : Int) 0 0 && (listB1 (c.2.2.2.2.1.length : Int) 0 0 && (!(decide ((c.2.2.2.2.2.2.length : Int) > 0)) && (decide ((c.2.2.1.length : Int) = (c.1.length : Int)) && (!(List.any c.2.2.2.2.2.2 (rowN (1, c)))))))))))) := by
 unfold arityG
 rw [h3_1_107, h3_1_118, h3_1_86, h3_1_119, h3_1_87, h3_1_99, h3_1_100, h3_1_101, h3_1_114]
 simp only [decide_true, decide_false, Bool.and_true, Bool.true_and, Bool.false_and, Bool.or_false, Bool.false_or, Bool.or_true, Bool.true_or, Bool.not_true, Bool.not_false, Bool.not_not, Bool.not_or, cond_true, cond_false, Bool.and_assoc, Int.reduceEq, Int.reduceGT, Int.reduceLE, Int.reduceGE, Int.reduceLT]
theorem rig_k1 (c : RestG) : (countedG (1, c) (shapeS 1) && alikeG (1, c) && (decide (c.2.2.2.2.2.1 = 0) || has1 (shapeS 1) ⟨#[107]⟩)) = arityG (1, c) ⟨#[99, 86, 107]⟩ := by
 rw [cnt_k1, ari_k1, h1_1_107]
 have al : alikeG (1, c) = (decide ((c.2.2.1.length : Int) = (c.1.length : Int))) := rfl
 rw [al]
 by_cases hr : c.2.2.2.2.2.2.length = 0
 ·have eb : List.any c.2.2.2.2.2.2 (rowN (1, c)) = false := by rw [List.length_eq_zero_iff.mp hr]; rfl
  rw [eb]
  exact rig_fin (by simp [-List.length_eq_zero_iff, withinD, listB1, hr] <;> omega)
 ·generalize List.any c.2.2.2.2.2.2 (rowN (1, c)) = b
  exact rig_fin (by simp [-List.length_eq_zero_iff, withinD, listB1] <;> omega)
theorem h1_2_114 : has1 (shapeS 2) ⟨#[114]⟩ = false := by decide +kernel
theorem h1_2_86 : has1 (shapeS 2) ⟨#[86]⟩ = true := by decide +kernel
theorem h1_2_87 : has1 (shapeS 2) ⟨#[87]⟩ = false := by decide +kernel
theorem h1_2_99 : has1 (shapeS 2) ⟨#[99]⟩ = true := by decide +kernel
theorem h1_2_100 : has1 (shapeS 2) ⟨#[100]⟩ = false := by decide +kernel
theorem h1_2_101 : has1 (shapeS 2) ⟨#[101]⟩ = false := by decide +kernel
theorem h1_2_107 : has1 (shapeS 2) ⟨#[107]⟩ = true := by decide +kernel
theorem h2_2_118 : cnt1 (shapeS 2) ⟨#[118]⟩ = 0 := by decide +kernel
theorem h2_2_119 : cnt1 (shapeS 2) ⟨#[119]⟩ = 0 := by decide +kernel
theorem h2_2_45 : cnt1 (shapeS 2) ⟨#[45]⟩ = 0 := by decide +kernel
theorem h3_2_107 : hasB ⟨#[99, 86, 107]⟩ 107 = 1 := by decide +kernel
theorem h3_2_118 : hasB ⟨#[99, 86, 107]⟩ 118 = 0 := by decide +kernel
theorem h3_2_86 : hasB ⟨#[99, 86, 107]⟩ 86 = 1 := by decide +kernel
theorem h3_2_119 : hasB ⟨#[99, 86, 107]⟩ 119 = 0 := by decide +kernel
theorem h3_2_87 : hasB ⟨#[99, 86, 107]⟩ 87 = 0 := by decide +kernel
theorem h3_2_99 : hasB ⟨#[99, 86, 107]⟩ 99 = 1 := by decide +kernel
theorem h3_2_100 : hasB ⟨#[99, 86, 107]⟩ 100 = 0 := by decide +kernel
theorem h3_2_101 : hasB ⟨#[99, 86, 107]⟩ 101 = 0 := by decide +kernel
theorem h3_2_114 : hasB ⟨#[99, 86, 107]⟩ 114 = 0 := by decide +kernel
theorem cnt_k2 (c : RestG) : countedG (2, c) (shapeS 2) = (decide ((c.2.2.2.2.2.2.length : Int) = 0) && (withinD (c.1.length : Int) 1 64 && (decide ((c.2.1.length : Int) = 0) && (withinD (c.2.2.1.length : Int) 1 64 && (decide ((c.2.2.2.1.length : Int) = 0) && decide ((c.2.2.2.2.1.length : Int) = 0)))))) := by
 have e : decide ((2 : Int) = 12) = false := rfl
 simp only [countedG, namedD, e, h1_2_114, h1_2_86, h1_2_87, h1_2_99, h1_2_100, h1_2_101, h2_2_118, h2_2_119, h2_2_45, cond_true, cond_false]
theorem ari_k2 (c : RestG) : arityG (2, c) ⟨#[99, 86, 107]⟩ = ((listB1 (c.1.length : Int) 0 1 && (listB1 (c.2.1.length : Int) 0 0 && (listB1 (c.2.2.1.length : Int) 0 1 && (listB1 (c.2.2.2.1.length : Int) 0 0 && (listB1 (c.2.2.2.2.1.length : Int) 0 0 && (!(decide ((c.2.2.2.2.2.2.length : Int) > 0)) && (decide ((c.2.2.1.length : Int) = (c.1.length : Int)) && (!(List.any c.2.2.2.2.2.2 (rowN (2, c)))))))))))) := by
 unfold arityG
 rw [h3_2_107, h3_2_118, h3_2_86, h3_2_119, h3_2_87, h3_2_99, h3_2_100, h3_2_101, h3_2_114]
 simp only [decide_true, decide_false, Bool.and_true, Bool.true_and, Bool.false_and, Bool.or_false, Bool.false_or, Bool.or_true, Bool.true_or, Bool.not_true, Bool.not_false, Bool.not_not, Bool.not_or, cond_true, cond_false, Bool.and_assoc, Int.reduceEq, Int.reduceGT, Int.reduceLE, Int.reduceGE, Int.reduceLT]
theorem rig_k2 (c : RestG) : (countedG (2, c) (shapeS 2) && alikeG (2, c) && (decide (c.2.2.2.2.2.1 = 0) || has1 (shapeS 2) ⟨#[107]⟩)) = arityG (2, c) ⟨#[99, 86, 107]⟩ := by
 rw [cnt_k2, ari_k2, h1_2_107]
 have al : alikeG (2, c) = (decide ((c.2.2.1.length : Int) = (c.1.length : Int))) := rfl
 rw [al]
 by_cases hr : c.2.2.2.2.2.2.length = 0
 ·have eb : List.any c.2.2.2.2.2.2 (rowN (2, c)) = false := by rw [List.length_eq_zero_iff.mp hr]; rfl
  rw [eb]
  exact rig_fin (by simp [-List.length_eq_zero_iff, withinD, listB1, hr] <;> omega)
 ·generalize List.any c.2.2.2.2.2.2 (rowN (2, c)) = b
  exact rig_fin (by simp [-List.length_eq_zero_iff, withinD, listB1] <;> omega)
theorem h1_3_114 : has1 (shapeS 3) ⟨#[114]⟩ = false := by decide +kernel
theorem h1_3_86 : has1 (shapeS 3) ⟨#[86]⟩ = true := by decide +kernel
theorem h1_3_87 : has1 (shapeS 3) ⟨#[87]⟩ = false := by decide +kernel
theorem h1_3_99 : has1 (shapeS 3) ⟨#[99]⟩ = true := by decide +kernel
theorem h1_3_100 : has1 (shapeS 3) ⟨#[100]⟩ = false := by decide +kernel
theorem h1_3_101 : has1 (shapeS 3) ⟨#[101]⟩ = false := by decide +kernel
theorem h1_3_107 : has1 (shapeS 3) ⟨#[107]⟩ = true := by decide +kernel
theorem h2_3_118 : cnt1 (shapeS 3) ⟨#[118]⟩ = 0 := by decide +kernel
theorem h2_3_119 : cnt1 (shapeS 3) ⟨#[119]⟩ = 0 := by decide +kernel
theorem h2_3_45 : cnt1 (shapeS 3) ⟨#[45]⟩ = 0 := by decide +kernel
theorem h3_3_107 : hasB ⟨#[99, 86, 107]⟩ 107 = 1 := by decide +kernel
theorem h3_3_118 : hasB ⟨#[99, 86, 107]⟩ 118 = 0 := by decide +kernel
theorem h3_3_86 : hasB ⟨#[99, 86, 107]⟩ 86 = 1 := by decide +kernel
theorem h3_3_119 : hasB ⟨#[99, 86, 107]⟩ 119 = 0 := by decide +kernel
theorem h3_3_87 : hasB ⟨#[99, 86, 107]⟩ 87 = 0 := by decide +kernel
theorem h3_3_99 : hasB ⟨#[99, 86, 107]⟩ 99 = 1 := by decide +kernel
theorem h3_3_100 : hasB ⟨#[99, 86, 107]⟩ 100 = 0 := by decide +kernel
theorem h3_3_101 : hasB ⟨#[99, 86, 107]⟩ 101 = 0 := by decide +kernel
theorem h3_3_114 : hasB ⟨#[99, 86, 107]⟩ 114 = 0 := by decide +kernel
theorem cnt_k3 (c : RestG) : countedG (3, c) (shapeS 3) = (decide ((c.2.2.2.2.2.2.length : Int) = 0) && (withinD (c.1.length : Int) 1 64 && (decide ((c.2.1.length : Int) = 0) && (withinD (c.2.2.1.length : Int) 1 64 && (decide ((c.2.2.2.1.length : Int) = 0) && decide ((c.2.2.2.2.1.length : Int) = 0)))))) := by
 have e : decide ((3 : Int) = 12) = false := rfl
 simp only [countedG, namedD, e, h1_3_114, h1_3_86, h1_3_87, h1_3_99, h1_3_100, h1_3_101, h2_3_118, h2_3_119, h2_3_45, cond_true, cond_false]
theorem ari_k3 (c : RestG) : arityG (3, c) ⟨#[99, 86, 107]⟩ = ((listB1 (c.1.length : Int) 0 1 && (listB1 (c.2.1.length : Int) 0 0 && (listB1 (c.2.2.1.length : Int) 0 1 && (listB1 (c.2.2.2.1.length : Int) 0 0 && (listB1 (c.2.2.2.2.1.length : Int) 0 0 && (!(decide ((c.2.2.2.2.2.2.length : Int) > 0)) && (decide ((c.2.2.1.length : Int) = (c.1.length : Int)) && (!(List.any c.2.2.2.2.2.2 (rowN (3, c)))))))))))) := by
 unfold arityG
 rw [h3_3_107, h3_3_118, h3_3_86, h3_3_119, h3_3_87, h3_3_99, h3_3_100, h3_3_101, h3_3_114]
 simp only [decide_true, decide_false, Bool.and_true, Bool.true_and, Bool.false_and, Bool.or_false, Bool.false_or, Bool.or_true, Bool.true_or, Bool.not_true, Bool.not_false, Bool.not_not, Bool.not_or, cond_true, cond_false, Bool.and_assoc, Int.reduceEq, Int.reduceGT, Int.reduceLE, Int.reduceGE, Int.reduceLT]
theorem rig_k3 (c : RestG) : (countedG (3, c) (shapeS 3) && alikeG (3, c) && (decide (c.2.2.2.2.2.1 = 0) || has1 (shapeS 3) ⟨#[107]⟩)) = arityG (3, c) ⟨#[99, 86, 107]⟩ := by
 rw [cnt_k3, ari_k3, h1_3_107]
 have al : alikeG (3, c) = (decide ((c.2.2.1.length : Int) = (c.1.length : Int))) := rfl
 rw [al]
 by_cases hr : c.2.2.2.2.2.2.length = 0
 ·have eb : List.any c.2.2.2.2.2.2 (rowN (3, c)) = false := by rw [List.length_eq_zero_iff.mp hr]; rfl
  rw [eb]
  exact rig_fin (by simp [-List.length_eq_zero_iff, withinD, listB1, hr] <;> omega)
 ·generalize List.any c.2.2.2.2.2.2 (rowN (3, c)) = b
  exact rig_fin (by simp [-List.length_eq_zero_iff, withinD, listB1] <;> omega)
theorem h1_4_114 : has1 (shapeS 4) ⟨#[114]⟩ = false := by decide +kernel
theorem h1_4_86 : has1 (shapeS 4) ⟨#[86]⟩ = true := by decide +kernel
theorem h1_4_87 : has1 (shapeS 4) ⟨#[87]⟩ = false := by decide +kernel
theorem h1_4_99 : has1 (shapeS 4) ⟨#[99]⟩ = true := by decide +kernel
theorem h1_4_100 : has1 (shapeS 4) ⟨#[100]⟩ = false := by decide +kernel
theorem h1_4_101 : has1 (shapeS 4) ⟨#[101]⟩ = false := by decide +kernel
theorem h1_4_107 : has1 (shapeS 4) ⟨#[107]⟩ = true := by decide +kernel
theorem h2_4_118 : cnt1 (shapeS 4) ⟨#[118]⟩ = 0 := by decide +kernel
theorem h2_4_119 : cnt1 (shapeS 4) ⟨#[119]⟩ = 1 := by decide +kernel
theorem h2_4_45 : cnt1 (shapeS 4) ⟨#[45]⟩ = 0 := by decide +kernel
theorem h3_4_107 : hasB ⟨#[99, 86, 107, 119]⟩ 107 = 1 := by decide +kernel
theorem h3_4_118 : hasB ⟨#[99, 86, 107, 119]⟩ 118 = 0 := by decide +kernel
theorem h3_4_86 : hasB ⟨#[99, 86, 107, 119]⟩ 86 = 1 := by decide +kernel
theorem h3_4_119 : hasB ⟨#[99, 86, 107, 119]⟩ 119 = 1 := by decide +kernel
theorem h3_4_87 : hasB ⟨#[99, 86, 107, 119]⟩ 87 = 0 := by decide +kernel
theorem h3_4_99 : hasB ⟨#[99, 86, 107, 119]⟩ 99 = 1 := by decide +kernel
theorem h3_4_100 : hasB ⟨#[99, 86, 107, 119]⟩ 100 = 0 := by decide +kernel
theorem h3_4_101 : hasB ⟨#[99, 86, 107, 119]⟩ 101 = 0 := by decide +kernel
theorem h3_4_114 : hasB ⟨#[99, 86, 107, 119]⟩ 114 = 0 := by decide +kernel
theorem cnt_k4 (c : RestG) : countedG (4, c) (shapeS 4) = (decide ((c.2.2.2.2.2.2.length : Int) = 0) && (withinD (c.1.length : Int) 1 64 && (decide ((c.2.1.length : Int) = 1) && (withinD (c.2.2.1.length : Int) 1 64 && (decide ((c.2.2.2.1.length : Int) = 0) && decide ((c.2.2.2.2.1.length : Int) = 0)))))) := by
 have e : decide ((4 : Int) = 12) = false := rfl
 simp only [countedG, namedD, e, h1_4_114, h1_4_86, h1_4_87, h1_4_99, h1_4_100, h1_4_101, h2_4_118, h2_4_119, h2_4_45, cond_true, cond_false]
theorem ari_k4 (c : RestG) : arityG (4, c) ⟨#[99, 86, 107, 119]⟩ = ((listB1 (c.1.length : Int) 0 1 && (listB1 (c.2.1.length : Int) 1 0 && (listB1 (c.2.2.1.length : Int) 0 1 && (listB1 (c.2.2.2.1.length : Int) 0 0 && (listB1 (c.2.2.2.2.1.length : Int) 0 0 && (!(decide ((c.2.2.2.2.2.2.length : Int) > 0)) && (decide ((c.2.2.1.length : Int) = (c.1.length : Int)) && (!(List.any c.2.2.2.2.2.2 (rowN (4, c)))))))))))) := by
 unfold arityG
 rw [h3_4_107, h3_4_118, h3_4_86, h3_4_119, h3_4_87, h3_4_99, h3_4_100, h3_4_101, h3_4_114]
 simp only [decide_true, decide_false, Bool.and_true, Bool.true_and, Bool.false_and, Bool.or_false, Bool.false_or, Bool.or_true, Bool.true_or, Bool.not_true, Bool.not_false, Bool.not_not, Bool.not_or, cond_true, cond_false, Bool.and_assoc, Int.reduceEq, Int.reduceGT, Int.reduceLE, Int.reduceGE, Int.reduceLT]
theorem rig_k4 (c : RestG) : (countedG (4, c) (shapeS 4) && alikeG (4, c) && (decide (c.2.2.2.2.2.1 = 0) || has1 (shapeS 4) ⟨#[107]⟩)) = arityG (4, c) ⟨#[99, 86, 107, 119]⟩ := by
 rw [cnt_k4, ari_k4, h1_4_107]
 have al : alikeG (4, c) = (decide ((c.2.2.1.length : Int) = (c.1.length : Int))) := rfl
 rw [al]
 by_cases hr : c.2.2.2.2.2.2.length = 0
 ·have eb : List.any c.2.2.2.2.2.2 (rowN (4, c)) = false := by rw [List.length_eq_zero_iff.mp hr]; rfl
  rw [eb]
  exact rig_fin (by simp [-List.length_eq_zero_iff, withinD, listB1, hr] <;> omega)
 ·generalize List.any c.2.2.2.2.2.2 (rowN (4, c)) = b
  exact rig_fin (by simp [-List.length_eq_zero_iff, withinD, listB1] <;> omega)
theorem h1_5_114 : has1 (shapeS 5) ⟨#[114]⟩ = false := by decide +kernel
theorem h1_5_86 : has1 (shapeS 5) ⟨#[86]⟩ = false := by decide +kernel
theorem h1_5_87 : has1 (shapeS 5) ⟨#[87]⟩ = false := by decide +kernel
theorem h1_5_99 : has1 (shapeS 5) ⟨#[99]⟩ = false := by decide +kernel
theorem h1_5_100 : has1 (shapeS 5) ⟨#[100]⟩ = false := by decide +kernel
theorem h1_5_101 : has1 (shapeS 5) ⟨#[101]⟩ = false := by decide +kernel
theorem h1_5_107 : has1 (shapeS 5) ⟨#[107]⟩ = false := by decide +kernel
theorem h2_5_118 : cnt1 (shapeS 5) ⟨#[118]⟩ = 3 := by decide +kernel
theorem h2_5_119 : cnt1 (shapeS 5) ⟨#[119]⟩ = 0 := by decide +kernel
theorem h2_5_45 : cnt1 (shapeS 5) ⟨#[45]⟩ = 0 := by decide +kernel
theorem h3_5_107 : hasB ⟨#[118, 118, 118]⟩ 107 = 0 := by decide +kernel
theorem h3_5_118 : hasB ⟨#[118, 118, 118]⟩ 118 = 3 := by decide +kernel
theorem h3_5_86 : hasB ⟨#[118, 118, 118]⟩ 86 = 0 := by decide +kernel
theorem h3_5_119 : hasB ⟨#[118, 118, 118]⟩ 119 = 0 := by decide +kernel
theorem h3_5_87 : hasB ⟨#[118, 118, 118]⟩ 87 = 0 := by decide +kernel
theorem h3_5_99 : hasB ⟨#[118, 118, 118]⟩ 99 = 0 := by decide +kernel
theorem h3_5_100 : hasB ⟨#[118, 118, 118]⟩ 100 = 0 := by decide +kernel
theorem h3_5_101 : hasB ⟨#[118, 118, 118]⟩ 101 = 0 := by decide +kernel
theorem h3_5_114 : hasB ⟨#[118, 118, 118]⟩ 114 = 0 := by decide +kernel
theorem cnt_k5 (c : RestG) : countedG (5, c) (shapeS 5) = (decide ((c.2.2.2.2.2.2.length : Int) = 0) && (decide ((c.1.length : Int) = 3) && (decide ((c.2.1.length : Int) = 0) && (decide ((c.2.2.1.length : Int) = 0) && (decide ((c.2.2.2.1.length : Int) = 0) && decide ((c.2.2.2.2.1.length : Int) = 0)))))) := by
 have e : decide ((5 : Int) = 12) = false := rfl
 simp only [countedG, namedD, e, h1_5_114, h1_5_86, h1_5_87, h1_5_99, h1_5_100, h1_5_101, h2_5_118, h2_5_119, h2_5_45, cond_true, cond_false]
theorem ari_k5 (c : RestG) : arityG (5, c) ⟨#[118, 118, 118]⟩ = (decide (c.2.2.2.2.2.1 = 0) && (listB1 (c.1.length : Int) 3 0 && (listB1 (c.2.1.length : Int) 0 0 && (listB1 (c.2.2.1.length : Int) 0 0 && (listB1 (c.2.2.2.1.length : Int) 0 0 && (listB1 (c.2.2.2.2.1.length : Int) 0 0 && (!(decide ((c.2.2.2.2.2.2.length : Int) > 0)) && (!(List.any c.2.2.2.2.2.2 (rowN (5, c))))))))))) := by
 unfold arityG
 rw [h3_5_107, h3_5_118, h3_5_86, h3_5_119, h3_5_87, h3_5_99, h3_5_100, h3_5_101, h3_5_114]
 simp only [decide_true, decide_false, Bool.and_true, Bool.true_and, Bool.false_and, Bool.or_false, Bool.false_or, Bool.or_true, Bool.true_or, Bool.not_true, Bool.not_false, Bool.not_not, Bool.not_or, cond_true, cond_false, Bool.and_assoc, Int.reduceEq, Int.reduceGT, Int.reduceLE, Int.reduceGE, Int.reduceLT]
theorem rig_k5 (c : RestG) : (countedG (5, c) (shapeS 5) && alikeG (5, c) && (decide (c.2.2.2.2.2.1 = 0) || has1 (shapeS 5) ⟨#[107]⟩)) = arityG (5, c) ⟨#[118, 118, 118]⟩ := by
 rw [cnt_k5, ari_k5, h1_5_107]
 have al : alikeG (5, c) = (true) := rfl
 rw [al]
 by_cases hr : c.2.2.2.2.2.2.length = 0
 ·have eb : List.any c.2.2.2.2.2.2 (rowN (5, c)) = false := by rw [List.length_eq_zero_iff.mp hr]; rfl
  rw [eb]
  exact rig_fin (by simp [-List.length_eq_zero_iff, withinD, listB1, hr] <;> omega)
 ·generalize List.any c.2.2.2.2.2.2 (rowN (5, c)) = b
  exact rig_fin (by simp [-List.length_eq_zero_iff, withinD, listB1] <;> omega)
theorem h1_6_114 : has1 (shapeS 6) ⟨#[114]⟩ = false := by decide +kernel
theorem h1_6_86 : has1 (shapeS 6) ⟨#[86]⟩ = false := by decide +kernel
theorem h1_6_87 : has1 (shapeS 6) ⟨#[87]⟩ = false := by decide +kernel
theorem h1_6_99 : has1 (shapeS 6) ⟨#[99]⟩ = false := by decide +kernel
theorem h1_6_100 : has1 (shapeS 6) ⟨#[100]⟩ = false := by decide +kernel
theorem h1_6_101 : has1 (shapeS 6) ⟨#[101]⟩ = false := by decide +kernel
theorem h1_6_107 : has1 (shapeS 6) ⟨#[107]⟩ = false := by decide +kernel
theorem h2_6_118 : cnt1 (shapeS 6) ⟨#[118]⟩ = 3 := by decide +kernel
theorem h2_6_119 : cnt1 (shapeS 6) ⟨#[119]⟩ = 0 := by decide +kernel
theorem h2_6_45 : cnt1 (shapeS 6) ⟨#[45]⟩ = 0 := by decide +kernel
theorem h3_6_107 : hasB ⟨#[118, 118, 118]⟩ 107 = 0 := by decide +kernel
theorem h3_6_118 : hasB ⟨#[118, 118, 118]⟩ 118 = 3 := by decide +kernel
theorem h3_6_86 : hasB ⟨#[118, 118, 118]⟩ 86 = 0 := by decide +kernel
theorem h3_6_119 : hasB ⟨#[118, 118, 118]⟩ 119 = 0 := by decide +kernel
theorem h3_6_87 : hasB ⟨#[118, 118, 118]⟩ 87 = 0 := by decide +kernel
theorem h3_6_99 : hasB ⟨#[118, 118, 118]⟩ 99 = 0 := by decide +kernel
theorem h3_6_100 : hasB ⟨#[118, 118, 118]⟩ 100 = 0 := by decide +kernel
theorem h3_6_101 : hasB ⟨#[118, 118, 118]⟩ 101 = 0 := by decide +kernel
theorem h3_6_114 : hasB ⟨#[118, 118, 118]⟩ 114 = 0 := by decide +kernel
theorem cnt_k6 (c : RestG) : countedG (6, c) (shapeS 6) = (decide ((c.2.2.2.2.2.2.length : Int) = 0) && (decide ((c.1.length : Int) = 3) && (decide ((c.2.1.length : Int) = 0) && (decide ((c.2.2.1.length : Int) = 0) && (decide ((c.2.2.2.1.length : Int) = 0) && decide ((c.2.2.2.2.1.length : Int) = 0)))))) := by
 have e : decide ((6 : Int) = 12) = false := rfl
 simp only [countedG, namedD, e, h1_6_114, h1_6_86, h1_6_87, h1_6_99, h1_6_100, h1_6_101, h2_6_118, h2_6_119, h2_6_45, cond_true, cond_false]
theorem ari_k6 (c : RestG) : arityG (6, c) ⟨#[118, 118, 118]⟩ = (decide (c.2.2.2.2.2.1 = 0) && (listB1 (c.1.length : Int) 3 0 && (listB1 (c.2.1.length : Int) 0 0 && (listB1 (c.2.2.1.length : Int) 0 0 && (listB1 (c.2.2.2.1.length : Int) 0 0 && (listB1 (c.2.2.2.2.1.length : Int) 0 0 && (!(decide ((c.2.2.2.2.2.2.length : Int) > 0)) && (!(List.any c.2.2.2.2.2.2 (rowN (6, c))))))))))) := by
 unfold arityG
 rw [h3_6_107, h3_6_118, h3_6_86, h3_6_119, h3_6_87, h3_6_99, h3_6_100, h3_6_101, h3_6_114]
 simp only [decide_true, decide_false, Bool.and_true, Bool.true_and, Bool.false_and, Bool.or_false, Bool.false_or, Bool.or_true, Bool.true_or, Bool.not_true, Bool.not_false, Bool.not_not, Bool.not_or, cond_true, cond_false, Bool.and_assoc, Int.reduceEq, Int.reduceGT, Int.reduceLE, Int.reduceGE, Int.reduceLT]
theorem rig_k6 (c : RestG) : (countedG (6, c) (shapeS 6) && alikeG (6, c) && (decide (c.2.2.2.2.2.1 = 0) || has1 (shapeS 6) ⟨#[107]⟩)) = arityG (6, c) ⟨#[118, 118, 118]⟩ := by
 rw [cnt_k6, ari_k6, h1_6_107]
 have al : alikeG (6, c) = (true) := rfl
 rw [al]
 by_cases hr : c.2.2.2.2.2.2.length = 0
 ·have eb : List.any c.2.2.2.2.2.2 (rowN (6, c)) = false := by rw [List.length_eq_zero_iff.mp hr]; rfl
  rw [eb]
  exact rig_fin (by simp [-List.length_eq_zero_iff, withinD, listB1, hr] <;> omega)
 ·generalize List.any c.2.2.2.2.2.2 (rowN (6, c)) = b
  exact rig_fin (by simp [-List.length_eq_zero_iff, withinD, listB1] <;> omega)
theorem h1_7_114 : has1 (shapeS 7) ⟨#[114]⟩ = false := by decide +kernel
theorem h1_7_86 : has1 (shapeS 7) ⟨#[86]⟩ = false := by decide +kernel
theorem h1_7_87 : has1 (shapeS 7) ⟨#[87]⟩ = false := by decide +kernel
theorem h1_7_99 : has1 (shapeS 7) ⟨#[99]⟩ = false := by decide +kernel
theorem h1_7_100 : has1 (shapeS 7) ⟨#[100]⟩ = false := by decide +kernel
theorem h1_7_101 : has1 (shapeS 7) ⟨#[101]⟩ = false := by decide +kernel
theorem h1_7_107 : has1 (shapeS 7) ⟨#[107]⟩ = false := by decide +kernel
theorem h2_7_118 : cnt1 (shapeS 7) ⟨#[118]⟩ = 3 := by decide +kernel
theorem h2_7_119 : cnt1 (shapeS 7) ⟨#[119]⟩ = 0 := by decide +kernel
theorem h2_7_45 : cnt1 (shapeS 7) ⟨#[45]⟩ = 0 := by decide +kernel
theorem h3_7_107 : hasB ⟨#[118, 118, 118]⟩ 107 = 0 := by decide +kernel
theorem h3_7_118 : hasB ⟨#[118, 118, 118]⟩ 118 = 3 := by decide +kernel
theorem h3_7_86 : hasB ⟨#[118, 118, 118]⟩ 86 = 0 := by decide +kernel
theorem h3_7_119 : hasB ⟨#[118, 118, 118]⟩ 119 = 0 := by decide +kernel
theorem h3_7_87 : hasB ⟨#[118, 118, 118]⟩ 87 = 0 := by decide +kernel
theorem h3_7_99 : hasB ⟨#[118, 118, 118]⟩ 99 = 0 := by decide +kernel
theorem h3_7_100 : hasB ⟨#[118, 118, 118]⟩ 100 = 0 := by decide +kernel
theorem h3_7_101 : hasB ⟨#[118, 118, 118]⟩ 101 = 0 := by decide +kernel
theorem h3_7_114 : hasB ⟨#[118, 118, 118]⟩ 114 = 0 := by decide +kernel
theorem cnt_k7 (c : RestG) : countedG (7, c) (shapeS 7) = (decide ((c.2.2.2.2.2.2.length : Int) = 0) && (decide ((c.1.length : Int) = 3) && (decide ((c.2.1.length : Int) = 0) && (decide ((c.2.2.1.length : Int) = 0) && (decide ((c.2.2.2.1.length : Int) = 0) && decide ((c.2.2.2.2.1.length : Int) = 0)))))) := by
 have e : decide ((7 : Int) = 12) = false := rfl
 simp only [countedG, namedD, e, h1_7_114, h1_7_86, h1_7_87, h1_7_99, h1_7_100, h1_7_101, h2_7_118, h2_7_119, h2_7_45, cond_true, cond_false]
theorem ari_k7 (c : RestG) : arityG (7, c) ⟨#[118, 118, 118]⟩ = (decide (c.2.2.2.2.2.1 = 0) && (listB1 (c.1.length : Int) 3 0 && (listB1 (c.2.1.length : Int) 0 0 && (listB1 (c.2.2.1.length : Int) 0 0 && (listB1 (c.2.2.2.1.length : Int) 0 0 && (listB1 (c.2.2.2.2.1.length : Int) 0 0 && (!(decide ((c.2.2.2.2.2.2.length : Int) > 0)) && (!(List.any c.2.2.2.2.2.2 (rowN (7, c))))))))))) := by
 unfold arityG
 rw [h3_7_107, h3_7_118, h3_7_86, h3_7_119, h3_7_87, h3_7_99, h3_7_100, h3_7_101, h3_7_114]
 simp only [decide_true, decide_false, Bool.and_true, Bool.true_and, Bool.false_and, Bool.or_false, Bool.false_or, Bool.or_true, Bool.true_or, Bool.not_true, Bool.not_false, Bool.not_not, Bool.not_or, cond_true, cond_false, Bool.and_assoc, Int.reduceEq, Int.reduceGT, Int.reduceLE, Int.reduceGE, Int.reduceLT]
theorem rig_k7 (c : RestG) : (countedG (7, c) (shapeS 7) && alikeG (7, c) && (decide (c.2.2.2.2.2.1 = 0) || has1 (shapeS 7) ⟨#[107]⟩)) = arityG (7, c) ⟨#[118, 118, 118]⟩ := by
 rw [cnt_k7, ari_k7, h1_7_107]
 have al : alikeG (7, c) = (true) := rfl
 rw [al]
 by_cases hr : c.2.2.2.2.2.2.length = 0
 ·have eb : List.any c.2.2.2.2.2.2 (rowN (7, c)) = false := by rw [List.length_eq_zero_iff.mp hr]; rfl
  rw [eb]
  exact rig_fin (by simp [-List.length_eq_zero_iff, withinD, listB1, hr] <;> omega)
 ·generalize List.any c.2.2.2.2.2.2 (rowN (7, c)) = b
  exact rig_fin (by simp [-List.length_eq_zero_iff, withinD, listB1] <;> omega)
theorem h1_8_114 : has1 (shapeS 8) ⟨#[114]⟩ = false := by decide +kernel
theorem h1_8_86 : has1 (shapeS 8) ⟨#[86]⟩ = false := by decide +kernel
theorem h1_8_87 : has1 (shapeS 8) ⟨#[87]⟩ = false := by decide +kernel
theorem h1_8_99 : has1 (shapeS 8) ⟨#[99]⟩ = false := by decide +kernel
theorem h1_8_100 : has1 (shapeS 8) ⟨#[100]⟩ = false := by decide +kernel
theorem h1_8_101 : has1 (shapeS 8) ⟨#[101]⟩ = false := by decide +kernel
theorem h1_8_107 : has1 (shapeS 8) ⟨#[107]⟩ = false := by decide +kernel
theorem h2_8_118 : cnt1 (shapeS 8) ⟨#[118]⟩ = 2 := by decide +kernel
theorem h2_8_119 : cnt1 (shapeS 8) ⟨#[119]⟩ = 0 := by decide +kernel
theorem h2_8_45 : cnt1 (shapeS 8) ⟨#[45]⟩ = 0 := by decide +kernel
theorem h3_8_107 : hasB ⟨#[118, 118]⟩ 107 = 0 := by decide +kernel
theorem h3_8_118 : hasB ⟨#[118, 118]⟩ 118 = 2 := by decide +kernel
theorem h3_8_86 : hasB ⟨#[118, 118]⟩ 86 = 0 := by decide +kernel
theorem h3_8_119 : hasB ⟨#[118, 118]⟩ 119 = 0 := by decide +kernel
theorem h3_8_87 : hasB ⟨#[118, 118]⟩ 87 = 0 := by decide +kernel
theorem h3_8_99 : hasB ⟨#[118, 118]⟩ 99 = 0 := by decide +kernel
theorem h3_8_100 : hasB ⟨#[118, 118]⟩ 100 = 0 := by decide +kernel
theorem h3_8_101 : hasB ⟨#[118, 118]⟩ 101 = 0 := by decide +kernel
theorem h3_8_114 : hasB ⟨#[118, 118]⟩ 114 = 0 := by decide +kernel
theorem cnt_k8 (c : RestG) : countedG (8, c) (shapeS 8) = (decide ((c.2.2.2.2.2.2.length : Int) = 0) && (decide ((c.1.length : Int) = 2) && (decide ((c.2.1.length : Int) = 0) && (decide ((c.2.2.1.length : Int) = 0) && (decide ((c.2.2.2.1.length : Int) = 0) && decide ((c.2.2.2.2.1.length : Int) = 0)))))) := by
 have e : decide ((8 : Int) = 12) = false := rfl
 simp only [countedG, namedD, e, h1_8_114, h1_8_86, h1_8_87, h1_8_99, h1_8_100, h1_8_101, h2_8_118, h2_8_119, h2_8_45, cond_true, cond_false]
theorem ari_k8 (c : RestG) : arityG (8, c) ⟨#[118, 118]⟩ = (decide (c.2.2.2.2.2.1 = 0) && (listB1 (c.1.length : Int) 2 0 && (listB1 (c.2.1.length : Int) 0 0 && (listB1 (c.2.2.1.length : Int) 0 0 && (listB1 (c.2.2.2.1.length : Int) 0 0 && (listB1 (c.2.2.2.2.1.length : Int) 0 0 && (!(decide ((c.2.2.2.2.2.2.length : Int) > 0)) && (!(List.any c.2.2.2.2.2.2 (rowN (8, c))))))))))) := by
 unfold arityG
 rw [h3_8_107, h3_8_118, h3_8_86, h3_8_119, h3_8_87, h3_8_99, h3_8_100, h3_8_101, h3_8_114]
 simp only [decide_true, decide_false, Bool.and_true, Bool.true_and, Bool.false_and, Bool.or_false, Bool.false_or, Bool.or_true, Bool.true_or, Bool.not_true, Bool.not_false, Bool.not_not, Bool.not_or, cond_true, cond_false, Bool.and_assoc, Int.reduceEq, Int.reduceGT, Int.reduceLE, Int.reduceGE, Int.reduceLT]
theorem rig_k8 (c : RestG) : (countedG (8, c) (shapeS 8) && alikeG (8, c) && (decide (c.2.2.2.2.2.1 = 0) || has1 (shapeS 8) ⟨#[107]⟩)) = arityG (8, c) ⟨#[118, 118]⟩ := by
 rw [cnt_k8, ari_k8, h1_8_107]
 have al : alikeG (8, c) = (true) := rfl
 rw [al]
 by_cases hr : c.2.2.2.2.2.2.length = 0
 ·have eb : List.any c.2.2.2.2.2.2 (rowN (8, c)) = false := by rw [List.length_eq_zero_iff.mp hr]; rfl
  rw [eb]
  exact rig_fin (by simp [-List.length_eq_zero_iff, withinD, listB1, hr] <;> omega)
 ·generalize List.any c.2.2.2.2.2.2 (rowN (8, c)) = b
  exact rig_fin (by simp [-List.length_eq_zero_iff, withinD, listB1] <;> omega)
theorem h1_9_114 : has1 (shapeS 9) ⟨#[114]⟩ = false := by decide +kernel
theorem h1_9_86 : has1 (shapeS 9) ⟨#[86]⟩ = false := by decide +kernel
theorem h1_9_87 : has1 (shapeS 9) ⟨#[87]⟩ = false := by decide +kernel
theorem h1_9_99 : has1 (shapeS 9) ⟨#[99]⟩ = false := by decide +kernel
theorem h1_9_100 : has1 (shapeS 9) ⟨#[100]⟩ = false := by decide +kernel
theorem h1_9_101 : has1 (shapeS 9) ⟨#[101]⟩ = false := by decide +kernel
theorem h1_9_107 : has1 (shapeS 9) ⟨#[107]⟩ = false := by decide +kernel
theorem h2_9_118 : cnt1 (shapeS 9) ⟨#[118]⟩ = 3 := by decide +kernel
theorem h2_9_119 : cnt1 (shapeS 9) ⟨#[119]⟩ = 0 := by decide +kernel
theorem h2_9_45 : cnt1 (shapeS 9) ⟨#[45]⟩ = 0 := by decide +kernel
theorem h3_9_107 : hasB ⟨#[118, 118, 118]⟩ 107 = 0 := by decide +kernel
theorem h3_9_118 : hasB ⟨#[118, 118, 118]⟩ 118 = 3 := by decide +kernel
theorem h3_9_86 : hasB ⟨#[118, 118, 118]⟩ 86 = 0 := by decide +kernel
theorem h3_9_119 : hasB ⟨#[118, 118, 118]⟩ 119 = 0 := by decide +kernel
theorem h3_9_87 : hasB ⟨#[118, 118, 118]⟩ 87 = 0 := by decide +kernel
theorem h3_9_99 : hasB ⟨#[118, 118, 118]⟩ 99 = 0 := by decide +kernel
theorem h3_9_100 : hasB ⟨#[118, 118, 118]⟩ 100 = 0 := by decide +kernel
theorem h3_9_101 : hasB ⟨#[118, 118, 118]⟩ 101 = 0 := by decide +kernel
theorem h3_9_114 : hasB ⟨#[118, 118, 118]⟩ 114 = 0 := by decide +kernel
theorem cnt_k9 (c : RestG) : countedG (9, c) (shapeS 9) = (decide ((c.2.2.2.2.2.2.length : Int) = 0) && (decide ((c.1.length : Int) = 3) && (decide ((c.2.1.length : Int) = 0) && (decide ((c.2.2.1.length : Int) = 0) && (decide ((c.2.2.2.1.length : Int) = 0) && decide ((c.2.2.2.2.1.length : Int) = 0)))))) := by
 have e : decide ((9 : Int) = 12) = false := rfl
 simp only [countedG, namedD, e, h1_9_114, h1_9_86, h1_9_87, h1_9_99, h1_9_100, h1_9_101, h2_9_118, h2_9_119, h2_9_45, cond_true, cond_false]
theorem ari_k9 (c : RestG) : arityG (9, c) ⟨#[118, 118, 118]⟩ = (decide (c.2.2.2.2.2.1 = 0) && (listB1 (c.1.length : Int) 3 0 && (listB1 (c.2.1.length : Int) 0 0 && (listB1 (c.2.2.1.length : Int) 0 0 && (listB1 (c.2.2.2.1.length : Int) 0 0 && (listB1 (c.2.2.2.2.1.length : Int) 0 0 && (!(decide ((c.2.2.2.2.2.2.length : Int) > 0)) && (!(List.any c.2.2.2.2.2.2 (rowN (9, c))))))))))) := by
 unfold arityG
 rw [h3_9_107, h3_9_118, h3_9_86, h3_9_119, h3_9_87, h3_9_99, h3_9_100, h3_9_101, h3_9_114]
 simp only [decide_true, decide_false, Bool.and_true, Bool.true_and, Bool.false_and, Bool.or_false, Bool.false_or, Bool.or_true, Bool.true_or, Bool.not_true, Bool.not_false, Bool.not_not, Bool.not_or, cond_true, cond_false, Bool.and_assoc, Int.reduceEq, Int.reduceGT, Int.reduceLE, Int.reduceGE, Int.reduceLT]
theorem rig_k9 (c : RestG) : (countedG (9, c) (shapeS 9) && alikeG (9, c) && (decide (c.2.2.2.2.2.1 = 0) || has1 (shapeS 9) ⟨#[107]⟩)) = arityG (9, c) ⟨#[118, 118, 118]⟩ := by
 rw [cnt_k9, ari_k9, h1_9_107]
 have al : alikeG (9, c) = (true) := rfl
 rw [al]
 by_cases hr : c.2.2.2.2.2.2.length = 0
 ·have eb : List.any c.2.2.2.2.2.2 (rowN (9, c)) = false := by rw [List.length_eq_zero_iff.mp hr]; rfl
  rw [eb]
  exact rig_fin (by simp [-List.length_eq_zero_iff, withinD, listB1, hr] <;> omega)
 ·generalize List.any c.2.2.2.2.2.2 (rowN (9, c)) = b
  exact rig_fin (by simp [-List.length_eq_zero_iff, withinD, listB1] <;> omega)
theorem h1_10_114 : has1 (shapeS 10) ⟨#[114]⟩ = false := by decide +kernel
theorem h1_10_86 : has1 (shapeS 10) ⟨#[86]⟩ = false := by decide +kernel
theorem h1_10_87 : has1 (shapeS 10) ⟨#[87]⟩ = false := by decide +kernel
theorem h1_10_99 : has1 (shapeS 10) ⟨#[99]⟩ = false := by decide +kernel
theorem h1_10_100 : has1 (shapeS 10) ⟨#[100]⟩ = false := by decide +kernel
theorem h1_10_101 : has1 (shapeS 10) ⟨#[101]⟩ = false := by decide +kernel
theorem h1_10_107 : has1 (shapeS 10) ⟨#[107]⟩ = false := by decide +kernel
theorem h2_10_118 : cnt1 (shapeS 10) ⟨#[118]⟩ = 3 := by decide +kernel
theorem h2_10_119 : cnt1 (shapeS 10) ⟨#[119]⟩ = 0 := by decide +kernel
theorem h2_10_45 : cnt1 (shapeS 10) ⟨#[45]⟩ = 0 := by decide +kernel
theorem h3_10_107 : hasB ⟨#[118, 118, 118]⟩ 107 = 0 := by decide +kernel
theorem h3_10_118 : hasB ⟨#[118, 118, 118]⟩ 118 = 3 := by decide +kernel
theorem h3_10_86 : hasB ⟨#[118, 118, 118]⟩ 86 = 0 := by decide +kernel
theorem h3_10_119 : hasB ⟨#[118, 118, 118]⟩ 119 = 0 := by decide +kernel
theorem h3_10_87 : hasB ⟨#[118, 118, 118]⟩ 87 = 0 := by decide +kernel
theorem h3_10_99 : hasB ⟨#[118, 118, 118]⟩ 99 = 0 := by decide +kernel
theorem h3_10_100 : hasB ⟨#[118, 118, 118]⟩ 100 = 0 := by decide +kernel
theorem h3_10_101 : hasB ⟨#[118, 118, 118]⟩ 101 = 0 := by decide +kernel
theorem h3_10_114 : hasB ⟨#[118, 118, 118]⟩ 114 = 0 := by decide +kernel
theorem cnt_k10 (c : RestG) : countedG (10, c) (shapeS 10) = (decide ((c.2.2.2.2.2.2.length : Int) = 0) && (decide ((c.1.length : Int) = 3) && (decide ((c.2.1.length : Int) = 0) && (decide ((c.2.2.1.length : Int) = 0) && (decide ((c.2.2.2.1.length : Int) = 0) && decide ((c.2.2.2.2.1.length : Int) = 0)))))) := by
 have e : decide ((10 : Int) = 12) = false := rfl
 simp only [countedG, namedD, e, h1_10_114, h1_10_86, h1_10_87, h1_10_99, h1_10_100, h1_10_101, h2_10_118, h2_10_119, h2_10_45, cond_true, cond_false]
theorem ari_k10 (c : RestG) : arityG (10, c) ⟨#[118, 118, 118]⟩ = (decide (c.2.2.2.2.2.1 = 0) && (listB1 (c.1.length : Int) 3 0 && (listB1 (c.2.1.length : Int) 0 0 && (listB1 (c.2.2.1.length : Int) 0 0 && (listB1 (c.2.2.2.1.length : Int) 0 0 && (listB1 (c.2.2.2.2.1.length : Int) 0 0 && (!(decide ((c.2.2.2.2.2.2.length : Int) > 0)) && (!(List.any c.2.2.2.2.2.2 (rowN (10, c))))))))))) := by
 unfold arityG
 rw [h3_10_107, h3_10_118, h3_10_86, h3_10_119, h3_10_87, h3_10_99, h3_10_100, h3_10_101, h3_10_114]
 simp only [decide_true, decide_false, Bool.and_true, Bool.true_and, Bool.false_and, Bool.or_false, Bool.false_or, Bool.or_true, Bool.true_or, Bool.not_true, Bool.not_false, Bool.not_not, Bool.not_or, cond_true, cond_false, Bool.and_assoc, Int.reduceEq, Int.reduceGT, Int.reduceLE, Int.reduceGE, Int.reduceLT]
theorem rig_k10 (c : RestG) : (countedG (10, c) (shapeS 10) && alikeG (10, c) && (decide (c.2.2.2.2.2.1 = 0) || has1 (shapeS 10) ⟨#[107]⟩)) = arityG (10, c) ⟨#[118, 118, 118]⟩ := by
 rw [cnt_k10, ari_k10, h1_10_107]
 have al : alikeG (10, c) = (true) := rfl
 rw [al]
 by_cases hr : c.2.2.2.2.2.2.length = 0
 ·have eb : List.any c.2.2.2.2.2.2 (rowN (10, c)) = false := by rw [List.length_eq_zero_iff.mp hr]; rfl
  rw [eb]
  exact rig_fin (by simp [-List.length_eq_zero_iff, withinD, listB1, hr] <;> omega)
 ·generalize List.any c.2.2.2.2.2.2 (rowN (10, c)) = b
  exact rig_fin (by simp [-List.length_eq_zero_iff, withinD, listB1] <;> omega)
theorem h1_11_114 : has1 (shapeS 11) ⟨#[114]⟩ = false := by decide +kernel
theorem h1_11_86 : has1 (shapeS 11) ⟨#[86]⟩ = false := by decide +kernel
theorem h1_11_87 : has1 (shapeS 11) ⟨#[87]⟩ = false := by decide +kernel
theorem h1_11_99 : has1 (shapeS 11) ⟨#[99]⟩ = true := by decide +kernel
theorem h1_11_100 : has1 (shapeS 11) ⟨#[100]⟩ = false := by decide +kernel
theorem h1_11_101 : has1 (shapeS 11) ⟨#[101]⟩ = false := by decide +kernel
theorem h1_11_107 : has1 (shapeS 11) ⟨#[107]⟩ = false := by decide +kernel
theorem h2_11_118 : cnt1 (shapeS 11) ⟨#[118]⟩ = 2 := by decide +kernel
theorem h2_11_119 : cnt1 (shapeS 11) ⟨#[119]⟩ = 0 := by decide +kernel
theorem h2_11_45 : cnt1 (shapeS 11) ⟨#[45]⟩ = 0 := by decide +kernel
theorem h3_11_107 : hasB ⟨#[118, 99, 118]⟩ 107 = 0 := by decide +kernel
theorem h3_11_118 : hasB ⟨#[118, 99, 118]⟩ 118 = 2 := by decide +kernel
theorem h3_11_86 : hasB ⟨#[118, 99, 118]⟩ 86 = 0 := by decide +kernel
theorem h3_11_119 : hasB ⟨#[118, 99, 118]⟩ 119 = 0 := by decide +kernel
theorem h3_11_87 : hasB ⟨#[118, 99, 118]⟩ 87 = 0 := by decide +kernel
theorem h3_11_99 : hasB ⟨#[118, 99, 118]⟩ 99 = 1 := by decide +kernel
theorem h3_11_100 : hasB ⟨#[118, 99, 118]⟩ 100 = 0 := by decide +kernel
theorem h3_11_101 : hasB ⟨#[118, 99, 118]⟩ 101 = 0 := by decide +kernel
theorem h3_11_114 : hasB ⟨#[118, 99, 118]⟩ 114 = 0 := by decide +kernel
theorem cnt_k11 (c : RestG) : countedG (11, c) (shapeS 11) = (decide ((c.2.2.2.2.2.2.length : Int) = 0) && (decide ((c.1.length : Int) = 2) && (decide ((c.2.1.length : Int) = 0) && (withinD (c.2.2.1.length : Int) 1 64 && (decide ((c.2.2.2.1.length : Int) = 0) && decide ((c.2.2.2.2.1.length : Int) = 0)))))) := by
 have e : decide ((11 : Int) = 12) = false := rfl
 simp only [countedG, namedD, e, h1_11_114, h1_11_86, h1_11_87, h1_11_99, h1_11_100, h1_11_101, h2_11_118, h2_11_119, h2_11_45, cond_true, cond_false]
theorem ari_k11 (c : RestG) : arityG (11, c) ⟨#[118, 99, 118]⟩ = (decide (c.2.2.2.2.2.1 = 0) && (listB1 (c.1.length : Int) 2 0 && (listB1 (c.2.1.length : Int) 0 0 && (listB1 (c.2.2.1.length : Int) 0 1 && (listB1 (c.2.2.2.1.length : Int) 0 0 && (listB1 (c.2.2.2.2.1.length : Int) 0 0 && (!(decide ((c.2.2.2.2.2.2.length : Int) > 0)) && (!(List.any c.2.2.2.2.2.2 (rowN (11, c))))))))))) := by
 unfold arityG
 rw [h3_11_107, h3_11_118, h3_11_86, h3_11_119, h3_11_87, h3_11_99, h3_11_100, h3_11_101, h3_11_114]
 simp only [decide_true, decide_false, Bool.and_true, Bool.true_and, Bool.false_and, Bool.or_false, Bool.false_or, Bool.or_true, Bool.true_or, Bool.not_true, Bool.not_false, Bool.not_not, Bool.not_or, cond_true, cond_false, Bool.and_assoc, Int.reduceEq, Int.reduceGT, Int.reduceLE, Int.reduceGE, Int.reduceLT]
theorem rig_k11 (c : RestG) : (countedG (11, c) (shapeS 11) && alikeG (11, c) && (decide (c.2.2.2.2.2.1 = 0) || has1 (shapeS 11) ⟨#[107]⟩)) = arityG (11, c) ⟨#[118, 99, 118]⟩ := by
 rw [cnt_k11, ari_k11, h1_11_107]
 have al : alikeG (11, c) = (true) := rfl
 rw [al]
 by_cases hr : c.2.2.2.2.2.2.length = 0
 ·have eb : List.any c.2.2.2.2.2.2 (rowN (11, c)) = false := by rw [List.length_eq_zero_iff.mp hr]; rfl
  rw [eb]
  exact rig_fin (by simp [-List.length_eq_zero_iff, withinD, listB1, hr] <;> omega)
 ·generalize List.any c.2.2.2.2.2.2 (rowN (11, c)) = b
  exact rig_fin (by simp [-List.length_eq_zero_iff, withinD, listB1] <;> omega)
theorem h1_12_107 : has1 (shapeS 12) ⟨#[107]⟩ = false := by decide +kernel
theorem h3_12_107 : hasB ⟨#[86, 87]⟩ 107 = 0 := by decide +kernel
theorem cnt_k12 (c : RestG) : countedG (12, c) (shapeS 12) = (withinD ((c.1.length : Int) + (c.2.1.length : Int)) 1 128 && (decide ((c.1.length : Int) ≤ 64) && decide ((c.2.1.length : Int) ≤ 64)) && decide ((c.2.2.1.length : Int) + (c.2.2.2.1.length : Int) + (c.2.2.2.2.1.length : Int) + (c.2.2.2.2.2.2.length : Int) = 0)) := rfl
theorem ari_k12 (c : RestG) : arityG (12, c) ⟨#[86, 87]⟩ = (decide (c.2.2.2.2.2.1 = 0) && (decide ((c.1.length : Int) + (c.2.1.length : Int) ≥ 1) && (decide ((c.1.length : Int) ≤ 64) && (decide ((c.2.1.length : Int) ≤ 64) && (decide ((c.2.2.1.length : Int) = 0) && (decide ((c.2.2.2.1.length : Int) = 0) && (decide ((c.2.2.2.2.1.length : Int) = 0) && decide ((c.2.2.2.2.2.2.length : Int) = 0)))))))) := by
 unfold arityG
 rw [h3_12_107]
 simp only [decide_true, decide_false, Bool.and_true, Bool.true_and, Bool.false_and, Bool.or_false, Bool.false_or, Bool.or_true, Bool.true_or, Bool.not_true, Bool.not_false, Bool.not_not, Bool.not_or, cond_true, cond_false, Bool.and_assoc, Int.reduceEq, Int.reduceGT, Int.reduceLE, Int.reduceGE, Int.reduceLT]
theorem rig_k12 (c : RestG) : (countedG (12, c) (shapeS 12) && alikeG (12, c) && (decide (c.2.2.2.2.2.1 = 0) || has1 (shapeS 12) ⟨#[107]⟩)) = arityG (12, c) ⟨#[86, 87]⟩ := by
 rw [cnt_k12, ari_k12, h1_12_107]
 have al : alikeG (12, c) = (true) := rfl
 rw [al]
 exact rig_fin (by simp [-List.length_eq_zero_iff, withinD, listB1] <;> omega)
theorem h1_13_114 : has1 (shapeS 13) ⟨#[114]⟩ = false := by decide +kernel
theorem h1_13_86 : has1 (shapeS 13) ⟨#[86]⟩ = false := by decide +kernel
theorem h1_13_87 : has1 (shapeS 13) ⟨#[87]⟩ = false := by decide +kernel
theorem h1_13_99 : has1 (shapeS 13) ⟨#[99]⟩ = false := by decide +kernel
theorem h1_13_100 : has1 (shapeS 13) ⟨#[100]⟩ = false := by decide +kernel
theorem h1_13_101 : has1 (shapeS 13) ⟨#[101]⟩ = false := by decide +kernel
theorem h1_13_107 : has1 (shapeS 13) ⟨#[107]⟩ = true := by decide +kernel
theorem h2_13_118 : cnt1 (shapeS 13) ⟨#[118]⟩ = 1 := by decide +kernel
theorem h2_13_119 : cnt1 (shapeS 13) ⟨#[119]⟩ = 1 := by decide +kernel
theorem h2_13_45 : cnt1 (shapeS 13) ⟨#[45]⟩ = 0 := by decide +kernel
theorem h3_13_107 : hasB ⟨#[118, 107, 119]⟩ 107 = 1 := by decide +kernel
theorem h3_13_118 : hasB ⟨#[118, 107, 119]⟩ 118 = 1 := by decide +kernel
theorem h3_13_86 : hasB ⟨#[118, 107, 119]⟩ 86 = 0 := by decide +kernel
theorem h3_13_119 : hasB ⟨#[118, 107, 119]⟩ 119 = 1 := by decide +kernel
theorem h3_13_87 : hasB ⟨#[118, 107, 119]⟩ 87 = 0 := by decide +kernel
theorem h3_13_99 : hasB ⟨#[118, 107, 119]⟩ 99 = 0 := by decide +kernel
theorem h3_13_100 : hasB ⟨#[118, 107, 119]⟩ 100 = 0 := by decide +kernel
theorem h3_13_101 : hasB ⟨#[118, 107, 119]⟩ 101 = 0 := by decide +kernel
theorem h3_13_114 : hasB ⟨#[118, 107, 119]⟩ 114 = 0 := by decide +kernel
theorem cnt_k13 (c : RestG) : countedG (13, c) (shapeS 13) = (decide ((c.2.2.2.2.2.2.length : Int) = 0) && (decide ((c.1.length : Int) = 1) && (decide ((c.2.1.length : Int) = 1) && (decide ((c.2.2.1.length : Int) = 0) && (decide ((c.2.2.2.1.length : Int) = 0) && decide ((c.2.2.2.2.1.length : Int) = 0)))))) := by
 have e : decide ((13 : Int) = 12) = false := rfl
 simp only [countedG, namedD, e, h1_13_114, h1_13_86, h1_13_87, h1_13_99, h1_13_100, h1_13_101, h2_13_118, h2_13_119, h2_13_45, cond_true, cond_false]
theorem ari_k13 (c : RestG) : arityG (13, c) ⟨#[118, 107, 119]⟩ = ((listB1 (c.1.length : Int) 1 0 && (listB1 (c.2.1.length : Int) 1 0 && (listB1 (c.2.2.1.length : Int) 0 0 && (listB1 (c.2.2.2.1.length : Int) 0 0 && (listB1 (c.2.2.2.2.1.length : Int) 0 0 && (!(decide ((c.2.2.2.2.2.2.length : Int) > 0)) && (!(List.any c.2.2.2.2.2.2 (rowN (13, c))))))))))) := by
 unfold arityG
 rw [h3_13_107, h3_13_118, h3_13_86, h3_13_119, h3_13_87, h3_13_99, h3_13_100, h3_13_101, h3_13_114]
 simp only [decide_true, decide_false, Bool.and_true, Bool.true_and, Bool.false_and, Bool.or_false, Bool.false_or, Bool.or_true, Bool.true_or, Bool.not_true, Bool.not_false, Bool.not_not, Bool.not_or, cond_true, cond_false, Bool.and_assoc, Int.reduceEq, Int.reduceGT, Int.reduceLE, Int.reduceGE, Int.reduceLT]
theorem rig_k13 (c : RestG) : (countedG (13, c) (shapeS 13) && alikeG (13, c) && (decide (c.2.2.2.2.2.1 = 0) || has1 (shapeS 13) ⟨#[107]⟩)) = arityG (13, c) ⟨#[118, 107, 119]⟩ := by
 rw [cnt_k13, ari_k13, h1_13_107]
 have al : alikeG (13, c) = (true) := rfl
 rw [al]
 by_cases hr : c.2.2.2.2.2.2.length = 0
 ·have eb : List.any c.2.2.2.2.2.2 (rowN (13, c)) = false := by rw [List.length_eq_zero_iff.mp hr]; rfl
  rw [eb]
  exact rig_fin (by simp [-List.length_eq_zero_iff, withinD, listB1, hr] <;> omega)
 ·generalize List.any c.2.2.2.2.2.2 (rowN (13, c)) = b
  exact rig_fin (by simp [-List.length_eq_zero_iff, withinD, listB1] <;> omega)
theorem h1_14_114 : has1 (shapeS 14) ⟨#[114]⟩ = false := by decide +kernel
theorem h1_14_86 : has1 (shapeS 14) ⟨#[86]⟩ = false := by decide +kernel
theorem h1_14_87 : has1 (shapeS 14) ⟨#[87]⟩ = false := by decide +kernel
theorem h1_14_99 : has1 (shapeS 14) ⟨#[99]⟩ = false := by decide +kernel
theorem h1_14_100 : has1 (shapeS 14) ⟨#[100]⟩ = false := by decide +kernel
theorem h1_14_101 : has1 (shapeS 14) ⟨#[101]⟩ = false := by decide +kernel
theorem h1_14_107 : has1 (shapeS 14) ⟨#[107]⟩ = true := by decide +kernel
theorem h2_14_118 : cnt1 (shapeS 14) ⟨#[118]⟩ = 1 := by decide +kernel
theorem h2_14_119 : cnt1 (shapeS 14) ⟨#[119]⟩ = 1 := by decide +kernel
theorem h2_14_45 : cnt1 (shapeS 14) ⟨#[45]⟩ = 0 := by decide +kernel
theorem h3_14_107 : hasB ⟨#[118, 107, 119]⟩ 107 = 1 := by decide +kernel
theorem h3_14_118 : hasB ⟨#[118, 107, 119]⟩ 118 = 1 := by decide +kernel
theorem h3_14_86 : hasB ⟨#[118, 107, 119]⟩ 86 = 0 := by decide +kernel
theorem h3_14_119 : hasB ⟨#[118, 107, 119]⟩ 119 = 1 := by decide +kernel
theorem h3_14_87 : hasB ⟨#[118, 107, 119]⟩ 87 = 0 := by decide +kernel
theorem h3_14_99 : hasB ⟨#[118, 107, 119]⟩ 99 = 0 := by decide +kernel
theorem h3_14_100 : hasB ⟨#[118, 107, 119]⟩ 100 = 0 := by decide +kernel
theorem h3_14_101 : hasB ⟨#[118, 107, 119]⟩ 101 = 0 := by decide +kernel
theorem h3_14_114 : hasB ⟨#[118, 107, 119]⟩ 114 = 0 := by decide +kernel
theorem cnt_k14 (c : RestG) : countedG (14, c) (shapeS 14) = (decide ((c.2.2.2.2.2.2.length : Int) = 0) && (decide ((c.1.length : Int) = 1) && (decide ((c.2.1.length : Int) = 1) && (decide ((c.2.2.1.length : Int) = 0) && (decide ((c.2.2.2.1.length : Int) = 0) && decide ((c.2.2.2.2.1.length : Int) = 0)))))) := by
 have e : decide ((14 : Int) = 12) = false := rfl
 simp only [countedG, namedD, e, h1_14_114, h1_14_86, h1_14_87, h1_14_99, h1_14_100, h1_14_101, h2_14_118, h2_14_119, h2_14_45, cond_true, cond_false]
theorem ari_k14 (c : RestG) : arityG (14, c) ⟨#[118, 107, 119]⟩ = ((listB1 (c.1.length : Int) 1 0 && (listB1 (c.2.1.length : Int) 1 0 && (listB1 (c.2.2.1.length : Int) 0 0 && (listB1 (c.2.2.2.1.length : Int) 0 0 && (listB1 (c.2.2.2.2.1.length : Int) 0 0 && (!(decide ((c.2.2.2.2.2.2.length : Int) > 0)) && (!(List.any c.2.2.2.2.2.2 (rowN (14, c))))))))))) := by
 unfold arityG
 rw [h3_14_107, h3_14_118, h3_14_86, h3_14_119, h3_14_87, h3_14_99, h3_14_100, h3_14_101, h3_14_114]
 simp only [decide_true, decide_false, Bool.and_true, Bool.true_and, Bool.false_and, Bool.or_false, Bool.false_or, Bool.or_true, Bool.true_or, Bool.not_true, Bool.not_false, Bool.not_not, Bool.not_or, cond_true, cond_false, Bool.and_assoc, Int.reduceEq, Int.reduceGT, Int.reduceLE, Int.reduceGE, Int.reduceLT]
theorem rig_k14 (c : RestG) : (countedG (14, c) (shapeS 14) && alikeG (14, c) && (decide (c.2.2.2.2.2.1 = 0) || has1 (shapeS 14) ⟨#[107]⟩)) = arityG (14, c) ⟨#[118, 107, 119]⟩ := by
 rw [cnt_k14, ari_k14, h1_14_107]
 have al : alikeG (14, c) = (true) := rfl
 rw [al]
 by_cases hr : c.2.2.2.2.2.2.length = 0
 ·have eb : List.any c.2.2.2.2.2.2 (rowN (14, c)) = false := by rw [List.length_eq_zero_iff.mp hr]; rfl
  rw [eb]
  exact rig_fin (by simp [-List.length_eq_zero_iff, withinD, listB1, hr] <;> omega)
 ·generalize List.any c.2.2.2.2.2.2 (rowN (14, c)) = b
  exact rig_fin (by simp [-List.length_eq_zero_iff, withinD, listB1] <;> omega)
theorem h1_15_114 : has1 (shapeS 15) ⟨#[114]⟩ = false := by decide +kernel
theorem h1_15_86 : has1 (shapeS 15) ⟨#[86]⟩ = false := by decide +kernel
theorem h1_15_87 : has1 (shapeS 15) ⟨#[87]⟩ = false := by decide +kernel
theorem h1_15_99 : has1 (shapeS 15) ⟨#[99]⟩ = false := by decide +kernel
theorem h1_15_100 : has1 (shapeS 15) ⟨#[100]⟩ = false := by decide +kernel
theorem h1_15_101 : has1 (shapeS 15) ⟨#[101]⟩ = false := by decide +kernel
theorem h1_15_107 : has1 (shapeS 15) ⟨#[107]⟩ = true := by decide +kernel
theorem h2_15_118 : cnt1 (shapeS 15) ⟨#[118]⟩ = 1 := by decide +kernel
theorem h2_15_119 : cnt1 (shapeS 15) ⟨#[119]⟩ = 1 := by decide +kernel
theorem h2_15_45 : cnt1 (shapeS 15) ⟨#[45]⟩ = 0 := by decide +kernel
theorem h3_15_107 : hasB ⟨#[118, 107, 119]⟩ 107 = 1 := by decide +kernel
theorem h3_15_118 : hasB ⟨#[118, 107, 119]⟩ 118 = 1 := by decide +kernel
theorem h3_15_86 : hasB ⟨#[118, 107, 119]⟩ 86 = 0 := by decide +kernel
theorem h3_15_119 : hasB ⟨#[118, 107, 119]⟩ 119 = 1 := by decide +kernel
theorem h3_15_87 : hasB ⟨#[118, 107, 119]⟩ 87 = 0 := by decide +kernel
theorem h3_15_99 : hasB ⟨#[118, 107, 119]⟩ 99 = 0 := by decide +kernel
theorem h3_15_100 : hasB ⟨#[118, 107, 119]⟩ 100 = 0 := by decide +kernel
theorem h3_15_101 : hasB ⟨#[118, 107, 119]⟩ 101 = 0 := by decide +kernel
theorem h3_15_114 : hasB ⟨#[118, 107, 119]⟩ 114 = 0 := by decide +kernel
theorem cnt_k15 (c : RestG) : countedG (15, c) (shapeS 15) = (decide ((c.2.2.2.2.2.2.length : Int) = 0) && (decide ((c.1.length : Int) = 1) && (decide ((c.2.1.length : Int) = 1) && (decide ((c.2.2.1.length : Int) = 0) && (decide ((c.2.2.2.1.length : Int) = 0) && decide ((c.2.2.2.2.1.length : Int) = 0)))))) := by
 have e : decide ((15 : Int) = 12) = false := rfl
 simp only [countedG, namedD, e, h1_15_114, h1_15_86, h1_15_87, h1_15_99, h1_15_100, h1_15_101, h2_15_118, h2_15_119, h2_15_45, cond_true, cond_false]
theorem ari_k15 (c : RestG) : arityG (15, c) ⟨#[118, 107, 119]⟩ = ((listB1 (c.1.length : Int) 1 0 && (listB1 (c.2.1.length : Int) 1 0 && (listB1 (c.2.2.1.length : Int) 0 0 && (listB1 (c.2.2.2.1.length : Int) 0 0 && (listB1 (c.2.2.2.2.1.length : Int) 0 0 && (!(decide ((c.2.2.2.2.2.2.length : Int) > 0)) && (!(List.any c.2.2.2.2.2.2 (rowN (15, c))))))))))) := by
 unfold arityG
 rw [h3_15_107, h3_15_118, h3_15_86, h3_15_119, h3_15_87, h3_15_99, h3_15_100, h3_15_101, h3_15_114]
 simp only [decide_true, decide_false, Bool.and_true, Bool.true_and, Bool.false_and, Bool.or_false, Bool.false_or, Bool.or_true, Bool.true_or, Bool.not_true, Bool.not_false, Bool.not_not, Bool.not_or, cond_true, cond_false, Bool.and_assoc, Int.reduceEq, Int.reduceGT, Int.reduceLE, Int.reduceGE, Int.reduceLT]
theorem rig_k15 (c : RestG) : (countedG (15, c) (shapeS 15) && alikeG (15, c) && (decide (c.2.2.2.2.2.1 = 0) || has1 (shapeS 15) ⟨#[107]⟩)) = arityG (15, c) ⟨#[118, 107, 119]⟩ := by
 rw [cnt_k15, ari_k15, h1_15_107]
 have al : alikeG (15, c) = (true) := rfl
 rw [al]
 by_cases hr : c.2.2.2.2.2.2.length = 0
 ·have eb : List.any c.2.2.2.2.2.2 (rowN (15, c)) = false := by rw [List.length_eq_zero_iff.mp hr]; rfl
  rw [eb]
  exact rig_fin (by simp [-List.length_eq_zero_iff, withinD, listB1, hr] <;> omega)
 ·generalize List.any c.2.2.2.2.2.2 (rowN (15, c)) = b
  exact rig_fin (by simp [-List.length_eq_zero_iff, withinD, listB1] <;> omega)
theorem h1_16_114 : has1 (shapeS 16) ⟨#[114]⟩ = false := by decide +kernel
theorem h1_16_86 : has1 (shapeS 16) ⟨#[86]⟩ = false := by decide +kernel
theorem h1_16_87 : has1 (shapeS 16) ⟨#[87]⟩ = false := by decide +kernel
theorem h1_16_99 : has1 (shapeS 16) ⟨#[99]⟩ = false := by decide +kernel
theorem h1_16_100 : has1 (shapeS 16) ⟨#[100]⟩ = false := by decide +kernel
theorem h1_16_101 : has1 (shapeS 16) ⟨#[101]⟩ = false := by decide +kernel
theorem h1_16_107 : has1 (shapeS 16) ⟨#[107]⟩ = true := by decide +kernel
theorem h2_16_118 : cnt1 (shapeS 16) ⟨#[118]⟩ = 1 := by decide +kernel
theorem h2_16_119 : cnt1 (shapeS 16) ⟨#[119]⟩ = 1 := by decide +kernel
theorem h2_16_45 : cnt1 (shapeS 16) ⟨#[45]⟩ = 0 := by decide +kernel
theorem h3_16_107 : hasB ⟨#[118, 107, 119]⟩ 107 = 1 := by decide +kernel
theorem h3_16_118 : hasB ⟨#[118, 107, 119]⟩ 118 = 1 := by decide +kernel
theorem h3_16_86 : hasB ⟨#[118, 107, 119]⟩ 86 = 0 := by decide +kernel
theorem h3_16_119 : hasB ⟨#[118, 107, 119]⟩ 119 = 1 := by decide +kernel
theorem h3_16_87 : hasB ⟨#[118, 107, 119]⟩ 87 = 0 := by decide +kernel
theorem h3_16_99 : hasB ⟨#[118, 107, 119]⟩ 99 = 0 := by decide +kernel
theorem h3_16_100 : hasB ⟨#[118, 107, 119]⟩ 100 = 0 := by decide +kernel
theorem h3_16_101 : hasB ⟨#[118, 107, 119]⟩ 101 = 0 := by decide +kernel
theorem h3_16_114 : hasB ⟨#[118, 107, 119]⟩ 114 = 0 := by decide +kernel
theorem cnt_k16 (c : RestG) : countedG (16, c) (shapeS 16) = (decide ((c.2.2.2.2.2.2.length : Int) = 0) && (decide ((c.1.length : Int) = 1) && (decide ((c.2.1.length : Int) = 1) && (decide ((c.2.2.1.length : Int) = 0) && (decide ((c.2.2.2.1.length : Int) = 0) && decide ((c.2.2.2.2.1.length : Int) = 0)))))) := by
 have e : decide ((16 : Int) = 12) = false := rfl
 simp only [countedG, namedD, e, h1_16_114, h1_16_86, h1_16_87, h1_16_99, h1_16_100, h1_16_101, h2_16_118, h2_16_119, h2_16_45, cond_true, cond_false]
theorem ari_k16 (c : RestG) : arityG (16, c) ⟨#[118, 107, 119]⟩ = ((listB1 (c.1.length : Int) 1 0 && (listB1 (c.2.1.length : Int) 1 0 && (listB1 (c.2.2.1.length : Int) 0 0 && (listB1 (c.2.2.2.1.length : Int) 0 0 && (listB1 (c.2.2.2.2.1.length : Int) 0 0 && (!(decide ((c.2.2.2.2.2.2.length : Int) > 0)) && (!(List.any c.2.2.2.2.2.2 (rowN (16, c))))))))))) := by
 unfold arityG
 rw [h3_16_107, h3_16_118, h3_16_86, h3_16_119, h3_16_87, h3_16_99, h3_16_100, h3_16_101, h3_16_114]
 simp only [decide_true, decide_false, Bool.and_true, Bool.true_and, Bool.false_and, Bool.or_false, Bool.false_or, Bool.or_true, Bool.true_or, Bool.not_true, Bool.not_false, Bool.not_not, Bool.not_or, cond_true, cond_false, Bool.and_assoc, Int.reduceEq, Int.reduceGT, Int.reduceLE, Int.reduceGE, Int.reduceLT]
theorem rig_k16 (c : RestG) : (countedG (16, c) (shapeS 16) && alikeG (16, c) && (decide (c.2.2.2.2.2.1 = 0) || has1 (shapeS 16) ⟨#[107]⟩)) = arityG (16, c) ⟨#[118, 107, 119]⟩ := by
 rw [cnt_k16, ari_k16, h1_16_107]
 have al : alikeG (16, c) = (true) := rfl
 rw [al]
 by_cases hr : c.2.2.2.2.2.2.length = 0
 ·have eb : List.any c.2.2.2.2.2.2 (rowN (16, c)) = false := by rw [List.length_eq_zero_iff.mp hr]; rfl
  rw [eb]
  exact rig_fin (by simp [-List.length_eq_zero_iff, withinD, listB1, hr] <;> omega)
 ·generalize List.any c.2.2.2.2.2.2 (rowN (16, c)) = b
  exact rig_fin (by simp [-List.length_eq_zero_iff, withinD, listB1] <;> omega)
theorem h1_17_114 : has1 (shapeS 17) ⟨#[114]⟩ = false := by decide +kernel
theorem h1_17_86 : has1 (shapeS 17) ⟨#[86]⟩ = true := by decide +kernel
theorem h1_17_87 : has1 (shapeS 17) ⟨#[87]⟩ = false := by decide +kernel
theorem h1_17_99 : has1 (shapeS 17) ⟨#[99]⟩ = false := by decide +kernel
theorem h1_17_100 : has1 (shapeS 17) ⟨#[100]⟩ = false := by decide +kernel
theorem h1_17_101 : has1 (shapeS 17) ⟨#[101]⟩ = false := by decide +kernel
theorem h1_17_107 : has1 (shapeS 17) ⟨#[107]⟩ = false := by decide +kernel
theorem h2_17_118 : cnt1 (shapeS 17) ⟨#[118]⟩ = 0 := by decide +kernel
theorem h2_17_119 : cnt1 (shapeS 17) ⟨#[119]⟩ = 0 := by decide +kernel
theorem h2_17_45 : cnt1 (shapeS 17) ⟨#[45]⟩ = 0 := by decide +kernel
theorem h3_17_107 : hasB ⟨#[86]⟩ 107 = 0 := by decide +kernel
theorem h3_17_118 : hasB ⟨#[86]⟩ 118 = 0 := by decide +kernel
theorem h3_17_86 : hasB ⟨#[86]⟩ 86 = 1 := by decide +kernel
theorem h3_17_119 : hasB ⟨#[86]⟩ 119 = 0 := by decide +kernel
theorem h3_17_87 : hasB ⟨#[86]⟩ 87 = 0 := by decide +kernel
theorem h3_17_99 : hasB ⟨#[86]⟩ 99 = 0 := by decide +kernel
theorem h3_17_100 : hasB ⟨#[86]⟩ 100 = 0 := by decide +kernel
theorem h3_17_101 : hasB ⟨#[86]⟩ 101 = 0 := by decide +kernel
theorem h3_17_114 : hasB ⟨#[86]⟩ 114 = 0 := by decide +kernel
theorem cnt_k17 (c : RestG) : countedG (17, c) (shapeS 17) = (decide ((c.2.2.2.2.2.2.length : Int) = 0) && (withinD (c.1.length : Int) 1 64 && (decide ((c.2.1.length : Int) = 0) && (decide ((c.2.2.1.length : Int) = 0) && (decide ((c.2.2.2.1.length : Int) = 0) && decide ((c.2.2.2.2.1.length : Int) = 0)))))) := by
 have e : decide ((17 : Int) = 12) = false := rfl
 simp only [countedG, namedD, e, h1_17_114, h1_17_86, h1_17_87, h1_17_99, h1_17_100, h1_17_101, h2_17_118, h2_17_119, h2_17_45, cond_true, cond_false]
theorem ari_k17 (c : RestG) : arityG (17, c) ⟨#[86]⟩ = (decide (c.2.2.2.2.2.1 = 0) && (listB1 (c.1.length : Int) 0 1 && (listB1 (c.2.1.length : Int) 0 0 && (listB1 (c.2.2.1.length : Int) 0 0 && (listB1 (c.2.2.2.1.length : Int) 0 0 && (listB1 (c.2.2.2.2.1.length : Int) 0 0 && (!(decide ((c.2.2.2.2.2.2.length : Int) > 0)) && (!(List.any c.2.2.2.2.2.2 (rowN (17, c))))))))))) := by
 unfold arityG
 rw [h3_17_107, h3_17_118, h3_17_86, h3_17_119, h3_17_87, h3_17_99, h3_17_100, h3_17_101, h3_17_114]
 simp only [decide_true, decide_false, Bool.and_true, Bool.true_and, Bool.false_and, Bool.or_false, Bool.false_or, Bool.or_true, Bool.true_or, Bool.not_true, Bool.not_false, Bool.not_not, Bool.not_or, cond_true, cond_false, Bool.and_assoc, Int.reduceEq, Int.reduceGT, Int.reduceLE, Int.reduceGE, Int.reduceLT]
theorem rig_k17 (c : RestG) : (countedG (17, c) (shapeS 17) && alikeG (17, c) && (decide (c.2.2.2.2.2.1 = 0) || has1 (shapeS 17) ⟨#[107]⟩)) = arityG (17, c) ⟨#[86]⟩ := by
 rw [cnt_k17, ari_k17, h1_17_107]
 have al : alikeG (17, c) = (true) := rfl
 rw [al]
 by_cases hr : c.2.2.2.2.2.2.length = 0
 ·have eb : List.any c.2.2.2.2.2.2 (rowN (17, c)) = false := by rw [List.length_eq_zero_iff.mp hr]; rfl
  rw [eb]
  exact rig_fin (by simp [-List.length_eq_zero_iff, withinD, listB1, hr] <;> omega)
 ·generalize List.any c.2.2.2.2.2.2 (rowN (17, c)) = b
  exact rig_fin (by simp [-List.length_eq_zero_iff, withinD, listB1] <;> omega)
theorem h1_18_114 : has1 (shapeS 18) ⟨#[114]⟩ = true := by decide +kernel
theorem h1_18_86 : has1 (shapeS 18) ⟨#[86]⟩ = true := by decide +kernel
theorem h1_18_87 : has1 (shapeS 18) ⟨#[87]⟩ = false := by decide +kernel
theorem h1_18_99 : has1 (shapeS 18) ⟨#[99]⟩ = false := by decide +kernel
theorem h1_18_100 : has1 (shapeS 18) ⟨#[100]⟩ = false := by decide +kernel
theorem h1_18_101 : has1 (shapeS 18) ⟨#[101]⟩ = false := by decide +kernel
theorem h1_18_107 : has1 (shapeS 18) ⟨#[107]⟩ = false := by decide +kernel
theorem h2_18_118 : cnt1 (shapeS 18) ⟨#[118]⟩ = 0 := by decide +kernel
theorem h2_18_119 : cnt1 (shapeS 18) ⟨#[119]⟩ = 0 := by decide +kernel
theorem h2_18_45 : cnt1 (shapeS 18) ⟨#[45]⟩ = 0 := by decide +kernel
theorem h3_18_107 : hasB ⟨#[86, 114]⟩ 107 = 0 := by decide +kernel
theorem h3_18_118 : hasB ⟨#[86, 114]⟩ 118 = 0 := by decide +kernel
theorem h3_18_86 : hasB ⟨#[86, 114]⟩ 86 = 1 := by decide +kernel
theorem h3_18_119 : hasB ⟨#[86, 114]⟩ 119 = 0 := by decide +kernel
theorem h3_18_87 : hasB ⟨#[86, 114]⟩ 87 = 0 := by decide +kernel
theorem h3_18_99 : hasB ⟨#[86, 114]⟩ 99 = 0 := by decide +kernel
theorem h3_18_100 : hasB ⟨#[86, 114]⟩ 100 = 0 := by decide +kernel
theorem h3_18_101 : hasB ⟨#[86, 114]⟩ 101 = 0 := by decide +kernel
theorem h3_18_114 : hasB ⟨#[86, 114]⟩ 114 = 1 := by decide +kernel
theorem cnt_k18 (c : RestG) : countedG (18, c) (shapeS 18) = (withinD (c.2.2.2.2.2.2.length : Int) 1 1024 && (withinD (c.1.length : Int) 1 64 && (decide ((c.2.1.length : Int) = 0) && (decide ((c.2.2.1.length : Int) = 0) && (decide ((c.2.2.2.1.length : Int) = 0) && decide ((c.2.2.2.2.1.length : Int) = 0)))))) := by
 have e : decide ((18 : Int) = 12) = false := rfl
 simp only [countedG, namedD, e, h1_18_114, h1_18_86, h1_18_87, h1_18_99, h1_18_100, h1_18_101, h2_18_118, h2_18_119, h2_18_45, cond_true, cond_false]
theorem ari_k18 (c : RestG) : arityG (18, c) ⟨#[86, 114]⟩ = (decide (c.2.2.2.2.2.1 = 0) && (listB1 (c.1.length : Int) 0 1 && (listB1 (c.2.1.length : Int) 0 0 && (listB1 (c.2.2.1.length : Int) 0 0 && (listB1 (c.2.2.2.1.length : Int) 0 0 && (listB1 (c.2.2.2.2.1.length : Int) 0 0 && (!(decide ((c.2.2.2.2.2.2.length : Int) < 1) || decide ((c.2.2.2.2.2.2.length : Int) > 1024)) && (!(List.any c.2.2.2.2.2.2 (rowN (18, c))))))))))) := by
 unfold arityG
 rw [h3_18_107, h3_18_118, h3_18_86, h3_18_119, h3_18_87, h3_18_99, h3_18_100, h3_18_101, h3_18_114]
 simp only [decide_true, decide_false, Bool.and_true, Bool.true_and, Bool.false_and, Bool.or_false, Bool.false_or, Bool.or_true, Bool.true_or, Bool.not_true, Bool.not_false, Bool.not_not, Bool.not_or, cond_true, cond_false, Bool.and_assoc, Int.reduceEq, Int.reduceGT, Int.reduceLE, Int.reduceGE, Int.reduceLT]
theorem rig_k18 (c : RestG) : (countedG (18, c) (shapeS 18) && alikeG (18, c) && (decide (c.2.2.2.2.2.1 = 0) || has1 (shapeS 18) ⟨#[107]⟩)) = arityG (18, c) ⟨#[86, 114]⟩ := by
 rw [cnt_k18, ari_k18, h1_18_107]
 have al : alikeG (18, c) = (!(List.any c.2.2.2.2.2.2 (rowN (18, c)))) := rfl
 rw [al]
 generalize List.any c.2.2.2.2.2.2 (rowN (18, c)) = b
 cases b <;> exact rig_fin (by simp [-List.length_eq_zero_iff, withinD, listB1] <;> omega)
theorem h1_19_114 : has1 (shapeS 19) ⟨#[114]⟩ = false := by decide +kernel
theorem h1_19_86 : has1 (shapeS 19) ⟨#[86]⟩ = true := by decide +kernel
theorem h1_19_87 : has1 (shapeS 19) ⟨#[87]⟩ = false := by decide +kernel
theorem h1_19_99 : has1 (shapeS 19) ⟨#[99]⟩ = true := by decide +kernel
theorem h1_19_100 : has1 (shapeS 19) ⟨#[100]⟩ = true := by decide +kernel
theorem h1_19_101 : has1 (shapeS 19) ⟨#[101]⟩ = false := by decide +kernel
theorem h1_19_107 : has1 (shapeS 19) ⟨#[107]⟩ = true := by decide +kernel
theorem h2_19_118 : cnt1 (shapeS 19) ⟨#[118]⟩ = 0 := by decide +kernel
theorem h2_19_119 : cnt1 (shapeS 19) ⟨#[119]⟩ = 0 := by decide +kernel
theorem h2_19_45 : cnt1 (shapeS 19) ⟨#[45]⟩ = 0 := by decide +kernel
theorem h3_19_107 : hasB ⟨#[86, 99, 100, 107]⟩ 107 = 1 := by decide +kernel
theorem h3_19_118 : hasB ⟨#[86, 99, 100, 107]⟩ 118 = 0 := by decide +kernel
theorem h3_19_86 : hasB ⟨#[86, 99, 100, 107]⟩ 86 = 1 := by decide +kernel
theorem h3_19_119 : hasB ⟨#[86, 99, 100, 107]⟩ 119 = 0 := by decide +kernel
theorem h3_19_87 : hasB ⟨#[86, 99, 100, 107]⟩ 87 = 0 := by decide +kernel
theorem h3_19_99 : hasB ⟨#[86, 99, 100, 107]⟩ 99 = 1 := by decide +kernel
theorem h3_19_100 : hasB ⟨#[86, 99, 100, 107]⟩ 100 = 1 := by decide +kernel
theorem h3_19_101 : hasB ⟨#[86, 99, 100, 107]⟩ 101 = 0 := by decide +kernel
theorem h3_19_114 : hasB ⟨#[86, 99, 100, 107]⟩ 114 = 0 := by decide +kernel
theorem cnt_k19 (c : RestG) : countedG (19, c) (shapeS 19) = (decide ((c.2.2.2.2.2.2.length : Int) = 0) && (withinD (c.1.length : Int) 1 64 && (decide ((c.2.1.length : Int) = 0) && (withinD (c.2.2.1.length : Int) 1 64 && (withinD (c.2.2.2.1.length : Int) 1 64 && decide ((c.2.2.2.2.1.length : Int) = 0)))))) := by
 have e : decide ((19 : Int) = 12) = false := rfl
 simp only [countedG, namedD, e, h1_19_114, h1_19_86, h1_19_87, h1_19_99, h1_19_100, h1_19_101, h2_19_118, h2_19_119, h2_19_45, cond_true, cond_false]
theorem ari_k19 (c : RestG) : arityG (19, c) ⟨#[86, 99, 100, 107]⟩ = ((listB1 (c.1.length : Int) 0 1 && (listB1 (c.2.1.length : Int) 0 0 && (listB1 (c.2.2.1.length : Int) 0 1 && (listB1 (c.2.2.2.1.length : Int) 0 1 && (listB1 (c.2.2.2.2.1.length : Int) 0 0 && (!(decide ((c.2.2.2.2.2.2.length : Int) > 0)) && (decide ((c.2.2.1.length : Int) = (c.1.length : Int)) && (decide ((c.2.2.2.1.length : Int) = (c.1.length : Int)) && (!(List.any c.2.2.2.2.2.2 (rowN (19, c))))))))))))) := by
 unfold arityG
 rw [h3_19_107, h3_19_118, h3_19_86, h3_19_119, h3_19_87, h3_19_99, h3_19_100, h3_19_101, h3_19_114]
 simp only [decide_true, decide_false, Bool.and_true, Bool.true_and, Bool.false_and, Bool.or_false, Bool.false_or, Bool.or_true, Bool.true_or, Bool.not_true, Bool.not_false, Bool.not_not, Bool.not_or, cond_true, cond_false, Bool.and_assoc, Int.reduceEq, Int.reduceGT, Int.reduceLE, Int.reduceGE, Int.reduceLT]
theorem rig_k19 (c : RestG) : (countedG (19, c) (shapeS 19) && alikeG (19, c) && (decide (c.2.2.2.2.2.1 = 0) || has1 (shapeS 19) ⟨#[107]⟩)) = arityG (19, c) ⟨#[86, 99, 100, 107]⟩ := by
 rw [cnt_k19, ari_k19, h1_19_107]
 have al : alikeG (19, c) = (decide ((c.2.2.1.length : Int) = (c.1.length : Int)) && decide ((c.2.2.2.1.length : Int) = (c.1.length : Int))) := rfl
 rw [al]
 by_cases hr : c.2.2.2.2.2.2.length = 0
 ·have eb : List.any c.2.2.2.2.2.2 (rowN (19, c)) = false := by rw [List.length_eq_zero_iff.mp hr]; rfl
  rw [eb]
  exact rig_fin (by simp [-List.length_eq_zero_iff, withinD, listB1, hr] <;> omega)
 ·generalize List.any c.2.2.2.2.2.2 (rowN (19, c)) = b
  exact rig_fin (by simp [-List.length_eq_zero_iff, withinD, listB1] <;> omega)
theorem h1_20_114 : has1 (shapeS 20) ⟨#[114]⟩ = false := by decide +kernel
theorem h1_20_86 : has1 (shapeS 20) ⟨#[86]⟩ = true := by decide +kernel
theorem h1_20_87 : has1 (shapeS 20) ⟨#[87]⟩ = false := by decide +kernel
theorem h1_20_99 : has1 (shapeS 20) ⟨#[99]⟩ = false := by decide +kernel
theorem h1_20_100 : has1 (shapeS 20) ⟨#[100]⟩ = false := by decide +kernel
theorem h1_20_101 : has1 (shapeS 20) ⟨#[101]⟩ = false := by decide +kernel
theorem h1_20_107 : has1 (shapeS 20) ⟨#[107]⟩ = false := by decide +kernel
theorem h2_20_118 : cnt1 (shapeS 20) ⟨#[118]⟩ = 0 := by decide +kernel
theorem h2_20_119 : cnt1 (shapeS 20) ⟨#[119]⟩ = 0 := by decide +kernel
theorem h2_20_45 : cnt1 (shapeS 20) ⟨#[45]⟩ = 0 := by decide +kernel
theorem h3_20_107 : hasB ⟨#[86]⟩ 107 = 0 := by decide +kernel
theorem h3_20_118 : hasB ⟨#[86]⟩ 118 = 0 := by decide +kernel
theorem h3_20_86 : hasB ⟨#[86]⟩ 86 = 1 := by decide +kernel
theorem h3_20_119 : hasB ⟨#[86]⟩ 119 = 0 := by decide +kernel
theorem h3_20_87 : hasB ⟨#[86]⟩ 87 = 0 := by decide +kernel
theorem h3_20_99 : hasB ⟨#[86]⟩ 99 = 0 := by decide +kernel
theorem h3_20_100 : hasB ⟨#[86]⟩ 100 = 0 := by decide +kernel
theorem h3_20_101 : hasB ⟨#[86]⟩ 101 = 0 := by decide +kernel
theorem h3_20_114 : hasB ⟨#[86]⟩ 114 = 0 := by decide +kernel
theorem cnt_k20 (c : RestG) : countedG (20, c) (shapeS 20) = (decide ((c.2.2.2.2.2.2.length : Int) = 0) && (withinD (c.1.length : Int) 1 64 && (decide ((c.2.1.length : Int) = 0) && (decide ((c.2.2.1.length : Int) = 0) && (decide ((c.2.2.2.1.length : Int) = 0) && decide ((c.2.2.2.2.1.length : Int) = 0)))))) := by
 have e : decide ((20 : Int) = 12) = false := rfl
 simp only [countedG, namedD, e, h1_20_114, h1_20_86, h1_20_87, h1_20_99, h1_20_100, h1_20_101, h2_20_118, h2_20_119, h2_20_45, cond_true, cond_false]
theorem ari_k20 (c : RestG) : arityG (20, c) ⟨#[86]⟩ = (decide (c.2.2.2.2.2.1 = 0) && (listB1 (c.1.length : Int) 0 1 && (listB1 (c.2.1.length : Int) 0 0 && (listB1 (c.2.2.1.length : Int) 0 0 && (listB1 (c.2.2.2.1.length : Int) 0 0 && (listB1 (c.2.2.2.2.1.length : Int) 0 0 && (!(decide ((c.2.2.2.2.2.2.length : Int) > 0)) && (!(List.any c.2.2.2.2.2.2 (rowN (20, c))))))))))) := by
 unfold arityG
 rw [h3_20_107, h3_20_118, h3_20_86, h3_20_119, h3_20_87, h3_20_99, h3_20_100, h3_20_101, h3_20_114]
 simp only [decide_true, decide_false, Bool.and_true, Bool.true_and, Bool.false_and, Bool.or_false, Bool.false_or, Bool.or_true, Bool.true_or, Bool.not_true, Bool.not_false, Bool.not_not, Bool.not_or, cond_true, cond_false, Bool.and_assoc, Int.reduceEq, Int.reduceGT, Int.reduceLE, Int.reduceGE, Int.reduceLT]
theorem rig_k20 (c : RestG) : (countedG (20, c) (shapeS 20) && alikeG (20, c) && (decide (c.2.2.2.2.2.1 = 0) || has1 (shapeS 20) ⟨#[107]⟩)) = arityG (20, c) ⟨#[86]⟩ := by
 rw [cnt_k20, ari_k20, h1_20_107]
 have al : alikeG (20, c) = (true) := rfl
 rw [al]
 by_cases hr : c.2.2.2.2.2.2.length = 0
 ·have eb : List.any c.2.2.2.2.2.2 (rowN (20, c)) = false := by rw [List.length_eq_zero_iff.mp hr]; rfl
  rw [eb]
  exact rig_fin (by simp [-List.length_eq_zero_iff, withinD, listB1, hr] <;> omega)
 ·generalize List.any c.2.2.2.2.2.2 (rowN (20, c)) = b
  exact rig_fin (by simp [-List.length_eq_zero_iff, withinD, listB1] <;> omega)
theorem h1_21_114 : has1 (shapeS 21) ⟨#[114]⟩ = false := by decide +kernel
theorem h1_21_86 : has1 (shapeS 21) ⟨#[86]⟩ = true := by decide +kernel
theorem h1_21_87 : has1 (shapeS 21) ⟨#[87]⟩ = false := by decide +kernel
theorem h1_21_99 : has1 (shapeS 21) ⟨#[99]⟩ = true := by decide +kernel
theorem h1_21_100 : has1 (shapeS 21) ⟨#[100]⟩ = true := by decide +kernel
theorem h1_21_101 : has1 (shapeS 21) ⟨#[101]⟩ = true := by decide +kernel
theorem h1_21_107 : has1 (shapeS 21) ⟨#[107]⟩ = false := by decide +kernel
theorem h2_21_118 : cnt1 (shapeS 21) ⟨#[118]⟩ = 0 := by decide +kernel
theorem h2_21_119 : cnt1 (shapeS 21) ⟨#[119]⟩ = 0 := by decide +kernel
theorem h2_21_45 : cnt1 (shapeS 21) ⟨#[45]⟩ = 0 := by decide +kernel
theorem h3_21_107 : hasB ⟨#[86, 99, 100, 101]⟩ 107 = 0 := by decide +kernel
theorem h3_21_118 : hasB ⟨#[86, 99, 100, 101]⟩ 118 = 0 := by decide +kernel
theorem h3_21_86 : hasB ⟨#[86, 99, 100, 101]⟩ 86 = 1 := by decide +kernel
theorem h3_21_119 : hasB ⟨#[86, 99, 100, 101]⟩ 119 = 0 := by decide +kernel
theorem h3_21_87 : hasB ⟨#[86, 99, 100, 101]⟩ 87 = 0 := by decide +kernel
theorem h3_21_99 : hasB ⟨#[86, 99, 100, 101]⟩ 99 = 1 := by decide +kernel
theorem h3_21_100 : hasB ⟨#[86, 99, 100, 101]⟩ 100 = 1 := by decide +kernel
theorem h3_21_101 : hasB ⟨#[86, 99, 100, 101]⟩ 101 = 1 := by decide +kernel
theorem h3_21_114 : hasB ⟨#[86, 99, 100, 101]⟩ 114 = 0 := by decide +kernel
theorem cnt_k21 (c : RestG) : countedG (21, c) (shapeS 21) = (decide ((c.2.2.2.2.2.2.length : Int) = 0) && (withinD (c.1.length : Int) 1 64 && (decide ((c.2.1.length : Int) = 0) && (withinD (c.2.2.1.length : Int) 1 64 && (withinD (c.2.2.2.1.length : Int) 1 64 && withinD (c.2.2.2.2.1.length : Int) 1 64))))) := by
 have e : decide ((21 : Int) = 12) = false := rfl
 simp only [countedG, namedD, e, h1_21_114, h1_21_86, h1_21_87, h1_21_99, h1_21_100, h1_21_101, h2_21_118, h2_21_119, h2_21_45, cond_true, cond_false]
theorem ari_k21 (c : RestG) : arityG (21, c) ⟨#[86, 99, 100, 101]⟩ = (decide (c.2.2.2.2.2.1 = 0) && (listB1 (c.1.length : Int) 0 1 && (listB1 (c.2.1.length : Int) 0 0 && (listB1 (c.2.2.1.length : Int) 0 1 && (listB1 (c.2.2.2.1.length : Int) 0 1 && (listB1 (c.2.2.2.2.1.length : Int) 0 1 && (!(decide ((c.2.2.2.2.2.2.length : Int) > 0)) && (decide ((c.2.2.2.1.length : Int) = (c.2.2.1.length : Int)) && (decide ((c.2.2.2.2.1.length : Int) = (c.2.2.1.length : Int)) && (!(List.any c.2.2.2.2.2.2 (rowN (21, c))))))))))))) := by
 unfold arityG
 rw [h3_21_107, h3_21_118, h3_21_86, h3_21_119, h3_21_87, h3_21_99, h3_21_100, h3_21_101, h3_21_114]
 simp only [decide_true, decide_false, Bool.and_true, Bool.true_and, Bool.false_and, Bool.or_false, Bool.false_or, Bool.or_true, Bool.true_or, Bool.not_true, Bool.not_false, Bool.not_not, Bool.not_or, cond_true, cond_false, Bool.and_assoc, Int.reduceEq, Int.reduceGT, Int.reduceLE, Int.reduceGE, Int.reduceLT]
theorem rig_k21 (c : RestG) : (countedG (21, c) (shapeS 21) && alikeG (21, c) && (decide (c.2.2.2.2.2.1 = 0) || has1 (shapeS 21) ⟨#[107]⟩)) = arityG (21, c) ⟨#[86, 99, 100, 101]⟩ := by
 rw [cnt_k21, ari_k21, h1_21_107]
 have al : alikeG (21, c) = (decide ((c.2.2.2.1.length : Int) = (c.2.2.1.length : Int)) && decide ((c.2.2.2.2.1.length : Int) = (c.2.2.1.length : Int))) := rfl
 rw [al]
 by_cases hr : c.2.2.2.2.2.2.length = 0
 ·have eb : List.any c.2.2.2.2.2.2 (rowN (21, c)) = false := by rw [List.length_eq_zero_iff.mp hr]; rfl
  rw [eb]
  exact rig_fin (by simp [-List.length_eq_zero_iff, withinD, listB1, hr] <;> omega)
 ·generalize List.any c.2.2.2.2.2.2 (rowN (21, c)) = b
  exact rig_fin (by simp [-List.length_eq_zero_iff, withinD, listB1] <;> omega)
theorem h1_22_114 : has1 (shapeS 22) ⟨#[114]⟩ = false := by decide +kernel
theorem h1_22_86 : has1 (shapeS 22) ⟨#[86]⟩ = true := by decide +kernel
theorem h1_22_87 : has1 (shapeS 22) ⟨#[87]⟩ = true := by decide +kernel
theorem h1_22_99 : has1 (shapeS 22) ⟨#[99]⟩ = false := by decide +kernel
theorem h1_22_100 : has1 (shapeS 22) ⟨#[100]⟩ = false := by decide +kernel
theorem h1_22_101 : has1 (shapeS 22) ⟨#[101]⟩ = false := by decide +kernel
theorem h1_22_107 : has1 (shapeS 22) ⟨#[107]⟩ = false := by decide +kernel
theorem h2_22_118 : cnt1 (shapeS 22) ⟨#[118]⟩ = 0 := by decide +kernel
theorem h2_22_119 : cnt1 (shapeS 22) ⟨#[119]⟩ = 0 := by decide +kernel
theorem h2_22_45 : cnt1 (shapeS 22) ⟨#[45]⟩ = 0 := by decide +kernel
theorem h3_22_107 : hasB ⟨#[86, 87]⟩ 107 = 0 := by decide +kernel
theorem h3_22_118 : hasB ⟨#[86, 87]⟩ 118 = 0 := by decide +kernel
theorem h3_22_86 : hasB ⟨#[86, 87]⟩ 86 = 1 := by decide +kernel
theorem h3_22_119 : hasB ⟨#[86, 87]⟩ 119 = 0 := by decide +kernel
theorem h3_22_87 : hasB ⟨#[86, 87]⟩ 87 = 1 := by decide +kernel
theorem h3_22_99 : hasB ⟨#[86, 87]⟩ 99 = 0 := by decide +kernel
theorem h3_22_100 : hasB ⟨#[86, 87]⟩ 100 = 0 := by decide +kernel
theorem h3_22_101 : hasB ⟨#[86, 87]⟩ 101 = 0 := by decide +kernel
theorem h3_22_114 : hasB ⟨#[86, 87]⟩ 114 = 0 := by decide +kernel
theorem cnt_k22 (c : RestG) : countedG (22, c) (shapeS 22) = (decide ((c.2.2.2.2.2.2.length : Int) = 0) && (withinD (c.1.length : Int) 1 64 && (withinD (c.2.1.length : Int) 1 64 && (decide ((c.2.2.1.length : Int) = 0) && (decide ((c.2.2.2.1.length : Int) = 0) && decide ((c.2.2.2.2.1.length : Int) = 0)))))) := by
 have e : decide ((22 : Int) = 12) = false := rfl
 simp only [countedG, namedD, e, h1_22_114, h1_22_86, h1_22_87, h1_22_99, h1_22_100, h1_22_101, h2_22_118, h2_22_119, h2_22_45, cond_true, cond_false]
theorem ari_k22 (c : RestG) : arityG (22, c) ⟨#[86, 87]⟩ = (decide (c.2.2.2.2.2.1 = 0) && (listB1 (c.1.length : Int) 0 1 && (listB1 (c.2.1.length : Int) 0 1 && (listB1 (c.2.2.1.length : Int) 0 0 && (listB1 (c.2.2.2.1.length : Int) 0 0 && (listB1 (c.2.2.2.2.1.length : Int) 0 0 && (!(decide ((c.2.2.2.2.2.2.length : Int) > 0)) && (decide ((c.2.1.length : Int) = (c.1.length : Int)) && (!(List.any c.2.2.2.2.2.2 (rowN (22, c)))))))))))) := by
 unfold arityG
 rw [h3_22_107, h3_22_118, h3_22_86, h3_22_119, h3_22_87, h3_22_99, h3_22_100, h3_22_101, h3_22_114]
 simp only [decide_true, decide_false, Bool.and_true, Bool.true_and, Bool.false_and, Bool.or_false, Bool.false_or, Bool.or_true, Bool.true_or, Bool.not_true, Bool.not_false, Bool.not_not, Bool.not_or, cond_true, cond_false, Bool.and_assoc, Int.reduceEq, Int.reduceGT, Int.reduceLE, Int.reduceGE, Int.reduceLT]
theorem rig_k22 (c : RestG) : (countedG (22, c) (shapeS 22) && alikeG (22, c) && (decide (c.2.2.2.2.2.1 = 0) || has1 (shapeS 22) ⟨#[107]⟩)) = arityG (22, c) ⟨#[86, 87]⟩ := by
 rw [cnt_k22, ari_k22, h1_22_107]
 have al : alikeG (22, c) = (decide ((c.2.1.length : Int) = (c.1.length : Int))) := rfl
 rw [al]
 by_cases hr : c.2.2.2.2.2.2.length = 0
 ·have eb : List.any c.2.2.2.2.2.2 (rowN (22, c)) = false := by rw [List.length_eq_zero_iff.mp hr]; rfl
  rw [eb]
  exact rig_fin (by simp [-List.length_eq_zero_iff, withinD, listB1, hr] <;> omega)
 ·generalize List.any c.2.2.2.2.2.2 (rowN (22, c)) = b
  exact rig_fin (by simp [-List.length_eq_zero_iff, withinD, listB1] <;> omega)
theorem h1_23_114 : has1 (shapeS 23) ⟨#[114]⟩ = false := by decide +kernel
theorem h1_23_86 : has1 (shapeS 23) ⟨#[86]⟩ = true := by decide +kernel
theorem h1_23_87 : has1 (shapeS 23) ⟨#[87]⟩ = true := by decide +kernel
theorem h1_23_99 : has1 (shapeS 23) ⟨#[99]⟩ = false := by decide +kernel
theorem h1_23_100 : has1 (shapeS 23) ⟨#[100]⟩ = false := by decide +kernel
theorem h1_23_101 : has1 (shapeS 23) ⟨#[101]⟩ = false := by decide +kernel
theorem h1_23_107 : has1 (shapeS 23) ⟨#[107]⟩ = false := by decide +kernel
theorem h2_23_118 : cnt1 (shapeS 23) ⟨#[118]⟩ = 0 := by decide +kernel
theorem h2_23_119 : cnt1 (shapeS 23) ⟨#[119]⟩ = 0 := by decide +kernel
theorem h2_23_45 : cnt1 (shapeS 23) ⟨#[45]⟩ = 0 := by decide +kernel
theorem h3_23_107 : hasB ⟨#[86, 87]⟩ 107 = 0 := by decide +kernel
theorem h3_23_118 : hasB ⟨#[86, 87]⟩ 118 = 0 := by decide +kernel
theorem h3_23_86 : hasB ⟨#[86, 87]⟩ 86 = 1 := by decide +kernel
theorem h3_23_119 : hasB ⟨#[86, 87]⟩ 119 = 0 := by decide +kernel
theorem h3_23_87 : hasB ⟨#[86, 87]⟩ 87 = 1 := by decide +kernel
theorem h3_23_99 : hasB ⟨#[86, 87]⟩ 99 = 0 := by decide +kernel
theorem h3_23_100 : hasB ⟨#[86, 87]⟩ 100 = 0 := by decide +kernel
theorem h3_23_101 : hasB ⟨#[86, 87]⟩ 101 = 0 := by decide +kernel
theorem h3_23_114 : hasB ⟨#[86, 87]⟩ 114 = 0 := by decide +kernel
theorem cnt_k23 (c : RestG) : countedG (23, c) (shapeS 23) = (decide ((c.2.2.2.2.2.2.length : Int) = 0) && (withinD (c.1.length : Int) 1 64 && (withinD (c.2.1.length : Int) 1 64 && (decide ((c.2.2.1.length : Int) = 0) && (decide ((c.2.2.2.1.length : Int) = 0) && decide ((c.2.2.2.2.1.length : Int) = 0)))))) := by
 have e : decide ((23 : Int) = 12) = false := rfl
 simp only [countedG, namedD, e, h1_23_114, h1_23_86, h1_23_87, h1_23_99, h1_23_100, h1_23_101, h2_23_118, h2_23_119, h2_23_45, cond_true, cond_false]
theorem ari_k23 (c : RestG) : arityG (23, c) ⟨#[86, 87]⟩ = (decide (c.2.2.2.2.2.1 = 0) && (listB1 (c.1.length : Int) 0 1 && (listB1 (c.2.1.length : Int) 0 1 && (listB1 (c.2.2.1.length : Int) 0 0 && (listB1 (c.2.2.2.1.length : Int) 0 0 && (listB1 (c.2.2.2.2.1.length : Int) 0 0 && (!(decide ((c.2.2.2.2.2.2.length : Int) > 0)) && (decide ((c.2.1.length : Int) = (c.1.length : Int)) && (!(List.any c.2.2.2.2.2.2 (rowN (23, c)))))))))))) := by
 unfold arityG
 rw [h3_23_107, h3_23_118, h3_23_86, h3_23_119, h3_23_87, h3_23_99, h3_23_100, h3_23_101, h3_23_114]
 simp only [decide_true, decide_false, Bool.and_true, Bool.true_and, Bool.false_and, Bool.or_false, Bool.false_or, Bool.or_true, Bool.true_or, Bool.not_true, Bool.not_false, Bool.not_not, Bool.not_or, cond_true, cond_false, Bool.and_assoc, Int.reduceEq, Int.reduceGT, Int.reduceLE, Int.reduceGE, Int.reduceLT]
theorem rig_k23 (c : RestG) : (countedG (23, c) (shapeS 23) && alikeG (23, c) && (decide (c.2.2.2.2.2.1 = 0) || has1 (shapeS 23) ⟨#[107]⟩)) = arityG (23, c) ⟨#[86, 87]⟩ := by
 rw [cnt_k23, ari_k23, h1_23_107]
 have al : alikeG (23, c) = (decide ((c.2.1.length : Int) = (c.1.length : Int))) := rfl
 rw [al]
 by_cases hr : c.2.2.2.2.2.2.length = 0
 ·have eb : List.any c.2.2.2.2.2.2 (rowN (23, c)) = false := by rw [List.length_eq_zero_iff.mp hr]; rfl
  rw [eb]
  exact rig_fin (by simp [-List.length_eq_zero_iff, withinD, listB1, hr] <;> omega)
 ·generalize List.any c.2.2.2.2.2.2 (rowN (23, c)) = b
  exact rig_fin (by simp [-List.length_eq_zero_iff, withinD, listB1] <;> omega)
end Go.Proofs.YtlfdikofmfhefaaGreatDoor.Ev
