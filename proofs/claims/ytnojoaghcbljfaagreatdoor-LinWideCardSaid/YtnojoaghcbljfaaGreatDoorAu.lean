/-
Seat 'a': lists: what the functions answer.
Conditions: lists are short, numbers those of domains.
Seat 'a': lists: what the functions answer: the second half.
Conditions: lists are short.
-/
import Derived.Test.YtnojoaghcbljfaaGreatDoorAe
import Derived.Test.YtnojoaghcbljfaaGreatDoorAg
import Derived.Test.YtnojoaghcbljfaaGreatDoorAi
set_option linter.unusedVariables false
set_option linter.unusedSimpArgs false
set_option maxRecDepth 100000
namespace Go.Proofs.YtnojoaghcbljfaaGreatDoor.Ev
open Go
theorem F87.sem (xs : List Int) (v : Int) (hl : xs.length ≤ maxLen) : callW F87.E false F87.fn (xs.length + 1) [.v (.sl (.int .i64)) xs, .v (.int .i64) v] = some (.v .bool (hasL xs v)) := by
 rw [F87.start_eq, search_loop (fun n i => F87.l1_0_1_0 n _ xs v i) xs 0 (fun x => decide (x = v)) (fun _ => (F87.kt (xs.length + 1) [1, 0, 1, 0]).ret ⟨slots 18 [(4, .v .bool true)], []⟩) _ hl (fun n i => F87.l1_0_1_0_eq n _ xs v i) _ 0 (by omega) (by omega) (by omega)]
 simp only [F87.c0, F87.c1]
 have e : (xs.drop (Int.toNat 0)) = xs := rfl
 rw [e]
 unfold hasL
 cases xs.any fun x => decide (x = v) <;> rfl
theorem lim8 {n : Nat} (h : n ≤ 1000000000) : n * 8 ≤ LIM := by unfold LIM; omega
theorem lim24 {n : Nat} (h : n ≤ 1000000000) : n * 24 ≤ LIM := by unfold LIM; omega
theorem lim56 {n : Nat} (h : n ≤ 1000000000) : n * 56 ≤ LIM := by unfold LIM; omega
theorem getD_in {α : Type} {xs : List α} {i : Int} {d : α} (h0 : 0 ≤ i) (h1 : i < xs.length) : xs.getD i.toNat d ∈ xs := by
 rw [List.getD_eq_getElem?_getD, List.getElem?_eq_getElem (by omega)]
 exact List.getElem_mem _
end Go.Proofs.YtnojoaghcbljfaaGreatDoor.Ev
set_option linter.unusedVariables false
set_option linter.unusedSimpArgs false
set_option maxRecDepth 100000
namespace Go.Proofs.YtnojoaghcbljfaaGreatDoor.Ev
open Go
theorem doms_loop {L : Nat → Int → List Dom → Option AV} {done : List Dom → Option AV} (l : List (List Int)) (hl : l.length ≤ 1000)
  (h : ∀ n i acc, L (n + 1) i acc = bif decide (i < (l.length : Int)) then (bif decide (0 ≤ i) && decide (i < (l.length : Int)) then (bif decide ((acc.length + [(ofD (l.getD i.toNat [])).1].length) * 56 ≤ LIM) then L n (IntKind.i64.wrap (i + 1)) (acc ++ [(ofD (l.getD i.toNat [])).1]) else none) else none) else done acc) :
  L 1001 0 [] = done (domsL l) := by
 have := range_loop L l [] (fun _ acc x => acc ++ [(ofD x).1]) done (fun i acc => acc.length ≤ i.toNat) (by
   intro n i acc hI h0 hi
   have lim : ∀ x : Dom, (acc.length + [x].length) * 56 ≤ LIM := fun x => lim56 (by simp; omega)
   refine ⟨?_, by simp; omega⟩
   rw [h, wrap_ok (by omega) (by omega)]
   simp only [h0, hi, lim, decide_true, Bool.and_true, cond_true]) (by
   intro n i acc hI hi
   rw [h]
   have : ¬ i < l.length := by omega
   simp only [this, decide_false, cond_false]) 1001 0 [] (by simp) (by omega) (by omega) (by omega)
 rw [this, goFold_map]
 rfl
theorem lists_loop {L : Nat → Int → List (List Int) → Option AV} {done : List (List Int) → Option AV} (l : List Dom) (hl : l.length ≤ 1000) (hb : l.all listB = true)
  (h : ∀ n i acc, L (n + 1) i acc = bif decide (i < (l.length : Int)) then (bif decide (0 ≤ i) && decide (i < (l.length : Int)) then (bif listB (l.getD i.toNat (0, [], 0, 0, 0)) then (bif decide ((acc.length + [listD (l.getD i.toNat (0, [], 0, 0, 0))].length) * 24 ≤ LIM) then L n (IntKind.i64.wrap (i + 1)) (acc ++ [listD (l.getD i.toNat (0, [], 0, 0, 0))]) else none) else none) else none) else done acc) :
  L 1001 0 [] = done (listsL l) := by
 have := range_loop L l (0, [], 0, 0, 0) (fun _ acc x => acc ++ [listD x]) done (fun i acc => acc.length ≤ i.toNat) (by
   intro n i acc hI h0 hi
   have lim : ∀ x : List Int, (acc.length + [x].length) * 24 ≤ LIM := fun x => lim24 (by simp; omega)
   have hx := List.all_eq_true.mp hb _ (getD_in (d := (0, [], 0, 0, 0)) h0 hi)
   refine ⟨?_, by simp; omega⟩
   rw [h, wrap_ok (by omega) (by omega)]
   simp only [h0, hi, lim, hx, decide_true, Bool.and_true, cond_true]) (by
   intro n i acc hI hi
   rw [h]
   have : ¬ i < l.length := by omega
   simp only [this, decide_false, cond_false]) 1001 0 [] (by simp) (by omega) (by omega) (by omega)
 rw [this, goFold_map]
 rfl
theorem zip_same {α : Type} [DecidableEq α] : ∀ (x y : List α), x.length = y.length → ((x.zip y).any fun p => !decide (p.1 = p.2)) = !decide (x = y)
 | [], [], h => by simp
 | [], _ :: _, h => by simp at h
 | _ :: _, [], h => by simp at h
 | a :: x, b :: y, h => by
  simp only [List.length_cons, Nat.add_right_cancel_iff] at h
  rw [List.zip_cons_cons, List.any_cons, zip_same x y h]
  by_cases h1 : a = b
  ·subst h1; simp
  ·simp [h1]
theorem zip_getD {α : Type} {x y : List α} {i : Int} {d : α} (h0 : 0 ≤ i) (h1 : i < x.length) (h2 : i < y.length) : (x.zip y).getD i.toNat (d, d) = (x.getD i.toNat d, y.getD i.toNat d) := by
 have hx : i.toNat < x.length := by omega
 have hy : i.toNat < y.length := by omega
 have hz : i.toNat < (x.zip y).length := by rw [List.length_zip]; omega
 simp only [List.getD_eq_getElem?_getD]
 rw [List.getElem?_eq_getElem hx, List.getElem?_eq_getElem hy, List.getElem?_eq_getElem hz, List.getElem_zip]
 rfl
theorem F22.inner (K : Conts) (a b : List (List Int)) (i : Int) (h0 : 0 ≤ i) (h1 : i < a.length) (h2 : i < b.length) (hl : (a.getD i.toNat []).length ≤ 1000000) (he : (a.getD i.toNat []).length = (b.getD i.toNat []).length) :
  ∀ n : Nat, (a.getD i.toNat []).length < n → F22.l1_1_0_1_0_0_1_0_0_1_1_0 n K a b i 0 = bif !decide (a.getD i.toNat [] = b.getD i.toNat []) then K.ret ⟨slots 53 [(4, .v .bool false)], []⟩ else
   exitK K 2 ⟨slots 53 [(0, .v (.sl (.sl (.int .i64))) a), (1, .v (.sl (.sl (.int .i64))) b), (5, .v (.int .i64) i)], []⟩ := by
 intro n hn
 have hz : ((a.getD i.toNat []).zip (b.getD i.toNat [])).length = (a.getD i.toNat []).length := by rw [List.length_zip]; omega
 have := search_loopN (fun n j => F22.l1_1_0_1_0_0_1_0_0_1_1_0 n K a b i j) ((a.getD i.toNat []).zip (b.getD i.toNat [])) (0, 0) (fun p => !decide (p.1 = p.2)) (fun _ => K.ret ⟨slots 53 [(4, .v .bool false)], []⟩)
  (exitK K 2 ⟨slots 53 [(0, .v (.sl (.sl (.int .i64))) a), (1, .v (.sl (.sl (.int .i64))) b), (5, .v (.int .i64) i)], []⟩) 0 (by
   intro n j _ hj0 hj1
   rw [hz] at hj1
   refine (F22.l1_1_0_1_0_0_1_0_0_1_1_0_eq n K a b i j).trans ?_
   have hj2 : j < (b.getD i.toNat []).length := by omega
   rw [wrap_ok (by omega) (by omega), zip_getD hj0 hj1 hj2]
   simp only [h0, h1, h2, hj0, hj1, hj2, decide_true, Bool.and_true, cond_true]) (by
   intro n j hj
   rw [hz] at hj
   refine (F22.l1_1_0_1_0_0_1_0_0_1_1_0_eq n K a b i j).trans ?_
   have : ¬ j < (a.getD i.toNat []).length := by omega
   simp only [h0, h1, this, decide_true, decide_false, Bool.and_true, cond_true, cond_false]) n 0 (by omega) (by omega) (by omega)
 refine (show _ = _ from this).trans ?_
 have e : ((a.getD i.toNat []).zip (b.getD i.toNat [])).drop (Int.toNat 0) = (a.getD i.toNat []).zip (b.getD i.toNat []) := rfl
 rw [e, zip_same _ _ he]
theorem F22.sem (a b : List (List Int)) (hl : a.length ≤ 1000) (hs : lensB a = true) : callW F22.E false F22.fn 1002100 [.v (.sl (.sl (.int .i64))) a, .v (.sl (.sl (.int .i64))) b] = some (.v .bool (sameL a b)) := by
 rw [F22.start_eq]
 unfold sameL
 by_cases he : a.length = b.length
 ·have he' : (a.length : Int) = b.length := by omega
  have hz : (a.zip b).length = a.length := by rw [List.length_zip]; omega
  simp only [he', decide_true, Bool.not_true, cond_false]
  have := search_loopN (fun n i => F22.l1_1_0_1_0 n (F22.kt 1002100 [1, 1, 0, 1, 0]) a b i) (a.zip b) ([], []) (fun p => !decide (p.1 = p.2)) (fun _ => (F22.kt 1002100 [1, 1, 0, 1, 0]).ret ⟨slots 53 [(4, .v .bool false)], []⟩)
   (exitK (F22.kt 1002100 [1, 1, 0, 1, 0]) 0 ⟨slots 53 [], []⟩) 1000001 (by
    intro n i hN h0 h1
    rw [hz] at h1
    have h2 : i < b.length := by omega
    refine (F22.l1_1_0_1_0_eq n _ a b i).trans ?_
    rw [zip_getD h0 h1 h2]
    have hx : (a.getD i.toNat []).length ≤ 1000000 := by
     unfold lensB at hs
     have := List.all_eq_true.mp hs _ (getD_in (d := []) h0 h1)
     rwa [Nat.ble_eq] at this
    simp only [h0, h1, h2, decide_true, Bool.and_true, cond_true]
    by_cases hc : (a.getD i.toNat []).length = (b.getD i.toNat []).length
    ·have hc' : ((a.getD i.toNat []).length : Int) = (b.getD i.toNat []).length := by omega
     simp only [hc', decide_true, Bool.not_true, cond_false]
     rw [F22.inner _ a b i h0 h1 h2 hx hc n (by omega), F22.c2, F22.c3, wrap_ok (by omega) (by omega)]
    ·have hc' : ¬ ((a.getD i.toNat []).length : Int) = (b.getD i.toNat []).length := by omega
     have hne : ¬ a.getD i.toNat [] = b.getD i.toNat [] := fun e => hc (by rw [e])
     simp only [hc', hne, decide_false, Bool.not_false, cond_true]) (by
    intro n i hi
    rw [hz] at hi
    refine (F22.l1_1_0_1_0_eq n _ a b i).trans ?_
    have : ¬ i < a.length := by omega
    simp only [this, decide_false, cond_false]) 1002100 0 (by omega) (by omega) (by omega)
  refine (show _ = _ from this).trans ?_
  have e : (a.zip b).drop (Int.toNat 0) = a.zip b := rfl
  rw [e, zip_same _ _ he, F22.c0, F22.c1]
  by_cases hab : a = b
  ·simp [hab]
  ·simp [hab]
 ·have he' : ¬ (a.length : Int) = b.length := by omega
  have hab : ¬ a = b := fun e => he (by rw [e])
  simp [he', hab]
end Go.Proofs.YtnojoaghcbljfaaGreatDoor.Ev
