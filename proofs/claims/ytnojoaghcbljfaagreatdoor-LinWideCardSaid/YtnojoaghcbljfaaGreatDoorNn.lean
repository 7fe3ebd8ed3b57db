/-
Linear constraints: what isn't a sum, what is reified: what is kept. Plain lists. The program's reified is the document's.
Conditions: none.
-/
import Derived.Test.YtnojoaghcbljfaaGreatDoorNm
set_option linter.unusedVariables false
set_option linter.unusedSimpArgs false
set_option maxRecDepth 100000
namespace Go.Proofs.YtnojoaghcbljfaaGreatDoor.Ev
open Go
structure LawL (F : List (List Int) → List (List Int) × Bool) (l : List (List Int)) (S : List Int → Prop) : Prop where
  keep : (F l).2 = true → ∀ r, InP r l → S r → InP r (F l).1
  no : (F l).2 = false → ∀ r, InP r l → ¬ S r
  len : (F l).2 = true → (F l).1.length = l.length
  sub : (F l).2 = true → ∀ i v, i < l.length → v ∈ (F l).1.getD i [] → v ∈ l.getD i []
  again : (F l).2 = true → F (F l).1 = ((F l).1, true)
  one : (F l).2 = true → One l → ∀ r, InP r l → S r
theorem some_rowN : ∀ {l : List (List Int)}, (∀ x ∈ l, x ≠ []) → ∃ r, InP r l
 | [], _ => ⟨[], .nil⟩
 | x :: l, h => by
  obtain ⟨r, hr⟩ := some_rowN fun y hy => h y (List.mem_cons_of_mem _ hy)
  obtain ⟨v, hv⟩ := List.exists_mem_of_ne_nil _ (h x List.mem_cons_self)
  exact ⟨v :: r, .cons hv hr⟩
theorem openR_zero : ∀ (C : List Int) (l : List (List Int)) (n at_ sum i : Int), (∀ x ∈ l, x.length ≤ 1) → (openR n at_ sum i C l).1 = n
 | [], l, n, at_, sum, i, _ => by cases l <;> rfl
 | _ :: _, [], n, at_, sum, i, _ => rfl
 | k :: ks, x :: xs, n, at_, sum, i, h => by
  have := h x List.mem_cons_self
  unfold openR
  rw [if_neg (by omega)]
  exact openR_zero ks xs n at_ _ (i + 1) fun y hy => h y (List.mem_cons_of_mem _ hy)
theorem openR_one : ∀ (C : List Int) (l : List (List Int)) (n at_ sum i : Int) (j : Nat), C.length = l.length → j < l.length → 1 < (l.getD j []).length → (∀ j', j' < l.length → j' ≠ j → (l.getD j' []).length ≤ 1) → (openR n at_ sum i C l).1 = n + 1
 | [], [], n, at_, sum, i, j, _, hj, _, _ => by simp at hj
 | [], _ :: _, _, _, _, _, _, h, _, _, _ => by simp at h
 | _ :: _, [], _, _, _, _, _, h, _, _, _ => by simp at h
 | k :: ks, x :: xs, n, at_, sum, i, 0, hl, hj, h1, h2 => by
  have h1 : 1 < x.length := h1
  unfold openR
  rw [if_pos (by omega)]
  refine openR_zero ks xs (n + 1) i sum (i + 1) fun y hy => ?_
  obtain ⟨j', a1, rfl⟩ := getD_of_mem hy []
  exact h2 (j' + 1) (by simpa using a1) (by omega)
 | k :: ks, x :: xs, n, at_, sum, i, j + 1, hl, hj, h1, h2 => by
  have h0 : x.length ≤ 1 := h2 0 (by simp) (by omega)
  unfold openR
  rw [if_neg (by omega)]
  exact openR_one ks xs n at_ _ (i + 1) j (by simpa using hl) (by simpa using hj) h1 fun j' a1 a2 => h2 (j' + 1) (by simpa using a1) (by omega)
theorem set_getD {l : List (List Int)} {j : Nat} (F : List Int) (i : Nat) (hi : i < l.length) : (l.set j F).getD i [] = if i = j then F else l.getD i [] := by
 rw [List.getD_eq_getElem?_getD, List.getElem?_set]
 by_cases e : j = i
 ·subst e
  rw [if_pos rfl, if_pos rfl, if_pos hi]
  rfl
 ·rw [if_neg e, if_neg (Ne.symm e), ← List.getD_eq_getElem?_getD]
theorem one_le {l : List (List Int)} (h : One l) : ∀ x ∈ l, x.length ≤ 1 := fun x hx => by have := h x hx; omega
theorem un_law {C : List Int} {K : Int} {l : List (List Int)} (hl : C.length = l.length) (hn : ∀ x ∈ l, x ≠ []) : LawL (fun l => unR C K l (openR 0 0 0 0 C l)) l (fun r => dot C r ≠ K) := by
 have O := openR_spec (C := C) (l := l) (n := 0) (at_ := 0) (sum := 0) (i := 0) hl hn
 have Z : One l → (openR 0 0 0 0 C l).1 = 0 := fun h => openR_zero C l 0 0 0 0 (one_le h)
 have mono := openR_mono C l 0 0 0 0
 generalize hq : openR 0 0 0 0 C l = q at O Z mono
 obtain ⟨n, at_, sum⟩ := q
 simp only at Z mono
 by_cases c1 : n > 1
 ·have e : unR C K l (openR 0 0 0 0 C l) = (l, true) := by
   rw [hq]
   unfold unR
   rw [if_pos c1]
  refine ⟨fun _ r hr _ => ?_, fun h => ?_, fun _ => ?_, fun _ i v hi hv => ?_, fun _ => ?_, fun _ h => absurd (Z h) (by omega)⟩
  ·show InP r (unR C K l (openR 0 0 0 0 C l)).1
   rw [e]; exact hr
  ·have h : (unR C K l (openR 0 0 0 0 C l)).2 = false := h
   rw [e] at h; cases h
  ·show (unR C K l (openR 0 0 0 0 C l)).1.length = _
   rw [e]
  ·have hv : v ∈ (unR C K l (openR 0 0 0 0 C l)).1.getD i [] := hv
   rw [e] at hv; exact hv
  ·show unR C K (unR C K l (openR 0 0 0 0 C l)).1 (openR 0 0 0 0 C (unR C K l (openR 0 0 0 0 C l)).1) = _
   rw [e]
   exact e
 ·by_cases c2 : n = 0
  ·subst c2
   obtain ⟨_, _, o3⟩ := O.none_ rfl
   have o3 : ∀ r, InP r l → sum = 0 + dot C r := o3
   have e : unR C K l (openR 0 0 0 0 C l) = (l, !(decide (sum = K))) := by
    rw [hq]
    unfold unR
    rw [if_neg (show ¬ ((0 : Int), at_, sum).1 > 1 by show ¬ (0 : Int) > 1; omega), if_pos (show ((0 : Int), at_, sum).1 = 0 from rfl)]
   refine ⟨fun _ r hr _ => ?_, fun h r hr hs => ?_, fun _ => ?_, fun _ i v hi hv => ?_, fun h => ?_, fun h _ r hr => ?_⟩
   ·show InP r (unR C K l (openR 0 0 0 0 C l)).1
    rw [e]; exact hr
   ·have h : (unR C K l (openR 0 0 0 0 C l)).2 = false := h
    rw [e] at h
    have := o3 r hr
    have h : (!(decide (sum = K))) = false := h
    have h : sum = K := by simpa using h
    omega
   ·show (unR C K l (openR 0 0 0 0 C l)).1.length = _
    rw [e]
   ·have hv : v ∈ (unR C K l (openR 0 0 0 0 C l)).1.getD i [] := hv
    rw [e] at hv; exact hv
   ·have h : (unR C K l (openR 0 0 0 0 C l)).2 = true := h
    show unR C K (unR C K l (openR 0 0 0 0 C l)).1 (openR 0 0 0 0 C (unR C K l (openR 0 0 0 0 C l)).1) = ((unR C K l (openR 0 0 0 0 C l)).1, true)
    rw [e] at h ⊢
    show unR C K l (openR 0 0 0 0 C l) = (l, true)
    rw [e]
    exact Prod.ext rfl h
   ·have h : (unR C K l (openR 0 0 0 0 C l)).2 = true := h
    rw [e] at h
    have h : (!(decide (sum = K))) = true := h
    have h : ¬ sum = K := by simpa using h
    have := o3 r hr
    omega
  ·have hn1 : n = 1 := by have mono : (0 : Int) ≤ n := mono; omega
   subst hn1
   obtain ⟨j, j1, j2, j3, j4, j5⟩ := O.one rfl
   have j2 : at_ = (j : Int) := by have j2 : at_ = 0 + (j : Int) := j2; omega
   have j5 : ∀ r, InP r l → sum + C.getD j 0 * r.getD j 0 = 0 + dot C r := j5
   have e := unR_one (C := C) (K := K) (sum := sum) j2 j1 hn
   generalize hF : (l.getD j []).filter (fun v => !(decide (sum + C.getD j 0 * v = K))) = F at e
   have mF : ∀ v, v ∈ F ↔ v ∈ l.getD j [] ∧ ¬ sum + C.getD j 0 * v = K := fun v => by
    rw [← hF, List.mem_filter]
    simp
   by_cases cF : F = []
   ·rw [if_pos cF] at e
    have e' : unR C K l (openR 0 0 0 0 C l) = ([], false) := by rw [hq]; exact e
    have no : ¬ (unR C K l (openR 0 0 0 0 C l)).2 = true := by rw [e']; decide
    refine ⟨fun h => absurd h no, fun _ r hr hs => ?_, fun h => absurd h no, fun h => absurd h no, fun h => absurd h no, fun h => absurd h no⟩
    have m : ¬ r.getD j 0 ∈ F := by rw [cF]; exact List.not_mem_nil
    rw [mF] at m
    have h1 : r.getD j 0 ∈ l.getD j [] := hr.getD (by rw [hr.len]; exact j1) 0 []
    have h2 : sum + C.getD j 0 * r.getD j 0 = K := Decidable.byContradiction fun h => m ⟨h1, h⟩
    have := j5 r hr
    omega
   ·rw [if_neg cF] at e
    have e' : unR C K l (openR 0 0 0 0 C l) = (l.set j F, true) := by rw [hq]; exact e
    have hlen : (l.set j F).length = l.length := by simp
    have sub : ∀ i v, i < l.length → v ∈ (l.set j F).getD i [] → v ∈ l.getD i [] := fun i v hi hv => by
     rw [set_getD F i hi] at hv
     by_cases c : i = j
     ·subst c
      rw [if_pos rfl] at hv
      exact ((mF v).mp hv).1
     ·rw [if_neg c] at hv
      exact hv
    have back : ∀ r, InP r (l.set j F) → InP r l := fun r hr => F2.ofD 0 [] (by rw [hr.len, hlen]) fun i hi => by
     rw [hr.len, hlen] at hi
     exact sub i _ hi (hr.getD (by rw [hr.len, hlen]; exact hi) 0 [])
    refine ⟨fun _ r hr hs => ?_, fun h => ?_, fun _ => ?_, fun _ i v hi hv => ?_, fun _ => ?_, fun _ h => absurd (Z h) (by decide)⟩
    ·show InP r (unR C K l (openR 0 0 0 0 C l)).1
     rw [e']
     refine F2.ofD 0 [] (by rw [hr.len]; exact hlen.symm) fun i hi => ?_
     rw [hr.len] at hi
     have h1 : r.getD i 0 ∈ l.getD i [] := hr.getD (by rw [hr.len]; exact hi) 0 []
     show r.getD i 0 ∈ (l.set j F).getD i []
     rw [set_getD F i hi]
     by_cases c : i = j
     ·subst c
      rw [if_pos rfl, mF]
      refine ⟨h1, fun h => hs ?_⟩
      have := j5 r hr
      omega
     ·rw [if_neg c]
      exact h1
    ·have h : (unR C K l (openR 0 0 0 0 C l)).2 = false := h
     rw [e'] at h; cases h
    ·show (unR C K l (openR 0 0 0 0 C l)).1.length = _
     rw [e']; exact hlen
    ·have hv : v ∈ (unR C K l (openR 0 0 0 0 C l)).1.getD i [] := hv
     rw [e'] at hv
     exact sub i v hi hv
    ·show unR C K (unR C K l (openR 0 0 0 0 C l)).1 (openR 0 0 0 0 C (unR C K l (openR 0 0 0 0 C l)).1) = ((unR C K l (openR 0 0 0 0 C l)).1, true)
     rw [e']
     show unR C K (l.set j F) (openR 0 0 0 0 C (l.set j F)) = (l.set j F, true)
     have hn2 : ∀ x ∈ l.set j F, x ≠ [] := fun x hx => by
      rcases List.mem_or_eq_of_mem_set hx with hx | rfl
      ·exact hn x hx
      ·exact cF
     have O2 := openR_spec (C := C) (l := l.set j F) (n := 0) (at_ := 0) (sum := 0) (i := 0) (by rw [hlen]; exact hl) hn2
     obtain ⟨r, hr⟩ := some_rowN hn2
     have hrl := back r hr
     have hrj : r.getD j 0 ∈ F := by
      have := hr.getD (i := j) (by rw [hr.len, hlen]; exact j1) 0 []
      rwa [set_getD F j j1, if_pos rfl] at this
     have nk := ((mF _).mp hrj).2
     have e5 := j5 r hrl
     by_cases c : F.length ≤ 1
     ·have z : (openR 0 0 0 0 C (l.set j F)).1 = 0 := openR_zero C _ 0 0 0 0 fun x hx => by
       obtain ⟨i, hi, rfl⟩ := getD_of_mem hx []
       rw [hlen] at hi
       rw [set_getD F i hi]
       by_cases c : i = j
       ·rw [if_pos c]; assumption
       ·rw [if_neg c]; exact j4 i hi c
      obtain ⟨_, _, o3⟩ := O2.none_ z
      have e6 := o3 r hr
      unfold unR
      rw [if_neg (by omega), if_pos z, decide_eq_false (by omega)]
      rfl
     ·have z : (openR 0 0 0 0 C (l.set j F)).1 = 0 + 1 := openR_one C _ 0 0 0 0 j (by rw [hlen]; exact hl) (by rw [hlen]; exact j1) (by rw [set_getD F j j1, if_pos rfl]; omega) fun j' a1 a2 => by
       rw [hlen] at a1
       rw [set_getD F j' a1, if_neg a2]
       exact j4 j' a1 a2
      obtain ⟨j', k1, k2, k3, k4, k5⟩ := O2.one z
      rw [hlen] at k1
      have ejj : j' = j := Decidable.byContradiction fun h => by
       rw [set_getD F j' k1, if_neg h] at k3
       have := j4 j' k1 h
       omega
      subst ejj
      have e6 := k5 r hr
      generalize openR 0 0 0 0 C (l.set j' F) = q at z k2 e6
      obtain ⟨n', at', sum'⟩ := q
      have z : n' = 1 := by have z : n' = 0 + 1 := z; omega
      have k2' : at' = (j' : Int) := by have k2 : at' = 0 + (j' : Int) := k2; omega
      have e6 : sum' + C.getD j' 0 * r.getD j' 0 = 0 + dot C r := e6
      have es : sum' = sum := by omega
      subst z
      subst es
      rw [unR_one (C := C) (K := K) (sum := sum') (j := j') k2' (by rw [hlen]; exact k1) hn2]
      have fF : ((l.set j' F).getD j' []).filter (fun v => !(decide (sum' + C.getD j' 0 * v = K))) = F := by
       rw [set_getD F j' k1, if_pos rfl, List.filter_eq_self]
       intro v hv
       rw [decide_eq_false ((mF v).mp hv).2]
       rfl
      rw [fF, if_neg cF, List.set_set]
theorem lastR_mem (c : Con) (l : List (List Int)) (v : Int) : v ∈ lastR c l ↔ v ∈ l.getD c.2.1.length [] ∧ ((v = 0 ∧ -(lowsR (-1) (cC c) (l.take c.2.1.length)) > cK c) ∨ (v = 1 ∧ lowsR 1 (cC c) (l.take c.2.1.length) ≤ cK c)) := by
 unfold lastR
 rw [List.mem_append, hasL_mem, hasL_mem]
 simp only [Bool.and_eq_true, decide_eq_true_eq]
 constructor
 ·rintro (h | h)
  ·split at h
   ·rename_i hc
    have := List.mem_singleton.mp h
    subst this
    exact ⟨hc.1, .inl ⟨rfl, hc.2⟩⟩
   ·cases h
  ·split at h
   ·rename_i hc
    have := List.mem_singleton.mp h
    subst this
    exact ⟨hc.1, .inr ⟨rfl, hc.2⟩⟩
   ·cases h
 ·rintro ⟨h1, ⟨rfl, h2⟩ | ⟨rfl, h2⟩⟩
  ·left
   rw [if_pos ⟨h1, h2⟩]
   exact List.mem_singleton.mpr rfl
  ·right
   rw [if_pos ⟨h1, h2⟩]
   exact List.mem_singleton.mpr rfl
theorem lastR_cases (c : Con) (l : List (List Int)) : lastR c l = [] ∨ lastR c l = [0] ∨ lastR c l = [1] ∨ lastR c l = [0, 1] := by
 have e : lastR c l = (if (hasL (l.getD c.2.1.length []) 0 && decide (-(lowsR (-1) (cC c) (l.take c.2.1.length)) > cK c)) = true then [0] else []) ++ (if (hasL (l.getD c.2.1.length []) 1 && decide (lowsR 1 (cC c) (l.take c.2.1.length) ≤ cK c)) = true then [1] else []) := rfl
 rw [e]
 generalize (hasL (l.getD c.2.1.length []) 0 && decide (-(lowsR (-1) (cC c) (l.take c.2.1.length)) > cK c)) = a
 generalize (hasL (l.getD c.2.1.length []) 1 && decide (lowsR 1 (cC c) (l.take c.2.1.length) ≤ cK c)) = b
 cases a <;> cases b <;> simp
def reR (c : Con) (l : List (List Int)) : List Int → List (List Int) × Bool
 | [] => ([], false)
 | [v] => if v = 1 then (bif (byR (cC c) 1 (cK c) (l.take c.2.1.length)).2 then ((byR (cC c) 1 (cK c) (l.take c.2.1.length)).1 ++ [[v]], true) else ([], false)) else
  (bif (byR (cC c) (-1) (-(cK c) - 1) (l.take c.2.1.length)).2 then ((byR (cC c) (-1) (-(cK c) - 1) (l.take c.2.1.length)).1 ++ [[v]], true) else ([], false))
 | b => (l.take c.2.1.length ++ [b], true)
theorem reR_single (c : Con) (l : List (List Int)) (v : Int) : reR c l [v] = if v = 1 then (bif (byR (cC c) 1 (cK c) (l.take c.2.1.length)).2 then ((byR (cC c) 1 (cK c) (l.take c.2.1.length)).1 ++ [[v]], true) else ([], false)) else
  (bif (byR (cC c) (-1) (-(cK c) - 1) (l.take c.2.1.length)).2 then ((byR (cC c) (-1) (-(cK c) - 1) (l.take c.2.1.length)).1 ++ [[v]], true) else ([], false)) := rfl
theorem reifiedR_eq (c : Con) (l : List (List Int)) : reifiedR c l = reR c l (lastR c l) := by
 unfold reifiedR
 rcases lastR_cases c l with h | h | h | h <;> rw [h] <;> rfl
theorem dot_take : ∀ (C : List Int) (r : List Int), dot C r = dot C (r.take C.length)
 | [], r => by cases r <;> rfl
 | _ :: _, [] => rfl
 | k :: ks, v :: vs => by
  show k * v + dot ks vs = k * v + dot ks (vs.take ks.length)
  rw [dot_take ks vs]
theorem inp_last {l : List (List Int)} {n : Nat} (hl : l.length = n + 1) {r : List Int} (hr : InP r l) : InP (r.take n) (l.take n) ∧ r.getD n 0 ∈ l.getD n [] := ⟨hr.take n, hr.getD (by rw [hr.len]; omega) 0 []⟩
theorem inp_join {x : List (List Int)} {b : List Int} {n : Nat} (hx : x.length = n) {r : List Int} (hrl : r.length = n + 1) (h1 : InP (r.take n) x) (h2 : r.getD n 0 ∈ b) : InP r (x ++ [b]) := by
 have e : r = r.take n ++ [r.getD n 0] := by
  rw [getD_get (by omega)]
  apply List.ext_getElem (by simp; omega)
  intro i a1 a2
  rw [List.getElem_append]
  split
  ·simp
  ·have : i = n := by
    rename_i h
    rw [List.length_take] at h
    omega
   subst this
   simp
 rw [e]
 exact h1.append (.cons h2 .nil)
theorem sc_neg_dot : ∀ (C r : List Int), dot (sc (-1) C) r = -(dot C r)
 | [], r => by cases r <;> rfl
 | _ :: _, [] => rfl
 | k :: ks, v :: vs => by
  show -1 * k * v + dot (sc (-1) ks) vs = -(k * v + dot ks vs)
  rw [sc_neg_dot ks vs, show -1 * k = -k by omega, Int.neg_mul]
  omega
theorem re_law {c : Con} {l : List (List Int)} {n : Nat} (hA : c.2.1.length = n) (hn : 1 ≤ n) (hC : (cC c).length = n) (hl : l.length = n + 1) (hR : Rs l) :
  LawL (fun l => reifiedR c l) l (fun r => (r.getD n 0 = 1 ∧ dot (cC c) r ≤ cK c) ∨ (r.getD n 0 = 0 ∧ dot (cC c) r > cK c)) := by
 have tl : (l.take n).length = n := by rw [List.length_take]; omega
 have hRt : Rs (l.take n) := fun x hx => hR x (List.mem_of_mem_take hx)
 have hCt : (cC c).length = (l.take n).length := by omega
 have tk : ∀ {x : List (List Int)} {b : List Int}, x.length = n → (x ++ [b]).take n = x ∧ (x ++ [b]).getD n [] = b := fun {x b} hx => by
  refine ⟨by rw [← hx, List.take_left], ?_⟩
  rw [List.getD_eq_getElem?_getD, List.getElem?_append_right (by omega), hx, Nat.sub_self]
  rfl
 have lm := lastR_mem c l
 rw [hA] at lm
 have dt : ∀ r, InP r l → dot (cC c) r = dot (cC c) (r.take n) := fun r _ => by rw [dot_take, hC]
 have mem : ∀ r, InP r l → ((r.getD n 0 = 1 ∧ dot (cC c) r ≤ cK c) ∨ (r.getD n 0 = 0 ∧ dot (cC c) r > cK c)) → r.getD n 0 ∈ lastR c l := fun r hr hs => by
  obtain ⟨h1, h2⟩ := inp_last hl hr
  have e := dt r hr
  have g1 := (gap_at 1 hCt hRt h1).1
  have g2 := (gap_at (-1) hCt hRt h1).1
  rw [sc_one] at g1
  rw [sc_neg_dot] at g2
  refine (lm _).mpr ⟨h2, ?_⟩
  rcases hs with ⟨a, b⟩ | ⟨a, b⟩
  ·exact .inr ⟨a, by omega⟩
  ·exact .inl ⟨a, by omega⟩
 have hF : ∀ b, lastR c l = b → reifiedR c l = reR c l b := fun b hb => by rw [reifiedR_eq, hb]
 have last_sub : ∀ v, v ∈ lastR c l → v ∈ l.getD n [] := fun v hv => ((lm v).mp hv).1
 -- what is shown of each answer
 have build : ∀ (x : List (List Int)) (b : List Int), lastR c l = b → reifiedR c l = (x ++ [b], true) → x.length = n → (∀ r, InP r l → ((r.getD n 0 = 1 ∧ dot (cC c) r ≤ cK c) ∨ (r.getD n 0 = 0 ∧ dot (cC c) r > cK c)) → InP (r.take n) x) →
   (∀ i v, i < n → v ∈ x.getD i [] → v ∈ (l.take n).getD i []) → reifiedR c (x ++ [b]) = (x ++ [b], true) → (One l → ∀ r, InP r l → ((r.getD n 0 = 1 ∧ dot (cC c) r ≤ cK c) ∨ (r.getD n 0 = 0 ∧ dot (cC c) r > cK c))) →
   LawL (fun l => reifiedR c l) l (fun r => (r.getD n 0 = 1 ∧ dot (cC c) r ≤ cK c) ∨ (r.getD n 0 = 0 ∧ dot (cC c) r > cK c)) := by
  intro x b hb he hx hk hs ha ho
  refine ⟨fun _ r hr h => ?_, fun h => ?_, fun _ => ?_, fun _ i v hi hv => ?_, fun _ => ?_, fun _ h => ho h⟩
  ·show InP r (reifiedR c l).1
   rw [he]
   exact inp_join hx (by rw [hr.len, hl]) (hk r hr h) (by rw [← hb]; exact mem r hr h)
  ·have h : (reifiedR c l).2 = false := h
   rw [he] at h; cases h
  ·show (reifiedR c l).1.length = _
   rw [he]
   show (x ++ [b]).length = _
   rw [List.length_append, hx, hl]
   rfl
  ·have hv : v ∈ (reifiedR c l).1.getD i [] := hv
   rw [he] at hv
   have hv : v ∈ (x ++ [b]).getD i [] := hv
   by_cases c1 : i < n
   ·have e1 : (x ++ [b]).getD i [] = x.getD i [] := by
     rw [List.getD_eq_getElem?_getD, List.getElem?_append_left (by omega), ← List.getD_eq_getElem?_getD]
    rw [e1] at hv
    have := hs i v c1 hv
    have e2 : (l.take n).getD i [] = l.getD i [] := by rw [List.getD_eq_getElem?_getD, List.getElem?_take_of_lt c1, ← List.getD_eq_getElem?_getD]
    rwa [e2] at this
   ·have : i = n := by omega
    subst this
    rw [(tk hx).2, ← hb] at hv
    exact last_sub v hv
  ·show reifiedR c (reifiedR c l).1 = ((reifiedR c l).1, true)
   rw [he]
   exact ha
 have fail : reifiedR c l = ([], false) → (∀ r, InP r l → ¬ ((r.getD n 0 = 1 ∧ dot (cC c) r ≤ cK c) ∨ (r.getD n 0 = 0 ∧ dot (cC c) r > cK c))) → LawL (fun l => reifiedR c l) l (fun r => (r.getD n 0 = 1 ∧ dot (cC c) r ≤ cK c) ∨ (r.getD n 0 = 0 ∧ dot (cC c) r > cK c)) := fun he hno => by
  have no : ¬ (reifiedR c l).2 = true := by rw [he]; decide
  exact ⟨fun h => absurd h no, fun _ r hr hs => hno r hr hs, fun h => absurd h no, fun h => absurd h no, fun h => absurd h no, fun h => absurd h no⟩
 have lastOf : ∀ (x : List (List Int)) (b : List Int), x.length = n → (∀ v ∈ b, (v = 0 ∧ -(lowsR (-1) (cC c) x) > cK c) ∨ (v = 1 ∧ lowsR 1 (cC c) x ≤ cK c)) → (b = [0] ∨ b = [1] ∨ b = [0, 1]) → lastR c (x ++ [b]) = b := by
  intro x b hx hv hb
  have e : lastR c (x ++ [b]) = (if (hasL ((x ++ [b]).getD c.2.1.length []) 0 && decide (-(lowsR (-1) (cC c) ((x ++ [b]).take c.2.1.length)) > cK c)) = true then [0] else []) ++ (if (hasL ((x ++ [b]).getD c.2.1.length []) 1 && decide (lowsR 1 (cC c) ((x ++ [b]).take c.2.1.length) ≤ cK c)) = true then [1] else []) := rfl
  rw [e, hA, (tk hx).1, (tk hx).2, hasL_mem, hasL_mem]
  rcases hb with rfl | rfl | rfl
  ·have h0 := hv 0 (by simp)
   have h0 : -(lowsR (-1) (cC c) x) > cK c := by
    rcases h0 with h | h
    ·exact h.2
    ·exact absurd h.1 (by decide)
   simp [h0]
  ·have h1 := hv 1 (by simp)
   have h1 : lowsR 1 (cC c) x ≤ cK c := by
    rcases h1 with h | h
    ·exact absurd h.1 (by decide)
    ·exact h.2
   simp [h1]
  ·have h0 := hv 0 (by simp)
   have h1 := hv 1 (by simp)
   have h0 : -(lowsR (-1) (cC c) x) > cK c := by
    rcases h0 with h | h
    ·exact h.2
    ·exact absurd h.1 (by decide)
   have h1 : lowsR 1 (cC c) x ≤ cK c := by
    rcases h1 with h | h
    ·exact absurd h.1 (by decide)
    ·exact h.2
   simp [h0, h1]
 have one_last : One l → ∀ r, InP r l → ∀ v, lastR c l = [v] → r.getD n 0 = v := fun h r hr v hv => by
  have h1 := (inp_last hl hr).2
  have h2 : v ∈ l.getD n [] := last_sub v (by rw [hv]; simp)
  have h3 : (l.getD n []).length = 1 := h _ (getD_memD (by omega) [])
  obtain ⟨y, hy⟩ := List.length_eq_one_iff.mp h3
  rw [hy] at h1 h2
  rw [List.mem_singleton.mp h1, List.mem_singleton.mp h2]
 rcases lastR_cases c l with hb | hb | hb | hb
 ·refine fail (hF _ hb) fun r hr hs => ?_
  have := mem r hr hs
  rw [hb] at this
  cases this
 ·-- only 0
  have e := hF _ hb
  have m0 : ((0 : Int) = 0 ∧ -(lowsR (-1) (cC c) (l.take n)) > cK c) ∨ ((0 : Int) = 1 ∧ lowsR 1 (cC c) (l.take n) ≤ cK c) := ((lm 0).mp (by rw [hb]; simp)).2
  have m0 : -(lowsR (-1) (cC c) (l.take n)) > cK c := by
   rcases m0 with h | h
   ·exact h.2
   ·exact absurd h.1 (by decide)
  have e : reifiedR c l = bif (byR (cC c) (-1) (-(cK c) - 1) (l.take n)).2 then ((byR (cC c) (-1) (-(cK c) - 1) (l.take n)).1 ++ [[0]], true) else ([], false) := by rw [e, ← hA]; rfl
  have r0 : ∀ r, InP r l → ((r.getD n 0 = 1 ∧ dot (cC c) r ≤ cK c) ∨ (r.getD n 0 = 0 ∧ dot (cC c) r > cK c)) → (byR (cC c) (-1) (-(cK c) - 1) (l.take n)).2 = true ∧ InP (r.take n) (byR (cC c) (-1) (-(cK c) - 1) (l.take n)).1 := fun r hr hs => by
   have h0 := mem r hr hs
   rw [hb] at h0
   have h0 := List.mem_singleton.mp h0
   have hd := dt r hr
   refine by_keeps hCt hRt (inp_last hl hr).1 ?_
   rw [sc_neg_dot]
   rcases hs with h | h <;> omega
  cases hq : (byR (cC c) (-1) (-(cK c) - 1) (l.take n)).2 with
  | false =>
   rw [hq] at e
   exact fail e fun r hr hs => by have := (r0 r hr hs).1; rw [hq] at this; cases this
  | true =>
   rw [hq] at e
   have xl : (byR (cC c) (-1) (-(cK c) - 1) (l.take n)).1.length = n := by rw [by_len' hq, tl]
   obtain ⟨a1, a2⟩ := by_again hCt hRt hq
   refine build _ _ hb e xl (fun r hr hs => (r0 r hr hs).2) (fun i v hi hv => by_sub hq (by omega) hv) ?_ fun h r hr => ?_
   ·have hl2 := lastOf _ [0] xl (fun v hv => .inl ⟨List.mem_singleton.mp hv, by rw [a2]; exact m0⟩) (.inl rfl)
    rw [reifiedR_eq, hl2, reR_single, if_neg (show ¬ (0 : Int) = 1 by decide), hA, (tk xl).1, a1]
    rfl
   ·have h1 := one_last h r hr 0 hb
    have h2 := by_one hCt (by omega) hRt hq (fun x hx => h x (List.mem_of_mem_take hx)) (inp_last hl hr).1
    rw [sc_neg_dot] at h2
    have := dt r hr
    exact .inr ⟨h1, by omega⟩
 ·-- only 1
  have e := hF _ hb
  have m1 : ((1 : Int) = 0 ∧ -(lowsR (-1) (cC c) (l.take n)) > cK c) ∨ ((1 : Int) = 1 ∧ lowsR 1 (cC c) (l.take n) ≤ cK c) := ((lm 1).mp (by rw [hb]; simp)).2
  have m1 : lowsR 1 (cC c) (l.take n) ≤ cK c := by
   rcases m1 with h | h
   ·exact absurd h.1 (by decide)
   ·exact h.2
  have e : reifiedR c l = bif (byR (cC c) 1 (cK c) (l.take n)).2 then ((byR (cC c) 1 (cK c) (l.take n)).1 ++ [[1]], true) else ([], false) := by rw [e, ← hA]; rfl
  have r0 : ∀ r, InP r l → ((r.getD n 0 = 1 ∧ dot (cC c) r ≤ cK c) ∨ (r.getD n 0 = 0 ∧ dot (cC c) r > cK c)) → (byR (cC c) 1 (cK c) (l.take n)).2 = true ∧ InP (r.take n) (byR (cC c) 1 (cK c) (l.take n)).1 := fun r hr hs => by
   have h0 := mem r hr hs
   rw [hb] at h0
   have h0 := List.mem_singleton.mp h0
   have hd := dt r hr
   refine by_keeps hCt hRt (inp_last hl hr).1 ?_
   rw [sc_one]
   rcases hs with h | h <;> omega
  cases hq : (byR (cC c) 1 (cK c) (l.take n)).2 with
  | false =>
   rw [hq] at e
   exact fail e fun r hr hs => by have := (r0 r hr hs).1; rw [hq] at this; cases this
  | true =>
   rw [hq] at e
   have xl : (byR (cC c) 1 (cK c) (l.take n)).1.length = n := by rw [by_len' hq, tl]
   obtain ⟨a1, a2⟩ := by_again hCt hRt hq
   refine build _ _ hb e xl (fun r hr hs => (r0 r hr hs).2) (fun i v hi hv => by_sub hq (by omega) hv) ?_ fun h r hr => ?_
   ·have hl2 := lastOf _ [1] xl (fun v hv => .inr ⟨List.mem_singleton.mp hv, by rw [a2]; exact m1⟩) (.inr (.inl rfl))
    rw [reifiedR_eq, hl2, reR_single, if_pos (show (1 : Int) = 1 from rfl), hA, (tk xl).1, a1]
    rfl
   ·have h1 := one_last h r hr 1 hb
    have h2 := by_one hCt (by omega) hRt hq (fun x hx => h x (List.mem_of_mem_take hx)) (inp_last hl hr).1
    rw [sc_one] at h2
    have := dt r hr
    exact .inl ⟨h1, by omega⟩
 ·-- both
  have e := hF _ hb
  have e : reifiedR c l = (l.take n ++ [[0, 1]], true) := by rw [e, ← hA]; rfl
  refine build _ _ hb e tl (fun r hr _ => (inp_last hl hr).1) (fun i v hi hv => hv) ?_ fun h r hr => ?_
  ·have hl2 := lastOf _ [0, 1] tl (fun v hv => ((lm v).mp (by rw [hb]; exact hv)).2) (.inr (.inr rfl))
   rw [reifiedR_eq, hl2]
   show ((l.take n ++ [[0, 1]]).take c.2.1.length ++ [[0, 1]], true) = _
   rw [hA, (tk tl).1]
  ·have h3 : (l.getD n []).length = 1 := h _ (getD_memD (by omega) [])
   obtain ⟨y, hy⟩ := List.length_eq_one_iff.mp h3
   have z0 : (0 : Int) ∈ l.getD n [] := last_sub 0 (by rw [hb]; simp)
   have z1 : (1 : Int) ∈ l.getD n [] := last_sub 1 (by rw [hb]; simp)
   rw [hy] at z0 z1
   have := (List.mem_singleton.mp z0).trans (List.mem_singleton.mp z1).symm
   exact absurd this (by decide)
end Go.Proofs.YtnojoaghcbljfaaGreatDoor.Ev
