/-
Linear constraints: what isn't a sum, what is reified: the program's is the document's.
Conditions: none.
-/
import Derived.Test.YtnojoaghcbljfaaGreatDoorNk
set_option linter.unusedVariables false
set_option linter.unusedSimpArgs false
set_option maxRecDepth 100000
namespace Go.Proofs.YtnojoaghcbljfaaGreatDoor.Ev
open Go
theorem openR_mono : ∀ (C : List Int) (l : List (List Int)) (n at_ sum i : Int), n ≤ (openR n at_ sum i C l).1
 | [], l, n, at_, sum, i => by cases l <;> exact Int.le_refl _
 | _ :: _, [], n, at_, sum, i => Int.le_refl _
 | k :: ks, x :: xs, n, at_, sum, i => by
  unfold openR
  split
  ·have := openR_mono ks xs (n + 1) i sum (i + 1)
   omega
  ·exact openR_mono ks xs n at_ _ (i + 1)
structure OpenP (C : List Int) (l : List (List Int)) (n at_ sum i : Int) (p : Int × Int × Int) : Prop where
  none_ : p.1 = n → p.2.1 = at_ ∧ (∀ j, j < l.length → (l.getD j []).length ≤ 1) ∧ ∀ r, InP r l → p.2.2 = sum + dot C r
  one : p.1 = n + 1 → ∃ j, j < l.length ∧ p.2.1 = i + (j : Int) ∧ 1 < (l.getD j []).length ∧ (∀ j', j' < l.length → j' ≠ j → (l.getD j' []).length ≤ 1) ∧ ∀ r, InP r l → p.2.2 + C.getD j 0 * r.getD j 0 = sum + dot C r
theorem openR_spec : ∀ {C : List Int} {l : List (List Int)} {n at_ sum i : Int}, C.length = l.length → (∀ x ∈ l, x ≠ []) → OpenP C l n at_ sum i (openR n at_ sum i C l)
 | [], [], n, at_, sum, i, _, _ => ⟨fun _ => ⟨rfl, fun j hj => absurd hj (by simp), fun r hr => by show sum = sum + dot [] r; cases r <;> simp [dot]⟩, fun h => by have h : n = n + 1 := h; omega⟩
 | [], _ :: _, _, _, _, _, h, _ => by simp at h
 | _ :: _, [], _, _, _, _, h, _ => by simp at h
 | k :: ks, x :: xs, n, at_, sum, i, hl, hn => by
  have hl' : ks.length = xs.length := by simpa using hl
  have hn' : ∀ y ∈ xs, y ≠ [] := fun y hy => hn y (List.mem_cons_of_mem _ hy)
  unfold openR
  by_cases c : (x.length : Int) > 1
  ·rw [if_pos c]
   have O := openR_spec (C := ks) (l := xs) (n := n + 1) (at_ := i) (sum := sum) (i := i + 1) hl' hn'
   have mono := openR_mono ks xs (n + 1) i sum (i + 1)
   refine ⟨fun h => absurd h (by omega), fun h => ?_⟩
   obtain ⟨o1, o2, o3⟩ := O.none_ h
   refine ⟨0, by simp, by rw [o1]; omega, by show 1 < x.length; omega, fun j' h1 h2 => ?_, fun r hr => ?_⟩
   ·cases j' with
    | zero => exact absurd rfl h2
    | succ j' => exact o2 j' (by simpa using h1)
   ·cases hr with
    | @cons v _ vs _ hv t =>
     rw [o3 vs t]
     show sum + dot ks vs + k * v = sum + (k * v + dot ks vs)
     omega
  ·rw [if_neg c]
   have O := openR_spec (C := ks) (l := xs) (n := n) (at_ := at_) (sum := sum + k * x.getD 0 0) (i := i + 1) hl' hn'
   have hx : x.length = 1 := by
    have := List.length_pos_iff.mpr (hn x List.mem_cons_self)
    omega
   obtain ⟨y, rfl⟩ := List.length_eq_one_iff.mp hx
   refine ⟨fun h => ?_, fun h => ?_⟩
   ·obtain ⟨o1, o2, o3⟩ := O.none_ h
    refine ⟨o1, fun j hj => ?_, fun r hr => ?_⟩
    ·cases j with
     | zero => show [y].length ≤ 1; simp
     | succ j => exact o2 j (by simpa using hj)
    ·cases hr with
     | @cons v _ vs _ hv t =>
      have := List.mem_singleton.mp hv
      subst this
      rw [o3 vs t]
      show sum + k * v + dot ks vs = sum + (k * v + dot ks vs)
      omega
   ·obtain ⟨j, o1, o2, o3, o4, o5⟩ := O.one h
    refine ⟨j + 1, by simpa using o1, by rw [o2]; omega, o3, fun j' h1 h2 => ?_, fun r hr => ?_⟩
    ·cases j' with
     | zero => show [y].length ≤ 1; simp
     | succ j' => exact o4 j' (by simpa using h1) (by omega)
    ·cases hr with
     | @cons v _ vs _ hv t =>
      have := List.mem_singleton.mp hv
      subst this
      have := o5 vs t
      have e : k * ([v] : List Int).getD 0 0 = k * v := rfl
      show _ + ks.getD j 0 * vs.getD j 0 = sum + (k * v + dot ks vs)
      omega
theorem openGo_R : ∀ (C : List Int) (d : List Dom) (n at_ at' sum i : Int), AllG d → 0 ≤ i → ((n = 0 ∧ at' = -1) ∨ (n = 1 ∧ at' = at_ ∧ 0 ≤ at_)) →
  (openGo at' sum i C d = none → (openR n at_ sum i C (listsL d)).1 > 1) ∧
  ∀ p, openGo at' sum i C d = some p → ((openR n at_ sum i C (listsL d)).1 = 0 ∧ p = (-1, (openR n at_ sum i C (listsL d)).2.2)) ∨ ((openR n at_ sum i C (listsL d)).1 = 1 ∧ 0 ≤ (openR n at_ sum i C (listsL d)).2.1 ∧ p = ((openR n at_ sum i C (listsL d)).2.1, (openR n at_ sum i C (listsL d)).2.2))
 | [], d, n, at_, at', sum, i, _, _, h => by
  have e : openR n at_ sum i [] (listsL d) = (n, at_, sum) := by cases d <;> rfl
  have e2 : openGo at' sum i [] d = some (at', sum) := by cases d <;> rfl
  rw [e, e2]
  refine ⟨fun h => (by cases h), fun p hp => ?_⟩
  obtain rfl := Option.some.inj hp
  rcases h with ⟨h1, h2⟩ | ⟨h1, h2, h3⟩
  ·exact .inl ⟨h1, by rw [h2]⟩
  ·exact .inr ⟨h1, h3, by rw [h2]⟩
 | k :: ks, [], n, at_, at', sum, i, _, _, h => by
  have e : openR n at_ sum i (k :: ks) (listsL []) = (n, at_, sum) := rfl
  have e2 : openGo at' sum i (k :: ks) [] = some (at', sum) := rfl
  rw [e, e2]
  refine ⟨fun h => (by cases h), fun p hp => ?_⟩
  obtain rfl := Option.some.inj hp
  rcases h with ⟨h1, h2⟩ | ⟨h1, h2, h3⟩
  ·exact .inl ⟨h1, by rw [h2]⟩
  ·exact .inr ⟨h1, h3, by rw [h2]⟩
 | k :: ks, x :: xs, n, at_, at', sum, i, hG, hi, h => by
  have hx := hG x List.mem_cons_self
  have hxs : AllG xs := fun y hy => hG y (List.mem_cons_of_mem _ hy)
  have e0 : listsL (x :: xs) = listD x :: listsL xs := rfl
  have hs := hx.size
  have hpos := List.length_pos_iff.mpr hx.ne
  rw [e0]
  unfold openGo openR
  by_cases c : sizeD x = 1
  ·rw [if_pos c, if_neg (show ¬ ((listD x).length : Int) > 1 by omega), hx.first]
   exact openGo_R ks xs n at_ at' _ (i + 1) hxs (by omega) h
  ·rw [if_neg c, if_pos (show ((listD x).length : Int) > 1 by omega)]
   rcases h with ⟨h1, h2⟩ | ⟨h1, h2, h3⟩
   ·rw [if_neg (by omega)]
    subst h1
    exact openGo_R ks xs (0 + 1) i i sum (i + 1) hxs (by omega) (.inr ⟨rfl, rfl, hi⟩)
   ·rw [if_pos (by omega)]
    refine ⟨fun _ => ?_, fun p hp => (by cases hp)⟩
    have := openR_mono ks (listsL xs) (n + 1) i sum (i + 1)
    omega
def unR (C : List Int) (K : Int) (l : List (List Int)) (p : Int × Int × Int) : List (List Int) × Bool :=
 if p.1 > 1 then (l, true) else if p.1 = 0 then (l, !(decide (p.2.2 = K))) else
 bif (List.range l.length).all (fun i => !(dropR p.2.1 p.2.2 K C l i).isEmpty) then ((List.range l.length).map (dropR p.2.1 p.2.2 K C l), true) else ([], false)
theorem unlikeR_eq (c : Con) (l : List (List Int)) : unlikeR c l = unR (cC c) (cK c) l (openR 0 0 0 0 (cC c) l) := rfl
theorem drop_at {C : List Int} {K at_ sum : Int} {l : List (List Int)} {j : Nat} (ha : at_ = (j : Int)) (i : Nat) : dropR at_ sum K C l i = if i = j then (l.getD i []).filter (fun v => !(decide (sum + C.getD i 0 * v = K))) else l.getD i [] := by
 subst ha
 unfold dropR
 by_cases c : i = j
 ·rw [if_pos c, decide_eq_true (show (i : Int) = (j : Int) by omega)]
  exact List.filter_congr fun v _ => rfl
 ·rw [if_neg c, decide_eq_false (show ¬ (i : Int) = (j : Int) by omega), List.filter_eq_self]
  intro v _
  rfl
theorem all_ne {l : List (List Int)} {f : Nat → List Int} : (List.range l.length).all (fun i => !(f i).isEmpty) = true ↔ ∀ i, i < l.length → f i ≠ [] := by
 rw [List.all_eq_true]
 constructor
 ·intro h i hi e
  have := h i (List.mem_range.mpr hi)
  rw [e] at this
  cases this
 ·intro h i hi
  have := h i (List.mem_range.mp hi)
  cases hf : f i with
  | nil => exact absurd hf this
  | cons => rfl
theorem unR_one {C : List Int} {K at_ sum : Int} {l : List (List Int)} {j : Nat} (ha : at_ = (j : Int)) (hj : j < l.length) (hn : ∀ x ∈ l, x ≠ []) :
  unR C K l (1, at_, sum) = if (l.getD j []).filter (fun v => !(decide (sum + C.getD j 0 * v = K))) = [] then ([], false) else (l.set j ((l.getD j []).filter (fun v => !(decide (sum + C.getD j 0 * v = K)))), true) := by
 unfold unR
 rw [if_neg (show ¬ ((1 : Int), at_, sum).1 > 1 by show ¬ (1 : Int) > 1; omega), if_neg (show ¬ ((1 : Int), at_, sum).1 = 0 by show ¬ (1 : Int) = 0; omega)]
 by_cases c : (l.getD j []).filter (fun v => !(decide (sum + C.getD j 0 * v = K))) = []
 ·rw [if_pos c]
  have : (List.range l.length).all (fun i => !(dropR at_ sum K C l i).isEmpty) = false := by
   rw [Bool.eq_false_iff]
   intro h
   have := all_ne.mp h j hj
   rw [drop_at ha, if_pos rfl] at this
   exact this c
  show (bif (List.range l.length).all (fun i => !(dropR at_ sum K C l i).isEmpty) then _ else _) = _
  rw [this]
  rfl
 ·rw [if_neg c]
  have : (List.range l.length).all (fun i => !(dropR at_ sum K C l i).isEmpty) = true := all_ne.mpr fun i hi => by
   rw [drop_at ha]
   by_cases e : i = j
   ·subst e; rw [if_pos rfl]; exact c
   ·rw [if_neg e]; exact hn _ (getD_memD hi [])
  show (bif (List.range l.length).all (fun i => !(dropR at_ sum K C l i).isEmpty) then _ else _) = _
  rw [this]
  refine Prod.ext ?_ rfl
  apply List.ext_getElem (by simp)
  intro i h1 h2
  have hi : i < l.length := by simpa using h1
  show ((List.range l.length).map (dropR at_ sum K C l))[i] = _
  rw [List.getElem_map, List.getElem_range, drop_at ha, List.getElem_set]
  by_cases e : i = j
  ·subst e; rw [if_pos rfl, if_pos rfl]
  ·rw [if_neg e, if_neg (Ne.symm e), getD_get hi]
theorem lists_set {d : List Dom} {j : Nat} {x : Dom} : listsL (d.set j x) = (listsL d).set j (listD x) := by
 unfold listsL
 rw [List.map_set]
theorem unlike_same {c : Con} {N : Nat} (h : LinC (cC c) (cK c) N) {d : List Dom} (hG : AllG d) (hl : d.length = N) (ht : tot (listsL d) ≤ 100000) :
  Same (unlikeF c d) (unlikeR c (listsL d)) ∧ unlikeB c d = true ∧ unlikeRB c (listsL d) = true := by
 have h1 := h.len
 have h2 := h.n64
 have h3 := h.n1
 have h4 := h.K1
 have h5 := h.K2
 have hlg := lg_lists hG
 refine ⟨?_, ?_, ?_⟩
 ·rw [unlikeR_eq]
  obtain ⟨g1, g2⟩ := openGo_R (cC c) d 0 0 (-1) 0 0 hG (by omega) (.inl ⟨rfl, rfl⟩)
  have O := openR_spec (C := cC c) (l := listsL d) (n := 0) (at_ := 0) (sum := 0) (i := 0) (by rw [lists_len]; omega) (fun x hx => (hlg x hx).1)
  cases hg : openGo (-1) 0 0 (cC c) d with
  | none =>
   have := g1 hg
   have e : unlikeF c d = (d, true) := by unfold unlikeF; rw [hg]
   rw [e]
   unfold unR
   rw [if_pos this]
   exact ⟨rfl, fun _ => ⟨rfl, hG⟩⟩
  | some p =>
   have e : unlikeF c d = unlikeP c d p := by unfold unlikeF; rw [hg]
   rw [e]
   rcases g2 p hg with ⟨e1, e2⟩ | ⟨e1, e3, e2⟩
   ·subst e2
    have u : ∀ s : Int, unlikeP c d (-1, s) = (d, !(decide (s = cK c))) := fun s => by
     unfold unlikeP
     rw [if_pos (show ((-1 : Int), s).1 < 0 by show (-1 : Int) < 0; omega)]
    have v : unR (cC c) (cK c) (listsL d) (openR 0 0 0 0 (cC c) (listsL d)) = (listsL d, !(decide ((openR 0 0 0 0 (cC c) (listsL d)).2.2 = cK c))) := by
     unfold unR
     rw [if_neg (by omega), if_pos e1]
    rw [u, v]
    exact ⟨rfl, fun _ => ⟨rfl, hG⟩⟩
   ·obtain ⟨j, j1, j2, j3, j4, j5⟩ := O.one (by rw [e1]; rfl)
    generalize openR 0 0 0 0 (cC c) (listsL d) = q at e1 e2 e3 j2 j5
    obtain ⟨q1, q2, q3⟩ := q
    simp only at e1 e2 e3 j2 j5
    subst e1
    have j2 : q2 = (j : Int) := by omega
    subst e2
    rw [unR_one j2 j1 (fun x hx => (hlg x hx).1)]
    unfold unlikeP
    rw [lists_len] at j1
    have eq2 : q2.toNat = j := by omega
    rw [if_neg (show ¬ (q2, q3).1 < 0 by show ¬ q2 < 0; omega)]
    show Same (if (cC c).getD q2.toNat 0 = 0 then _ else _) _
    rw [eq2]
    have fl : ∀ (P : Int → Bool), (∀ v ∈ (listsL d).getD j [], P v = true) → ((listsL d).getD j []).filter P = (listsL d).getD j [] := fun P hP => List.filter_eq_self.mpr hP
    have hne : (listsL d).getD j [] ≠ [] := (hlg _ (getD_memD (by rw [lists_len]; exact j1) [])).1
    have whole : ∀ (P : Int → Bool), (∀ v ∈ (listsL d).getD j [], P v = true) → (if ((listsL d).getD j []).filter P = [] then (([], false) : List (List Int) × Bool) else ((listsL d).set j (((listsL d).getD j []).filter P), true)) = (listsL d, true) := fun P hP => by
     rw [fl P hP, if_neg hne]
     refine Prod.ext ?_ rfl
     apply List.ext_getElem (by simp)
     intro i a1 a2
     rw [List.getElem_set]
     by_cases e : j = i
     ·subst e; rw [if_pos rfl, getD_get a2]
     ·rw [if_neg e]
    by_cases c1 : (cC c).getD j 0 = 0
    ·rw [if_pos c1]
     show Same (d, !(decide (cK c - q3 = 0))) _
     by_cases c2 : q3 = cK c
     ·have : ((listsL d).getD j []).filter (fun v => !(decide (q3 + (cC c).getD j 0 * v = cK c))) = [] := by
       rw [List.filter_eq_nil_iff]
       intro v _
       rw [c1, Int.zero_mul, decide_eq_true (by omega)]
       decide
      rw [if_pos this, decide_eq_true (show cK c - q3 = 0 by omega)]
      exact ⟨rfl, fun h => (by cases h)⟩
     ·rw [whole _ fun v _ => by rw [c1, Int.zero_mul, decide_eq_false (by omega)]; rfl, decide_eq_false (show ¬ cK c - q3 = 0 by omega)]
      exact ⟨rfl, fun _ => ⟨rfl, hG⟩⟩
    ·rw [if_neg c1]
     show Same (if (cK c - q3).tmod ((cC c).getD j 0) = 0 then _ else _) _
     have dm := Int.mul_tdiv_add_tmod (cK c - q3) ((cC c).getD j 0)
     by_cases c2 : (cK c - q3).tmod ((cC c).getD j 0) = 0
     ·rw [if_pos c2]
      rw [c2, Int.add_zero] at dm
      show Same (d.set j (withoutD (d.getD j dom0) ((cK c - q3).tdiv ((cC c).getD j 0))).1, true) _
      have sum_small : bigB ((cK c - q3).tdiv ((cC c).getD j 0)) = true := by
       obtain ⟨r, hr⟩ : ∃ r, InP r (listsL d) := by
        have : ∀ (l : List (List Int)), (∀ x ∈ l, x ≠ []) → ∃ r, InP r l := fun l => by
         induction l with
         | nil => exact fun _ => ⟨[], .nil⟩
         | cons x l ih =>
          intro h
          obtain ⟨r, hr⟩ := ih fun y hy => h y (List.mem_cons_of_mem _ hy)
          obtain ⟨v, hv⟩ := List.exists_mem_of_ne_nil _ (h x List.mem_cons_self)
          exact ⟨v :: r, .cons hv hr⟩
        exact this _ fun x hx => (hlg x hx).1
       have e5 := j5 r hr
       have hd : -64000000000000 ≤ dot (cC c) r ∧ dot (cC c) r ≤ 64000000000000 := by
        have key : ∀ (C : List Int) (l : List (List Int)) (r : List Int), (∀ x ∈ C, millB x = true) → Lg l → InP r l → -1000000000000 * (C.length : Int) ≤ dot C r ∧ dot C r ≤ 1000000000000 * (C.length : Int) := by
         intro C
         induction C with
         | nil => intro l r _ _ hr; cases r <;> simp [dot]
         | cons k ks ih =>
          intro l r hC hL hr
          cases hr with
          | nil =>
           have : (0 : Int) ≤ ((k :: ks).length : Int) := Int.natCast_nonneg _
           show -1000000000000 * _ ≤ (0 : Int) ∧ (0 : Int) ≤ _
           omega
          | @cons v x vs xs hv t =>
           obtain ⟨i1, i2⟩ := ih xs vs (fun y hy => hC y (List.mem_cons_of_mem _ hy)) (fun y hy => hL y (List.mem_cons_of_mem _ hy)) t
           have p := mul_mill (mill_iff' (hC k List.mem_cons_self)) (mill_iff' (inD_mill ((hL x List.mem_cons_self).2 v hv)))
           have e : dot (k :: ks) (v :: vs) = k * v + dot ks vs := rfl
           rw [e, List.length_cons]
           omega
        have := key (cC c) (listsL d) r h.mill hlg hr
        omega
       have hrj : inD (r.getD j 0) = true := (hlg _ (getD_memD (by rw [lists_len]; exact j1) [])).2 _ (hr.getD (by rw [hr.len, lists_len]; exact j1) 0 [])
       have p := mul_mill (mill_iff' (h.mill _ (getD_memD (show j < (cC c).length by omega) 0))) (mill_iff' (inD_mill hrj))
       have q3r : -100000000000000 ≤ q3 ∧ q3 ≤ 100000000000000 := by omega
       have := tdiv_abs (cK c - q3) ((cC c).getD j 0) (by omega)
       unfold bigB
       rw [decide_eq_true this.1, decide_eq_true this.2]
       rfl
      have W := without_G (hG _ (getD_memD j1 dom0)) sum_small
      have ef : ((listsL d).getD j []).filter (fun v => !(decide (q3 + (cC c).getD j 0 * v = cK c))) = (listD (d.getD j dom0)).filter (fun x => !(decide (x = (cK c - q3).tdiv ((cC c).getD j 0)))) := by
       rw [lists_at j1]
       refine filter_in fun v _ => ?_
       congr 1
       by_cases e : v = (cK c - q3).tdiv ((cC c).getD j 0)
       ·rw [decide_eq_true e, decide_eq_true (by rw [e]; omega)]
       ·rw [decide_eq_false e, decide_eq_false]
        intro e2
        apply e
        have : (cC c).getD j 0 * v = (cC c).getD j 0 * (cK c - q3).tdiv ((cC c).getD j 0) := by omega
        exact Int.eq_of_mul_eq_mul_left c1 this
      rw [ef]
      have nz : (listD (d.getD j dom0)).filter (fun x => !(decide (x = (cK c - q3).tdiv ((cC c).getD j 0)))) ≠ [] := by
       rw [lists_at j1] at j3
       intro e
       rw [List.filter_eq_nil_iff] at e
       have all : ∀ x ∈ listD (d.getD j dom0), x = (cK c - q3).tdiv ((cC c).getD j 0) := fun x hx => by
        have := e x hx
        simpa using this
       have hr := (hG _ (getD_memD j1 dom0)).ris
       generalize listD (d.getD j dom0) = L at j3 all hr
       cases L with
       | nil => simp at j3
       | cons a L =>
        cases L with
        | nil => simp at j3
        | cons b L =>
         have h1 := all a (by simp)
         have h2 := all b (by simp)
         have := (List.pairwise_cons.mp hr).1 b (by simp)
         omega
      rw [if_neg nz]
      obtain ⟨o1, o2⟩ := W.out nz
      refine ⟨rfl, fun _ => ⟨?_, fun x hx => ?_⟩⟩
      ·show listsL (d.set j _) = _
       rw [lists_set, o1]
      ·have hx : x ∈ d.set j (withoutD (d.getD j dom0) ((cK c - q3).tdiv ((cC c).getD j 0))).1 := hx
       rcases List.mem_or_eq_of_mem_set hx with hx | rfl
       ·exact hG x hx
       ·exact o2
     ·rw [if_neg c2, whole _ fun v _ => ?_]
      ·exact ⟨rfl, fun _ => ⟨rfl, hG⟩⟩
      ·rw [decide_eq_false]
       ·rfl
       ·intro e
        apply c2
        have e2 : cK c - q3 = (cC c).getD j 0 * v := by omega
        rw [e2]
        exact Int.mul_tmod_right _ _
 ·unfold unlikeB lowsB cloneB
  rw [decide_eq_true (show (cC c).length ≤ d.length by omega), Nat.ble_eq_true_of_le (show (cC c).length ≤ 1000 by omega), List.all_eq_true.mpr h.mill, List.all_eq_true.mpr fun x hx => (hG x hx).endsB, decide_eq_true (show -10000000000 ≤ cK c by omega), decide_eq_true (show cK c ≤ 10000000000 by omega),
   List.all_eq_true.mpr fun x hx => (hG x hx).dom, decide_eq_false (show ¬ d.length = 0 by omega), Nat.ble_eq_true_of_le (show d.length ≤ 1000000 by omega), decide_eq_true (show (cC c).length ≤ 64 by omega)]
  rfl
 ·have := h.by (s := 1) (.inl rfl) (most := cK c) (by omega) hlg ht (by rw [lists_len]; exact hl)
  unfold byRB at this
  rw [show (decide ((1 : Int) = 1) || decide ((1 : Int) = -1)) = true from rfl, Bool.true_and] at this
  exact this
end Go.Proofs.YtnojoaghcbljfaaGreatDoor.Ev
