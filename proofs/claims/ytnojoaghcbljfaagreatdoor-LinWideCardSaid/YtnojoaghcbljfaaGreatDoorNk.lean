/-
Linear constraints: what is bound is what the document's is; both ways till nothing changes.
Conditions: none.
Linear constraints: what the document's filter keeps. Plain lists.
Conditions: none.
-/
import Derived.Test.YtnojoaghcbljfaaGreatDoorLo
import Derived.Test.YtnojoaghcbljfaaGreatDoorDb
set_option linter.unusedVariables false
set_option linter.unusedSimpArgs false
set_option maxRecDepth 100000
namespace Go.Proofs.YtnojoaghcbljfaaGreatDoor.Ev
open Go
def sc (s : Int) (c : List Int) : List Int := c.map fun k => s * k
theorem sc_one (c : List Int) : sc 1 c = c := by unfold sc; simp
theorem sc_neg (c : List Int) : sc (-1) c = turnedL c := by unfold sc turnedL; simp
theorem sc_get (s : Int) (c : List Int) (i : Nat) : (sc s c).getD i 0 = s * c.getD i 0 := by
 unfold sc
 rw [List.getD_eq_getElem?_getD, List.getD_eq_getElem?_getD, List.getElem?_map]
 cases c[i]? with
 | none => simp
 | some k => rfl
theorem sc_len (s : Int) (c : List Int) : (sc s c).length = c.length := by unfold sc; simp
def keepG (all most k : Int) (x : Dom) : List Int := (listD x).filter fun v => decide (k * v ≤ most - (all - leastT k x))
def AllG (d : List Dom) : Prop := ∀ x ∈ d, G x
theorem lists_len (d : List Dom) : (listsL d).length = d.length := by unfold listsL; simp
theorem lists_at {d : List Dom} {i : Nat} (h : i < d.length) : (listsL d).getD i [] = listD (d.getD i dom0) := by
 unfold listsL
 rw [List.getD_eq_getElem?_getD, List.getD_eq_getElem?_getD, List.getElem?_map, List.getElem?_eq_getElem h]
 rfl
theorem lists_ext {d e : List Dom} (hl : d.length = e.length) (h : ∀ i, i < d.length → listD (d.getD i dom0) = listD (e.getD i dom0)) : listsL d = listsL e := by
 apply List.ext_getElem (by rw [lists_len, lists_len, hl])
 intro i h1 h2
 rw [lists_len] at h1 h2
 have := h i h1
 rw [← lists_at h1, ← lists_at h2] at this
 rwa [getD_get (by rw [lists_len]; exact h1), getD_get (by rw [lists_len]; exact h2)] at this
structure BGo (all most : Int) (c : List Int) (d : List Dom) (r : List Dom × Bool) : Prop where
  len : r.1.length = d.length
  ne : ∀ i, i < d.length → keepG all most (c.getD i 0) (d.getD i dom0) ≠ []
  out : ∀ i, i < d.length → listD (r.1.getD i dom0) = keepG all most (c.getD i 0) (d.getD i dom0) ∧ G (r.1.getD i dom0)
  same : r.2 = false ↔ ∀ i, i < d.length → keepG all most (c.getD i 0) (d.getD i dom0) = listD (d.getD i dom0)
theorem boundGo_spec {all most : Int} : ∀ {c : List Int} {d : List Dom}, c.length = d.length → AllG d →
  (boundGo all most c d = none → ∃ i, i < d.length ∧ keepG all most (c.getD i 0) (d.getD i dom0) = []) ∧ (∀ r, boundGo all most c d = some r → BGo all most c d r)
 | [], [], _, _ => by
  refine ⟨fun h => (by cases h), fun r h => ?_⟩
  simp only [boundGo, Option.some.injEq] at h
  subst h
  exact ⟨rfl, fun i hi => absurd hi (by simp), fun i hi => absurd hi (by simp), ⟨fun _ i hi => absurd hi (by simp), fun _ => rfl⟩⟩
 | [], _ :: _, h, _ => by simp at h
 | _ :: _, [], h, _ => by simp at h
 | k :: ks, x :: xs, hl, hG => by
  obtain ⟨ih1, ih2⟩ := boundGo_spec (all := all) (most := most) (c := ks) (d := xs) (by simpa using hl) (fun y hy => hG y (List.mem_cons_of_mem _ hy))
  have hc := cutT_G (hG x List.mem_cons_self) k (most - (all - leastT k x))
  have e0 : keepG all most k x = (listD x).filter fun v => decide (k * v ≤ most - (all - leastT k x)) := rfl
  rw [← e0] at hc
  unfold boundGo
  by_cases c4 : (cutT k (most - (all - leastT k x)) x).2 = 4
  ·rw [if_pos c4]
   exact ⟨fun _ => ⟨0, by simp, hc.four.mp c4⟩, fun r h => (by cases h)⟩
  ·rw [if_neg c4]
   have hne : keepG all most k x ≠ [] := fun h => c4 (hc.four.mpr h)
   obtain ⟨o1, o2⟩ := hc.out hne
   cases hg : boundGo all most ks xs with
   | none =>
    refine ⟨fun _ => ?_, fun r h => (by cases h)⟩
    obtain ⟨i, hi, he⟩ := ih1 hg
    exact ⟨i + 1, by simpa using hi, he⟩
   | some q =>
    refine ⟨fun h => (by cases h), fun r h => ?_⟩
    have B := ih2 q hg
    simp only [Option.some.injEq] at h
    subst h
    refine ⟨by simp [B.len], fun i hi => ?_, fun i hi => ?_, ?_⟩
    ·cases i with
     | zero => exact hne
     | succ i => exact B.ne i (by simpa using hi)
    ·cases i with
     | zero => exact ⟨o1, o2⟩
     | succ i => exact B.out i (by simpa using hi)
    ·show (!(decide ((cutT k (most - (all - leastT k x)) x).2 = 0)) || q.2) = false ↔ _
     rw [Bool.or_eq_false_iff]
     constructor
     ·rintro ⟨h1, h2⟩ i hi
      cases i with
      | zero =>
       refine hc.zero.mp ?_
       by_cases c0 : (cutT k (most - (all - leastT k x)) x).2 = 0
       ·exact c0
       ·rw [decide_eq_false c0] at h1; cases h1
      | succ i => exact B.same.mp h2 i (by simpa using hi)
     ·intro h
      refine ⟨?_, B.same.mpr fun i hi => h (i + 1) (by simpa using hi)⟩
      rw [decide_eq_true (hc.zero.mpr (h 0 (by simp)))]
      rfl
theorem lowsR_D (s : Int) : ∀ (c : List Int) (d : List Dom), AllG d → lowsR s c (listsL d) = lowsD (sc s c) d
 | [], d, _ => by cases d <;> rfl
 | _ :: _, [], _ => rfl
 | k :: ks, x :: xs, h => by
  show lowR (s * k) (listD x) + lowsR s ks (listsL xs) = leastT (s * k) x + lowsD (sc s ks) xs
  rw [(h x List.mem_cons_self).low, lowsR_D s ks xs fun y hy => h y (List.mem_cons_of_mem _ hy)]
theorem others_neg (s : Int) : ∀ (c : List Int) (d : List (List Int)) (i : Int), i < 0 → othersR s i c d = lowsR s c d
 | [], d, _, _ => by cases d <;> rfl
 | _ :: _, [], _, _ => rfl
 | k :: ks, x :: xs, i, h => by
  unfold othersR lowsR
  rw [if_neg (by omega), others_neg s ks xs (i - 1) (by omega)]
theorem others_at (s : Int) : ∀ (c : List Int) (d : List (List Int)) (i : Nat), i < c.length → i < d.length → othersR s (i : Int) c d = lowsR s c d - lowR (s * c.getD i 0) (d.getD i [])
 | [], _, i, h, _ => by simp at h
 | _ :: _, [], i, _, h => by simp at h
 | k :: ks, x :: xs, 0, _, _ => by
  unfold othersR lowsR
  rw [if_pos (show ((0 : Nat) : Int) = 0 from rfl), others_neg s ks xs _ (by omega)]
  show _ = lowR (s * k) x + lowsR s ks xs - lowR (s * k) x
  omega
 | k :: ks, x :: xs, i + 1, h1, h2 => by
  unfold othersR lowsR
  have ih := others_at s ks xs i (by simpa using h1) (by simpa using h2)
  rw [if_neg (by omega), show ((i + 1 : Nat) : Int) - 1 = (i : Int) by omega, ih]
  show _ = lowR (s * k) x + lowsR s ks xs - lowR (s * ks.getD i 0) (xs.getD i [])
  omega
theorem keepR_G {c : List Int} {s most : Int} {d : List Dom} (hG : AllG d) (hl : c.length = d.length) {i : Nat} (hi : i < d.length) : keepR s most c (listsL d) i = keepG (lowsD (sc s c) d) most ((sc s c).getD i 0) (d.getD i dom0) := by
 unfold keepR keepG
 rw [lists_at hi, others_at s c (listsL d) i (by omega) (by rw [lists_len]; exact hi), lowsR_D s c d hG, lists_at hi, (hG _ (getD_memD hi dom0)).low, sc_get]
 refine filter_in fun v _ => ?_
 generalize s * c.getD i 0 * v = a
 generalize lowsD (sc s c) d = b
 generalize leastT (s * c.getD i 0) (d.getD i dom0) = e
 by_cases h : a ≤ most - (b - e)
 ·rw [decide_eq_true h, decide_eq_true (by omega)]
 ·rw [decide_eq_false h, decide_eq_false (by omega)]
structure Same (r : List Dom × Bool) (q : List (List Int) × Bool) : Prop where
  ok : r.2 = q.2
  lists : q.2 = true → listsL r.1 = q.1 ∧ AllG r.1
theorem bound_by {c : List Int} {s most : Int} {d : List Dom} (hG : AllG d) (hl : c.length = d.length) :
  Same ((boundD (sc s c) most d).1, (boundD (sc s c) most d).2.2) (byR c s most (listsL d)) ∧ ((byR c s most (listsL d)).2 = true → ((boundD (sc s c) most d).2.1 = false ↔ (byR c s most (listsL d)).1 = listsL d)) := by
 obtain ⟨g1, g2⟩ := boundGo_spec (all := lowsD (sc s c) d) (most := most) (c := sc s c) (d := d) (by rw [sc_len]; exact hl) hG
 unfold boundD byR
 rw [lists_len]
 cases hg : boundGo (lowsD (sc s c) d) most (sc s c) d with
 | none =>
  obtain ⟨i, hi, he⟩ := g1 hg
  have : (List.range d.length).all (fun i => !(keepR s most c (listsL d) i).isEmpty) = false := by
   rw [List.all_eq_false]
   refine ⟨i, List.mem_range.mpr hi, ?_⟩
   rw [keepR_G hG hl hi, he]
   simp
  rw [this]
  exact ⟨⟨rfl, fun h => (by cases h)⟩, fun h => (by cases h)⟩
 | some r =>
  have B := g2 r hg
  have hall : (List.range d.length).all (fun i => !(keepR s most c (listsL d) i).isEmpty) = true := by
   rw [List.all_eq_true]
   intro i hi
   have hi := List.mem_range.mp hi
   have := B.ne i hi
   rw [keepR_G hG hl hi]
   cases hk : keepG (lowsD (sc s c) d) most ((sc s c).getD i 0) (d.getD i dom0) with
   | nil => exact absurd hk this
   | cons => rfl
  rw [hall]
  have el : listsL r.1 = (List.range d.length).map (keepR s most c (listsL d)) := by
   apply List.ext_getElem (by rw [lists_len, B.len]; simp)
   intro i h1 h2
   rw [lists_len, B.len] at h1
   have e := lists_at (d := r.1) (i := i) (by rw [B.len]; exact h1)
   rw [getD_get (by rw [lists_len, B.len]; exact h1)] at e
   rw [e, (B.out i h1).1, List.getElem_map, List.getElem_range, keepR_G hG hl h1]
  refine ⟨⟨rfl, fun _ => ⟨el, fun x hx => ?_⟩⟩, fun _ => ?_⟩
  ·obtain ⟨i, hi, rfl⟩ := getD_of_mem hx dom0
   exact (B.out i (by rw [← B.len]; exact hi)).2
  ·show r.2 = false ↔ (List.range d.length).map (keepR s most c (listsL d)) = listsL d
   rw [B.same, ← el]
   constructor
   ·intro h
    exact lists_ext B.len fun i hi => by rw [(B.out i (by rw [← B.len]; exact hi)).1, h i (by rw [← B.len]; exact hi)]
   ·intro h i hi
    rw [← (B.out i hi).1, ← lists_at (by rw [B.len]; exact hi), h, lists_at hi]
def tot (l : List (List Int)) : Nat := (l.map List.length).sum
theorem tot_le : ∀ {l m : List (List Int)}, l.length = m.length → (∀ i, i < l.length → (l.getD i []).length ≤ (m.getD i []).length) → tot l ≤ tot m ∧ (tot l = tot m → ∀ i, i < l.length → (l.getD i []).length = (m.getD i []).length)
 | [], [], _, _ => ⟨Nat.le_refl _, fun _ i hi => absurd hi (by simp)⟩
 | [], _ :: _, h, _ => by simp at h
 | _ :: _, [], h, _ => by simp at h
 | x :: l, y :: m, hl, h => by
  obtain ⟨h1, h2⟩ := tot_le (l := l) (m := m) (by simpa using hl) (fun i hi => h (i + 1) (by simpa using hi))
  have h0 : x.length ≤ y.length := h 0 (by simp)
  have e1 : tot (x :: l) = x.length + tot l := rfl
  have e2 : tot (y :: m) = y.length + tot m := rfl
  refine ⟨by omega, fun e i hi => ?_⟩
  cases i with
  | zero => show x.length = y.length; omega
  | succ i => exact h2 (by omega) i (by simpa using hi)
theorem tot_mem : ∀ {l : List (List Int)} {x : List Int}, x ∈ l → x.length ≤ tot l
 | y :: l, x, h => by
  have e1 : tot (y :: l) = y.length + tot l := rfl
  rcases List.mem_cons.mp h with rfl | h
  ·omega
  ·have := tot_mem h
   omega
theorem keepR_sub {c : List Int} {s most : Int} {l : List (List Int)} {i : Nat} : (keepR s most c l i).length ≤ (l.getD i []).length ∧ ((keepR s most c l i).length = (l.getD i []).length → keepR s most c l i = l.getD i []) := by
 unfold keepR
 exact ⟨List.length_filter_le _ _, fun h => filter_len_eq h⟩
structure Part (q l : List (List Int)) : Prop where
  len : q.length = l.length
  le : ∀ i, i < q.length → (q.getD i []).length ≤ (l.getD i []).length
  eq : ∀ i, i < q.length → (q.getD i []).length = (l.getD i []).length → q.getD i [] = l.getD i []
theorem range_getD {f : Nat → List Int} {n i : Nat} (h : i < n) : ((List.range n).map f).getD i [] = f i := by
 rw [List.getD_eq_getElem?_getD, List.getElem?_map, List.getElem?_range h]
 rfl
theorem by_part {c : List Int} {s most : Int} {l : List (List Int)} (h : (byR c s most l).2 = true) : Part (byR c s most l).1 l := by
 unfold byR at h ⊢
 cases hall : (List.range l.length).all (fun i => !(keepR s most c l i).isEmpty) with
 | false => rw [hall] at h; cases h
 | true =>
  refine ⟨by simp, fun i hi => ?_, fun i hi => ?_⟩
  ·have hi : i < l.length := by simpa using hi
   show (((List.range l.length).map (keepR s most c l)).getD i []).length ≤ _
   rw [range_getD hi]
   exact keepR_sub.1
  ·have hi : i < l.length := by simpa using hi
   show (((List.range l.length).map (keepR s most c l)).getD i []).length = _ → ((List.range l.length).map (keepR s most c l)).getD i [] = _
   rw [range_getD hi]
   exact keepR_sub.2
theorem Part.ext {q l : List (List Int)} (h : Part q l) (e : tot q = tot l) : q = l := by
 have h2 := (tot_le h.len h.le).2 e
 apply List.ext_getElem h.len
 intro i h1 h3
 have := h.eq i h1 (h2 i h1)
 rwa [getD_get h1, getD_get h3] at this
theorem Part.tot {q l : List (List Int)} (h : Part q l) : Ev.tot q ≤ Ev.tot l := (tot_le h.len h.le).1
theorem Part.trans {p q l : List (List Int)} (h : Part p q) (g : Part q l) : Part p l := ⟨h.len.trans g.len, fun i hi => Nat.le_trans (h.le i hi) (g.le i (by rw [← h.len]; exact hi)), fun i hi e => by
 have h1 := h.le i hi
 have h2 := g.le i (by rw [← h.len]; exact hi)
 rw [h.eq i hi (by omega), g.eq i (by rw [← h.len]; exact hi) (by omega)]⟩
structure LinC (C : List Int) (K : Int) (n : Nat) : Prop where
  len : C.length = n
  n1 : 1 ≤ n
  n64 : n ≤ 64
  mill : ∀ x ∈ C, millB x = true
  K1 : -9999999999 ≤ K
  K2 : K ≤ 9999999999
theorem LinC.turned {C : List Int} {K : Int} {n : Nat} (h : LinC C K n) : turnedB C = true := by
 unfold turnedB
 have h1 := h.len
 have h2 := h.n64
 rw [List.all_eq_true.mpr h.mill, Nat.ble_eq_true_of_le (show C.length ≤ 1000 by omega)]
 rfl
theorem mill_sc {s : Int} (hs : s = 1 ∨ s = -1) {C : List Int} (h : ∀ x ∈ C, millB x = true) : ∀ x ∈ sc s C, millB x = true := by
 intro x hx
 obtain ⟨y, hy, rfl⟩ := List.mem_map.mp hx
 have := mill_iff' (h y hy)
 rw [mill_iff]
 rcases hs with h | h <;> rw [h] <;> omega
theorem LinC.bound {C : List Int} {K : Int} {n : Nat} (h : LinC C K n) {s : Int} (hs : s = 1 ∨ s = -1) {most : Int} (hm : -10000000000 ≤ most ∧ most ≤ 10000000000) {d : List Dom} (hG : AllG d) (hl : d.length = n) : boundB (sc s C) most d = true := by
 have h1 := h.len
 have h2 := h.n64
 have h3 := h.n1
 unfold boundB lowsB sumsB cloneB
 rw [sc_len, decide_eq_true (show C.length ≤ d.length by omega), Nat.ble_eq_true_of_le (show C.length ≤ 1000 by omega), List.all_eq_true.mpr (mill_sc hs h.mill), List.all_eq_true.mpr fun x hx => (hG x hx).endsB, decide_eq_true (show -1099511627776000 ≤ most by omega),
  decide_eq_true (show most ≤ 1099511627776000 by omega), List.all_eq_true.mpr fun x hx => (hG x hx).dom, decide_eq_false (show ¬ d.length = 0 by omega), Nat.ble_eq_true_of_le (show d.length ≤ 1000000 by omega)]
 rfl
def Lg (l : List (List Int)) : Prop := ∀ x ∈ l, x ≠ [] ∧ ∀ v ∈ x, inD v = true
theorem lg_lists {d : List Dom} (h : AllG d) : Lg (listsL d) := by
 intro x hx
 obtain ⟨y, hy, rfl⟩ := List.mem_map.mp hx
 exact ⟨(h y hy).ne, (h y hy).inn⟩
theorem LinC.by {C : List Int} {K : Int} {n : Nat} (h : LinC C K n) {s : Int} (hs : s = 1 ∨ s = -1) {most : Int} (hm : -10000000000 ≤ most ∧ most ≤ 10000000000) {l : List (List Int)} (hG : Lg l) (ht : tot l ≤ 100000) (hl : l.length = n) : byRB C s most l = true := by
 have h1 := h.len
 have h2 := h.n64
 unfold byRB sumsB
 have e : (decide (s = 1) || decide (s = -1)) = true := by rcases hs with h | h <;> rw [h] <;> decide
 rw [e, decide_eq_true (show C.length = l.length by omega), Nat.ble_eq_true_of_le (show l.length ≤ 1000 by omega), List.all_eq_true.mpr h.mill, decide_eq_true (show -1099511627776000 ≤ most by omega), decide_eq_true (show most ≤ 1099511627776000 by omega)]
 show l.all _ = true
 rw [List.all_eq_true]
 intro x hx
 obtain ⟨g1, g2⟩ := hG x hx
 have := tot_mem hx
 rw [decide_eq_true (List.length_pos_iff.mpr g1), Nat.ble_eq_true_of_le (show x.length ≤ 100000 by omega), List.all_eq_true.mpr fun v hv => inD_mill (g2 v hv)]
 rfl
theorem equal_same {C : List Int} {K : Int} {N : Nat} (h : LinC C K N) : ∀ (n : Nat) (d : List Dom), AllG d → d.length = N → tot (listsL d) < n → n ≤ 100000 →
  Same (equalGo C K n d) (equalGoR C K n (listsL d)) ∧ equalOk C K n d = true ∧ equalOkR C K n (listsL d) = true ∧ ((equalGoR C K n (listsL d)).2 = true → Part (equalGoR C K n (listsL d)).1 (listsL d) ∧ (byR C 1 K (equalGoR C K n (listsL d)).1) = ((equalGoR C K n (listsL d)).1, true) ∧ (byR C (-1) (-K) (equalGoR C K n (listsL d)).1) = ((equalGoR C K n (listsL d)).1, true))
 | 0, d, _, _, ht, _ => by omega
 | n + 1, d, hG, hl, ht, hn => by
  have hK1 := h.K1
  have hK2 := h.K2
  have hlen := h.len
  have b1 := h.bound (s := 1) (.inl rfl) (most := K) (by omega) hG hl
  rw [sc_one] at b1
  have r1 := h.by (s := 1) (.inl rfl) (most := K) (by omega) (lg_lists hG) (by omega) (by rw [lists_len]; exact hl)
  obtain ⟨S1, c1⟩ := bound_by (c := C) (s := 1) (most := K) hG (by omega)
  rw [sc_one] at S1 c1
  have tb := h.turned
  unfold equalGo equalGoR equalOk equalOkR
  rw [b1, r1, tb]
  have o1 : (boundD C K d).2.2 = (byR C 1 K (listsL d)).2 := S1.ok
  rw [o1]
  cases hq1 : (byR C 1 K (listsL d)).2 with
  | false => exact ⟨⟨rfl, fun h => (by cases h)⟩, rfl, rfl, fun h => (by cases h)⟩
  | true =>
   obtain ⟨l1, g1⟩ := S1.lists hq1
   have l1 : listsL (boundD C K d).1 = (byR C 1 K (listsL d)).1 := l1
   have g1 : AllG (boundD C K d).1 := g1
   have p1 := by_part hq1
   have len1 : (boundD C K d).1.length = N := by rw [← lists_len, l1, p1.len, lists_len, hl]
   have b2 := h.bound (s := -1) (.inr rfl) (most := -K) (by omega) g1 len1
   rw [sc_neg] at b2
   have t1 := p1.tot
   have r2 := h.by (s := -1) (.inr rfl) (most := -K) (by omega) (lg_lists g1) (by rw [l1]; omega) (by rw [lists_len]; exact len1)
   obtain ⟨S2, c2⟩ := bound_by (c := C) (s := -1) (most := -K) g1 (by omega)
   rw [sc_neg] at S2 c2
   rw [l1] at r2 S2 c2
   have o2 : (boundD (turnedL C) (-K) (boundD C K d).1).2.2 = (byR C (-1) (-K) (byR C 1 K (listsL d)).1).2 := S2.ok
   rw [b2, r2, o2]
   cases hq2 : (byR C (-1) (-K) (byR C 1 K (listsL d)).1).2 with
   | false => exact ⟨⟨rfl, fun h => (by cases h)⟩, rfl, rfl, fun h => (by cases h)⟩
   | true =>
    obtain ⟨l2, g2⟩ := S2.lists hq2
    have l2 : listsL (boundD (turnedL C) (-K) (boundD C K d).1).1 = (byR C (-1) (-K) (byR C 1 K (listsL d)).1).1 := l2
    have g2 : AllG (boundD (turnedL C) (-K) (boundD C K d).1).1 := g2
    have p2 := by_part hq2
    have t2 := p2.tot
    have p3 := p2.trans p1
    have len2 : (boundD (turnedL C) (-K) (boundD C K d).1).1.length = N := by rw [← lists_len, l2, p3.len, lists_len, hl]
    have hb : (Nat.ble (byR C (-1) (-K) (byR C 1 K (listsL d)).1).1.length 1000 && lensB (byR C (-1) (-K) (byR C 1 K (listsL d)).1).1) = true := by
     have := h.n64
     rw [p3.len, lists_len, Nat.ble_eq_true_of_le (show d.length ≤ 1000 by omega)]
     unfold lensB
     show List.all _ _ = true
     rw [List.all_eq_true]
     intro x hx
     have := tot_mem hx
     exact Nat.ble_eq_true_of_le (by omega)
    rw [hb]
    have c1 := c1 hq1
    have c2 := c2 hq2
    by_cases same : (byR C (-1) (-K) (byR C 1 K (listsL d)).1).1 = listsL d
    ·have e1 : (byR C 1 K (listsL d)).1 = listsL d := p1.ext (by rw [same] at t2; omega)
     have f1 : (boundD C K d).2.1 = false := c1.mpr e1
     have f2 : (boundD (turnedL C) (-K) (boundD C K d).1).2.1 = false := c2.mpr (same.trans e1.symm)
     have s1 : sameL (byR C (-1) (-K) (byR C 1 K (listsL d)).1).1 (listsL d) = true := decide_eq_true same
     rw [f1, f2, s1]
     refine ⟨⟨rfl, fun _ => ⟨l2, g2⟩⟩, rfl, rfl, fun _ => ⟨p3, ?_, ?_⟩⟩
     ·show byR C 1 K (byR C (-1) (-K) (byR C 1 K (listsL d)).1).1 = ((byR C (-1) (-K) (byR C 1 K (listsL d)).1).1, true)
      rw [same]
      exact Prod.ext e1 hq1
     ·show byR C (-1) (-K) (byR C (-1) (-K) (byR C 1 K (listsL d)).1).1 = ((byR C (-1) (-K) (byR C 1 K (listsL d)).1).1, true)
      rw [same]
      rw [e1] at hq2 same
      exact Prod.ext same hq2
    ·have s1 : sameL (byR C (-1) (-K) (byR C 1 K (listsL d)).1).1 (listsL d) = false := decide_eq_false same
     have ff : ((boundD C K d).2.1 || (boundD (turnedL C) (-K) (boundD C K d).1).2.1) = true := by
      cases f1 : (boundD C K d).2.1 with
      | true => rfl
      | false =>
       cases f2 : (boundD (turnedL C) (-K) (boundD C K d).1).2.1 with
       | true => rfl
       | false => exact absurd ((c2.mp f2).trans (c1.mp f1)) same
     have ht3 : tot (byR C (-1) (-K) (byR C 1 K (listsL d)).1).1 ≠ tot (listsL d) := fun e => same (p3.ext e)
     rw [s1, ff]
     obtain ⟨k1, k2, k3, k4⟩ := equal_same h n (boundD (turnedL C) (-K) (boundD C K d).1).1 g2 len2 (by rw [l2]; omega) (by omega)
     rw [l2] at k1 k3 k4
     refine ⟨k1, by simpa using k2, by simpa using k3, fun hk => ?_⟩
     obtain ⟨k5, k6⟩ := k4 hk
     exact ⟨k5.trans p3, k6⟩
end Go.Proofs.YtnojoaghcbljfaaGreatDoor.Ev
set_option linter.unusedVariables false
set_option linter.unusedSimpArgs false
set_option maxRecDepth 100000
namespace Go.Proofs.YtnojoaghcbljfaaGreatDoor.Ev
open Go
def dot : List Int → List Int → Int
 | k :: ks, v :: vs => k * v + dot ks vs
 | _, _ => 0
def Rs (l : List (List Int)) : Prop := ∀ x ∈ l, x ≠ [] ∧ Rising x
theorem low_spec {k : Int} {x : List Int} (hr : Rising x) (hn : x ≠ []) : (∃ v ∈ x, lowR k x = k * v) ∧ ∀ v ∈ x, lowR k x ≤ k * v := by
 obtain ⟨g1, g2⟩ := rising_ends hr hn
 have hl : 0 < x.length := List.length_pos_iff.mpr hn
 have m1 := getD_memD hl 0
 have m2 := getD_memD (show x.length - 1 < x.length by omega) 0
 unfold lowR
 refine ⟨?_, fun v hv => ?_⟩
 ·split
  ·exact ⟨_, m1, rfl⟩
  ·exact ⟨_, m2, rfl⟩
 ·have h1 := g1 v hv
  have h2 := g2 v hv
  by_cases hk : 0 ≤ k
  ·have := Int.mul_le_mul_of_nonneg_left h1 hk
   split <;> omega
  ·have := Int.mul_le_mul_of_nonpos_left (show k ≤ 0 by omega) h2
   split <;> omega
theorem gap_at (s : Int) : ∀ {C : List Int} {l : List (List Int)} {r : List Int}, C.length = l.length → Rs l → InP r l → lowsR s C l ≤ dot (sc s C) r ∧ ∀ i, i < l.length → s * C.getD i 0 * r.getD i 0 - lowR (s * C.getD i 0) (l.getD i []) ≤ dot (sc s C) r - lowsR s C l
 | [], [], _, _, _, .nil => ⟨Int.le_refl _, fun i hi => absurd hi (by simp)⟩
 | [], _ :: _, _, h, _, _ => by simp at h
 | _ :: _, [], _, h, _, _ => by simp at h
 | k :: ks, x :: xs, _, hl, hR, @F2.cons _ _ _ v _ vs _ hv t => by
  obtain ⟨i1, i2⟩ := gap_at s (C := ks) (l := xs) (by simpa using hl) (fun y hy => hR y (List.mem_cons_of_mem _ hy)) t
  obtain ⟨h1, h2⟩ := hR x List.mem_cons_self
  have h3 := (low_spec (k := s * k) h2 h1).2 v hv
  have e1 : dot (sc s (k :: ks)) (v :: vs) = s * k * v + dot (sc s ks) vs := rfl
  have e2 : lowsR s (k :: ks) (x :: xs) = lowR (s * k) x + lowsR s ks xs := rfl
  rw [e1, e2]
  refine ⟨by omega, fun i hi => ?_⟩
  cases i with
  | zero =>
   show s * k * v - lowR (s * k) x ≤ _
   omega
  | succ i =>
   have := i2 i (by simpa using hi)
   show s * ks.getD i 0 * vs.getD i 0 - lowR (s * ks.getD i 0) (xs.getD i []) ≤ _
   omega
theorem keepR_mem {C : List Int} {s most : Int} {l : List (List Int)} (hl : C.length = l.length) {i : Nat} (hi : i < l.length) (v : Int) :
  v ∈ keepR s most C l i ↔ v ∈ l.getD i [] ∧ s * C.getD i 0 * v + (lowsR s C l - lowR (s * C.getD i 0) (l.getD i [])) ≤ most := by
 unfold keepR
 rw [List.mem_filter, decide_eq_true_eq, others_at s C l i (by omega) hi]
theorem by_ok {C : List Int} {s most : Int} {l : List (List Int)} : (byR C s most l).2 = true ↔ ∀ i, i < l.length → keepR s most C l i ≠ [] := by
 unfold byR
 cases hall : (List.range l.length).all (fun i => !(keepR s most C l i).isEmpty) with
 | true =>
  refine ⟨fun _ i hi h => ?_, fun _ => rfl⟩
  rw [List.all_eq_true] at hall
  have := hall i (List.mem_range.mpr hi)
  rw [h] at this
  cases this
 | false =>
  refine ⟨fun h => (by cases h), fun h => ?_⟩
  rw [List.all_eq_false] at hall
  obtain ⟨i, hi, he⟩ := hall
  have := h i (List.mem_range.mp hi)
  cases hk : keepR s most C l i with
  | nil => exact absurd hk this
  | cons a b => rw [hk] at he; exact absurd rfl he
theorem by_val {C : List Int} {s most : Int} {l : List (List Int)} (h : (byR C s most l).2 = true) : (byR C s most l).1 = (List.range l.length).map (keepR s most C l) := by
 unfold byR at h ⊢
 cases hall : (List.range l.length).all (fun i => !(keepR s most C l i).isEmpty) with
 | true => rfl
 | false => rw [hall] at h; cases h
theorem by_get {C : List Int} {s most : Int} {l : List (List Int)} (h : (byR C s most l).2 = true) {i : Nat} (hi : i < l.length) : (byR C s most l).1.getD i [] = keepR s most C l i := by
 rw [by_val h, range_getD hi]
theorem by_len' {C : List Int} {s most : Int} {l : List (List Int)} (h : (byR C s most l).2 = true) : (byR C s most l).1.length = l.length := by rw [by_val h]; simp
theorem by_rs {C : List Int} {s most : Int} {l : List (List Int)} (hR : Rs l) (h : (byR C s most l).2 = true) : Rs (byR C s most l).1 := by
 intro x hx
 obtain ⟨i, hi, rfl⟩ := getD_of_mem hx []
 rw [by_len' h] at hi
 rw [by_get h hi]
 refine ⟨by_ok.mp h i hi, ?_⟩
 unfold keepR
 exact (hR _ (getD_memD hi [])).2.filter _
theorem by_sub {C : List Int} {s most : Int} {l : List (List Int)} (h : (byR C s most l).2 = true) {i : Nat} {v : Int} (hi : i < l.length) (hv : v ∈ (byR C s most l).1.getD i []) : v ∈ l.getD i [] := by
 rw [by_get h hi] at hv
 unfold keepR at hv
 exact (List.mem_filter.mp hv).1
theorem by_keeps {C : List Int} {s most : Int} {l : List (List Int)} (hl : C.length = l.length) (hR : Rs l) {r : List Int} (hr : InP r l) (hd : dot (sc s C) r ≤ most) : (byR C s most l).2 = true ∧ InP r (byR C s most l).1 := by
 obtain ⟨g1, g2⟩ := gap_at s hl hR hr
 have mem : ∀ i, i < l.length → r.getD i 0 ∈ keepR s most C l i := fun i hi => (keepR_mem hl hi _).mpr ⟨hr.getD (by rw [hr.len]; exact hi) 0 [], by have := g2 i hi; omega⟩
 have ok : (byR C s most l).2 = true := by_ok.mpr fun i hi h => by have := mem i hi; rw [h] at this; cases this
 refine ⟨ok, F2.ofD 0 [] (by rw [hr.len, by_len' ok]) fun i hi => ?_⟩
 rw [hr.len] at hi
 rw [by_get ok hi]
 exact mem i hi
theorem lows_congr (s : Int) : ∀ {C : List Int} {l m : List (List Int)}, l.length = m.length → (∀ i, i < l.length → lowR (s * C.getD i 0) (l.getD i []) = lowR (s * C.getD i 0) (m.getD i [])) → lowsR s C l = lowsR s C m
 | [], l, m, _, _ => by cases l <;> cases m <;> rfl
 | _ :: _, [], [], _, _ => rfl
 | _ :: _, [], _ :: _, h, _ => by simp at h
 | _ :: _, _ :: _, [], h, _ => by simp at h
 | k :: ks, x :: l, y :: m, hl, h => by
  have e := lows_congr s (C := ks) (l := l) (m := m) (by simpa using hl) fun i hi => h (i + 1) (by simpa using hi)
  have e0 : lowR (s * k) x = lowR (s * k) y := h 0 (by simp)
  show lowR (s * k) x + lowsR s ks l = lowR (s * k) y + lowsR s ks m
  rw [e, e0]
theorem by_again {C : List Int} {s most : Int} {l : List (List Int)} (hl : C.length = l.length) (hR : Rs l) (h : (byR C s most l).2 = true) :
  byR C s most (byR C s most l).1 = ((byR C s most l).1, true) ∧ lowsR s C (byR C s most l).1 = lowsR s C l := by
 have hlen := by_len' h
 have hR2 := by_rs hR h
 have low : ∀ i, i < l.length → lowR (s * C.getD i 0) ((byR C s most l).1.getD i []) = lowR (s * C.getD i 0) (l.getD i []) := fun i hi => by
  obtain ⟨n1, r1⟩ := hR _ (getD_memD hi [])
  obtain ⟨⟨v, v1, v2⟩, v3⟩ := low_spec (k := s * C.getD i 0) r1 n1
  obtain ⟨n2, r2⟩ := hR2 _ (getD_memD (show i < (byR C s most l).1.length by omega) [])
  obtain ⟨⟨u, u1, u2⟩, u3⟩ := low_spec (k := s * C.getD i 0) r2 n2
  have u4 := v3 u (by_sub h hi u1)
  have hu := u1
  rw [by_get h hi] at hu
  have hk := ((keepR_mem hl hi u).mp hu).2
  have hv : v ∈ keepR s most C l i := (keepR_mem hl hi v).mpr ⟨v1, by omega⟩
  rw [← by_get h hi] at hv
  have := u3 v hv
  omega
 have lows : lowsR s C (byR C s most l).1 = lowsR s C l := lows_congr s hlen fun i hi => low i (by omega)
 refine ⟨?_, lows⟩
 have same : ∀ i, i < l.length → keepR s most C (byR C s most l).1 i = (byR C s most l).1.getD i [] := fun i hi => by
  have hi2 : i < (byR C s most l).1.length := by omega
  unfold keepR
  rw [List.filter_eq_self]
  intro v hv
  rw [others_at s C _ i (by omega) hi2, lows, low i hi]
  rw [by_get h hi] at hv
  exact decide_eq_true ((keepR_mem hl hi v).mp hv).2
 have ok : (byR C s most (byR C s most l).1).2 = true := by_ok.mpr fun i hi => by
  rw [same i (by omega)]
  exact (hR2 _ (getD_memD hi [])).1
 refine Prod.ext ?_ ok
 apply List.ext_getElem (by_len' ok)
 intro i h1 h2
 have e := by_get ok (i := i) h2
 rw [same i (by omega), getD_get h1, getD_get h2] at e
 exact e
def One (l : List (List Int)) : Prop := ∀ x ∈ l, x.length = 1
theorem one_low {s : Int} : ∀ {C : List Int} {l : List (List Int)} {r : List Int}, C.length = l.length → One l → InP r l → lowsR s C l = dot (sc s C) r
 | [], [], _, _, _, .nil => rfl
 | [], _ :: _, _, h, _, _ => by simp at h
 | _ :: _, [], _, h, _, _ => by simp at h
 | k :: ks, x :: xs, _, hl, hO, @F2.cons _ _ _ v _ vs _ hv t => by
  have e := one_low (s := s) (C := ks) (l := xs) (by simpa using hl) (fun y hy => hO y (List.mem_cons_of_mem _ hy)) t
  show lowR (s * k) x + lowsR s ks xs = s * k * v + dot (sc s ks) vs
  rw [e]
  have h1 := hO x List.mem_cons_self
  obtain ⟨y, rfl⟩ := List.length_eq_one_iff.mp h1
  have := List.mem_singleton.mp hv
  subst this
  unfold lowR
  simp
theorem by_one {C : List Int} {s most : Int} {l : List (List Int)} (hl : C.length = l.length) (hn : 1 ≤ l.length) (hR : Rs l) (h : (byR C s most l).2 = true) (hO : One l) {r : List Int} (hr : InP r l) : dot (sc s C) r ≤ most := by
 have h0 : 0 < l.length := by omega
 have hne := by_ok.mp h 0 h0
 obtain ⟨v, hv⟩ := List.exists_mem_of_ne_nil _ hne
 obtain ⟨v1, v2⟩ := (keepR_mem hl h0 v).mp hv
 obtain ⟨n1, r1⟩ := hR _ (getD_memD h0 [])
 have v3 := (low_spec (k := s * C.getD 0 0) r1 n1).2 v v1
 have e := one_low (s := s) hl hO hr
 omega
end Go.Proofs.YtnojoaghcbljfaaGreatDoor.Ev
