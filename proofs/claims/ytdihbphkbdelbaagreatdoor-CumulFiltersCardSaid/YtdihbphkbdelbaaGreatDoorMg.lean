/-
Tasks that share what there is: passes until nothing changes; solutions are kept; what is fixed.
Conditions: the domains are not empty and as Of makes them.
-/
import Derived.Test.YtdihbphkbdelbaaGreatDoorLo
import Derived.Test.YtdihbphkbdelbaaGreatDoorMj
set_option linter.unusedVariables false
set_option linter.unusedSimpArgs false
set_option maxRecDepth 100000
namespace Go.Proofs.YtdihbphkbdelbaaGreatDoor.Ev
open Go
def tot (l : List (List Int)) : Nat := (l.map List.length).sum
theorem tot_set : ∀ {l : List (List Int)} {i : Nat} {x : List Int}, i < l.length → tot (l.set i x) + (l.getD i []).length = tot l + x.length
 | [], _, _, h => by simp at h
 | y :: l, 0, x, _ => by
  show x.length + tot l + y.length = y.length + tot l + x.length
  omega
 | y :: l, i + 1, x, h => by
  have := tot_set (l := l) (i := i) (x := x) (by simpa using h)
  show y.length + tot (l.set i x) + (l.getD i []).length = y.length + tot l + x.length
  omega
theorem tot_small {m : Nat} : ∀ {l : List (List Int)}, (∀ x ∈ l, x.length ≤ m) → tot l ≤ m * l.length
 | [], _ => Nat.zero_le _
 | x :: l, h => by
  have h1 := h x List.mem_cons_self
  have h2 := tot_small (l := l) fun y hy => h y (List.mem_cons_of_mem _ hy)
  have e : m * (x :: l).length = m * l.length + m := by rw [List.length_cons, Nat.mul_succ]
  have t : tot (x :: l) = x.length + tot l := rfl
  omega
theorem getD_set_eq {α : Type} {l : List α} {i : Nat} {x d : α} (h : i < l.length) : (l.set i x).getD i d = x := by
 rw [List.getD_eq_getElem?_getD, List.getElem?_set_self h]; rfl
theorem getD_set_ne {α : Type} {l : List α} {i j : Nat} {x d : α} (h : i ≠ j) : (l.set i x).getD j d = l.getD j d := by
 rw [List.getD_eq_getElem?_getD, List.getElem?_set_ne h, ← List.getD_eq_getElem?_getD]
structure RndP (l : List (List Int)) (ch : Bool) (r : List (List Int) × Bool × Bool) : Prop where
  sub : ∀ k v, v ∈ r.1.getD k [] → v ∈ l.getD k []
  le : tot r.1 ≤ tot l
  ch : r.2.2 = true → r.2.1 = true → ch = true ∨ tot r.1 < tot l
theorem round_part (c : Con) : ∀ (n i : Nat) (ch : Bool) (l : List (List Int)), i + n = l.length → RndP l ch (roundGo c n i ch l)
 | 0, i, ch, l, _ => ⟨fun _ _ h => h, Nat.le_refl _, fun _ h => .inl h⟩
 | n + 1, i, ch, l, h => by
  show RndP l ch (if (keepR c l i).length = 0 then (l, false, false) else roundGo c n (i + 1) (ch || chgR c l i) (nextR c l i))
  by_cases hk : (keepR c l i).length = 0
  ·rw [if_pos hk]; exact ⟨fun _ _ h => h, Nat.le_refl _, fun h => by cases h⟩
  ·rw [if_neg hk]
   have hi : i < l.length := by omega
   obtain ⟨g1, g2, g3⟩ := round_part c n (i + 1) (ch || chgR c l i) (nextR c l i) (by rw [nextR_len]; omega)
   obtain ⟨p1, p2, p3⟩ := keepR_part c l i
   have ts := tot_set (l := l) (i := i) (x := keepR c l i) hi
   have tn : tot (nextR c l i) + (l.getD i []).length = tot l + (keepR c l i).length := ts
   refine ⟨fun k v hv => ?_, by omega, fun h1 h2 => ?_⟩
   ·have := g1 k v hv
    unfold nextR at this
    by_cases e : i = k
    ·subst e; rw [getD_set_eq hi] at this; exact p3 v this
    ·rw [getD_set_ne e] at this; exact this
   ·rcases g3 h1 h2 with h | h
    ·rw [Bool.or_eq_true] at h
     rcases h with h | h
     ·exact .inl h
     ·unfold chgR at h
      have := of_decide_eq_true h
      exact .inr (by omega)
    ·exact .inr (by omega)
theorem pass_fix (c : Con) : ∀ (n i : Nat) (ch : Bool) (d : List Dom), (passGo c n i ch d).2.2 = true → (passGo c n i ch d).2.1 = false → (passGo c n i ch d).1 = d ∧ ch = false
 | 0, _, _, _, _, h => ⟨rfl, h⟩
 | n + 1, i, ch, d, h1, h2 => by
  revert h1 h2
  show (if (keepD c d i).length = 0 then (d, false, false) else passGo c n (i + 1) (ch || chgD c d i) (nextD c d i)).2.2 = true → (if (keepD c d i).length = 0 then (d, false, false) else passGo c n (i + 1) (ch || chgD c d i) (nextD c d i)).2.1 = false → (if (keepD c d i).length = 0 then (d, false, false) else passGo c n (i + 1) (ch || chgD c d i) (nextD c d i)).1 = d ∧ ch = false
  by_cases hk : (keepD c d i).length = 0
  ·rw [if_pos hk]; exact fun h => by cases h
  ·rw [if_neg hk]
   intro h1 h2
   obtain ⟨g1, g2⟩ := pass_fix c n _ _ _ h1 h2
   rw [Bool.or_eq_false_iff] at g2
   refine ⟨?_, g2.1⟩
   rw [g1]
   unfold nextD
   rw [g2.2]
   rfl
structure Res (c : Con) (d e : List Dom) : Prop where
  inv : Inv c e
  len : e.length = d.length
  fix : passD c e = (e, false, true)
  sub : ∀ k v, k < d.length → v ∈ listD (e.getD k dom0) → v ∈ listD (d.getD k dom0)
theorem cum_same (c : Con) : ∀ (n : Nat) (d : List Dom), Inv c d → 0 < d.length → tot (listsL d) < n →
  cumOk c n d = true ∧ rndOk c n (listsL d) = true ∧ listsL (cumGo c n d).1 = (rndGo c n (listsL d)).1 ∧ (cumGo c n d).2 = (rndGo c n (listsL d)).2 ∧ ((cumGo c n d).2 = true → Res c d (cumGo c n d).1)
 | 0, d, _, _, h => by omega
 | n + 1, d, h, h0, ht => by
  obtain ⟨q1, q2, q3, q4, q5⟩ := pass_same (c := c) d.length 0 false d h (by omega)
  have q1 : listsL (passD c d).1 = (roundR c (listsL d)).1 := by unfold passD roundR; rw [listsLen]; exact q1
  have q2 : (passD c d).2 = (roundR c (listsL d)).2 := by unfold passD roundR; rw [listsLen]; exact q2
  have q3 : Inv c (passD c d).1 := q3
  have ql : (passD c d).1.length = d.length := passGo_len c _ _ _ _
  have rp := round_part c (listsL d).length 0 false (listsL d) (by omega)
  have rp : RndP (listsL d) false (roundR c (listsL d)) := rp
  have qf := pass_fix c d.length 0 false d
  have hB : passB c d = true := by
   unfold passB
   rw [q4, Nat.ble_eq_true_of_le h.num.le]
   rfl
  have sub1 : ∀ k v, k < d.length → v ∈ listD ((passD c d).1.getD k dom0) → v ∈ listD (d.getD k dom0) := fun k v hk hv => by
   rw [← listsAt (by rw [ql]; exact hk), q1] at hv
   have := rp.sub k v hv
   rw [listsAt hk] at this
   exact this
  show (passB c d && (!(passD c d).2.2 || (!(passD c d).2.1 || cumOk c n (passD c d).1))) = true ∧ (decide (0 < (listsL d).length) && roundOk c (listsL d).length 0 (listsL d) && (!(roundR c (listsL d)).2.2 || (!(roundR c (listsL d)).2.1 || rndOk c n (roundR c (listsL d)).1))) = true ∧
   listsL (bif !(passD c d).2.2 then ([], false) else bif !(passD c d).2.1 then ((passD c d).1, true) else cumGo c n (passD c d).1).1 = (bif !(roundR c (listsL d)).2.2 then ([], false) else bif !(roundR c (listsL d)).2.1 then ((roundR c (listsL d)).1, true) else rndGo c n (roundR c (listsL d)).1).1 ∧
   (bif !(passD c d).2.2 then ([], false) else bif !(passD c d).2.1 then ((passD c d).1, true) else cumGo c n (passD c d).1).2 = (bif !(roundR c (listsL d)).2.2 then ([], false) else bif !(roundR c (listsL d)).2.1 then ((roundR c (listsL d)).1, true) else rndGo c n (roundR c (listsL d)).1).2 ∧
   ((bif !(passD c d).2.2 then ([], false) else bif !(passD c d).2.1 then ((passD c d).1, true) else cumGo c n (passD c d).1).2 = true → Res c d (bif !(passD c d).2.2 then ([], false) else bif !(passD c d).2.1 then ((passD c d).1, true) else cumGo c n (passD c d).1).1)
  have r5 : roundOk c (listsL d).length 0 (listsL d) = true := by rw [listsLen]; exact q5
  rw [hB, r5, decide_eq_true (show 0 < (listsL d).length by rw [listsLen]; exact h0), ← q2, ← q1]
  cases hp : (passD c d).2.2 with
  | false => exact ⟨rfl, rfl, rfl, rfl, fun h => by cases h⟩
  | true =>
   cases hc : (passD c d).2.1 with
   | false =>
    obtain ⟨f1, _⟩ := qf hp hc
    have f1 : (passD c d).1 = d := f1
    refine ⟨rfl, rfl, rfl, rfl, fun _ => ⟨q3, ql, ?_, sub1⟩⟩
    show passD c (passD c d).1 = ((passD c d).1, false, true)
    rw [f1]
    have : passD c d = ((passD c d).1, (passD c d).2.1, (passD c d).2.2) := rfl
    rw [this, hp, hc, f1]
   | true =>
    have hlt : tot (listsL (passD c d).1) < tot (listsL d) := by
     rw [q1]
     rcases rp.ch (by rw [← q2]; exact hp) (by rw [← q2]; exact hc) with h | h
     ·cases h
     ·exact h
    obtain ⟨a1, a2, a3, a4, a5⟩ := cum_same c n (passD c d).1 q3 (by omega) (by omega)
    refine ⟨?_, ?_, a3, a4, fun h => ?_⟩
    ·rw [a1]; rfl
    ·rw [a2]; rfl
    ·have r := a5 h
     exact ⟨r.inv, r.len.trans ql, r.fix, fun k v hk hv => sub1 k v hk (r.sub k v (by omega) hv)⟩
def sumI (f : Nat → Int) : Nat → Nat → Int
 | 0, _ => 0
 | n + 1, k => f k + sumI f n (k + 1)
theorem sumI_le {f g : Nat → Int} : ∀ (n k : Nat), (∀ j, k ≤ j → j < k + n → f j ≤ g j) → sumI f n k ≤ sumI g n k
 | 0, _, _ => Int.le_refl _
 | n + 1, k, h => by
  have h0 := h k (Nat.le_refl _) (by omega)
  have ih := sumI_le (f := f) (g := g) n (k + 1) fun j h1 h2 => h j (by omega) (by omega)
  show f k + sumI f n (k + 1) ≤ g k + sumI g n (k + 1)
  omega
theorem sumI_one {f g : Nat → Int} {i : Nat} {x : Int} : ∀ (n k : Nat), k ≤ i → i < k + n → (∀ j, k ≤ j → j < k + n → j ≠ i → f j ≤ g j) → f i + x ≤ g i → sumI f n k + x ≤ sumI g n k
 | 0, _, h1, h2, _, _ => by omega
 | n + 1, k, h1, h2, h, hx => by
  show f k + sumI f n (k + 1) + x ≤ g k + sumI g n (k + 1)
  by_cases e : k = i
  ·subst e
   have := sumI_le (f := f) (g := g) n (k + 1) fun j a b => h j (by omega) (by omega) (by omega)
   omega
  ·have h0 := h k (Nat.le_refl _) (by omega) e
   have := sumI_one (f := f) (g := g) (i := i) (x := x) n (k + 1) (by omega) (by omega) (fun j a b => h j (by omega) (by omega)) hx
   omega
theorem sumI_one' {f g : Nat → Int} {i : Nat} {x : Int} : ∀ (n k : Nat), k ≤ i → i < k + n → (∀ j, k ≤ j → j < k + n → j ≠ i → g j ≤ f j) → g i ≤ f i + x → sumI g n k ≤ sumI f n k + x
 | 0, _, h1, h2, _, _ => by omega
 | n + 1, k, h1, h2, h, hx => by
  show g k + sumI g n (k + 1) ≤ f k + sumI f n (k + 1) + x
  by_cases e : k = i
  ·subst e
   have := sumI_le (f := g) (g := f) n (k + 1) fun j a b => h j (by omega) (by omega) (by omega)
   omega
  ·have h0 := h k (Nat.le_refl _) (by omega) e
   have := sumI_one' (f := f) (g := g) (i := i) (x := x) n (k + 1) (by omega) (by omega) (fun j a b => h j (by omega) (by omega)) hx
   omega
theorem sumI_zero {f : Nat → Int} : ∀ (n k : Nat), (∀ j, k ≤ j → j < k + n → f j = 0) → sumI f n k = 0
 | 0, _, _ => rfl
 | n + 1, k, h => by
  have h0 := h k (Nat.le_refl _) (by omega)
  have ih := sumI_zero (f := f) n (k + 1) fun j h1 h2 => h j (by omega) (by omega)
  show f k + sumI f n (k + 1) = 0
  omega
theorem load_sum (c : Con) (d : List Dom) (i t : Int) : ∀ n k, loadI c d i t n k = sumI (loadT c d i t) n k
 | 0, _ => rfl
 | n + 1, k => by
  show loadT c d i t k + loadI c d i t n (k + 1) = loadT c d i t k + sumI (loadT c d i t) n (k + 1)
  rw [load_sum c d i t n (k + 1)]
def rT (c : Con) (r : List Int) (t : Int) (k : Nat) : Int := bif decide (r.getD k 0 ≤ t) && decide (t - r.getD k 0 < c.2.2.2.1.getD k 0) then c.2.2.2.2.1.getD k 0 else 0
def runsL (c : Con) (r : List Int) (n : Nat) (t : Int) : Int := sumI (rT c r t) n 0
theorem rT_yes {c : Con} {r : List Int} {t : Int} {k : Nat} (h1 : r.getD k 0 ≤ t) (h2 : t - r.getD k 0 < c.2.2.2.1.getD k 0) : rT c r t k = c.2.2.2.2.1.getD k 0 := by
 unfold rT; rw [decide_eq_true h1, decide_eq_true h2]; rfl
theorem rT_no {c : Con} {r : List Int} {t : Int} {k : Nat} (h : ¬ (r.getD k 0 ≤ t ∧ t - r.getD k 0 < c.2.2.2.1.getD k 0)) : rT c r t k = 0 := by
 unfold rT
 by_cases h1 : r.getD k 0 ≤ t
 ·rw [decide_eq_true h1, decide_eq_false fun h2 => h ⟨h1, h2⟩]; rfl
 ·rw [decide_eq_false h1]; rfl
section
variable {c : Con} {n : Nat} (hN : Nums c n)
include hN
theorem Nums.dAt {k : Nat} (hk : k < n) : 0 ≤ c.2.2.2.2.1.getD k 0 ∧ c.2.2.2.2.1.getD k 0 ≤ 1000000 := hN.dp _ (gD_mem (by rw [hN.dl]; exact hk) 0)
theorem Nums.cAt {k : Nat} (hk : k < n) : 0 ≤ c.2.2.2.1.getD k 0 ∧ c.2.2.2.1.getD k 0 ≤ 1000000 := hN.cp _ (gD_mem (by rw [hN.cl]; exact hk) 0)
theorem rT_pos {r : List Int} {t : Int} {k : Nat} (hk : k < n) : 0 ≤ rT c r t k := by
 by_cases h : r.getD k 0 ≤ t ∧ t - r.getD k 0 < c.2.2.2.1.getD k 0
 ·rw [rT_yes h.1 h.2]; exact (hN.dAt hk).1
 ·rw [rT_no h]; exact Int.le_refl _
theorem top_time (r : List Int) (t : Int) : (∀ k, k < n → rT c r t k = 0) ∨ ∃ k, k < n ∧ r.getD k 0 ≤ t ∧ t - r.getD k 0 < c.2.2.2.1.getD k 0 ∧ runsL c r n t ≤ runsL c r n (r.getD k 0) := by
 have key : ∀ m, m ≤ n → (∀ k, k < m → ¬ (r.getD k 0 ≤ t ∧ t - r.getD k 0 < c.2.2.2.1.getD k 0)) ∨ ∃ k, k < m ∧ r.getD k 0 ≤ t ∧ t - r.getD k 0 < c.2.2.2.1.getD k 0 ∧ ∀ j, j < m → r.getD j 0 ≤ t → t - r.getD j 0 < c.2.2.2.1.getD j 0 → r.getD j 0 ≤ r.getD k 0 := by
  intro m
  induction m with
  | zero => exact fun _ => .inl fun k hk => by omega
  | succ m ih =>
   intro hm
   by_cases hq : r.getD m 0 ≤ t ∧ t - r.getD m 0 < c.2.2.2.1.getD m 0
   ·rcases ih (by omega) with h | ⟨k, h1, h2, h3, h4⟩
    ·refine .inr ⟨m, by omega, hq.1, hq.2, fun j hj a b => ?_⟩
     by_cases e : j = m
     ·subst e; exact Int.le_refl _
     ·exact absurd ⟨a, b⟩ (h j (by omega))
    ·by_cases hl : r.getD m 0 ≤ r.getD k 0
     ·refine .inr ⟨k, by omega, h2, h3, fun j hj a b => ?_⟩
      by_cases e : j = m
      ·subst e; exact hl
      ·exact h4 j (by omega) a b
     ·refine .inr ⟨m, by omega, hq.1, hq.2, fun j hj a b => ?_⟩
      by_cases e : j = m
      ·subst e; exact Int.le_refl _
      ·have := h4 j (by omega) a b
       omega
   ·rcases ih (by omega) with h | ⟨k, h1, h2, h3, h4⟩
    ·refine .inl fun k hk => ?_
     by_cases e : k = m
     ·subst e; exact hq
     ·exact h k (by omega)
    ·refine .inr ⟨k, by omega, h2, h3, fun j hj a b => ?_⟩
     by_cases e : j = m
     ·subst e; exact absurd ⟨a, b⟩ hq
     ·exact h4 j (by omega) a b
 rcases key n (Nat.le_refl _) with h | ⟨k, h1, h2, h3, h4⟩
 ·exact .inl fun k hk => rT_no (h k hk)
 ·refine .inr ⟨k, h1, h2, h3, sumI_le n 0 fun j _ hj => ?_⟩
  by_cases hq : r.getD j 0 ≤ t ∧ t - r.getD j 0 < c.2.2.2.1.getD j 0
  ·have := h4 j (by omega) hq.1 hq.2
   rw [rT_yes hq.1 hq.2, rT_yes this (by omega)]
   exact Int.le_refl _
  ·rw [rT_no hq]
   exact rT_pos hN (by omega)
theorem all_times {r : List Int} (h : ∀ k, k < n → runsL c r n (r.getD k 0) ≤ c.2.2.2.2.2.2.1) (t : Int) : runsL c r n t ≤ c.2.2.2.2.2.2.1 := by
 rcases top_time hN r t with h0 | ⟨k, h1, _, _, h4⟩
 ·unfold runsL
  rw [sumI_zero n 0 fun j _ hj => h0 j (by omega)]
  exact hN.K.1
 ·have := h k h1
  omega
end
theorem sol_may {c : Con} {d : List Dom} (h : Inv c d) {r : List Int} (hr : InP r (listsL d)) (hs : ∀ t, runsL c r d.length t ≤ c.2.2.2.2.2.2.1) {i : Nat} (hi : i < d.length) : r.getD i 0 ∈ keepD c d i := by
 have hrl : r.length = d.length := by rw [hr.len, listsLen]
 have inn : ∀ j, j < d.length → r.getD j 0 ∈ listD (d.getD j dom0) := fun j hj => by
  rw [← listsAt hj]
  exact hr.getD (show j < r.length by omega) 0 []
 unfold keepD
 rw [List.mem_filter]
 refine ⟨inn i hi, ?_⟩
 have bC := h.num.cAt hi
 rw [may_same h hi, mayR_iff (by rw [Int.toNat_natCast]; exact bC.1)]
 rw [Int.toNat_natCast]
 intro t h1 h2
 refine Int.le_trans ?_ (hs t)
 unfold runR
 rw [listsLen, h.load (i : Int) t d.length 0 (by omega), Int.toNat_natCast, load_sum]
 have := sumI_one (f := loadT c d (i : Int) t) (g := rT c r t) (i := i) (x := c.2.2.2.2.1.getD i 0) d.length 0 (Nat.zero_le _) (by omega) (fun j _ hj hne => ?_) ?_
 ·show _ ≤ sumI (rT c r t) d.length 0
  omega
 ·have hj : j < d.length := by omega
  have e := (h.at hj).ends
  have m1 := e.1.2 _ (inn j hj)
  have m2 := e.2.2 _ (inn j hj)
  unfold loadT
  rw [decide_eq_false (show ¬ (j : Int) = (i : Int) by omega)]
  by_cases q1 : maxD (d.getD j dom0) ≤ t
  ·by_cases q2 : t < sureE c d (j : Int)
   ·unfold sureE at q2
    rw [Int.toNat_natCast] at q2
    rw [rT_yes (by omega) (by omega)]
    rw [decide_eq_true q1]
    unfold sureE
    rw [Int.toNat_natCast, decide_eq_true q2]
    exact Int.le_refl _
   ·rw [decide_eq_false q2, Bool.and_false, Bool.and_false]
    exact rT_pos h.num hj
  ·rw [decide_eq_false q1, Bool.false_and, Bool.and_false]
   exact rT_pos h.num hj
 ·have e0 : loadT c d (i : Int) t i = 0 := by
   unfold loadT
   rw [decide_eq_true rfl]
   rfl
  rw [e0, rT_yes h1 (by omega)]
  omega
theorem next_in {c : Con} {d : List Dom} (h : Inv c d) {r : List Int} (hr : InP r (listsL d)) {i : Nat} (hi : i < d.length) (hm : r.getD i 0 ∈ keepD c d i) : InP r (listsL (nextD c d i)) := by
 have hk : keepD c d i ≠ [] := List.ne_nil_of_mem hm
 rw [(next_inv h hi hk).2.1]
 unfold nextR
 have hrl : r.length = d.length := by rw [hr.len, listsLen]
 refine F2.ofD 0 [] (by rw [List.length_set, listsLen]; exact hrl) fun j hj => ?_
 by_cases e : i = j
 ·subst e
  rw [getD_set_eq (by rw [listsLen]; exact hi), ← keep_same h hi]
  exact hm
 ·rw [getD_set_ne e]
  exact hr.getD hj 0 []
theorem pass_sound {c : Con} {r : List Int} : ∀ (n i : Nat) (ch : Bool) (d : List Dom), Inv c d → InP r (listsL d) → (∀ t, runsL c r d.length t ≤ c.2.2.2.2.2.2.1) → i + n = d.length → (passGo c n i ch d).2.2 = true ∧ InP r (listsL (passGo c n i ch d).1)
 | 0, _, _, _, _, hr, _, _ => ⟨rfl, hr⟩
 | n + 1, i, ch, d, h, hr, hs, hn => by
  have hi : i < d.length := by omega
  have hm := sol_may h hr hs hi
  have hk : ¬ (keepD c d i).length = 0 := fun e => by rw [List.length_eq_zero_iff.mp e] at hm; cases hm
  show (if (keepD c d i).length = 0 then (d, false, false) else passGo c n (i + 1) (ch || chgD c d i) (nextD c d i)).2.2 = true ∧ InP r (listsL (if (keepD c d i).length = 0 then (d, false, false) else passGo c n (i + 1) (ch || chgD c d i) (nextD c d i)).1)
  rw [if_neg hk]
  exact pass_sound n (i + 1) _ (nextD c d i) (next_inv h hi (List.ne_nil_of_mem hm)).1 (next_in h hr hi hm) (by rw [nextD_len]; exact hs) (by rw [nextD_len]; omega)
theorem cum_sound {c : Con} {r : List Int} : ∀ (n : Nat) (d : List Dom), Inv c d → 0 < d.length → tot (listsL d) < n → InP r (listsL d) → (∀ t, runsL c r d.length t ≤ c.2.2.2.2.2.2.1) → (cumGo c n d).2 = true ∧ InP r (listsL (cumGo c n d).1)
 | 0, _, _, _, h, _, _ => by omega
 | n + 1, d, h, h0, ht, hr, hs => by
  obtain ⟨q1, q2⟩ := pass_sound d.length 0 false d h hr hs (by omega)
  have q1 : (passD c d).2.2 = true := q1
  have q2 : InP r (listsL (passD c d).1) := q2
  obtain ⟨p1, p2, p3, _, _⟩ := pass_same (c := c) d.length 0 false d h (by omega)
  have p1 : listsL (passD c d).1 = (roundR c (listsL d)).1 := by unfold passD roundR; rw [listsLen]; exact p1
  have p2 : (passD c d).2 = (roundR c (listsL d)).2 := by unfold passD roundR; rw [listsLen]; exact p2
  have p3 : Inv c (passD c d).1 := p3
  have ql : (passD c d).1.length = d.length := passGo_len c _ _ _ _
  have rp : RndP (listsL d) false (roundR c (listsL d)) := round_part c (listsL d).length 0 false (listsL d) (by omega)
  show (bif !(passD c d).2.2 then ([], false) else bif !(passD c d).2.1 then ((passD c d).1, true) else cumGo c n (passD c d).1).2 = true ∧ InP r (listsL (bif !(passD c d).2.2 then ([], false) else bif !(passD c d).2.1 then ((passD c d).1, true) else cumGo c n (passD c d).1).1)
  rw [q1]
  cases hc : (passD c d).2.1 with
  | false => exact ⟨rfl, q2⟩
  | true =>
   have hlt : tot (listsL (passD c d).1) < tot (listsL d) := by
    rw [p1]
    rcases rp.ch (by rw [← p2]; exact q1) (by rw [← p2]; exact hc) with h | h
    ·cases h
    ·exact h
   exact cum_sound n (passD c d).1 p3 (by omega) (by omega) q2 (by rw [ql]; exact hs)
theorem pass_one {c : Con} : ∀ (n i : Nat) (ch : Bool) (d : List Dom), Inv c d → (∀ k, k < d.length → (listD (d.getD k dom0)).length = 1) → i + n = d.length → (passGo c n i ch d).2.2 = true → ∀ j, i ≤ j → j < d.length → keepD c d j = listD (d.getD j dom0)
 | 0, i, _, d, _, _, hn, _, j, h1, h2 => by omega
 | n + 1, i, ch, d, h, ho, hn, hp, j, h1, h2 => by
  have hi : i < d.length := by omega
  revert hp
  show (if (keepD c d i).length = 0 then (d, false, false) else passGo c n (i + 1) (ch || chgD c d i) (nextD c d i)).2.2 = true → _
  by_cases hk : (keepD c d i).length = 0
  ·rw [if_pos hk]; exact fun h => by cases h
  ·rw [if_neg hk]
   intro hp
   obtain ⟨p1, p2, _⟩ := keepR_part c (listsL d) i
   rw [← keep_same h hi, listsAt hi] at p1 p2
   have o := ho i hi
   have e : keepD c d i = listD (d.getD i dom0) := p2 (by omega)
   have hcd : chgD c d i = false := by
    unfold chgD
    rw [(h.at hi).size, e]
    exact decide_eq_false (by omega)
   have en : nextD c d i = d := by unfold nextD; rw [hcd]; rfl
   rw [en] at hp
   by_cases ej : j = i
   ·subst ej; exact e
   ·exact pass_one n (i + 1) _ d h ho (by omega) hp j (by omega) h2
end Go.Proofs.YtdihbphkbdelbaaGreatDoor.Ev
