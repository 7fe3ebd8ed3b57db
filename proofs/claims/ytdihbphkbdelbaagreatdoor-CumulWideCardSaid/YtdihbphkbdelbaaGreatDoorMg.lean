/-
Tasks that share what there is: passes until nothing changes; solutions are kept; what is fixed.
Conditions: the domains are not empty and as Of makes them.
-/
import Derived.Test.YtdihbphkbdelbaaGreatDoorLo
import Derived.Test.YtdihbphkbdelbaaGreatDoorMj
set_option linter.unusedVariables false
set_option linter.unusedSimpArgs false
set_option maxRecDepth 100000
namespace Go.Proofs.YtdihbphkbdelbaaGreatDoor.Ev
open Go
def tot (l : List (List Int)) : Nat := (l.map List.length).sum
theorem tot_set : ∀ {l : List (List Int)} {i : Nat} {x : List Int}, i < l.length → tot (l.set i x) + (l.getD i []).length = tot l + x.length
 | [], _, _, h => by simp at h
 | y :: l, 0, x, _ => by
  show x.length + tot l + y.length = y.length + tot l + x.length
  omega
 | y :: l, i + 1, x, h => by
  have := tot_set (l := l) (i := i) (x := x) (by simpa using h)
  show y.length + tot (l.set i x) + (l.getD i []).length = y.length + tot l + x.length
  omega
theorem tot_small {m : Nat} : ∀ {l : List (List Int)}, (∀ x ∈ l, x.length ≤ m) → tot l ≤ m * l.length
 | [], _ => Nat.zero_le _
 | x :: l, h => by
  have h1 := h x List.mem_cons_self
  have h2 := tot_small (l := l) fun y hy => h y (List.mem_cons_of_mem _ hy)
  have e : m * (x :: l).length = m * l.length + m := by rw [List.length_cons, Nat.mul_succ]
  have t : tot (x :: l) = x.length + tot l := rfl
  omega
theorem getD_set_eq {α : Type} {l : List α} {i : Nat} {x d : α} (h : i < l.length) : (l.set i x).getD i d = x := by
 rw [List.getD_eq_getElem?_getD, List.getElem?_set_self h]; rfl
theorem getD_set_ne {α : Type} {l : List α} {i j : Nat} {x d : α} (h : i ≠ j) : (l.set i x).getD j d = l.getD j d := by
 rw [List.getD_eq_getElem?_getD, List.getElem?_set_ne h, ← List.getD_eq_getElem?_getD]
structure RndP (l : List (List Int)) (ch : Bool) (r : List (List Int) × Bool × Bool) : Prop where
  sub : ∀ k v, v ∈ r.1.getD k [] → v ∈ l.getD k []
  le : tot r.1 ≤ tot l
  ch : r.2.2 = true → r.2.1 = true → ch = true ∨ tot r.1 < tot l
theorem round_part (c : Con) : ∀ (n i : Nat) (ch : Bool) (l : List (List Int)), i + n = l.length → RndP l ch (roundGo c n i ch l)
 | 0, i, ch, l, _ => ⟨fun _ _ h => h, Nat.le_refl _, fun _ h => .inl h⟩
 | n + 1, i, ch, l, h => by
  show RndP l ch (if (keepR c l i).length = 0 then (l, false, false) else roundGo c n (i + 1) (ch || chgR c l i) (nextR c l i))
  by_cases hk : (keepR c l i).length = 0
  ·rw [if_pos hk]; exact ⟨fun _ _ h => h, Nat.le_refl _, fun h => by cases h⟩
  ·rw [if_neg hk]
   have hi : i < l.length := by omega
   obtain ⟨g1, g2, g3⟩ := round_part c n (i + 1) (ch || chgR c l i) (nextR c l i) (by rw [nextR_len]; omega)
   obtain ⟨p1, p2, p3⟩ := keepR_part c l i
   have ts := tot_set (l := l) (i := i) (x := keepR c l i) hi
   have tn : tot (nextR c l i) + (l.getD i []).length = tot l + (keepR c l i).length := ts
   refine ⟨fun k v hv => ?_, by omega, fun h1 h2 => ?_⟩
   ·have := g1 k v hv
    unfold nextR at this
    by_cases e : i = k
    ·subst e; rw [getD_set_eq hi] at this; exact p3 v this
    ·rw [getD_set_ne e] at this; exact this
   ·rcases g3 h1 h2 with h | h
    ·rw [Bool.or_eq_true] at h
     rcases h with h | h
     ·exact .inl h
     ·unfold chgR at h
      have := of_decide_eq_true h
      exact .inr (by omega)
    ·exact .inr (by omega)
theorem pass_fix (c : Con) : ∀ (n i : Nat) (ch : Bool) (d : List Dom), (passGo c n i ch d).2.2 = true → (passGo c n i ch d).2.1 = false → (passGo c n i ch d).1 = d ∧ ch = false
 | 0, _, _, _, _, h => ⟨rfl, h⟩
 | n + 1, i, ch, d, h1, h2 => by
  revert h1 h2
  show (if (keepD c d i).length = 0 then (d, false, false) else passGo c n (i + 1) (ch || chgD c d i) (nextD c d i)).2.2 = true → (if (keepD c d i).length = 0 then (d, false, false) else passGo c n (i + 1) (ch || chgD c d i) (nextD c d i)).2.1 = false → (if (keepD c d i).length = 0 then (d, false, false) else passGo c n (i + 1) (ch || chgD c d i) (nextD c d i)).1 = d ∧ ch = false
  by_cases hk : (keepD c d i).length = 0
  ·rw [if_pos hk]; exact fun h => by cases h
  ·rw [if_neg hk]
   intro h1 h2
   obtain ⟨g1, g2⟩ := pass_fix c n _ _ _ h1 h2
   rw [Bool.or_eq_false_iff] at g2
   refine ⟨?_, g2.1⟩
   rw [g1]
   unfold nextD
   rw [g2.2]
   rfl
structure Res (c : Con) (d e : List Dom) : Prop where
  inv : Inv c e
  len : e.length = d.length
  fix : passD c e = (e, false, true)
  sub : ∀ k v, k < d.length → v ∈ listD (e.getD k dom0) → v ∈ listD (d.getD k dom0)
theorem cum_same (c : Con) : ∀ (n : Nat) (d : List Dom), Inv c d → 0 < d.length → tot (listsL d) < n →
  cumOk c n d = true ∧ rndOk c n (listsL d) = true ∧ listsL (cumGo c n d).1 = (rndGo c n (listsL d)).1 ∧ (cumGo c n d).2 = (rndGo c n (listsL d)).2 ∧ ((cumGo c n d).2 = true → Res c d (cumGo c n d).1)
 | 0, d, _, _, h => by omega
 | n + 1, d, h, h0, ht => by
  obtain ⟨q1, q2, q3, q4, q5⟩ := pass_same (c := c) d.length 0 false d h (by omega)
  have q1 : listsL (passD c d).1 = (roundR c (listsL d)).1 := by unfold passD roundR; rw [listsLen]; exact q1
  have q2 : (passD c d).2 = (roundR c (listsL d)).2 := by unfold passD roundR; rw [listsLen]; exact q2
  have q3 : Inv c (passD c d).1 := q3
  have ql : (passD c d).1.length = d.length := passGo_len c _ _ _ _
  have rp := round_part c (listsL d).length 0 false (listsL d) (by omega)
  have rp : RndP (listsL d) false (roundR c (listsL d)) := rp
  have qf := pass_fix c d.length 0 false d
  have hB : passB c d = true := by
   unfold passB
   rw [q4, Nat.ble_eq_true_of_le h.num.le]
   rfl
  have sub1 : ∀ k v, k < d.length → v ∈ listD ((passD c d).1.getD k dom0) → v ∈ listD (d.getD k dom0) := fun k v hk hv => by
   rw [← listsAt (by rw [ql]; exact hk), q1] at hv
   have := rp.sub k v hv
   rw [listsAt hk] at this
   exact this
  show (passB c d && (!(passD c d).2.2 || (!(passD c d).2.1 || cumOk c n (passD c d).1))) = true ∧ (decide (0 < (listsL d).length) && roundOk c (listsL d).length 0 (listsL d) && (!(roundR c (listsL d)).2.2 || (!(roundR c (listsL d)).2.1 || rndOk c n (roundR c (listsL d)).1))) = true ∧
   listsL (bif !(passD c d).2.2 then ([], false) else bif !(passD c d).2.1 then ((passD c d).1, true) else cumGo c n (passD c d).1).1 = (bif !(roundR c (listsL d)).2.2 then ([], false) else bif !(roundR c (listsL d)).2.1 then ((roundR c (listsL d)).1, true) else rndGo c n (roundR c (listsL d)).1).1 ∧
   (bif !(passD c d).2.2 then ([], false) else bif !(passD c d).2.1 then ((passD c d).1, true) else cumGo c n (passD c d).1).2 = (bif !(roundR c (listsL d)).2.2 then ([], false) else bif !(roundR c (listsL d)).2.1 then ((roundR c (listsL d)).1, true) else rndGo c n (roundR c (listsL d)).1).2 ∧
   ((bif !(passD c d).2.2 then ([], false) else bif !(passD c d).2.1 then ((passD c d).1, true) else cumGo c n (passD c d).1).2 = true → Res c d (bif !(passD c d).2.2 then ([], false) else bif !(passD c d).2.1 then ((passD c d).1, true) else cumGo c n (passD c d).1).1)
  have r5 : roundOk c (listsL d).length 0 (listsL d) = true := by rw [listsLen]; exact q5
  rw [hB, r5, decide_eq_true (show 0 < (listsL d).length by rw [listsLen]; exact h0), ← q2, ← q1]
  cases hp : (passD c d).2.2 with
  | false => exact ⟨rfl, rfl, rfl, rfl, fun h => by cases h⟩
  | true =>
   cases hc : (passD c d).2.1 with
   | false =>
    obtain ⟨f1, _⟩ := qf hp hc
    have f1 : (passD c d).1 = d := f1
    refine ⟨rfl, rfl, rfl, rfl, fun _ => ⟨q3, ql, ?_, sub1⟩⟩
    show passD c (passD c d).1 = ((passD c d).1, false, true)
    rw [f1]
    have : passD c d = ((passD c d).1, (passD c d).2.1, (passD c d).2.2) := rfl
    rw [this, hp, hc, f1]
   | true =>
    have hlt : tot (listsL (passD c d).1) < tot (listsL d) := by
     rw [q1]
     rcases rp.ch (by rw [← q2]; exact hp) (by rw [← q2]; exact hc) with h | h
     ·cases h
     ·exact h
    obtain ⟨a1, a2, a3, a4, a5⟩ := cum_same c n (passD c d).1 q3 (by omega) (by omega)
    refine ⟨?_, ?_, a3, a4, fun h => ?_⟩
    ·rw [a1]; rfl
    ·rw [a2]; rfl
    ·have r := a5 h
     exact ⟨r.inv, r.len.trans ql, r.fix, fun k v hk hv => sub1 k v hk (r.sub k v (by omega) hv)⟩
section
variable {c : Con} {n : Nat} (hN : Nums c n)
include hN
theorem Nums.dAt {k : Nat} (hk : k < n) : 0 ≤ c.2.2.2.2.1.getD k 0 ∧ c.2.2.2.2.1.getD k 0 ≤ 1000000 := hN.dp _ (gD_mem (by rw [hN.dl]; exact hk) 0)
theorem Nums.cAt {k : Nat} (hk : k < n) : 0 ≤ c.2.2.2.1.getD k 0 ∧ c.2.2.2.1.getD k 0 ≤ 1000000 := hN.cp _ (gD_mem (by rw [hN.cl]; exact hk) 0)
end
end Go.Proofs.YtdihbphkbdelbaaGreatDoor.Ev
