/-
The laws of linear constraints: what their functions answer.
Conditions: none.
-/
import Derived.Test.YtnojoaghcbljfaaGreatDoorNp
import Derived.Test.YtnojoaghcbljfaaGreatDoorYc
set_option linter.unusedVariables false
set_option linter.unusedSimpArgs false
set_option maxHeartbeats 1000000
set_option maxRecDepth 100000
namespace Go.Proofs.YtnojoaghcbljfaaGreatDoor.Ev
open Go Go.RowKit
theorem tot_small {m : Nat} : ∀ {l : List (List Int)}, (∀ x ∈ l, x.length ≤ m) → tot l ≤ m * l.length
 | [], _ => Nat.zero_le _
 | x :: l, h => by
  have h1 := h x List.mem_cons_self
  have h2 := tot_small (l := l) fun y hy => h y (List.mem_cons_of_mem _ hy)
  have e : m * (x :: l).length = m * l.length + m := by rw [List.length_cons, Nat.mul_succ]
  have t : tot (x :: l) = x.length + tot l := rfl
  omega
theorem lf_any {c : Con} {l : List (List Int)} (hg : ∀ x ∈ l, (okL x = true ∧ Rising x) ∨ x = []) (hl : l.length ≤ 1000) (ht : tot l < 100000) : LF c l := by
 have hG : Good l := fun x hx => (hg x hx).imp (fun h => h.1) id
 cases hf : fitsD c (domsL l) 1 4 with
 | true =>
  have ne : ∀ x ∈ l, x ≠ [] := fun x hx hx0 => by
   unfold fitsD at hf
   rw [Bool.and_eq_true, empty_doms hG] at hf
   have h2 := hf.2
   rw [Bool.not_not, List.all_eq_true] at h2
   have := h2 x hx
   rw [hx0] at this
   simp at this
  exact (lf_fits hf (fun x hx => (hg x hx).resolve_right (ne x hx)) hl ht).1
 | false =>
  have hr : fitsR c l 1 4 = false := by rw [← fits_same hG]; exact hf
  have e1 : linF c (domsL l) = ([], false) := by unfold linF; rw [hf]; rfl
  have e2 := lin_no hr
  refine ⟨Nat.ble_eq_true_of_le hl, ?_, ?_, ?_, ?_, ?_, ?_⟩
  ·unfold linFB; rw [fitsB_lin, hf]; rfl
  ·unfold linRB; rw [fitsB_lin, hr]; rfl
  ·rw [e1, e2]
  ·rw [e1]; rfl
  ·rw [e1]; rfl
  ·rw [e1, e2]; rfl
theorem lin_body {c : Con} {l : List (List Int)} (g : LF c l) (R : Bool → Option AV) :
  (bif Nat.ble l.length 1000 then bif linFB c (domsL l) then bif linRB c l then bif (linF c (domsL l)).2 == (linR c l).2 then
   bif Nat.ble (linF c (domsL l)).1.length 1000 && (linF c (domsL l)).1.all listB then bif Nat.ble (listsL (linF c (domsL l)).1).length 1000 && lensB (listsL (linF c (domsL l)).1) then
    R (sameL (listsL (linF c (domsL l)).1) (linR c l).1) else none else none else R false else none else none else none) = R true := by
 have e3 : ((linF c (domsL l)).2 == (linR c l).2) = true := by rw [g.ok]; cases (linR c l).2 <;> rfl
 exact (bT g.le).trans ((bT g.f1).trans ((bT g.r1).trans ((bT e3).trans ((bT g.lb).trans ((bT g.ll).trans (congrArg R g.same))))))
structure MadeL (c : Con) : Prop where
  k : 1 ≤ c.1 ∧ c.1 ≤ 4
  a1 : 1 ≤ c.2.1.length
  a4 : c.2.1.length ≤ 4
  b : c.2.2.1.length = if c.1 = 4 then 1 else 0
  va : ∀ x ∈ c.2.1, 0 ≤ x ∧ x < 256
  vb : ∀ x ∈ c.2.2.1, 0 ≤ x ∧ x < 256
  cl : c.2.2.2.1.length = c.2.1.length
  cb : ∀ x ∈ c.2.2.2.1, -1000000 ≤ x ∧ x ≤ 1000000
  d0 : c.2.2.2.2.1 = []
  e0 : c.2.2.2.2.2.1 = []
  K : -9999999999 ≤ c.2.2.2.2.2.2.1 ∧ c.2.2.2.2.2.2.1 ≤ 9999999999
  r0 : c.2.2.2.2.2.2.2 = []
structure Gd (l : List (List Int)) : Prop where
  ok : ∀ x ∈ l, ((okL x = true ∧ Rising x) ∨ x = []) ∧ x.length ≤ 6
  len : l.length ≤ 1000
theorem Gd.lf {l : List (List Int)} (h : Gd l) (c : Con) : LF c l := lf_any (fun x hx => (h.ok x hx).1) h.len (by
 have := tot_small (m := 6) fun x hx => (h.ok x hx).2
 have := h.len
 omega)
end Go.Proofs.YtnojoaghcbljfaaGreatDoor.Ev
