/-
The laws of linear constraints: what their functions answer.
Conditions: none.
-/
import Derived.Test.YtnojoaghcbljfaaGreatDoorNp
import Derived.Test.YtnojoaghcbljfaaGreatDoorYc
set_option linter.unusedVariables false
set_option linter.unusedSimpArgs false
set_option maxHeartbeats 1000000
set_option maxRecDepth 100000
namespace Go.Proofs.YtnojoaghcbljfaaGreatDoor.Ev
open Go Go.RowKit
theorem tot_small {m : Nat} : ∀ {l : List (List Int)}, (∀ x ∈ l, x.length ≤ m) → tot l ≤ m * l.length
 | [], _ => Nat.zero_le _
 | x :: l, h => by
  have h1 := h x List.mem_cons_self
  have h2 := tot_small (l := l) fun y hy => h y (List.mem_cons_of_mem _ hy)
  have e : m * (x :: l).length = m * l.length + m := by rw [List.length_cons, Nat.mul_succ]
  have t : tot (x :: l) = x.length + tot l := rfl
  omega
theorem lf_any {c : Con} {l : List (List Int)} (hg : ∀ x ∈ l, (okL x = true ∧ Rising x) ∨ x = []) (hl : l.length ≤ 1000) (ht : tot l < 100000) : LF c l := by
 have hG : Good l := fun x hx => (hg x hx).imp (fun h => h.1) id
 cases hf : fitsD c (domsL l) 1 4 with
 | true =>
  have ne : ∀ x ∈ l, x ≠ [] := fun x hx hx0 => by
   unfold fitsD at hf
   rw [Bool.and_eq_true, empty_doms hG] at hf
   have h2 := hf.2
   rw [Bool.not_not, List.all_eq_true] at h2
   have := h2 x hx
   rw [hx0] at this
   simp at this
  exact (lf_fits hf (fun x hx => (hg x hx).resolve_right (ne x hx)) hl ht).1
 | false =>
  have hr : fitsR c l 1 4 = false := by rw [← fits_same hG]; exact hf
  have e1 : linF c (domsL l) = ([], false) := by unfold linF; rw [hf]; rfl
  have e2 := lin_no hr
  refine ⟨Nat.ble_eq_true_of_le hl, ?_, ?_, ?_, ?_, ?_, ?_⟩
  ·unfold linFB; rw [fitsB_lin, hf]; rfl
  ·unfold linRB; rw [fitsB_lin, hr]; rfl
  ·rw [e1, e2]
  ·rw [e1]; rfl
  ·rw [e1]; rfl
  ·rw [e1, e2]; rfl
theorem lin_body {c : Con} {l : List (List Int)} (g : LF c l) (R : Bool → Option AV) :
  (bif Nat.ble l.length 1000 then bif linFB c (domsL l) then bif linRB c l then bif (linF c (domsL l)).2 == (linR c l).2 then
   bif Nat.ble (linF c (domsL l)).1.length 1000 && (linF c (domsL l)).1.all listB then bif Nat.ble (listsL (linF c (domsL l)).1).length 1000 && lensB (listsL (linF c (domsL l)).1) then
    R (sameL (listsL (linF c (domsL l)).1) (linR c l).1) else none else none else R false else none else none else none) = R true := by
 have e3 : ((linF c (domsL l)).2 == (linR c l).2) = true := by rw [g.ok]; cases (linR c l).2 <;> rfl
 exact (bT g.le).trans ((bT g.f1).trans ((bT g.r1).trans ((bT e3).trans ((bT g.lb).trans ((bT g.ll).trans (congrArg R g.same))))))
structure MadeL (c : Con) : Prop where
  k : 1 ≤ c.1 ∧ c.1 ≤ 4
  a1 : 1 ≤ c.2.1.length
  a4 : c.2.1.length ≤ 4
  b : c.2.2.1.length = if c.1 = 4 then 1 else 0
  va : ∀ x ∈ c.2.1, 0 ≤ x ∧ x < 256
  vb : ∀ x ∈ c.2.2.1, 0 ≤ x ∧ x < 256
  cl : c.2.2.2.1.length = c.2.1.length
  cb : ∀ x ∈ c.2.2.2.1, -1000000 ≤ x ∧ x ≤ 1000000
  d0 : c.2.2.2.2.1 = []
  e0 : c.2.2.2.2.2.1 = []
  K : -9999999999 ≤ c.2.2.2.2.2.2.1 ∧ c.2.2.2.2.2.2.1 ≤ 9999999999
  r0 : c.2.2.2.2.2.2.2 = []
theorem makeA_doms {z : Case} {k : Int} (hk1 : 1 ≤ k) (hk2 : k ≤ 23) (w : Int) (hw : 1 ≤ w) : DomsOk w (makeAL z k w) := ⟨makeA_dom hw, (makeA_len hk1 hk2).2, (makeA_len hk1 hk2).1⟩
theorem make_ab {z : Case} {k w : Int} (hk1 : 1 ≤ k) (hk2 : k ≤ 23) (h1 : 1 ≤ w) (h2 : w ≤ 1000) : makeAB z k w = true := by
 unfold makeAB
 simp only [Bool.and_eq_true, decide_eq_true_eq]
 exact ⟨⟨⟨hk1, hk2⟩, h1⟩, h2⟩
structure Gd (l : List (List Int)) : Prop where
  ok : ∀ x ∈ l, ((okL x = true ∧ Rising x) ∨ x = []) ∧ x.length ≤ 6
  len : l.length ≤ 1000
theorem Gd.lf {l : List (List Int)} (h : Gd l) (c : Con) : LF c l := lf_any (fun x hx => (h.ok x hx).1) h.len (by
 have := tot_small (m := 6) fun x hx => (h.ok x hx).2
 have := h.len
 omega)
theorem F310.r1 (k : Nat) (d : Con) (m : List (List Int)) (hm : Gd m) : F310.n1_1_1 k (F310.k_n1_1 k (F310.kt k [1, 1]) [1]) m d.1 d.2.1 d.2.2.1 d.2.2.2.1 d.2.2.2.2.1 d.2.2.2.2.2.1 d.2.2.2.2.2.2.1 d.2.2.2.2.2.2.2 = some (.v .bool true) :=
  (F310.n1_1_1_eq k _ m _ _ _ _ _ _ _ _).trans ((lin_body (c := d) (hm.lf d) fun b => (F310.k_n1_1 k (F310.kt k [1, 1]) [1]).ret ⟨slots 95 [(6, .v .bool b)], []⟩).trans ((F310.c5 k _ true).trans (F310.c11 k true)))
theorem F310.r2 (k : Nat) (d : Con) (m : List (List Int)) (hm : Gd m) : F310.n1_1_1b k (F310.k_n1_1 k (F310.kt k [1, 1]) [1]) d.1 d.2.1 d.2.2.1 d.2.2.2.1 d.2.2.2.2.1 d.2.2.2.2.2.1 d.2.2.2.2.2.2.1 d.2.2.2.2.2.2.2 m = some (.v .bool true) :=
  (F310.n1_1_1b_eq k _ _ _ _ _ _ _ _ _ m).trans ((lin_body (c := d) (hm.lf d) fun b => (F310.k_n1_1 k (F310.kt k [1, 1]) [1]).ret ⟨slots 95 [(6, .v .bool b)], []⟩).trans ((F310.c5 k _ true).trans (F310.c11 k true)))
theorem F310.r3 (k : Nat) (a : Int) (b1 b2 b3 : List Int) (e : Int) (m : List (List Int)) (hm : Gd m) : F310.n1_1_1c k (F310.k_n1_1 k (F310.kt k [1, 1]) [1]) a b1 b2 b3 e m = some (.v .bool true) :=
  (F310.n1_1_1c_eq k _ _ _ _ _ _ m).trans ((lin_body (c := (a, b1, b2, b3, [], [], e, [])) (hm.lf _) fun b => (F310.k_n1_1 k (F310.kt k [1, 1]) [1]).ret ⟨slots 95 [(6, .v .bool b)], []⟩).trans ((F310.c5 k _ true).trans (F310.c11 k true)))
theorem min_ok (l : List Int) : (decide (0 ≤ (if 5 < (l.length : Int) then 5 else (l.length : Int))) && decide ((if 5 < (l.length : Int) then 5 else (l.length : Int)) ≤ l.length)) = true := by
 split
 ·exact bAnd (by omega) (by omega)
 ·exact bAnd (by omega) (by omega)
theorem F310.sem (k : Nat) (z : Case) (r : Con) (n : Int) (h0 : 0 ≤ n) (h1 : n < 256) : callW F310.E false F310.fn k [.agg (explode CaseT z), .agg (explode ConT r), .v (.int .u8) n] = some (.v .bool true) := by
 refine (F310.start_eq k z r n).trans ?_
 obtain ⟨k1, k2⟩ := kindOf_range h0 h1
 have hm : makeAB z (kindOf n) 12 = true := make_ab k1 k2 (by omega) (by omega)
 have ek : IntKind.i64.wrap (1 + ((IntKind.i64.wrap (shrW .u8 n 3)).tmod 23)) = kindOf n := rfl
 rw [ek, hm]
 refine (F310.n1_1_eq ..).trans ?_
 refine (F310.n1_1_0_eq ..).trans ?_
 have hD := makeA_doms (z := z) k1 k2 12 (by omega)
 have l1 := hD.one
 have l2 := hD.len
 have hg : ∀ x ∈ makeAL z (kindOf n) 12, ((okL x = true ∧ Rising x) ∨ x = []) ∧ x.length ≤ 6 := fun x hx => ⟨.inl ⟨hD.ok (by omega) x hx, (hD.dom x hx).ris⟩, (hD.dom x hx).len⟩
 generalize makeAL z (kindOf n) 12 = l at l1 l2 hg ⊢
 generalize makeAC z (kindOf n) = c
 have ew : IntKind.i64.wrap ((l.length : Int) - 1) = (l.length : Int) - 1 := wrap_ok (by omega) (by omega)
 have q0 : 0 ≤ (l.length : Int) - 1 := by omega
 have q1 : (l.length : Int) - 1 ≤ l.length := by omega
 have q2 : (0 : Int) < l.length := by omega
 have q3 : (l.length + [[(1 : Nat)]].length) * 24 ≤ LIM := lim24 (by simp; omega)
 rw [ew]
 by_cases c0 : n.tmod 5 = 0
 ·refine (bT (decide_eq_true c0)).trans ?_
  refine (bT (bAnd q0 q1)).trans ?_
  try unfold bC
  refine (F310.c0 ..).trans ?_
  exact F310.r1 k c (l.take ((l.length : Int) - 1).toNat) ⟨fun x hx => hg x (List.mem_of_mem_take hx), by rw [List.length_take]; omega⟩
 ·refine (bF (decide_eq_false c0)).trans ?_
  by_cases c1 : n.tmod 5 = 1
  ·refine (bT (decide_eq_true c1)).trans ?_
   refine (bT (decide_eq_true q2)).trans ?_
   try unfold bC
   refine (F310.c1 ..).trans ?_
   exact F310.r2 k c (l.set 0 []) ⟨fun x hx => by
    rcases List.mem_or_eq_of_mem_set hx with h | rfl
    ·exact hg x h
    ·exact ⟨.inr rfl, Nat.zero_le _⟩, by rw [List.length_set]; omega⟩
  ·refine (bF (decide_eq_false c1)).trans ?_
   by_cases c2 : n.tmod 5 = 2
   ·refine (bT (decide_eq_true c2)).trans ?_
    refine (bT (decide_eq_true q3)).trans ?_
    try unfold bC
    refine (F310.c2 ..).trans ?_
    exact F310.r2 k c (l ++ [[1]]) ⟨fun x hx => by
     rcases List.mem_append.mp hx with h | h
     ·exact hg x h
     ·obtain rfl := List.mem_singleton.mp h
      exact ⟨.inl ⟨rfl, by simp⟩, by simp⟩, by rw [List.length_append]; simp; omega⟩
   ·refine (bF (decide_eq_false c2)).trans ?_
    by_cases c3 : n.tmod 5 = 3
    ·refine (bT (decide_eq_true c3)).trans ?_
     refine (bT (min_ok _)).trans ?_
     refine (bT (min_ok _)).trans ?_
     refine (bT (min_ok _)).trans ?_
     try unfold bC
     refine (F310.c3 ..).trans ?_
     exact F310.r3 k _ _ _ _ _ l ⟨hg, by omega⟩
    ·refine (bF (decide_eq_false c3)).trans ?_
     try unfold bC
     refine (F310.c4 ..).trans ?_
     exact F310.r2 k c l ⟨hg, by omega⟩
end Go.Proofs.YtnojoaghcbljfaaGreatDoor.Ev
