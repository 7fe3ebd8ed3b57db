/-
The laws of linear constraints: what their functions answer.
Conditions: none.
-/
import Derived.Test.YtnojoaghcbljfaaGreatDoorNp
import Derived.Test.YtnojoaghcbljfaaGreatDoorLz
set_option linter.unusedVariables false
set_option linter.unusedSimpArgs false
set_option maxRecDepth 100000
namespace Go.Proofs.YtnojoaghcbljfaaGreatDoor.Ev
open Go Go.RowKit
theorem tot_small {m : Nat} : ∀ {l : List (List Int)}, (∀ x ∈ l, x.length ≤ m) → tot l ≤ m * l.length
 | [], _ => Nat.zero_le _
 | x :: l, h => by
  have h1 := h x List.mem_cons_self
  have h2 := tot_small (l := l) fun y hy => h y (List.mem_cons_of_mem _ hy)
  have e : m * (x :: l).length = m * l.length + m := by rw [List.length_cons, Nat.mul_succ]
  have t : tot (x :: l) = x.length + tot l := rfl
  omega
structure MadeL (c : Con) : Prop where
  k : 1 ≤ c.1 ∧ c.1 ≤ 4
  a1 : 1 ≤ c.2.1.length
  a4 : c.2.1.length ≤ 4
  b : c.2.2.1.length = if c.1 = 4 then 1 else 0
  va : ∀ x ∈ c.2.1, 0 ≤ x ∧ x < 256
  vb : ∀ x ∈ c.2.2.1, 0 ≤ x ∧ x < 256
  cl : c.2.2.2.1.length = c.2.1.length
  cb : ∀ x ∈ c.2.2.2.1, -1000000 ≤ x ∧ x ≤ 1000000
  d0 : c.2.2.2.2.1 = []
  e0 : c.2.2.2.2.2.1 = []
  K : -9999999999 ≤ c.2.2.2.2.2.2.1 ∧ c.2.2.2.2.2.2.1 ≤ 9999999999
  r0 : c.2.2.2.2.2.2.2 = []
theorem made_parts {k v : Int} (hv : 0 < v) (hv1 : v ≤ 256) {a b : List Int} (h1 : U8s a) (h2 : U8s b) (e : List Int) (M : Int) (hk : 1 ≤ k ∧ k ≤ 4) {B : List Int} (hB : B = if k = 4 then placesL b 1 v else []) :
  MadeL (k, placesL a (nA a) v, B, numbersL e 0 (nA a) (-1) 5, [], [], M.tmod 12, []) := by
 have hn := nA_range a
 have hl : (placesL a (nA a) v).length = (nA a).toNat := places_length _ _ _
 have hl2 : (numbersL e 0 (nA a) (-1) 5).length = (nA a).toNat := numbers_length _ _ _ _ _
 have t1 := Int.tmod_lt_of_pos M (show (0 : Int) < 12 by omega)
 have t2 : -12 < M.tmod 12 := Int.lt_tmod_of_pos M (by omega)
 refine ⟨hk, ?_, ?_, ?_, fun x hx => ?_, fun x hx => ?_, ?_, fun x hx => ?_, rfl, rfl, ?_, rfl⟩
 ·show 1 ≤ (placesL a (nA a) v).length
  omega
 ·show (placesL a (nA a) v).length ≤ 4
  omega
 ·show B.length = if k = 4 then 1 else 0
  rw [hB]
  split
  ·rw [places_length]; rfl
  ·rfl
 ·have := places_range h1 hv x hx
  omega
 ·have hx : x ∈ B := hx
  rw [hB] at hx
  split at hx
  ·have := places_range h2 hv x hx
   omega
  ·cases hx
 ·show (numbersL e 0 (nA a) (-1) 5).length = (placesL a (nA a) v).length
  omega
 ·have := numbers_range (show (0 : Int) < 5 by omega) x hx
  omega
 ·show -9999999999 ≤ M.tmod 12 ∧ M.tmod 12 ≤ 9999999999
  omega
theorem made_con {m : Int} (h0 : 0 ≤ m) (h1 : m ≤ 3) (z : ZRest) (v : Int) (hv : 0 < v) (hv1 : v ≤ 256) (hz : U8s z.1 ∧ U8s z.2.1) : MadeL (conX m z v) ∧ (conX m z v).1 = m + 1 := by
 have hm : m = 0 ∨ m = 1 ∨ m = 2 ∨ m = 3 := by omega
 rcases hm with rfl | rfl | rfl | rfl
 ·exact ⟨made_parts (k := 1) hv hv1 hz.1 hz.2 _ _ (by omega) rfl, rfl⟩
 ·exact ⟨made_parts (k := 2) hv hv1 hz.1 hz.2 _ _ (by omega) rfl, rfl⟩
 ·exact ⟨made_parts (k := 3) hv hv1 hz.1 hz.2 _ _ (by omega) rfl, rfl⟩
 ·exact ⟨made_parts (k := 4) hv hv1 hz.1 hz.2 _ _ (by omega) rfl, rfl⟩
theorem right_lin {c : Con} (h : MadeL c) : rightM c 256 = 0 := by
 obtain ⟨k, A, B, C, D, E, M, R⟩ := c
 obtain ⟨h1, h2, h3, h4, h5, h6, h7, h8, h9, h10, h11, h12⟩ := h
 simp only at h1 h2 h3 h4 h5 h6 h7 h8 h9 h10 h11 h12
 subst h9 h10 h12
 have hk : k = 1 ∨ k = 2 ∨ k = 3 ∨ k = 4 := by omega
 have e5 : List.any (varsD (k, A, B, C, [], [], M, [])) (varB 256) = false := by
  refine vars_ok fun x hx => ?_
  rcases List.mem_append.mp (show x ∈ A ++ B from hx) with hm | hm
  ·exact h5 x hm
  ·exact h6 x hm
 have e6 : numbersD (k, A, B, C, [], [], M, []) = true := by
  unfold numbersD
  have a1 : boundedD (k, A, B, C, ([] : List Int), ([] : List Int), M, ([] : List (List Int))).2.2.2.1 (-1000000) = true := bounded_ok h8
  have a2 : decide ((k, A, B, C, ([] : List Int), ([] : List Int), M, ([] : List (List Int))).2.2.2.2.2.2.1 ≥ -9999999999) = true := decide_eq_true h11.1
  have a3 : decide ((k, A, B, C, ([] : List Int), ([] : List Int), M, ([] : List (List Int))).2.2.2.2.2.2.1 ≤ 9999999999) = true := decide_eq_true h11.2
  rw [a1, a2, a3]
  rfl
 have e2 : countedD (k, A, B, C, [], [], M, []) ⟨#[]⟩ = true := by
  rcases hk with rfl | rfl | rfl | rfl <;> simp [-List.length_eq_zero_iff] at h4 <;> (simp [countedD, noneL, -List.length_eq_zero_iff]; omega)
 have e3 : alikeD (k, A, B, C, [], [], M, []) = true := by
  rcases hk with rfl | rfl | rfl | rfl <;> simp [alikeD, h7]
 have e4 : kB (k, A, B, C, [], [], M, []) = true := by
  rcases hk with rfl | rfl | rfl | rfl <;> simp [kB, hasK]
 unfold rightM
 rw [e2, e3, e4, e5, e6]
 rfl
theorem fits_made {c : Con} (h : MadeL c) {l : List (List Int)} (hl : l.length = c.2.1.length + c.2.2.1.length) (ok : ∀ x ∈ l, okL x = true) : fitsD c (domsL l) 1 4 = true := by
 unfold fitsD lenCB
 have e1 : List.any (domsL l) emptyD = false := not_any fun d hd => by
  obtain ⟨x, hx, rfl⟩ := List.mem_map.mp hd
  unfold emptyD
  simp [size_ofD (ok x hx)]
 rw [right_lin h, e1, doms_len, hl, decide_eq_true h.k.1, decide_eq_true h.k.2, decide_eq_true rfl, decide_eq_true rfl]
 rfl
theorem makeA_doms {z : Case} {k : Int} (hk1 : 1 ≤ k) (hk2 : k ≤ 23) (w : Int) (hw : 1 ≤ w) : DomsOk w (makeAL z k w) := ⟨makeA_dom hw, (makeA_len hk1 hk2).2, (makeA_len hk1 hk2).1⟩
theorem makeA_all (z : Case) (k w : Int) : (makeAL z k w).length = (makeAC z k).2.1.length + (makeAC z k).2.2.1.length := by unfold makeAL; simp
theorem make_ab {z : Case} {k w : Int} (hk1 : 1 ≤ k) (hk2 : k ≤ 23) (h1 : 1 ≤ w) (h2 : w ≤ 1000) : makeAB z k w = true := by
 unfold makeAB
 simp only [Bool.and_eq_true, decide_eq_true_eq]
 exact ⟨⟨⟨hk1, hk2⟩, h1⟩, h2⟩
theorem make_lin (z : Case) (hz : U8s z.1.2.1 ∧ U8s z.1.2.2.1) {k : Int} (h1 : 1 ≤ k) (h2 : k ≤ 4) : MadeL (makeAC z k) := by
 have h := (conA_spec (conAB_of (k := k) (z := z.1.2) (by omega) (by omega))).2.2.2.2.2 (by show k - 1 = 0 ∨ k - 1 = 1 ∨ k - 1 = 2 ∨ k - 1 = 3; omega)
 have e : makeAC z k = conX (k - 1) z.1.2 5 := h
 rw [e]
 exact (made_con (by omega) (by omega) _ _ (by omega) (by omega) hz).1
theorem con_ab4 {m : Int} {z : ZRest} (h0 : 0 ≤ m) (h1 : m ≤ 3) : conAB (m, z) 4 = true := by
 unfold conAB
 rw [decide_eq_true (show (0 : Int) ≤ m from h0), decide_eq_true (show m ≤ 22 by omega)]
 rfl
theorem fix_lin {m : Int} {z : ZRest} (h0 : 0 ≤ m) (h1 : m ≤ 3) (hz : U8s z.1 ∧ U8s z.2.1) : MadeL (conA (m, z) 4) := by
 have h := (conA_spec (z := (m, z)) (v := 4) (con_ab4 h0 h1)).2.2.2.2.2 (by show m = 0 ∨ m = 1 ∨ m = 2 ∨ m = 3; omega)
 rw [h]
 exact (made_con h0 h1 z 4 (by omega) (by omega) hz).1
theorem MadeL.few {c : Con} (h : MadeL c) : c.2.1.length + c.2.2.1.length ≤ 5 := by
 have h1 := h.a4
 have h2 := h.b
 split at h2 <;> omega
theorem local_lin {c : Con} (h : MadeL c) : localB c = true := by
 have h1 := h.few
 unfold localB
 rw [Nat.ble_eq_true_of_le (show c.2.1.length ≤ 1000 by omega), Nat.ble_eq_true_of_le (show c.2.2.1.length ≤ 1000 by omega)]
 rfl
def kindL (n : Int) : Int := IntKind.i64.wrap (1 + IntKind.i64.wrap (n.tmod 4))
theorem kindL_range {n : Int} (h0 : 0 ≤ n) : 1 ≤ kindL n ∧ kindL n ≤ 4 := by
 unfold kindL
 rw [Int.tmod_eq_emod_of_nonneg h0, wrap_ok (x := n % 4) (by omega) (by omega), wrap_ok (by omega) (by omega)]
 omega
structure Gd (l : List (List Int)) : Prop where
  ok : ∀ x ∈ l, ((okL x = true ∧ Rising x) ∨ x = []) ∧ x.length ≤ 6
  len : l.length ≤ 1000
end Go.Proofs.YtnojoaghcbljfaaGreatDoor.Ev
