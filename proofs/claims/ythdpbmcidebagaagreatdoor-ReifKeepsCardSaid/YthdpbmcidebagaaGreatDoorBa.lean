/-
Seat 'a': elem.Filter's answer is the document's: the plain law.
Conditions: what is made of plain data.
-/
import Derived.Test.YthdpbmcidebagaaGreatDoorAz
set_option linter.unusedVariables false
set_option linter.unusedSimpArgs false
set_option maxRecDepth 100000
namespace Go.Proofs.YthdpbmcidebagaaGreatDoor.Ev
open Go

/-- Numbers of 8 bits. -/
def U8s (l : List Int) : Prop := ∀ x ∈ l, 0 ≤ x ∧ x < 256
theorem places_range {l : List Int} {n v : Int} (hl : U8s l) (hv : 0 < v) : ∀ x ∈ placesL l n v, 0 ≤ x ∧ x < v := by
  intro x hx
  unfold placesL at hx
  obtain ⟨i, _, rfl⟩ := List.mem_map.mp hx
  have key : ∀ y : Int, 0 ≤ y → 0 ≤ y.tmod v ∧ y.tmod v < v := fun y hy => by
    rw [Int.tmod_eq_emod_of_nonneg hy]
    exact ⟨Int.emod_nonneg _ (by omega), Int.emod_lt_of_pos _ hv⟩
  split
  · rename_i hi
    have hm : l.getD i 0 ∈ l := by
      rw [List.getD_eq_getElem?_getD, List.getElem?_eq_getElem hi]
      exact List.getElem_mem _
    have := hl _ hm
    rw [wrap_ok (by omega) (by omega)]
    exact key _ (by omega)
  · exact key _ (by omega)
theorem numbers_range {l : List Int} {f n wide : Int} (hw : 0 < wide) : ∀ x ∈ numbersL l f n (-1) wide, -wide < x ∧ x < wide := by
  intro x hx
  unfold numbersL at hx
  obtain ⟨i, _, rfl⟩ := List.mem_map.mp hx
  unfold numR
  rw [if_neg (fun h => by have := h.2; omega)]
  exact tmod_abs hw
theorem numbers_length (l : List Int) (f n least wide : Int) : (numbersL l f n least wide).length = n.toNat := by unfold numbersL; simp
theorem not_any {α : Type} {l : List α} {p : α → Bool} (h : ∀ x ∈ l, p x = false) : l.any p = false := by
  rw [List.any_eq_false]
  intro x hx
  rw [h x hx]
  simp
theorem bounded_ok {l : List Int} (h : ∀ x ∈ l, -1000000 ≤ x ∧ x ≤ 1000000) : boundedD l (-1000000) = true := by
  unfold boundedD
  rw [not_any (fun x hx => ?_)]
  · rfl
  · have := h x hx
    unfold numB
    simp only [Bool.or_eq_false_iff, decide_eq_false_iff_not]
    omega
theorem vars_ok {l : List Int} (h : ∀ x ∈ l, 0 ≤ x ∧ x < 256) : List.any l (varB 256) = false := by
  refine not_any (fun x hx => ?_)
  have := h x hx
  unfold varB
  simp only [Bool.or_eq_false_iff, decide_eq_false_iff_not]
  omega
/-- An Element as it is made. -/
structure ElemC (c : Con) : Prop where
  kind : c.1 = 11
  a : c.2.1.length = 2
  ar : ∀ x ∈ c.2.1, 0 ≤ x ∧ x < 256
  b : c.2.2.1 = []
  c1 : 1 ≤ c.2.2.2.1.length
  c2 : c.2.2.2.1.length ≤ 64
  cr : ∀ x ∈ c.2.2.2.1, -5 < x ∧ x < 5
  rest : c.2.2.2.2 = ([], [], 0, [])
theorem elem_conC (z : ZRest) (v : Int) (hz : U8s z.1) (hv : 0 < v) (hv1 : v ≤ 256) : ElemC (conC (10, z) v) := by
  have e : conC (10, z) v = (11, placesL z.1 2 v, [], numbersL z.2.2.1 0 (IntKind.i64.wrap (1 + ((z.2.2.1.length : Int)).tmod 5)) (-1) 5, [], [], 0, []) := rfl
  rw [e]
  have h5 := tmod5 z.2.2.1.length
  refine ⟨rfl, places_length _ _ _, fun x hx => ?_, rfl, ?_, ?_, numbers_range (by omega), rfl⟩
  · have := places_range hz hv x hx
    omega
  · show 1 ≤ (numbersL _ _ _ _ _).length
    rw [numbers_length, elem_n]
    omega
  · show (numbersL _ _ _ _ _).length ≤ 64
    rw [numbers_length, elem_n]
    omega
theorem right_elem {c : Con} (h : ElemC c) : rightM c 256 = 0 ∧ kindB c = true := by
  obtain ⟨k, A, B, C, D, E, K, R⟩ := c
  obtain ⟨h1, h2, h3, h4, h5, h6, h7, h8⟩ := h
  simp only at h1 h2 h3 h4 h5 h6 h7 h8
  subst h1
  subst h4
  obtain ⟨rfl, rfl, rfl, rfl⟩ : D = [] ∧ E = [] ∧ K = 0 ∧ R = [] := by simpa using h8
  refine ⟨?_, rfl⟩
  unfold rightM
  have e1 : countedD (11, A, [], C, [], [], 0, []) ⟨#[]⟩ = true := by simp [countedD, noneL, -List.length_eq_zero_iff, h2, h5, h6]
  have e2 : alikeD (11, A, [], C, [], [], 0, []) = true := rfl
  have e3 : kB (11, A, [], C, [], [], 0, []) = true := rfl
  have e4 : List.any (varsD (11, A, [], C, [], [], 0, [])) (varB 256) = false := by
    refine vars_ok fun x hx => ?_
    have : x ∈ A := by simpa [varsD] using hx
    exact h3 x this
  have e5 : numbersD (11, A, [], C, [], [], 0, []) = true := by
    unfold numbersD
    have : boundedD C (-1000000) = true := bounded_ok fun x hx => by have := h7 x hx; omega
    simp only [this]
    rfl
  rw [e1, e2, e3, e4, e5]
  rfl

/-! ### domains of lists -/
theorem wf_dom0 : Wf dom0 := ⟨by decide, by decide, by decide, by simp [dom0], by decide⟩
theorem smallDom_ok {w : Int} {l : List Int} (h : SmallDom w l) (hw : w ≤ 1000) : okL l = true := okL_small h.ne (fun x hx => by have := h.abs x hx; omega)
theorem ones_facts : True := trivial
theorem list_of {w : Int} {l : List Int} (h : SmallDom w l) (hw : w ≤ 1000) : listD (ofD l).1 = l := list_rising (smallDom_ok h hw) h.ris
theorem listB_of {l : List Int} (h : okL l = true) : listB (ofD l).1 = true := listB_wf (wf_ofD h)

/-! ### rows of two values -/
theorem prod_two {l0 l1 : List Int} (h0 : l0 ≠ []) (h1 : l1 ≠ []) (r : List Int) : r ∈ prodL [l0, l1] ↔ ∃ x y, x ∈ l0 ∧ y ∈ l1 ∧ r = [x, y] := by
  have p0 : 0 < l0.length := List.length_pos_iff.mpr h0
  have p1 : 0 < l1.length := List.length_pos_iff.mpr h1
  have row : ∀ k, rowOf [l0, l1] k = [l0.getD (k / l1.length % l0.length) 0, l1.getD (k % l1.length) 0] := fun k => rfl
  have hN : prodN [l0, l1] = l0.length * l1.length := by simp [prodN]
  have inl : ∀ (l : List Int) (i : Nat), i < l.length → l.getD i 0 ∈ l := fun l i hi => by
    rw [List.getD_eq_getElem?_getD, List.getElem?_eq_getElem hi]
    exact List.getElem_mem _
  unfold prodL
  rw [List.mem_map]
  constructor
  · rintro ⟨k, hk, rfl⟩
    rw [row]
    exact ⟨_, _, inl _ _ (Nat.mod_lt _ p0), inl _ _ (Nat.mod_lt _ p1), rfl⟩
  · rintro ⟨x, y, hx, hy, rfl⟩
    obtain ⟨i, hi, rfl⟩ := List.getElem_of_mem hx
    obtain ⟨j, hj, rfl⟩ := List.getElem_of_mem hy
    refine ⟨i * l1.length + j, ?_, ?_⟩
    · rw [List.mem_range, hN]
      have : (i + 1) * l1.length ≤ l0.length * l1.length := Nat.mul_le_mul_right _ hi
      rw [Nat.add_mul, Nat.one_mul] at this
      omega
    · rw [row]
      have e1 : (i * l1.length + j) % l1.length = j := by
        rw [Nat.mul_comm, Nat.mul_add_mod, Nat.mod_eq_of_lt hj]
      have e2 : (i * l1.length + j) / l1.length = i := by
        rw [Nat.mul_comm, Nat.mul_add_div p1, Nat.div_eq_of_lt hj, Nat.add_zero]
      rw [e1, e2, Nat.mod_eq_of_lt hi]
      rw [List.getD_eq_getElem?_getD, List.getElem?_eq_getElem hi, List.getD_eq_getElem?_getD, List.getElem?_eq_getElem hj]
      rfl
theorem many_two {l0 l1 : List Int} (h0 : l0.length ≤ 6) (h1 : l1.length ≤ 6) : manyL [l0, l1] 4000 = false := by
  unfold manyL manyGo manyGo manyGo
  have a1 : ¬ (1 * (l0.length : Int) > 4000) := by omega
  have hp : (l0.length : Int) * (l1.length : Int) ≤ 6 * 6 := Int.mul_le_mul (by omega) (by omega) (by omega) (by omega)
  have a2 : ¬ (1 * (l0.length : Int) * (l1.length : Int) > 4000) := by rw [Int.one_mul]; omega
  rw [if_neg a1, if_neg a2]
theorem productB_two {l0 l1 : List Int} (h0 : l0.length ≤ 6) (h1 : l1.length ≤ 6) (n0 : l0 ≠ []) (n1 : l1 ≠ []) : productB [l0, l1] 4000 = true := by
  have p0 := List.length_pos_iff.mpr n0
  have p1 := List.length_pos_iff.mpr n1
  have a0 : Nat.ble l0.length 1000 = true := by rw [Nat.ble_eq]; omega
  have a1 : Nat.ble l1.length 1000 = true := by rw [Nat.ble_eq]; omega
  have b0 : Nat.ble 1 l0.length = true := by rw [Nat.ble_eq]; omega
  have b1 : Nat.ble 1 l1.length = true := by rw [Nat.ble_eq]; omega
  unfold productB
  simp only [List.all_cons, List.all_nil, a0, a1, b0, b1]
  rfl

/-! ### what stands at a place -/
theorem elemGo_len (d0 d1 : Dom) : ∀ (cs : List Int) (i : Int), (elemGo d0 d1 i cs).1.length = (elemGo d0 d1 i cs).2.length
  | [], i => rfl
  | v :: cs, i => by
    unfold elemGo
    split
    · simp only [List.length_cons, elemGo_len d0 d1 cs (i + 1)]
    · exact elemGo_len d0 d1 cs (i + 1)
theorem elemGo_cons (d0 d1 : Dom) (v : Int) (cs : List Int) (i : Int) : elemGo d0 d1 i (v :: cs) = if (hasD d0 (i + 1) && hasD d1 v) = true then ((i + 1) :: (elemGo d0 d1 (i + 1) cs).1, v :: (elemGo d0 d1 (i + 1) cs).2) else elemGo d0 d1 (i + 1) cs := rfl
theorem elemGo_mem (d0 d1 : Dom) : ∀ (cs : List Int) (i : Int), 0 ≤ i →
    (∀ x, x ∈ (elemGo d0 d1 i cs).1 ↔ ∃ k : Nat, k < cs.length ∧ x = i + k + 1 ∧ hasD d0 x = true ∧ hasD d1 (cs.getD k 0) = true) ∧
    (∀ y, y ∈ (elemGo d0 d1 i cs).2 ↔ ∃ k : Nat, k < cs.length ∧ y = cs.getD k 0 ∧ hasD d0 (i + k + 1) = true ∧ hasD d1 y = true)
  | [], i, _ => by simp [elemGo]
  | v :: cs, i, h => by
    obtain ⟨i1, i2⟩ := elemGo_mem d0 d1 cs (i + 1) (by omega)
    have sh : ∀ (P : Nat → Prop), (∃ k : Nat, k < (v :: cs).length ∧ P k) ↔ P 0 ∨ ∃ k : Nat, k < cs.length ∧ P (k + 1) := fun P => by
      constructor
      · rintro ⟨k, hk, hp⟩
        cases k with
        | zero => exact .inl hp
        | succ k => exact .inr ⟨k, by simpa using hk, hp⟩
      · rintro (hp | ⟨k, hk, hp⟩)
        · exact ⟨0, by simp, hp⟩
        · exact ⟨k + 1, by simpa using hk, hp⟩
    constructor
    · intro x
      rw [sh]
      have e : ∀ k : Nat, i + ((k + 1 : Nat) : Int) + 1 = i + 1 + (k : Int) + 1 := fun k => by omega
      simp only [e, List.getD_cons_succ, List.getD_cons_zero]
      rw [← i1 x]
      rw [elemGo_cons]
      by_cases hc : (hasD d0 (i + 1) && hasD d1 v) = true
      · rw [if_pos hc, List.mem_cons]
        rw [Bool.and_eq_true] at hc
        constructor
        · rintro (rfl | hm)
          · exact .inl ⟨by omega, hc.1, hc.2⟩
          · exact .inr hm
        · rintro (⟨rfl, _, _⟩ | hm)
          · exact .inl (by omega)
          · exact .inr hm
      · rw [if_neg hc]
        constructor
        · exact .inr
        · rintro (⟨rfl, ha, hb⟩ | hm)
          · exfalso
            apply hc
            have e0 : i + ((0 : Nat) : Int) + 1 = i + 1 := by omega
            rw [e0] at ha
            rw [ha, hb]
            rfl
          · exact hm
    · intro y
      rw [sh]
      have e : ∀ k : Nat, i + ((k + 1 : Nat) : Int) + 1 = i + 1 + (k : Int) + 1 := fun k => by omega
      simp only [e, List.getD_cons_succ, List.getD_cons_zero]
      rw [← i2 y]
      have e0 : i + ((0 : Nat) : Int) + 1 = i + 1 := by omega
      rw [e0]
      rw [elemGo_cons]
      by_cases hc : (hasD d0 (i + 1) && hasD d1 v) = true
      · rw [if_pos hc, List.mem_cons]
        rw [Bool.and_eq_true] at hc
        constructor
        · rintro (rfl | hm)
          · exact .inl ⟨rfl, hc.1, hc.2⟩
          · exact .inr hm
        · rintro (⟨rfl, _, _⟩ | hm)
          · exact .inl rfl
          · exact .inr hm
      · rw [if_neg hc]
        constructor
        · exact .inr
        · rintro (⟨rfl, ha, hb⟩ | hm)
          · exfalso
            apply hc
            rw [ha, hb]
            rfl
          · exact hm
theorem holds_elem {c : Con} (h : ElemC c) (x y : Int) : holdsB (localC c) [x, y] = true ∧ (holdsC (localC c) [x, y] = true ↔ 1 ≤ x ∧ x ≤ c.2.2.2.1.length ∧ c.2.2.2.1.getD (x - 1).toNat 0 = y) := by
  obtain ⟨k, A, B, C, D, E, K, R⟩ := c
  obtain ⟨h1, h2, h3, h4, h5, h6, h7, h8⟩ := h
  simp only at h1 h2 h3 h4 h5 h6 h7 h8
  subst h1
  subst h4
  have e : localC (11, A, [], C, D, E, K, R) = (11, [0, 1], [], C, D, E, K, R) := by
    unfold localC
    simp only [h2]
    rfl
  rw [e]
  constructor
  · unfold holdsB threeB
    have : Nat.ble C.length 1000 = true := by rw [Nat.ble_eq]; omega
    simp [inB, this]
  · unfold holdsC threeC at0
    simp [and_assoc]
end Go.Proofs.YthdpbmcidebagaaGreatDoor.Ev
