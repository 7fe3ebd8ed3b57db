/-
Seat 'a': constraints and domains made of plain data: what the functions answer, and what they are like.
Conditions: the kinds of Element, EqReif, LeReif, EqImp, LeImp.
-/
import Derived.Test.YthdpbmcidebagaaGreatDoorAy
import Derived.Test.YthdpbmcidebagaaGreatDoorAm
import Derived.Test.YthdpbmcidebagaaGreatDoorAn
set_option linter.unusedVariables false
set_option linter.unusedSimpArgs false
set_option maxRecDepth 100000
namespace Go.Proofs.YthdpbmcidebagaaGreatDoor.Ev
open Go
abbrev ZRest := List Int × List Int × List Int × Int × Int
abbrev SmallT : Ty := .pair (.int .u8) (.pair (.sl (.int .u8)) (.pair (.sl (.int .u8)) (.pair (.sl (.int .i8)) (.pair (.int .i16) (.int .u8)))))
abbrev CaseT : Ty := .pair SmallT (.sl (.sl (.int .i64)))
theorem places_ok {l : List Int} {n v : Int} (h0 : 0 ≤ n) (h1 : n ≤ 1000) (hv : v ≠ 0) : placesB l n v = true := by unfold placesB; simp [h0, h1, hv]
theorem tmod5 (n : Nat) : 0 ≤ ((n : Int)).tmod 5 ∧ ((n : Int)).tmod 5 < 5 := by
  rw [Int.tmod_eq_emod_of_nonneg (by omega)]
  omega
theorem elem_n (n : Nat) : IntKind.i64.wrap (1 + ((n : Int)).tmod 5) = 1 + ((n : Int)).tmod 5 := by
  have := tmod5 n
  exact wrap_ok (by omega) (by omega)
theorem F26k11.sem (k : Nat) (z : ZRest) (v : Int) (hv : v ≠ 0) : ∃ r, callW F26k11.E false F26k11.fn k [.agg (explode SmallT ((10 : Int), z)), .v (.int .i64) v] = some r ∧ WA r (.agg (explode ConT (conC (10, z) v))) := by
  have st := F26k11.start_eq k z v
  have e1 : decide ((11 : Int) < shapesL.length) = true := rfl
  have e2 : placesB z.1 2 v = true := places_ok (by omega) (by omega) hv
  have e3 : numbersB z.2.2.1 0 2 (-1) 5 = true := rfl
  have e4 : numbersB z.2.2.1 0 (IntKind.i64.wrap (1 + ((z.2.2.1.length : Int)).tmod 5)) (-1) 5 = true := by
    have := tmod5 z.2.2.1.length
    rw [elem_n]
    unfold numbersB
    simp only [Bool.and_eq_true, decide_eq_true_eq]
    omega
  rw [e1, e2, e3, e4] at st
  simp only [cond_true, Bool.cond_self] at st
  refine ⟨_, st, .two (by simp) (.agg ?_)⟩
  exact .cons (.same _) (.cons (.same _) (.cons (.nl _) (.cons (.same _) (.cons (.nl _) (.cons (.nl _) (.cons (.same _) (.cons (.nl _) .nil)))))))
theorem F26k13.sem (k : Nat) (z : ZRest) (v : Int) (hv : v ≠ 0) : ∃ r, callW F26k13.E false F26k13.fn k [.agg (explode SmallT ((12 : Int), z)), .v (.int .i64) v] = some r ∧ WA r (.agg (explode ConT (conC (12, z) v))) := by
  have st := F26k13.start_eq k z v
  have e1 : decide ((13 : Int) < shapesL.length) = true := rfl
  have e2 : placesB z.1 1 v = true := places_ok (by omega) (by omega) hv
  have e3 : placesB z.2.1 1 v = true := places_ok (by omega) (by omega) hv
  rw [e1, e2, e3] at st
  simp only [cond_true, Bool.cond_self] at st
  refine ⟨_, st, .two (by simp) (.agg ?_)⟩
  exact .cons (.same _) (.cons (.same _) (.cons (.same _) (.cons (.nl _) (.cons (.nl _) (.cons (.nl _) (.cons (.same _) (.cons (.nl _) .nil)))))))
theorem F26k14.sem (k : Nat) (z : ZRest) (v : Int) (hv : v ≠ 0) : ∃ r, callW F26k14.E false F26k14.fn k [.agg (explode SmallT ((13 : Int), z)), .v (.int .i64) v] = some r ∧ WA r (.agg (explode ConT (conC (13, z) v))) := by
  have st := F26k14.start_eq k z v
  have e1 : decide ((14 : Int) < shapesL.length) = true := rfl
  have e2 : placesB z.1 1 v = true := places_ok (by omega) (by omega) hv
  have e3 : placesB z.2.1 1 v = true := places_ok (by omega) (by omega) hv
  rw [e1, e2, e3] at st
  simp only [cond_true, Bool.cond_self] at st
  refine ⟨_, st, .two (by simp) (.agg ?_)⟩
  exact .cons (.same _) (.cons (.same _) (.cons (.same _) (.cons (.nl _) (.cons (.nl _) (.cons (.nl _) (.cons (.same _) (.cons (.nl _) .nil)))))))
theorem F26k15.sem (k : Nat) (z : ZRest) (v : Int) (hv : v ≠ 0) : ∃ r, callW F26k15.E false F26k15.fn k [.agg (explode SmallT ((14 : Int), z)), .v (.int .i64) v] = some r ∧ WA r (.agg (explode ConT (conC (14, z) v))) := by
  have st := F26k15.start_eq k z v
  have e1 : decide ((15 : Int) < shapesL.length) = true := rfl
  have e2 : placesB z.1 1 v = true := places_ok (by omega) (by omega) hv
  have e3 : placesB z.2.1 1 v = true := places_ok (by omega) (by omega) hv
  rw [e1, e2, e3] at st
  simp only [cond_true, Bool.cond_self] at st
  refine ⟨_, st, .two (by simp) (.agg ?_)⟩
  exact .cons (.same _) (.cons (.same _) (.cons (.same _) (.cons (.nl _) (.cons (.nl _) (.cons (.nl _) (.cons (.same _) (.cons (.nl _) .nil)))))))
theorem F26k16.sem (k : Nat) (z : ZRest) (v : Int) (hv : v ≠ 0) : ∃ r, callW F26k16.E false F26k16.fn k [.agg (explode SmallT ((15 : Int), z)), .v (.int .i64) v] = some r ∧ WA r (.agg (explode ConT (conC (15, z) v))) := by
  have st := F26k16.start_eq k z v
  have e1 : decide ((16 : Int) < shapesL.length) = true := rfl
  have e2 : placesB z.1 1 v = true := places_ok (by omega) (by omega) hv
  have e3 : placesB z.2.1 1 v = true := places_ok (by omega) (by omega) hv
  rw [e1, e2, e3] at st
  simp only [cond_true, Bool.cond_self] at st
  refine ⟨_, st, .two (by simp) (.agg ?_)⟩
  exact .cons (.same _) (.cons (.same _) (.cons (.same _) (.cons (.nl _) (.cons (.nl _) (.cons (.nl _) (.cons (.same _) (.cons (.nl _) .nil)))))))
/-! ### what is made -/
theorem tmod_abs {v w : Int} (hw : 0 < w) : -w < v.tmod w ∧ v.tmod w < w := by
  rcases Int.le_total 0 v with h | h
  · rw [Int.tmod_eq_emod_of_nonneg h]
    have h1 := Int.emod_nonneg v (show w ≠ 0 by omega)
    have h2 := Int.emod_lt_of_pos v hw
    omega
  · have e : v.tmod w = -((-v).tmod w) := by rw [Int.neg_tmod, Int.neg_neg]
    rw [e, Int.tmod_eq_emod_of_nonneg (by omega)]
    have h1 := Int.emod_nonneg (-v) (show w ≠ 0 by omega)
    have h2 := Int.emod_lt_of_pos (-v) hw
    omega
theorem okL_small {l : List Int} (hne : l ≠ []) (h : ∀ x ∈ l, -1000 ≤ x ∧ x ≤ 1000) : okL l = true := by
  refine okL_iff.mpr ⟨hne, fun x hx => ?_, ?_⟩
  · have := h x hx
    exact inD_iff.mpr ⟨by omega, by omega⟩
  · have h1 := h _ (maxL_spec hne).2
    have h2 := h _ (minL_spec hne).2
    omega
theorem cutL_small {l : List Int} {m w : Int} (hne : l ≠ []) (hm : 0 < m) (hw : 1 ≤ w) : cutL l m w ≠ [] ∧ ∀ x ∈ cutL l m w, -w < x ∧ x < w := by
  refine ⟨?_, fun x hx => ?_⟩
  · unfold cutL
    intro e
    rw [List.map_eq_nil_iff] at e
    rcases List.take_eq_nil_iff.mp e with h | h
    · omega
    · exact hne h
  · unfold cutL at hx
    obtain ⟨y, _, rfl⟩ := List.mem_map.mp hx
    exact tmod_abs (by omega)
theorem smallB_ok {l : List Int} {w : Int} (hne : l ≠ []) (hw : 1 ≤ w) (hw1 : w ≤ 1000) : smallB l 6 w = true := by
  unfold smallB
  obtain ⟨h1, h2⟩ := cutL_small hne (show (0 : Int) < 6 by omega) hw
  have h3 : okL (cutL l 6 w) = true := okL_small h1 (fun x hx => by have := h2 x hx; omega)
  have h4 : (cutL l 6 w).length ≤ 1000 := by unfold cutL; rw [List.length_map, List.length_take]; omega
  simp only [Bool.and_eq_true, decide_eq_true_eq, Nat.ble_eq]
  exact ⟨⟨⟨⟨h4, by omega⟩, by omega⟩, by omega⟩, h3⟩
theorem insR_mem (v : Int) : ∀ (out : List Int) (x : Int), x ∈ insR v out ↔ x = v ∨ x ∈ out
  | [], x => by simp [insR]
  | y :: out, x => by
    unfold insR
    split
    · simp
    · rw [List.mem_cons, insR_mem v out, List.mem_cons]
      constructor
      · rintro (h | h | h)
        · exact .inr (.inl h)
        · exact .inl h
        · exact .inr (.inr h)
      · rintro (h | h | h)
        · exact .inr (.inl h)
        · exact .inl h
        · exact .inr (.inr h)
theorem insR_rising (v : Int) : ∀ (out : List Int), Rising out → v ∉ out → Rising (insR v out)
  | [], _, _ => by unfold insR; exact List.pairwise_singleton _ _
  | y :: out, h, hv => by
    obtain ⟨h1, h2⟩ := List.pairwise_cons.mp h
    unfold insR
    split
    · rename_i hy
      refine List.pairwise_cons.mpr ⟨fun z hz => ?_, h⟩
      rcases List.mem_cons.mp hz with rfl | hz
      · omega
      · have := h1 z hz; omega
    · rename_i hy
      have hne : v ≠ y := fun e => hv (by rw [e]; simp)
      refine List.pairwise_cons.mpr ⟨fun z hz => ?_, insR_rising v out h2 (fun hm => hv (by simp [hm]))⟩
      rcases (insR_mem v out z).mp hz with rfl | hz
      · omega
      · exact h1 z hz
theorem hasL_mem (l : List Int) (v : Int) : hasL l v = decide (v ∈ l) := by
  unfold hasL
  rw [Bool.eq_iff_iff]
  simp
theorem refGo_spec : ∀ (l out : List Int), Rising out → Rising (refGo l out) ∧ (∀ x, x ∈ refGo l out ↔ x ∈ l ∨ x ∈ out) ∧ (refGo l out).length ≤ l.length + out.length
  | [], out, h => ⟨h, by simp [refGo], by simp [refGo]⟩
  | v :: l, out, h => by
    unfold refGo
    rw [hasL_mem]
    by_cases hv : v ∈ out
    · simp only [hv, decide_true, if_true]
      obtain ⟨a, b, c⟩ := refGo_spec l out h
      refine ⟨a, fun x => ?_, by simp only [List.length_cons]; omega⟩
      rw [b, List.mem_cons]
      constructor
      · rintro (h | h)
        · exact .inl (.inr h)
        · exact .inr h
      · rintro ((h | h) | h)
        · exact .inr (by rw [h]; exact hv)
        · exact .inl h
        · exact .inr h
    · simp only [hv, decide_false, Bool.false_eq_true, if_false]
      obtain ⟨a, b, c⟩ := refGo_spec l (insR v out) (insR_rising v out h hv)
      refine ⟨a, fun x => ?_, by rw [insR_len] at c; simp only [List.length_cons]; omega⟩
      rw [b, insR_mem, List.mem_cons]
      constructor
      · rintro (h | h | h)
        · exact .inl (.inr h)
        · exact .inl (.inl h)
        · exact .inr h
      · rintro ((h | h) | h)
        · exact .inr (.inl h)
        · exact .inl h
        · exact .inr (.inr h)
/-- A small domain's list. -/
structure SmallDom (w : Int) (l : List Int) : Prop where
  ris : Rising l
  ne : l ≠ []
  abs : ∀ x ∈ l, -w < x ∧ x < w
  len : l.length ≤ 6
theorem smallL_ok {l : List Int} {w : Int} (hne : l ≠ []) (hw : 1 ≤ w) : SmallDom w (smallL l 6 w) := by
  obtain ⟨h1, h2⟩ := cutL_small hne (show (0 : Int) < 6 by omega) hw
  obtain ⟨a, b, c⟩ := refGo_spec (cutL l 6 w) [] List.Pairwise.nil
  have e : smallL l 6 w = refGo (cutL l 6 w) [] := rfl
  rw [← e] at a b c
  have hc : (cutL l 6 w).length ≤ 6 := by unfold cutL; rw [List.length_map, List.length_take]; omega
  refine ⟨a, ?_, fun x hx => ?_, by simp only [List.length_nil] at c; omega⟩
  · obtain ⟨x, hx⟩ := List.exists_mem_of_ne_nil _ h1
    exact List.ne_nil_of_mem ((b x).mpr (.inl hx))
  · rcases (b x).mp hx with h | h
    · exact h2 x h
    · simp at h
theorem places_length (l : List Int) (n v : Int) : (placesL l n v).length = n.toNat := by unfold placesL; simp
theorem conC_len {z : Small} {v : Int} : (conC z v).2.1.length + (conC z v).2.2.1.length = 2 ∧ (conC z v).2.1.length ≤ 2 ∧ (conC z v).2.2.1.length ≤ 2 := by
  unfold conC
  split <;> simp [places_length]
theorem pick_ne (d : List (List Int)) (i : Nat) : pickL d i ≠ [] := by
  unfold pickL
  split
  · rename_i h
    intro e
    rw [e] at h
    simp at h
  · simp
end Go.Proofs.YthdpbmcidebagaaGreatDoor.Ev
