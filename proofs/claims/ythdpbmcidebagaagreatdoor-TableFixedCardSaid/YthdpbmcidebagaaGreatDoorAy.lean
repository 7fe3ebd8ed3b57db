/-
Seat 'a': the filters: what the functions answer.
Conditions: lists are short; constraints of the kinds that this seat is about.
-/
import Derived.Test.YthdpbmcidebagaaGreatDoorAx
import Derived.Test.YthdpbmcidebagaaGreatDoorAc
set_option linter.unusedVariables false
set_option linter.unusedSimpArgs false
set_option maxRecDepth 100000
namespace Go.Proofs.YthdpbmcidebagaaGreatDoor.Ev
open Go

theorem ofD_err (xs : List Int) : decide ((ofD xs).2 = 0) = okL xs := by
  cases h : okL xs with
  | true => rw [ofD_ok h]; rfl
  | false =>
    unfold ofD
    by_cases h0 : xs.length = 0
    · simp [h0]
    · by_cases h1 : xs.any outD = true
      · simp [h0, h1]
      · by_cases h2 : maxL xs - minL xs ≥ 65536
        · simp [h0, h1, h2]
        · have h1' : xs.any outD = false := by simpa using h1
          have hne : xs ≠ [] := fun e => h0 (by rw [e]; rfl)
          rw [okL_iff.mpr ⟨hne, no_out h1', by omega⟩] at h
          simp at h
theorem F49.loop (K : Conts) (l : List (List Int)) (hl : l.length ≤ 1000) : ∀ (n : Nat) (i : Int) (acc : List Dom), 0 ≤ i → i ≤ l.length → l.length - i < n → acc.length ≤ i.toNat →
    F49.l1_1_0_1_0 n K l l.length i acc = bif (l.drop i.toNat).all okL then exitK K 0 ⟨slots 28 [(4, .own 0)], [.row 57 DomT (acc ++ domsL (l.drop i.toNat))]⟩ else K.ret ⟨slots 28 [(2, .nl), (3, .v .bool false)], []⟩ := by
  intro n
  induction n with
  | zero => intro i acc h0 h1 h2; omega
  | succ n ih =>
    intro i acc h0 h1 h2 h3
    refine (F49.l1_1_0_1_0_eq n K l _ i acc).trans ?_
    by_cases hi : i < l.length
    · rw [drop_get (d := []) h0 hi]
      generalize l.getD i.toNat [] = x
      have lim : (acc.length + [(ofD x).1].length) * 56 ≤ LIM := lim56 (by simp; omega)
      rw [ofD_err]
      simp only [hi, h0, lim, decide_true, Bool.and_true, cond_true, List.all_cons]
      cases okL x with
      | false => rfl
      | true =>
        simp only [Bool.not_true, cond_false, Bool.true_and]
        rw [wrap_ok (by omega) (by omega), ih (i + 1) _ (by omega) (by omega) (by omega) (by simp; omega)]
        have e : acc ++ [(ofD x).1] ++ domsL (l.drop (i + 1).toNat) = acc ++ domsL (x :: l.drop (i + 1).toNat) := by
          unfold domsL
          simp
        rw [e]
    · rw [List.drop_of_length_le (by omega)]
      simp only [hi, decide_false, cond_false, List.all_nil, cond_true]
      have e : acc ++ domsL [] = acc := by unfold domsL; simp
      rw [e]
theorem F49.sem (l : List (List Int)) (hl : l.length ≤ 1000) : ∃ r, callW F49.E false F49.fn 1001 [.v (.sl (.sl (.int .i64))) l] = some r ∧ WA r (.tup [.v (.sl DomT) (madeAll l).1, .v .bool (madeAll l).2]) := by
  have st := F49.start_eq 1001 l
  rw [F49.loop _ l hl 1001 0 [] (by omega) (by omega) (by omega) (by simp)] at st
  have e : l.drop (Int.toNat 0) = l := rfl
  rw [e] at st
  unfold madeAll
  cases h : l.all okL with
  | false =>
    rw [h] at st
    exact ⟨_, st.trans (F49.c0 _), .tup (.cons (.one (by simp) (.nl _)) (.cons (.one (by simp) (.same _)) .nil))⟩
  | true =>
    rw [h] at st
    exact ⟨_, st.trans (F49.c1 _ _), WA.refl _⟩
theorem F48.sem (k : Nat) (c : Con) (d : List Dom) (f l : Int) (h : fitsB c f l = true) (hA : c.2.1.length ≤ maxLen) (hB : c.2.2.1.length ≤ maxLen) (hd : d.length ≤ maxLen) :
    callW F48.E false F48.fn k [.agg (explode ConT c), .v (.sl DomT) d, .v (.int .i64) f, .v (.int .i64) l] = some (.v .bool (fitsD c d f l)) := by
  refine (F48.start_eq k c d f l).trans ?_
  unfold fitsD lenCB
  by_cases h1 : c.1 ≥ f
  · by_cases h2 : c.1 ≤ l
    · have h1' : f ≤ c.1 := h1
      have hk : kindB c = true := by
        unfold fitsB at h
        simp only [h1', h2, decide_true, Bool.and_true, Bool.not_true, Bool.false_or] at h
        exact h
      simp only [h1, h1', h2, hk, decide_true, cond_true, Bool.true_and]
      by_cases h3 : rightM c 256 = 0
      · have hc : countedD c ⟨#[]⟩ = true := by
          unfold rightM at h3
          cases hh : countedD c ⟨#[]⟩ with
          | true => rfl
          | false => rw [hh] at h3; simp at h3
        have hv := vars_of hk hc
        unfold varsB at hv
        simp only [Bool.and_eq_true, decide_eq_true_eq] at hv
        rw [wrap_ok (by omega) (by omega)]
        simp only [h3, decide_true, cond_true, Bool.true_and]
        by_cases h4 : d.length = c.2.1.length + c.2.2.1.length
        · have h4' : (d.length : Int) = (c.2.1.length : Int) + (c.2.2.1.length : Int) := by omega
          rw [decide_eq_true h4', decide_eq_true h4]
          rfl
        · have h4' : ¬ (d.length : Int) = (c.2.1.length : Int) + (c.2.2.1.length : Int) := by omega
          simp only [h4, h4', decide_false, cond_false, Bool.false_and]
      · simp only [h3, decide_false, cond_false, Bool.false_and]
    · simp only [h1, h2, decide_true, decide_false, cond_true, cond_false, Bool.false_and, Bool.and_false]
  · have h1' : ¬ f ≤ c.1 := h1
    simp only [h1, h1', decide_false, cond_false, Bool.false_and]
theorem all_any {α : Type} (p : α → Bool) (l : List α) : (l.all fun x => !(p x)) = !(l.any p) := by
  induction l with
  | nil => rfl
  | cons x l ih => simp only [List.all_cons, List.any_cons, ih]; cases p x <;> rfl
/-! ### elem.Filter -/
theorem fits_len {c : Con} {d : List Dom} {f l : Int} (h : fitsD c d f l = true) (hb : fitsB c f l = true) : kindB c = true ∧ countedD c ⟨#[]⟩ = true ∧ d.length = c.2.1.length + c.2.2.1.length ∧ f ≤ c.1 ∧ c.1 ≤ l := by
  unfold fitsD lenCB at h
  simp only [Bool.and_eq_true, decide_eq_true_eq] at h
  obtain ⟨⟨⟨⟨h1, h2⟩, h3⟩, h4⟩, h5⟩ := h
  refine ⟨?_, ?_, h4, h1, h2⟩
  · unfold fitsB at hb
    simp only [h1, h2, decide_true, Bool.and_true, Bool.not_true, Bool.false_or] at hb
    exact hb
  · unfold rightM at h3
    cases hh : countedD c ⟨#[]⟩ with
    | true => rfl
    | false => rw [hh] at h3; simp at h3
theorem listB_near {d : Dom} (h : listB d = true) : nearB d.1 = true := by
  unfold listB at h
  simp only [Bool.and_eq_true] at h
  exact h.1.1
/-! ### reif.Filter -/
end Go.Proofs.YthdpbmcidebagaaGreatDoor.Ev
