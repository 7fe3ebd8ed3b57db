/-
Seat 'a': the filters: what the functions answer.
Conditions: lists are short; constraints of the kinds that this seat is about.
Seat 'a': constraints and domains made of plain data: what the functions answer, and what they are like.
Conditions: the kinds of Element, EqReif, LeReif, EqImp, LeImp.
-/
import Derived.Test.YtnojoaghcbljfaaGreatDoorAx
import Derived.Test.YtnojoaghcbljfaaGreatDoorAc
import Derived.Test.YtnojoaghcbljfaaGreatDoorAm
set_option linter.unusedVariables false
set_option linter.unusedSimpArgs false
set_option maxRecDepth 100000
namespace Go.Proofs.YtnojoaghcbljfaaGreatDoor.Ev
open Go

theorem ofD_err (xs : List Int) : decide ((ofD xs).2 = 0) = okL xs := by
  cases h : okL xs with
  | true => rw [ofD_ok h]; rfl
  | false =>
    unfold ofD
    by_cases h0 : xs.length = 0
    · simp [h0]
    · by_cases h1 : xs.any outD = true
      · simp [h0, h1]
      · by_cases h2 : maxL xs - minL xs ≥ 65536
        · simp [h0, h1, h2]
        · have h1' : xs.any outD = false := by simpa using h1
          have hne : xs ≠ [] := fun e => h0 (by rw [e]; rfl)
          rw [okL_iff.mpr ⟨hne, no_out h1', by omega⟩] at h
          simp at h
theorem F49.loop (K : Conts) (l : List (List Int)) (hl : l.length ≤ 1000) : ∀ (n : Nat) (i : Int) (acc : List Dom), 0 ≤ i → i ≤ l.length → l.length - i < n → acc.length ≤ i.toNat →
    F49.l1_1_0_1_0 n K l l.length i acc = bif (l.drop i.toNat).all okL then exitK K 0 ⟨slots 28 [(4, .own 0)], [.row 47 DomT (acc ++ domsL (l.drop i.toNat))]⟩ else K.ret ⟨slots 28 [(2, .nl), (3, .v .bool false)], []⟩ := by
  intro n
  induction n with
  | zero => intro i acc h0 h1 h2; omega
  | succ n ih =>
    intro i acc h0 h1 h2 h3
    refine (F49.l1_1_0_1_0_eq n K l _ i acc).trans ?_
    by_cases hi : i < l.length
    · rw [drop_get (d := []) h0 hi]
      generalize l.getD i.toNat [] = x
      have lim : (acc.length + [(ofD x).1].length) * 56 ≤ LIM := lim56 (by simp; omega)
      rw [ofD_err]
      simp only [hi, h0, lim, decide_true, Bool.and_true, cond_true, List.all_cons]
      cases okL x with
      | false => rfl
      | true =>
        simp only [Bool.not_true, cond_false, Bool.true_and]
        rw [wrap_ok (by omega) (by omega), ih (i + 1) _ (by omega) (by omega) (by omega) (by simp; omega)]
        have e : acc ++ [(ofD x).1] ++ domsL (l.drop (i + 1).toNat) = acc ++ domsL (x :: l.drop (i + 1).toNat) := by
          unfold domsL
          simp
        rw [e]
    · rw [List.drop_of_length_le (by omega)]
      simp only [hi, decide_false, cond_false, List.all_nil, cond_true]
      have e : acc ++ domsL [] = acc := by unfold domsL; simp
      rw [e]
theorem F49.sem (l : List (List Int)) (hl : l.length ≤ 1000) : ∃ r, callW F49.E false F49.fn 1001 [.v (.sl (.sl (.int .i64))) l] = some r ∧ WA r (.tup [.v (.sl DomT) (madeAll l).1, .v .bool (madeAll l).2]) := by
  have st := F49.start_eq 1001 l
  rw [F49.loop _ l hl 1001 0 [] (by omega) (by omega) (by omega) (by simp)] at st
  have e : l.drop (Int.toNat 0) = l := rfl
  rw [e] at st
  unfold madeAll
  cases h : l.all okL with
  | false =>
    rw [h] at st
    exact ⟨_, st.trans (F49.c0 _), .tup (.cons (.one (by simp) (.nl _)) (.cons (.one (by simp) (.same _)) .nil))⟩
  | true =>
    rw [h] at st
    exact ⟨_, st.trans (F49.c1 _ _), WA.refl _⟩
theorem F48.sem (k : Nat) (c : Con) (d : List Dom) (f l : Int) (h : fitsB c f l = true) (hA : c.2.1.length ≤ maxLen) (hB : c.2.2.1.length ≤ maxLen) (hd : d.length ≤ maxLen) :
    callW F48.E false F48.fn k [.agg (explode ConT c), .v (.sl DomT) d, .v (.int .i64) f, .v (.int .i64) l] = some (.v .bool (fitsD c d f l)) := by
  refine (F48.start_eq k c d f l).trans ?_
  unfold fitsD lenCB
  by_cases h1 : c.1 ≥ f
  · by_cases h2 : c.1 ≤ l
    · have h1' : f ≤ c.1 := h1
      have hk : kindB c = true := by
        unfold fitsB at h
        simp only [h1', h2, decide_true, Bool.and_true, Bool.not_true, Bool.false_or] at h
        exact h
      simp only [h1, h1', h2, hk, decide_true, cond_true, Bool.true_and]
      by_cases h3 : rightM c 256 = 0
      · have hc : countedD c ⟨#[]⟩ = true := by
          unfold rightM at h3
          cases hh : countedD c ⟨#[]⟩ with
          | true => rfl
          | false => rw [hh] at h3; simp at h3
        have hv := vars_of hk hc
        unfold varsB at hv
        simp only [Bool.and_eq_true, decide_eq_true_eq] at hv
        rw [wrap_ok (by omega) (by omega)]
        simp only [h3, decide_true, cond_true, Bool.true_and]
        by_cases h4 : d.length = c.2.1.length + c.2.2.1.length
        · have h4' : (d.length : Int) = (c.2.1.length : Int) + (c.2.2.1.length : Int) := by omega
          rw [decide_eq_true h4', decide_eq_true h4]
          rfl
        · have h4' : ¬ (d.length : Int) = (c.2.1.length : Int) + (c.2.2.1.length : Int) := by omega
          simp only [h4, h4', decide_false, cond_false, Bool.false_and]
      · simp only [h3, decide_false, cond_false, Bool.false_and]
    · simp only [h1, h2, decide_true, decide_false, cond_true, cond_false, Bool.false_and, Bool.and_false]
  · have h1' : ¬ f ≤ c.1 := h1
    simp only [h1, h1', decide_false, cond_false, Bool.false_and]
/-! ### elem.Filter -/
theorem fits_len {c : Con} {d : List Dom} {f l : Int} (h : fitsD c d f l = true) (hb : fitsB c f l = true) : kindB c = true ∧ countedD c ⟨#[]⟩ = true ∧ d.length = c.2.1.length + c.2.2.1.length ∧ f ≤ c.1 ∧ c.1 ≤ l := by
  unfold fitsD lenCB at h
  simp only [Bool.and_eq_true, decide_eq_true_eq] at h
  obtain ⟨⟨⟨⟨h1, h2⟩, h3⟩, h4⟩, h5⟩ := h
  refine ⟨?_, ?_, h4, h1, h2⟩
  · unfold fitsB at hb
    simp only [h1, h2, decide_true, Bool.and_true, Bool.not_true, Bool.false_or] at hb
    exact hb
  · unfold rightM at h3
    cases hh : countedD c ⟨#[]⟩ with
    | true => rfl
    | false => rw [hh] at h3; simp at h3
theorem listB_near {d : Dom} (h : listB d = true) : nearB d.1 = true := by
  unfold listB at h
  simp only [Bool.and_eq_true] at h
  exact h.1.1
/-! ### reif.Filter -/
end Go.Proofs.YtnojoaghcbljfaaGreatDoor.Ev

set_option linter.unusedVariables false
set_option linter.unusedSimpArgs false
set_option maxRecDepth 100000
namespace Go.Proofs.YtnojoaghcbljfaaGreatDoor.Ev
open Go
abbrev ZRest := List Int × List Int × List Int × Int × Int
abbrev SmallT : Ty := .pair (.int .u8) (.pair (.sl (.int .u8)) (.pair (.sl (.int .u8)) (.pair (.sl (.int .i8)) (.pair (.int .i16) (.int .u8)))))
abbrev CaseT : Ty := .pair SmallT (.sl (.sl (.int .i64)))
theorem places_ok {l : List Int} {n v : Int} (h0 : 0 ≤ n) (h1 : n ≤ 1000) (hv : v ≠ 0) : placesB l n v = true := by unfold placesB; simp [h0, h1, hv]
/-! ### what is made -/
theorem tmod_abs {v w : Int} (hw : 0 < w) : -w < v.tmod w ∧ v.tmod w < w := by
  rcases Int.le_total 0 v with h | h
  · rw [Int.tmod_eq_emod_of_nonneg h]
    have h1 := Int.emod_nonneg v (show w ≠ 0 by omega)
    have h2 := Int.emod_lt_of_pos v hw
    omega
  · have e : v.tmod w = -((-v).tmod w) := by rw [Int.neg_tmod, Int.neg_neg]
    rw [e, Int.tmod_eq_emod_of_nonneg (by omega)]
    have h1 := Int.emod_nonneg (-v) (show w ≠ 0 by omega)
    have h2 := Int.emod_lt_of_pos (-v) hw
    omega
theorem okL_small {l : List Int} (hne : l ≠ []) (h : ∀ x ∈ l, -1000 ≤ x ∧ x ≤ 1000) : okL l = true := by
  refine okL_iff.mpr ⟨hne, fun x hx => ?_, ?_⟩
  · have := h x hx
    exact inD_iff.mpr ⟨by omega, by omega⟩
  · have h1 := h _ (maxL_spec hne).2
    have h2 := h _ (minL_spec hne).2
    omega
theorem cutL_small {l : List Int} {m w : Int} (hne : l ≠ []) (hm : 0 < m) (hw : 1 ≤ w) : cutL l m w ≠ [] ∧ ∀ x ∈ cutL l m w, -w < x ∧ x < w := by
  refine ⟨?_, fun x hx => ?_⟩
  · unfold cutL
    intro e
    rw [List.map_eq_nil_iff] at e
    rcases List.take_eq_nil_iff.mp e with h | h
    · omega
    · exact hne h
  · unfold cutL at hx
    obtain ⟨y, _, rfl⟩ := List.mem_map.mp hx
    exact tmod_abs (by omega)
theorem smallB_ok {l : List Int} {w : Int} (hne : l ≠ []) (hw : 1 ≤ w) (hw1 : w ≤ 1000) : smallB l 6 w = true := by
  unfold smallB
  obtain ⟨h1, h2⟩ := cutL_small hne (show (0 : Int) < 6 by omega) hw
  have h3 : okL (cutL l 6 w) = true := okL_small h1 (fun x hx => by have := h2 x hx; omega)
  have h4 : (cutL l 6 w).length ≤ 1000 := by unfold cutL; rw [List.length_map, List.length_take]; omega
  simp only [Bool.and_eq_true, decide_eq_true_eq, Nat.ble_eq]
  exact ⟨⟨⟨⟨h4, by omega⟩, by omega⟩, by omega⟩, h3⟩
theorem insR_mem (v : Int) : ∀ (out : List Int) (x : Int), x ∈ insR v out ↔ x = v ∨ x ∈ out
  | [], x => by simp [insR]
  | y :: out, x => by
    unfold insR
    split
    · simp
    · rw [List.mem_cons, insR_mem v out, List.mem_cons]
      constructor
      · rintro (h | h | h)
        · exact .inr (.inl h)
        · exact .inl h
        · exact .inr (.inr h)
      · rintro (h | h | h)
        · exact .inr (.inl h)
        · exact .inl h
        · exact .inr (.inr h)
theorem insR_rising (v : Int) : ∀ (out : List Int), Rising out → v ∉ out → Rising (insR v out)
  | [], _, _ => by unfold insR; exact List.pairwise_singleton _ _
  | y :: out, h, hv => by
    obtain ⟨h1, h2⟩ := List.pairwise_cons.mp h
    unfold insR
    split
    · rename_i hy
      refine List.pairwise_cons.mpr ⟨fun z hz => ?_, h⟩
      rcases List.mem_cons.mp hz with rfl | hz
      · omega
      · have := h1 z hz; omega
    · rename_i hy
      have hne : v ≠ y := fun e => hv (by rw [e]; simp)
      refine List.pairwise_cons.mpr ⟨fun z hz => ?_, insR_rising v out h2 (fun hm => hv (by simp [hm]))⟩
      rcases (insR_mem v out z).mp hz with rfl | hz
      · omega
      · exact h1 z hz
theorem hasL_mem (l : List Int) (v : Int) : hasL l v = decide (v ∈ l) := by
  unfold hasL
  rw [Bool.eq_iff_iff]
  simp
theorem refGo_spec : ∀ (l out : List Int), Rising out → Rising (refGo l out) ∧ (∀ x, x ∈ refGo l out ↔ x ∈ l ∨ x ∈ out) ∧ (refGo l out).length ≤ l.length + out.length
  | [], out, h => ⟨h, by simp [refGo], by simp [refGo]⟩
  | v :: l, out, h => by
    unfold refGo
    rw [hasL_mem]
    by_cases hv : v ∈ out
    · simp only [hv, decide_true, if_true]
      obtain ⟨a, b, c⟩ := refGo_spec l out h
      refine ⟨a, fun x => ?_, by simp only [List.length_cons]; omega⟩
      rw [b, List.mem_cons]
      constructor
      · rintro (h | h)
        · exact .inl (.inr h)
        · exact .inr h
      · rintro ((h | h) | h)
        · exact .inr (by rw [h]; exact hv)
        · exact .inl h
        · exact .inr h
    · simp only [hv, decide_false, Bool.false_eq_true, if_false]
      obtain ⟨a, b, c⟩ := refGo_spec l (insR v out) (insR_rising v out h hv)
      refine ⟨a, fun x => ?_, by rw [insR_len] at c; simp only [List.length_cons]; omega⟩
      rw [b, insR_mem, List.mem_cons]
      constructor
      · rintro (h | h | h)
        · exact .inl (.inr h)
        · exact .inl (.inl h)
        · exact .inr h
      · rintro ((h | h) | h)
        · exact .inr (.inl h)
        · exact .inl h
        · exact .inr (.inr h)
/-- A small domain's list. -/
structure SmallDom (w : Int) (l : List Int) : Prop where
  ris : Rising l
  ne : l ≠ []
  abs : ∀ x ∈ l, -w < x ∧ x < w
  len : l.length ≤ 6
theorem smallL_ok {l : List Int} {w : Int} (hne : l ≠ []) (hw : 1 ≤ w) : SmallDom w (smallL l 6 w) := by
  obtain ⟨h1, h2⟩ := cutL_small hne (show (0 : Int) < 6 by omega) hw
  obtain ⟨a, b, c⟩ := refGo_spec (cutL l 6 w) [] List.Pairwise.nil
  have e : smallL l 6 w = refGo (cutL l 6 w) [] := rfl
  rw [← e] at a b c
  have hc : (cutL l 6 w).length ≤ 6 := by unfold cutL; rw [List.length_map, List.length_take]; omega
  refine ⟨a, ?_, fun x hx => ?_, by simp only [List.length_nil] at c; omega⟩
  · obtain ⟨x, hx⟩ := List.exists_mem_of_ne_nil _ h1
    exact List.ne_nil_of_mem ((b x).mpr (.inl hx))
  · rcases (b x).mp hx with h | h
    · exact h2 x h
    · simp at h
theorem places_length (l : List Int) (n v : Int) : (placesL l n v).length = n.toNat := by unfold placesL; simp
theorem pick_ne (d : List (List Int)) (i : Nat) : pickL d i ≠ [] := by
  unfold pickL
  split
  · rename_i h
    intro e
    rw [e] at h
    simp at h
  · simp
end Go.Proofs.YtnojoaghcbljfaaGreatDoor.Ev
