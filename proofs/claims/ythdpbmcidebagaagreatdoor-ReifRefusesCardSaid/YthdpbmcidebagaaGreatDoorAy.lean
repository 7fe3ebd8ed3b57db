/-
Seat 'a': the filters: what the functions answer.
Conditions: lists are short; constraints of the kinds that this seat is about.
-/
import Derived.Test.YthdpbmcidebagaaGreatDoorAx
import Derived.Test.YthdpbmcidebagaaGreatDoorAd
set_option linter.unusedVariables false
set_option linter.unusedSimpArgs false
set_option maxRecDepth 100000
namespace Go.Proofs.YthdpbmcidebagaaGreatDoor.Ev
open Go

theorem ofD_err (xs : List Int) : decide ((ofD xs).2 = 0) = okL xs := by
  cases h : okL xs with
  | true => rw [ofD_ok h]; rfl
  | false =>
    unfold ofD
    by_cases h0 : xs.length = 0
    · simp [h0]
    · by_cases h1 : xs.any outD = true
      · simp [h0, h1]
      · by_cases h2 : maxL xs - minL xs ≥ 65536
        · simp [h0, h1, h2]
        · have h1' : xs.any outD = false := by simpa using h1
          have hne : xs ≠ [] := fun e => h0 (by rw [e]; rfl)
          rw [okL_iff.mpr ⟨hne, no_out h1', by omega⟩] at h
          simp at h
theorem F49.loop (K : Conts) (l : List (List Int)) (hl : l.length ≤ 1000) : ∀ (n : Nat) (i : Int) (acc : List Dom), 0 ≤ i → i ≤ l.length → l.length - i < n → acc.length ≤ i.toNat →
    F49.l1_1_0_1_0 n K l l.length i acc = bif (l.drop i.toNat).all okL then exitK K 0 ⟨slots 28 [(4, .own 0)], [.row 57 DomT (acc ++ domsL (l.drop i.toNat))]⟩ else K.ret ⟨slots 28 [(2, .nl), (3, .v .bool false)], []⟩ := by
  intro n
  induction n with
  | zero => intro i acc h0 h1 h2; omega
  | succ n ih =>
    intro i acc h0 h1 h2 h3
    refine (F49.l1_1_0_1_0_eq n K l _ i acc).trans ?_
    by_cases hi : i < l.length
    · rw [drop_get (d := []) h0 hi]
      generalize l.getD i.toNat [] = x
      have lim : (acc.length + [(ofD x).1].length) * 56 ≤ LIM := lim56 (by simp; omega)
      rw [ofD_err]
      simp only [hi, h0, lim, decide_true, Bool.and_true, cond_true, List.all_cons]
      cases okL x with
      | false => rfl
      | true =>
        simp only [Bool.not_true, cond_false, Bool.true_and]
        rw [wrap_ok (by omega) (by omega), ih (i + 1) _ (by omega) (by omega) (by omega) (by simp; omega)]
        have e : acc ++ [(ofD x).1] ++ domsL (l.drop (i + 1).toNat) = acc ++ domsL (x :: l.drop (i + 1).toNat) := by
          unfold domsL
          simp
        rw [e]
    · rw [List.drop_of_length_le (by omega)]
      simp only [hi, decide_false, cond_false, List.all_nil, cond_true]
      have e : acc ++ domsL [] = acc := by unfold domsL; simp
      rw [e]
theorem F49.sem (l : List (List Int)) (hl : l.length ≤ 1000) : ∃ r, callW F49.E false F49.fn 1001 [.v (.sl (.sl (.int .i64))) l] = some r ∧ WA r (.tup [.v (.sl DomT) (madeAll l).1, .v .bool (madeAll l).2]) := by
  have st := F49.start_eq 1001 l
  rw [F49.loop _ l hl 1001 0 [] (by omega) (by omega) (by omega) (by simp)] at st
  have e : l.drop (Int.toNat 0) = l := rfl
  rw [e] at st
  unfold madeAll
  cases h : l.all okL with
  | false =>
    rw [h] at st
    exact ⟨_, st.trans (F49.c0 _), .tup (.cons (.one (by simp) (.nl _)) (.cons (.one (by simp) (.same _)) .nil))⟩
  | true =>
    rw [h] at st
    exact ⟨_, st.trans (F49.c1 _ _), WA.refl _⟩
theorem F48.sem (k : Nat) (c : Con) (d : List Dom) (f l : Int) (h : fitsB c f l = true) (hA : c.2.1.length ≤ maxLen) (hB : c.2.2.1.length ≤ maxLen) (hd : d.length ≤ maxLen) :
    callW F48.E false F48.fn k [.agg (explode ConT c), .v (.sl DomT) d, .v (.int .i64) f, .v (.int .i64) l] = some (.v .bool (fitsD c d f l)) := by
  refine (F48.start_eq k c d f l).trans ?_
  unfold fitsD lenCB
  by_cases h1 : c.1 ≥ f
  · by_cases h2 : c.1 ≤ l
    · have h1' : f ≤ c.1 := h1
      have hk : kindB c = true := by
        unfold fitsB at h
        simp only [h1', h2, decide_true, Bool.and_true, Bool.not_true, Bool.false_or] at h
        exact h
      simp only [h1, h1', h2, hk, decide_true, cond_true, Bool.true_and]
      by_cases h3 : rightM c 256 = 0
      · have hc : countedD c ⟨#[]⟩ = true := by
          unfold rightM at h3
          cases hh : countedD c ⟨#[]⟩ with
          | true => rfl
          | false => rw [hh] at h3; simp at h3
        have hv := vars_of hk hc
        unfold varsB at hv
        simp only [Bool.and_eq_true, decide_eq_true_eq] at hv
        rw [wrap_ok (by omega) (by omega)]
        simp only [h3, decide_true, cond_true, Bool.true_and]
        by_cases h4 : d.length = c.2.1.length + c.2.2.1.length
        · have h4' : (d.length : Int) = (c.2.1.length : Int) + (c.2.2.1.length : Int) := by omega
          rw [decide_eq_true h4', decide_eq_true h4]
          rfl
        · have h4' : ¬ (d.length : Int) = (c.2.1.length : Int) + (c.2.2.1.length : Int) := by omega
          simp only [h4, h4', decide_false, cond_false, Bool.false_and]
      · simp only [h3, decide_false, cond_false, Bool.false_and]
    · simp only [h1, h2, decide_true, decide_false, cond_true, cond_false, Bool.false_and, Bool.and_false]
  · have h1' : ¬ f ≤ c.1 := h1
    simp only [h1, h1', decide_false, cond_false, Bool.false_and]
theorem all_any {α : Type} (p : α → Bool) (l : List α) : (l.all fun x => !(p x)) = !(l.any p) := by
  induction l with
  | nil => rfl
  | cons x l ih => simp only [List.all_cons, List.any_cons, ih]; cases p x <;> rfl
theorem F69.sem (k : Nat) (c : Con) (v b : Int) : callW F69.E false F69.fn k [.agg (explode ConT c), .v (.int .i64) v, .v (.int .i64) b] = some (.v .bool (allowedC c v b)) := by
  refine (F69.start_eq k c v b).trans ?_
  unfold allowedC soC
  by_cases h4 : c.1 = 14
  · by_cases hb : b = 1 <;> simp [h4, hb]
  · by_cases h6 : c.1 = 16
    · by_cases hb : b = 1 <;> simp [h6, hb]
    · by_cases h5 : c.1 = 15
      · by_cases hb : b = 1 <;> simp [h5, hb]
      · by_cases hb : b = 1 <;> simp [h4, h5, h6, hb]
/-! ### elem.Filter -/
theorem fits_len {c : Con} {d : List Dom} {f l : Int} (h : fitsD c d f l = true) (hb : fitsB c f l = true) : kindB c = true ∧ countedD c ⟨#[]⟩ = true ∧ d.length = c.2.1.length + c.2.2.1.length ∧ f ≤ c.1 ∧ c.1 ≤ l := by
  unfold fitsD lenCB at h
  simp only [Bool.and_eq_true, decide_eq_true_eq] at h
  obtain ⟨⟨⟨⟨h1, h2⟩, h3⟩, h4⟩, h5⟩ := h
  refine ⟨?_, ?_, h4, h1, h2⟩
  · unfold fitsB at hb
    simp only [h1, h2, decide_true, Bool.and_true, Bool.not_true, Bool.false_or] at hb
    exact hb
  · unfold rightM at h3
    cases hh : countedD c ⟨#[]⟩ with
    | true => rfl
    | false => rw [hh] at h3; simp at h3
theorem listB_near {d : Dom} (h : listB d = true) : nearB d.1 = true := by
  unfold listB at h
  simp only [Bool.and_eq_true] at h
  exact h.1.1
theorem F19.loop (K : Conts) (d : List Dom) (cs : List Int) (hl : cs.length ≤ 64) (hd : d.length = 2) (h0n : nearB (d.getD 0 dom0).1 = true) (h1n : nearB (d.getD 1 dom0).1 = true) : ∀ (n : Nat) (i : Int) (a w : List Int), 0 ≤ i → i ≤ cs.length → cs.length - i < n → a.length ≤ i.toNat → w.length ≤ i.toNat →
    F19.l1_1_1_0_1_0 n K d cs cs.length i a w = exitK K 0 ⟨slots 51 [(6, .own 0), (7, .own 1)], [.row 3 (.int .i64) (a ++ (elemGo (d.getD 0 dom0) (d.getD 1 dom0) i (cs.drop i.toNat)).1), .row 3 (.int .i64) (w ++ (elemGo (d.getD 0 dom0) (d.getD 1 dom0) i (cs.drop i.toNat)).2)]⟩ := by
  intro n
  induction n with
  | zero => intro i a w h0 h1 h2; omega
  | succ n ih =>
    intro i a w h0 h1 h2 h3 h4
    refine (F19.l1_1_1_0_1_0_eq n K d cs _ i a w).trans ?_
    by_cases hi : i < cs.length
    · rw [drop_get (d := (0 : Int)) h0 hi]
      generalize cs.getD i.toNat 0 = v
      have b0 : (0 : Int) < d.length := by omega
      have b1 : (1 : Int) < d.length := by omega
      have l1 : ∀ y : Int, (a.length + [y].length) * 8 ≤ LIM := fun y => lim8 (by simp; omega)
      have l2 : ∀ y : Int, (w.length + [y].length) * 8 ≤ LIM := fun y => lim8 (by simp; omega)
      have n0 : nearB (d.getD 0 (0, [], 0, 0, 0)).1 = true := h0n
      have n1 : nearB (d.getD 1 (0, [], 0, 0, 0)).1 = true := h1n
      rw [wrap_ok (x := i + 1) (by omega) (by omega)]
      simp only [hi, h0, b0, b1, n0, n1, l1, l2, decide_true, Bool.and_true, cond_true, elemGo]
      have e0 : d.getD 0 (0, [], 0, 0, 0) = d.getD 0 dom0 := rfl
      have e1 : d.getD 1 (0, [], 0, 0, 0) = d.getD 1 dom0 := rfl
      rw [e0, e1]
      cases hasD (d.getD 0 dom0) (i + 1) with
      | false =>
        simp only [cond_false, Bool.false_and, Bool.false_eq_true, if_false]
        exact ih (i + 1) a w (by omega) (by omega) (by omega) (by omega) (by omega)
      | true =>
        cases hasD (d.getD 1 dom0) v with
        | false =>
          simp only [cond_true, cond_false, Bool.true_and, Bool.false_eq_true, if_false]
          exact ih (i + 1) a w (by omega) (by omega) (by omega) (by omega) (by omega)
        | true =>
          simp only [cond_true, Bool.true_and, if_true]
          rw [ih (i + 1) (a ++ [i + 1]) (w ++ [v]) (by omega) (by omega) (by omega) (by simp; omega) (by simp; omega)]
          simp only [List.append_assoc, List.singleton_append]
    · rw [List.drop_of_length_le (by omega)]
      simp only [hi, decide_false, cond_false, elemGo, List.append_nil]
theorem F19.sem (c : Con) (d : List Dom) (h : filtB 11 11 c d = true) : ∃ r, callW F19.E false F19.fn 1001 [.agg (explode ConT c), .v (.sl DomT) d] = some r ∧ WA r (.tup [.v (.sl DomT) (elemF c d).1, .v .bool (elemF c d).2]) := by
  unfold filtB at h
  rw [Bool.and_eq_true] at h
  have st := F19.start_eq 1001 c d
  rw [h.1] at st
  simp only [cond_true] at st
  unfold elemF
  cases hf : fitsD c d 11 11 with
  | false =>
    rw [hf] at st
    exact ⟨_, st, .tup (.cons (.one (by simp) (.nl _)) (.cons (.one (by simp) (.same _)) .nil))⟩
  | true =>
    rw [hf] at st
    simp only [Bool.not_true, cond_false] at st
    obtain ⟨hk, hc, hlen, g1, g2⟩ := fits_len hf h.1
    have hk11 : c.1 = 11 := by omega
    simp [countedD, hk11, noneL, -List.length_eq_zero_iff] at hc
    have hd2 : d.length = 2 := by omega
    have hall := List.all_eq_true.mp h.2
    have n0 : nearB (d.getD 0 dom0).1 = true := listB_near (hall _ (getD_in (i := 0) (by omega) (by omega)))
    have n1 : nearB (d.getD 1 dom0).1 = true := listB_near (hall _ (getD_in (i := 1) (by omega) (by omega)))
    rw [F19.loop _ d c.2.2.2.1 (by omega) hd2 n0 n1 1001 0 [] [] (by omega) (by omega) (by omega) (by simp) (by simp), F19.c0] at st
    exact ⟨_, st, WA.refl _⟩
/-! ### reif.Filter -/
theorem F34.inner (K : Conts) (d : List Dom) (c : Con) (v : Int) (ls : List Int) (len j : Int) (hd : d.length = 2) (h1n : nearB (d.getD 1 dom0).1 = true) (xs bs : List Int) (hx : xs.length ≤ 200000000) (hb : bs.length ≤ 200000000) (n : Nat) :
    F34.l1_1_1_0_1_0_0_1_1_0_0_1_1_0 (n + 3) K d v ls len j 0 c.1 c.2.1 c.2.2.1 c.2.2.2.1 c.2.2.2.2.1 c.2.2.2.2.2.1 c.2.2.2.2.2.2.1 c.2.2.2.2.2.2.2 xs bs =
    exitK K 2 ⟨slots 54 [(1, .v (.sl DomT) d), (2, .pb 0 0), (6, .own 1), (7, .own 2), (18, .v (.sl (.int .i64)) ls), (19, .v (.int .i64) len), (20, .v (.int .i64) j)], [.box [.v (.int .i64) c.1, .v (.sl (.int .i64)) c.2.1, .v (.sl (.int .i64)) c.2.2.1, .v (.sl (.int .i64)) c.2.2.2.1, .v (.sl (.int .i64)) c.2.2.2.2.1, .v (.sl (.int .i64)) c.2.2.2.2.2.1, .v (.int .i64) c.2.2.2.2.2.2.1, .v (.sl (.sl (.int .i64))) c.2.2.2.2.2.2.2],
      .row 3 (.int .i64) (xs ++ (reifV c (d.getD 1 dom0) v).map fun _ => v), .row 3 (.int .i64) (bs ++ reifV c (d.getD 1 dom0) v)]⟩ := by
  have b1 : (1 : Int) < d.length := by omega
  have n1 : nearB (d.getD 1 (0, [], 0, 0, 0)).1 = true := h1n
  have step : ∀ (m : Nat) (b : Int) (ys cs : List Int), b < 2 → 0 ≤ b → ys.length ≤ 200000001 → cs.length ≤ 200000001 →
      F34.l1_1_1_0_1_0_0_1_1_0_0_1_1_0 (m + 1) K d v ls len j b c.1 c.2.1 c.2.2.1 c.2.2.2.1 c.2.2.2.2.1 c.2.2.2.2.2.1 c.2.2.2.2.2.2.1 c.2.2.2.2.2.2.2 ys cs =
      F34.l1_1_1_0_1_0_0_1_1_0_0_1_1_0 m K d v ls len j (b + 1) c.1 c.2.1 c.2.2.1 c.2.2.2.1 c.2.2.2.2.1 c.2.2.2.2.2.1 c.2.2.2.2.2.2.1 c.2.2.2.2.2.2.2 (ys ++ if reifB c (d.getD 1 dom0) v b then [v] else []) (cs ++ if reifB c (d.getD 1 dom0) v b then [b] else []) := by
    intro m b ys cs hb2 hb0 hy hc
    refine (F34.l1_1_1_0_1_0_0_1_1_0_0_1_1_0_eq m K d v ls len j b _ _ _ _ _ _ _ _ ys cs).trans ?_
    have l1 : ∀ y : Int, (ys.length + [y].length) * 8 ≤ LIM := fun y => lim8 (by simp; omega)
    have l2 : ∀ y : Int, (cs.length + [y].length) * 8 ≤ LIM := fun y => lim8 (by simp; omega)
    rw [wrap_ok (x := b + 1) (by omega) (by omega)]
    simp only [hb2, b1, n1, l1, l2, decide_true, cond_true]
    have e1 : d.getD 1 (0, [], 0, 0, 0) = d.getD 1 dom0 := rfl
    have ea : allowedC (c.1, c.2.1, c.2.2.1, c.2.2.2.1, c.2.2.2.2.1, c.2.2.2.2.2.1, c.2.2.2.2.2.2.1, c.2.2.2.2.2.2.2) v b = allowedC c v b := rfl
    rw [e1, ea]
    unfold reifB
    cases hasD (d.getD 1 dom0) b <;> cases allowedC c v b <;> simp
  rw [step (n + 2) 0 xs bs (by omega) (by omega) (by omega) (by omega)]
  rw [step (n + 1) (0 + 1) _ _ (by omega) (by omega) (by simp only [List.length_append]; split <;> simp <;> omega) (by simp only [List.length_append]; split <;> simp <;> omega)]
  refine (F34.l1_1_1_0_1_0_0_1_1_0_0_1_1_0_eq n K d v ls len j _ _ _ _ _ _ _ _ _ _ _).trans ?_
  have : ¬ ((0 : Int) + 1 + 1 < 2) := by omega
  simp only [this, decide_false, cond_false]
  have e01 : (0 : Int) + 1 = 1 := rfl
  rw [e01]
  have ex : xs ++ (if reifB c (d.getD 1 dom0) v 0 then [v] else []) ++ (if reifB c (d.getD 1 dom0) v 1 then [v] else []) = xs ++ (reifV c (d.getD 1 dom0) v).map fun _ => v := by
    unfold reifV
    cases reifB c (d.getD 1 dom0) v 0 <;> cases reifB c (d.getD 1 dom0) v 1 <;> simp
  have eb : bs ++ (if reifB c (d.getD 1 dom0) v 0 then [0] else []) ++ (if reifB c (d.getD 1 dom0) v 1 then [1] else []) = bs ++ reifV c (d.getD 1 dom0) v := by
    unfold reifV
    rw [List.append_assoc]
  rw [ex, eb]
theorem reifV_len (c : Con) (d1 : Dom) (v : Int) : (reifV c d1 v).length ≤ 2 := by
  unfold reifV
  cases reifB c d1 v 0 <;> cases reifB c d1 v 1 <;> simp
theorem F34.loop (K : Conts) (d : List Dom) (c : Con) (ls : List Int) (hl : ls.length ≤ 70000000) (hd : d.length = 2) (h1n : nearB (d.getD 1 dom0).1 = true) : ∀ (n : Nat) (i : Int) (xs bs : List Int), 0 ≤ i → i ≤ ls.length → ls.length - i + 4 < n → xs.length ≤ 2 * i.toNat → bs.length ≤ 2 * i.toNat →
    F34.l1_1_1_0_1_0 n K d ls ls.length i c.1 c.2.1 c.2.2.1 c.2.2.2.1 c.2.2.2.2.1 c.2.2.2.2.2.1 c.2.2.2.2.2.2.1 c.2.2.2.2.2.2.2 xs bs =
    exitK K 0 ⟨slots 54 [(6, .own 0), (7, .own 1)], [.row 3 (.int .i64) (xs ++ reifXs c (d.getD 1 dom0) (ls.drop i.toNat)), .row 3 (.int .i64) (bs ++ reifBs c (d.getD 1 dom0) (ls.drop i.toNat))]⟩ := by
  intro n
  induction n with
  | zero => intro i xs bs h0 h1 h2; omega
  | succ n ih =>
    intro i xs bs h0 h1 h2 h3 h4
    refine (F34.l1_1_1_0_1_0_eq n K d ls _ i _ _ _ _ _ _ _ _ xs bs).trans ?_
    by_cases hi : i < ls.length
    · rw [drop_get (d := (0 : Int)) h0 hi]
      generalize ls.getD i.toNat 0 = v
      simp only [hi, h0, decide_true, Bool.and_true, cond_true]
      obtain ⟨m, rfl⟩ : ∃ m, n = m + 3 := ⟨n - 3, by omega⟩
      rw [F34.inner _ d c v ls ls.length i hd h1n xs bs (by omega) (by omega) m, F34.c1, wrap_ok (by omega) (by omega)]
      have hv := reifV_len c (d.getD 1 dom0) v
      rw [ih (i + 1) _ _ (by omega) (by omega) (by omega) (by simp only [List.length_append, List.length_map]; omega) (by simp only [List.length_append]; omega)]
      have e1 : xs ++ ((reifV c (d.getD 1 dom0) v).map fun _ => v) ++ reifXs c (d.getD 1 dom0) (ls.drop (i + 1).toNat) = xs ++ reifXs c (d.getD 1 dom0) (v :: ls.drop (i + 1).toNat) := by
        unfold reifXs; simp
      have e2 : bs ++ reifV c (d.getD 1 dom0) v ++ reifBs c (d.getD 1 dom0) (ls.drop (i + 1).toNat) = bs ++ reifBs c (d.getD 1 dom0) (v :: ls.drop (i + 1).toNat) := by
        unfold reifBs; simp
      rw [e1, e2]
    · rw [List.drop_of_length_le (by omega)]
      simp only [hi, decide_false, cond_false]
      have e1 : reifXs c (d.getD 1 dom0) [] = [] := rfl
      have e2 : reifBs c (d.getD 1 dom0) [] = [] := rfl
      rw [e1, e2, List.append_nil, List.append_nil]
theorem listFrom_length (off : Int) : ∀ (ws : List Int) (i : Int), (listFrom off i ws).length ≤ 64 * ws.length
  | [], i => by simp [listFrom]
  | w :: ws, i => by
    unfold listFrom
    have h1 := bitsFrom_length 64 (off + 64 * i) w
    have h2 := listFrom_length off ws (i + 1)
    rw [List.length_append, List.length_cons]
    omega
theorem listD_length {d : Dom} (h : listB d = true) : (listD d).length ≤ 64000000 := by
  unfold listB at h
  simp only [Bool.and_eq_true, Nat.ble_eq] at h
  have := listFrom_length d.1 d.2.1 0
  unfold listD
  omega
theorem F34.sem (c : Con) (d : List Dom) (h : filtB 13 16 c d = true) : ∃ r, callW F34.E false F34.fn 64001000 [.agg (explode ConT c), .v (.sl DomT) d] = some r ∧ WA r (.tup [.v (.sl DomT) (reifF c d).1, .v .bool (reifF c d).2]) := by
  unfold filtB at h
  rw [Bool.and_eq_true] at h
  have st := F34.start_eq 64001000 c d
  rw [h.1] at st
  simp only [cond_true] at st
  unfold reifF
  cases hf : fitsD c d 13 16 with
  | false =>
    rw [hf] at st
    exact ⟨_, st, .tup (.cons (.one (by simp) (.nl _)) (.cons (.one (by simp) (.same _)) .nil))⟩
  | true =>
    rw [hf] at st
    simp only [Bool.not_true, cond_false] at st
    obtain ⟨hk, hc, hlen, g1, g2⟩ := fits_len hf h.1
    have hn11 : ¬ c.1 = 11 := by omega
    have hn18 : ¬ c.1 = 18 := by omega
    simp [countedD, hn11, hn18, noneL, -List.length_eq_zero_iff] at hc
    have hd2 : d.length = 2 := by omega
    have hall := List.all_eq_true.mp h.2
    have b0 : listB (d.getD 0 dom0) = true := hall _ (getD_in (i := 0) (by omega) (by omega))
    have n1 : nearB (d.getD 1 dom0).1 = true := listB_near (hall _ (getD_in (i := 1) (by omega) (by omega)))
    have a0 : (0 : Int) < d.length := by omega
    have b0' : listB (d.getD 0 (0, [], 0, 0, 0)) = true := b0
    rw [decide_eq_true a0, b0'] at st
    simp only [cond_true] at st
    have hll := listD_length b0
    have lp := F34.loop (F34.kt 64001000 [1, 1, 1, 0, 1, 0]) d c (listD (d.getD 0 dom0)) (by omega) hd2 n1 64001000 0 [] [] (by omega) (by omega) (by omega) (by simp) (by simp)
    exact ⟨_, (st.trans (show _ = _ from lp)).trans (F34.c0 _ _ _), WA.refl _⟩
end Go.Proofs.YthdpbmcidebagaaGreatDoor.Ev
