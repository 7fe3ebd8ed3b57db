/-
Seat 'a': lists: what the functions answer: the second half.
Conditions: lists are short.
-/
import Derived.Test.YthdpbmcidebagaaGreatDoorAu
set_option linter.unusedVariables false
set_option linter.unusedSimpArgs false
set_option maxRecDepth 100000
namespace Go.Proofs.YthdpbmcidebagaaGreatDoor.Ev
open Go

theorem goFold_idx {α β : Type} (f : Int → β) : ∀ (xs : List α) (i : Int) (acc : List β), goFold (fun i (a : List β) (_ : α) => a ++ [f i]) i acc xs = acc ++ (List.range xs.length).map fun (k : Nat) => f (i + (k : Int))
  | [], i, acc => by simp [goFold]
  | x :: xs, i, acc => by
    simp only [goFold, List.length_cons]
    rw [goFold_idx f xs (i + 1), List.range_succ_eq_map, List.map_cons, List.map_map]
    have e : ((fun (k : Nat) => f (i + (k : Int))) ∘ Nat.succ) = fun (k : Nat) => f (i + 1 + (k : Int)) := by
      funext k
      show f (i + ((k + 1 : Nat) : Int)) = _
      congr 1
      omega
    rw [e, List.append_assoc, List.singleton_append]
    simp
theorem F44.sem (l : List Int) (most width : Int) (h : smallB l most width = true) : callW F44.E false F44.fn 2000 [.v (.sl (.int .i64)) l, .v (.int .i64) most, .v (.int .i64) width] = some (.v (.sl (.int .i64)) (smallL l most width)) := by
  unfold smallB at h
  simp only [Bool.and_eq_true, decide_eq_true_eq, Nat.ble_eq] at h
  obtain ⟨⟨⟨⟨h5, h1⟩, h2⟩, h3⟩, h4⟩ := h
  have hlen : (l.take most.toNat).length ≤ 1000 := by rw [List.length_take]; omega
  rw [F44.start_eq]
  have := range_loop (fun n i (acc : List Int) => F44.l1_1_0_1_0 n (F44.kt 2000 [1, 1, 0, 1, 0]) l most width i acc) (l.take most.toNat) 0 (fun _ acc x => acc ++ [x.tmod width])
    (fun acc => exitK (F44.kt 2000 [1, 1, 0, 1, 0]) 0 ⟨slots 39 [(7, .own 0)], [.row 3 (.int .i64) acc]⟩) (fun i acc => acc.length ≤ i.toNat) (by
      intro n i acc hI h0 hi
      rw [List.length_take] at hi
      have a1 : i < l.length := by omega
      have a2 : i < most := by omega
      refine ⟨(F44.l1_1_0_1_0_eq n _ l most width i acc).trans ?_, by simp; omega⟩
      have lim : ∀ x : Int, (acc.length + [x].length) * 8 ≤ LIM := fun x => lim8 (by simp; omega)
      have e : (l.take most.toNat).getD i.toNat 0 = l.getD i.toNat 0 := by
        rw [List.getD_eq_getElem?_getD, List.getD_eq_getElem?_getD, List.getElem?_take_of_lt (by omega)]
      rw [wrap_ok (by omega) (by omega), e]
      simp only [h0, a1, a2, h1, lim, decide_true, decide_false, Bool.not_false, Bool.and_true, cond_true]) (by
      intro n i acc hI hi
      refine (F44.l1_1_0_1_0_eq n _ l most width i acc).trans ?_
      rw [List.length_take] at hi
      by_cases a1 : i < l.length
      · have a2 : ¬ i < most := by omega
        simp only [a1, a2, decide_true, decide_false, cond_true, cond_false]
      · simp only [a1, decide_false, cond_false]) 2000 0 [] (by simp) (by omega) (by omega) (by omega)
  refine (show _ = _ from this).trans ?_
  rw [goFold_map, F44.c0]
  have e : ([] : List Int) ++ ((l.take most.toNat).drop (Int.toNat 0)).map (fun x => x.tmod width) = cutL l most width := rfl
  rw [e, h4, show Nat.ble (cutL l most width).length 1000 = true by rw [Nat.ble_eq]; exact h5]
  rfl
theorem doms_loop {L : Nat → Int → List Dom → Option AV} {done : List Dom → Option AV} (l : List (List Int)) (hl : l.length ≤ 1000)
    (h : ∀ n i acc, L (n + 1) i acc = bif decide (i < (l.length : Int)) then (bif decide (0 ≤ i) && decide (i < (l.length : Int)) then (bif decide ((acc.length + [(ofD (l.getD i.toNat [])).1].length) * 56 ≤ LIM) then L n (IntKind.i64.wrap (i + 1)) (acc ++ [(ofD (l.getD i.toNat [])).1]) else none) else none) else done acc) :
    L 1001 0 [] = done (domsL l) := by
  have := range_loop L l [] (fun _ acc x => acc ++ [(ofD x).1]) done (fun i acc => acc.length ≤ i.toNat) (by
      intro n i acc hI h0 hi
      have lim : ∀ x : Dom, (acc.length + [x].length) * 56 ≤ LIM := fun x => lim56 (by simp; omega)
      refine ⟨?_, by simp; omega⟩
      rw [h, wrap_ok (by omega) (by omega)]
      simp only [h0, hi, lim, decide_true, Bool.and_true, cond_true]) (by
      intro n i acc hI hi
      rw [h]
      have : ¬ i < l.length := by omega
      simp only [this, decide_false, cond_false]) 1001 0 [] (by simp) (by omega) (by omega) (by omega)
  rw [this, goFold_map]
  rfl
theorem F20.sem (l : List (List Int)) (hl : l.length ≤ 1000) : callW F20.E false F20.fn 1001 [.v (.sl (.sl (.int .i64))) l] = some (.v (.sl DomT) (domsL l)) := by
  rw [F20.start_eq]
  refine (doms_loop (L := fun n i acc => F20.l1_1_0_1_0 n _ l l.length i acc) l hl (fun n i acc => F20.l1_1_0_1_0_eq n _ l _ i acc)).trans ?_
  exact F20.c0 _ _
theorem F35.sem (l : List (List Int)) (hl : l.length ≤ 1000) : callW F35.E false F35.fn 1001 [.v (.sl (.sl (.int .i64))) l] = some (.v (.sl DomT) (domsL l)) := by
  rw [F35.start_eq]
  refine (doms_loop (L := fun n i acc => F35.l1_1_0_1_0 n _ l l.length i acc) l hl (fun n i acc => F35.l1_1_0_1_0_eq n _ l _ i acc)).trans ?_
  exact F35.c0 _ _
/-! ### are two lists of lists the same? -/
/-! ### places, numbers, each place a variable -/
theorem F54.sem (l : List Int) (n vars : Int) (h : placesB l n vars = true) : callW F54.E false F54.fn 2000 [.v (.sl (.int .u8)) l, .v (.int .i64) n, .v (.int .i64) vars] = some (.v (.sl (.int .i64)) (placesL l n vars)) := by
  unfold placesB at h
  simp only [Bool.and_eq_true, decide_eq_true_eq] at h
  obtain ⟨⟨h1, h2⟩, h3⟩ := h
  have hlen : (List.range n.toNat).length = n.toNat := List.length_range
  refine (F54.start_eq _ l n vars).trans ?_
  have := range_loop (fun m i (acc : List Int) => F54.l1_1_0_1_0 m (F54.kt 2000 [1, 1, 0, 1, 0]) l n vars i acc) (List.range n.toNat) 0 (fun i acc _ => acc ++ [(if i < l.length then IntKind.i64.wrap (l.getD i.toNat 0) else i).tmod vars]) _ (fun i acc => acc.length ≤ i.toNat) (by
      intro m i acc hI h0 hi
      rw [hlen] at hi
      have lim : ∀ x : Int, (acc.length + [x].length) * 8 ≤ LIM := fun x => lim8 (by simp; omega)
      refine ⟨(F54.l1_1_0_1_0_eq m _ l n vars i acc).trans ?_, by simp; omega⟩
      have hn : i < n := by omega
      rw [wrap_ok (x := i + 1) (by omega) (by omega)]
      by_cases hc : i < l.length
      · simp only [hn, hc, h0, h3, lim, decide_true, decide_false, Bool.not_false, Bool.and_true, cond_true, if_true]
      · simp only [hn, hc, h0, h3, lim, decide_true, decide_false, Bool.not_false, Bool.and_true, cond_true, cond_false, if_false]) (by
      intro m i acc hI hi
      rw [hlen] at hi
      refine (F54.l1_1_0_1_0_eq m _ l n vars i acc).trans ?_
      have : ¬ i < n := by omega
      simp only [this, decide_false, cond_false]
      exact F54.c0 _ acc) 2000 0 [] (by simp) (by omega) (by omega) (by omega)
  refine (show _ = _ from this).trans ?_
  rw [goFold_idx (fun i => (if i < l.length then IntKind.i64.wrap (l.getD i.toNat 0) else i).tmod vars)]
  unfold placesL
  simp
theorem F55.sem (l : List Int) (fr n least wide : Int) (h : numbersB l fr n least wide = true) : callW F55.E false F55.fn 2000 [.v (.sl (.int .i8)) l, .v (.int .i64) fr, .v (.int .i64) n, .v (.int .i64) least, .v (.int .i64) wide] = some (.v (.sl (.int .i64)) (numbersL l fr n least wide)) := by
  unfold numbersB at h
  simp only [Bool.and_eq_true, decide_eq_true_eq] at h
  obtain ⟨⟨⟨⟨h1, h2⟩, h3⟩, h4⟩, h5⟩ := h
  have hlen : (List.range n.toNat).length = n.toNat := List.length_range
  refine (F55.start_eq _ l fr n least wide).trans ?_
  have := range_loop (fun m i (acc : List Int) => F55.l1_1_0_1_0 m (F55.kt 2000 [1, 1, 0, 1, 0]) l fr n least wide i acc) (List.range n.toNat) 0 (fun i acc _ => acc ++ [numR (if fr + i < l.length then IntKind.i64.wrap (l.getD (fr + i).toNat 0) else 1) least wide]) _ (fun i acc => acc.length ≤ i.toNat) (by
      intro m i acc hI h0 hi
      rw [hlen] at hi
      have lim : ∀ x : Int, (acc.length + [x].length) * 8 ≤ LIM := fun x => lim8 (by simp; omega)
      refine ⟨(F55.l1_1_0_1_0_eq m _ l fr n least wide i acc).trans ?_, by simp; omega⟩
      have hn : i < n := by omega
      have hf : 0 ≤ fr + i := by omega
      rw [wrap_ok (x := i + 1) (by omega) (by omega), wrap_ok (x := fr + i) (by omega) (by omega)]
      unfold numR
      by_cases hc : fr + i < l.length
      · simp only [hn, hc, hf, h5, lim, decide_true, decide_false, Bool.not_false, Bool.and_true, cond_true, if_true]
        generalize IntKind.i64.wrap (l.getD (fr + i).toNat 0) = v
        by_cases hv : v.tmod wide < 0 <;> by_cases hw : least ≥ 0 <;> simp [hv, hw]
      · simp only [hn, hc, hf, h5, lim, decide_true, decide_false, Bool.not_false, Bool.and_true, cond_true, cond_false, if_false]
        by_cases hv : (1 : Int).tmod wide < 0 <;> by_cases hw : least ≥ 0 <;> simp [hv, hw]) (by
      intro m i acc hI hi
      rw [hlen] at hi
      refine (F55.l1_1_0_1_0_eq m _ l fr n least wide i acc).trans ?_
      have : ¬ i < n := by omega
      simp only [this, decide_false, cond_false]
      exact F55.c0 _ acc) 2000 0 [] (by simp) (by omega) (by omega) (by omega)
  refine (show _ = _ from this).trans ?_
  rw [goFold_idx (fun i => numR (if fr + i < l.length then IntKind.i64.wrap (l.getD (fr + i).toNat 0) else 1) least wide)]
  unfold numbersL
  simp
end Go.Proofs.YthdpbmcidebagaaGreatDoor.Ev
