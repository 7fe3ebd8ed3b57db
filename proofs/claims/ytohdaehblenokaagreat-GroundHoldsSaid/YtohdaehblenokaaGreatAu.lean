/-
Seat 'a': lists: what the functions answer.
Conditions: lists are short, numbers those of domains.
Seat 'a': lists: what the functions answer: the second half.
Conditions: lists are short.
-/
import Derived.Test.YtohdaehblenokaaGreatAe
import Derived.Test.YtohdaehblenokaaGreatAg
import Derived.Test.YtohdaehblenokaaGreatAi
set_option linter.unusedVariables false
set_option linter.unusedSimpArgs false
set_option maxRecDepth 100000
namespace Go.Proofs.YtohdaehblenokaaGreat.Ev
open Go
theorem F65.sem (xs : List Int) (v : Int) (hl : xs.length ≤ maxLen) : callW F65.E false F65.fn (xs.length + 1) [.v (.sl (.int .i64)) xs, .v (.int .i64) v] = some (.v (.int .i64) (indexL xs v)) := by
 rw [F65.start_eq, search_loop (fun n i => F65.l1_0_1_0 n _ xs v xs.length i) xs 0 (fun x => decide (v = x)) _ _ hl (fun n i => F65.l1_0_1_0_eq n _ xs v _ i) _ 0 (by omega) (by omega) (by omega)]
 simp only [F65.c0, F65.c1]
 exact idx_res (fun x => decide (v = x)) xs (fun v => some (.v (.int .i64) v)) _ rfl
theorem F30.sem (k : Nat) (xs : List Int) (v : Int) : callW F30.E false F30.fn k [.v (.sl (.int .i64)) xs, .v (.int .i64) v] = some (.v .bool (containsL xs v)) := F30.start_eq k xs v
theorem lim8 {n : Nat} (h : n ≤ 1000000000) : n * 8 ≤ LIM := by unfold LIM; omega
theorem lim24 {n : Nat} (h : n ≤ 1000000000) : n * 24 ≤ LIM := by unfold LIM; omega
end Go.Proofs.YtohdaehblenokaaGreat.Ev
set_option linter.unusedVariables false
set_option linter.unusedSimpArgs false
set_option maxRecDepth 100000
namespace Go.Proofs.YtohdaehblenokaaGreat.Ev
open Go
theorem goFold_idx {α β : Type} (f : Int → β) : ∀ (xs : List α) (i : Int) (acc : List β), goFold (fun i (a : List β) (_ : α) => a ++ [f i]) i acc xs = acc ++ (List.range xs.length).map fun (k : Nat) => f (i + (k : Int))
 | [], i, acc => by simp [goFold]
 | x :: xs, i, acc => by
  simp only [goFold, List.length_cons]
  rw [goFold_idx f xs (i + 1), List.range_succ_eq_map, List.map_cons, List.map_map]
  have e : ((fun (k : Nat) => f (i + (k : Int))) ∘ Nat.succ) = fun (k : Nat) => f (i + 1 + (k : Int)) := by
   funext k
   show f (i + ((k + 1 : Nat) : Int)) = _
   congr 1
   omega
  rw [e, List.append_assoc, List.singleton_append]
  simp
theorem F54.sem (l : List Int) (n vars : Int) (h : placesB l n vars = true) : callW F54.E false F54.fn 2000 [.v (.sl (.int .u8)) l, .v (.int .i64) n, .v (.int .i64) vars] = some (.v (.sl (.int .i64)) (placesL l n vars)) := by
 unfold placesB at h
 simp only [Bool.and_eq_true, decide_eq_true_eq] at h
 obtain ⟨⟨h1, h2⟩, h3⟩ := h
 have hlen : (List.range n.toNat).length = n.toNat := List.length_range
 refine (F54.start_eq _ l n vars).trans ?_
 have := range_loop (fun m i (acc : List Int) => F54.l1_1_0_1_0 m (F54.kt 2000 [1, 1, 0, 1, 0]) l n vars i acc) (List.range n.toNat) 0 (fun i acc _ => acc ++ [(if i < l.length then IntKind.i64.wrap (l.getD i.toNat 0) else i).tmod vars]) _ (fun i acc => acc.length ≤ i.toNat) (by
   intro m i acc hI h0 hi
   rw [hlen] at hi
   have lim : ∀ x : Int, (acc.length + [x].length) * 8 ≤ LIM := fun x => lim8 (by simp; omega)
   refine ⟨(F54.l1_1_0_1_0_eq m _ l n vars i acc).trans ?_, by simp; omega⟩
   have hn : i < n := by omega
   rw [wrap_ok (x := i + 1) (by omega) (by omega)]
   by_cases hc : i < l.length
   ·simp only [hn, hc, h0, h3, lim, decide_true, decide_false, Bool.not_false, Bool.and_true, cond_true, if_true]
   ·simp only [hn, hc, h0, h3, lim, decide_true, decide_false, Bool.not_false, Bool.and_true, cond_true, cond_false, if_false]) (by
   intro m i acc hI hi
   rw [hlen] at hi
   refine (F54.l1_1_0_1_0_eq m _ l n vars i acc).trans ?_
   have : ¬ i < n := by omega
   simp only [this, decide_false, cond_false]
   exact F54.c0 _ acc) 2000 0 [] (by simp) (by omega) (by omega) (by omega)
 refine (show _ = _ from this).trans ?_
 rw [goFold_idx (fun i => (if i < l.length then IntKind.i64.wrap (l.getD i.toNat 0) else i).tmod vars)]
 unfold placesL
 simp
theorem F55.sem (l : List Int) (fr n least wide : Int) (h : numbersB l fr n least wide = true) : callW F55.E false F55.fn 2000 [.v (.sl (.int .i8)) l, .v (.int .i64) fr, .v (.int .i64) n, .v (.int .i64) least, .v (.int .i64) wide] = some (.v (.sl (.int .i64)) (numbersL l fr n least wide)) := by
 unfold numbersB at h
 simp only [Bool.and_eq_true, decide_eq_true_eq] at h
 obtain ⟨⟨⟨⟨h1, h2⟩, h3⟩, h4⟩, h5⟩ := h
 have hlen : (List.range n.toNat).length = n.toNat := List.length_range
 refine (F55.start_eq _ l fr n least wide).trans ?_
 have := range_loop (fun m i (acc : List Int) => F55.l1_1_0_1_0 m (F55.kt 2000 [1, 1, 0, 1, 0]) l fr n least wide i acc) (List.range n.toNat) 0 (fun i acc _ => acc ++ [numR (if fr + i < l.length then IntKind.i64.wrap (l.getD (fr + i).toNat 0) else 1) least wide]) _ (fun i acc => acc.length ≤ i.toNat) (by
   intro m i acc hI h0 hi
   rw [hlen] at hi
   have lim : ∀ x : Int, (acc.length + [x].length) * 8 ≤ LIM := fun x => lim8 (by simp; omega)
   refine ⟨(F55.l1_1_0_1_0_eq m _ l fr n least wide i acc).trans ?_, by simp; omega⟩
   have hn : i < n := by omega
   have hf : 0 ≤ fr + i := by omega
   rw [wrap_ok (x := i + 1) (by omega) (by omega), wrap_ok (x := fr + i) (by omega) (by omega)]
   unfold numR
   by_cases hc : fr + i < l.length
   ·simp only [hn, hc, hf, h5, lim, decide_true, decide_false, Bool.not_false, Bool.and_true, cond_true, if_true]
    generalize IntKind.i64.wrap (l.getD (fr + i).toNat 0) = v
    by_cases hv : v.tmod wide < 0 <;> by_cases hw : least ≥ 0 <;> simp [hv, hw]
   ·simp only [hn, hc, hf, h5, lim, decide_true, decide_false, Bool.not_false, Bool.and_true, cond_true, cond_false, if_false]
    by_cases hv : (1 : Int).tmod wide < 0 <;> by_cases hw : least ≥ 0 <;> simp [hv, hw]) (by
   intro m i acc hI hi
   rw [hlen] at hi
   refine (F55.l1_1_0_1_0_eq m _ l fr n least wide i acc).trans ?_
   have : ¬ i < n := by omega
   simp only [this, decide_false, cond_false]
   exact F55.c0 _ acc) 2000 0 [] (by simp) (by omega) (by omega) (by omega)
 refine (show _ = _ from this).trans ?_
 rw [goFold_idx (fun i => numR (if fr + i < l.length then IntKind.i64.wrap (l.getD (fr + i).toNat 0) else 1) least wide)]
 unfold numbersL
 simp
end Go.Proofs.YtohdaehblenokaaGreat.Ev
