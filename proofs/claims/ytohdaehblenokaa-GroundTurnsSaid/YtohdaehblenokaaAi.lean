/-
The functions as the evaluator runs them: printed by a program of mine, each equation by kernel_rfl.
Conditions: none.
Seat 'a': lists: what the functions answer.
Conditions: lists are short, numbers those of domains.
Seat 'a': lists: what the functions answer: the second half.
Conditions: lists are short.
The functions as the evaluator runs them: printed by a program of mine, each equation by kernel_rfl.
Conditions: none.
The functions as the evaluator runs them: printed by a program of mine, each equation by kernel_rfl.
Conditions: none.
The functions as the evaluator runs them: printed by a program of mine, each equation by kernel_rfl.
Conditions: none.
The functions as the evaluator runs them: printed by a program of mine, each equation by kernel_rfl.
Conditions: none.
-/
import Derived.Test.YtohdaehblenokaaAa
import Derived.Test.YtohdaehblenokaaAe
import Derived.Test.YtohdaehblenokaaAg
set_option linter.unusedVariables false
set_option linter.unusedSimpArgs false
set_option maxRecDepth 100000
namespace Go.Proofs.Ytohdaehblenokaa.Ev
open Go
noncomputable def F91.fn : Func := Go.Proofs.Try.f41
noncomputable def F91.E : Env := ⟨tt, [(58, h_word), (59, h_forms)], [(1, [0]), (2, [0, 4]), (3, [0, 11]), (4, [0])], [], some [2], inv, []⟩
theorem F91.start_eq (k : Nat) (a0 : Int) : callW F91.E false F91.fn k [.v (.int .i64) a0] =
 bif !(inS a0) then
 some (.v .str ⟨#[]⟩)
 else
 bif decide (0 ≤ (IntKind.i64.wrap (a0 - 1))) && decide ((IntKind.i64.wrap (a0 - 1)) < formsL.length) then
 some (.v .str ((formsL.getD ((IntKind.i64.wrap (a0 - 1)).toNat) (ByteArray.empty, ByteArray.empty)).2))
 else
 none := by kernel_rfl
noncomputable def F103.fn : Func := Go.Proofs.Try.f58
noncomputable def F103.E : Env := ⟨tt, [(59, h_forms)], [(1, [0]), (2, [0, 11]), (3, [0])], [], some [2, 3], inv, []⟩
theorem F103.start_eq (k : Nat) (a0 : Int) : callW F103.E false F103.fn k [.v (.int .i64) a0] =
 bif decide (a0 < 1) then
 some (.tup [.v .str ⟨#[]⟩, .v .bool false])
 else
 bif decide (a0 > (formsL.length : Int)) then
 some (.tup [.v .str ⟨#[]⟩, .v .bool false])
 else
 bif decide (0 ≤ (IntKind.i64.wrap (a0 - 1))) && decide ((IntKind.i64.wrap (a0 - 1)) < formsL.length) then
 some (.tup [.v .str ((formsL.getD ((IntKind.i64.wrap (a0 - 1)).toNat) (ByteArray.empty, ByteArray.empty)).1), .v .bool true])
 else
 none := by kernel_rfl
noncomputable def F95.fn : Func := Go.Proofs.Try.f45
noncomputable def F95.E : Env := ⟨tt, [(64, h_concatL)], [(1, [1])], [], some [2], inv, []⟩
theorem F95.start_eq (k : Nat) (a0 : Con) : callW F95.E false F95.fn k [.agg (bC a0.1 a0.2.1 a0.2.2.1 a0.2.2.2.1 a0.2.2.2.2.1 a0.2.2.2.2.2.1 a0.2.2.2.2.2.2.1 a0.2.2.2.2.2.2.2)] =
 bif concatB [a0.2.1, a0.2.2.1] then some (.v (.sl (.int .i64)) (concatL [a0.2.1, a0.2.2.1])) else none := by kernel_rfl
noncomputable def F110.fn : Func := Go.Proofs.Try.f64
noncomputable def F110.body : Code := bodyOf F110.fn
noncomputable def F110.E : Env := ⟨tt, [(81, h_grow)], [(1, [0]), (2, [0, 3]), (3, [0, 3, 9, 10, 11]), (4, [0, 3, 9, 10, 11, 12]), (5, [0, 3, 5, 9, 10, 11]), (6, [0, 3, 9, 10, 11]), (7, [0, 3, 9, 10, 11, 20]), (8, [0, 3, 9, 10, 11]), (9, [0, 3]), (10, [0, 6]), (11, [6, 25, 26, 27]), (12, [6, 25, 26, 27, 28]), (13, [6, 8, 25, 26, 27]), (14, [6, 25, 26, 27]), (15, [6])], [(0, [0, 3]), (1, [0, 3, 9, 10, 11]), (2, [6]), (3, [6, 25, 26, 27])], some [2], inv, []⟩
noncomputable def F110.K0 : Conts := { nrm := endW F110.E false F110.fn.results.toList, ret := endW F110.E false F110.fn.results.toList, ex := [] }
noncomputable def F110.kt (k : Nat) (q : List Nat) : Conts := contAt F110.E k F110.body F110.K0 q
noncomputable def F110.l1_1_0_1_0 (n : Nat) (K : Conts) (p0 : List (List Int)) (p1 : Int) (p2 : List (List Int)) (p3 p4 : Int) : Option AV := loopF F110.E n (inLoop (subC [1,1,0,1,0] F110.body)) K ⟨slots 36 [(0, .v (.sl (.sl (.int .i64))) p0), (3, .v (.int .i64) p1), (9, .v (.sl (.sl (.int .i64))) p2), (10, .v (.int .i64) p3), (11, .v (.int .i64) p4)], []⟩
noncomputable def F110.l1_1_1_1_0_1_0 (n : Nat) (K : Conts) (p0 : List (List Int)) (p1 p2 : Int) (p3 : List Int) : Option AV := loopF F110.E n (inLoop (subC [1,1,1,1,0,1,0] F110.body)) K ⟨slots 36 [(6, .own 0), (25, .v (.sl (.sl (.int .i64))) p0), (26, .v (.int .i64) p1), (27, .v (.int .i64) p2)], [.row 3 (.int .i64) p3]⟩
theorem F110.start_eq (k : Nat) (a0 : List (List Int)) : callW F110.E false F110.fn k [.v (.sl (.sl (.int .i64))) a0] =
 F110.l1_1_0_1_0 k (F110.kt k [1,1,0,1,0]) a0 0 a0 (a0.length : Int) 0 := by kernel_rfl
theorem F110.l1_1_0_1_0_eq (n : Nat) (K : Conts) (p0 : List (List Int)) (p1 : Int) (p2 : List (List Int)) (p3 p4 : Int) : F110.l1_1_0_1_0 (n + 1) K p0 p1 p2 p3 p4 =
 bif decide (p4 < p3) then
 bif decide (0 ≤ p4) && decide (p4 < p2.length) then
 bif decide ((IntKind.i64.wrap (p1 + ((p2.getD p4.toNat []).length : Int))) < 0) then
 none
 else
 F110.l1_1_0_1_0 n K p0 (IntKind.i64.wrap (p1 + ((p2.getD p4.toNat []).length : Int))) p2 p3 (IntKind.i64.wrap (p4 + 1))
 else
 none
 else
 exitK K 0 ⟨slots 36 [(0, .v (.sl (.sl (.int .i64))) p0), (3, .v (.int .i64) p1)], []⟩ := by kernel_rfl
theorem F110.c0 (k : Nat) (p0 : List (List Int)) (p1 : Int) : exitK (F110.kt k [1,1,0,1,0]) 0 ⟨slots 36 [(0, .v (.sl (.sl (.int .i64))) p0), (3, .v (.int .i64) p1)], []⟩ =
 bif growB p1 then F110.l1_1_1_1_0_1_0 k (F110.kt k [1,1,1,1,0,1,0]) p0 (p0.length : Int) 0 [] else none := by kernel_rfl
theorem F110.l1_1_1_1_0_1_0_eq (n : Nat) (K : Conts) (p0 : List (List Int)) (p1 p2 : Int) (p3 : List Int) : F110.l1_1_1_1_0_1_0 (n + 1) K p0 p1 p2 p3 =
 bif decide (p2 < p1) then
 bif decide (0 ≤ p2) && decide (p2 < p0.length) then
 bif decide ((p3.length + (p0.getD p2.toNat []).length) * 8 ≤ LIM) then
 F110.l1_1_1_1_0_1_0 n K p0 p1 (IntKind.i64.wrap (p2 + 1)) (p3 ++ (p0.getD p2.toNat []))
 else
 none
 else
 none
 else
 exitK K 2 ⟨slots 36 [(6, .own 0)], [.row 3 (.int .i64) p3]⟩ := by kernel_rfl
theorem F110.c1 (k : Nat) (p0 : List Int) : exitK (F110.kt k [1,1,1,1,0,1,0]) 2 ⟨slots 36 [(6, .own 0)], [.row 3 (.int .i64) p0]⟩ =
 some (.v (.sl (.int .i64)) p0) := by kernel_rfl
noncomputable def F111.fn : Func := Go.Proofs.Try.f65
noncomputable def F111.E : Env := ⟨tt, [(23, h_any)], [(1, [0, 3])], [], some [4], inv, []⟩
theorem F111.start_eq (k : Nat) (a0 : List Int) (a1 : Int) : callW F111.E false F111.fn k [.v (.sl (.int .i64)) a0, .v (.int .i64) a1] =
 some (.v .bool (!(List.any a0 (numB a1)))) := by kernel_rfl
end Go.Proofs.Ytohdaehblenokaa.Ev
set_option linter.unusedVariables false
set_option linter.unusedSimpArgs false
set_option maxRecDepth 100000
namespace Go.Proofs.Ytohdaehblenokaa.Ev
open Go
theorem F65.sem (xs : List Int) (v : Int) (hl : xs.length ≤ maxLen) : callW F65.E false F65.fn (xs.length + 1) [.v (.sl (.int .i64)) xs, .v (.int .i64) v] = some (.v (.int .i64) (indexL xs v)) := by
 rw [F65.start_eq, search_loop (fun n i => F65.l1_0_1_0 n _ xs v xs.length i) xs 0 (fun x => decide (v = x)) _ _ hl (fun n i => F65.l1_0_1_0_eq n _ xs v _ i) _ 0 (by omega) (by omega) (by omega)]
 simp only [F65.c0, F65.c1]
 exact idx_res (fun x => decide (v = x)) xs (fun v => some (.v (.int .i64) v)) _ rfl
theorem F30.sem (k : Nat) (xs : List Int) (v : Int) : callW F30.E false F30.fn k [.v (.sl (.int .i64)) xs, .v (.int .i64) v] = some (.v .bool (containsL xs v)) := F30.start_eq k xs v
theorem lim8 {n : Nat} (h : n ≤ 1000000000) : n * 8 ≤ LIM := by unfold LIM; omega
theorem lim24 {n : Nat} (h : n ≤ 1000000000) : n * 24 ≤ LIM := by unfold LIM; omega
end Go.Proofs.Ytohdaehblenokaa.Ev
set_option linter.unusedVariables false
set_option linter.unusedSimpArgs false
set_option maxRecDepth 100000
namespace Go.Proofs.Ytohdaehblenokaa.Ev
open Go
theorem goFold_idx {α β : Type} (f : Int → β) : ∀ (xs : List α) (i : Int) (acc : List β), goFold (fun i (a : List β) (_ : α) => a ++ [f i]) i acc xs = acc ++ (List.range xs.length).map fun (k : Nat) => f (i + (k : Int))
 | [], i, acc => by simp [goFold]
 | x :: xs, i, acc => by
  simp only [goFold, List.length_cons]
  rw [goFold_idx f xs (i + 1), List.range_succ_eq_map, List.map_cons, List.map_map]
  have e : ((fun (k : Nat) => f (i + (k : Int))) ∘ Nat.succ) = fun (k : Nat) => f (i + 1 + (k : Int)) := by
   funext k
   show f (i + ((k + 1 : Nat) : Int)) = _
   congr 1
   omega
  rw [e, List.append_assoc, List.singleton_append]
  simp
theorem F54.sem (l : List Int) (n vars : Int) (h : placesB l n vars = true) : callW F54.E false F54.fn 2000 [.v (.sl (.int .u8)) l, .v (.int .i64) n, .v (.int .i64) vars] = some (.v (.sl (.int .i64)) (placesL l n vars)) := by
 unfold placesB at h
 simp only [Bool.and_eq_true, decide_eq_true_eq] at h
 obtain ⟨⟨h1, h2⟩, h3⟩ := h
 have hlen : (List.range n.toNat).length = n.toNat := List.length_range
 refine (F54.start_eq _ l n vars).trans ?_
 have := range_loop (fun m i (acc : List Int) => F54.l1_1_0_1_0 m (F54.kt 2000 [1, 1, 0, 1, 0]) l n vars i acc) (List.range n.toNat) 0 (fun i acc _ => acc ++ [(if i < l.length then IntKind.i64.wrap (l.getD i.toNat 0) else i).tmod vars]) _ (fun i acc => acc.length ≤ i.toNat) (by
   intro m i acc hI h0 hi
   rw [hlen] at hi
   have lim : ∀ x : Int, (acc.length + [x].length) * 8 ≤ LIM := fun x => lim8 (by simp; omega)
   refine ⟨(F54.l1_1_0_1_0_eq m _ l n vars i acc).trans ?_, by simp; omega⟩
   have hn : i < n := by omega
   rw [wrap_ok (x := i + 1) (by omega) (by omega)]
   by_cases hc : i < l.length
   ·simp only [hn, hc, h0, h3, lim, decide_true, decide_false, Bool.not_false, Bool.and_true, cond_true, if_true]
   ·simp only [hn, hc, h0, h3, lim, decide_true, decide_false, Bool.not_false, Bool.and_true, cond_true, cond_false, if_false]) (by
   intro m i acc hI hi
   rw [hlen] at hi
   refine (F54.l1_1_0_1_0_eq m _ l n vars i acc).trans ?_
   have : ¬ i < n := by omega
   simp only [this, decide_false, cond_false]
   exact F54.c0 _ acc) 2000 0 [] (by simp) (by omega) (by omega) (by omega)
 refine (show _ = _ from this).trans ?_
 rw [goFold_idx (fun i => (if i < l.length then IntKind.i64.wrap (l.getD i.toNat 0) else i).tmod vars)]
 unfold placesL
 simp
theorem F55.sem (l : List Int) (fr n least wide : Int) (h : numbersB l fr n least wide = true) : callW F55.E false F55.fn 2000 [.v (.sl (.int .i8)) l, .v (.int .i64) fr, .v (.int .i64) n, .v (.int .i64) least, .v (.int .i64) wide] = some (.v (.sl (.int .i64)) (numbersL l fr n least wide)) := by
 unfold numbersB at h
 simp only [Bool.and_eq_true, decide_eq_true_eq] at h
 obtain ⟨⟨⟨⟨h1, h2⟩, h3⟩, h4⟩, h5⟩ := h
 have hlen : (List.range n.toNat).length = n.toNat := List.length_range
 refine (F55.start_eq _ l fr n least wide).trans ?_
 have := range_loop (fun m i (acc : List Int) => F55.l1_1_0_1_0 m (F55.kt 2000 [1, 1, 0, 1, 0]) l fr n least wide i acc) (List.range n.toNat) 0 (fun i acc _ => acc ++ [numR (if fr + i < l.length then IntKind.i64.wrap (l.getD (fr + i).toNat 0) else 1) least wide]) _ (fun i acc => acc.length ≤ i.toNat) (by
   intro m i acc hI h0 hi
   rw [hlen] at hi
   have lim : ∀ x : Int, (acc.length + [x].length) * 8 ≤ LIM := fun x => lim8 (by simp; omega)
   refine ⟨(F55.l1_1_0_1_0_eq m _ l fr n least wide i acc).trans ?_, by simp; omega⟩
   have hn : i < n := by omega
   have hf : 0 ≤ fr + i := by omega
   rw [wrap_ok (x := i + 1) (by omega) (by omega), wrap_ok (x := fr + i) (by omega) (by omega)]
   unfold numR
   by_cases hc : fr + i < l.length
   ·simp only [hn, hc, hf, h5, lim, decide_true, decide_false, Bool.not_false, Bool.and_true, cond_true, if_true]
    generalize IntKind.i64.wrap (l.getD (fr + i).toNat 0) = v
    by_cases hv : v.tmod wide < 0 <;> by_cases hw : least ≥ 0 <;> simp [hv, hw]
   ·simp only [hn, hc, hf, h5, lim, decide_true, decide_false, Bool.not_false, Bool.and_true, cond_true, cond_false, if_false]
    by_cases hv : (1 : Int).tmod wide < 0 <;> by_cases hw : least ≥ 0 <;> simp [hv, hw]) (by
   intro m i acc hI hi
   rw [hlen] at hi
   refine (F55.l1_1_0_1_0_eq m _ l fr n least wide i acc).trans ?_
   have : ¬ i < n := by omega
   simp only [this, decide_false, cond_false]
   exact F55.c0 _ acc) 2000 0 [] (by simp) (by omega) (by omega) (by omega)
 refine (show _ = _ from this).trans ?_
 rw [goFold_idx (fun i => numR (if fr + i < l.length then IntKind.i64.wrap (l.getD (fr + i).toNat 0) else 1) least wide)]
 unfold numbersL
 simp
end Go.Proofs.Ytohdaehblenokaa.Ev
set_option linter.unusedVariables false
set_option linter.unusedSimpArgs false
set_option maxRecDepth 100000
namespace Go.Proofs.Ytohdaehblenokaa.Ev
open Go
end Go.Proofs.Ytohdaehblenokaa.Ev
set_option linter.unusedVariables false
set_option linter.unusedSimpArgs false
set_option maxRecDepth 100000
namespace Go.Proofs.Ytohdaehblenokaa.Ev
open Go
end Go.Proofs.Ytohdaehblenokaa.Ev
set_option linter.unusedVariables false
set_option linter.unusedSimpArgs false
set_option maxRecDepth 100000
namespace Go.Proofs.Ytohdaehblenokaa.Ev
open Go
end Go.Proofs.Ytohdaehblenokaa.Ev
set_option linter.unusedVariables false
set_option linter.unusedSimpArgs false
set_option maxRecDepth 100000
namespace Go.Proofs.Ytohdaehblenokaa.Ev
open Go
end Go.Proofs.Ytohdaehblenokaa.Ev
