/-
Seat 'a': lists: what the functions answer.
Conditions: lists are short, numbers those of domains.
Seat 'a': lists: what the functions answer: the second half.
Conditions: lists are short.
-/
import Derived.Test.YtnojoaghcbljfaaGreatDoorAe
import Derived.Test.YtnojoaghcbljfaaGreatDoorAg
import Derived.Test.YtnojoaghcbljfaaGreatDoorAi
set_option linter.unusedVariables false
set_option linter.unusedSimpArgs false
set_option maxRecDepth 100000
namespace Go.Proofs.YtnojoaghcbljfaaGreatDoor.Ev
open Go
theorem F65.sem (xs : List Int) (v : Int) (hl : xs.length ≤ maxLen) : callW F65.E false F65.fn (xs.length + 1) [.v (.sl (.int .i64)) xs, .v (.int .i64) v] = some (.v (.int .i64) (indexL xs v)) := by
 rw [F65.start_eq, search_loop (fun n i => F65.l1_0_1_0 n _ xs v xs.length i) xs 0 (fun x => decide (v = x)) _ _ hl (fun n i => F65.l1_0_1_0_eq n _ xs v _ i) _ 0 (by omega) (by omega) (by omega)]
 simp only [F65.c0, F65.c1]
 exact idx_res (fun x => decide (v = x)) xs (fun v => some (.v (.int .i64) v)) _ rfl
theorem F30.sem (k : Nat) (xs : List Int) (v : Int) : callW F30.E false F30.fn k [.v (.sl (.int .i64)) xs, .v (.int .i64) v] = some (.v .bool (containsL xs v)) := F30.start_eq k xs v
theorem lim8 {n : Nat} (h : n ≤ 1000000000) : n * 8 ≤ LIM := by unfold LIM; omega
theorem lim56 {n : Nat} (h : n ≤ 1000000000) : n * 56 ≤ LIM := by unfold LIM; omega
end Go.Proofs.YtnojoaghcbljfaaGreatDoor.Ev
set_option linter.unusedVariables false
set_option linter.unusedSimpArgs false
set_option maxRecDepth 100000
namespace Go.Proofs.YtnojoaghcbljfaaGreatDoor.Ev
open Go
theorem doms_loop {L : Nat → Int → List Dom → Option AV} {done : List Dom → Option AV} (l : List (List Int)) (hl : l.length ≤ 1000)
  (h : ∀ n i acc, L (n + 1) i acc = bif decide (i < (l.length : Int)) then (bif decide (0 ≤ i) && decide (i < (l.length : Int)) then (bif decide ((acc.length + [(ofD (l.getD i.toNat [])).1].length) * 56 ≤ LIM) then L n (IntKind.i64.wrap (i + 1)) (acc ++ [(ofD (l.getD i.toNat [])).1]) else none) else none) else done acc) :
  L 1001 0 [] = done (domsL l) := by
 have := range_loop L l [] (fun _ acc x => acc ++ [(ofD x).1]) done (fun i acc => acc.length ≤ i.toNat) (by
   intro n i acc hI h0 hi
   have lim : ∀ x : Dom, (acc.length + [x].length) * 56 ≤ LIM := fun x => lim56 (by simp; omega)
   refine ⟨?_, by simp; omega⟩
   rw [h, wrap_ok (by omega) (by omega)]
   simp only [h0, hi, lim, decide_true, Bool.and_true, cond_true]) (by
   intro n i acc hI hi
   rw [h]
   have : ¬ i < l.length := by omega
   simp only [this, decide_false, cond_false]) 1001 0 [] (by simp) (by omega) (by omega) (by omega)
 rw [this, goFold_map]
 rfl
end Go.Proofs.YtnojoaghcbljfaaGreatDoor.Ev
