/-
Constraints made of plain data, of all kinds: there is one, of its kind, with one to eight variables.
Conditions: none.
A constraint of any kind, made of plain data, and the domains that are made with it.
Conditions: none.
-/
import Derived.Test.YtlfdikofmfhefaaGreatDoorBh
import Derived.Test.YtlfdikofmfhefaaGreatDoorAm6
set_option linter.unusedVariables false
set_option linter.unusedSimpArgs false
set_option maxRecDepth 100000
namespace Go.Proofs.YtlfdikofmfhefaaGreatDoor.Ev
open Go
def kindOf (m : Int) : Int := IntKind.i64.wrap (1 + ((IntKind.i64.wrap m).tmod 23))
def AnyC (E : Env) (fn : Func) (K : Nat) (m k : Int) (z : ZRest) (v : Int) : Prop :=
 ∃ A B C D G : List Int, ∃ M : Int, ∃ R : List (List Int), (∃ r, callW E false fn K [.agg (explode SmallT ((m : Int), z)), .v (.int .i64) v] = some r ∧ WA r (.agg (explode ConT (k, A, B, C, D, G, M, R)))) ∧
  1 ≤ A.length ∧ A.length ≤ 4 ∧ B.length ≤ 4 ∧ C.length ≤ 1000 ∧ D.length ≤ 1000 ∧ G.length ≤ 1000 ∧ R.length ≤ 1000
theorem numbers_ok (l : List Int) (f n le wi : Int) (h0 : 0 ≤ f) (h1 : f ≤ 100000) (h2 : 0 ≤ n) (h3 : n ≤ 1000) (h4 : wi ≠ 0) : numbersB l f n le wi = true := by
 unfold numbersB
 simp [h0, h1, h2, h3, h4]
theorem acc_loop {α : Type} (L : Nat → Int → List α → Option AV) (f : Int → α) (m : Nat) (X : List α → Option AV) (hm : m ≤ 1000000) (hend : ∀ n xs, L (n + 1) (m : Int) xs = X xs)
  (hstep : ∀ (n i : Nat) (xs : List α), i < m → xs.length ≤ i → L (n + 1) (i : Int) xs = L n (IntKind.i64.wrap ((i : Int) + 1)) (xs ++ [f (i : Int)])) (n : Nat) (hn : m < n) : L n 0 [] = X ((List.range m).map fun (i : Nat) => f (i : Int)) := by
 have key : ∀ (d i n : Nat), i + d = m → d < n → L n (i : Int) ((List.range i).map fun (i : Nat) => f (i : Int)) = X ((List.range m).map fun (i : Nat) => f (i : Int)) := by
  intro d
  induction d with
  | zero =>
   intro i n h1 h2
   obtain ⟨n', rfl⟩ : ∃ n', n = n' + 1 := ⟨n - 1, by omega⟩
   obtain rfl : i = m := by omega
   exact hend n' _
  | succ d ih =>
   intro i n h1 h2
   obtain ⟨n', rfl⟩ : ∃ n', n = n' + 1 := ⟨n - 1, by omega⟩
   rw [hstep n' i _ (by omega) (by simp), wrap_ok (by omega) (by omega)]
   have e : (i : Int) + 1 = ((i + 1 : Nat) : Int) := by omega
   have e2 : ((List.range i).map fun (i : Nat) => f (i : Int)) ++ [f (i : Int)] = (List.range (i + 1)).map fun (i : Nat) => f (i : Int) := by
    rw [List.range_succ, List.map_append]
    rfl
   rw [e, e2]
   exact ih (i + 1) n' (by omega) (by omega)
 have := key m 0 n (by omega) hn
 exact this
theorem bst3' {α : Type} {c1 c2 c3 : Bool} {u v w z : α} (h1 : c1 = true) (h2 : c2 = true) (h3 : c3 = true) : (bif c1 then bif c2 then bif c3 then u else v else w else z) = u := by subst h1; subst h2; subst h3; rfl
theorem bst2' {α : Type} {c1 c2 : Bool} {u w z : α} (h1 : c1 = true) (h2 : c2 = true) : (bif c1 then bif c2 then u else w else z) = u := by subst h1; subst h2; rfl
theorem bst4' {α : Type} {c1 c2 c3 c4 : Bool} {u v w z y : α} (h1 : c1 = true) (h2 : c2 = true) (h3 : c3 = true) (h4 : c4 = true) : (bif c1 then bif c2 then bif c3 then bif c4 then u else v else w else z else y) = u := by subst h1; subst h2; subst h3; subst h4; rfl
theorem lim8' {n : Nat} (h : n ≤ 1000000) : decide ((n + 1) * 8 ≤ LIM) = true := decide_eq_true (show (n + 1) * 8 ≤ 140737488355328 by omega)
theorem wrap_cnt (l : List Int) : 0 ≤ IntKind.i64.wrap (1 + ((l.length : Int)).tmod 5) ∧ IntKind.i64.wrap (1 + ((l.length : Int)).tmod 5) ≤ 1000 := by
 have h := Int.tmod_lt_of_pos (l.length : Int) (show (0 : Int) < 5 by omega)
 have h2 : 0 ≤ ((l.length : Int)).tmod 5 := Int.tmod_nonneg _ (by omega)
 rw [wrap_ok (by omega) (by omega)]
 omega
def nA (l : List Int) : Int := if (l.length : Int) < 1 then 1 else if (l.length : Int) > 4 then 4 else l.length
theorem nA_range (l : List Int) : 1 ≤ nA l ∧ nA l ≤ 4 := by
 unfold nA
 split
 ·omega
 ·split <;> omega
theorem F26k4.any (k : Nat) (m : Int) (hm : kindOf m = 4) (z : ZRest) (v : Int) (hv : v ≠ 0) : AnyC F26k4.E F26k4.fn k m 4 z v := by
 have st := F26k4.start_eq k m z v hm
 rw [show decide ((4 : Int) < shapesL.length) = true from rfl] at st
 have P : ∀ l n, 0 ≤ n → n ≤ 1000 → placesB l n v = true := fun l n a b => places_ok a b hv
 have N := numbers_ok
 by_cases h1 : (z.1.length : Int) < 1
 ·rw [decide_eq_true h1] at st
  simp (disch := omega) only [P, N, cond_true, cond_false, Bool.cond_self] at st
  refine ⟨(placesL z.1 1 v), (placesL z.2.1 1 v), (numbersL z.2.2.1 0 1 (-1 : Int) 5), [], [], ((IntKind.i64.wrap z.2.2.2.1).tmod 12), [], ⟨_, st, .two (by simp) (.agg (.cons ?_ (.cons ?_ (.cons ?_ (.cons ?_ (.cons ?_ (.cons ?_ (.cons ?_ (.cons ?_ .nil)))))))))⟩, ?_, ?_, ?_, ?_, ?_, ?_, ?_⟩
  all_goals first | exact .same _ | exact .nl _ | (simp only [places_length, numbers_length, List.length_nil]; omega) | (rw [numbers_length]; have := wrap_cnt z.2.2.1; omega)
 ·rw [decide_eq_false h1] at st
  by_cases h2 : (z.1.length : Int) > 4
  ·rw [decide_eq_true h2] at st
   simp (disch := omega) only [P, N, cond_true, cond_false, Bool.cond_self] at st
   refine ⟨(placesL z.1 4 v), (placesL z.2.1 1 v), (numbersL z.2.2.1 0 4 (-1 : Int) 5), [], [], ((IntKind.i64.wrap z.2.2.2.1).tmod 12), [], ⟨_, st, .two (by simp) (.agg (.cons ?_ (.cons ?_ (.cons ?_ (.cons ?_ (.cons ?_ (.cons ?_ (.cons ?_ (.cons ?_ .nil)))))))))⟩, ?_, ?_, ?_, ?_, ?_, ?_, ?_⟩
   all_goals first | exact .same _ | exact .nl _ | (simp only [places_length, numbers_length, List.length_nil]; omega) | (rw [numbers_length]; have := wrap_cnt z.2.2.1; omega)
  ·rw [decide_eq_false h2] at st
   simp (disch := omega) only [P, N, cond_true, cond_false, Bool.cond_self] at st
   refine ⟨(placesL z.1 (z.1.length : Int) v), (placesL z.2.1 1 v), (numbersL z.2.2.1 0 (z.1.length : Int) (-1 : Int) 5), [], [], ((IntKind.i64.wrap z.2.2.2.1).tmod 12), [], ⟨_, st, .two (by simp) (.agg (.cons ?_ (.cons ?_ (.cons ?_ (.cons ?_ (.cons ?_ (.cons ?_ (.cons ?_ (.cons ?_ .nil)))))))))⟩, ?_, ?_, ?_, ?_, ?_, ?_, ?_⟩
   all_goals first | exact .same _ | exact .nl _ | (simp only [places_length, numbers_length, List.length_nil]; omega) | (rw [numbers_length]; have := wrap_cnt z.2.2.1; omega)
theorem F26k5.any (k : Nat) (m : Int) (hm : kindOf m = 5) (z : ZRest) (v : Int) (hv : v ≠ 0) : AnyC F26k5.E F26k5.fn k m 5 z v := by
 have st := F26k5.start_eq k m z v hm
 rw [show decide ((5 : Int) < shapesL.length) = true from rfl] at st
 have P : ∀ l n, 0 ≤ n → n ≤ 1000 → placesB l n v = true := fun l n a b => places_ok a b hv
 have N := numbers_ok
 by_cases h1 : (z.1.length : Int) < 1
 ·rw [decide_eq_true h1] at st
  simp (disch := omega) only [P, N, cond_true, cond_false, Bool.cond_self] at st
  refine ⟨(placesL z.1 3 v), [], [], [], [], (0 : Int), [], ⟨_, st, .two (by simp) (.agg (.cons ?_ (.cons ?_ (.cons ?_ (.cons ?_ (.cons ?_ (.cons ?_ (.cons ?_ (.cons ?_ .nil)))))))))⟩, ?_, ?_, ?_, ?_, ?_, ?_, ?_⟩
  all_goals first | exact .same _ | exact .nl _ | (simp only [places_length, numbers_length, List.length_nil]; omega) | (rw [numbers_length]; have := wrap_cnt z.2.2.1; omega)
 ·rw [decide_eq_false h1] at st
  by_cases h2 : (z.1.length : Int) > 4
  ·rw [decide_eq_true h2] at st
   simp (disch := omega) only [P, N, cond_true, cond_false, Bool.cond_self] at st
   refine ⟨(placesL z.1 3 v), [], [], [], [], (0 : Int), [], ⟨_, st, .two (by simp) (.agg (.cons ?_ (.cons ?_ (.cons ?_ (.cons ?_ (.cons ?_ (.cons ?_ (.cons ?_ (.cons ?_ .nil)))))))))⟩, ?_, ?_, ?_, ?_, ?_, ?_, ?_⟩
   all_goals first | exact .same _ | exact .nl _ | (simp only [places_length, numbers_length, List.length_nil]; omega) | (rw [numbers_length]; have := wrap_cnt z.2.2.1; omega)
  ·rw [decide_eq_false h2] at st
   simp (disch := omega) only [P, N, cond_true, cond_false, Bool.cond_self] at st
   refine ⟨(placesL z.1 3 v), [], [], [], [], (0 : Int), [], ⟨_, st, .two (by simp) (.agg (.cons ?_ (.cons ?_ (.cons ?_ (.cons ?_ (.cons ?_ (.cons ?_ (.cons ?_ (.cons ?_ .nil)))))))))⟩, ?_, ?_, ?_, ?_, ?_, ?_, ?_⟩
   all_goals first | exact .same _ | exact .nl _ | (simp only [places_length, numbers_length, List.length_nil]; omega) | (rw [numbers_length]; have := wrap_cnt z.2.2.1; omega)
theorem F26k6.any (k : Nat) (m : Int) (hm : kindOf m = 6) (z : ZRest) (v : Int) (hv : v ≠ 0) : AnyC F26k6.E F26k6.fn k m 6 z v := by
 have st := F26k6.start_eq k m z v hm
 rw [show decide ((6 : Int) < shapesL.length) = true from rfl] at st
 have P : ∀ l n, 0 ≤ n → n ≤ 1000 → placesB l n v = true := fun l n a b => places_ok a b hv
 have N := numbers_ok
 by_cases h1 : (z.1.length : Int) < 1
 ·rw [decide_eq_true h1] at st
  simp (disch := omega) only [P, N, cond_true, cond_false, Bool.cond_self] at st
  refine ⟨(placesL z.1 3 v), [], [], [], [], (0 : Int), [], ⟨_, st, .two (by simp) (.agg (.cons ?_ (.cons ?_ (.cons ?_ (.cons ?_ (.cons ?_ (.cons ?_ (.cons ?_ (.cons ?_ .nil)))))))))⟩, ?_, ?_, ?_, ?_, ?_, ?_, ?_⟩
  all_goals first | exact .same _ | exact .nl _ | (simp only [places_length, numbers_length, List.length_nil]; omega) | (rw [numbers_length]; have := wrap_cnt z.2.2.1; omega)
 ·rw [decide_eq_false h1] at st
  by_cases h2 : (z.1.length : Int) > 4
  ·rw [decide_eq_true h2] at st
   simp (disch := omega) only [P, N, cond_true, cond_false, Bool.cond_self] at st
   refine ⟨(placesL z.1 3 v), [], [], [], [], (0 : Int), [], ⟨_, st, .two (by simp) (.agg (.cons ?_ (.cons ?_ (.cons ?_ (.cons ?_ (.cons ?_ (.cons ?_ (.cons ?_ (.cons ?_ .nil)))))))))⟩, ?_, ?_, ?_, ?_, ?_, ?_, ?_⟩
   all_goals first | exact .same _ | exact .nl _ | (simp only [places_length, numbers_length, List.length_nil]; omega) | (rw [numbers_length]; have := wrap_cnt z.2.2.1; omega)
  ·rw [decide_eq_false h2] at st
   simp (disch := omega) only [P, N, cond_true, cond_false, Bool.cond_self] at st
   refine ⟨(placesL z.1 3 v), [], [], [], [], (0 : Int), [], ⟨_, st, .two (by simp) (.agg (.cons ?_ (.cons ?_ (.cons ?_ (.cons ?_ (.cons ?_ (.cons ?_ (.cons ?_ (.cons ?_ .nil)))))))))⟩, ?_, ?_, ?_, ?_, ?_, ?_, ?_⟩
   all_goals first | exact .same _ | exact .nl _ | (simp only [places_length, numbers_length, List.length_nil]; omega) | (rw [numbers_length]; have := wrap_cnt z.2.2.1; omega)
theorem F26k7.any (k : Nat) (m : Int) (hm : kindOf m = 7) (z : ZRest) (v : Int) (hv : v ≠ 0) : AnyC F26k7.E F26k7.fn k m 7 z v := by
 have st := F26k7.start_eq k m z v hm
 rw [show decide ((7 : Int) < shapesL.length) = true from rfl] at st
 have P : ∀ l n, 0 ≤ n → n ≤ 1000 → placesB l n v = true := fun l n a b => places_ok a b hv
 have N := numbers_ok
 by_cases h1 : (z.1.length : Int) < 1
 ·rw [decide_eq_true h1] at st
  simp (disch := omega) only [P, N, cond_true, cond_false, Bool.cond_self] at st
  refine ⟨(placesL z.1 3 v), [], [], [], [], (0 : Int), [], ⟨_, st, .two (by simp) (.agg (.cons ?_ (.cons ?_ (.cons ?_ (.cons ?_ (.cons ?_ (.cons ?_ (.cons ?_ (.cons ?_ .nil)))))))))⟩, ?_, ?_, ?_, ?_, ?_, ?_, ?_⟩
  all_goals first | exact .same _ | exact .nl _ | (simp only [places_length, numbers_length, List.length_nil]; omega) | (rw [numbers_length]; have := wrap_cnt z.2.2.1; omega)
 ·rw [decide_eq_false h1] at st
  by_cases h2 : (z.1.length : Int) > 4
  ·rw [decide_eq_true h2] at st
   simp (disch := omega) only [P, N, cond_true, cond_false, Bool.cond_self] at st
   refine ⟨(placesL z.1 3 v), [], [], [], [], (0 : Int), [], ⟨_, st, .two (by simp) (.agg (.cons ?_ (.cons ?_ (.cons ?_ (.cons ?_ (.cons ?_ (.cons ?_ (.cons ?_ (.cons ?_ .nil)))))))))⟩, ?_, ?_, ?_, ?_, ?_, ?_, ?_⟩
   all_goals first | exact .same _ | exact .nl _ | (simp only [places_length, numbers_length, List.length_nil]; omega) | (rw [numbers_length]; have := wrap_cnt z.2.2.1; omega)
  ·rw [decide_eq_false h2] at st
   simp (disch := omega) only [P, N, cond_true, cond_false, Bool.cond_self] at st
   refine ⟨(placesL z.1 3 v), [], [], [], [], (0 : Int), [], ⟨_, st, .two (by simp) (.agg (.cons ?_ (.cons ?_ (.cons ?_ (.cons ?_ (.cons ?_ (.cons ?_ (.cons ?_ (.cons ?_ .nil)))))))))⟩, ?_, ?_, ?_, ?_, ?_, ?_, ?_⟩
   all_goals first | exact .same _ | exact .nl _ | (simp only [places_length, numbers_length, List.length_nil]; omega) | (rw [numbers_length]; have := wrap_cnt z.2.2.1; omega)
theorem F26k8.any (k : Nat) (m : Int) (hm : kindOf m = 8) (z : ZRest) (v : Int) (hv : v ≠ 0) : AnyC F26k8.E F26k8.fn k m 8 z v := by
 have st := F26k8.start_eq k m z v hm
 rw [show decide ((8 : Int) < shapesL.length) = true from rfl] at st
 have P : ∀ l n, 0 ≤ n → n ≤ 1000 → placesB l n v = true := fun l n a b => places_ok a b hv
 have N := numbers_ok
 by_cases h1 : (z.1.length : Int) < 1
 ·rw [decide_eq_true h1] at st
  simp (disch := omega) only [P, N, cond_true, cond_false, Bool.cond_self] at st
  refine ⟨(placesL z.1 2 v), [], [], [], [], (0 : Int), [], ⟨_, st, .two (by simp) (.agg (.cons ?_ (.cons ?_ (.cons ?_ (.cons ?_ (.cons ?_ (.cons ?_ (.cons ?_ (.cons ?_ .nil)))))))))⟩, ?_, ?_, ?_, ?_, ?_, ?_, ?_⟩
  all_goals first | exact .same _ | exact .nl _ | (simp only [places_length, numbers_length, List.length_nil]; omega) | (rw [numbers_length]; have := wrap_cnt z.2.2.1; omega)
 ·rw [decide_eq_false h1] at st
  by_cases h2 : (z.1.length : Int) > 4
  ·rw [decide_eq_true h2] at st
   simp (disch := omega) only [P, N, cond_true, cond_false, Bool.cond_self] at st
   refine ⟨(placesL z.1 2 v), [], [], [], [], (0 : Int), [], ⟨_, st, .two (by simp) (.agg (.cons ?_ (.cons ?_ (.cons ?_ (.cons ?_ (.cons ?_ (.cons ?_ (.cons ?_ (.cons ?_ .nil)))))))))⟩, ?_, ?_, ?_, ?_, ?_, ?_, ?_⟩
   all_goals first | exact .same _ | exact .nl _ | (simp only [places_length, numbers_length, List.length_nil]; omega) | (rw [numbers_length]; have := wrap_cnt z.2.2.1; omega)
  ·rw [decide_eq_false h2] at st
   simp (disch := omega) only [P, N, cond_true, cond_false, Bool.cond_self] at st
   refine ⟨(placesL z.1 2 v), [], [], [], [], (0 : Int), [], ⟨_, st, .two (by simp) (.agg (.cons ?_ (.cons ?_ (.cons ?_ (.cons ?_ (.cons ?_ (.cons ?_ (.cons ?_ (.cons ?_ .nil)))))))))⟩, ?_, ?_, ?_, ?_, ?_, ?_, ?_⟩
   all_goals first | exact .same _ | exact .nl _ | (simp only [places_length, numbers_length, List.length_nil]; omega) | (rw [numbers_length]; have := wrap_cnt z.2.2.1; omega)
theorem F26k9.any (k : Nat) (m : Int) (hm : kindOf m = 9) (z : ZRest) (v : Int) (hv : v ≠ 0) : AnyC F26k9.E F26k9.fn k m 9 z v := by
 have st := F26k9.start_eq k m z v hm
 rw [show decide ((9 : Int) < shapesL.length) = true from rfl] at st
 have P : ∀ l n, 0 ≤ n → n ≤ 1000 → placesB l n v = true := fun l n a b => places_ok a b hv
 have N := numbers_ok
 by_cases h1 : (z.1.length : Int) < 1
 ·rw [decide_eq_true h1] at st
  simp (disch := omega) only [P, N, cond_true, cond_false, Bool.cond_self] at st
  refine ⟨(placesL z.1 3 v), [], [], [], [], (0 : Int), [], ⟨_, st, .two (by simp) (.agg (.cons ?_ (.cons ?_ (.cons ?_ (.cons ?_ (.cons ?_ (.cons ?_ (.cons ?_ (.cons ?_ .nil)))))))))⟩, ?_, ?_, ?_, ?_, ?_, ?_, ?_⟩
  all_goals first | exact .same _ | exact .nl _ | (simp only [places_length, numbers_length, List.length_nil]; omega) | (rw [numbers_length]; have := wrap_cnt z.2.2.1; omega)
 ·rw [decide_eq_false h1] at st
  by_cases h2 : (z.1.length : Int) > 4
  ·rw [decide_eq_true h2] at st
   simp (disch := omega) only [P, N, cond_true, cond_false, Bool.cond_self] at st
   refine ⟨(placesL z.1 3 v), [], [], [], [], (0 : Int), [], ⟨_, st, .two (by simp) (.agg (.cons ?_ (.cons ?_ (.cons ?_ (.cons ?_ (.cons ?_ (.cons ?_ (.cons ?_ (.cons ?_ .nil)))))))))⟩, ?_, ?_, ?_, ?_, ?_, ?_, ?_⟩
   all_goals first | exact .same _ | exact .nl _ | (simp only [places_length, numbers_length, List.length_nil]; omega) | (rw [numbers_length]; have := wrap_cnt z.2.2.1; omega)
  ·rw [decide_eq_false h2] at st
   simp (disch := omega) only [P, N, cond_true, cond_false, Bool.cond_self] at st
   refine ⟨(placesL z.1 3 v), [], [], [], [], (0 : Int), [], ⟨_, st, .two (by simp) (.agg (.cons ?_ (.cons ?_ (.cons ?_ (.cons ?_ (.cons ?_ (.cons ?_ (.cons ?_ (.cons ?_ .nil)))))))))⟩, ?_, ?_, ?_, ?_, ?_, ?_, ?_⟩
   all_goals first | exact .same _ | exact .nl _ | (simp only [places_length, numbers_length, List.length_nil]; omega) | (rw [numbers_length]; have := wrap_cnt z.2.2.1; omega)
theorem F26k10.any (k : Nat) (m : Int) (hm : kindOf m = 10) (z : ZRest) (v : Int) (hv : v ≠ 0) : AnyC F26k10.E F26k10.fn k m 10 z v := by
 have st := F26k10.start_eq k m z v hm
 rw [show decide ((10 : Int) < shapesL.length) = true from rfl] at st
 have P : ∀ l n, 0 ≤ n → n ≤ 1000 → placesB l n v = true := fun l n a b => places_ok a b hv
 have N := numbers_ok
 by_cases h1 : (z.1.length : Int) < 1
 ·rw [decide_eq_true h1] at st
  simp (disch := omega) only [P, N, cond_true, cond_false, Bool.cond_self] at st
  refine ⟨(placesL z.1 3 v), [], [], [], [], (0 : Int), [], ⟨_, st, .two (by simp) (.agg (.cons ?_ (.cons ?_ (.cons ?_ (.cons ?_ (.cons ?_ (.cons ?_ (.cons ?_ (.cons ?_ .nil)))))))))⟩, ?_, ?_, ?_, ?_, ?_, ?_, ?_⟩
  all_goals first | exact .same _ | exact .nl _ | (simp only [places_length, numbers_length, List.length_nil]; omega) | (rw [numbers_length]; have := wrap_cnt z.2.2.1; omega)
 ·rw [decide_eq_false h1] at st
  by_cases h2 : (z.1.length : Int) > 4
  ·rw [decide_eq_true h2] at st
   simp (disch := omega) only [P, N, cond_true, cond_false, Bool.cond_self] at st
   refine ⟨(placesL z.1 3 v), [], [], [], [], (0 : Int), [], ⟨_, st, .two (by simp) (.agg (.cons ?_ (.cons ?_ (.cons ?_ (.cons ?_ (.cons ?_ (.cons ?_ (.cons ?_ (.cons ?_ .nil)))))))))⟩, ?_, ?_, ?_, ?_, ?_, ?_, ?_⟩
   all_goals first | exact .same _ | exact .nl _ | (simp only [places_length, numbers_length, List.length_nil]; omega) | (rw [numbers_length]; have := wrap_cnt z.2.2.1; omega)
  ·rw [decide_eq_false h2] at st
   simp (disch := omega) only [P, N, cond_true, cond_false, Bool.cond_self] at st
   refine ⟨(placesL z.1 3 v), [], [], [], [], (0 : Int), [], ⟨_, st, .two (by simp) (.agg (.cons ?_ (.cons ?_ (.cons ?_ (.cons ?_ (.cons ?_ (.cons ?_ (.cons ?_ (.cons ?_ .nil)))))))))⟩, ?_, ?_, ?_, ?_, ?_, ?_, ?_⟩
   all_goals first | exact .same _ | exact .nl _ | (simp only [places_length, numbers_length, List.length_nil]; omega) | (rw [numbers_length]; have := wrap_cnt z.2.2.1; omega)
theorem F26k11.any (k : Nat) (m : Int) (hm : kindOf m = 11) (z : ZRest) (v : Int) (hv : v ≠ 0) : AnyC F26k11.E F26k11.fn k m 11 z v := by
 have st := F26k11.start_eq k m z v hm
 rw [show decide ((11 : Int) < shapesL.length) = true from rfl] at st
 have P : ∀ l n, 0 ≤ n → n ≤ 1000 → placesB l n v = true := fun l n a b => places_ok a b hv
 have N := numbers_ok
 have q11 := wrap_cnt z.2.2.1
 by_cases h1 : (z.1.length : Int) < 1
 ·rw [decide_eq_true h1] at st
  simp (disch := omega) only [P, N, cond_true, cond_false, Bool.cond_self] at st
  refine ⟨(placesL z.1 2 v), [], (numbersL z.2.2.1 0 (IntKind.i64.wrap (1 + ((z.2.2.1.length : Int).tmod 5))) (-1 : Int) 5), [], [], (0 : Int), [], ⟨_, st, .two (by simp) (.agg (.cons ?_ (.cons ?_ (.cons ?_ (.cons ?_ (.cons ?_ (.cons ?_ (.cons ?_ (.cons ?_ .nil)))))))))⟩, ?_, ?_, ?_, ?_, ?_, ?_, ?_⟩
  all_goals first | exact .same _ | exact .nl _ | (simp only [places_length, numbers_length, List.length_nil]; omega) | (rw [numbers_length]; have := wrap_cnt z.2.2.1; omega)
 ·rw [decide_eq_false h1] at st
  by_cases h2 : (z.1.length : Int) > 4
  ·rw [decide_eq_true h2] at st
   simp (disch := omega) only [P, N, cond_true, cond_false, Bool.cond_self] at st
   refine ⟨(placesL z.1 2 v), [], (numbersL z.2.2.1 0 (IntKind.i64.wrap (1 + ((z.2.2.1.length : Int).tmod 5))) (-1 : Int) 5), [], [], (0 : Int), [], ⟨_, st, .two (by simp) (.agg (.cons ?_ (.cons ?_ (.cons ?_ (.cons ?_ (.cons ?_ (.cons ?_ (.cons ?_ (.cons ?_ .nil)))))))))⟩, ?_, ?_, ?_, ?_, ?_, ?_, ?_⟩
   all_goals first | exact .same _ | exact .nl _ | (simp only [places_length, numbers_length, List.length_nil]; omega) | (rw [numbers_length]; have := wrap_cnt z.2.2.1; omega)
  ·rw [decide_eq_false h2] at st
   simp (disch := omega) only [P, N, cond_true, cond_false, Bool.cond_self] at st
   refine ⟨(placesL z.1 2 v), [], (numbersL z.2.2.1 0 (IntKind.i64.wrap (1 + ((z.2.2.1.length : Int).tmod 5))) (-1 : Int) 5), [], [], (0 : Int), [], ⟨_, st, .two (by simp) (.agg (.cons ?_ (.cons ?_ (.cons ?_ (.cons ?_ (.cons ?_ (.cons ?_ (.cons ?_ (.cons ?_ .nil)))))))))⟩, ?_, ?_, ?_, ?_, ?_, ?_, ?_⟩
   all_goals first | exact .same _ | exact .nl _ | (simp only [places_length, numbers_length, List.length_nil]; omega) | (rw [numbers_length]; have := wrap_cnt z.2.2.1; omega)
theorem F26k12.any (k : Nat) (m : Int) (hm : kindOf m = 12) (z : ZRest) (v : Int) (hv : v ≠ 0) : AnyC F26k12.E F26k12.fn k m 12 z v := by
 have st := F26k12.start_eq k m z v hm
 rw [show decide ((12 : Int) < shapesL.length) = true from rfl] at st
 have P : ∀ l n, 0 ≤ n → n ≤ 1000 → placesB l n v = true := fun l n a b => places_ok a b hv
 have N := numbers_ok
 by_cases h1 : (z.1.length : Int) < 1
 ·rw [decide_eq_true h1] at st
  simp (disch := omega) only [P, N, cond_true, cond_false, Bool.cond_self] at st
  refine ⟨(placesL z.1 1 v), (placesL z.2.1 1 v), [], [], [], (0 : Int), [], ⟨_, st, .two (by simp) (.agg (.cons ?_ (.cons ?_ (.cons ?_ (.cons ?_ (.cons ?_ (.cons ?_ (.cons ?_ (.cons ?_ .nil)))))))))⟩, ?_, ?_, ?_, ?_, ?_, ?_, ?_⟩
  all_goals first | exact .same _ | exact .nl _ | (simp only [places_length, numbers_length, List.length_nil]; omega) | (rw [numbers_length]; have := wrap_cnt z.2.2.1; omega)
 ·rw [decide_eq_false h1] at st
  by_cases h2 : (z.1.length : Int) > 4
  ·rw [decide_eq_true h2] at st
   simp (disch := omega) only [P, N, cond_true, cond_false, Bool.cond_self] at st
   refine ⟨(placesL z.1 4 v), (placesL z.2.1 4 v), [], [], [], (0 : Int), [], ⟨_, st, .two (by simp) (.agg (.cons ?_ (.cons ?_ (.cons ?_ (.cons ?_ (.cons ?_ (.cons ?_ (.cons ?_ (.cons ?_ .nil)))))))))⟩, ?_, ?_, ?_, ?_, ?_, ?_, ?_⟩
   all_goals first | exact .same _ | exact .nl _ | (simp only [places_length, numbers_length, List.length_nil]; omega) | (rw [numbers_length]; have := wrap_cnt z.2.2.1; omega)
  ·rw [decide_eq_false h2] at st
   simp (disch := omega) only [P, N, cond_true, cond_false, Bool.cond_self] at st
   refine ⟨(placesL z.1 (z.1.length : Int) v), (placesL z.2.1 (z.1.length : Int) v), [], [], [], (0 : Int), [], ⟨_, st, .two (by simp) (.agg (.cons ?_ (.cons ?_ (.cons ?_ (.cons ?_ (.cons ?_ (.cons ?_ (.cons ?_ (.cons ?_ .nil)))))))))⟩, ?_, ?_, ?_, ?_, ?_, ?_, ?_⟩
   all_goals first | exact .same _ | exact .nl _ | (simp only [places_length, numbers_length, List.length_nil]; omega) | (rw [numbers_length]; have := wrap_cnt z.2.2.1; omega)
theorem F26k13.any (k : Nat) (m : Int) (hm : kindOf m = 13) (z : ZRest) (v : Int) (hv : v ≠ 0) : AnyC F26k13.E F26k13.fn k m 13 z v := by
 have st := F26k13.start_eq k m z v hm
 rw [show decide ((13 : Int) < shapesL.length) = true from rfl] at st
 have P : ∀ l n, 0 ≤ n → n ≤ 1000 → placesB l n v = true := fun l n a b => places_ok a b hv
 have N := numbers_ok
 by_cases h1 : (z.1.length : Int) < 1
 ·rw [decide_eq_true h1] at st
  simp (disch := omega) only [P, N, cond_true, cond_false, Bool.cond_self] at st
  refine ⟨(placesL z.1 1 v), (placesL z.2.1 1 v), [], [], [], ((IntKind.i64.wrap z.2.2.2.1).tmod 12), [], ⟨_, st, .two (by simp) (.agg (.cons ?_ (.cons ?_ (.cons ?_ (.cons ?_ (.cons ?_ (.cons ?_ (.cons ?_ (.cons ?_ .nil)))))))))⟩, ?_, ?_, ?_, ?_, ?_, ?_, ?_⟩
  all_goals first | exact .same _ | exact .nl _ | (simp only [places_length, numbers_length, List.length_nil]; omega) | (rw [numbers_length]; have := wrap_cnt z.2.2.1; omega)
 ·rw [decide_eq_false h1] at st
  by_cases h2 : (z.1.length : Int) > 4
  ·rw [decide_eq_true h2] at st
   simp (disch := omega) only [P, N, cond_true, cond_false, Bool.cond_self] at st
   refine ⟨(placesL z.1 1 v), (placesL z.2.1 1 v), [], [], [], ((IntKind.i64.wrap z.2.2.2.1).tmod 12), [], ⟨_, st, .two (by simp) (.agg (.cons ?_ (.cons ?_ (.cons ?_ (.cons ?_ (.cons ?_ (.cons ?_ (.cons ?_ (.cons ?_ .nil)))))))))⟩, ?_, ?_, ?_, ?_, ?_, ?_, ?_⟩
   all_goals first | exact .same _ | exact .nl _ | (simp only [places_length, numbers_length, List.length_nil]; omega) | (rw [numbers_length]; have := wrap_cnt z.2.2.1; omega)
  ·rw [decide_eq_false h2] at st
   simp (disch := omega) only [P, N, cond_true, cond_false, Bool.cond_self] at st
   refine ⟨(placesL z.1 1 v), (placesL z.2.1 1 v), [], [], [], ((IntKind.i64.wrap z.2.2.2.1).tmod 12), [], ⟨_, st, .two (by simp) (.agg (.cons ?_ (.cons ?_ (.cons ?_ (.cons ?_ (.cons ?_ (.cons ?_ (.cons ?_ (.cons ?_ .nil)))))))))⟩, ?_, ?_, ?_, ?_, ?_, ?_, ?_⟩
   all_goals first | exact .same _ | exact .nl _ | (simp only [places_length, numbers_length, List.length_nil]; omega) | (rw [numbers_length]; have := wrap_cnt z.2.2.1; omega)
theorem F26k14.any (k : Nat) (m : Int) (hm : kindOf m = 14) (z : ZRest) (v : Int) (hv : v ≠ 0) : AnyC F26k14.E F26k14.fn k m 14 z v := by
 have st := F26k14.start_eq k m z v hm
 rw [show decide ((14 : Int) < shapesL.length) = true from rfl] at st
 have P : ∀ l n, 0 ≤ n → n ≤ 1000 → placesB l n v = true := fun l n a b => places_ok a b hv
 have N := numbers_ok
 by_cases h1 : (z.1.length : Int) < 1
 ·rw [decide_eq_true h1] at st
  simp (disch := omega) only [P, N, cond_true, cond_false, Bool.cond_self] at st
  refine ⟨(placesL z.1 1 v), (placesL z.2.1 1 v), [], [], [], ((IntKind.i64.wrap z.2.2.2.1).tmod 12), [], ⟨_, st, .two (by simp) (.agg (.cons ?_ (.cons ?_ (.cons ?_ (.cons ?_ (.cons ?_ (.cons ?_ (.cons ?_ (.cons ?_ .nil)))))))))⟩, ?_, ?_, ?_, ?_, ?_, ?_, ?_⟩
  all_goals first | exact .same _ | exact .nl _ | (simp only [places_length, numbers_length, List.length_nil]; omega) | (rw [numbers_length]; have := wrap_cnt z.2.2.1; omega)
 ·rw [decide_eq_false h1] at st
  by_cases h2 : (z.1.length : Int) > 4
  ·rw [decide_eq_true h2] at st
   simp (disch := omega) only [P, N, cond_true, cond_false, Bool.cond_self] at st
   refine ⟨(placesL z.1 1 v), (placesL z.2.1 1 v), [], [], [], ((IntKind.i64.wrap z.2.2.2.1).tmod 12), [], ⟨_, st, .two (by simp) (.agg (.cons ?_ (.cons ?_ (.cons ?_ (.cons ?_ (.cons ?_ (.cons ?_ (.cons ?_ (.cons ?_ .nil)))))))))⟩, ?_, ?_, ?_, ?_, ?_, ?_, ?_⟩
   all_goals first | exact .same _ | exact .nl _ | (simp only [places_length, numbers_length, List.length_nil]; omega) | (rw [numbers_length]; have := wrap_cnt z.2.2.1; omega)
  ·rw [decide_eq_false h2] at st
   simp (disch := omega) only [P, N, cond_true, cond_false, Bool.cond_self] at st
   refine ⟨(placesL z.1 1 v), (placesL z.2.1 1 v), [], [], [], ((IntKind.i64.wrap z.2.2.2.1).tmod 12), [], ⟨_, st, .two (by simp) (.agg (.cons ?_ (.cons ?_ (.cons ?_ (.cons ?_ (.cons ?_ (.cons ?_ (.cons ?_ (.cons ?_ .nil)))))))))⟩, ?_, ?_, ?_, ?_, ?_, ?_, ?_⟩
   all_goals first | exact .same _ | exact .nl _ | (simp only [places_length, numbers_length, List.length_nil]; omega) | (rw [numbers_length]; have := wrap_cnt z.2.2.1; omega)
theorem F26k15.any (k : Nat) (m : Int) (hm : kindOf m = 15) (z : ZRest) (v : Int) (hv : v ≠ 0) : AnyC F26k15.E F26k15.fn k m 15 z v := by
 have st := F26k15.start_eq k m z v hm
 rw [show decide ((15 : Int) < shapesL.length) = true from rfl] at st
 have P : ∀ l n, 0 ≤ n → n ≤ 1000 → placesB l n v = true := fun l n a b => places_ok a b hv
 have N := numbers_ok
 by_cases h1 : (z.1.length : Int) < 1
 ·rw [decide_eq_true h1] at st
  simp (disch := omega) only [P, N, cond_true, cond_false, Bool.cond_self] at st
  refine ⟨(placesL z.1 1 v), (placesL z.2.1 1 v), [], [], [], ((IntKind.i64.wrap z.2.2.2.1).tmod 12), [], ⟨_, st, .two (by simp) (.agg (.cons ?_ (.cons ?_ (.cons ?_ (.cons ?_ (.cons ?_ (.cons ?_ (.cons ?_ (.cons ?_ .nil)))))))))⟩, ?_, ?_, ?_, ?_, ?_, ?_, ?_⟩
  all_goals first | exact .same _ | exact .nl _ | (simp only [places_length, numbers_length, List.length_nil]; omega) | (rw [numbers_length]; have := wrap_cnt z.2.2.1; omega)
 ·rw [decide_eq_false h1] at st
  by_cases h2 : (z.1.length : Int) > 4
  ·rw [decide_eq_true h2] at st
   simp (disch := omega) only [P, N, cond_true, cond_false, Bool.cond_self] at st
   refine ⟨(placesL z.1 1 v), (placesL z.2.1 1 v), [], [], [], ((IntKind.i64.wrap z.2.2.2.1).tmod 12), [], ⟨_, st, .two (by simp) (.agg (.cons ?_ (.cons ?_ (.cons ?_ (.cons ?_ (.cons ?_ (.cons ?_ (.cons ?_ (.cons ?_ .nil)))))))))⟩, ?_, ?_, ?_, ?_, ?_, ?_, ?_⟩
   all_goals first | exact .same _ | exact .nl _ | (simp only [places_length, numbers_length, List.length_nil]; omega) | (rw [numbers_length]; have := wrap_cnt z.2.2.1; omega)
  ·rw [decide_eq_false h2] at st
   simp (disch := omega) only [P, N, cond_true, cond_false, Bool.cond_self] at st
   refine ⟨(placesL z.1 1 v), (placesL z.2.1 1 v), [], [], [], ((IntKind.i64.wrap z.2.2.2.1).tmod 12), [], ⟨_, st, .two (by simp) (.agg (.cons ?_ (.cons ?_ (.cons ?_ (.cons ?_ (.cons ?_ (.cons ?_ (.cons ?_ (.cons ?_ .nil)))))))))⟩, ?_, ?_, ?_, ?_, ?_, ?_, ?_⟩
   all_goals first | exact .same _ | exact .nl _ | (simp only [places_length, numbers_length, List.length_nil]; omega) | (rw [numbers_length]; have := wrap_cnt z.2.2.1; omega)
theorem F26k16.any (k : Nat) (m : Int) (hm : kindOf m = 16) (z : ZRest) (v : Int) (hv : v ≠ 0) : AnyC F26k16.E F26k16.fn k m 16 z v := by
 have st := F26k16.start_eq k m z v hm
 rw [show decide ((16 : Int) < shapesL.length) = true from rfl] at st
 have P : ∀ l n, 0 ≤ n → n ≤ 1000 → placesB l n v = true := fun l n a b => places_ok a b hv
 have N := numbers_ok
 by_cases h1 : (z.1.length : Int) < 1
 ·rw [decide_eq_true h1] at st
  simp (disch := omega) only [P, N, cond_true, cond_false, Bool.cond_self] at st
  refine ⟨(placesL z.1 1 v), (placesL z.2.1 1 v), [], [], [], ((IntKind.i64.wrap z.2.2.2.1).tmod 12), [], ⟨_, st, .two (by simp) (.agg (.cons ?_ (.cons ?_ (.cons ?_ (.cons ?_ (.cons ?_ (.cons ?_ (.cons ?_ (.cons ?_ .nil)))))))))⟩, ?_, ?_, ?_, ?_, ?_, ?_, ?_⟩
  all_goals first | exact .same _ | exact .nl _ | (simp only [places_length, numbers_length, List.length_nil]; omega) | (rw [numbers_length]; have := wrap_cnt z.2.2.1; omega)
 ·rw [decide_eq_false h1] at st
  by_cases h2 : (z.1.length : Int) > 4
  ·rw [decide_eq_true h2] at st
   simp (disch := omega) only [P, N, cond_true, cond_false, Bool.cond_self] at st
   refine ⟨(placesL z.1 1 v), (placesL z.2.1 1 v), [], [], [], ((IntKind.i64.wrap z.2.2.2.1).tmod 12), [], ⟨_, st, .two (by simp) (.agg (.cons ?_ (.cons ?_ (.cons ?_ (.cons ?_ (.cons ?_ (.cons ?_ (.cons ?_ (.cons ?_ .nil)))))))))⟩, ?_, ?_, ?_, ?_, ?_, ?_, ?_⟩
   all_goals first | exact .same _ | exact .nl _ | (simp only [places_length, numbers_length, List.length_nil]; omega) | (rw [numbers_length]; have := wrap_cnt z.2.2.1; omega)
  ·rw [decide_eq_false h2] at st
   simp (disch := omega) only [P, N, cond_true, cond_false, Bool.cond_self] at st
   refine ⟨(placesL z.1 1 v), (placesL z.2.1 1 v), [], [], [], ((IntKind.i64.wrap z.2.2.2.1).tmod 12), [], ⟨_, st, .two (by simp) (.agg (.cons ?_ (.cons ?_ (.cons ?_ (.cons ?_ (.cons ?_ (.cons ?_ (.cons ?_ (.cons ?_ .nil)))))))))⟩, ?_, ?_, ?_, ?_, ?_, ?_, ?_⟩
   all_goals first | exact .same _ | exact .nl _ | (simp only [places_length, numbers_length, List.length_nil]; omega) | (rw [numbers_length]; have := wrap_cnt z.2.2.1; omega)
theorem F26k17.any (k : Nat) (m : Int) (hm : kindOf m = 17) (z : ZRest) (v : Int) (hv : v ≠ 0) : AnyC F26k17.E F26k17.fn k m 17 z v := by
 have st := F26k17.start_eq k m z v hm
 rw [show decide ((17 : Int) < shapesL.length) = true from rfl] at st
 have P : ∀ l n, 0 ≤ n → n ≤ 1000 → placesB l n v = true := fun l n a b => places_ok a b hv
 have N := numbers_ok
 by_cases h1 : (z.1.length : Int) < 1
 ·rw [decide_eq_true h1] at st
  simp (disch := omega) only [P, N, cond_true, cond_false, Bool.cond_self] at st
  refine ⟨(placesL z.1 1 v), [], [], [], [], (0 : Int), [], ⟨_, st, .two (by simp) (.agg (.cons ?_ (.cons ?_ (.cons ?_ (.cons ?_ (.cons ?_ (.cons ?_ (.cons ?_ (.cons ?_ .nil)))))))))⟩, ?_, ?_, ?_, ?_, ?_, ?_, ?_⟩
  all_goals first | exact .same _ | exact .nl _ | (simp only [places_length, numbers_length, List.length_nil]; omega) | (rw [numbers_length]; have := wrap_cnt z.2.2.1; omega)
 ·rw [decide_eq_false h1] at st
  by_cases h2 : (z.1.length : Int) > 4
  ·rw [decide_eq_true h2] at st
   simp (disch := omega) only [P, N, cond_true, cond_false, Bool.cond_self] at st
   refine ⟨(placesL z.1 4 v), [], [], [], [], (0 : Int), [], ⟨_, st, .two (by simp) (.agg (.cons ?_ (.cons ?_ (.cons ?_ (.cons ?_ (.cons ?_ (.cons ?_ (.cons ?_ (.cons ?_ .nil)))))))))⟩, ?_, ?_, ?_, ?_, ?_, ?_, ?_⟩
   all_goals first | exact .same _ | exact .nl _ | (simp only [places_length, numbers_length, List.length_nil]; omega) | (rw [numbers_length]; have := wrap_cnt z.2.2.1; omega)
  ·rw [decide_eq_false h2] at st
   simp (disch := omega) only [P, N, cond_true, cond_false, Bool.cond_self] at st
   refine ⟨(placesL z.1 (z.1.length : Int) v), [], [], [], [], (0 : Int), [], ⟨_, st, .two (by simp) (.agg (.cons ?_ (.cons ?_ (.cons ?_ (.cons ?_ (.cons ?_ (.cons ?_ (.cons ?_ (.cons ?_ .nil)))))))))⟩, ?_, ?_, ?_, ?_, ?_, ?_, ?_⟩
   all_goals first | exact .same _ | exact .nl _ | (simp only [places_length, numbers_length, List.length_nil]; omega) | (rw [numbers_length]; have := wrap_cnt z.2.2.1; omega)
theorem F26k19.any (k : Nat) (m : Int) (hm : kindOf m = 19) (z : ZRest) (v : Int) (hv : v ≠ 0) : AnyC F26k19.E F26k19.fn k m 19 z v := by
 have st := F26k19.start_eq k m z v hm
 rw [show decide ((19 : Int) < shapesL.length) = true from rfl] at st
 have P : ∀ l n, 0 ≤ n → n ≤ 1000 → placesB l n v = true := fun l n a b => places_ok a b hv
 have N := numbers_ok
 by_cases h1 : (z.1.length : Int) < 1
 ·rw [decide_eq_true h1] at st
  simp (disch := omega) only [P, N, cond_true, cond_false, Bool.cond_self] at st
  by_cases h3 : (IntKind.i64.wrap z.2.2.2.1).tmod 12 < 0
  ·rw [decide_eq_true h3] at st
   refine ⟨(placesL z.1 1 v), [], (numbersL z.2.2.1 0 1 0 4), (numbersL z.2.2.1 1 1 0 4), [], (IntKind.i64.wrap (0 - ((IntKind.i64.wrap z.2.2.2.1).tmod 12))), [], ⟨_, st, .two (by simp) (.agg (.cons ?_ (.cons ?_ (.cons ?_ (.cons ?_ (.cons ?_ (.cons ?_ (.cons ?_ (.cons ?_ .nil)))))))))⟩, ?_, ?_, ?_, ?_, ?_, ?_, ?_⟩
   all_goals first | exact .same _ | exact .nl _ | (simp only [places_length, numbers_length, List.length_nil]; omega) | (rw [numbers_length]; have := wrap_cnt z.2.2.1; omega)
  ·rw [decide_eq_false h3] at st
   refine ⟨(placesL z.1 1 v), [], (numbersL z.2.2.1 0 1 0 4), (numbersL z.2.2.1 1 1 0 4), [], ((IntKind.i64.wrap z.2.2.2.1).tmod 12), [], ⟨_, st, .two (by simp) (.agg (.cons ?_ (.cons ?_ (.cons ?_ (.cons ?_ (.cons ?_ (.cons ?_ (.cons ?_ (.cons ?_ .nil)))))))))⟩, ?_, ?_, ?_, ?_, ?_, ?_, ?_⟩
   all_goals first | exact .same _ | exact .nl _ | (simp only [places_length, numbers_length, List.length_nil]; omega) | (rw [numbers_length]; have := wrap_cnt z.2.2.1; omega)
 ·rw [decide_eq_false h1] at st
  by_cases h2 : (z.1.length : Int) > 4
  ·rw [decide_eq_true h2] at st
   simp (disch := omega) only [P, N, cond_true, cond_false, Bool.cond_self] at st
   by_cases h3 : (IntKind.i64.wrap z.2.2.2.1).tmod 12 < 0
   ·rw [decide_eq_true h3] at st
    refine ⟨(placesL z.1 4 v), [], (numbersL z.2.2.1 0 4 0 4), (numbersL z.2.2.1 4 4 0 4), [], (IntKind.i64.wrap (0 - ((IntKind.i64.wrap z.2.2.2.1).tmod 12))), [], ⟨_, st, .two (by simp) (.agg (.cons ?_ (.cons ?_ (.cons ?_ (.cons ?_ (.cons ?_ (.cons ?_ (.cons ?_ (.cons ?_ .nil)))))))))⟩, ?_, ?_, ?_, ?_, ?_, ?_, ?_⟩
    all_goals first | exact .same _ | exact .nl _ | (simp only [places_length, numbers_length, List.length_nil]; omega) | (rw [numbers_length]; have := wrap_cnt z.2.2.1; omega)
   ·rw [decide_eq_false h3] at st
    refine ⟨(placesL z.1 4 v), [], (numbersL z.2.2.1 0 4 0 4), (numbersL z.2.2.1 4 4 0 4), [], ((IntKind.i64.wrap z.2.2.2.1).tmod 12), [], ⟨_, st, .two (by simp) (.agg (.cons ?_ (.cons ?_ (.cons ?_ (.cons ?_ (.cons ?_ (.cons ?_ (.cons ?_ (.cons ?_ .nil)))))))))⟩, ?_, ?_, ?_, ?_, ?_, ?_, ?_⟩
    all_goals first | exact .same _ | exact .nl _ | (simp only [places_length, numbers_length, List.length_nil]; omega) | (rw [numbers_length]; have := wrap_cnt z.2.2.1; omega)
  ·rw [decide_eq_false h2] at st
   simp (disch := omega) only [P, N, cond_true, cond_false, Bool.cond_self] at st
   by_cases h3 : (IntKind.i64.wrap z.2.2.2.1).tmod 12 < 0
   ·rw [decide_eq_true h3] at st
    refine ⟨(placesL z.1 (z.1.length : Int) v), [], (numbersL z.2.2.1 0 (z.1.length : Int) 0 4), (numbersL z.2.2.1 (z.1.length : Int) (z.1.length : Int) 0 4), [], (IntKind.i64.wrap (0 - ((IntKind.i64.wrap z.2.2.2.1).tmod 12))), [], ⟨_, st, .two (by simp) (.agg (.cons ?_ (.cons ?_ (.cons ?_ (.cons ?_ (.cons ?_ (.cons ?_ (.cons ?_ (.cons ?_ .nil)))))))))⟩, ?_, ?_, ?_, ?_, ?_, ?_, ?_⟩
    all_goals first | exact .same _ | exact .nl _ | (simp only [places_length, numbers_length, List.length_nil]; omega) | (rw [numbers_length]; have := wrap_cnt z.2.2.1; omega)
   ·rw [decide_eq_false h3] at st
    refine ⟨(placesL z.1 (z.1.length : Int) v), [], (numbersL z.2.2.1 0 (z.1.length : Int) 0 4), (numbersL z.2.2.1 (z.1.length : Int) (z.1.length : Int) 0 4), [], ((IntKind.i64.wrap z.2.2.2.1).tmod 12), [], ⟨_, st, .two (by simp) (.agg (.cons ?_ (.cons ?_ (.cons ?_ (.cons ?_ (.cons ?_ (.cons ?_ (.cons ?_ (.cons ?_ .nil)))))))))⟩, ?_, ?_, ?_, ?_, ?_, ?_, ?_⟩
    all_goals first | exact .same _ | exact .nl _ | (simp only [places_length, numbers_length, List.length_nil]; omega) | (rw [numbers_length]; have := wrap_cnt z.2.2.1; omega)
theorem F26k20.any (k : Nat) (m : Int) (hm : kindOf m = 20) (z : ZRest) (v : Int) (hv : v ≠ 0) : AnyC F26k20.E F26k20.fn k m 20 z v := by
 have st := F26k20.start_eq k m z v hm
 rw [show decide ((20 : Int) < shapesL.length) = true from rfl] at st
 have P : ∀ l n, 0 ≤ n → n ≤ 1000 → placesB l n v = true := fun l n a b => places_ok a b hv
 have N := numbers_ok
 by_cases h1 : (z.1.length : Int) < 1
 ·rw [decide_eq_true h1] at st
  simp (disch := omega) only [P, N, cond_true, cond_false, Bool.cond_self] at st
  refine ⟨(placesL z.1 1 v), [], [], [], [], (0 : Int), [], ⟨_, st, .two (by simp) (.agg (.cons ?_ (.cons ?_ (.cons ?_ (.cons ?_ (.cons ?_ (.cons ?_ (.cons ?_ (.cons ?_ .nil)))))))))⟩, ?_, ?_, ?_, ?_, ?_, ?_, ?_⟩
  all_goals first | exact .same _ | exact .nl _ | (simp only [places_length, numbers_length, List.length_nil]; omega) | (rw [numbers_length]; have := wrap_cnt z.2.2.1; omega)
 ·rw [decide_eq_false h1] at st
  by_cases h2 : (z.1.length : Int) > 4
  ·rw [decide_eq_true h2] at st
   simp (disch := omega) only [P, N, cond_true, cond_false, Bool.cond_self] at st
   refine ⟨(placesL z.1 4 v), [], [], [], [], (0 : Int), [], ⟨_, st, .two (by simp) (.agg (.cons ?_ (.cons ?_ (.cons ?_ (.cons ?_ (.cons ?_ (.cons ?_ (.cons ?_ (.cons ?_ .nil)))))))))⟩, ?_, ?_, ?_, ?_, ?_, ?_, ?_⟩
   all_goals first | exact .same _ | exact .nl _ | (simp only [places_length, numbers_length, List.length_nil]; omega) | (rw [numbers_length]; have := wrap_cnt z.2.2.1; omega)
  ·rw [decide_eq_false h2] at st
   simp (disch := omega) only [P, N, cond_true, cond_false, Bool.cond_self] at st
   refine ⟨(placesL z.1 (z.1.length : Int) v), [], [], [], [], (0 : Int), [], ⟨_, st, .two (by simp) (.agg (.cons ?_ (.cons ?_ (.cons ?_ (.cons ?_ (.cons ?_ (.cons ?_ (.cons ?_ (.cons ?_ .nil)))))))))⟩, ?_, ?_, ?_, ?_, ?_, ?_, ?_⟩
   all_goals first | exact .same _ | exact .nl _ | (simp only [places_length, numbers_length, List.length_nil]; omega) | (rw [numbers_length]; have := wrap_cnt z.2.2.1; omega)
theorem F26k22.any (k : Nat) (m : Int) (hm : kindOf m = 22) (z : ZRest) (v : Int) (hv : v ≠ 0) : AnyC F26k22.E F26k22.fn k m 22 z v := by
 have st := F26k22.start_eq k m z v hm
 rw [show decide ((22 : Int) < shapesL.length) = true from rfl] at st
 have P : ∀ l n, 0 ≤ n → n ≤ 1000 → placesB l n v = true := fun l n a b => places_ok a b hv
 have N := numbers_ok
 by_cases h1 : (z.1.length : Int) < 1
 ·rw [decide_eq_true h1] at st
  simp (disch := omega) only [P, N, cond_true, cond_false, Bool.cond_self] at st
  refine ⟨(placesL z.1 1 v), (placesL z.2.1 1 v), [], [], [], (0 : Int), [], ⟨_, st, .two (by simp) (.agg (.cons ?_ (.cons ?_ (.cons ?_ (.cons ?_ (.cons ?_ (.cons ?_ (.cons ?_ (.cons ?_ .nil)))))))))⟩, ?_, ?_, ?_, ?_, ?_, ?_, ?_⟩
  all_goals first | exact .same _ | exact .nl _ | (simp only [places_length, numbers_length, List.length_nil]; omega) | (rw [numbers_length]; have := wrap_cnt z.2.2.1; omega)
 ·rw [decide_eq_false h1] at st
  by_cases h2 : (z.1.length : Int) > 4
  ·rw [decide_eq_true h2] at st
   simp (disch := omega) only [P, N, cond_true, cond_false, Bool.cond_self] at st
   refine ⟨(placesL z.1 4 v), (placesL z.2.1 4 v), [], [], [], (0 : Int), [], ⟨_, st, .two (by simp) (.agg (.cons ?_ (.cons ?_ (.cons ?_ (.cons ?_ (.cons ?_ (.cons ?_ (.cons ?_ (.cons ?_ .nil)))))))))⟩, ?_, ?_, ?_, ?_, ?_, ?_, ?_⟩
   all_goals first | exact .same _ | exact .nl _ | (simp only [places_length, numbers_length, List.length_nil]; omega) | (rw [numbers_length]; have := wrap_cnt z.2.2.1; omega)
  ·rw [decide_eq_false h2] at st
   simp (disch := omega) only [P, N, cond_true, cond_false, Bool.cond_self] at st
   refine ⟨(placesL z.1 (z.1.length : Int) v), (placesL z.2.1 (z.1.length : Int) v), [], [], [], (0 : Int), [], ⟨_, st, .two (by simp) (.agg (.cons ?_ (.cons ?_ (.cons ?_ (.cons ?_ (.cons ?_ (.cons ?_ (.cons ?_ (.cons ?_ .nil)))))))))⟩, ?_, ?_, ?_, ?_, ?_, ?_, ?_⟩
   all_goals first | exact .same _ | exact .nl _ | (simp only [places_length, numbers_length, List.length_nil]; omega) | (rw [numbers_length]; have := wrap_cnt z.2.2.1; omega)
theorem F26k23.any (k : Nat) (m : Int) (hm : kindOf m = 23) (z : ZRest) (v : Int) (hv : v ≠ 0) : AnyC F26k23.E F26k23.fn k m 23 z v := by
 have st := F26k23.start_eq k m z v hm
 rw [show decide ((23 : Int) < shapesL.length) = true from rfl] at st
 have P : ∀ l n, 0 ≤ n → n ≤ 1000 → placesB l n v = true := fun l n a b => places_ok a b hv
 have N := numbers_ok
 by_cases h1 : (z.1.length : Int) < 1
 ·rw [decide_eq_true h1] at st
  simp (disch := omega) only [P, N, cond_true, cond_false, Bool.cond_self] at st
  refine ⟨(placesL z.1 1 v), (placesL z.2.1 1 v), [], [], [], (0 : Int), [], ⟨_, st, .two (by simp) (.agg (.cons ?_ (.cons ?_ (.cons ?_ (.cons ?_ (.cons ?_ (.cons ?_ (.cons ?_ (.cons ?_ .nil)))))))))⟩, ?_, ?_, ?_, ?_, ?_, ?_, ?_⟩
  all_goals first | exact .same _ | exact .nl _ | (simp only [places_length, numbers_length, List.length_nil]; omega) | (rw [numbers_length]; have := wrap_cnt z.2.2.1; omega)
 ·rw [decide_eq_false h1] at st
  by_cases h2 : (z.1.length : Int) > 4
  ·rw [decide_eq_true h2] at st
   simp (disch := omega) only [P, N, cond_true, cond_false, Bool.cond_self] at st
   refine ⟨(placesL z.1 4 v), (placesL z.2.1 4 v), [], [], [], (0 : Int), [], ⟨_, st, .two (by simp) (.agg (.cons ?_ (.cons ?_ (.cons ?_ (.cons ?_ (.cons ?_ (.cons ?_ (.cons ?_ (.cons ?_ .nil)))))))))⟩, ?_, ?_, ?_, ?_, ?_, ?_, ?_⟩
   all_goals first | exact .same _ | exact .nl _ | (simp only [places_length, numbers_length, List.length_nil]; omega) | (rw [numbers_length]; have := wrap_cnt z.2.2.1; omega)
  ·rw [decide_eq_false h2] at st
   simp (disch := omega) only [P, N, cond_true, cond_false, Bool.cond_self] at st
   refine ⟨(placesL z.1 (z.1.length : Int) v), (placesL z.2.1 (z.1.length : Int) v), [], [], [], (0 : Int), [], ⟨_, st, .two (by simp) (.agg (.cons ?_ (.cons ?_ (.cons ?_ (.cons ?_ (.cons ?_ (.cons ?_ (.cons ?_ (.cons ?_ .nil)))))))))⟩, ?_, ?_, ?_, ?_, ?_, ?_, ?_⟩
   all_goals first | exact .same _ | exact .nl _ | (simp only [places_length, numbers_length, List.length_nil]; omega) | (rw [numbers_length]; have := wrap_cnt z.2.2.1; omega)
def rowsC (l : List Int) (n : Int) : List (List Int) := (List.range (1 + l.length % 6)).map fun (i : Nat) => numbersL l ((i : Int) * n) n (-1) 4
def con18 (z : ZRest) (v : Int) : Con := (18, placesL z.1 (nA z.1) v, [], [], [], [], 0, rowsC z.2.2.1 (nA z.1))
theorem cnt_eq (n k : Nat) (hk : 0 < k) (hk2 : k ≤ 100) : IntKind.i64.wrap (1 + ((n : Int)).tmod (k : Int)) = ((1 + n % k : Nat) : Int) := by
 rw [Int.tmod_eq_emod_of_nonneg (by omega)]
 have h1 := Nat.mod_lt n hk
 have e : (n : Int) % (k : Int) = ((n % k : Nat) : Int) := (Int.natCast_emod n k).symm
 rw [e, wrap_ok (by omega) (by omega)]
 omega
theorem F26k18.go (k : Nat) (hk : 10 ≤ k) (mz n : Int) (h0 : 1 ≤ n) (h1 : n ≤ 4) (l : List Int) (a2 a3 : List Int) (a4 a5 : Int) (A : List Int) :
  F26k18.l1_1_1_1_1_1_1_1_1_1_1_1_1_1_1_0_1_0_1_1_0 k (F26k18.kt k [1, 1, 1, 1, 1, 1, 1, 1, 1, 1, 1, 1, 1, 1, 1, 0, 1, 0, 1, 1, 0]) n (IntKind.i64.wrap (1 + ((l.length : Int).tmod 6))) 0 mz a2 a3 l a4 a5 0 0 18 A 0 [] =
  some (.agg [.v (.int .i64) (18 : Int), .v (.sl (.int .i64)) A, .nl, .nl, .nl, .nl, .v (.int .i64) (0 : Int), .v (.sl (.sl (.int .i64))) (rowsC l n)]) := by
 have hm := cnt_eq l.length 6 (by omega) (by omega)
 have hm' : IntKind.i64.wrap (1 + ((l.length : Int).tmod 6)) = ((1 + l.length % 6 : Nat) : Int) := hm
 rw [hm']
 have hlt := Nat.mod_lt l.length (show 0 < 6 by omega)
 generalize hM : 1 + l.length % 6 = m
 have hmm : m ≤ 6 := by omega
 refine (acc_loop (fun x i xs => F26k18.l1_1_1_1_1_1_1_1_1_1_1_1_1_1_1_0_1_0_1_1_0 x (F26k18.kt k [1, 1, 1, 1, 1, 1, 1, 1, 1, 1, 1, 1, 1, 1, 1, 0, 1, 0, 1, 1, 0]) n (m : Int) i mz a2 a3 l a4 a5 0 0 18 A 0 xs) (fun i => numbersL l (i * n) n (-1) 4) m
  (fun xs => some (.agg [.v (.int .i64) (18 : Int), .v (.sl (.int .i64)) A, .nl, .nl, .nl, .nl, .v (.int .i64) (0 : Int), .v (.sl (.sl (.int .i64))) xs])) (by omega) (fun x xs => ?_) (fun x i xs hi hx => ?_) k (by omega)).trans ?_
 ·exact (F26k18.l1_1_1_1_1_1_1_1_1_1_1_1_1_1_1_0_1_0_1_1_0_eq x _ n _ _ _ _ _ _ _ _ _ _ _ _ _ xs).trans (self_lt.trans (F26k18.c0 k _ _ _ _ _ xs))
 ·have hb0 : (0 : Int) ≤ (i : Int) * n := Int.mul_nonneg (by omega) (by omega)
  have hb1 : (i : Int) * n ≤ 6 * 4 := Int.mul_le_mul (by omega) h1 (by omega) (by omega)
  refine (F26k18.l1_1_1_1_1_1_1_1_1_1_1_1_1_1_1_0_1_0_1_1_0_eq x _ n _ _ _ _ _ _ _ _ _ _ _ _ _ xs).trans ?_
  rw [wrap_ok (x := (i : Int) * n) (by omega) (by omega)]
  exact bst3' (lt_nat hi) (numbers_ok _ _ _ _ _ hb0 (by omega) (by omega) (by omega) (by omega)) (decide_eq_true (lim24 (show xs.length + 1 ≤ 1000000000 by omega)))
 ·unfold rowsC
  rw [hM]
theorem F26k18.sem (k : Nat) (hk : 10 ≤ k) (m : Int) (hm : kindOf m = 18) (z : ZRest) (v : Int) (hv : v ≠ 0) : ∃ r, callW F26k18.E false F26k18.fn k [.agg (explode SmallT ((m : Int), z)), .v (.int .i64) v] = some r ∧ WA r (.agg (explode ConT (con18 z v))) := by
 have st := F26k18.start_eq k m z v hm
 rw [show decide ((18 : Int) < shapesL.length) = true from rfl] at st
 have P : ∀ l n, 0 ≤ n → n ≤ 1000 → placesB l n v = true := fun l n a b => places_ok a b hv
 have go := F26k18.go k hk m (nA z.1) (nA_range z.1).1 (nA_range z.1).2 z.2.2.1 z.1 z.2.1 z.2.2.2.1 z.2.2.2.2 (placesL z.1 (nA z.1) v)
 have fin : callW F26k18.E false F26k18.fn k [.agg (explode SmallT ((m : Int), z)), .v (.int .i64) v] = some (.agg [.v (.int .i64) (18 : Int), .v (.sl (.int .i64)) (placesL z.1 (nA z.1) v), .nl, .nl, .nl, .nl, .v (.int .i64) (0 : Int), .v (.sl (.sl (.int .i64))) (rowsC z.2.2.1 (nA z.1))]) := by
  by_cases h1 : (z.1.length : Int) < 1
  ·have e : nA z.1 = 1 := by unfold nA; rw [if_pos h1]
   rw [decide_eq_true h1] at st
   simp (disch := omega) only [P, cond_true, cond_false] at st
   rw [e] at go ⊢
   exact st.trans go
  ·rw [decide_eq_false h1] at st
   by_cases h2 : (z.1.length : Int) > 4
   ·have e : nA z.1 = 4 := by unfold nA; rw [if_neg h1, if_pos h2]
    rw [decide_eq_true h2] at st
    simp (disch := omega) only [P, cond_true, cond_false] at st
    rw [e] at go ⊢
    exact st.trans go
   ·have e : nA z.1 = z.1.length := by unfold nA; rw [if_neg h1, if_neg h2]
    rw [decide_eq_false h2] at st
    simp (disch := omega) only [P, cond_true, cond_false] at st
    rw [e] at go ⊢
    exact st.trans go
 refine ⟨_, fin, .two (by simp) (.agg ?_)⟩
 exact .cons (.same _) (.cons (.same _) (.cons (.nl _) (.cons (.nl _) (.cons (.nl _) (.cons (.nl _) (.cons (.same _) (.cons (.same _) .nil)))))))
def con1 (z : ZRest) (v : Int) : Con := (1, placesL z.1 (nA z.1) v, [], numbersL z.2.2.1 0 (nA z.1) (-1) 5, [], [], (IntKind.i64.wrap z.2.2.2.1).tmod 12, [])
theorem F26k1.sem (k : Nat) (m : Int) (hm : kindOf m = 1) (z : ZRest) (v : Int) (hv : v ≠ 0) : ∃ r, callW F26k1.E false F26k1.fn k [.agg (explode SmallT ((m : Int), z)), .v (.int .i64) v] = some r ∧ WA r (.agg (explode ConT (con1 z v))) := by
 have st := F26k1.start_eq k m z v hm
 rw [show decide ((1 : Int) < shapesL.length) = true from rfl] at st
 have P : ∀ l n, 0 ≤ n → n ≤ 1000 → placesB l n v = true := fun l n a b => places_ok a b hv
 have N := numbers_ok
 unfold con1
 by_cases h1 : (z.1.length : Int) < 1
 ·have e : nA z.1 = 1 := by unfold nA; rw [if_pos h1]
  rw [decide_eq_true h1] at st
  simp (disch := omega) only [P, N, cond_true, cond_false, Bool.cond_self] at st
  rw [e]
  exact ⟨_, st, .two (by simp) (.agg (.cons (.same _) (.cons (.same _) (.cons (.nl _) (.cons (.same _) (.cons (.nl _) (.cons (.nl _) (.cons (.same _) (.cons (.nl _) .nil)))))))))⟩
 ·rw [decide_eq_false h1] at st
  by_cases h2 : (z.1.length : Int) > 4
  ·have e : nA z.1 = 4 := by unfold nA; rw [if_neg h1, if_pos h2]
   rw [decide_eq_true h2] at st
   simp (disch := omega) only [P, N, cond_true, cond_false, Bool.cond_self] at st
   rw [e]
   exact ⟨_, st, .two (by simp) (.agg (.cons (.same _) (.cons (.same _) (.cons (.nl _) (.cons (.same _) (.cons (.nl _) (.cons (.nl _) (.cons (.same _) (.cons (.nl _) .nil)))))))))⟩
  ·have e : nA z.1 = z.1.length := by unfold nA; rw [if_neg h1, if_neg h2]
   rw [decide_eq_false h2] at st
   simp (disch := omega) only [P, N, cond_true, cond_false, Bool.cond_self] at st
   rw [e]
   exact ⟨_, st, .two (by simp) (.agg (.cons (.same _) (.cons (.same _) (.cons (.nl _) (.cons (.same _) (.cons (.nl _) (.cons (.nl _) (.cons (.same _) (.cons (.nl _) .nil)))))))))⟩
def con2 (z : ZRest) (v : Int) : Con := (2, placesL z.1 (nA z.1) v, [], numbersL z.2.2.1 0 (nA z.1) (-1) 5, [], [], (IntKind.i64.wrap z.2.2.2.1).tmod 12, [])
theorem F26k2.sem (k : Nat) (m : Int) (hm : kindOf m = 2) (z : ZRest) (v : Int) (hv : v ≠ 0) : ∃ r, callW F26k2.E false F26k2.fn k [.agg (explode SmallT ((m : Int), z)), .v (.int .i64) v] = some r ∧ WA r (.agg (explode ConT (con2 z v))) := by
 have st := F26k2.start_eq k m z v hm
 rw [show decide ((2 : Int) < shapesL.length) = true from rfl] at st
 have P : ∀ l n, 0 ≤ n → n ≤ 1000 → placesB l n v = true := fun l n a b => places_ok a b hv
 have N := numbers_ok
 unfold con2
 by_cases h1 : (z.1.length : Int) < 1
 ·have e : nA z.1 = 1 := by unfold nA; rw [if_pos h1]
  rw [decide_eq_true h1] at st
  simp (disch := omega) only [P, N, cond_true, cond_false, Bool.cond_self] at st
  rw [e]
  exact ⟨_, st, .two (by simp) (.agg (.cons (.same _) (.cons (.same _) (.cons (.nl _) (.cons (.same _) (.cons (.nl _) (.cons (.nl _) (.cons (.same _) (.cons (.nl _) .nil)))))))))⟩
 ·rw [decide_eq_false h1] at st
  by_cases h2 : (z.1.length : Int) > 4
  ·have e : nA z.1 = 4 := by unfold nA; rw [if_neg h1, if_pos h2]
   rw [decide_eq_true h2] at st
   simp (disch := omega) only [P, N, cond_true, cond_false, Bool.cond_self] at st
   rw [e]
   exact ⟨_, st, .two (by simp) (.agg (.cons (.same _) (.cons (.same _) (.cons (.nl _) (.cons (.same _) (.cons (.nl _) (.cons (.nl _) (.cons (.same _) (.cons (.nl _) .nil)))))))))⟩
  ·have e : nA z.1 = z.1.length := by unfold nA; rw [if_neg h1, if_neg h2]
   rw [decide_eq_false h2] at st
   simp (disch := omega) only [P, N, cond_true, cond_false, Bool.cond_self] at st
   rw [e]
   exact ⟨_, st, .two (by simp) (.agg (.cons (.same _) (.cons (.same _) (.cons (.nl _) (.cons (.same _) (.cons (.nl _) (.cons (.nl _) (.cons (.same _) (.cons (.nl _) .nil)))))))))⟩
def con3 (z : ZRest) (v : Int) : Con := (3, placesL z.1 (nA z.1) v, [], numbersL z.2.2.1 0 (nA z.1) (-1) 5, [], [], (IntKind.i64.wrap z.2.2.2.1).tmod 12, [])
theorem F26k3.sem (k : Nat) (m : Int) (hm : kindOf m = 3) (z : ZRest) (v : Int) (hv : v ≠ 0) : ∃ r, callW F26k3.E false F26k3.fn k [.agg (explode SmallT ((m : Int), z)), .v (.int .i64) v] = some r ∧ WA r (.agg (explode ConT (con3 z v))) := by
 have st := F26k3.start_eq k m z v hm
 rw [show decide ((3 : Int) < shapesL.length) = true from rfl] at st
 have P : ∀ l n, 0 ≤ n → n ≤ 1000 → placesB l n v = true := fun l n a b => places_ok a b hv
 have N := numbers_ok
 unfold con3
 by_cases h1 : (z.1.length : Int) < 1
 ·have e : nA z.1 = 1 := by unfold nA; rw [if_pos h1]
  rw [decide_eq_true h1] at st
  simp (disch := omega) only [P, N, cond_true, cond_false, Bool.cond_self] at st
  rw [e]
  exact ⟨_, st, .two (by simp) (.agg (.cons (.same _) (.cons (.same _) (.cons (.nl _) (.cons (.same _) (.cons (.nl _) (.cons (.nl _) (.cons (.same _) (.cons (.nl _) .nil)))))))))⟩
 ·rw [decide_eq_false h1] at st
  by_cases h2 : (z.1.length : Int) > 4
  ·have e : nA z.1 = 4 := by unfold nA; rw [if_neg h1, if_pos h2]
   rw [decide_eq_true h2] at st
   simp (disch := omega) only [P, N, cond_true, cond_false, Bool.cond_self] at st
   rw [e]
   exact ⟨_, st, .two (by simp) (.agg (.cons (.same _) (.cons (.same _) (.cons (.nl _) (.cons (.same _) (.cons (.nl _) (.cons (.nl _) (.cons (.same _) (.cons (.nl _) .nil)))))))))⟩
  ·have e : nA z.1 = z.1.length := by unfold nA; rw [if_neg h1, if_neg h2]
   rw [decide_eq_false h2] at st
   simp (disch := omega) only [P, N, cond_true, cond_false, Bool.cond_self] at st
   rw [e]
   exact ⟨_, st, .two (by simp) (.agg (.cons (.same _) (.cons (.same _) (.cons (.nl _) (.cons (.same _) (.cons (.nl _) (.cons (.nl _) (.cons (.same _) (.cons (.nl _) .nil)))))))))⟩
theorem F26k21.go (k : Nat) (hk : 10 ≤ k) (mz n : Int) (l : List Int) (a2 a3 : List Int) (a4 a5 : Int) (A : List Int) : ∃ C D G : List Int, (C.length ≤ 1000 ∧ D.length ≤ 1000 ∧ G.length ≤ 1000) ∧
  F26k21.l1_1_1_1_1_1_1_1_1_1_1_1_1_1_0_1_0_1_1_0_1_0 k (F26k21.kt k [1, 1, 1, 1, 1, 1, 1, 1, 1, 1, 1, 1, 1, 1, 0, 1, 0, 1, 1, 0, 1, 0]) n (IntKind.i64.wrap (1 + ((l.length : Int).tmod 3))) 0 mz a2 a3 l a4 a5 0 0 21 A 0 [] =
  some (.agg [.v (.int .i64) (21 : Int), .v (.sl (.int .i64)) A, .nl, .v (.sl (.int .i64)) C, .v (.sl (.int .i64)) D, .v (.sl (.int .i64)) G, .v (.int .i64) (0 : Int), .nl]) := by
 have hm := cnt_eq l.length 3 (by omega) (by omega)
 have hm' : IntKind.i64.wrap (1 + ((l.length : Int).tmod 3)) = ((1 + l.length % 3 : Nat) : Int) := hm
 rw [hm']
 have hlt := Nat.mod_lt l.length (show 0 < 3 by omega)
 generalize hM : 1 + l.length % 3 = m
 have hmm : m ≤ 3 := by omega
 have hD : (numbersL l 0 (m : Int) 0 2).length = m := by
  have := numbers_length l 0 (m : Int) 0 2
  omega
 refine ⟨(List.range m).map fun (i : Nat) => IntKind.i64.wrap (((IntKind.i64.wrap a4).tmod 3) + (i : Int)), numbersL l 0 (m : Int) 0 2, (List.range m).map fun (i : Nat) => IntKind.i64.wrap (((numbersL l 0 (m : Int) 0 2).getD (i : Int).toNat (0 : Int)) + ((shrW .i64 (IntKind.i64.wrap a5) (i : Int)).tmod 3)), ⟨by simp; omega, by omega, by simp; omega⟩, ?_⟩
 refine (acc_loop (fun x i xs => F26k21.l1_1_1_1_1_1_1_1_1_1_1_1_1_1_0_1_0_1_1_0_1_0 x (F26k21.kt k [1, 1, 1, 1, 1, 1, 1, 1, 1, 1, 1, 1, 1, 1, 0, 1, 0, 1, 1, 0, 1, 0]) n (m : Int) i mz a2 a3 l a4 a5 0 0 21 A 0 xs) (fun i => IntKind.i64.wrap (((IntKind.i64.wrap a4).tmod 3) + i)) m
  (fun xs => some (.agg [.v (.int .i64) (21 : Int), .v (.sl (.int .i64)) A, .nl, .v (.sl (.int .i64)) xs, .v (.sl (.int .i64)) (numbersL l 0 (m : Int) 0 2), .v (.sl (.int .i64)) ((List.range m).map fun (i : Nat) => IntKind.i64.wrap (((numbersL l 0 (m : Int) 0 2).getD (i : Int).toNat (0 : Int)) + ((shrW .i64 (IntKind.i64.wrap a5) (i : Int)).tmod 3))), .v (.int .i64) (0 : Int), .nl])) (by omega) (fun x xs => ?_) (fun x i xs hi hx => ?_) k (by omega))
 ·refine (F26k21.l1_1_1_1_1_1_1_1_1_1_1_1_1_1_0_1_0_1_1_0_1_0_eq x _ n _ _ _ _ _ _ _ _ _ _ _ _ _ xs).trans (self_lt.trans ((F26k21.c0 k _ _ _ _ _ _ _ _ _ _ _ _ _ xs).trans ?_))
  have hb := numbers_ok l 0 (m : Int) 0 2 (by omega) (by omega) (by omega) (by omega) (by omega)
  rw [hb, cond_true]
  refine acc_loop (fun x i ys => F26k21.l1_1_1_1_1_1_1_1_1_1_1_1_1_1_0_1_0_1_1_1_1_1_0 x (F26k21.kt k [1, 1, 1, 1, 1, 1, 1, 1, 1, 1, 1, 1, 1, 1, 0, 1, 0, 1, 1, 1, 1, 1, 0]) n (m : Int) i mz a2 a3 l a4 a5 0 0 21 A (numbersL l 0 (m : Int) 0 2) 0 xs ys) (fun i => IntKind.i64.wrap (((numbersL l 0 (m : Int) 0 2).getD i.toNat (0 : Int)) + ((shrW .i64 (IntKind.i64.wrap a5) i).tmod 3))) m
   (fun ys => some (.agg [.v (.int .i64) (21 : Int), .v (.sl (.int .i64)) A, .nl, .v (.sl (.int .i64)) xs, .v (.sl (.int .i64)) (numbersL l 0 (m : Int) 0 2), .v (.sl (.int .i64)) ys, .v (.int .i64) (0 : Int), .nl])) (by omega) (fun x ys => ?_) (fun x i ys hi hx => ?_) k (by omega)
  ·refine (F26k21.l1_1_1_1_1_1_1_1_1_1_1_1_1_1_0_1_0_1_1_1_1_1_0_eq x _ n _ _ _ _ _ _ _ _ _ _ _ _ _ _ xs ys).trans (self_lt.trans ((F26k21.c1 k _ _ _ _ _ _ _ _ _ _ _ _ _ xs ys).trans ?_))
   rfl
  ·refine (F26k21.l1_1_1_1_1_1_1_1_1_1_1_1_1_1_0_1_0_1_1_1_1_1_0_eq x _ n _ _ _ _ _ _ _ _ _ _ _ _ _ _ xs ys).trans ?_
   exact bst4' (lt_nat hi) (in_nat (by omega)) (decide_eq_true (by omega)) (lim8' (show ys.length ≤ 1000000 by omega))
 ·exact (F26k21.l1_1_1_1_1_1_1_1_1_1_1_1_1_1_0_1_0_1_1_0_1_0_eq x _ n _ _ _ _ _ _ _ _ _ _ _ _ _ xs).trans (bst2' (lt_nat hi) (lim8' (show xs.length ≤ 1000000 by omega)))
theorem F26k21.any (k : Nat) (hk : 10 ≤ k) (m : Int) (hm : kindOf m = 21) (z : ZRest) (v : Int) (hv : v ≠ 0) : AnyC F26k21.E F26k21.fn k m 21 z v := by
 have st := F26k21.start_eq k m z v hm
 rw [show decide ((21 : Int) < shapesL.length) = true from rfl] at st
 have P : ∀ l n, 0 ≤ n → n ≤ 1000 → placesB l n v = true := fun l n a b => places_ok a b hv
 have N := numbers_ok
 have fin : ∀ (n : Int), 1 ≤ n → n ≤ 4 → callW F26k21.E false F26k21.fn k [.agg (explode SmallT ((m : Int), z)), .v (.int .i64) v] = F26k21.l1_1_1_1_1_1_1_1_1_1_1_1_1_1_0_1_0_1_1_0_1_0 k (F26k21.kt k [1, 1, 1, 1, 1, 1, 1, 1, 1, 1, 1, 1, 1, 1, 0, 1, 0, 1, 1, 0, 1, 0]) n (IntKind.i64.wrap (1 + ((z.2.2.1.length : Int).tmod 3))) 0 m z.1 z.2.1 z.2.2.1 z.2.2.2.1 z.2.2.2.2 0 0 21 (placesL z.1 n v) 0 [] → AnyC F26k21.E F26k21.fn k m 21 z v := by
  intro n h0 h1 e
  obtain ⟨C, D, G, hcl, hg⟩ := F26k21.go k hk m n z.2.2.1 z.1 z.2.1 z.2.2.2.1 z.2.2.2.2 (placesL z.1 n v)
  refine ⟨placesL z.1 n v, [], C, D, G, 0, [], ⟨_, e.trans hg, .two (by simp) (.agg ?_)⟩, by rw [places_length]; omega, by rw [places_length]; omega, by simp, hcl.1, hcl.2.1, hcl.2.2, by simp⟩
  exact .cons (.same _) (.cons (.same _) (.cons (.nl _) (.cons (.same _) (.cons (.same _) (.cons (.same _) (.cons (.same _) (.cons (.nl _) .nil)))))))
 by_cases h1 : (z.1.length : Int) < 1
 ·rw [decide_eq_true h1] at st
  simp (disch := omega) only [P, N, cond_true, cond_false] at st
  exact fin 1 (by omega) (by omega) st
 ·rw [decide_eq_false h1] at st
  by_cases h2 : (z.1.length : Int) > 4
  ·rw [decide_eq_true h2] at st
   simp (disch := omega) only [P, N, cond_true, cond_false] at st
   exact fin 4 (by omega) (by omega) st
  ·rw [decide_eq_false h2] at st
   simp (disch := omega) only [P, N, cond_true, cond_false] at st
   exact fin _ (by omega) (by omega) st
end Go.Proofs.YtlfdikofmfhefaaGreatDoor.Ev
set_option linter.unusedVariables false
set_option linter.unusedSimpArgs false
set_option maxRecDepth 100000
namespace Go.Proofs.YtlfdikofmfhefaaGreatDoor.Ev
open Go Go.RowKit
theorem small_of {c : Con} (h1 : c.2.1.length ≤ 1000) (h2 : c.2.2.1.length ≤ 1000) (h3 : c.2.2.2.1.length ≤ 1000) (h4 : c.2.2.2.2.1.length ≤ 1000) (h5 : c.2.2.2.2.2.1.length ≤ 1000) (h6 : c.2.2.2.2.2.2.2.length ≤ 1000) : smallC c = true := by
 unfold smallC
 rw [Nat.ble_eq_true_of_le h1, Nat.ble_eq_true_of_le h2, Nat.ble_eq_true_of_le h3, Nat.ble_eq_true_of_le h4, Nat.ble_eq_true_of_le h5, Nat.ble_eq_true_of_le h6]
 rfl
def isK (m : Int) : Prop := m = 0 ∨ m = 1 ∨ m = 2
def conX (m : Int) (z : ZRest) (v : Int) : Con := if m = 0 then con1 z v else if m = 1 then con2 z v else if m = 2 then con3 z v else (0, [], [], [], [], [], 0, [])
def IsCon (z : Small) (v : Int) (c : Con) : Prop := CallSpec Go.Proofs.Tryz.prog inv 34 [.agg (explode SmallT z), .v (.int .i64) v] (.agg (explode ConT c)) ∧ c.1 = kindOf z.1 ∧ 1 ≤ c.2.1.length ∧ c.2.1.length ≤ 4 ∧ c.2.2.1.length ≤ 4 ∧ smallC c = true ∧ (isK (kindOf z.1 - 1) → c = conX (kindOf z.1 - 1) z.2 v)
theorem con_of {E : Env} {fn : Func} {K : Nat} {m k : Int} {z : ZRest} {v : Int} (h : AnyC E fn K m k z v) (hm : kindOf m = k) (h1 : ¬ isK (k - 1))
  (hs : ∀ r, callW E false fn K [.agg (explode SmallT ((m : Int), z)), .v (.int .i64) v] = some r → CallSpec Go.Proofs.Tryz.prog inv 34 [.agg (explode SmallT ((m : Int), z)), .v (.int .i64) v] r) : ∃ c, IsCon (m, z) v c := by
 obtain ⟨A, B, C, D, G, M, R, ⟨r, e, w⟩, a1, a2, a3, a4, a5, a6, a7⟩ := h
 exact ⟨(k, A, B, C, D, G, M, R), spec_weak w (hs r e), show k = kindOf m by rw [hm], a1, a2, a3, small_of (show A.length ≤ 1000 by omega) (show B.length ≤ 1000 by omega) a4 a5 a6 a7, fun h => absurd (show isK (k - 1) by rw [← hm]; exact h) h1⟩
theorem con_k1 (m : Int) (hm : kindOf m = 1) (z : ZRest) (v : Int) (hv : v ≠ 0) : ∃ c, IsCon (m, z) v c := by
 obtain ⟨r, h1, h2⟩ := F26k1.sem 1 m hm z v hv
 have hn := nA_range z.1
 exact ⟨con1 z v, spec_weak h2 (callW_ok (own := false) (k := 1) (eo (calls_cons ok52 (calls_cons ok53 (calls_cons ok54 (calls_cons ok55 calls_nil))))) mixed Go.Proofs.Tryz.func34 (by kernel_rfl) (show Go.Proofs.Tryz.f34.body = some (bodyOf Go.Proofs.Tryz.f34) by kernel_rfl) h1), hm.symm, by show 1 ≤ (placesL z.1 (nA z.1) v).length; rw [places_length]; omega, by show (placesL z.1 (nA z.1) v).length ≤ 4; rw [places_length]; omega, by show ([] : List Int).length ≤ 4; simp, small_of (by show (placesL z.1 (nA z.1) v).length ≤ 1000; rw [places_length]; omega) (by show ([] : List Int).length ≤ 1000; simp) (by first | (show (numbersL z.2.2.1 0 (nA z.1) (-1) 5).length ≤ 1000; rw [numbers_length]; omega) | (show ([] : List Int).length ≤ 1000; simp)) (by show ([] : List Int).length ≤ 1000; simp) (by show ([] : List Int).length ≤ 1000; simp) (by first | (show ([] : List (List Int)).length ≤ 1000; simp) | (show (rowsC z.2.2.1 (nA z.1)).length ≤ 1000; unfold rowsC; have := Nat.mod_lt z.2.2.1.length (show 0 < 6 by omega); simp; omega)), fun _ => by
  rw [show kindOf (((m : Int), z) : Small).1 - 1 = 0 by show kindOf m - 1 = 0; rw [hm]; rfl]
  rfl⟩
theorem con_k2 (m : Int) (hm : kindOf m = 2) (z : ZRest) (v : Int) (hv : v ≠ 0) : ∃ c, IsCon (m, z) v c := by
 obtain ⟨r, h1, h2⟩ := F26k2.sem 1 m hm z v hv
 have hn := nA_range z.1
 exact ⟨con2 z v, spec_weak h2 (callW_ok (own := false) (k := 1) (eo (calls_cons ok52 (calls_cons ok53 (calls_cons ok54 (calls_cons ok55 calls_nil))))) mixed Go.Proofs.Tryz.func34 (by kernel_rfl) (show Go.Proofs.Tryz.f34.body = some (bodyOf Go.Proofs.Tryz.f34) by kernel_rfl) h1), hm.symm, by show 1 ≤ (placesL z.1 (nA z.1) v).length; rw [places_length]; omega, by show (placesL z.1 (nA z.1) v).length ≤ 4; rw [places_length]; omega, by show ([] : List Int).length ≤ 4; simp, small_of (by show (placesL z.1 (nA z.1) v).length ≤ 1000; rw [places_length]; omega) (by show ([] : List Int).length ≤ 1000; simp) (by first | (show (numbersL z.2.2.1 0 (nA z.1) (-1) 5).length ≤ 1000; rw [numbers_length]; omega) | (show ([] : List Int).length ≤ 1000; simp)) (by show ([] : List Int).length ≤ 1000; simp) (by show ([] : List Int).length ≤ 1000; simp) (by first | (show ([] : List (List Int)).length ≤ 1000; simp) | (show (rowsC z.2.2.1 (nA z.1)).length ≤ 1000; unfold rowsC; have := Nat.mod_lt z.2.2.1.length (show 0 < 6 by omega); simp; omega)), fun _ => by
  rw [show kindOf (((m : Int), z) : Small).1 - 1 = 1 by show kindOf m - 1 = 1; rw [hm]; rfl]
  rfl⟩
theorem con_k3 (m : Int) (hm : kindOf m = 3) (z : ZRest) (v : Int) (hv : v ≠ 0) : ∃ c, IsCon (m, z) v c := by
 obtain ⟨r, h1, h2⟩ := F26k3.sem 1 m hm z v hv
 have hn := nA_range z.1
 exact ⟨con3 z v, spec_weak h2 (callW_ok (own := false) (k := 1) (eo (calls_cons ok52 (calls_cons ok53 (calls_cons ok54 (calls_cons ok55 calls_nil))))) mixed Go.Proofs.Tryz.func34 (by kernel_rfl) (show Go.Proofs.Tryz.f34.body = some (bodyOf Go.Proofs.Tryz.f34) by kernel_rfl) h1), hm.symm, by show 1 ≤ (placesL z.1 (nA z.1) v).length; rw [places_length]; omega, by show (placesL z.1 (nA z.1) v).length ≤ 4; rw [places_length]; omega, by show ([] : List Int).length ≤ 4; simp, small_of (by show (placesL z.1 (nA z.1) v).length ≤ 1000; rw [places_length]; omega) (by show ([] : List Int).length ≤ 1000; simp) (by first | (show (numbersL z.2.2.1 0 (nA z.1) (-1) 5).length ≤ 1000; rw [numbers_length]; omega) | (show ([] : List Int).length ≤ 1000; simp)) (by show ([] : List Int).length ≤ 1000; simp) (by show ([] : List Int).length ≤ 1000; simp) (by first | (show ([] : List (List Int)).length ≤ 1000; simp) | (show (rowsC z.2.2.1 (nA z.1)).length ≤ 1000; unfold rowsC; have := Nat.mod_lt z.2.2.1.length (show 0 < 6 by omega); simp; omega)), fun _ => by
  rw [show kindOf (((m : Int), z) : Small).1 - 1 = 2 by show kindOf m - 1 = 2; rw [hm]; rfl]
  rfl⟩
theorem con_k4 (m : Int) (hm : kindOf m = 4) (z : ZRest) (v : Int) (hv : v ≠ 0) : ∃ c, IsCon (m, z) v c := con_of (F26k4.any 1 m hm z v hv) hm (by unfold isK; omega) fun r h1 => callW_ok (own := false) (k := 1) (eo (calls_cons ok52 (calls_cons ok53 (calls_cons ok54 (calls_cons ok55 calls_nil))))) mixed Go.Proofs.Tryz.func34 (by kernel_rfl) (show Go.Proofs.Tryz.f34.body = some (bodyOf Go.Proofs.Tryz.f34) by kernel_rfl) h1
theorem con_k5 (m : Int) (hm : kindOf m = 5) (z : ZRest) (v : Int) (hv : v ≠ 0) : ∃ c, IsCon (m, z) v c := con_of (F26k5.any 1 m hm z v hv) hm (by unfold isK; omega) fun r h1 => callW_ok (own := false) (k := 1) (eo (calls_cons ok52 (calls_cons ok53 (calls_cons ok54 calls_nil)))) mixed Go.Proofs.Tryz.func34 (by kernel_rfl) (show Go.Proofs.Tryz.f34.body = some (bodyOf Go.Proofs.Tryz.f34) by kernel_rfl) h1
theorem con_k6 (m : Int) (hm : kindOf m = 6) (z : ZRest) (v : Int) (hv : v ≠ 0) : ∃ c, IsCon (m, z) v c := con_of (F26k6.any 1 m hm z v hv) hm (by unfold isK; omega) fun r h1 => callW_ok (own := false) (k := 1) (eo (calls_cons ok52 (calls_cons ok53 (calls_cons ok54 calls_nil)))) mixed Go.Proofs.Tryz.func34 (by kernel_rfl) (show Go.Proofs.Tryz.f34.body = some (bodyOf Go.Proofs.Tryz.f34) by kernel_rfl) h1
theorem con_k7 (m : Int) (hm : kindOf m = 7) (z : ZRest) (v : Int) (hv : v ≠ 0) : ∃ c, IsCon (m, z) v c := con_of (F26k7.any 1 m hm z v hv) hm (by unfold isK; omega) fun r h1 => callW_ok (own := false) (k := 1) (eo (calls_cons ok52 (calls_cons ok53 (calls_cons ok54 calls_nil)))) mixed Go.Proofs.Tryz.func34 (by kernel_rfl) (show Go.Proofs.Tryz.f34.body = some (bodyOf Go.Proofs.Tryz.f34) by kernel_rfl) h1
theorem con_k8 (m : Int) (hm : kindOf m = 8) (z : ZRest) (v : Int) (hv : v ≠ 0) : ∃ c, IsCon (m, z) v c := con_of (F26k8.any 1 m hm z v hv) hm (by unfold isK; omega) fun r h1 => callW_ok (own := false) (k := 1) (eo (calls_cons ok52 (calls_cons ok53 (calls_cons ok54 calls_nil)))) mixed Go.Proofs.Tryz.func34 (by kernel_rfl) (show Go.Proofs.Tryz.f34.body = some (bodyOf Go.Proofs.Tryz.f34) by kernel_rfl) h1
theorem con_k9 (m : Int) (hm : kindOf m = 9) (z : ZRest) (v : Int) (hv : v ≠ 0) : ∃ c, IsCon (m, z) v c := con_of (F26k9.any 1 m hm z v hv) hm (by unfold isK; omega) fun r h1 => callW_ok (own := false) (k := 1) (eo (calls_cons ok52 (calls_cons ok53 (calls_cons ok54 calls_nil)))) mixed Go.Proofs.Tryz.func34 (by kernel_rfl) (show Go.Proofs.Tryz.f34.body = some (bodyOf Go.Proofs.Tryz.f34) by kernel_rfl) h1
theorem con_k10 (m : Int) (hm : kindOf m = 10) (z : ZRest) (v : Int) (hv : v ≠ 0) : ∃ c, IsCon (m, z) v c := con_of (F26k10.any 1 m hm z v hv) hm (by unfold isK; omega) fun r h1 => callW_ok (own := false) (k := 1) (eo (calls_cons ok52 (calls_cons ok53 (calls_cons ok54 calls_nil)))) mixed Go.Proofs.Tryz.func34 (by kernel_rfl) (show Go.Proofs.Tryz.f34.body = some (bodyOf Go.Proofs.Tryz.f34) by kernel_rfl) h1
theorem con_k11 (m : Int) (hm : kindOf m = 11) (z : ZRest) (v : Int) (hv : v ≠ 0) : ∃ c, IsCon (m, z) v c := con_of (F26k11.any 1 m hm z v hv) hm (by unfold isK; omega) fun r h1 => callW_ok (own := false) (k := 1) (eo (calls_cons ok52 (calls_cons ok53 (calls_cons ok54 (calls_cons ok55 calls_nil))))) mixed Go.Proofs.Tryz.func34 (by kernel_rfl) (show Go.Proofs.Tryz.f34.body = some (bodyOf Go.Proofs.Tryz.f34) by kernel_rfl) h1
theorem con_k12 (m : Int) (hm : kindOf m = 12) (z : ZRest) (v : Int) (hv : v ≠ 0) : ∃ c, IsCon (m, z) v c := con_of (F26k12.any 1 m hm z v hv) hm (by unfold isK; omega) fun r h1 => callW_ok (own := false) (k := 1) (eo (calls_cons ok52 (calls_cons ok53 (calls_cons ok54 calls_nil)))) mixed Go.Proofs.Tryz.func34 (by kernel_rfl) (show Go.Proofs.Tryz.f34.body = some (bodyOf Go.Proofs.Tryz.f34) by kernel_rfl) h1
theorem con_k13 (m : Int) (hm : kindOf m = 13) (z : ZRest) (v : Int) (hv : v ≠ 0) : ∃ c, IsCon (m, z) v c := con_of (F26k13.any 1 m hm z v hv) hm (by unfold isK; omega) fun r h1 => callW_ok (own := false) (k := 1) (eo (calls_cons ok52 (calls_cons ok53 (calls_cons ok54 calls_nil)))) mixed Go.Proofs.Tryz.func34 (by kernel_rfl) (show Go.Proofs.Tryz.f34.body = some (bodyOf Go.Proofs.Tryz.f34) by kernel_rfl) h1
theorem con_k14 (m : Int) (hm : kindOf m = 14) (z : ZRest) (v : Int) (hv : v ≠ 0) : ∃ c, IsCon (m, z) v c := con_of (F26k14.any 1 m hm z v hv) hm (by unfold isK; omega) fun r h1 => callW_ok (own := false) (k := 1) (eo (calls_cons ok52 (calls_cons ok53 (calls_cons ok54 calls_nil)))) mixed Go.Proofs.Tryz.func34 (by kernel_rfl) (show Go.Proofs.Tryz.f34.body = some (bodyOf Go.Proofs.Tryz.f34) by kernel_rfl) h1
theorem con_k15 (m : Int) (hm : kindOf m = 15) (z : ZRest) (v : Int) (hv : v ≠ 0) : ∃ c, IsCon (m, z) v c := con_of (F26k15.any 1 m hm z v hv) hm (by unfold isK; omega) fun r h1 => callW_ok (own := false) (k := 1) (eo (calls_cons ok52 (calls_cons ok53 (calls_cons ok54 calls_nil)))) mixed Go.Proofs.Tryz.func34 (by kernel_rfl) (show Go.Proofs.Tryz.f34.body = some (bodyOf Go.Proofs.Tryz.f34) by kernel_rfl) h1
theorem con_k16 (m : Int) (hm : kindOf m = 16) (z : ZRest) (v : Int) (hv : v ≠ 0) : ∃ c, IsCon (m, z) v c := con_of (F26k16.any 1 m hm z v hv) hm (by unfold isK; omega) fun r h1 => callW_ok (own := false) (k := 1) (eo (calls_cons ok52 (calls_cons ok53 (calls_cons ok54 calls_nil)))) mixed Go.Proofs.Tryz.func34 (by kernel_rfl) (show Go.Proofs.Tryz.f34.body = some (bodyOf Go.Proofs.Tryz.f34) by kernel_rfl) h1
theorem con_k17 (m : Int) (hm : kindOf m = 17) (z : ZRest) (v : Int) (hv : v ≠ 0) : ∃ c, IsCon (m, z) v c := con_of (F26k17.any 1 m hm z v hv) hm (by unfold isK; omega) fun r h1 => callW_ok (own := false) (k := 1) (eo (calls_cons ok52 (calls_cons ok53 (calls_cons ok54 calls_nil)))) mixed Go.Proofs.Tryz.func34 (by kernel_rfl) (show Go.Proofs.Tryz.f34.body = some (bodyOf Go.Proofs.Tryz.f34) by kernel_rfl) h1
theorem con_k18 (m : Int) (hm : kindOf m = 18) (z : ZRest) (v : Int) (hv : v ≠ 0) : ∃ c, IsCon (m, z) v c := by
 obtain ⟨r, h1, h2⟩ := F26k18.sem 10 (Nat.le_refl _) m hm z v hv
 have hn := nA_range z.1
 exact ⟨con18 z v, spec_weak h2 (callW_ok (own := false) (k := 10) (eo (calls_cons ok52 (calls_cons ok53 (calls_cons ok54 (calls_cons ok55 calls_nil))))) mixed Go.Proofs.Tryz.func34 (by kernel_rfl) (show Go.Proofs.Tryz.f34.body = some (bodyOf Go.Proofs.Tryz.f34) by kernel_rfl) h1), hm.symm, by show 1 ≤ (placesL z.1 (nA z.1) v).length; rw [places_length]; omega, by show (placesL z.1 (nA z.1) v).length ≤ 4; rw [places_length]; omega, by show ([] : List Int).length ≤ 4; simp, small_of (by show (placesL z.1 (nA z.1) v).length ≤ 1000; rw [places_length]; omega) (by show ([] : List Int).length ≤ 1000; simp) (by first | (show (numbersL z.2.2.1 0 (nA z.1) (-1) 5).length ≤ 1000; rw [numbers_length]; omega) | (show ([] : List Int).length ≤ 1000; simp)) (by show ([] : List Int).length ≤ 1000; simp) (by show ([] : List Int).length ≤ 1000; simp) (by first | (show ([] : List (List Int)).length ≤ 1000; simp) | (show (rowsC z.2.2.1 (nA z.1)).length ≤ 1000; unfold rowsC; have := Nat.mod_lt z.2.2.1.length (show 0 < 6 by omega); simp; omega)), fun h => absurd (show isK 17 from by have h : isK (kindOf m - 1) := h; rw [hm] at h; exact h) (by unfold isK; omega)⟩
theorem con_k19 (m : Int) (hm : kindOf m = 19) (z : ZRest) (v : Int) (hv : v ≠ 0) : ∃ c, IsCon (m, z) v c := con_of (F26k19.any 1 m hm z v hv) hm (by unfold isK; omega) fun r h1 => callW_ok (own := false) (k := 1) (eo (calls_cons ok52 (calls_cons ok53 (calls_cons ok54 (calls_cons ok55 calls_nil))))) mixed Go.Proofs.Tryz.func34 (by kernel_rfl) (show Go.Proofs.Tryz.f34.body = some (bodyOf Go.Proofs.Tryz.f34) by kernel_rfl) h1
theorem con_k20 (m : Int) (hm : kindOf m = 20) (z : ZRest) (v : Int) (hv : v ≠ 0) : ∃ c, IsCon (m, z) v c := con_of (F26k20.any 1 m hm z v hv) hm (by unfold isK; omega) fun r h1 => callW_ok (own := false) (k := 1) (eo (calls_cons ok52 (calls_cons ok53 (calls_cons ok54 calls_nil)))) mixed Go.Proofs.Tryz.func34 (by kernel_rfl) (show Go.Proofs.Tryz.f34.body = some (bodyOf Go.Proofs.Tryz.f34) by kernel_rfl) h1
theorem con_k21 (m : Int) (hm : kindOf m = 21) (z : ZRest) (v : Int) (hv : v ≠ 0) : ∃ c, IsCon (m, z) v c := con_of (F26k21.any 10 (Nat.le_refl _) m hm z v hv) hm (by unfold isK; omega) fun r h1 => callW_ok (own := false) (k := 10) (eo (calls_cons ok52 (calls_cons ok53 (calls_cons ok54 (calls_cons ok55 calls_nil))))) mixed Go.Proofs.Tryz.func34 (by kernel_rfl) (show Go.Proofs.Tryz.f34.body = some (bodyOf Go.Proofs.Tryz.f34) by kernel_rfl) h1
theorem con_k22 (m : Int) (hm : kindOf m = 22) (z : ZRest) (v : Int) (hv : v ≠ 0) : ∃ c, IsCon (m, z) v c := con_of (F26k22.any 1 m hm z v hv) hm (by unfold isK; omega) fun r h1 => callW_ok (own := false) (k := 1) (eo (calls_cons ok52 (calls_cons ok53 (calls_cons ok54 calls_nil)))) mixed Go.Proofs.Tryz.func34 (by kernel_rfl) (show Go.Proofs.Tryz.f34.body = some (bodyOf Go.Proofs.Tryz.f34) by kernel_rfl) h1
theorem con_k23 (m : Int) (hm : kindOf m = 23) (z : ZRest) (v : Int) (hv : v ≠ 0) : ∃ c, IsCon (m, z) v c := con_of (F26k23.any 1 m hm z v hv) hm (by unfold isK; omega) fun r h1 => callW_ok (own := false) (k := 1) (eo (calls_cons ok52 (calls_cons ok53 (calls_cons ok54 calls_nil)))) mixed Go.Proofs.Tryz.func34 (by kernel_rfl) (show Go.Proofs.Tryz.f34.body = some (bodyOf Go.Proofs.Tryz.f34) by kernel_rfl) h1
theorem kindOf_eq {m : Int} (h0 : 0 ≤ m) (h1 : m ≤ 255) : kindOf m = 1 + m % 23 := by
 unfold kindOf
 rw [wrap_ok (x := m) (by omega) (by omega), Int.tmod_eq_emod_of_nonneg h0]
 exact wrap_ok (by omega) (by omega)
theorem con_any (z : Small) (v : Int) (h0 : 0 ≤ z.1) (h1 : z.1 ≤ 255) (hv : v ≠ 0) : ∃ c, IsCon z v c := by
 obtain ⟨m, z⟩ := z
 have hk : kindOf m = 1 + m % 23 := kindOf_eq h0 h1
 have hm : kindOf m = 1 ∨ kindOf m = 2 ∨ kindOf m = 3 ∨ kindOf m = 4 ∨ kindOf m = 5 ∨ kindOf m = 6 ∨ kindOf m = 7 ∨ kindOf m = 8 ∨ kindOf m = 9 ∨ kindOf m = 10 ∨ kindOf m = 11 ∨ kindOf m = 12 ∨ kindOf m = 13 ∨ kindOf m = 14 ∨ kindOf m = 15 ∨ kindOf m = 16 ∨ kindOf m = 17 ∨ kindOf m = 18 ∨ kindOf m = 19 ∨ kindOf m = 20 ∨ kindOf m = 21 ∨ kindOf m = 22 ∨ kindOf m = 23 := by
  have := Int.emod_nonneg m (show (23 : Int) ≠ 0 by decide)
  have := Int.emod_lt_of_pos m (show (0 : Int) < 23 by decide)
  omega
 rcases hm with hm | hm | hm | hm | hm | hm | hm | hm | hm | hm | hm | hm | hm | hm | hm | hm | hm | hm | hm | hm | hm | hm | hm
 ·exact con_k1 m hm z v hv
 ·exact con_k2 m hm z v hv
 ·exact con_k3 m hm z v hv
 ·exact con_k4 m hm z v hv
 ·exact con_k5 m hm z v hv
 ·exact con_k6 m hm z v hv
 ·exact con_k7 m hm z v hv
 ·exact con_k8 m hm z v hv
 ·exact con_k9 m hm z v hv
 ·exact con_k10 m hm z v hv
 ·exact con_k11 m hm z v hv
 ·exact con_k12 m hm z v hv
 ·exact con_k13 m hm z v hv
 ·exact con_k14 m hm z v hv
 ·exact con_k15 m hm z v hv
 ·exact con_k16 m hm z v hv
 ·exact con_k17 m hm z v hv
 ·exact con_k18 m hm z v hv
 ·exact con_k19 m hm z v hv
 ·exact con_k20 m hm z v hv
 ·exact con_k21 m hm z v hv
 ·exact con_k22 m hm z v hv
 ·exact con_k23 m hm z v hv
def conAB (z : Small) (v : Int) : Bool := decide (0 ≤ z.1) && decide (z.1 ≤ 255) && decide (v ≠ 0)
theorem conA_ex (z : Small) (v : Int) : ∃ c, conAB z v = true → IsCon z v c := by
 by_cases h : conAB z v = true
 ·have h' := h
  unfold conAB at h'
  simp only [Bool.and_eq_true, decide_eq_true_eq] at h'
  obtain ⟨c, hc⟩ := con_any z v h'.1.1 h'.1.2 h'.2
  exact ⟨c, fun _ => hc⟩
 ·exact ⟨(0, [], [], [], [], [], 0, []), fun h' => absurd h' h⟩
noncomputable def conA (z : Small) (v : Int) : Con := Classical.choose (conA_ex z v)
theorem conA_spec {z : Small} {v : Int} (h : conAB z v = true) : IsCon z v (conA z v) := Classical.choose_spec (conA_ex z v) h
noncomputable def h_conA : Hand := handN [SmallT, .int .i64] fun xs κ => bif conAB xs.1 xs.2.1 then κ (argA ConT (conA xs.1 xs.2.1)) else none
theorem ok26A : HandOk Go.Proofs.Tryz.prog inv 34 h_conA := hand_if fun xs hc => (conA_spec hc).1
end Go.Proofs.YtlfdikofmfhefaaGreatDoor.Ev
