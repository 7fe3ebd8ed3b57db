/-
Seat 'a': a constraint of two variables and its filter: the plain laws, once for Element and for what is reified.
Conditions: what is made of plain data.
Seat 'a': the laws Keeps and Fixed of Element and of what is reified: what their functions answer.
Conditions: numbers are of 8 bits.
Seat 'a': the contracts of the laws Keeps, Fixed of Element; of Filters, Keeps, Fixed of what is reified.
Conditions: the table of math/bits is laid.
-/
import Derived.Test.YtdihbphkbdelbaaGreatDoorAz
import Derived.Test.YtdihbphkbdelbaaGreatDoorBd
set_option linter.unusedVariables false
set_option linter.unusedSimpArgs false
set_option maxRecDepth 100000
namespace Go.Proofs.YtdihbphkbdelbaaGreatDoor.Ev
open Go
section
variable {c : Con} {lo hi : Int} {F : Con → List Dom → List Dom × Bool} {R : Int → Int → Prop}
end
end Go.Proofs.YtdihbphkbdelbaaGreatDoor.Ev
set_option linter.unusedVariables false
set_option linter.unusedSimpArgs false
set_option maxRecDepth 100000
namespace Go.Proofs.YtdihbphkbdelbaaGreatDoor.Ev
open Go
theorem bst2 {α : Type} {c1 c2 : Bool} {u w z : α} (h1 : c1 = true) (h2 : c2 = true) : (bif c1 then bif c2 then u else w else z) = u := by subst h1; subst h2; rfl
theorem bst3 {α : Type} {c1 c2 c3 : Bool} {u v w z : α} (h1 : c1 = true) (h2 : c2 = true) (h3 : c3 = true) : (bif c1 then bif c2 then bif !c3 then u else v else w else z) = v := by subst h1; subst h2; subst h3; rfl
theorem bst5' {α : Type} {c1 c2 c3 c4 c5 : Bool} {u v w w2 z y : α} (h1 : c1 = true) (h2 : c2 = true) (h3 : c3 = true) (h4 : c4 = true) (h5 : c5 = true) : (bif c1 then bif c2 then bif c3 then bif c4 then bif !c5 then y else u else v else w2 else w else z) = u := by subst h1; subst h2; subst h3; subst h4; subst h5; rfl
theorem self_lt {α : Type} {a : Int} {x y : α} : (bif decide (a < a) then x else y) = y := by
 have : decide (a < a) = false := decide_eq_false (by omega)
 rw [this]
 rfl
theorem lt_nat {i n : Nat} (h : i < n) : decide ((i : Int) < (n : Int)) = true := decide_eq_true (by omega)
theorem in_nat {i n : Nat} (h : i < n) : (decide (0 ≤ (i : Int)) && decide ((i : Int) < (n : Int))) = true := by
 rw [decide_eq_true (show (0 : Int) ≤ (i : Int) by omega), decide_eq_true (show (i : Int) < (n : Int) by omega)]
 rfl
theorem pass_loop (L : Nat → Int → Option AV) (len m : Nat) (X : Option AV) (hl : len ≤ 1000000000) (hend : ∀ n, L (n + 1) (len : Int) = X)
  (hstep : ∀ (n i : Nat), m ≤ n → i < len → L (n + 1) (i : Int) = L n (IntKind.i64.wrap ((i : Int) + 1))) (n : Nat) (hn : m + len < n) : L n 0 = X := by
 have key : ∀ (d i n : Nat), i + d = len → m + d < n → L n (i : Int) = X := by
  intro d
  induction d with
  | zero =>
   intro i n h1 h2
   obtain ⟨n', rfl⟩ : ∃ n', n = n' + 1 := ⟨n - 1, by omega⟩
   obtain rfl : i = len := by omega
   exact hend n'
  | succ d ih =>
   intro i n h1 h2
   obtain ⟨n', rfl⟩ : ∃ n', n = n' + 1 := ⟨n - 1, by omega⟩
   rw [hstep n' i (by omega) (by omega), wrap_ok (by omega) (by omega)]
   have : (i : Int) + 1 = ((i + 1 : Nat) : Int) := by omega
   rw [this]
   exact ih (i + 1) n' (by omega) (by omega)
 exact key len 0 n (by omega) (by omega)
theorem contains_mem (xs : List Int) (v : Int) : containsL xs v = decide (v ∈ xs) := by
 unfold containsL indexL
 rw [idx_any _ _ _ (by omega), Bool.eq_iff_iff, List.any_eq_true, decide_eq_true_iff]
 constructor
 ·rintro ⟨x, hx, e⟩
  have : v = x := of_decide_eq_true e
  rwa [this]
 ·intro h
  exact ⟨v, h, decide_eq_true rfl⟩
theorem getD_mem {α : Type} {l : List α} {i : Nat} (h : i < l.length) (d : α) : l.getD i d ∈ l := by
 rw [List.getD_eq_getElem?_getD, List.getElem?_eq_getElem h]
 exact List.getElem_mem _
theorem rising_len : ∀ (l : List Int) (m M : Int), m ≤ M + 1 → Rising l → (∀ x ∈ l, m ≤ x ∧ x ≤ M) → (l.length : Int) ≤ M - m + 1
 | [], m, M, h, _, _ => by simp only [List.length_nil]; omega
 | x :: xs, m, M, h, hr, hx => by
  have h0 := hx x (by simp)
  obtain ⟨h1, h2⟩ := List.pairwise_cons.mp hr
  have := rising_len xs (x + 1) M (by omega) h2 fun y hy => by
   have g1 := h1 y hy
   have g2 := hx y (List.mem_cons_of_mem _ hy)
   omega
  simp only [List.length_cons]
  omega
def I8s (l : List Int) : Prop := ∀ x ∈ l, -128 ≤ x ∧ x ≤ 127
theorem one_ok {x : Int} (h : -1000 ≤ x ∧ x ≤ 1000) : okL [x] = true := okL_small (by simp) fun v hv => by
 obtain rfl := List.mem_singleton.mp hv
 exact h
theorem bfix {α : Type} {c1 c2 c3 c4 c5 c6 c7 : Bool} {v u w1 w2 w3 w4 w5 w6 : α} (h1 : c1 = true) (h2 : c2 = true) (h3 : c3 = true) (h4 : c4 = true) (h5 : c5 = true → c6 = true ∧ c7 = true ∧ u = v) :
  (bif c1 then bif c2 then bif c3 then bif c4 then bif !c5 then v else bif c6 then bif c7 then u else w6 else w5 else w4 else w3 else w2 else w1) = v := by
 subst h1; subst h2; subst h3; subst h4
 cases c5 with
 | false => rfl
 | true =>
  obtain ⟨rfl, rfl, rfl⟩ := h5 rfl
  rfl
end Go.Proofs.YtdihbphkbdelbaaGreatDoor.Ev
set_option linter.unusedVariables false
set_option linter.unusedSimpArgs false
set_option maxRecDepth 100000
namespace Go.Proofs.YtdihbphkbdelbaaGreatDoor.Ev
open Go Go.RowKit
theorem F65.eok : EOk Go.Proofs.Tryz.prog F65.E := eo calls_nil
theorem ok65 : HandOk Go.Proofs.Tryz.prog inv 90 h_indexL := hand_un fun xs => spec_fits fun hx => callW_ok (own := false) (k := xs.1.length + 1) F65.eok mixed Go.Proofs.Tryz.func90 (by kernel_rfl) (show Go.Proofs.Tryz.f90.body = some (bodyOf Go.Proofs.Tryz.f90) by kernel_rfl) (F65.sem xs.1 xs.2.1 (hx (.v (.sl (.int .i64)) xs.1) (by simp [argsN, argA])).1)
theorem F30.eok : EOk Go.Proofs.Tryz.prog F30.E := eo (calls_cons ok65 calls_nil)
theorem ok30 : HandOk Go.Proofs.Tryz.prog inv 42 h_containsL := hand_un fun xs => callW_ok (own := false) (k := 1) F30.eok mixed Go.Proofs.Tryz.func42 (by kernel_rfl) (show Go.Proofs.Tryz.f42.body = some (bodyOf Go.Proofs.Tryz.f42) by kernel_rfl) (F30.sem 1 xs.1 xs.2.1)
end Go.Proofs.YtdihbphkbdelbaaGreatDoor.Ev
