/-
Seat 'a': a constraint of two variables and its filter: the plain laws, once for Element and for what is reified.
Conditions: what is made of plain data.
Seat 'a': the laws Keeps and Fixed of Element and of what is reified: what their functions answer.
Conditions: numbers are of 8 bits.
Seat 'a': the contracts of the laws Keeps, Fixed of Element; of Filters, Keeps, Fixed of what is reified.
Conditions: the table of math/bits is laid.
-/
import Derived.Test.YtohdaehblenokaaAz
import Derived.Test.YtohdaehblenokaaBd
set_option linter.unusedVariables false
set_option linter.unusedSimpArgs false
set_option maxRecDepth 100000
namespace Go.Proofs.Ytohdaehblenokaa.Ev
open Go
section
variable {c : Con} {lo hi : Int} {F : Con → List Dom → List Dom × Bool} {R : Int → Int → Prop}
end
end Go.Proofs.Ytohdaehblenokaa.Ev
set_option linter.unusedVariables false
set_option linter.unusedSimpArgs false
set_option maxRecDepth 100000
namespace Go.Proofs.Ytohdaehblenokaa.Ev
open Go
theorem self_lt {α : Type} {a : Int} {x y : α} : (bif decide (a < a) then x else y) = y := by
 have : decide (a < a) = false := decide_eq_false (by omega)
 rw [this]
 rfl
theorem lt_nat {i n : Nat} (h : i < n) : decide ((i : Int) < (n : Int)) = true := decide_eq_true (by omega)
theorem in_nat {i n : Nat} (h : i < n) : (decide (0 ≤ (i : Int)) && decide ((i : Int) < (n : Int))) = true := by
 rw [decide_eq_true (show (0 : Int) ≤ (i : Int) by omega), decide_eq_true (show (i : Int) < (n : Int) by omega)]
 rfl
theorem contains_mem (xs : List Int) (v : Int) : containsL xs v = decide (v ∈ xs) := by
 unfold containsL indexL
 rw [idx_any _ _ _ (by omega), Bool.eq_iff_iff, List.any_eq_true, decide_eq_true_iff]
 constructor
 ·rintro ⟨x, hx, e⟩
  have : v = x := of_decide_eq_true e
  rwa [this]
 ·intro h
  exact ⟨v, h, decide_eq_true rfl⟩
theorem getD_mem {α : Type} {l : List α} {i : Nat} (h : i < l.length) (d : α) : l.getD i d ∈ l := by
 rw [List.getD_eq_getElem?_getD, List.getElem?_eq_getElem h]
 exact List.getElem_mem _
def I8s (l : List Int) : Prop := ∀ x ∈ l, -128 ≤ x ∧ x ≤ 127
end Go.Proofs.Ytohdaehblenokaa.Ev
set_option linter.unusedVariables false
set_option linter.unusedSimpArgs false
set_option maxRecDepth 100000
namespace Go.Proofs.Ytohdaehblenokaa.Ev
open Go Go.RowKit
theorem F65.eok : EOk Go.Proofs.Try.prog F65.E := eo calls_nil
theorem ok65 : HandOk Go.Proofs.Try.prog inv 66 h_indexL := hand_un fun xs => spec_fits fun hx => callW_ok (own := false) (k := xs.1.length + 1) F65.eok mixed Go.Proofs.Try.func66 (by kernel_rfl) (show Go.Proofs.Try.f66.body = some (bodyOf Go.Proofs.Try.f66) by kernel_rfl) (F65.sem xs.1 xs.2.1 (hx (.v (.sl (.int .i64)) xs.1) (by simp [argsN, argA])).1)
theorem F30.eok : EOk Go.Proofs.Try.prog F30.E := eo (calls_cons ok65 calls_nil)
theorem ok30 : HandOk Go.Proofs.Try.prog inv 52 h_containsL := hand_un fun xs => callW_ok (own := false) (k := 1) F30.eok mixed Go.Proofs.Try.func52 (by kernel_rfl) (show Go.Proofs.Try.f52.body = some (bodyOf Go.Proofs.Try.f52) by kernel_rfl) (F30.sem 1 xs.1 xs.2.1)
end Go.Proofs.Ytohdaehblenokaa.Ev
