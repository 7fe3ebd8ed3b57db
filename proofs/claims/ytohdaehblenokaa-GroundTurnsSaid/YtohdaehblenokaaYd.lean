/-
Sorting, and leaving out what is there twice: data and handlers.
Conditions: none.
-/
import Derived.Test.YtohdaehblenokaaAa
set_option linter.unusedVariables false
namespace Go.Proofs.Ytohdaehblenokaa.Ev
open Go
def h_compF (args : List AV) (e : Nat) : (t : Ty) → List t.D → (Option AV → List t.D → Option AV) → Option AV
 | .int .i64, xs, κ => (match args with
  | [.un] => bif Nat.beq e 3 && (!(List.isEmpty xs) && Nat.ble (List.length xs) 1000) then κ none (compL xs) else none
  | _ => none)
 | _, _, _ => none
def h_comp : MHand := (0, h_compF)
end Go.Proofs.Ytohdaehblenokaa.Ev
