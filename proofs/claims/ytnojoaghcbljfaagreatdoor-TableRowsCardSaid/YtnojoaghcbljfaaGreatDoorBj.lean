/-
Seat 'a': the contracts of the laws Keeps, Fixed of Element; of Filters, Keeps, Fixed of what is reified.
Conditions: the table of math/bits is laid.
-/
import Derived.Test.YtnojoaghcbljfaaGreatDoorBd
import Derived.Test.YtnojoaghcbljfaaGreatDoorBi
set_option linter.unusedVariables false
set_option linter.unusedSimpArgs false
set_option maxRecDepth 100000
namespace Go.Proofs.YtnojoaghcbljfaaGreatDoor.Ev
open Go Go.RowKit
theorem F65.eok : EOk Go.Proofs.Tryz.prog F65.E := eo calls_nil
theorem ok65 : HandOk Go.Proofs.Tryz.prog inv 47 h_indexL := hand_un fun xs => spec_fits fun hx => callW_ok (own := false) (k := xs.1.length + 1) F65.eok mixed Go.Proofs.Tryz.func47 (by kernel_rfl) (show Go.Proofs.Tryz.f47.body = some (bodyOf Go.Proofs.Tryz.f47) by kernel_rfl) (F65.sem xs.1 xs.2.1 (hx (.v (.sl (.int .i64)) xs.1) (by simp [argsN, argA])).1)
theorem F30.eok : EOk Go.Proofs.Tryz.prog F30.E := eo (calls_cons ok65 calls_nil)
theorem ok30 : HandOk Go.Proofs.Tryz.prog inv 15 h_containsL := hand_un fun xs => callW_ok (own := false) (k := 1) F30.eok mixed Go.Proofs.Tryz.func15 (by kernel_rfl) (show Go.Proofs.Tryz.f15.body = some (bodyOf Go.Proofs.Tryz.f15) by kernel_rfl) (F30.sem 1 xs.1 xs.2.1)
end Go.Proofs.YtnojoaghcbljfaaGreatDoor.Ev
