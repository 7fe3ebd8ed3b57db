/-
ModelMany: what the law's function answers.
Conditions: both numbers fit 16 bits.
-/
import Derived.Test.YtlfdikofmfhefaaGreatDoorIf
import Derived.Test.YtlfdikofmfhefaaGreatDoorIc
set_option linter.unusedVariables false
set_option linter.unusedSimpArgs false
set_option maxRecDepth 100000
namespace Go.Proofs.YtlfdikofmfhefaaGreatDoor.Ev
open Go Go.RowKit
noncomputable def E613 : Env := ⟨tt, [], [], [], none, inv, []⟩
theorem ok613C : HandOk Go.Proofs.Tryz.prog inv 68 (callH E613 false Go.Proofs.Tryz.f68 100) := hand_callH (eo calls_nil) mixed Go.Proofs.Tryz.func68 (by kernel_rfl) (show Go.Proofs.Tryz.f68.body = some (bodyOf Go.Proofs.Tryz.f68) by kernel_rfl)
noncomputable def E612 : Env := ⟨tt, [(68, callH E613 false Go.Proofs.Tryz.f68 100)], [], [], none, inv, []⟩
theorem ok612C : HandOk Go.Proofs.Tryz.prog inv 67 (callH E612 false Go.Proofs.Tryz.f67 100) := hand_callH (eo (calls_cons ok613C calls_nil)) mixed Go.Proofs.Tryz.func67 (by kernel_rfl) (show Go.Proofs.Tryz.f67.body = some (bodyOf Go.Proofs.Tryz.f67) by kernel_rfl)
noncomputable def E554 : Env := ⟨tt, [(66, h_forms), (67, callH E612 false Go.Proofs.Tryz.f67 100)], [], [], none, inv, []⟩
theorem ok554C : HandOk Go.Proofs.Tryz.prog inv 30 (callH E554 false Go.Proofs.Tryz.f30 100) := hand_callH (eo (calls_cons ok104 (calls_cons ok612C calls_nil))) mixed Go.Proofs.Tryz.func30 (by kernel_rfl) (show Go.Proofs.Tryz.f30.body = some (bodyOf Go.Proofs.Tryz.f30) by kernel_rfl)
noncomputable def E514 : Env := ⟨tt, [(23, h_rightG), (29, h_word), (30, callH E554 false Go.Proofs.Tryz.f30 100), (31, h_shapeS)], [], [], none, inv, []⟩
theorem w514 : callW E514 false Go.Proofs.Tryz.f9 100 [] = some (.v .bool true) := by kernel_rfl
theorem ok514 : HandOk Go.Proofs.Tryz.prog inv 9 h_wakes514 := hand_un fun xs => callW_ok (own := false) (k := 100) (eo (calls_cons ok76 (calls_cons ok103 (calls_cons ok554C (calls_cons ok91 calls_nil))))) mixed Go.Proofs.Tryz.func9 (by kernel_rfl) (show Go.Proofs.Tryz.f9.body = some (bodyOf Go.Proofs.Tryz.f9) by kernel_rfl) w514
end Go.Proofs.YtlfdikofmfhefaaGreatDoor.Ev
