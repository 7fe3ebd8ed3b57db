/-
Seat 'a': the contracts of the laws Keeps, Fixed of Element; of Filters, Keeps, Fixed of what is reified.
Conditions: the table of math/bits is laid.
-/
import Derived.Test.YthdpbmcidebagaaGreatDoorBd
import Derived.Test.YthdpbmcidebagaaGreatDoorBi
set_option linter.unusedVariables false
set_option linter.unusedSimpArgs false
set_option maxRecDepth 100000
namespace Go.Proofs.YthdpbmcidebagaaGreatDoor.Ev
open Go Go.RowKit
theorem F69.eok : EOk Go.Proofs.Tryz.prog F69.E := eo calls_nil
theorem ok69 : HandOk Go.Proofs.Tryz.prog inv 69 h_allowedC := hand_un fun xs => callW_ok (own := false) (k := 1) F69.eok mixed Go.Proofs.Tryz.func69 (by kernel_rfl) (show Go.Proofs.Tryz.f69.body = some (bodyOf Go.Proofs.Tryz.f69) by kernel_rfl) (F69.sem 1 xs.1 xs.2.1 xs.2.2.1)
theorem F35.eok : EOk Go.Proofs.Tryz.prog F35.E := eo (calls_cons ok50 calls_nil)
theorem ok35 : HandOk Go.Proofs.Tryz.prog inv 35 h_doms35 := hand_if fun xs hc => callW_ok (own := false) (k := 1001) F35.eok mixed Go.Proofs.Tryz.func35 (by kernel_rfl) (show Go.Proofs.Tryz.f35.body = some (bodyOf Go.Proofs.Tryz.f35) by kernel_rfl) (F35.sem xs.1 (by have h := hc; rwa [Nat.ble_eq] at h))
theorem F34.eok : EOk Go.Proofs.Tryz.prog F34.E := eo (calls_cons ok29 (calls_cons ok31 (calls_cons ok48 (calls_cons ok49 (calls_cons ok69 calls_nil)))))
theorem ok34 : HandOk Go.Proofs.Tryz.prog inv 34 h_reifF := hand_if fun xs hc => by
  obtain ⟨r, h1, h2⟩ := F34.sem xs.1 xs.2.1 hc
  exact spec_weak h2 (callW_ok (own := false) (k := 64001000) F34.eok mixed Go.Proofs.Tryz.func34 (by kernel_rfl) (show Go.Proofs.Tryz.f34.body = some (bodyOf Go.Proofs.Tryz.f34) by kernel_rfl) (h1))
noncomputable def E33 : Env := ⟨tt, [(34, h_reifF), (29, h_listD), (50, h_ofD), (46, callH E46 false Go.Proofs.Tryz.f46 100), (47, callH E47 false Go.Proofs.Tryz.f47 100)], [], [], none, inv⟩
theorem w33 : callW E33 false Go.Proofs.Tryz.f33 100 [] = some (.v .bool true) := by kernel_rfl
theorem ok33 : HandOk Go.Proofs.Tryz.prog inv 33 h_wakes33 := hand_un fun xs => callW_ok (own := false) (k := 100) (eo (calls_cons ok34 (calls_cons ok29 (calls_cons ok50 (calls_cons ok46 (calls_cons ok47 calls_nil)))))) mixed Go.Proofs.Tryz.func33 (by kernel_rfl) (show Go.Proofs.Tryz.f33.body = some (bodyOf Go.Proofs.Tryz.f33) by kernel_rfl) w33
end Go.Proofs.YthdpbmcidebagaaGreatDoor.Ev
