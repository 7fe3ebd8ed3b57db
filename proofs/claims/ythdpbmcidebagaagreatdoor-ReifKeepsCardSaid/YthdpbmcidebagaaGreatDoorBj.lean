/-
Seat 'a': the contracts of the laws Keeps, Fixed of Element; of Filters, Keeps, Fixed of what is reified.
Conditions: the table of math/bits is laid.
-/
import Derived.Test.YthdpbmcidebagaaGreatDoorBd
import Derived.Test.YthdpbmcidebagaaGreatDoorBi
set_option linter.unusedVariables false
set_option linter.unusedSimpArgs false
set_option maxRecDepth 100000
namespace Go.Proofs.YthdpbmcidebagaaGreatDoor.Ev
open Go Go.RowKit
theorem F65.eok : EOk Go.Proofs.Tryz.prog F65.E := eo calls_nil
theorem ok65 : HandOk Go.Proofs.Tryz.prog inv 65 h_indexL := hand_un fun xs => spec_fits fun hx => callW_ok (own := false) (k := xs.1.length + 1) F65.eok mixed Go.Proofs.Tryz.func65 (by kernel_rfl) (show Go.Proofs.Tryz.f65.body = some (bodyOf Go.Proofs.Tryz.f65) by kernel_rfl) (F65.sem xs.1 xs.2.1 (hx (.v (.sl (.int .i64)) xs.1) (by simp [argsN, argA])).1)
theorem F30.eok : EOk Go.Proofs.Tryz.prog F30.E := eo (calls_cons ok65 calls_nil)
theorem ok30 : HandOk Go.Proofs.Tryz.prog inv 30 h_containsL := hand_un fun xs => callW_ok (own := false) (k := 1) F30.eok mixed Go.Proofs.Tryz.func30 (by kernel_rfl) (show Go.Proofs.Tryz.f30.body = some (bodyOf Go.Proofs.Tryz.f30) by kernel_rfl) (F30.sem 1 xs.1 xs.2.1)
theorem F32.eok : EOk Go.Proofs.Tryz.prog F32.E := eo calls_nil
theorem ok32 : HandOk Go.Proofs.Tryz.prog inv 32 h_kindR := hand_un fun xs => callW_ok (own := false) (k := 1) F32.eok mixed Go.Proofs.Tryz.func32 (by kernel_rfl) (show Go.Proofs.Tryz.f32.body = some (bodyOf Go.Proofs.Tryz.f32) by kernel_rfl) (F32.sem 1 xs.1)
theorem F69.eok : EOk Go.Proofs.Tryz.prog F69.E := eo calls_nil
theorem ok69 : HandOk Go.Proofs.Tryz.prog inv 69 h_allowedC := hand_un fun xs => callW_ok (own := false) (k := 1) F69.eok mixed Go.Proofs.Tryz.func69 (by kernel_rfl) (show Go.Proofs.Tryz.f69.body = some (bodyOf Go.Proofs.Tryz.f69) by kernel_rfl) (F69.sem 1 xs.1 xs.2.1 xs.2.2.1)
theorem F35.eok : EOk Go.Proofs.Tryz.prog F35.E := eo (calls_cons ok50 calls_nil)
theorem ok35 : HandOk Go.Proofs.Tryz.prog inv 35 h_doms35 := hand_if fun xs hc => callW_ok (own := false) (k := 1001) F35.eok mixed Go.Proofs.Tryz.func35 (by kernel_rfl) (show Go.Proofs.Tryz.f35.body = some (bodyOf Go.Proofs.Tryz.f35) by kernel_rfl) (F35.sem xs.1 (by have h := hc; rwa [Nat.ble_eq] at h))
theorem F36.eok : EOk Go.Proofs.Tryz.prog F36.E := eo (calls_cons ok29 calls_nil)
theorem ok36 : HandOk Go.Proofs.Tryz.prog inv 36 h_lists36 := hand_if fun xs hc => by
  have hc2 := (Bool.and_eq_true _ _).mp hc
  exact callW_ok (own := false) (k := 1001) F36.eok mixed Go.Proofs.Tryz.func36 (by kernel_rfl) (show Go.Proofs.Tryz.f36.body = some (bodyOf Go.Proofs.Tryz.f36) by kernel_rfl) (F36.sem xs.1 (by have h := hc2.1; rwa [Nat.ble_eq] at h) hc2.2)
theorem F34.eok : EOk Go.Proofs.Tryz.prog F34.E := eo (calls_cons ok29 (calls_cons ok31 (calls_cons ok48 (calls_cons ok49 (calls_cons ok69 calls_nil)))))
theorem ok34 : HandOk Go.Proofs.Tryz.prog inv 34 h_reifF := hand_if fun xs hc => by
  obtain ⟨r, h1, h2⟩ := F34.sem xs.1 xs.2.1 hc
  exact spec_weak h2 (callW_ok (own := false) (k := 64001000) F34.eok mixed Go.Proofs.Tryz.func34 (by kernel_rfl) (show Go.Proofs.Tryz.f34.body = some (bodyOf Go.Proofs.Tryz.f34) by kernel_rfl) (h1))
noncomputable def E33 : Env := ⟨tt, [(34, h_reifF), (29, h_listD), (50, h_ofD), (46, callH E46 false Go.Proofs.Tryz.f46 100), (47, callH E47 false Go.Proofs.Tryz.f47 100)], [], [], none, inv⟩
theorem w33 : callW E33 false Go.Proofs.Tryz.f33 100 [] = some (.v .bool true) := by kernel_rfl
theorem ok33 : HandOk Go.Proofs.Tryz.prog inv 33 h_wakes33 := hand_un fun xs => callW_ok (own := false) (k := 100) (eo (calls_cons ok34 (calls_cons ok29 (calls_cons ok50 (calls_cons ok46 (calls_cons ok47 calls_nil)))))) mixed Go.Proofs.Tryz.func33 (by kernel_rfl) (show Go.Proofs.Tryz.f33.body = some (bodyOf Go.Proofs.Tryz.f33) by kernel_rfl) w33
theorem F5.eok : EOk Go.Proofs.Tryz.prog F5.E := eo (calls_cons ok16 (calls_cons ok18 (calls_cons ok19 (calls_cons ok20 (calls_cons ok22 (calls_cons ok23 (calls_cons ok26 (calls_cons ok27 (calls_cons ok28 calls_nil)))))))))
theorem law5 (z : Small) (n : Int) (a : List Int) (hz : U8s z.2.1) (hz2 : U8s z.2.2.1) (hn : 0 ≤ n) (ha : I8s a) : CallSpec Go.Proofs.Tryz.prog inv 5 [.agg (explode SmallT z), .v (.int .u8) n, .v (.sl (.int .i8)) a] (.v .bool true) := callW_ok (own := false) (k := 0 + 3) F5.eok mixed Go.Proofs.Tryz.func5 (by kernel_rfl) (show Go.Proofs.Tryz.f5.body = some (bodyOf Go.Proofs.Tryz.f5) by kernel_rfl) (F5.sem 0 z n a hz hz2 hn ha)
theorem F9.eok : EOk Go.Proofs.Tryz.prog F9.E := eo (calls_cons ok22 (calls_cons ok26 (calls_cons ok27 (calls_cons ok28 (calls_cons ok32 (calls_cons ok33 (calls_cons ok34 (calls_cons ok35 (calls_cons ok36 calls_nil)))))))))
theorem law9 (z : Small) (n : Int) (a : List Int) (hz : U8s z.2.1) (hz2 : U8s z.2.2.1) (hn : 0 ≤ n) (ha : I8s a) : CallSpec Go.Proofs.Tryz.prog inv 9 [.agg (explode SmallT z), .v (.int .u8) n, .v (.sl (.int .i8)) a] (.v .bool true) := callW_ok (own := false) (k := 0 + 3) F9.eok mixed Go.Proofs.Tryz.func9 (by kernel_rfl) (show Go.Proofs.Tryz.f9.body = some (bodyOf Go.Proofs.Tryz.f9) by kernel_rfl) (F9.sem 0 z n a hz hz2 hn ha)
theorem F6.eok : EOk Go.Proofs.Tryz.prog F6.E := eo (calls_cons ok15 (calls_cons ok16 (calls_cons ok17 (calls_cons ok18 (calls_cons ok19 (calls_cons ok20 (calls_cons ok22 (calls_cons ok23 (calls_cons ok29 (calls_cons ok30 (calls_cons ok31 calls_nil)))))))))))
theorem law6 (z : Case) (n : Int) (hz : U8s z.1.2.1) (hz2 : U8s z.1.2.2.1) (hn : 0 ≤ n) : CallSpec Go.Proofs.Tryz.prog inv 6 [.agg (explode CaseT z), .v (.int .u8) n] (.v .bool true) := callW_ok (own := false) (k := 10000) F6.eok mixed Go.Proofs.Tryz.func6 (by kernel_rfl) (show Go.Proofs.Tryz.f6.body = some (bodyOf Go.Proofs.Tryz.f6) by kernel_rfl) (F6.sem 10000 (Nat.le_refl _) z n hz hz2 hn)
theorem F14.eok : EOk Go.Proofs.Tryz.prog F14.E := eo (calls_cons ok15 (calls_cons ok17 (calls_cons ok22 (calls_cons ok29 (calls_cons ok30 (calls_cons ok31 (calls_cons ok32 (calls_cons ok33 (calls_cons ok34 (calls_cons ok35 (calls_cons ok36 calls_nil)))))))))))
theorem law14 (z : Case) (n : Int) (hz : U8s z.1.2.1) (hz2 : U8s z.1.2.2.1) (hn : 0 ≤ n) : CallSpec Go.Proofs.Tryz.prog inv 14 [.agg (explode CaseT z), .v (.int .u8) n] (.v .bool true) := callW_ok (own := false) (k := 10000) F14.eok mixed Go.Proofs.Tryz.func14 (by kernel_rfl) (show Go.Proofs.Tryz.f14.body = some (bodyOf Go.Proofs.Tryz.f14) by kernel_rfl) (F14.sem 10000 (Nat.le_refl _) z n hz hz2 hn)
theorem F7.eok : EOk Go.Proofs.Tryz.prog F7.E := eo (calls_cons ok15 (calls_cons ok17 (calls_cons ok21 (calls_cons ok22 (calls_cons ok32 (calls_cons ok33 (calls_cons ok34 (calls_cons ok35 (calls_cons ok36 calls_nil)))))))))
theorem law7 (z : Case) (n : Int) (hz : U8s z.1.2.1) (hz2 : U8s z.1.2.2.1) (hn : 0 ≤ n) : CallSpec Go.Proofs.Tryz.prog inv 7 [.agg (explode CaseT z), .v (.int .u8) n] (.v .bool true) := callW_ok (own := false) (k := 1) F7.eok mixed Go.Proofs.Tryz.func7 (by kernel_rfl) (show Go.Proofs.Tryz.f7.body = some (bodyOf Go.Proofs.Tryz.f7) by kernel_rfl) (F7.sem 1 z n hz hz2 hn)
end Go.Proofs.YthdpbmcidebagaaGreatDoor.Ev
