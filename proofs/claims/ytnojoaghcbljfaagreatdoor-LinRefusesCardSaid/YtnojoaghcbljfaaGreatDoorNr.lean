/-
The laws of linear constraints: values that are fixed; what is kept.
Conditions: none.
The laws of linear constraints.
Conditions: none.
-/
import Derived.Test.YtnojoaghcbljfaaGreatDoorNq
import Derived.Test.YtnojoaghcbljfaaGreatDoorNi
import Derived.Test.YtnojoaghcbljfaaGreatDoorCg
set_option linter.unusedVariables false
set_option linter.unusedSimpArgs false
set_option maxRecDepth 100000
namespace Go.Proofs.YtnojoaghcbljfaaGreatDoor.Ev
open Go Go.RowKit
structure FixL (c : Con) (v : List Int) : Prop where
  f1 : linFB c (domsL (ones v)) = true
  hb : holdsB (localC c) v = true
  ok : (linF c (domsL (ones v))).2 = holdsC (localC c) v
  lb : (Nat.ble (linF c (domsL (ones v))).1.length 1000 && (linF c (domsL (ones v))).1.all listB) = true
  ll : (Nat.ble (listsL (linF c (domsL (ones v))).1).length 1000 && lensB (listsL (linF c (domsL (ones v))).1)) = true
  same : (linF c (domsL (ones v))).2 = true → listsL (linF c (domsL (ones v))).1 = ones v
theorem G.has {d : Dom} (h : G d) {v : Int} (hv : v ∈ listD d) : hasD d v = true := by
 rw [hasD_mem h.made.wf, h.inn v hv, ((listD_mem h.made.wf).1 v).mp hv]
 rfl
end Go.Proofs.YtnojoaghcbljfaaGreatDoor.Ev
set_option linter.unusedVariables false
set_option linter.unusedSimpArgs false
set_option maxRecDepth 100000
namespace Go.Proofs.YtnojoaghcbljfaaGreatDoor.Ev
open Go Go.RowKit
theorem F310.eok : EOk Go.Proofs.Tryz.prog F310.E := eo (calls_cons ok15A (calls_cons ok22 (calls_cons ok339 (calls_cons ok340 (calls_cons ok341 (calls_cons ok342 (calls_cons ok343 calls_nil)))))))
theorem law310 (z : Case) (r : Con) (n : Int) (h0 : 0 ≤ n) (h1 : n < 256) : CallSpec Go.Proofs.Tryz.prog inv 10 [.agg (explode CaseT z), .agg (explode ConT r), .v (.int .u8) n] (.v .bool true) := callW_ok (own := false) (k := 1) F310.eok mixed Go.Proofs.Tryz.func10 (by kernel_rfl) (show Go.Proofs.Tryz.f10.body = some (bodyOf Go.Proofs.Tryz.f10) by kernel_rfl) (F310.sem 1 z r n h0 h1)
end Go.Proofs.YtnojoaghcbljfaaGreatDoor.Ev
