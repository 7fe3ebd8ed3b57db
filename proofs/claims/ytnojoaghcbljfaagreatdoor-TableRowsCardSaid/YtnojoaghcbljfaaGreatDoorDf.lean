/-
Table's filter and laws: their contracts.
Conditions: the table of math/bits is laid.
-/
import Derived.Test.YtnojoaghcbljfaaGreatDoorDc
import Derived.Test.YtnojoaghcbljfaaGreatDoorDe
set_option linter.unusedVariables false
set_option linter.unusedSimpArgs false
set_option maxRecDepth 100000
namespace Go.Proofs.YtnojoaghcbljfaaGreatDoor.Ev
open Go Go.RowKit
theorem F41.sem (l : List (List Int)) (hl : l.length ≤ 1000) : callW F41.E false F41.fn 1001 [.v (.sl (.sl (.int .i64))) l] = some (.v (.sl DomT) (domsL l)) := by
  rw [F41.start_eq]
  refine (doms_loop (L := fun n i acc => F41.l1_1_0_1_0 n _ l l.length i acc) l hl (fun n i acc => F41.l1_1_0_1_0_eq n _ l _ i acc)).trans ?_
  exact F41.c0 _ _
theorem F42.sem (l : List Dom) (hl : l.length ≤ 1000) (hb : l.all listB = true) : callW F42.E false F42.fn 1001 [.v (.sl DomT) l] = some (.v (.sl (.sl (.int .i64))) (listsL l)) := by
  refine (F42.start_eq _ l).trans ?_
  refine (lists_loop (L := fun n i acc => F42.l1_1_0_1_0 n _ l l.length i acc) l hl hb (fun n i acc => F42.l1_1_0_1_0_eq n _ l _ i acc)).trans ?_
  exact F42.c0 _ _
theorem F40.eok : EOk Go.Proofs.Tryz.prog F40.E := eo (calls_cons ok30 (calls_cons ok31 (calls_cons ok48 (calls_cons ok49 calls_nil))))
theorem ok40 : HandOk Go.Proofs.Tryz.prog inv 16 h_tableF := hand_if fun xs hc => by
  obtain ⟨r, h1, h2⟩ := F40.sem xs.1 xs.2.1 hc
  exact spec_weak h2 (callW_ok (own := false) (k := 12000) F40.eok mixed Go.Proofs.Tryz.func16 (by kernel_rfl) (show Go.Proofs.Tryz.f16.body = some (bodyOf Go.Proofs.Tryz.f16) by kernel_rfl) (h1))
theorem F41.eok : EOk Go.Proofs.Tryz.prog F41.E := eo (calls_cons ok50 calls_nil)
theorem ok41 : HandOk Go.Proofs.Tryz.prog inv 17 h_doms41 := hand_if fun xs hc => callW_ok (own := false) (k := 1001) F41.eok mixed Go.Proofs.Tryz.func17 (by kernel_rfl) (show Go.Proofs.Tryz.f17.body = some (bodyOf Go.Proofs.Tryz.f17) by kernel_rfl) (F41.sem xs.1 (by have h := hc; rwa [Nat.ble_eq] at h))
theorem F42.eok : EOk Go.Proofs.Tryz.prog F42.E := eo (calls_cons ok29 calls_nil)
theorem ok42 : HandOk Go.Proofs.Tryz.prog inv 21 h_lists42 := hand_if fun xs hc => by
  have hc2 := (Bool.and_eq_true _ _).mp hc
  exact callW_ok (own := false) (k := 1001) F42.eok mixed Go.Proofs.Tryz.func21 (by kernel_rfl) (show Go.Proofs.Tryz.f21.body = some (bodyOf Go.Proofs.Tryz.f21) by kernel_rfl) (F42.sem xs.1 (by have h := hc2.1; rwa [Nat.ble_eq] at h) hc2.2)
noncomputable def E39 : Env := ⟨tt, [(16, h_tableF), (23, h_listD), (50, h_ofD), (51, callH E46 false Go.Proofs.Tryz.f51 100), (38, callH E47 false Go.Proofs.Tryz.f38 100)], [], [], none, inv⟩
theorem w39 : callW E39 false Go.Proofs.Tryz.f19 100 [] = some (.v .bool true) := by kernel_rfl
theorem ok39 : HandOk Go.Proofs.Tryz.prog inv 19 h_wakes39 := hand_un fun xs => callW_ok (own := false) (k := 100) (eo (calls_cons ok40 (calls_cons ok29 (calls_cons ok50 (calls_cons ok46 (calls_cons ok47 calls_nil)))))) mixed Go.Proofs.Tryz.func19 (by kernel_rfl) (show Go.Proofs.Tryz.f19.body = some (bodyOf Go.Proofs.Tryz.f19) by kernel_rfl) w39
end Go.Proofs.YtnojoaghcbljfaaGreatDoor.Ev
