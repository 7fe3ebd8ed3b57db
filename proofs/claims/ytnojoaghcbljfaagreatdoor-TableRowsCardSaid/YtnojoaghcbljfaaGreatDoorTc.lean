/-
TableRows: the contracts, the law.
Conditions: none.
-/
import Derived.Test.YtnojoaghcbljfaaGreatDoorTb
import Derived.Test.YtnojoaghcbljfaaGreatDoorDf
import Derived.Test.YtnojoaghcbljfaaGreatDoorBj
import Derived.Test.YtnojoaghcbljfaaGreatDoorLa
set_option linter.unusedVariables false
set_option linter.unusedSimpArgs false
set_option maxRecDepth 100000
namespace Go.Proofs.YtnojoaghcbljfaaGreatDoor.Ev
open Go Go.RowKit
theorem F318.sem' (k : Nat) (l : List (List Int)) (h : cloneB l = true) : callW F318.E true F318.fn k [.v (.sl (.sl (.int .i64))) l] = some (.nw 30 (.sl (.int .i64)) l) := by
  unfold cloneB at h
  rw [Bool.and_eq_true, Nat.ble_eq] at h
  have lim : decide ((0 + l.length) * 24 ≤ LIM) = true := decide_eq_true (show (0 + l.length) * 24 ≤ 140737488355328 by omega)
  exact (F318.start_eq k l).trans ((bT' h.1).trans (bT' lim))
theorem F318.eok : EOk Go.Proofs.Tryz.prog F318.E := eo calls_nil
theorem ok318 : HandOk Go.Proofs.Tryz.prog inv 18 h_cloneR := hand_if fun xs hc => callW_ok (own := true) (k := 1) F318.eok mixed Go.Proofs.Tryz.func18 (by kernel_rfl) (show Go.Proofs.Tryz.f18.body = some (bodyOf Go.Proofs.Tryz.f18) by kernel_rfl) (F318.sem' 1 xs.1 hc)
theorem rowV_near {a : List Int} (h : I8s a) (N : Nat) : ∀ x ∈ rowN1 a N, -1000 ≤ x ∧ x ≤ 1000 := by
  intro x hx
  obtain ⟨i, hi, rfl⟩ := List.mem_map.mp hx
  unfold rowV
  split
  · rename_i h1
    have := h _ (getD_mem h1 0)
    rw [wrap_ok (by omega) (by omega)]
    omega
  · omega
theorem made_tab (z : Case) (hz : U8s z.1.2.1) : TabC (makeAC z 18) ∧ (makeAC z 18).2.2.2.2.2.2.2.length ≤ 6 := by
  have h := (conA_spec (conAB_of (k := 18) (z := z.1.2) (by omega) (by omega))).2.2.2.2.2 (by unfold isK; omega)
  have e : makeAC z 18 = con18 z.1.2 5 := h
  rw [e]
  refine ⟨tab_con18 _ _ hz (by omega) (by omega), ?_⟩
  show (rowsC z.1.2.2.2.1 (nA z.1.2.1)).length ≤ 6
  unfold rowsC
  rw [List.length_map, List.length_range]
  have := Nat.mod_lt z.1.2.2.2.1.length (show 0 < 6 by omega)
  omega
theorem madeT_doms {z : Case} {k : Int} (hk1 : 1 ≤ k) (hk2 : k ≤ 23) (w : Int) (hw : 1 ≤ w) : DomsOk w (makeAL z k w) := ⟨makeA_dom hw, (makeA_len hk1 hk2).2, (makeA_len hk1 hk2).1⟩
theorem madeT_len (z : Case) (hz : U8s z.1.2.1) : (makeAL z 18 5).length = (makeAC z 18).2.1.length := by
  have : (makeAL z 18 5).length = (makeAC z 18).2.1.length + (makeAC z 18).2.2.1.length := by unfold makeAL; simp
  rw [this, (made_tab z hz).1.b0]
  rfl
theorem F303.eok : EOk Go.Proofs.Tryz.prog F303.E := eo (calls_cons ok15A (calls_cons ok30 (calls_cons ok40 (calls_cons ok41 (calls_cons ok318 (calls_cons ok39 (calls_cons ok22 (calls_cons ok42 (calls_cons ok31 (calls_cons ok29 calls_nil))))))))))
theorem law303 (z : Case) (a : List Int) (hz : U8s z.1.2.1 ∧ U8s z.1.2.2.1) (ha : I8s a) : CallSpec Go.Proofs.Tryz.prog inv 3 [.agg (explode CaseT z), .v (.sl (.int .i8)) a] (.v .bool true) := by
  have t := made_tab z hz.1
  have hl := madeT_len z hz.1
  have h1 := t.1.a4
  exact callW_ok (own := false) (k := 1002004) F303.eok mixed Go.Proofs.Tryz.func3 (by kernel_rfl) (show Go.Proofs.Tryz.f3.body = some (bodyOf Go.Proofs.Tryz.f3) by kernel_rfl) (F303.sem 1002004 (by omega) z a (by unfold makeAB; rfl) t.1.b0 hl (by omega) t.1.r1 (by have := t.2; omega) (tab_rows t.1 (by have := t.2; omega) (w := 5) (by omega) (madeT_doms (by omega) (by omega) 5 (by omega)) hl (by unfold rowN1; rw [List.length_map, List.length_range]; exact hl) (rowV_near ha _)))
end Go.Proofs.YtnojoaghcbljfaaGreatDoor.Ev
