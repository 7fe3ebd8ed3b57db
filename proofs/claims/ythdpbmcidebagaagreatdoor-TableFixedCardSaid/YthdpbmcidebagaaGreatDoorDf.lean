/-
Table's filter and laws: their contracts.
Conditions: the table of math/bits is laid.
-/
import Derived.Test.YthdpbmcidebagaaGreatDoorDc
import Derived.Test.YthdpbmcidebagaaGreatDoorDd
import Derived.Test.YthdpbmcidebagaaGreatDoorDe
set_option linter.unusedVariables false
set_option linter.unusedSimpArgs false
set_option maxRecDepth 100000
namespace Go.Proofs.YthdpbmcidebagaaGreatDoor.Ev
open Go Go.RowKit
theorem F41.sem (l : List (List Int)) (hl : l.length ≤ 1000) : callW F41.E false F41.fn 1001 [.v (.sl (.sl (.int .i64))) l] = some (.v (.sl DomT) (domsL l)) := by
  rw [F41.start_eq]
  refine (doms_loop (L := fun n i acc => F41.l1_1_0_1_0 n _ l l.length i acc) l hl (fun n i acc => F41.l1_1_0_1_0_eq n _ l _ i acc)).trans ?_
  exact F41.c0 _ _
theorem F42.sem (l : List Dom) (hl : l.length ≤ 1000) (hb : l.all listB = true) : callW F42.E false F42.fn 1001 [.v (.sl DomT) l] = some (.v (.sl (.sl (.int .i64))) (listsL l)) := by
  refine (F42.start_eq _ l).trans ?_
  refine (lists_loop (L := fun n i acc => F42.l1_1_0_1_0 n _ l l.length i acc) l hl hb (fun n i acc => F42.l1_1_0_1_0_eq n _ l _ i acc)).trans ?_
  exact F42.c0 _ _
theorem F38.sem (k : Nat) (n : Int) : callW F38.E false F38.fn k [.v (.int .u8) n] = some (.v (.int .i64) (kindT n)) := F38.start_eq k n
theorem F38.eok : EOk Go.Proofs.Tryz.prog F38.E := eo calls_nil
theorem ok38 : HandOk Go.Proofs.Tryz.prog inv 38 h_kindT := hand_un fun xs => callW_ok (own := false) (k := 1) F38.eok mixed Go.Proofs.Tryz.func38 (by kernel_rfl) (show Go.Proofs.Tryz.f38.body = some (bodyOf Go.Proofs.Tryz.f38) by kernel_rfl) (F38.sem 1 xs.1)
theorem F40.eok : EOk Go.Proofs.Tryz.prog F40.E := eo (calls_cons ok30 (calls_cons ok31 (calls_cons ok48 (calls_cons ok49 calls_nil))))
theorem ok40 : HandOk Go.Proofs.Tryz.prog inv 40 h_tableF := hand_if fun xs hc => by
  obtain ⟨r, h1, h2⟩ := F40.sem xs.1 xs.2.1 hc
  exact spec_weak h2 (callW_ok (own := false) (k := 12000) F40.eok mixed Go.Proofs.Tryz.func40 (by kernel_rfl) (show Go.Proofs.Tryz.f40.body = some (bodyOf Go.Proofs.Tryz.f40) by kernel_rfl) (h1))
theorem F41.eok : EOk Go.Proofs.Tryz.prog F41.E := eo (calls_cons ok50 calls_nil)
theorem ok41 : HandOk Go.Proofs.Tryz.prog inv 41 h_doms41 := hand_if fun xs hc => callW_ok (own := false) (k := 1001) F41.eok mixed Go.Proofs.Tryz.func41 (by kernel_rfl) (show Go.Proofs.Tryz.f41.body = some (bodyOf Go.Proofs.Tryz.f41) by kernel_rfl) (F41.sem xs.1 (by have h := hc; rwa [Nat.ble_eq] at h))
theorem F42.eok : EOk Go.Proofs.Tryz.prog F42.E := eo (calls_cons ok29 calls_nil)
theorem ok42 : HandOk Go.Proofs.Tryz.prog inv 42 h_lists42 := hand_if fun xs hc => by
  have hc2 := (Bool.and_eq_true _ _).mp hc
  exact callW_ok (own := false) (k := 1001) F42.eok mixed Go.Proofs.Tryz.func42 (by kernel_rfl) (show Go.Proofs.Tryz.f42.body = some (bodyOf Go.Proofs.Tryz.f42) by kernel_rfl) (F42.sem xs.1 (by have h := hc2.1; rwa [Nat.ble_eq] at h) hc2.2)
noncomputable def E39 : Env := ⟨tt, [(40, h_tableF), (29, h_listD), (50, h_ofD), (46, callH E46 false Go.Proofs.Tryz.f46 100), (47, callH E47 false Go.Proofs.Tryz.f47 100)], [], [], none, inv⟩
theorem w39 : callW E39 false Go.Proofs.Tryz.f39 100 [] = some (.v .bool true) := by kernel_rfl
theorem ok39 : HandOk Go.Proofs.Tryz.prog inv 39 h_wakes39 := hand_un fun xs => callW_ok (own := false) (k := 100) (eo (calls_cons ok40 (calls_cons ok29 (calls_cons ok50 (calls_cons ok46 (calls_cons ok47 calls_nil)))))) mixed Go.Proofs.Tryz.func39 (by kernel_rfl) (show Go.Proofs.Tryz.f39.body = some (bodyOf Go.Proofs.Tryz.f39) by kernel_rfl) w39
theorem ok43 : HandOk Go.Proofs.Tryz.prog inv 43 h_short43 := hand_un fun xs => callW_ok (own := false) (k := 1) (eo calls_nil : EOk Go.Proofs.Tryz.prog F43.E) mixed Go.Proofs.Tryz.func43 (by kernel_rfl) (show Go.Proofs.Tryz.f43.body = some (bodyOf Go.Proofs.Tryz.f43) by kernel_rfl) ((F43.start_eq 1 xs.1).trans (take_min xs.1))
theorem kindT_eq (n : Int) : kindT n = 18 := by
  unfold kindT
  rw [Int.zero_mul]
  rfl
theorem table_refuser : Refuser 18 18 tableF where
  kind := fun c => by
    unfold fitsB
    by_cases h : c.1 = 18
    · have : kindB c = true := by unfold kindB; simp [h]
      rw [this]; simp
    · have : (decide (18 ≤ c.1) && decide (c.1 ≤ 18)) = false := by
        by_cases h1 : 18 ≤ c.1
        · have : ¬ c.1 ≤ 18 := by omega
          simp [this]
        · simp [h1]
      rw [this]; rfl
  no := fun c d h => by unfold tableF; rw [h]; rfl
  len := fun c d h h2 => by
    have hk : fitsB c 18 18 = true := by
      unfold fitsD at h
      simp only [Bool.and_eq_true, decide_eq_true_eq] at h
      have : c.1 = 18 := by omega
      unfold fitsB kindB
      simp [this]
    unfold tableF at h2 ⊢
    rw [h] at h2 ⊢
    have h2 : (madeAll (tabGo d (List.replicate d.length []) c.2.2.2.2.2.2.2)).2 = true := h2
    show (madeAll (tabGo d (List.replicate d.length []) c.2.2.2.2.2.2.2)).1.length = _
    rw [made_len h2, (tabGo_mem d _ _ fun r hr => by rw [List.length_replicate]; exact (fits_rows h hk).1 r hr).1, List.length_replicate]
theorem makeA_doms {z : Case} {k : Int} (hk1 : 1 ≤ k) (hk2 : k ≤ 23) (w : Int) (hw : 1 ≤ w) : DomsOk w (makeAL z k w) := ⟨makeA_dom hw, (makeA_len hk1 hk2).2, (makeA_len hk1 hk2).1⟩
theorem makeA_all (z : Case) (k w : Int) : (makeAL z k w).length = (makeAC z k).2.1.length + (makeAC z k).2.2.1.length := by unfold makeAL; simp
theorem make_ab {z : Case} {k w : Int} (hk1 : 1 ≤ k) (hk2 : k ≤ 23) (h1 : 1 ≤ w) (h2 : w ≤ 1000) : makeAB z k w = true := by
  unfold makeAB
  simp only [Bool.and_eq_true, decide_eq_true_eq]
  exact ⟨⟨⟨hk1, hk2⟩, h1⟩, h2⟩
theorem make_tab (z : Case) (hz : U8s z.1.2.1) : TabC (makeAC z 18) := by
  have h := (conA_spec (conAB_of (k := 18) (z := z.1.2) (by omega) (by omega))).2.2.2.2.2.2 rfl
  have e : makeAC z 18 = con18 z.1.2 5 := h
  rw [e]
  exact tab_con18 _ _ hz (by omega) (by omega)
theorem F11.r1 (k : Nat) (d : Con) (m : List (List Int)) (hm : Good m) (hn : m.length ≤ 1000) : F11.n1_1_1 k (F11.kt k [1, 1, 1]) m d.1 d.2.1 d.2.2.1 d.2.2.2.1 d.2.2.2.2.1 d.2.2.2.2.2.1 d.2.2.2.2.2.2.1 d.2.2.2.2.2.2.2 = some (.v .bool true) :=
    (F11.n1_1_1_eq k _ m _ _ _ _ _ _ _ _).trans ((ref_body table_refuser (c := d) hm hn fun b => (F11.kt k [1, 1, 1]).ret ⟨slots 100 [(6, .v .bool b)], []⟩).trans (F11.c0 k))
theorem F11.r2 (k : Nat) (d : Con) (m : List (List Int)) (hm : Good m) (hn : m.length ≤ 1000) : F11.n1_1_1b k (F11.kt k [1, 1, 1]) d.1 d.2.1 d.2.2.1 d.2.2.2.1 d.2.2.2.2.1 d.2.2.2.2.2.1 d.2.2.2.2.2.2.1 d.2.2.2.2.2.2.2 m = some (.v .bool true) :=
    (F11.n1_1_1b_eq k _ _ _ _ _ _ _ _ _ m).trans ((ref_body table_refuser (c := d) hm hn fun b => (F11.kt k [1, 1, 1]).ret ⟨slots 100 [(6, .v .bool b)], []⟩).trans (F11.c0 k))
theorem F11.r3 (k : Nat) (a : Int) (b1 b2 b3 b4 b5 : List Int) (e : Int) (m : List (List Int)) (hm : Good m) (hn : m.length ≤ 1000) : F11.n1_1_1c k (F11.kt k [1, 1, 1]) a b1 b2 b3 b4 b5 e m = some (.v .bool true) :=
    (F11.n1_1_1c_eq k _ _ _ _ _ _ _ _ m).trans ((ref_body table_refuser (c := (a, b1, b2, b3, b4, b5, e, [])) hm hn fun b => (F11.kt k [1, 1, 1]).ret ⟨slots 100 [(6, .v .bool b)], []⟩).trans (F11.c0 k))
theorem F11.sem (k : Nat) (z : Case) (r : Con) (n : Int) (h0 : 0 ≤ n) (h1 : n < 256) : callW F11.E false F11.fn k [.agg (explode CaseT z), .agg (explode ConT r), .v (.int .u8) n] = some (.v .bool true) := by
  refine (F11.start_eq k z r n).trans ?_
  obtain ⟨k1, k2⟩ := kindOf_range h0 h1
  have hm : makeAB z (kindOf n) 6 = true := by
    unfold makeAB
    simp only [Bool.and_eq_true, decide_eq_true_eq]
    refine ⟨⟨⟨k1, k2⟩, ?_⟩, ?_⟩ <;> omega
  have ek : IntKind.i64.wrap (1 + ((IntKind.i64.wrap (shrW .u8 n 3)).tmod 23)) = kindOf n := rfl
  rw [ek, hm]
  obtain ⟨l1, l2⟩ := makeA_len (z := z) (w := 6) k1 k2
  have hg := good_dom (makeA_dom (z := z) (k := kindOf n) (w := 6) (by omega))
  generalize makeAL z (kindOf n) 6 = l at l1 l2 hg ⊢
  generalize makeAC z (kindOf n) = c
  simp only [cond_true]
  have ew : IntKind.i64.wrap ((l.length : Int) - 1) = (l.length : Int) - 1 := wrap_ok (by omega) (by omega)
  have q0 : 0 ≤ (l.length : Int) - 1 := by omega
  have q1 : (l.length : Int) - 1 ≤ l.length := by omega
  have q2 : (0 : Int) < l.length := by omega
  have q3 : (l.length + [[(1 : Nat)]].length) * 24 ≤ LIM := lim24 (by simp; omega)
  rw [ew]
  by_cases c0 : n.tmod 5 = 0
  · exact (bT (decide_eq_true c0)).trans ((bT (bAnd q0 q1)).trans (F11.r1 k c _ (good_take hg _) (by rw [List.length_take]; omega)))
  · refine (bF (decide_eq_false c0)).trans ?_
    by_cases c1 : n.tmod 5 = 1
    · exact (bT (decide_eq_true c1)).trans ((bT (decide_eq_true q2)).trans (F11.r2 k c _ (good_set hg 0) (by rw [List.length_set]; omega)))
    · refine (bF (decide_eq_false c1)).trans ?_
      by_cases c2 : n.tmod 5 = 2
      · exact (bT (decide_eq_true c2)).trans ((bT (decide_eq_true q3)).trans (F11.r2 k c _ (good_app hg) (by rw [List.length_append]; simp; omega)))
      · refine (bF (decide_eq_false c2)).trans ?_
        by_cases c3 : n.tmod 5 = 3
        · exact (bT (decide_eq_true c3)).trans (F11.r3 k _ _ _ _ _ _ _ _ hg (by omega))
        · exact (bF (decide_eq_false c3)).trans (F11.r2 k c _ hg (by omega))
theorem F10.eok : EOk Go.Proofs.Tryz.prog F10.E := eo (calls_cons ok15A (calls_cons ok17 (calls_cons ok21 (calls_cons ok22 (calls_cons ok38 (calls_cons ok39 (calls_cons ok40 (calls_cons ok41 (calls_cons ok42 calls_nil)))))))))
theorem law10 (z : Case) (n : Int) (hz : U8s z.1.2.1) : CallSpec Go.Proofs.Tryz.prog inv 10 [.agg (explode CaseT z), .v (.int .u8) n] (.v .bool true) := callW_ok (own := false) (k := 1) F10.eok mixed Go.Proofs.Tryz.func10 (by kernel_rfl) (show Go.Proofs.Tryz.f10.body = some (bodyOf Go.Proofs.Tryz.f10) by kernel_rfl) (F10.sem 1 z n (kindT_eq n) (make_ab (by omega) (by omega) (by omega) (by omega)) (tab_filters (make_tab z hz) (makeA_doms (by omega) (by omega) 6 (by omega)) (by rw [makeA_all, (make_tab z hz).b0]; rfl)))
theorem F12.eok : EOk Go.Proofs.Tryz.prog F12.E := eo (calls_cons ok15A (calls_cons ok17 (calls_cons ok22 (calls_cons ok29 (calls_cons ok30 (calls_cons ok31 (calls_cons ok38 (calls_cons ok39 (calls_cons ok40 (calls_cons ok41 (calls_cons ok42 calls_nil)))))))))))
theorem law12 (z : Case) (n : Int) (hz : U8s z.1.2.1) : CallSpec Go.Proofs.Tryz.prog inv 12 [.agg (explode CaseT z), .v (.int .u8) n] (.v .bool true) := callW_ok (own := false) (k := 2000000) F12.eok mixed Go.Proofs.Tryz.func12 (by kernel_rfl) (show Go.Proofs.Tryz.f12.body = some (bodyOf Go.Proofs.Tryz.f12) by kernel_rfl) (F12.sem 2000000 (Nat.le_refl _) z n (kindT_eq n) (make_ab (by omega) (by omega) (by omega) (by omega)) (tab_keeps (make_tab z hz) (makeA_doms (by omega) (by omega) 6 (by omega)) (by rw [makeA_all, (make_tab z hz).b0]; rfl)))
theorem F11.eok : EOk Go.Proofs.Tryz.prog F11.E := eo (calls_cons ok15A (calls_cons ok25 (calls_cons ok39 (calls_cons ok40 (calls_cons ok41 (calls_cons ok43 calls_nil))))))
theorem law11 (z : Case) (r : Con) (n : Int) (h0 : 0 ≤ n) (h1 : n < 256) : CallSpec Go.Proofs.Tryz.prog inv 11 [.agg (explode CaseT z), .agg (explode ConT r), .v (.int .u8) n] (.v .bool true) := callW_ok (own := false) (k := 1) F11.eok mixed Go.Proofs.Tryz.func11 (by kernel_rfl) (show Go.Proofs.Tryz.f11.body = some (bodyOf Go.Proofs.Tryz.f11) by kernel_rfl) (F11.sem 1 z r n h0 h1)
theorem fix_tab (z : Small) (hz : U8s z.2.1) : TabC (conA (18 - 1, z.2) 4) := by
  have h := (conA_spec (z := (18 - 1, z.2)) (v := 4) (by unfold conAB; rfl)).2.2.2.2.2.2 rfl
  rw [h]
  exact tab_con18 _ _ hz (by omega) (by omega)
theorem fix_len (z : Small) (hz : U8s z.2.1) : (conA (18 - 1, z.2) 4).2.1.length + (conA (18 - 1, z.2) 4).2.2.1.length ≤ 500 := by
  have h1 := (fix_tab z hz).a4
  rw [(fix_tab z hz).b0]
  show (conA (18 - 1, z.2) 4).2.1.length + 0 ≤ 500
  exact Nat.le_trans (Nat.add_le_add_right h1 0) (by decide)
theorem F13.eok : EOk Go.Proofs.Tryz.prog F13.E := eo (calls_cons ok22 (calls_cons ok26A (calls_cons ok27 (calls_cons ok28 (calls_cons ok38 (calls_cons ok39 (calls_cons ok40 (calls_cons ok41 (calls_cons ok42 calls_nil)))))))))
theorem law13 (z : Small) (n : Int) (a : List Int) (hz : U8s z.2.1) (ha : I8s a) : CallSpec Go.Proofs.Tryz.prog inv 13 [.agg (explode SmallT z), .v (.int .u8) n, .v (.sl (.int .i8)) a] (.v .bool true) := callW_ok (own := false) (k := 2000) F13.eok mixed Go.Proofs.Tryz.func13 (by kernel_rfl) (show Go.Proofs.Tryz.f13.body = some (bodyOf Go.Proofs.Tryz.f13) by kernel_rfl) (F13.sem 2000 (by omega) z n a (kindT_eq n) (by unfold conAB; rfl) (local_tab (fix_tab z hz)) (tab_fixed (fix_tab z hz) (by rw [(fix_tab z hz).b0]; simp) (fix_nearN ha _ (fix_len z hz))))
end Go.Proofs.YthdpbmcidebagaaGreatDoor.Ev
