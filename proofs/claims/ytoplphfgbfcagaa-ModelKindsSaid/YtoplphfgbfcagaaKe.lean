/-
ModelKinds: the contract of the law itself.
Conditions: none.
-/
import Derived.Test.YtoplphfgbfcagaaKd
set_option linter.unusedVariables false
set_option linter.unusedSimpArgs false
set_option maxRecDepth 100000
namespace Go.Proofs.Ytoplphfgbfcagaa.Ev
open Go Go.RowKit

theorem k0 : CallsOk Go.Proofs.Try.prog ⟨tt, c0, [], [], none⟩ := calls_cons ok51 (calls_cons ok43 (calls_cons ok37 calls_nil))
theorem eo {l : List (Nat × Hand)} {k x f} (h : CallsOk Go.Proofs.Try.prog ⟨tt, l, k, x, f⟩) : EOk Go.Proofs.Try.prog ⟨tt, l, k, x, f⟩ := ⟨tyOk_of tt_ok, h⟩

theorem k1 : CallsOk Go.Proofs.Try.prog ⟨tt, c1, [], [], none⟩ := calls_cons (hand_callH (eo k0) mixed Go.Proofs.Try.func44 (by kernel_rfl) (show Go.Proofs.Try.f44.body = some (bodyOf Go.Proofs.Try.f44) by kernel_rfl)) k0
theorem k2 : CallsOk Go.Proofs.Try.prog ⟨tt, c2, [], [], none⟩ := calls_cons (hand_callH (eo k1) mixed Go.Proofs.Try.func36 (by kernel_rfl) (show Go.Proofs.Try.f36.body = some (bodyOf Go.Proofs.Try.f36) by kernel_rfl)) k1
theorem k3 : CallsOk Go.Proofs.Try.prog ⟨tt, c3, [], [], none⟩ := calls_cons (hand_callH (eo k2) mixed Go.Proofs.Try.func28 (by kernel_rfl) (show Go.Proofs.Try.f28.body = some (bodyOf Go.Proofs.Try.f28) by kernel_rfl)) k2
theorem k4 : CallsOk Go.Proofs.Try.prog ⟨tt, c4, [], [], none⟩ := calls_cons (hand_callH (eo k3) mixed Go.Proofs.Try.func18 (by kernel_rfl) (show Go.Proofs.Try.f18.body = some (bodyOf Go.Proofs.Try.f18) by kernel_rfl)) k3
theorem k5 : CallsOk Go.Proofs.Try.prog ⟨tt, c5, [], [], none⟩ := calls_cons (hand_callH (eo k4) mixed Go.Proofs.Try.func34 (by kernel_rfl) (show Go.Proofs.Try.f34.body = some (bodyOf Go.Proofs.Try.f34) by kernel_rfl)) k4
theorem k6 : CallsOk Go.Proofs.Try.prog ⟨tt, c6, [], [], none⟩ := calls_cons (hand_callH (eo k5) mixed Go.Proofs.Try.func24 (by kernel_rfl) (show Go.Proofs.Try.f24.body = some (bodyOf Go.Proofs.Try.f24) by kernel_rfl)) k5
theorem k7 : CallsOk Go.Proofs.Try.prog ⟨tt, c7, [], [], none⟩ := calls_cons (hand_callH (eo k6) mixed Go.Proofs.Try.func25 (by kernel_rfl) (show Go.Proofs.Try.f25.body = some (bodyOf Go.Proofs.Try.f25) by kernel_rfl)) k6
theorem k8 : CallsOk Go.Proofs.Try.prog ⟨tt, c8, [], [], none⟩ := calls_cons (hand_callH (eo k7) mixed Go.Proofs.Try.func16 (by kernel_rfl) (show Go.Proofs.Try.f16.body = some (bodyOf Go.Proofs.Try.f16) by kernel_rfl)) k7
theorem k9 : CallsOk Go.Proofs.Try.prog ⟨tt, c9, [], [], none⟩ := calls_cons (hand_callH (eo k8) mixed Go.Proofs.Try.func17 (by kernel_rfl) (show Go.Proofs.Try.f17.body = some (bodyOf Go.Proofs.Try.f17) by kernel_rfl)) k8
theorem k10 : CallsOk Go.Proofs.Try.prog ⟨tt, c10, [], [], none⟩ := calls_cons (hand_callH (eo k9) mixed Go.Proofs.Try.func38 (by kernel_rfl) (show Go.Proofs.Try.f38.body = some (bodyOf Go.Proofs.Try.f38) by kernel_rfl)) k9
theorem k11 : CallsOk Go.Proofs.Try.prog ⟨tt, c11, [], [], none⟩ := calls_cons (hand_callH (eo k10) mixed Go.Proofs.Try.func21 (by kernel_rfl) (show Go.Proofs.Try.f21.body = some (bodyOf Go.Proofs.Try.f21) by kernel_rfl)) k10
theorem k12 : CallsOk Go.Proofs.Try.prog ⟨tt, c12, [], [], none⟩ := calls_cons (hand_callH (eo k11) mixed Go.Proofs.Try.func29 (by kernel_rfl) (show Go.Proofs.Try.f29.body = some (bodyOf Go.Proofs.Try.f29) by kernel_rfl)) k11
theorem k13 : CallsOk Go.Proofs.Try.prog ⟨tt, c13, [], [], none⟩ := calls_cons (hand_callH (eo k12) mixed Go.Proofs.Try.func19 (by kernel_rfl) (show Go.Proofs.Try.f19.body = some (bodyOf Go.Proofs.Try.f19) by kernel_rfl)) k12
theorem k14 : CallsOk Go.Proofs.Try.prog ⟨tt, c14, [], [], none⟩ := calls_cons (hand_callH (eo k13) mixed Go.Proofs.Try.func30 (by kernel_rfl) (show Go.Proofs.Try.f30.body = some (bodyOf Go.Proofs.Try.f30) by kernel_rfl)) k13
theorem k15 : CallsOk Go.Proofs.Try.prog ⟨tt, c15, [], [], none⟩ := calls_cons (hand_callH (eo k14) mixed Go.Proofs.Try.func20 (by kernel_rfl) (show Go.Proofs.Try.f20.body = some (bodyOf Go.Proofs.Try.f20) by kernel_rfl)) k14
theorem k16 : CallsOk Go.Proofs.Try.prog ⟨tt, c16, [], [], none⟩ := calls_cons (hand_callH (eo k15) mixed Go.Proofs.Try.func31 (by kernel_rfl) (show Go.Proofs.Try.f31.body = some (bodyOf Go.Proofs.Try.f31) by kernel_rfl)) k15
theorem k17 : CallsOk Go.Proofs.Try.prog ⟨tt, c17, [], [], none⟩ := calls_cons (hand_callH (eo k16) mixed Go.Proofs.Try.func22 (by kernel_rfl) (show Go.Proofs.Try.f22.body = some (bodyOf Go.Proofs.Try.f22) by kernel_rfl)) k16
theorem k18 : CallsOk Go.Proofs.Try.prog ⟨tt, c18, [], [], none⟩ := calls_cons (hand_callH (eo k17) mixed Go.Proofs.Try.func23 (by kernel_rfl) (show Go.Proofs.Try.f23.body = some (bodyOf Go.Proofs.Try.f23) by kernel_rfl)) k17
theorem k19 : CallsOk Go.Proofs.Try.prog ⟨tt, c19, [], [], none⟩ := calls_cons (hand_callH (eo k18) mixed Go.Proofs.Try.func11 (by kernel_rfl) (show Go.Proofs.Try.f11.body = some (bodyOf Go.Proofs.Try.f11) by kernel_rfl)) k18
theorem k20 : CallsOk Go.Proofs.Try.prog ⟨tt, c20, [], [], none⟩ := calls_cons (hand_callH (eo k19) mixed Go.Proofs.Try.func5 (by kernel_rfl) (show Go.Proofs.Try.f5.body = some (bodyOf Go.Proofs.Try.f5) by kernel_rfl)) k19
theorem k21 : CallsOk Go.Proofs.Try.prog ⟨tt, c21, [], [], none⟩ := calls_cons (hand_callH (eo k20) mixed Go.Proofs.Try.func13 (by kernel_rfl) (show Go.Proofs.Try.f13.body = some (bodyOf Go.Proofs.Try.f13) by kernel_rfl)) k20
theorem k22 : CallsOk Go.Proofs.Try.prog ⟨tt, c22, [], [], none⟩ := calls_cons (hand_callH (eo k21) mixed Go.Proofs.Try.func12 (by kernel_rfl) (show Go.Proofs.Try.f12.body = some (bodyOf Go.Proofs.Try.f12) by kernel_rfl)) k21
theorem k23 : CallsOk Go.Proofs.Try.prog ⟨tt, c23, [], [], none⟩ := calls_cons (hand_callH (eo k22) mixed Go.Proofs.Try.func6 (by kernel_rfl) (show Go.Proofs.Try.f6.body = some (bodyOf Go.Proofs.Try.f6) by kernel_rfl)) k22
theorem k24 : CallsOk Go.Proofs.Try.prog ⟨tt, c24, [], [], none⟩ := calls_cons (hand_callH (eo k23) mixed Go.Proofs.Try.func7 (by kernel_rfl) (show Go.Proofs.Try.f7.body = some (bodyOf Go.Proofs.Try.f7) by kernel_rfl)) k23
theorem k25 : CallsOk Go.Proofs.Try.prog ⟨tt, c25, [], [], none⟩ := calls_cons (hand_callH (eo k24) mixed Go.Proofs.Try.func15 (by kernel_rfl) (show Go.Proofs.Try.f15.body = some (bodyOf Go.Proofs.Try.f15) by kernel_rfl)) k24
theorem wakes_true : callW ⟨tt, cAll, [], [], none⟩ false Go.Proofs.Try.f10 100 [] = some (.v .bool true) := by kernel_rfl
theorem okWakes : HandOk Go.Proofs.Try.prog 10 hWakes := by
  intro args κ r h
  unfold hWakes at h
  split at h
  case h_2 => simp at h
  exact ⟨_, h, callW_ok (own := false) (k := 100) (eo k25) mixed Go.Proofs.Try.func10 (by kernel_rfl) (show Go.Proofs.Try.f10.body = some (bodyOf Go.Proofs.Try.f10) by kernel_rfl) wakes_true⟩
theorem v11 : callW ⟨tt, [], [], [], none⟩ false Go.Proofs.Try.f11 10 [] = some (.v (.sl (.pair .str .str)) formsL) := by kernel_rfl
theorem okForms : HandOk Go.Proofs.Try.prog 11 hForms := by
  intro args κ r h
  unfold hForms at h
  split at h
  case h_2 => simp at h
  exact ⟨_, h, callW_ok (own := false) (k := 10) (eo calls_nil) mixed Go.Proofs.Try.func11 (by kernel_rfl) (show Go.Proofs.Try.f11.body = some (bodyOf Go.Proofs.Try.f11) by kernel_rfl) v11⟩
theorem v4 : callW ⟨tt, [], [], [], none⟩ false Go.Proofs.Try.f4 10 [] = some (.v (.sl .str) wordsL) := by kernel_rfl
theorem okWords : HandOk Go.Proofs.Try.prog 4 hWords := by
  intro args κ r h
  unfold hWords at h
  split at h
  case h_2 => simp at h
  exact ⟨_, h, callW_ok (own := false) (k := 10) (eo calls_nil) mixed Go.Proofs.Try.func4 (by kernel_rfl) (show Go.Proofs.Try.f4.body = some (bodyOf Go.Proofs.Try.f4) by kernel_rfl) v4⟩
theorem v8 : callW ⟨tt, [], [], [], none⟩ false Go.Proofs.Try.f8 10 [] = some (.v (.sl .str) shapesL) := by kernel_rfl
theorem okShapes : HandOk Go.Proofs.Try.prog 8 hShapes := by
  intro args κ r h
  unfold hShapes at h
  split at h
  case h_2 => simp at h
  exact ⟨_, h, callW_ok (own := false) (k := 10) (eo calls_nil) mixed Go.Proofs.Try.func8 (by kernel_rfl) (show Go.Proofs.Try.f8.body = some (bodyOf Go.Proofs.Try.f8) by kernel_rfl) v8⟩
theorem e13 : EOk Go.Proofs.Try.prog F13.E := eo calls_nil
theorem okKind1 : HandOk Go.Proofs.Try.prog 13 hKind1 := by
  intro args κ r h
  unfold hKind1 at h
  split at h
  case h_2 => simp at h
  rename_i a b w
  exact ⟨_, h, callW_ok (own := false) (k := 5) e13 mixed Go.Proofs.Try.func13 (by kernel_rfl) (show Go.Proofs.Try.f13.body = some (bodyOf Go.Proofs.Try.f13) by kernel_rfl) (F13.start_eq 5 (a, b) w)⟩
theorem e12 : EOk Go.Proofs.Try.prog F12.E := eo (calls_cons okKind1 calls_nil)
theorem okIndexForm : HandOk Go.Proofs.Try.prog 12 hIndexForm := by
  intro args κ r h
  unfold hIndexForm at h
  split at h
  case h_2 => simp at h
  rename_i xs w
  cases hl : Nat.ble (len2 xs) 1000 with
  | false => simp [hl] at h
  | true =>
  have hl' : List.length xs ≤ 1000 := Nat.le_of_ble_eq_true hl
  simp only [hl, cond_true] at h
  exact ⟨_, h, callW_ok (own := false) (k := 1001) e12 mixed Go.Proofs.Try.func12 (by kernel_rfl) (show Go.Proofs.Try.f12.body = some (bodyOf Go.Proofs.Try.f12) by kernel_rfl) (F12.sem xs w hl')⟩
theorem e14 : EOk Go.Proofs.Try.prog F14.E := eo calls_nil
theorem okIndexS : HandOk Go.Proofs.Try.prog 14 hIndexS := by
  intro args κ r h
  unfold hIndexS at h
  split at h
  case h_2 => simp at h
  rename_i xs w
  cases hl : Nat.ble (len2 xs) 1000 with
  | false => simp [hl] at h
  | true =>
  have hl' : List.length xs ≤ 1000 := Nat.le_of_ble_eq_true hl
  simp only [hl, cond_true] at h
  exact ⟨_, h, callW_ok (own := false) (k := 1001) e14 mixed Go.Proofs.Try.func14 (by kernel_rfl) (show Go.Proofs.Try.f14.body = some (bodyOf Go.Proofs.Try.f14) by kernel_rfl) (F14.sem xs w hl')⟩
theorem e9 : EOk Go.Proofs.Try.prog F9.E := eo (calls_cons okIndexS calls_nil)
theorem okContainsS : HandOk Go.Proofs.Try.prog 9 hContainsS := by
  intro args κ r h
  unfold hContainsS at h
  split at h
  case h_2 => simp at h
  rename_i xs w
  cases hl : Nat.ble (len2 xs) 1000 with
  | false => simp [hl] at h
  | true =>
  have hl' : List.length xs ≤ 1000 := Nat.le_of_ble_eq_true hl
  simp only [hl, cond_true] at h
  exact ⟨_, h, callW_ok (own := false) (k := 10) e9 mixed Go.Proofs.Try.func9 (by kernel_rfl) (show Go.Proofs.Try.f9.body = some (bodyOf Go.Proofs.Try.f9) by kernel_rfl) (F9.sem xs w hl')⟩
theorem e5 : EOk Go.Proofs.Try.prog F5.E := eo (calls_cons okForms calls_nil)
theorem okWord : HandOk Go.Proofs.Try.prog 5 hWord := by
  intro args κ r h
  unfold hWord at h
  split at h
  case h_2 => simp at h
  rename_i k
  exact ⟨_, h, callW_ok (own := false) (k := 10) e5 mixed Go.Proofs.Try.func5 (by kernel_rfl) (show Go.Proofs.Try.f5.body = some (bodyOf Go.Proofs.Try.f5) by kernel_rfl) (F5.sem k)⟩
theorem e7 : EOk Go.Proofs.Try.prog F7.E := eo (calls_cons okWord (calls_cons okForms calls_nil))
theorem okShape : HandOk Go.Proofs.Try.prog 7 hShape := by
  intro args κ r h
  unfold hShape at h
  split at h
  case h_2 => simp at h
  rename_i k
  exact ⟨_, h, callW_ok (own := false) (k := 10) e7 mixed Go.Proofs.Try.func7 (by kernel_rfl) (show Go.Proofs.Try.f7.body = some (bodyOf Go.Proofs.Try.f7) by kernel_rfl) (F7.sem k)⟩
theorem e6 : EOk Go.Proofs.Try.prog F6.E := eo (calls_cons okForms (calls_cons okIndexForm calls_nil))
theorem okKind : HandOk Go.Proofs.Try.prog 6 hKind := by
  intro args κ r h
  unfold hKind at h
  split at h
  case h_2 => simp at h
  rename_i w
  exact ⟨_, h, callW_ok (own := false) (k := 10) e6 mixed Go.Proofs.Try.func6 (by kernel_rfl) (show Go.Proofs.Try.f6.body = some (bodyOf Go.Proofs.Try.f6) by kernel_rfl) (F6.sem w)⟩
theorem e3 : EOk Go.Proofs.Try.prog F3.E := eo (calls_cons okWords (calls_cons okWord (calls_cons okKind (calls_cons okShape (calls_cons okShapes (calls_cons okContainsS (calls_cons okWakes calls_nil)))))))
theorem spec3 (a : Int) (s : ByteArray) : CallSpec Go.Proofs.Try.prog 3 [.v (.int .i64) a, .v .str s] (.v .bool true) :=
  callW_ok (own := false) (k := 30) e3 mixed Go.Proofs.Try.func3 (by kernel_rfl) (show Go.Proofs.Try.f3.body = some (bodyOf Go.Proofs.Try.f3) by kernel_rfl) (F3.sem a s)
theorem law_calls (a : Int) (s : ByteArray) (W : World) : Calls Go.Proofs.Try.prog 3 #[.int .i64 a, .string s] W fun e w' => e = .returned (.bool true) ∧ Below W.heap.size W w' := by
  have hent : (callFunc 3 #[.int .i64 a, .string s]).run Go.Proofs.Try.prog W = .ok (.enter 3 #[.int .i64 a, .string s]) W := callFunc_enter Go.Proofs.Try.func3 (by kernel_rfl) (by kernel_rfl) _ _
  rcases spec3 a s W (fun _ => False) [.int .i64 a, .string s] (fun _ h => h.elim) (.cons mk_int (.cons mk_str .nil)) with ⟨_, h⟩ | ⟨u, h, _⟩
  · refine h.mono fun e w' he => ?_
    obtain ⟨u, rfl, hB, okR, mR, _, hr, _⟩ := he
    have hr : rel w' okR [] mz (.v .bool true) u := hr
    rw [rd_bool hr]
    exact ⟨rfl, hB⟩
  · have h : (callFunc 3 #[.int .i64 a, .string s]).run Go.Proofs.Try.prog W = .ok (.value u) W := h
    rw [hent] at h
    simp at h
end Go.Proofs.Ytoplphfgbfcagaa.Ev
