/-
Contracts of library functions that are handed a function; slices.Equal, Values, Sorted.
Conditions: none.
-/
import Derived.Test.YtlfdikofmfhefaaGreatDoorBd
import Derived.Test.YtlfdikofmfhefaaGreatDoorBh
import Derived.Test.YtlfdikofmfhefaaGreatDoorAe
import Derived.Test.YtlfdikofmfhefaaGreatDoorGh
import Derived.Test.YtlfdikofmfhefaaGreatDoorYd
import Derived.Test.YtlfdikofmfhefaaGreatDoorGv
set_option linter.unusedVariables false
set_option linter.unusedSimpArgs false
set_option maxRecDepth 100000
namespace Go.Proofs.YtlfdikofmfhefaaGreatDoor.Ev
open Go Go.RowKit
theorem lt_natG {i n : Nat} (h : i < n) : decide ((i : Int) < (n : Int)) = true := decide_eq_true (by omega)
theorem in_natG {i n : Nat} (h : i < n) : (decide (0 ≤ (i : Int)) && decide ((i : Int) < (n : Int))) = true := by
 rw [decide_eq_true (show (0 : Int) ≤ (i : Int) by omega), lt_natG h]
 rfl
theorem F47.sem (a b : List Int) (h : a.length ≤ maxLen) : callW F47.E false F47.fn (a.length + 1) [.v (.sl (.int .i64)) a, .v (.sl (.int .i64)) b] = some (.v .bool (eqL a b)) := by
 have hm := lenMax h
 have ec : ∀ (x y : Int) (s t : List Int), eqL (x :: s) (y :: t) = if x = y then eqL s t else false := fun x y s t => by
  unfold eqL
  by_cases h : x = y
  ·rw [if_pos h, h]
   congr 1
   simp
  ·rw [if_neg h]
   exact decide_eq_false fun e => h (List.cons.inj e).1
 refine (F47.start_eq (a.length + 1) a b).trans ?_
 by_cases hl : (a.length : Int) = (b.length : Int)
 ·refine (bF' (by rw [decide_eq_true hl]; rfl)).trans ?_
  have key : ∀ d i n : Nat, i + d = a.length → d < n → F47.l1_1_0_1_0 n (F47.kt (a.length + 1) [1, 1, 0, 1, 0]) a b (a.length : Int) (i : Int) = some (.v .bool (eqL (a.drop i) (b.drop i))) := by
   intro d
   induction d with
   | zero =>
    intro i n h1 h2
    obtain ⟨n', rfl⟩ : ∃ n', n = n' + 1 := ⟨n - 1, by omega⟩
    obtain rfl : i = a.length := by omega
    refine (F47.l1_1_0_1_0_eq ..).trans (self_lt'.trans ((F47.c1 (a.length + 1)).trans ?_))
    have e : b.drop a.length = [] := List.drop_of_length_le (by omega)
    rw [List.drop_length, e]
    rfl
   | succ d ih =>
    intro i n h1 h2
    obtain ⟨n', rfl⟩ : ∃ n', n = n' + 1 := ⟨n - 1, by omega⟩
    have hi : i < a.length := by omega
    have hb : i < b.length := by omega
    have w : IntKind.i64.wrap ((i : Int) + 1) = ((i + 1 : Nat) : Int) := by rw [wrap_ok (by omega) (by omega)]; omega
    refine (F47.l1_1_0_1_0_eq ..).trans ((bT' (lt_natG hi)).trans ((bT' (in_natG hi)).trans ((bT' (in_natG hb)).trans ?_)))
    rw [Int.toNat_natCast, w, drop_getD hi 0, drop_getD hb 0, ec]
    by_cases e : a.getD i 0 = b.getD i 0
    ·rw [if_pos e]
     exact (bF' (by rw [decide_eq_true e]; rfl)).trans (ih (i + 1) n' (by omega) (by omega))
    ·rw [if_neg e]
     exact (bT' (by rw [decide_eq_false e]; rfl)).trans (F47.c0 (a.length + 1))
  exact key a.length 0 (a.length + 1) (by omega) (by omega)
 ·refine (bT' (by rw [decide_eq_false hl]; rfl)).trans ?_
  have : eqL a b = false := decide_eq_false fun e => hl (by rw [e])
  rw [this]
theorem F47.eok : EOk Go.Proofs.Tryz.prog F47.E := eo calls_nil
theorem ok47 : HandOk Go.Proofs.Tryz.prog inv 41 h_eqL := hand_un fun xs => spec_fits (args := [.v (.sl (.int .i64)) xs.1, .v (.sl (.int .i64)) xs.2.1]) fun hx => callW_ok (own := false) (k := xs.1.length + 1) F47.eok mixed Go.Proofs.Tryz.func41 (by kernel_rfl) (show Go.Proofs.Tryz.f41.body = some (bodyOf Go.Proofs.Tryz.f41) by kernel_rfl) (F47.sem xs.1 xs.2.1 (hx (.v (.sl (.int .i64)) xs.1) (by simp)).1)
theorem F615.sem (k : Nat) (v : Int) : callW F615.E false F615.fn k [.v (.int .i64) v] = some (.v .bool (farB v)) := by
 refine (F615.start_eq k v).trans ?_
 unfold farB
 cases decide (v < -1000000) <;> rfl
theorem F621.sem (k : Nat) (r z : List Int) : callW F621.E false F621.fn k [.v (.sl (.int .i64)) r, .rp [.v (.sl (.int .i64)) z]] = some (.v .bool (rowEqB z r)) := F621.start_eq k r z
theorem F615.eok : EOk Go.Proofs.Tryz.prog F615.E := eo calls_nil
theorem ok615 : HandOk Go.Proofs.Tryz.prog inv 83 h_farB := hand_un fun xs => callW_ok (own := false) (k := 1) F615.eok mixed Go.Proofs.Tryz.func83 (by kernel_rfl) (show Go.Proofs.Tryz.f83.body = some (bodyOf Go.Proofs.Tryz.f83) by kernel_rfl) (F615.sem 1 xs.1)
theorem F621.eok : EOk Go.Proofs.Tryz.prog F621.E := eo (calls_cons ok47 calls_nil)
theorem ok621 : HandOk Go.Proofs.Tryz.prog inv 89 h_rowEqB := by
 intro args κ r h
 unfold h_rowEqB at h
 split at h
 case h_2 => simp at h
 rename_i x0 cs
 cases hp : pullA (.sl (.int .i64)) x0 with
 | none => simp [hp] at h
 | some y0 =>
  cases hq : pullC (.sl (.int .i64)) cs with
  | none => simp [hp, hq] at h
  | some z =>
   simp only [hp, hq] at h
   refine ⟨_, h, spec_args (args' := [.v (.sl (.int .i64)) y0, .rp ([.v (.sl (.int .i64)) z])]) (fun w okk us hf => ?_) (callW_ok (own := false) (k := 1) F621.eok mixed Go.Proofs.Tryz.func89 (by kernel_rfl) (show Go.Proofs.Tryz.f89.body = some (bodyOf Go.Proofs.Tryz.f89) by kernel_rfl) (F621.sem 1 y0 z))⟩
   cases hf with
   | cons a b =>
    cases b with
    | cons b c => exact .cons (pullA_rel hp a) (.cons (rp_rel hq b) c)
theorem F99g615.sem (xs : List Int) (hl : xs.length ≤ maxLen) : callW F99g615.E false F99g615.fn (xs.length + 1) [.v (.sl (.int .i64)) xs, .fn 83 [] []] = some (.v (.int .i64) (idx farB xs 0)) := by
 rw [F99g615.start_eq, search_loop (fun n i => F99g615.l1_0_1_0 n _ xs xs.length i) xs 0 farB _ _ hl (fun n i => F99g615.l1_0_1_0_eq n _ xs _ i) _ 0 (by omega) (by omega) (by omega)]
 simp only [F99g615.c0, F99g615.c1]
 exact idx_res farB xs (fun v => some (.v (.int .i64) v)) _ rfl
theorem F77g615.sem (k : Nat) (xs : List Int) : callW F77g615.E false F77g615.fn k [.v (.sl (.int .i64)) xs, .fn 83 [] []] = some (.v .bool (xs.any farB)) := by
 rw [F77g615.start_eq, idx_any farB xs 0 (Int.le_refl _)]
theorem F115g621.sem (xs : List (List Int)) (z : List Int) (hl : xs.length ≤ maxLen) : callW F115g621.E false F115g621.fn (xs.length + 1) [.v (.sl (.sl (.int .i64))) xs, .fn 89 [] [.rp [.v (.sl (.int .i64)) z]]] = some (.v (.int .i64) (idx (rowEqB z) xs 0)) := by
 rw [F115g621.start_eq, search_loop (fun n i => F115g621.l1_0_1_0 n _ xs z xs.length i) xs [] (rowEqB z) _ _ hl (fun n i => F115g621.l1_0_1_0_eq n _ xs z _ i) _ 0 (by omega) (by omega) (by omega)]
 simp only [F115g621.c0, F115g621.c1]
 exact idx_res (rowEqB z) xs (fun v => some (.v (.int .i64) v)) _ rfl
theorem F107g621.sem (k : Nat) (xs : List (List Int)) (z : List Int) : callW F107g621.E false F107g621.fn k [.v (.sl (.sl (.int .i64))) xs, .fn 89 [] [.rp [.v (.sl (.int .i64)) z]]] = some (.v .bool (xs.any (rowEqB z))) := by
 rw [F107g621.start_eq, idx_any (rowEqB z) xs 0 (Int.le_refl _)]
theorem F99g78.eok : EOk Go.Proofs.Tryz.prog F99g78.E := eo (calls_cons ok78 calls_nil)
theorem F99g96.eok : EOk Go.Proofs.Tryz.prog F99g96.E := eo (calls_cons ok96 calls_nil)
theorem F99g118.eok : EOk Go.Proofs.Tryz.prog F99g118.E := eo (calls_cons ok118 calls_nil)
theorem F99g615.eok : EOk Go.Proofs.Tryz.prog F99g615.E := eo (calls_cons ok615 calls_nil)
theorem ok99 : HandOk Go.Proofs.Tryz.prog inv 105 h_idxF := by
 intro args κ r h
 unfold h_idxF at h
 split at h
 ·rename_i x0
  cases hp : pullA (.sl (.int .i64)) x0 with
  | none => simp [hp] at h
  | some y0 =>
   simp only [hp] at h
   refine ⟨_, h, spec_args (args' := [.v (.sl (.int .i64)) y0, .fn 132 [] []]) (fun w okk us hf => ?_) (spec_fits (args := [.v (.sl (.int .i64)) y0, .fn 132 [] []]) fun hx => callW_ok (own := false) (k := y0.length + 1) F99g78.eok mixed Go.Proofs.Tryz.func105 (by kernel_rfl) (show Go.Proofs.Tryz.f105.body = some (bodyOf Go.Proofs.Tryz.f105) by kernel_rfl) (F99g78.sem y0 (hx (.v (.sl (.int .i64)) y0) (by simp)).1))⟩
   cases hf with
   | cons a b => exact .cons (pullA_rel hp a) b
 ·rename_i x0 cs
  cases hp : pullA (.sl (.int .i64)) x0 with
  | none => simp [hp] at h
  | some y0 =>
   cases hq : pullC (.int .i64) cs with
   | none => simp [hp, hq] at h
   | some z =>
    simp only [hp, hq] at h
    refine ⟨_, h, spec_args (args' := [.v (.sl (.int .i64)) y0, .fn 57 [] [.rp ([.v (.int .i64) z])]]) (fun w okk us hf => ?_) (spec_fits (args := [.v (.sl (.int .i64)) y0, .fn 57 [] [.rp ([.v (.int .i64) z])]]) fun hx => callW_ok (own := false) (k := y0.length + 1) F99g96.eok mixed Go.Proofs.Tryz.func105 (by kernel_rfl) (show Go.Proofs.Tryz.f105.body = some (bodyOf Go.Proofs.Tryz.f105) by kernel_rfl) (F99g96.sem y0 z (hx (.v (.sl (.int .i64)) y0) (by simp)).1))⟩
    cases hf with
    | cons a b =>
     cases b with
     | cons b c => exact .cons (pullA_rel hp a) (.cons (fn_rel hq b) c)
 ·rename_i x0 cs
  cases hp : pullA (.sl (.int .i64)) x0 with
  | none => simp [hp] at h
  | some y0 =>
   cases hq : pullC (.int .i64) cs with
   | none => simp [hp, hq] at h
   | some z =>
    simp only [hp, hq] at h
    refine ⟨_, h, spec_args (args' := [.v (.sl (.int .i64)) y0, .fn 142 [] [.rp ([.v (.int .i64) z])]]) (fun w okk us hf => ?_) (spec_fits (args := [.v (.sl (.int .i64)) y0, .fn 142 [] [.rp ([.v (.int .i64) z])]]) fun hx => callW_ok (own := false) (k := y0.length + 1) F99g118.eok mixed Go.Proofs.Tryz.func105 (by kernel_rfl) (show Go.Proofs.Tryz.f105.body = some (bodyOf Go.Proofs.Tryz.f105) by kernel_rfl) (F99g118.sem y0 z (hx (.v (.sl (.int .i64)) y0) (by simp)).1))⟩
    cases hf with
    | cons a b =>
     cases b with
     | cons b c => exact .cons (pullA_rel hp a) (.cons (fn_rel hq b) c)
 ·rename_i x0
  cases hp : pullA (.sl (.int .i64)) x0 with
  | none => simp [hp] at h
  | some y0 =>
   simp only [hp] at h
   refine ⟨_, h, spec_args (args' := [.v (.sl (.int .i64)) y0, .fn 83 [] []]) (fun w okk us hf => ?_) (spec_fits (args := [.v (.sl (.int .i64)) y0, .fn 83 [] []]) fun hx => callW_ok (own := false) (k := y0.length + 1) F99g615.eok mixed Go.Proofs.Tryz.func105 (by kernel_rfl) (show Go.Proofs.Tryz.f105.body = some (bodyOf Go.Proofs.Tryz.f105) by kernel_rfl) (F99g615.sem y0 (hx (.v (.sl (.int .i64)) y0) (by simp)).1))⟩
   cases hf with
   | cons a b => exact .cons (pullA_rel hp a) b
 ·simp at h
theorem F77g78.eok : EOk Go.Proofs.Tryz.prog F77g78.E := eo (calls_cons ok99 calls_nil)
theorem F77g96.eok : EOk Go.Proofs.Tryz.prog F77g96.E := eo (calls_cons ok99 calls_nil)
theorem F77g118.eok : EOk Go.Proofs.Tryz.prog F77g118.E := eo (calls_cons ok99 calls_nil)
theorem F77g615.eok : EOk Go.Proofs.Tryz.prog F77g615.E := eo (calls_cons ok99 calls_nil)
theorem ok77 : HandOk Go.Proofs.Tryz.prog inv 55 h_any := by
 intro args κ r h
 unfold h_any at h
 split at h
 ·rename_i x0
  cases hp : pullA (.sl (.int .i64)) x0 with
  | none => simp [hp] at h
  | some y0 =>
   simp only [hp] at h
   refine ⟨_, h, spec_args (args' := [.v (.sl (.int .i64)) y0, .fn 132 [] []]) (fun w okk us hf => ?_) (callW_ok (own := false) (k := 1) F77g78.eok mixed Go.Proofs.Tryz.func55 (by kernel_rfl) (show Go.Proofs.Tryz.f55.body = some (bodyOf Go.Proofs.Tryz.f55) by kernel_rfl) (F77g78.sem 1 y0))⟩
   cases hf with
   | cons a b => exact .cons (pullA_rel hp a) b
 ·rename_i x0 cs
  cases hp : pullA (.sl (.int .i64)) x0 with
  | none => simp [hp] at h
  | some y0 =>
   cases hq : pullC (.int .i64) cs with
   | none => simp [hp, hq] at h
   | some z =>
    simp only [hp, hq] at h
    refine ⟨_, h, spec_args (args' := [.v (.sl (.int .i64)) y0, .fn 57 [] [.rp ([.v (.int .i64) z])]]) (fun w okk us hf => ?_) (callW_ok (own := false) (k := 1) F77g96.eok mixed Go.Proofs.Tryz.func55 (by kernel_rfl) (show Go.Proofs.Tryz.f55.body = some (bodyOf Go.Proofs.Tryz.f55) by kernel_rfl) (F77g96.sem 1 y0 z))⟩
    cases hf with
    | cons a b =>
     cases b with
     | cons b c => exact .cons (pullA_rel hp a) (.cons (fn_rel hq b) c)
 ·rename_i x0 cs
  cases hp : pullA (.sl (.int .i64)) x0 with
  | none => simp [hp] at h
  | some y0 =>
   cases hq : pullC (.int .i64) cs with
   | none => simp [hp, hq] at h
   | some z =>
    simp only [hp, hq] at h
    refine ⟨_, h, spec_args (args' := [.v (.sl (.int .i64)) y0, .fn 142 [] [.rp ([.v (.int .i64) z])]]) (fun w okk us hf => ?_) (callW_ok (own := false) (k := 1) F77g118.eok mixed Go.Proofs.Tryz.func55 (by kernel_rfl) (show Go.Proofs.Tryz.f55.body = some (bodyOf Go.Proofs.Tryz.f55) by kernel_rfl) (F77g118.sem 1 y0 z))⟩
    cases hf with
    | cons a b =>
     cases b with
     | cons b c => exact .cons (pullA_rel hp a) (.cons (fn_rel hq b) c)
 ·rename_i x0
  cases hp : pullA (.sl (.int .i64)) x0 with
  | none => simp [hp] at h
  | some y0 =>
   simp only [hp] at h
   refine ⟨_, h, spec_args (args' := [.v (.sl (.int .i64)) y0, .fn 83 [] []]) (fun w okk us hf => ?_) (callW_ok (own := false) (k := 1) F77g615.eok mixed Go.Proofs.Tryz.func55 (by kernel_rfl) (show Go.Proofs.Tryz.f55.body = some (bodyOf Go.Proofs.Tryz.f55) by kernel_rfl) (F77g615.sem 1 y0))⟩
   cases hf with
   | cons a b => exact .cons (pullA_rel hp a) b
 ·simp at h
theorem F115g108.eok : EOk Go.Proofs.Tryz.prog F115g108.E := eo (calls_cons ok108 calls_nil)
theorem F115g621.eok : EOk Go.Proofs.Tryz.prog F115g621.E := eo (calls_cons ok621 calls_nil)
theorem ok115 : HandOk Go.Proofs.Tryz.prog inv 129 h_idxR := by
 intro args κ r h
 unfold h_idxR at h
 split at h
 ·rename_i x0 cs
  cases hp : pullA (.sl (.sl (.int .i64))) x0 with
  | none => simp [hp] at h
  | some y0 =>
   cases hq : pullC (.pair (.int .i64) (.pair (.sl (.int .i64)) (.pair (.sl (.int .i64)) (.pair (.sl (.int .i64)) (.pair (.sl (.int .i64)) (.pair (.sl (.int .i64)) (.pair (.int .i64) (.sl (.sl (.int .i64)))))))))) cs with
   | none => simp [hp, hq] at h
   | some z =>
    simp only [hp, hq] at h
    refine ⟨_, h, spec_args (args' := [.v (.sl (.sl (.int .i64))) y0, .fn 103 [] [.rp (explode ConT z)]]) (fun w okk us hf => ?_) (spec_fits (args := [.v (.sl (.sl (.int .i64))) y0, .fn 103 [] [.rp (explode ConT z)]]) fun hx => callW_ok (own := false) (k := y0.length + 1) F115g108.eok mixed Go.Proofs.Tryz.func129 (by kernel_rfl) (show Go.Proofs.Tryz.f129.body = some (bodyOf Go.Proofs.Tryz.f129) by kernel_rfl) (F115g108.sem y0 z (hx (.v (.sl (.sl (.int .i64))) y0) (by simp)).1))⟩
    cases hf with
    | cons a b =>
     cases b with
     | cons b c => exact .cons (pullA_rel hp a) (.cons (fn_rel hq b) c)
 ·rename_i x0 cs
  cases hp : pullA (.sl (.sl (.int .i64))) x0 with
  | none => simp [hp] at h
  | some y0 =>
   cases hq : pullC (.sl (.int .i64)) cs with
   | none => simp [hp, hq] at h
   | some z =>
    simp only [hp, hq] at h
    refine ⟨_, h, spec_args (args' := [.v (.sl (.sl (.int .i64))) y0, .fn 89 [] [.rp ([.v (.sl (.int .i64)) z])]]) (fun w okk us hf => ?_) (spec_fits (args := [.v (.sl (.sl (.int .i64))) y0, .fn 89 [] [.rp ([.v (.sl (.int .i64)) z])]]) fun hx => callW_ok (own := false) (k := y0.length + 1) F115g621.eok mixed Go.Proofs.Tryz.func129 (by kernel_rfl) (show Go.Proofs.Tryz.f129.body = some (bodyOf Go.Proofs.Tryz.f129) by kernel_rfl) (F115g621.sem y0 z (hx (.v (.sl (.sl (.int .i64))) y0) (by simp)).1))⟩
    cases hf with
    | cons a b =>
     cases b with
     | cons b c => exact .cons (pullA_rel hp a) (.cons (fn_rel hq b) c)
 ·simp at h
theorem F107g108.eok : EOk Go.Proofs.Tryz.prog F107g108.E := eo (calls_cons ok115 calls_nil)
theorem F107g621.eok : EOk Go.Proofs.Tryz.prog F107g621.E := eo (calls_cons ok115 calls_nil)
theorem ok107 : HandOk Go.Proofs.Tryz.prog inv 88 h_anyR := by
 intro args κ r h
 unfold h_anyR at h
 split at h
 ·rename_i x0 cs
  cases hp : pullA (.sl (.sl (.int .i64))) x0 with
  | none => simp [hp] at h
  | some y0 =>
   cases hq : pullC (.pair (.int .i64) (.pair (.sl (.int .i64)) (.pair (.sl (.int .i64)) (.pair (.sl (.int .i64)) (.pair (.sl (.int .i64)) (.pair (.sl (.int .i64)) (.pair (.int .i64) (.sl (.sl (.int .i64)))))))))) cs with
   | none => simp [hp, hq] at h
   | some z =>
    simp only [hp, hq] at h
    refine ⟨_, h, spec_args (args' := [.v (.sl (.sl (.int .i64))) y0, .fn 103 [] [.rp (explode ConT z)]]) (fun w okk us hf => ?_) (callW_ok (own := false) (k := 1) F107g108.eok mixed Go.Proofs.Tryz.func88 (by kernel_rfl) (show Go.Proofs.Tryz.f88.body = some (bodyOf Go.Proofs.Tryz.f88) by kernel_rfl) (F107g108.sem 1 y0 z))⟩
    cases hf with
    | cons a b =>
     cases b with
     | cons b c => exact .cons (pullA_rel hp a) (.cons (fn_rel hq b) c)
 ·rename_i x0 cs
  cases hp : pullA (.sl (.sl (.int .i64))) x0 with
  | none => simp [hp] at h
  | some y0 =>
   cases hq : pullC (.sl (.int .i64)) cs with
   | none => simp [hp, hq] at h
   | some z =>
    simp only [hp, hq] at h
    refine ⟨_, h, spec_args (args' := [.v (.sl (.sl (.int .i64))) y0, .fn 89 [] [.rp ([.v (.sl (.int .i64)) z])]]) (fun w okk us hf => ?_) (callW_ok (own := false) (k := 1) F107g621.eok mixed Go.Proofs.Tryz.func88 (by kernel_rfl) (show Go.Proofs.Tryz.f88.body = some (bodyOf Go.Proofs.Tryz.f88) by kernel_rfl) (F107g621.sem 1 y0 z))⟩
    cases hf with
    | cons a b =>
     cases b with
     | cons b c => exact .cons (pullA_rel hp a) (.cons (fn_rel hq b) c)
 ·simp at h
theorem F50.eok : EOk Go.Proofs.Tryz.prog F50.E := eo (calls_cons ok77 (calls_cons ok79 (calls_cons ok80 (calls_cons ok71 (calls_cons ok72 calls_nil)))))
theorem ok50 : HandOk Go.Proofs.Tryz.prog inv 100 h_ofD := hand_un fun xs => spec_fits fun hx => by
 obtain ⟨r, h1, h2⟩ := F50.sem xs.1 ((hx (.v (.sl (.int .i64)) xs.1) (by simp [argsN, argA])).1)
 exact spec_weak h2 (callW_ok (own := false) (k := xs.1.length + 1) F50.eok mixed Go.Proofs.Tryz.func100 (by kernel_rfl) (show Go.Proofs.Tryz.f100.body = some (bodyOf Go.Proofs.Tryz.f100) by kernel_rfl) (h1))
theorem F111.eok : EOk Go.Proofs.Tryz.prog F111.E := eo (calls_cons ok77 calls_nil)
theorem ok111 : HandOk Go.Proofs.Tryz.prog inv 107 h_boundedD := hand_un fun xs => callW_ok (own := false) (k := 1) F111.eok mixed Go.Proofs.Tryz.func107 (by kernel_rfl) (show Go.Proofs.Tryz.f107.body = some (bodyOf Go.Proofs.Tryz.f107) by kernel_rfl) (F111.sem 1 xs.1 xs.2.1)
theorem F82.eok : EOk Go.Proofs.Tryz.prog F82.E := eo calls_nil
theorem ok82 : HandOk Go.Proofs.Tryz.prog inv 64 h_inL := hand_un fun xs => spec_fits fun hx => callW_ok (own := false) (k := xs.1.length + 1) F82.eok mixed Go.Proofs.Tryz.func64 (by kernel_rfl) (show Go.Proofs.Tryz.f64.body = some (bodyOf Go.Proofs.Tryz.f64) by kernel_rfl) (F82.sem xs.1 xs.2.1 xs.2.2.1 (hx (.v (.sl (.int .i64)) xs.1) (by simp [argsN, argA])).1)
end Go.Proofs.YtlfdikofmfhefaaGreatDoor.Ev
