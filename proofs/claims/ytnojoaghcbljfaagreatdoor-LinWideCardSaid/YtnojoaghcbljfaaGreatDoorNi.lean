/-
Linear constraints: the contracts.
Conditions: none.
-/
import Derived.Test.YtnojoaghcbljfaaGreatDoorCn
import Derived.Test.YtnojoaghcbljfaaGreatDoorNf
import Derived.Test.YtnojoaghcbljfaaGreatDoorNh
import Derived.Test.YtnojoaghcbljfaaGreatDoorBh
set_option linter.unusedVariables false
set_option linter.unusedSimpArgs false
set_option maxRecDepth 100000
namespace Go.Proofs.YtnojoaghcbljfaaGreatDoor.Ev
open Go Go.RowKit
theorem F469.eok : EOk Go.Proofs.Tryz.prog F469.E := eo calls_nil
theorem ok469 : HandOk Go.Proofs.Tryz.prog inv 169 h_cloneU := hand_if fun xs hc => by
 obtain ⟨l, u⟩ := xs
 cases l with
 | nil => exact cloneU_empty
 | cons a b => exact callW_ok (own := true) (k := 1) F469.eok mixed Go.Proofs.Tryz.func169 (by kernel_rfl) (show Go.Proofs.Tryz.f169.body = some (bodyOf Go.Proofs.Tryz.f169) by kernel_rfl) (F469.sem 1 (a :: b) hc (by simp))
theorem F380.eok : EOk Go.Proofs.Tryz.prog F380.E := eo calls_nil
theorem ok380 : HandOk Go.Proofs.Tryz.prog inv 80 h_cloneD := hand_if fun xs hc => callW_ok (own := true) (k := 1) F380.eok mixed Go.Proofs.Tryz.func80 (by kernel_rfl) (show Go.Proofs.Tryz.f80.body = some (bodyOf Go.Proofs.Tryz.f80) by kernel_rfl) (F380.sem 1 xs.1 hc)
theorem F362.eok : EOk Go.Proofs.Tryz.prog F362.E := eo calls_nil
theorem ok362 : HandOk Go.Proofs.Tryz.prog inv 62 h_minD := hand_un fun xs => callW_ok (own := false) (k := 1) F362.eok mixed Go.Proofs.Tryz.func62 (by kernel_rfl) (show Go.Proofs.Tryz.f62.body = some (bodyOf Go.Proofs.Tryz.f62) by kernel_rfl) (F362.sem 1 xs.1)
theorem F386.eok : EOk Go.Proofs.Tryz.prog F386.E := eo calls_nil
theorem ok386 : HandOk Go.Proofs.Tryz.prog inv 86 h_maxD := hand_un fun xs => callW_ok (own := false) (k := 1) F386.eok mixed Go.Proofs.Tryz.func86 (by kernel_rfl) (show Go.Proofs.Tryz.f86.body = some (bodyOf Go.Proofs.Tryz.f86) by kernel_rfl) (F386.sem 1 xs.1)
theorem F465.eok : EOk Go.Proofs.Tryz.prog F465.E := eo calls_nil
theorem ok465 : HandOk Go.Proofs.Tryz.prog inv 165 h_rightN := hand_un fun xs => callW_ok (own := false) (k := 1) F465.eok mixed Go.Proofs.Tryz.func165 (by kernel_rfl) (show Go.Proofs.Tryz.f165.body = some (bodyOf Go.Proofs.Tryz.f165) by kernel_rfl) (F465.sem 1 xs.1 xs.2.1)
theorem F441.eok : EOk Go.Proofs.Tryz.prog F441.E := eo (calls_cons ok465 calls_nil)
theorem ok441 : HandOk Go.Proofs.Tryz.prog inv 141 h_floorN := hand_if fun xs hc => callW_ok (own := false) (k := 1) F441.eok mixed Go.Proofs.Tryz.func141 (by kernel_rfl) (show Go.Proofs.Tryz.f141.body = some (bodyOf Go.Proofs.Tryz.f141) by kernel_rfl) (F441.sem 1 xs.1 xs.2.1 hc)
theorem F443.eok : EOk Go.Proofs.Tryz.prog F443.E := eo (calls_cons ok465 calls_nil)
theorem ok443 : HandOk Go.Proofs.Tryz.prog inv 143 h_ceilN := hand_if fun xs hc => callW_ok (own := false) (k := 1) F443.eok mixed Go.Proofs.Tryz.func143 (by kernel_rfl) (show Go.Proofs.Tryz.f143.body = some (bodyOf Go.Proofs.Tryz.f143) by kernel_rfl) (F443.sem 1 xs.1 xs.2.1 hc)
theorem F467.eok : EOk Go.Proofs.Tryz.prog F467.E := eo calls_nil
theorem ok467 : HandOk Go.Proofs.Tryz.prog inv 167 h_aboveD := hand_if fun xs hc => callW_ok (own := false) (k := 1) F467.eok mixed Go.Proofs.Tryz.func167 (by kernel_rfl) (show Go.Proofs.Tryz.f167.body = some (bodyOf Go.Proofs.Tryz.f167) by kernel_rfl) (F467.sem 1 xs.1 xs.2.1 hc)
theorem F446.eok : EOk Go.Proofs.Tryz.prog F446.E := eo (calls_cons ok68 calls_nil)
theorem ok446 : HandOk Go.Proofs.Tryz.prog inv 146 h_noK := by
 intro args κ r h
 unfold h_noK at h
 split at h
 case h_2 => simp at h
 rename_i x0 x1 cs
 cases hp : pullA (.int .i64) x0 with
 | none => simp [hp] at h
 | some a =>
  cases hp1 : pullA (.int .u64) x1 with
  | none => simp [hp, hp1] at h
  | some v =>
   cases hq : pullC (.int .i64) cs with
   | none => simp [hp, hp1, hq] at h
   | some e =>
    simp only [hp, hp1, hq] at h
    cases hc : noKB e a with
    | false => simp [hc] at h
    | true =>
     simp only [hc, cond_true] at h
     refine ⟨_, h, spec_args (args' := [.v (.int .i64) a, .v (.int .u64) v, .rp (explode (.int .i64) e)]) (fun w okk us hf => ?_) (callW_ok (own := false) (k := 1) F446.eok mixed Go.Proofs.Tryz.func146 (by kernel_rfl) (show Go.Proofs.Tryz.f146.body = some (bodyOf Go.Proofs.Tryz.f146) by kernel_rfl) (F446.sem 1 a v e hc))⟩
     cases hf with
     | cons a1 b1 =>
      cases b1 with
      | cons b1 c1 =>
       cases c1 with
       | cons c1 d1 => exact .cons (pullA_rel hp a1) (.cons (pullA_rel hp1 b1) (.cons (rp_rel hq c1) d1))
theorem F447.eok : EOk Go.Proofs.Tryz.prog F447.E := eo (calls_cons ok67 calls_nil)
theorem ok447 : HandOk Go.Proofs.Tryz.prog inv 147 h_andK := by
 intro args κ r h
 unfold h_andK at h
 split at h
 case h_2 => simp at h
 rename_i x0 x1 cs
 cases hp : pullA (.int .i64) x0 with
 | none => simp [hp] at h
 | some a =>
  cases hp1 : pullA (.int .u64) x1 with
  | none => simp [hp, hp1] at h
  | some v =>
   cases hq : pullC (.pair (.int .i64) (.pair (.sl (.int .u64)) (.pair (.int .i64) (.pair (.int .i64) (.int .i64))))) cs with
   | none => simp [hp, hp1, hq] at h
   | some e =>
    simp only [hp, hp1, hq] at h
    cases hc : andKB e a with
    | false => simp [hc] at h
    | true =>
     simp only [hc, cond_true] at h
     refine ⟨_, h, spec_args (args' := [.v (.int .i64) a, .v (.int .u64) v, .rp (explode (.pair (.int .i64) (.pair (.sl (.int .u64)) (.pair (.int .i64) (.pair (.int .i64) (.int .i64))))) e)]) (fun w okk us hf => ?_) (callW_ok (own := false) (k := 1) F447.eok mixed Go.Proofs.Tryz.func147 (by kernel_rfl) (show Go.Proofs.Tryz.f147.body = some (bodyOf Go.Proofs.Tryz.f147) by kernel_rfl) (F447.sem 1 a v e hc))⟩
     cases hf with
     | cons a1 b1 =>
      cases b1 with
      | cons b1 c1 =>
       cases c1 with
       | cons c1 d1 => exact .cons (pullA_rel hp a1) (.cons (pullA_rel hp1 b1) (.cons (rp_rel hq c1) d1))
theorem F466.eok : EOk Go.Proofs.Tryz.prog F466.E := eo (calls_cons ok467 calls_nil)
theorem ok466 : HandOk Go.Proofs.Tryz.prog inv 166 h_mostK := by
 intro args κ r h
 unfold h_mostK at h
 split at h
 case h_2 => simp at h
 rename_i x0 x1 cs
 cases hp : pullA (.int .i64) x0 with
 | none => simp [hp] at h
 | some a =>
  cases hp1 : pullA (.int .u64) x1 with
  | none => simp [hp, hp1] at h
  | some v =>
   cases hq : pullC (.int .i64) cs with
   | none => simp [hp, hp1, hq] at h
   | some e =>
    simp only [hp, hp1, hq] at h
    cases hc : mostKB e a with
    | false => simp [hc] at h
    | true =>
     simp only [hc, cond_true] at h
     refine ⟨_, h, spec_args (args' := [.v (.int .i64) a, .v (.int .u64) v, .rp (explode (.int .i64) e)]) (fun w okk us hf => ?_) (callW_ok (own := false) (k := 1) F466.eok mixed Go.Proofs.Tryz.func166 (by kernel_rfl) (show Go.Proofs.Tryz.f166.body = some (bodyOf Go.Proofs.Tryz.f166) by kernel_rfl) (F466.sem 1 a v e hc))⟩
     cases hf with
     | cons a1 b1 =>
      cases b1 with
      | cons b1 c1 =>
       cases c1 with
       | cons c1 d1 => exact .cons (pullA_rel hp a1) (.cons (pullA_rel hp1 b1) (.cons (rp_rel hq c1) d1))
theorem F468.eok : EOk Go.Proofs.Tryz.prog F468.E := eo (calls_cons ok467 calls_nil)
theorem ok468 : HandOk Go.Proofs.Tryz.prog inv 168 h_leastK := by
 intro args κ r h
 unfold h_leastK at h
 split at h
 case h_2 => simp at h
 rename_i x0 x1 cs
 cases hp : pullA (.int .i64) x0 with
 | none => simp [hp] at h
 | some a =>
  cases hp1 : pullA (.int .u64) x1 with
  | none => simp [hp, hp1] at h
  | some v =>
   cases hq : pullC (.int .i64) cs with
   | none => simp [hp, hp1, hq] at h
   | some e =>
    simp only [hp, hp1, hq] at h
    cases hc : leastKB e a with
    | false => simp [hc] at h
    | true =>
     simp only [hc, cond_true] at h
     refine ⟨_, h, spec_args (args' := [.v (.int .i64) a, .v (.int .u64) v, .rp (explode (.int .i64) e)]) (fun w okk us hf => ?_) (callW_ok (own := false) (k := 1) F468.eok mixed Go.Proofs.Tryz.func168 (by kernel_rfl) (show Go.Proofs.Tryz.f168.body = some (bodyOf Go.Proofs.Tryz.f168) by kernel_rfl) (F468.sem 1 a v e hc))⟩
     cases hf with
     | cons a1 b1 =>
      cases b1 with
      | cons b1 c1 =>
       cases c1 with
       | cons c1 d1 => exact .cons (pullA_rel hp a1) (.cons (pullA_rel hp1 b1) (.cons (rp_rel hq c1) d1))
theorem F445g447.eok : EOk Go.Proofs.Tryz.prog F445g447.E := eo (calls_cons ok72 (calls_cons ok447 (calls_cons ok469 calls_nil)))
theorem F445g446.eok : EOk Go.Proofs.Tryz.prog F445g446.E := eo (calls_cons ok72 (calls_cons ok446 (calls_cons ok469 calls_nil)))
theorem F445g466.eok : EOk Go.Proofs.Tryz.prog F445g466.E := eo (calls_cons ok72 (calls_cons ok466 (calls_cons ok469 calls_nil)))
theorem F445g468.eok : EOk Go.Proofs.Tryz.prog F445g468.E := eo (calls_cons ok72 (calls_cons ok468 (calls_cons ok469 calls_nil)))
theorem ok445 : HandOk Go.Proofs.Tryz.prog inv 145 h_less := by
 intro args κ r h
 unfold h_less at h
 split at h
 ·rename_i x0 cs
  cases hp : pullA DomT x0 with
  | none => simp [hp] at h
  | some d =>
   cases hq : pullC (.pair (.int .i64) (.pair (.sl (.int .u64)) (.pair (.int .i64) (.pair (.int .i64) (.int .i64))))) cs with
   | none => simp [hp, hq] at h
   | some e =>
    simp only [hp, hq] at h
    cases hc : cutB d (andKB e) with
    | false => simp [hc] at h
    | true =>
     simp only [hc, cond_true] at h
     obtain ⟨r', h1, h2⟩ := F445g447.sem d e hc
     refine ⟨_, h, spec_args (args' := [.agg (explode DomT d), .fn 147 [] [.rp (explode (.pair (.int .i64) (.pair (.sl (.int .u64)) (.pair (.int .i64) (.pair (.int .i64) (.int .i64))))) e)]]) (fun w okk us hf => ?_) (spec_weak h2 (callW_ok (own := false) (k := 1000002) F445g447.eok mixed Go.Proofs.Tryz.func145 (by kernel_rfl) (show Go.Proofs.Tryz.f145.body = some (bodyOf Go.Proofs.Tryz.f145) by kernel_rfl) (h1)))⟩
     cases hf with
     | cons a b =>
      cases b with
      | cons b c => exact .cons (pullA_rel hp a) (.cons (fn_rel hq b) c)
 ·rename_i x0 cs
  cases hp : pullA DomT x0 with
  | none => simp [hp] at h
  | some d =>
   cases hq : pullC (.int .i64) cs with
   | none => simp [hp, hq] at h
   | some e =>
    simp only [hp, hq] at h
    cases hc : cutB d (noKB e) with
    | false => simp [hc] at h
    | true =>
     simp only [hc, cond_true] at h
     obtain ⟨r', h1, h2⟩ := F445g446.sem d e hc
     refine ⟨_, h, spec_args (args' := [.agg (explode DomT d), .fn 146 [] [.rp (explode (.int .i64) e)]]) (fun w okk us hf => ?_) (spec_weak h2 (callW_ok (own := false) (k := 1000002) F445g446.eok mixed Go.Proofs.Tryz.func145 (by kernel_rfl) (show Go.Proofs.Tryz.f145.body = some (bodyOf Go.Proofs.Tryz.f145) by kernel_rfl) (h1)))⟩
     cases hf with
     | cons a b =>
      cases b with
      | cons b c => exact .cons (pullA_rel hp a) (.cons (fn_rel hq b) c)
 ·rename_i x0 cs
  cases hp : pullA DomT x0 with
  | none => simp [hp] at h
  | some d =>
   cases hq : pullC (.int .i64) cs with
   | none => simp [hp, hq] at h
   | some e =>
    simp only [hp, hq] at h
    cases hc : cutB d (mostKB e) with
    | false => simp [hc] at h
    | true =>
     simp only [hc, cond_true] at h
     obtain ⟨r', h1, h2⟩ := F445g466.sem d e hc
     refine ⟨_, h, spec_args (args' := [.agg (explode DomT d), .fn 166 [] [.rp (explode (.int .i64) e)]]) (fun w okk us hf => ?_) (spec_weak h2 (callW_ok (own := false) (k := 1000002) F445g466.eok mixed Go.Proofs.Tryz.func145 (by kernel_rfl) (show Go.Proofs.Tryz.f145.body = some (bodyOf Go.Proofs.Tryz.f145) by kernel_rfl) (h1)))⟩
     cases hf with
     | cons a b =>
      cases b with
      | cons b c => exact .cons (pullA_rel hp a) (.cons (fn_rel hq b) c)
 ·rename_i x0 cs
  cases hp : pullA DomT x0 with
  | none => simp [hp] at h
  | some d =>
   cases hq : pullC (.int .i64) cs with
   | none => simp [hp, hq] at h
   | some e =>
    simp only [hp, hq] at h
    cases hc : cutB d (leastKB e) with
    | false => simp [hc] at h
    | true =>
     simp only [hc, cond_true] at h
     obtain ⟨r', h1, h2⟩ := F445g468.sem d e hc
     refine ⟨_, h, spec_args (args' := [.agg (explode DomT d), .fn 168 [] [.rp (explode (.int .i64) e)]]) (fun w okk us hf => ?_) (spec_weak h2 (callW_ok (own := false) (k := 1000002) F445g468.eok mixed Go.Proofs.Tryz.func145 (by kernel_rfl) (show Go.Proofs.Tryz.f145.body = some (bodyOf Go.Proofs.Tryz.f145) by kernel_rfl) (h1)))⟩
     cases hf with
     | cons a b =>
      cases b with
      | cons b c => exact .cons (pullA_rel hp a) (.cons (fn_rel hq b) c)
 ·simp at h
theorem F412.eok : EOk Go.Proofs.Tryz.prog F412.E := eo (calls_cons ok445 calls_nil)
theorem ok412 : HandOk Go.Proofs.Tryz.prog inv 112 h_andD := hand_if fun xs hc => callW_ok (own := false) (k := 1) F412.eok mixed Go.Proofs.Tryz.func112 (by kernel_rfl) (show Go.Proofs.Tryz.f112.body = some (bodyOf Go.Proofs.Tryz.f112) by kernel_rfl) (F412.sem 1 xs.1 xs.2.1 hc)
theorem F442.eok : EOk Go.Proofs.Tryz.prog F442.E := eo (calls_cons ok445 calls_nil)
theorem ok442 : HandOk Go.Proofs.Tryz.prog inv 142 h_atMost := hand_if fun xs hc => callW_ok (own := false) (k := 1) F442.eok mixed Go.Proofs.Tryz.func142 (by kernel_rfl) (show Go.Proofs.Tryz.f142.body = some (bodyOf Go.Proofs.Tryz.f142) by kernel_rfl) (F442.sem 1 xs.1 xs.2.1 hc)
theorem F444.eok : EOk Go.Proofs.Tryz.prog F444.E := eo (calls_cons ok445 calls_nil)
theorem ok444 : HandOk Go.Proofs.Tryz.prog inv 144 h_atLeast := hand_if fun xs hc => callW_ok (own := false) (k := 1) F444.eok mixed Go.Proofs.Tryz.func144 (by kernel_rfl) (show Go.Proofs.Tryz.f144.body = some (bodyOf Go.Proofs.Tryz.f144) by kernel_rfl) (F444.sem 1 xs.1 xs.2.1 hc)
theorem F411.eok : EOk Go.Proofs.Tryz.prog F411.E := eo (calls_cons ok445 calls_nil)
theorem ok411 : HandOk Go.Proofs.Tryz.prog inv 111 h_without := hand_if fun xs hc => callW_ok (own := false) (k := 1) F411.eok mixed Go.Proofs.Tryz.func111 (by kernel_rfl) (show Go.Proofs.Tryz.f111.body = some (bodyOf Go.Proofs.Tryz.f111) by kernel_rfl) (F411.sem 1 xs.1 xs.2.1 hc)
theorem F410.eok : EOk Go.Proofs.Tryz.prog F410.E := eo (calls_cons ok362 (calls_cons ok386 calls_nil))
theorem ok410 : HandOk Go.Proofs.Tryz.prog inv 110 h_leastT := hand_if fun xs hc => callW_ok (own := false) (k := 1) F410.eok mixed Go.Proofs.Tryz.func110 (by kernel_rfl) (show Go.Proofs.Tryz.f110.body = some (bodyOf Go.Proofs.Tryz.f110) by kernel_rfl) (F410.sem 1 xs.1 xs.2.1 hc)
theorem F408.eok : EOk Go.Proofs.Tryz.prog F408.E := eo (calls_cons ok410 calls_nil)
theorem ok408 : HandOk Go.Proofs.Tryz.prog inv 108 h_lowsD := hand_if fun xs hc => callW_ok (own := false) (k := 1002) F408.eok mixed Go.Proofs.Tryz.func108 (by kernel_rfl) (show Go.Proofs.Tryz.f108.body = some (bodyOf Go.Proofs.Tryz.f108) by kernel_rfl) (F408.sem xs.1 xs.2.1 hc)
theorem F407.eok : EOk Go.Proofs.Tryz.prog F407.E := eo calls_nil
theorem ok407 : HandOk Go.Proofs.Tryz.prog inv 107 h_turnedL := hand_if fun xs hc => callW_ok (own := false) (k := 1002) F407.eok mixed Go.Proofs.Tryz.func107 (by kernel_rfl) (show Go.Proofs.Tryz.f107.body = some (bodyOf Go.Proofs.Tryz.f107) by kernel_rfl) (F407.sem xs.1 hc)
theorem F409.eok : EOk Go.Proofs.Tryz.prog F409.E := eo (calls_cons ok441 (calls_cons ok442 (calls_cons ok443 (calls_cons ok444 calls_nil))))
theorem ok409 : HandOk Go.Proofs.Tryz.prog inv 109 h_cutT := hand_if fun xs hc => by
 obtain ⟨r, h1, h2⟩ := F409.sem 1 xs.1 xs.2.1 xs.2.2.1 hc
 exact spec_weak h2 (callW_ok (own := false) (k := 1) F409.eok mixed Go.Proofs.Tryz.func109 (by kernel_rfl) (show Go.Proofs.Tryz.f109.body = some (bodyOf Go.Proofs.Tryz.f109) by kernel_rfl) (h1))
theorem F378.eok : EOk Go.Proofs.Tryz.prog F378.E := eo (calls_cons ok380 (calls_cons ok408 (calls_cons ok409 (calls_cons ok410 calls_nil))))
theorem ok378 : HandOk Go.Proofs.Tryz.prog inv 78 h_boundD := hand_if fun xs hc => by
 obtain ⟨r, h1, h2⟩ := F378.sem xs.1 xs.2.1 xs.2.2.1 hc
 exact spec_weak h2 (callW_ok (own := false) (k := 1002) F378.eok mixed Go.Proofs.Tryz.func78 (by kernel_rfl) (show Go.Proofs.Tryz.f78.body = some (bodyOf Go.Proofs.Tryz.f78) by kernel_rfl) (h1))
theorem F378o.eok : EOk Go.Proofs.Tryz.prog F378o.E := eo (calls_cons ok380 (calls_cons ok408 (calls_cons ok409 (calls_cons ok410 calls_nil))))
theorem ok378o : HandOk Go.Proofs.Tryz.prog inv 78 h_boundO := hand_if2 (fun xs hc hd => callW_ok (own := true) (k := 1002) F378o.eok mixed Go.Proofs.Tryz.func78 (by kernel_rfl) (show Go.Proofs.Tryz.f78.body = some (bodyOf Go.Proofs.Tryz.f78) by kernel_rfl) ((F378o.sem xs.1 xs.2.1 xs.2.2.1 hc).trans (bT' hd))) (fun xs hc hd => callW_ok (own := true) (k := 1002) F378o.eok mixed Go.Proofs.Tryz.func78 (by kernel_rfl) (show Go.Proofs.Tryz.f78.body = some (bodyOf Go.Proofs.Tryz.f78) by kernel_rfl) ((F378o.sem xs.1 xs.2.1 xs.2.2.1 hc).trans (bF' hd)))
theorem F377.eok : EOk Go.Proofs.Tryz.prog F377.E := eo (calls_cons ok378 (calls_cons ok407 calls_nil))
theorem ok377 : HandOk Go.Proofs.Tryz.prog inv 77 h_equalF := hand_if fun xs hc => by
 obtain ⟨r, h1, h2⟩ := F377.sem xs.1 xs.2.1 hc
 exact spec_weak h2 (callW_ok (own := false) (k := 100000) F377.eok mixed Go.Proofs.Tryz.func77 (by kernel_rfl) (show Go.Proofs.Tryz.f77.body = some (bodyOf Go.Proofs.Tryz.f77) by kernel_rfl) (h1))
theorem F379.eok : EOk Go.Proofs.Tryz.prog F379.E := eo (calls_cons ok362 (calls_cons ok380 (calls_cons ok75 (calls_cons ok411 calls_nil))))
theorem ok379 : HandOk Go.Proofs.Tryz.prog inv 79 h_unlikeF := hand_if fun xs hc => callW_ok (own := false) (k := 1002) F379.eok mixed Go.Proofs.Tryz.func79 (by kernel_rfl) (show Go.Proofs.Tryz.f79.body = some (bodyOf Go.Proofs.Tryz.f79) by kernel_rfl) (F379.sem xs.1 xs.2.1 hc)
noncomputable def E413 : Env := ⟨tt, [(51, callH E46 false Go.Proofs.Tryz.f51 100)], [], [], none, inv, []⟩
theorem w413 : callW E413 false Go.Proofs.Tryz.f113 100 [] = some (.agg (explode DomT truthsD)) := by kernel_rfl
theorem ok413 : HandOk Go.Proofs.Tryz.prog inv 113 h_truths := hand_un fun xs => callW_ok (own := false) (k := 100) (eo (calls_cons ok46 calls_nil) : EOk Go.Proofs.Tryz.prog E413) mixed Go.Proofs.Tryz.func113 (by kernel_rfl) (show Go.Proofs.Tryz.f113.body = some (bodyOf Go.Proofs.Tryz.f113) by kernel_rfl) w413
theorem F381.eok : EOk Go.Proofs.Tryz.prog F381.E := eo (calls_cons ok362 (calls_cons ok378o (calls_cons ok380 (calls_cons ok75 (calls_cons ok407 (calls_cons ok408 (calls_cons ok411 (calls_cons ok412 (calls_cons ok413 calls_nil)))))))))
theorem ok381 : HandOk Go.Proofs.Tryz.prog inv 81 h_reifiedF := hand_if fun xs hc => by
 obtain ⟨r, h1, h2⟩ := F381.sem xs.1 xs.2.1 hc
 exact spec_weak h2 (callW_ok (own := false) (k := 1) F381.eok mixed Go.Proofs.Tryz.func81 (by kernel_rfl) (show Go.Proofs.Tryz.f81.body = some (bodyOf Go.Proofs.Tryz.f81) by kernel_rfl) (h1))
theorem F339.eok : EOk Go.Proofs.Tryz.prog F339.E := eo (calls_cons ok48 (calls_cons ok377 (calls_cons ok378 (calls_cons ok379 (calls_cons ok380 (calls_cons ok381 calls_nil))))))
theorem ok339 : HandOk Go.Proofs.Tryz.prog inv 39 h_linF := hand_if fun xs hc => by
 obtain ⟨r, h1, h2⟩ := F339.sem 1 xs.1 xs.2.1 hc
 exact spec_weak h2 (callW_ok (own := false) (k := 1) F339.eok mixed Go.Proofs.Tryz.func39 (by kernel_rfl) (show Go.Proofs.Tryz.f39.body = some (bodyOf Go.Proofs.Tryz.f39) by kernel_rfl) (h1))
theorem F414.eok : EOk Go.Proofs.Tryz.prog F414.E := eo calls_nil
theorem ok414 : HandOk Go.Proofs.Tryz.prog inv 114 h_lowR := hand_if fun xs hc => callW_ok (own := false) (k := 1) F414.eok mixed Go.Proofs.Tryz.func114 (by kernel_rfl) (show Go.Proofs.Tryz.f114.body = some (bodyOf Go.Proofs.Tryz.f114) by kernel_rfl) (F414.sem 1 xs.1 xs.2.1 hc)
theorem F383.eok : EOk Go.Proofs.Tryz.prog F383.E := eo (calls_cons ok414 calls_nil)
theorem ok383 : HandOk Go.Proofs.Tryz.prog inv 83 h_byR := hand_if fun xs hc => by
 obtain ⟨r, h1, h2⟩ := F383.sem xs.1 xs.2.1 xs.2.2.1 xs.2.2.2.1 hc
 exact spec_weak h2 (callW_ok (own := false) (k := 200000) F383.eok mixed Go.Proofs.Tryz.func83 (by kernel_rfl) (show Go.Proofs.Tryz.f83.body = some (bodyOf Go.Proofs.Tryz.f83) by kernel_rfl) (h1))
theorem F383o.eok : EOk Go.Proofs.Tryz.prog F383o.E := eo (calls_cons ok414 calls_nil)
theorem ok383o : HandOk Go.Proofs.Tryz.prog inv 83 h_byO := hand_if2 (fun xs hc hd => callW_ok (own := true) (k := 200000) F383o.eok mixed Go.Proofs.Tryz.func83 (by kernel_rfl) (show Go.Proofs.Tryz.f83.body = some (bodyOf Go.Proofs.Tryz.f83) by kernel_rfl) ((F383o.sem xs.1 xs.2.1 xs.2.2.1 xs.2.2.2.1 hc).trans (bT' hd))) (fun xs hc hd => callW_ok (own := true) (k := 200000) F383o.eok mixed Go.Proofs.Tryz.func83 (by kernel_rfl) (show Go.Proofs.Tryz.f83.body = some (bodyOf Go.Proofs.Tryz.f83) by kernel_rfl) ((F383o.sem xs.1 xs.2.1 xs.2.2.1 xs.2.2.2.1 hc).trans (bF' hd)))
theorem F382.eok : EOk Go.Proofs.Tryz.prog F382.E := eo (calls_cons ok22 (calls_cons ok383 calls_nil))
theorem ok382 : HandOk Go.Proofs.Tryz.prog inv 82 h_equalR := hand_if fun xs hc => by
 obtain ⟨r, h1, h2⟩ := F382.sem xs.1 xs.2.1 hc
 exact spec_weak h2 (callW_ok (own := false) (k := 100000) F382.eok mixed Go.Proofs.Tryz.func82 (by kernel_rfl) (show Go.Proofs.Tryz.f82.body = some (bodyOf Go.Proofs.Tryz.f82) by kernel_rfl) (h1))
theorem F384.eok : EOk Go.Proofs.Tryz.prog F384.E := eo calls_nil
theorem ok384 : HandOk Go.Proofs.Tryz.prog inv 84 h_unlikeR := hand_if fun xs hc => by
 obtain ⟨r, h1, h2⟩ := F384.sem xs.1 xs.2.1 hc
 exact spec_weak h2 (callW_ok (own := false) (k := 200000) F384.eok mixed Go.Proofs.Tryz.func84 (by kernel_rfl) (show Go.Proofs.Tryz.f84.body = some (bodyOf Go.Proofs.Tryz.f84) by kernel_rfl) (h1))
theorem F385.eok : EOk Go.Proofs.Tryz.prog F385.E := eo (calls_cons ok383o (calls_cons ok414 (calls_cons ok87 calls_nil)))
theorem ok385 : HandOk Go.Proofs.Tryz.prog inv 85 h_reifiedR := hand_if fun xs hc => by
 obtain ⟨r, h1, h2⟩ := F385.sem xs.1 xs.2.1 hc
 exact spec_weak h2 (callW_ok (own := false) (k := 200000) F385.eok mixed Go.Proofs.Tryz.func85 (by kernel_rfl) (show Go.Proofs.Tryz.f85.body = some (bodyOf Go.Proofs.Tryz.f85) by kernel_rfl) (h1))
theorem F341.eok : EOk Go.Proofs.Tryz.prog F341.E := eo (calls_cons ok25 (calls_cons ok382 (calls_cons ok383 (calls_cons ok384 (calls_cons ok385 calls_nil)))))
theorem ok341 : HandOk Go.Proofs.Tryz.prog inv 41 h_linR := hand_if fun xs hc => by
 obtain ⟨r, h1, h2⟩ := F341.sem 1 xs.1 xs.2.1 hc
 exact spec_weak h2 (callW_ok (own := false) (k := 1) F341.eok mixed Go.Proofs.Tryz.func41 (by kernel_rfl) (show Go.Proofs.Tryz.f41.body = some (bodyOf Go.Proofs.Tryz.f41) by kernel_rfl) (h1))
theorem F340.sem (l : List (List Int)) (hl : l.length ≤ 1000) : callW F340.E false F340.fn 1001 [.v (.sl (.sl (.int .i64))) l] = some (.v (.sl DomT) (domsL l)) := by
 rw [F340.start_eq]
 refine (doms_loop (L := fun n i acc => F340.l1_1_0_1_0 n _ l l.length i acc) l hl (fun n i acc => F340.l1_1_0_1_0_eq n _ l _ i acc)).trans ?_
 exact F340.c0 _ _
theorem F340.eok : EOk Go.Proofs.Tryz.prog F340.E := eo (calls_cons ok50 calls_nil)
theorem ok340 : HandOk Go.Proofs.Tryz.prog inv 40 h_doms340 := hand_if fun xs hc => callW_ok (own := false) (k := 1001) F340.eok mixed Go.Proofs.Tryz.func40 (by kernel_rfl) (show Go.Proofs.Tryz.f40.body = some (bodyOf Go.Proofs.Tryz.f40) by kernel_rfl) (F340.sem xs.1 (by have h := hc; rwa [Nat.ble_eq] at h))
theorem F343.sem (l : List Dom) (hl : l.length ≤ 1000) (hb : l.all listB = true) : callW F343.E false F343.fn 1001 [.v (.sl DomT) l] = some (.v (.sl (.sl (.int .i64))) (listsL l)) := by
 refine (F343.start_eq _ l).trans ?_
 refine (lists_loop (L := fun n i acc => F343.l1_1_0_1_0 n _ l l.length i acc) l hl hb (fun n i acc => F343.l1_1_0_1_0_eq n _ l _ i acc)).trans ?_
 exact F343.c0 _ _
theorem F343.eok : EOk Go.Proofs.Tryz.prog F343.E := eo (calls_cons ok29 calls_nil)
theorem ok343 : HandOk Go.Proofs.Tryz.prog inv 43 h_lists343 := hand_if fun xs hc => by
 have hc2 := (Bool.and_eq_true _ _).mp hc
 exact callW_ok (own := false) (k := 1001) F343.eok mixed Go.Proofs.Tryz.func43 (by kernel_rfl) (show Go.Proofs.Tryz.f43.body = some (bodyOf Go.Proofs.Tryz.f43) by kernel_rfl) (F343.sem xs.1 (by have h := hc2.1; rwa [Nat.ble_eq] at h) hc2.2)
noncomputable def E342 : Env := ⟨tt, [(39, h_linF), (86, h_maxD), (51, callH E46 false Go.Proofs.Tryz.f51 100), (38, callH E47 false Go.Proofs.Tryz.f38 100)], [], [], none, inv, []⟩
theorem w342 : callW E342 false Go.Proofs.Tryz.f42 100 [] = some (.v .bool true) := by kernel_rfl
theorem ok342 : HandOk Go.Proofs.Tryz.prog inv 42 h_wakes342 := hand_un fun xs => callW_ok (own := false) (k := 100) (eo (calls_cons ok339 (calls_cons ok386 (calls_cons ok46 (calls_cons ok47 calls_nil))))) mixed Go.Proofs.Tryz.func42 (by kernel_rfl) (show Go.Proofs.Tryz.f42.body = some (bodyOf Go.Proofs.Tryz.f42) by kernel_rfl) w342
end Go.Proofs.YtnojoaghcbljfaaGreatDoor.Ev
