/-
Two rows in order: the contracts.
Conditions: none.
-/
import Derived.Test.YtnojoaghcbljfaaGreatDoorLh
import Derived.Test.YtnojoaghcbljfaaGreatDoorBh
import Derived.Test.YtnojoaghcbljfaaGreatDoorLz
set_option linter.unusedVariables false
set_option linter.unusedSimpArgs false
set_option maxRecDepth 100000
namespace Go.Proofs.YtnojoaghcbljfaaGreatDoor.Ev
open Go Go.RowKit
theorem F469.eok : EOk Go.Proofs.Tryz.prog F469.E := eo calls_nil
theorem ok469 : HandOk Go.Proofs.Tryz.prog inv 169 h_cloneU := hand_if fun xs hc => callW_ok (own := true) (k := 1) F469.eok mixed Go.Proofs.Tryz.func169 (by kernel_rfl) (show Go.Proofs.Tryz.f169.body = some (bodyOf Go.Proofs.Tryz.f169) by kernel_rfl) (F469.sem 1 xs.1 hc)
theorem F318.eok : EOk Go.Proofs.Tryz.prog F318.E := eo calls_nil
theorem ok318 : HandOk Go.Proofs.Tryz.prog inv 18 h_cloneR := hand_if fun xs hc => callW_ok (own := true) (k := 1) F318.eok mixed Go.Proofs.Tryz.func18 (by kernel_rfl) (show Go.Proofs.Tryz.f18.body = some (bodyOf Go.Proofs.Tryz.f18) by kernel_rfl) (F318.sem 1 xs.1 hc)
theorem F362.eok : EOk Go.Proofs.Tryz.prog F362.E := eo calls_nil
theorem ok362 : HandOk Go.Proofs.Tryz.prog inv 62 h_minD := hand_un fun xs => callW_ok (own := false) (k := 1) F362.eok mixed Go.Proofs.Tryz.func62 (by kernel_rfl) (show Go.Proofs.Tryz.f62.body = some (bodyOf Go.Proofs.Tryz.f62) by kernel_rfl) (F362.sem 1 xs.1)
theorem F386.eok : EOk Go.Proofs.Tryz.prog F386.E := eo calls_nil
theorem ok386 : HandOk Go.Proofs.Tryz.prog inv 86 h_maxD := hand_un fun xs => callW_ok (own := false) (k := 1) F386.eok mixed Go.Proofs.Tryz.func86 (by kernel_rfl) (show Go.Proofs.Tryz.f86.body = some (bodyOf Go.Proofs.Tryz.f86) by kernel_rfl) (F386.sem 1 xs.1)
theorem F447.eok : EOk Go.Proofs.Tryz.prog F447.E := eo (calls_cons ok67 calls_nil)
theorem ok447 : HandOk Go.Proofs.Tryz.prog inv 147 h_andK := by
 intro args κ r h
 unfold h_andK at h
 split at h
 case h_2 => simp at h
 rename_i x0 x1 cs
 cases hp : pullA (.int .i64) x0 with
 | none => simp [hp] at h
 | some a =>
  cases hp1 : pullA (.int .u64) x1 with
  | none => simp [hp, hp1] at h
  | some v =>
   cases hq : pullC (.pair (.int .i64) (.pair (.sl (.int .u64)) (.pair (.int .i64) (.pair (.int .i64) (.int .i64))))) cs with
   | none => simp [hp, hp1, hq] at h
   | some e =>
    simp only [hp, hp1, hq] at h
    cases hc : andKB e a with
    | false => simp [hc] at h
    | true =>
     simp only [hc, cond_true] at h
     refine ⟨_, h, spec_args (args' := [.v (.int .i64) a, .v (.int .u64) v, .rp (explode (.pair (.int .i64) (.pair (.sl (.int .u64)) (.pair (.int .i64) (.pair (.int .i64) (.int .i64))))) e)]) (fun w okk us hf => ?_) (callW_ok (own := false) (k := 1) F447.eok mixed Go.Proofs.Tryz.func147 (by kernel_rfl) (show Go.Proofs.Tryz.f147.body = some (bodyOf Go.Proofs.Tryz.f147) by kernel_rfl) (F447.sem 1 a v e hc))⟩
     cases hf with
     | cons a1 b1 =>
      cases b1 with
      | cons b1 c1 =>
       cases c1 with
       | cons c1 d1 => exact .cons (pullA_rel hp a1) (.cons (pullA_rel hp1 b1) (.cons (rp_rel hq c1) d1))
theorem F445g447.eok : EOk Go.Proofs.Tryz.prog F445g447.E := eo (calls_cons ok72 (calls_cons ok447 (calls_cons ok469 calls_nil)))
theorem ok445 : HandOk Go.Proofs.Tryz.prog inv 145 h_less := by
 intro args κ r h
 unfold h_less at h
 split at h
 ·rename_i x0 cs
  cases hp : pullA DomT x0 with
  | none => simp [hp] at h
  | some d =>
   cases hq : pullC (.pair (.int .i64) (.pair (.sl (.int .u64)) (.pair (.int .i64) (.pair (.int .i64) (.int .i64))))) cs with
   | none => simp [hp, hq] at h
   | some e =>
    simp only [hp, hq] at h
    cases hc : cutB d (andKB e) with
    | false => simp [hc] at h
    | true =>
     simp only [hc, cond_true] at h
     obtain ⟨r', h1, h2⟩ := F445g447.sem d e hc
     refine ⟨_, h, spec_args (args' := [.agg (explode DomT d), .fn 147 [] [.rp (explode (.pair (.int .i64) (.pair (.sl (.int .u64)) (.pair (.int .i64) (.pair (.int .i64) (.int .i64))))) e)]]) (fun w okk us hf => ?_) (spec_weak h2 (callW_ok (own := false) (k := 1000002) F445g447.eok mixed Go.Proofs.Tryz.func145 (by kernel_rfl) (show Go.Proofs.Tryz.f145.body = some (bodyOf Go.Proofs.Tryz.f145) by kernel_rfl) (h1)))⟩
     cases hf with
     | cons a b =>
      cases b with
      | cons b c => exact .cons (pullA_rel hp a) (.cons (fn_rel hq b) c)
 ·simp at h
theorem F412.eok : EOk Go.Proofs.Tryz.prog F412.E := eo (calls_cons ok445 calls_nil)
theorem ok412 : HandOk Go.Proofs.Tryz.prog inv 112 h_andD := hand_if fun xs hc => callW_ok (own := false) (k := 1) F412.eok mixed Go.Proofs.Tryz.func112 (by kernel_rfl) (show Go.Proofs.Tryz.f112.body = some (bodyOf Go.Proofs.Tryz.f112) by kernel_rfl) (F412.sem 1 xs.1 xs.2.1 hc)
theorem F400.eok : EOk Go.Proofs.Tryz.prog F400.E := eo (calls_cons ok75 (calls_cons ok412 calls_nil))
theorem ok400 : HandOk Go.Proofs.Tryz.prog inv 100 h_meetD := hand_if fun xs hc => callW_ok (own := false) (k := 1) F400.eok mixed Go.Proofs.Tryz.func100 (by kernel_rfl) (show Go.Proofs.Tryz.f100.body = some (bodyOf Go.Proofs.Tryz.f100) by kernel_rfl) (F400.sem 1 xs.1 xs.2.1 hc)
theorem F356.eok : EOk Go.Proofs.Tryz.prog F356.E := eo (calls_cons ok362 (calls_cons ok386 (calls_cons ok400 calls_nil)))
theorem ok356 : HandOk Go.Proofs.Tryz.prog inv 56 h_knownR := hand_if fun xs hc => callW_ok (own := false) (k := 2000) F356.eok mixed Go.Proofs.Tryz.func56 (by kernel_rfl) (show Go.Proofs.Tryz.f56.body = some (bodyOf Go.Proofs.Tryz.f56) by kernel_rfl) (F356.sem xs.1 xs.2.1 hc)
theorem F358.eok : EOk Go.Proofs.Tryz.prog F358.E := eo (calls_cons ok31 (calls_cons ok386 calls_nil))
theorem ok358 : HandOk Go.Proofs.Tryz.prog inv 58 h_leftR := hand_if fun xs hc => callW_ok (own := false) (k := 1) F358.eok mixed Go.Proofs.Tryz.func58 (by kernel_rfl) (show Go.Proofs.Tryz.f58.body = some (bodyOf Go.Proofs.Tryz.f58) by kernel_rfl) (F358.sem 1 xs.1 xs.2.1 xs.2.2.1 hc)
theorem F359.eok : EOk Go.Proofs.Tryz.prog F359.E := eo (calls_cons ok31 (calls_cons ok362 calls_nil))
theorem ok359 : HandOk Go.Proofs.Tryz.prog inv 59 h_rightR2 := hand_if fun xs hc => callW_ok (own := false) (k := 1) F359.eok mixed Go.Proofs.Tryz.func59 (by kernel_rfl) (show Go.Proofs.Tryz.f59.body = some (bodyOf Go.Proofs.Tryz.f59) by kernel_rfl) (F359.sem 1 xs.1 xs.2.1 xs.2.2.1 hc)
theorem F357g358.eok : EOk Go.Proofs.Tryz.prog F357g358.E := eo (calls_cons ok29 (calls_cons ok358 calls_nil))
theorem F357g359.eok : EOk Go.Proofs.Tryz.prog F357g359.E := eo (calls_cons ok29 (calls_cons ok359 calls_nil))
theorem first_rel {w : World} {ok : Nat → Prop} {g : Nat} {a b : Ty} {x : AV} {z : (Ty.pair a b).D} {u : Value} (h : pullA (.pair a b) x = some z) (hr : rel w ok [] mz (.fn g [x] []) u) : rel w ok [] mz (.fn g [argA (.pair a b) z] []) u := by
 obtain ⟨us, vs, rfl, h1, h2⟩ := hr
 refine ⟨us, vs, rfl, ?_, h2⟩
 cases h1 with
 | cons p q =>
  cases q
  refine .cons ?_ .nil
  cases x with
  | agg cs => exact pullA_rel h p
  | _ => simp [pullA] at h
theorem ok357 : HandOk Go.Proofs.Tryz.prog inv 57 h_kept := by
 intro args κ r h
 unfold h_kept at h
 split at h
 ·rename_i x0 x1 x2
  cases hp : pullA DomT x0 with
  | none => simp [hp] at h
  | some d =>
   cases hp1 : pullA (.int .i64) x1 with
   | none => simp [hp, hp1] at h
   | some i =>
    cases hq : pullA RowsT x2 with
    | none => simp [hp, hp1, hq] at h
    | some z =>
     simp only [hp, hp1, hq] at h
     cases hc : (listB d && leftB z i) with
     | false => simp [hc] at h
     | true =>
      simp only [hc, cond_true] at h
      refine ⟨_, h, spec_args (args' := [.agg (explode DomT d), .v (.int .i64) i, .fn 58 [.agg (explode RowsT z)] []]) (fun w okk us hf => ?_) (callW_ok (own := false) (k := 64001000) F357g358.eok mixed Go.Proofs.Tryz.func57 (by kernel_rfl) (show Go.Proofs.Tryz.f57.body = some (bodyOf Go.Proofs.Tryz.f57) by kernel_rfl) (F357g358.sem d i z hc))⟩
      cases hf with
      | cons a1 b1 =>
       cases b1 with
       | cons b1 c1 =>
        cases c1 with
        | cons c1 d1 => exact .cons (pullA_rel hp a1) (.cons (pullA_rel hp1 b1) (.cons (first_rel hq c1) d1))
 ·rename_i x0 x1 x2
  cases hp : pullA DomT x0 with
  | none => simp [hp] at h
  | some d =>
   cases hp1 : pullA (.int .i64) x1 with
   | none => simp [hp, hp1] at h
   | some i =>
    cases hq : pullA RowsT x2 with
    | none => simp [hp, hp1, hq] at h
    | some z =>
     simp only [hp, hp1, hq] at h
     cases hc : (listB d && rightB z i) with
     | false => simp [hc] at h
     | true =>
      simp only [hc, cond_true] at h
      refine ⟨_, h, spec_args (args' := [.agg (explode DomT d), .v (.int .i64) i, .fn 59 [.agg (explode RowsT z)] []]) (fun w okk us hf => ?_) (callW_ok (own := false) (k := 64001000) F357g359.eok mixed Go.Proofs.Tryz.func57 (by kernel_rfl) (show Go.Proofs.Tryz.f57.body = some (bodyOf Go.Proofs.Tryz.f57) by kernel_rfl) (F357g359.sem d i z hc))⟩
      cases hf with
      | cons a1 b1 =>
       cases b1 with
       | cons b1 c1 =>
        cases c1 with
        | cons c1 d1 => exact .cons (pullA_rel hp a1) (.cons (pullA_rel hp1 b1) (.cons (first_rel hq c1) d1))
 ·simp at h
theorem F325.eok : EOk Go.Proofs.Tryz.prog F325.E := eo (calls_cons ok48 (calls_cons ok49 (calls_cons ok356 (calls_cons ok357 calls_nil))))
theorem ok325 : HandOk Go.Proofs.Tryz.prog inv 25 h_lexiF := hand_if fun xs hc => by
 obtain ⟨r, h1, h2⟩ := F325.sem xs.1 xs.2.1 hc
 exact spec_weak h2 (callW_ok (own := false) (k := 2000) F325.eok mixed Go.Proofs.Tryz.func25 (by kernel_rfl) (show Go.Proofs.Tryz.f25.body = some (bodyOf Go.Proofs.Tryz.f25) by kernel_rfl) (h1))
theorem F326.sem (l : List (List Int)) (hl : l.length ≤ 1000) : callW F326.E false F326.fn 1001 [.v (.sl (.sl (.int .i64))) l] = some (.v (.sl DomT) (domsL l)) := by
 rw [F326.start_eq]
 refine (doms_loop (L := fun n i acc => F326.l1_1_0_1_0 n _ l l.length i acc) l hl (fun n i acc => F326.l1_1_0_1_0_eq n _ l _ i acc)).trans ?_
 exact F326.c0 _ _
theorem F326.eok : EOk Go.Proofs.Tryz.prog F326.E := eo (calls_cons ok50 calls_nil)
theorem ok326 : HandOk Go.Proofs.Tryz.prog inv 26 h_doms326 := hand_if fun xs hc => callW_ok (own := false) (k := 1001) F326.eok mixed Go.Proofs.Tryz.func26 (by kernel_rfl) (show Go.Proofs.Tryz.f26.body = some (bodyOf Go.Proofs.Tryz.f26) by kernel_rfl) (F326.sem xs.1 (by have h := hc; rwa [Nat.ble_eq] at h))
noncomputable def E328 : Env := ⟨tt, [(25, h_lexiF), (23, h_listD), (50, h_ofD), (62, h_minD), (51, callH E46 false Go.Proofs.Tryz.f51 100), (38, callH E47 false Go.Proofs.Tryz.f38 100)], [], [], none, inv, []⟩
theorem w328 : callW E328 false Go.Proofs.Tryz.f28 100 [] = some (.v .bool true) := by kernel_rfl
theorem ok328 : HandOk Go.Proofs.Tryz.prog inv 28 h_wakes328 := hand_un fun xs => callW_ok (own := false) (k := 100) (eo (calls_cons ok325 (calls_cons ok29 (calls_cons ok50 (calls_cons ok362 (calls_cons ok46 (calls_cons ok47 calls_nil))))))) mixed Go.Proofs.Tryz.func28 (by kernel_rfl) (show Go.Proofs.Tryz.f28.body = some (bodyOf Go.Proofs.Tryz.f28) by kernel_rfl) w328
end Go.Proofs.YtnojoaghcbljfaaGreatDoor.Ev
