/-
Tasks that share what there is: the contracts.
Conditions: none.
-/
import Derived.Test.YtdihbphkbdelbaaGreatDoorMb
import Derived.Test.YtdihbphkbdelbaaGreatDoorMj
import Derived.Test.YtdihbphkbdelbaaGreatDoorBh
import Derived.Test.YtdihbphkbdelbaaGreatDoorMh
import Derived.Test.YtdihbphkbdelbaaGreatDoorEvR
set_option linter.unusedVariables false
set_option linter.unusedSimpArgs false
set_option maxRecDepth 100000
namespace Go.Proofs.YtdihbphkbdelbaaGreatDoor.Ev
open Go Go.RowKit
theorem F380.sem (k : Nat) (l : List Dom) (h : cloneB l = true) : callW F380.E true F380.fn k [.v (.sl DomT) l] = some (.nw 88 DomT l) := by
 unfold cloneB at h
 rw [Bool.and_eq_true, Nat.ble_eq] at h
 obtain ⟨h1, h2⟩ := h
 refine (F380.start_eq k l).trans ((bT' h1).trans (bT' ?_))
 exact decide_eq_true (show (0 + l.length) * 56 ≤ 140737488355328 by omega)
theorem F380.eok : EOk Go.Proofs.Tryz.prog F380.E := eo calls_nil
theorem ok380 : HandOk Go.Proofs.Tryz.prog inv 71 h_cloneD := hand_if fun xs hc => callW_ok (own := true) (k := 1) F380.eok mixed Go.Proofs.Tryz.func71 (by kernel_rfl) (show Go.Proofs.Tryz.f71.body = some (bodyOf Go.Proofs.Tryz.f71) by kernel_rfl) (F380.sem 1 xs.1 hc)
theorem F362.eok : EOk Go.Proofs.Tryz.prog F362.E := eo calls_nil
theorem ok362 : HandOk Go.Proofs.Tryz.prog inv 200 h_minD := hand_un fun xs => callW_ok (own := false) (k := 1) F362.eok mixed Go.Proofs.Tryz.func200 (by kernel_rfl) (show Go.Proofs.Tryz.f200.body = some (bodyOf Go.Proofs.Tryz.f200) by kernel_rfl) (F362.start_eq 1 xs.1)
theorem F386.eok : EOk Go.Proofs.Tryz.prog F386.E := eo calls_nil
theorem ok386 : HandOk Go.Proofs.Tryz.prog inv 199 h_maxD := hand_un fun xs => callW_ok (own := false) (k := 1) F386.eok mixed Go.Proofs.Tryz.func199 (by kernel_rfl) (show Go.Proofs.Tryz.f199.body = some (bodyOf Go.Proofs.Tryz.f199) by kernel_rfl) (F386.start_eq 1 xs.1)
theorem F690.eok : EOk Go.Proofs.Tryz.prog F690.E := eo (calls_cons ok386 (calls_cons ok362 calls_nil))
theorem ok690 : HandOk Go.Proofs.Tryz.prog inv 190 h_sureD := hand_if fun xs hc => callW_ok (own := false) (k := 1) F690.eok mixed Go.Proofs.Tryz.func190 (by kernel_rfl) (show Go.Proofs.Tryz.f190.body = some (bodyOf Go.Proofs.Tryz.f190) by kernel_rfl) (F690.sem 1 xs.1 xs.2.1 xs.2.2.1 hc)
theorem F673.eok : EOk Go.Proofs.Tryz.prog F673.E := eo (calls_cons ok690 calls_nil)
theorem ok673 : HandOk Go.Proofs.Tryz.prog inv 173 h_loadD := hand_if fun xs hc => callW_ok (own := false) (k := 1002) F673.eok mixed Go.Proofs.Tryz.func173 (by kernel_rfl) (show Go.Proofs.Tryz.f173.body = some (bodyOf Go.Proofs.Tryz.f173) by kernel_rfl) (F673.sem xs.1 xs.2.1 xs.2.2.1 xs.2.2.2.1 hc)
theorem F671.eok : EOk Go.Proofs.Tryz.prog F671.E := eo (calls_cons ok690 calls_nil)
theorem ok671 : HandOk Go.Proofs.Tryz.prog inv 171 h_timesD := hand_if fun xs hc => callW_ok (own := false) (k := 1002) F671.eok mixed Go.Proofs.Tryz.func171 (by kernel_rfl) (show Go.Proofs.Tryz.f171.body = some (bodyOf Go.Proofs.Tryz.f171) by kernel_rfl) (F671.sem xs.1 xs.2.1 xs.2.2.1 xs.2.2.2.1 hc)
theorem F672.eok : EOk Go.Proofs.Tryz.prog F672.E := eo (calls_cons ok673 calls_nil)
theorem fn_rel3 {w : World} {ok : Nat → Prop} {g : Nat} {t1 t2 t3 : Ty} {c1 c2 c3 : List AV} {z : t1.D} {y : t2.D} {x : t3.D} {u : Value} (h1 : pullC t1 c1 = some z) (h2 : pullC t2 c2 = some y) (h3 : pullC t3 c3 = some x) (hr : rel w ok [] mz (.fn g [] [.rp c1, .rp c2, .rp c3]) u) : rel w ok [] mz (.fn g [] [.rp (explode t1 z), .rp (explode t2 y), .rp (explode t3 x)]) u := by
 obtain ⟨us, vs, rfl, hu, hv⟩ := hr
 refine ⟨us, vs, rfl, hu, ?_⟩
 cases hv with
 | cons a b =>
  cases b with
  | cons b c =>
   cases c with
   | cons c d => exact .cons (rp_rel h1 a) (.cons (rp_rel h2 b) (.cons (rp_rel h3 c) d))
theorem ok672 : HandOk Go.Proofs.Tryz.prog inv 172 h_overD := by
 intro args κ r h
 unfold h_overD at h
 split at h
 case h_2 => simp at h
 rename_i x0 ca cb ci
 cases hp : pullA (.int .i64) x0 with
 | none => simp [hp] at h
 | some y0 =>
  cases ha : pullC ConT ca with
  | none => simp [hp, ha] at h
  | some z =>
   cases hb : pullC (.sl DomT) cb with
   | none => simp [hp, ha, hb] at h
   | some y =>
    cases hi : pullC (.int .i64) ci with
    | none => simp [hp, ha, hb, hi] at h
    | some x =>
     simp only [hp, ha, hb, hi] at h
     cases hc : cumB z y && inI y x with
     | false => simp [hc] at h
     | true =>
      simp only [hc, cond_true] at h
      refine ⟨_, h, spec_args (args' := [.v (.int .i64) y0, .rp (explode ConT z), .rp [.v (.sl DomT) y], .rp [.v (.int .i64) x]]) (fun w okk us hf => ?_) (callW_ok (own := false) (k := 1) F672.eok mixed Go.Proofs.Tryz.func172 (by kernel_rfl) (show Go.Proofs.Tryz.f172.body = some (bodyOf Go.Proofs.Tryz.f172) by kernel_rfl) (F672.sem 1 y0 z y x hc))⟩
      cases hf with
      | cons a b =>
       cases b with
       | cons b c =>
        cases c with
        | cons c d =>
         cases d with
         | cons d e => exact .cons (pullA_rel hp a) (.cons (rp_rel ha b) (.cons (rp_rel hb c) (.cons (rp_rel hi d) e)))
theorem F99g672.sem (xs : List Int) (z : Con) (y : List Dom) (x : Int) (h : (cumB z y && inI y x) = true) (hl : xs.length ≤ maxLen) : callW F99g672.E false F99g672.fn (xs.length + 1) [.v (.sl (.int .i64)) xs, .fn 172 [] [.rp (explode ConT z), .rp [.v (.sl DomT) y], .rp [.v (.int .i64) x]]] = some (.v (.int .i64) (idx (overD z y x) xs 0)) := by
 refine (F99g672.start_eq _ xs z y x).trans ?_
 have hL : ∀ n (i : Int), F99g672.l1_0_1_0 (n + 1) (F99g672.kt (xs.length + 1) [1, 0, 1, 0]) xs z.1 z.2.1 z.2.2.1 z.2.2.2.1 z.2.2.2.2.1 z.2.2.2.2.2.1 z.2.2.2.2.2.2.1 z.2.2.2.2.2.2.2 y x xs.length i =
   bif decide (i < (xs.length : Int)) then bif decide (0 ≤ i) && decide (i < (xs.length : Int)) then bif overD z y x (xs.getD i.toNat 0) then (F99g672.kt (xs.length + 1) [1, 0, 1, 0]).ret ⟨slots 19 [(4, .v (.int .i64) i)], []⟩ else F99g672.l1_0_1_0 n (F99g672.kt (xs.length + 1) [1, 0, 1, 0]) xs z.1 z.2.1 z.2.2.1 z.2.2.2.1 z.2.2.2.2.1 z.2.2.2.2.2.1 z.2.2.2.2.2.2.1 z.2.2.2.2.2.2.2 y x xs.length (IntKind.i64.wrap (i + 1)) else none else exitK (F99g672.kt (xs.length + 1) [1, 0, 1, 0]) 0 ⟨slots 19 [], []⟩ := fun n i => by
  refine (F99g672.l1_0_1_0_eq n _ xs _ _ _ _ _ _ _ _ y x _ i).trans ?_
  have h : (cumB (z.1, (z.2.1, (z.2.2.1, (z.2.2.2.1, (z.2.2.2.2.1, (z.2.2.2.2.2.1, (z.2.2.2.2.2.2.1, z.2.2.2.2.2.2.2))))))) y && inI y x) = true := h
  rw [h]
  rfl
 rw [search_loop (fun n i => F99g672.l1_0_1_0 n (F99g672.kt (xs.length + 1) [1, 0, 1, 0]) xs z.1 z.2.1 z.2.2.1 z.2.2.2.1 z.2.2.2.2.1 z.2.2.2.2.2.1 z.2.2.2.2.2.2.1 z.2.2.2.2.2.2.2 y x xs.length i) xs 0 (overD z y x) _ _ hl hL _ 0 (by omega) (by omega) (by omega)]
 simp only [F99g672.c0, F99g672.c1]
 exact idx_res (overD z y x) xs (fun v => some (.v (.int .i64) v)) _ rfl
theorem F77g672.sem (k : Nat) (xs : List Int) (z : Con) (y : List Dom) (x : Int) (h : (cumB z y && inI y x) = true) : callW F77g672.E false F77g672.fn k [.v (.sl (.int .i64)) xs, .fn 172 [] [.rp (explode ConT z), .rp [.v (.sl DomT) y], .rp [.v (.int .i64) x]]] = some (.v .bool (xs.any (overD z y x))) := by
 refine (F77g672.start_eq k xs z y x).trans ((bT' h).trans ?_)
 rw [idx_any (overD z y x) xs 0 (Int.le_refl _)]
theorem F99g672.eok : EOk Go.Proofs.Tryz.prog F99g672.E := eo (calls_cons ok672 calls_nil)
theorem ok99M : HandOk Go.Proofs.Tryz.prog inv 158 h_idxM := by
 intro args κ r h
 unfold h_idxM at h
 split at h
 case h_2 => simp at h
 rename_i x0 ca cb ci
 cases hp : pullA LI x0 with
 | none => simp [hp] at h
 | some y0 =>
  cases ha : pullC ConT ca with
  | none => simp [hp, ha] at h
  | some z =>
   cases hb : pullC (.sl DomT) cb with
   | none => simp [hp, ha, hb] at h
   | some y =>
    cases hi : pullC (.int .i64) ci with
    | none => simp [hp, ha, hb, hi] at h
    | some x =>
     simp only [hp, ha, hb, hi] at h
     cases hc : cumB z y && inI y x with
     | false => simp [hc] at h
     | true =>
      simp only [hc, cond_true] at h
      refine ⟨_, h, spec_args (args' := [.v (.sl (.int .i64)) y0, .fn 172 [] [.rp (explode ConT z), .rp [.v (.sl DomT) y], .rp [.v (.int .i64) x]]]) (fun w okk us hf => ?_) (spec_fits fun hx => callW_ok (own := false) (k := y0.length + 1) F99g672.eok mixed Go.Proofs.Tryz.func158 (by kernel_rfl) (show Go.Proofs.Tryz.f158.body = some (bodyOf Go.Proofs.Tryz.f158) by kernel_rfl) (F99g672.sem y0 z y x hc (hx (.v (.sl (.int .i64)) y0) (by simp)).1))⟩
      cases hf with
      | cons a b =>
       cases b with
       | cons b c => exact .cons (pullA_rel hp a) (.cons (fn_rel3 ha hb hi b) c)
theorem F77g672.eok : EOk Go.Proofs.Tryz.prog F77g672.E := eo (calls_cons ok99M calls_nil)
theorem ok77M : HandOk Go.Proofs.Tryz.prog inv 101 h_anyM := by
 intro args κ r h
 unfold h_anyM at h
 split at h
 case h_2 => simp at h
 rename_i x0 ca cb ci
 cases hp : pullA LI x0 with
 | none => simp [hp] at h
 | some y0 =>
  cases ha : pullC ConT ca with
  | none => simp [hp, ha] at h
  | some z =>
   cases hb : pullC (.sl DomT) cb with
   | none => simp [hp, ha, hb] at h
   | some y =>
    cases hi : pullC (.int .i64) ci with
    | none => simp [hp, ha, hb, hi] at h
    | some x =>
     simp only [hp, ha, hb, hi] at h
     cases hc : cumB z y && inI y x with
     | false => simp [hc] at h
     | true =>
      simp only [hc, cond_true] at h
      refine ⟨_, h, spec_args (args' := [.v (.sl (.int .i64)) y0, .fn 172 [] [.rp (explode ConT z), .rp [.v (.sl DomT) y], .rp [.v (.int .i64) x]]]) (fun w okk us hf => ?_) (spec_fits fun hx => callW_ok (own := false) (k := 1) F77g672.eok mixed Go.Proofs.Tryz.func101 (by kernel_rfl) (show Go.Proofs.Tryz.f101.body = some (bodyOf Go.Proofs.Tryz.f101) by kernel_rfl) (F77g672.sem 1 y0 z y x hc))⟩
      cases hf with
      | cons a b =>
       cases b with
       | cons b c => exact .cons (pullA_rel hp a) (.cons (fn_rel3 ha hb hi b) c)
theorem F631.eok : EOk Go.Proofs.Tryz.prog F631.E := eo (calls_cons ok77M (calls_cons ok671 calls_nil))
theorem ok631 : HandOk Go.Proofs.Tryz.prog inv 131 h_mayD := hand_if fun xs hc => callW_ok (own := false) (k := 1) F631.eok mixed Go.Proofs.Tryz.func131 (by kernel_rfl) (show Go.Proofs.Tryz.f131.body = some (bodyOf Go.Proofs.Tryz.f131) by kernel_rfl) (F631.sem 1 xs.1 xs.2.1 xs.2.2.1 xs.2.2.2.1 hc)
theorem F572.eok : EOk Go.Proofs.Tryz.prog F572.E := eo (calls_cons ok29 (calls_cons ok50 (calls_cons ok75 (calls_cons ok631 calls_nil))))
theorem okM572 : MHandOk Go.Proofs.Tryz.prog inv 72 h_pass := by
 intro args e t xs κ r h
 change h_passF args e t xs κ = some r at h
 unfold h_passF at h
 split at h
 case h_2 => simp at h
 split at h
 case h_2 => simp at h
 rename_i x0
 cases ha : pullA ConT x0 with
 | none => simp [ha] at h
 | some c =>
  simp only [ha] at h
  rename_i d _ _
  cases hc : Nat.beq e 88 && passB c d with
  | false => simp [hc] at h
  | true =>
   simp only [hc, cond_true] at h
   obtain ⟨he, hp⟩ := (Bool.and_eq_true _ _).mp hc
   have he := Nat.eq_of_beq_eq_true he
   subst he
   refine ⟨_, _, h, ?_⟩
   have S := callM_ok (k := 64002001) (args := [.agg (explode ConT c), .un]) (p := 1) (e := 88) (t := DomT) (xs := d) (ys := (passD c d).1) («as» := [.v .bool (passD c d).2.1, .v .bool (passD c d).2.2]) (tl := []) F572.eok mixed Go.Proofs.Tryz.func72 (by kernel_rfl) (show Go.Proofs.Tryz.f72.body = some (bodyOf Go.Proofs.Tryz.f72) by kernel_rfl) (passGo_len c _ _ _ _) (show (1 : Nat) < 2 from Nat.lt_succ_self 1) (fun H => rfl) rfl (fun F O W V K => F572.sem 64002001 (Nat.le_refl _) c d hp K F O W V)
   intro w1 w ok us u q1 q2 q3 q4
   refine S w1 w ok us u q1 q2 q3 ?_
   cases q4 with
   | cons a b => exact .cons (pullA_rel ha a) b
theorem F529.eok : EOk Go.Proofs.Tryz.prog F529.E := ⟨tyOk_of tt_ok, (calls_cons ok48 (calls_cons ok380 calls_nil)), keep_inv, mcalls_cons okM572 mcalls_nil⟩
theorem ok529 : HandOk Go.Proofs.Tryz.prog inv 29 h_cumF := hand_if fun xs hc => by
 obtain ⟨r, h1, h2⟩ := F529.semN 100000 xs.1 xs.2.1 hc
 exact spec_weak h2 (callW_ok (own := false) (k := 100000) F529.eok mixed Go.Proofs.Tryz.func29 (by kernel_rfl) (show Go.Proofs.Tryz.f29.body = some (bodyOf Go.Proofs.Tryz.f29) by kernel_rfl) (h1))
theorem F637.eok : EOk Go.Proofs.Tryz.prog F637.E := eo calls_nil
theorem ok637 : HandOk Go.Proofs.Tryz.prog inv 137 h_sureR := hand_if fun xs hc => callW_ok (own := false) (k := 1) F637.eok mixed Go.Proofs.Tryz.func137 (by kernel_rfl) (show Go.Proofs.Tryz.f137.body = some (bodyOf Go.Proofs.Tryz.f137) by kernel_rfl) (F637.sem 1 xs.1 xs.2.1 xs.2.2.1 xs.2.2.2.1 hc)
theorem F574.eok : EOk Go.Proofs.Tryz.prog F574.E := eo (calls_cons ok637 calls_nil)
theorem ok574 : HandOk Go.Proofs.Tryz.prog inv 74 h_mayR := hand_if fun xs hc => callW_ok (own := false) (k := 1002002) F574.eok mixed Go.Proofs.Tryz.func74 (by kernel_rfl) (show Go.Proofs.Tryz.f74.body = some (bodyOf Go.Proofs.Tryz.f74) by kernel_rfl) (F574.sem 1002002 (Nat.le_refl _) xs.1 xs.2.1 xs.2.2.1 xs.2.2.2.1 hc)
theorem F531.eok : EOk Go.Proofs.Tryz.prog F531.E := eo (calls_cons ok25 (calls_cons ok574 calls_nil))
theorem ok531 : HandOk Go.Proofs.Tryz.prog inv 31 h_cumR := hand_if fun xs hc => by
 obtain ⟨r, h1, h2⟩ := F531.semN 100000 (by omega) xs.1 xs.2.1 hc
 exact spec_weak h2 (callW_ok (own := false) (k := (100000 + 110000)) F531.eok mixed Go.Proofs.Tryz.func31 (by kernel_rfl) (show Go.Proofs.Tryz.f31.body = some (bodyOf Go.Proofs.Tryz.f31) by kernel_rfl) (h1))
theorem F530.sem (l : List (List Int)) (hl : l.length ≤ 1000) : callW F530.E false F530.fn 1001 [.v (.sl (.sl (.int .i64))) l] = some (.v (.sl DomT) (domsL l)) := by
 rw [F530.start_eq]
 refine (doms_loop (L := fun n i acc => F530.l1_1_0_1_0 n _ l l.length i acc) l hl (fun n i acc => F530.l1_1_0_1_0_eq n _ l _ i acc)).trans ?_
 exact F530.c0 _ _
theorem F530.eok : EOk Go.Proofs.Tryz.prog F530.E := eo (calls_cons ok50 calls_nil)
theorem ok530 : HandOk Go.Proofs.Tryz.prog inv 30 h_doms530 := hand_if fun xs hc => callW_ok (own := false) (k := 1001) F530.eok mixed Go.Proofs.Tryz.func30 (by kernel_rfl) (show Go.Proofs.Tryz.f30.body = some (bodyOf Go.Proofs.Tryz.f30) by kernel_rfl) (F530.sem xs.1 (by have h := hc; rwa [Nat.ble_eq] at h))
theorem F534.sem (l : List Dom) (hl : l.length ≤ 1000) (hb : l.all listB = true) : callW F534.E false F534.fn 1001 [.v (.sl DomT) l] = some (.v (.sl (.sl (.int .i64))) (listsL l)) := by
 refine (F534.start_eq _ l).trans ?_
 refine (lists_loop (L := fun n i acc => F534.l1_1_0_1_0 n _ l l.length i acc) l hl hb (fun n i acc => F534.l1_1_0_1_0_eq n _ l _ i acc)).trans ?_
 exact F534.c0 _ _
theorem F534.eok : EOk Go.Proofs.Tryz.prog F534.E := eo (calls_cons ok29 calls_nil)
theorem ok534 : HandOk Go.Proofs.Tryz.prog inv 34 h_lists534 := hand_if fun xs hc => by
 have hc2 := (Bool.and_eq_true _ _).mp hc
 exact callW_ok (own := false) (k := 1001) F534.eok mixed Go.Proofs.Tryz.func34 (by kernel_rfl) (show Go.Proofs.Tryz.f34.body = some (bodyOf Go.Proofs.Tryz.f34) by kernel_rfl) (F534.sem xs.1 (by have h := hc2.1; rwa [Nat.ble_eq] at h) hc2.2)
noncomputable def E532 : Env := ⟨tt, [(29, h_cumF), (73, h_ofD), (41, h_listD), (75, callH E46 false Go.Proofs.Tryz.f75 100), (62, callH E47 false Go.Proofs.Tryz.f62 100)], [], [], none, inv, []⟩
theorem w532 : callW E532 false Go.Proofs.Tryz.f32 100 [] = some (.v .bool true) := by kernel_rfl
theorem ok532 : HandOk Go.Proofs.Tryz.prog inv 32 h_wakes532 := hand_un fun xs => callW_ok (own := false) (k := 100) (eo (calls_cons ok529 (calls_cons ok50 (calls_cons ok29 (calls_cons ok46 (calls_cons ok47 calls_nil)))))) mixed Go.Proofs.Tryz.func32 (by kernel_rfl) (show Go.Proofs.Tryz.f32.body = some (bodyOf Go.Proofs.Tryz.f32) by kernel_rfl) w532
end Go.Proofs.YtdihbphkbdelbaaGreatDoor.Ev
