/-
Seat 'a': the contracts of all that ElemFilters calls.
Conditions: the table of math/bits is laid.
-/
import Derived.Test.YtohdaehblenokaaAz
import Derived.Test.YtohdaehblenokaaDz
import Derived.Laws.Externs
set_option linter.unusedVariables false
set_option linter.unusedSimpArgs false
set_option maxRecDepth 100000
namespace Go.Proofs.Ytohdaehblenokaa.Ev
open Go Go.RowKit
theorem chk_cons {P : Program} {t : Nat} {i : TInfo} {l : List (Nat × TInfo)} (h1 : chkT P t i = true) (h2 : chkAll P l = true) : chkAll P ((t, i) :: l) = true := (congrArg (· && _) h1).trans h2
theorem chk2 : chkT Go.Proofs.Try.prog 2 ⟨(.int .i64), false, 8, none, [], some .i64, false⟩ = true := by kernel_rfl
theorem chk3 : chkT Go.Proofs.Try.prog 3 ⟨(.int .i64), false, 8, none, [], some .i64, false⟩ = true := by kernel_rfl
theorem chk4 : chkT Go.Proofs.Try.prog 4 ⟨.bool, false, 1, none, [], none, false⟩ = true := by kernel_rfl
theorem chk5 : chkT Go.Proofs.Try.prog 5 ⟨(.int .u8), false, 1, none, [], some .u8, false⟩ = true := by kernel_rfl
theorem chk6 : chkT Go.Proofs.Try.prog 6 ⟨(.int .u8), false, 1, none, [], some .u8, false⟩ = true := by kernel_rfl
theorem chk7 : chkT Go.Proofs.Try.prog 7 ⟨(.pair (.int .i64) (.pair (.int .i64) (.pair .bool (.int .u8)))), true, 24, none, [(0, 2), (1, 3), (2, 4), (3, 6)], none, false⟩ = true := by kernel_rfl
theorem chk8 : chkT Go.Proofs.Try.prog 8 ⟨(.pair (.int .i64) (.pair (.int .i64) (.pair .bool (.int .u8)))), true, 24, none, [(0, 2), (1, 3), (2, 4), (3, 6)], none, false⟩ = true := by kernel_rfl
theorem chk9 : chkT Go.Proofs.Try.prog 9 ⟨.str, false, 16, none, [], none, true⟩ = true := by kernel_rfl
theorem chk10 : chkT Go.Proofs.Try.prog 10 ⟨.str, false, 16, none, [], none, true⟩ = true := by kernel_rfl
theorem chk11 : chkT Go.Proofs.Try.prog 11 ⟨.str, false, 16, none, [], none, true⟩ = true := by kernel_rfl
theorem chk12 : chkT Go.Proofs.Try.prog 12 ⟨(.int .u64), false, 8, none, [], some .u64, false⟩ = true := by kernel_rfl
theorem chk13 : chkT Go.Proofs.Try.prog 13 ⟨(.pair .str (.int .u64)), true, 24, none, [(0, 9), (1, 12)], none, false⟩ = true := by kernel_rfl
theorem chk14 : chkT Go.Proofs.Try.prog 14 ⟨(.pair .str (.int .u64)), true, 24, none, [(0, 9), (1, 12)], none, false⟩ = true := by kernel_rfl
theorem chk21 : chkT Go.Proofs.Try.prog 21 ⟨(.int .i32), false, 4, none, [], some .i32, false⟩ = true := by kernel_rfl
theorem chk22 : chkT Go.Proofs.Try.prog 22 ⟨(.sl (.int .u8)), false, 24, some 5, [], none, false⟩ = true := by kernel_rfl
theorem chk23 : chkT Go.Proofs.Try.prog 23 ⟨(.sl (.int .i8)), false, 24, some 61, [], none, false⟩ = true := by kernel_rfl
theorem chk24 : chkT Go.Proofs.Try.prog 24 ⟨(.int .i16), false, 2, none, [], some .i16, false⟩ = true := by kernel_rfl
theorem chk25 : chkT Go.Proofs.Try.prog 25 ⟨(.pair (.int .u8) (.pair (.sl (.int .u8)) (.pair (.sl (.int .u8)) (.pair (.sl (.int .i8)) (.pair (.int .i16) (.int .u8)))))), true, 88, none, [(0, 5), (1, 22), (2, 22), (3, 23), (4, 24), (5, 5)], none, false⟩ = true := by kernel_rfl
theorem chk26 : chkT Go.Proofs.Try.prog 26 ⟨(.pair (.int .u8) (.pair (.sl (.int .u8)) (.pair (.sl (.int .u8)) (.pair (.sl (.int .i8)) (.pair (.int .i16) (.int .u8)))))), true, 88, none, [(0, 5), (1, 22), (2, 22), (3, 23), (4, 24), (5, 5)], none, false⟩ = true := by kernel_rfl
theorem chk27 : chkT Go.Proofs.Try.prog 27 ⟨(.sl (.int .i64)), false, 24, some 3, [], none, false⟩ = true := by kernel_rfl
theorem chk29 : chkT Go.Proofs.Try.prog 29 ⟨(.sl (.sl (.int .i64))), false, 24, some 27, [], none, false⟩ = true := by kernel_rfl
theorem chk30 : chkT Go.Proofs.Try.prog 30 ⟨(.pair (.int .i64) (.pair (.sl (.int .i64)) (.pair (.sl (.int .i64)) (.pair (.sl (.int .i64)) (.pair (.sl (.int .i64)) (.pair (.sl (.int .i64)) (.pair (.int .i64) (.sl (.sl (.int .i64)))))))))), true, 160, none, [(0, 3), (1, 27), (2, 27), (3, 27), (4, 27), (5, 27), (6, 3), (7, 29)], none, false⟩ = true := by kernel_rfl
theorem chk31 : chkT Go.Proofs.Try.prog 31 ⟨(.pair (.int .i64) (.pair (.sl (.int .i64)) (.pair (.sl (.int .i64)) (.pair (.sl (.int .i64)) (.pair (.sl (.int .i64)) (.pair (.sl (.int .i64)) (.pair (.int .i64) (.sl (.sl (.int .i64)))))))))), true, 160, none, [(0, 3), (1, 27), (2, 27), (3, 27), (4, 27), (5, 27), (6, 3), (7, 29)], none, false⟩ = true := by kernel_rfl
theorem chk45 : chkT Go.Proofs.Try.prog 45 ⟨(.sl .str), false, 24, some 9, [], none, false⟩ = true := by kernel_rfl
theorem chk50 : chkT Go.Proofs.Try.prog 50 ⟨(.int .i64), false, 8, none, [], some .i64, false⟩ = true := by kernel_rfl
theorem chk61 : chkT Go.Proofs.Try.prog 61 ⟨(.int .i8), false, 1, none, [], some .i8, false⟩ = true := by kernel_rfl
theorem chk75 : chkT Go.Proofs.Try.prog 75 ⟨(.int .u64), false, 8, none, [], some .u64, false⟩ = true := by kernel_rfl
theorem chk78 : chkT Go.Proofs.Try.prog 78 ⟨(.pair .str .str), true, 32, none, [(0, 9), (1, 9)], none, false⟩ = true := by kernel_rfl
theorem chk79 : chkT Go.Proofs.Try.prog 79 ⟨(.pair .str .str), true, 32, none, [(0, 9), (1, 9)], none, false⟩ = true := by kernel_rfl
theorem chk80 : chkT Go.Proofs.Try.prog 80 ⟨(.sl (.pair .str .str)), false, 24, some 79, [], none, false⟩ = true := by kernel_rfl
theorem chk88 : chkT Go.Proofs.Try.prog 88 ⟨(.int .i64), false, 8, none, [], some .i64, false⟩ = true := by kernel_rfl
theorem chk97 : chkT Go.Proofs.Try.prog 97 ⟨(.int .u32), false, 4, none, [], some .u32, false⟩ = true := by kernel_rfl
theorem chk99 : chkT Go.Proofs.Try.prog 99 ⟨(.int .u64), false, 8, none, [], some .u64, false⟩ = true := by kernel_rfl
theorem chk100 : chkT Go.Proofs.Try.prog 100 ⟨(.int .u64), false, 8, none, [], some .u64, false⟩ = true := by kernel_rfl
theorem chk120 : chkT Go.Proofs.Try.prog 120 ⟨(.int .u8), false, 1, none, [], some .u8, false⟩ = true := by kernel_rfl
theorem chk121 : chkT Go.Proofs.Try.prog 121 ⟨(.int .u8), false, 1, none, [], some .u8, false⟩ = true := by kernel_rfl
theorem chk124 : chkT Go.Proofs.Try.prog 124 ⟨(.int .i32), false, 4, none, [], some .i32, false⟩ = true := by kernel_rfl
theorem chk125 : chkT Go.Proofs.Try.prog 125 ⟨(.int .i32), false, 4, none, [], some .i32, false⟩ = true := by kernel_rfl
theorem tt_ok : chkAll Go.Proofs.Try.prog tt = true := by
 unfold tt
 exact (chk_cons chk2 (chk_cons chk3 (chk_cons chk4 (chk_cons chk5 (chk_cons chk6 (chk_cons chk7 (chk_cons chk8 (chk_cons chk9 (chk_cons chk10 (chk_cons chk11 (chk_cons chk12 (chk_cons chk13 (chk_cons chk14 (chk_cons chk21 (chk_cons chk22 (chk_cons chk23 (chk_cons chk24 (chk_cons chk25 (chk_cons chk26 (chk_cons chk27 (chk_cons chk29 (chk_cons chk30 (chk_cons chk31 (chk_cons chk45 (chk_cons chk50 (chk_cons chk61 (chk_cons chk75 (chk_cons chk78 (chk_cons chk79 (chk_cons chk80 (chk_cons chk88 (chk_cons chk97 (chk_cons chk99 (chk_cons chk100 (chk_cons chk120 (chk_cons chk121 (chk_cons chk124 (chk_cons chk125 rfl))))))))))))))))))))))))))))))))))))))
theorem mixed : Go.Proofs.Try.prog.follows .mixedOrders = true := by kernel_rfl
theorem keep_inv (w w' : World) (h : inv w) (hb : Below w.heap.size w w') : inv w' := trivial
theorem eo {l : List (Nat × Hand)} {k x f} (h : CallsOk Go.Proofs.Try.prog ⟨tt, l, k, x, f, inv, []⟩) : EOk Go.Proofs.Try.prog ⟨tt, l, k, x, f, inv, []⟩ := ⟨tyOk_of tt_ok, h, keep_inv, mcalls_nil⟩
theorem sum_loop2 (a b : List Int) (L : Nat → Int → Int → Option AV) (X : Int → Option AV)
  (hL : ∀ n s i, L (n + 1) s i = bif decide (i < ([a, b].length : Int)) then
   bif decide (0 ≤ i) && decide (i < ([a, b].length : Int)) then
    bif decide (IntKind.i64.wrap (s + (([a, b].getD i.toNat []).length : Int)) < 0) then none
    else L n (IntKind.i64.wrap (s + (([a, b].getD i.toNat []).length : Int))) (IntKind.i64.wrap (i + 1))
   else none else X s)
  (h : a.length + b.length < 1000000) : L 3 0 0 = X ((a.length : Int) + (b.length : Int)) := by
 have s1 : IntKind.i64.wrap (0 + (a.length : Int)) = (a.length : Int) := by rw [wrap_ok (by omega) (by omega)]; omega
 have s2 : IntKind.i64.wrap ((a.length : Int) + (b.length : Int)) = (a.length : Int) + (b.length : Int) := wrap_ok (by omega) (by omega)
 have n1 : decide ((a.length : Int) < 0) = false := decide_eq_false (by omega)
 have n2 : decide ((a.length : Int) + (b.length : Int) < 0) = false := decide_eq_false (by omega)
 rw [hL]
 show (bif decide (IntKind.i64.wrap (0 + (a.length : Int)) < 0) then none else L 2 (IntKind.i64.wrap (0 + (a.length : Int))) 1) = _
 rw [s1, n1]
 refine (hL 1 _ 1).trans ?_
 show (bif decide (IntKind.i64.wrap ((a.length : Int) + (b.length : Int)) < 0) then none else L 1 (IntKind.i64.wrap ((a.length : Int) + (b.length : Int))) 2) = _
 rw [s2, n2]
 exact hL 0 _ 2
theorem app_loop2 (a b : List Int) (L : Nat → Int → List Int → Option AV) (X : List Int → Option AV)
  (hL : ∀ n i r, L (n + 1) i r = bif decide (i < ([a, b].length : Int)) then
   bif decide (0 ≤ i) && decide (i < ([a, b].length : Int)) then
    bif decide ((r.length + ([a, b].getD i.toNat []).length) * 8 ≤ LIM) then L n (IntKind.i64.wrap (i + 1)) (r ++ [a, b].getD i.toNat [])
    else none
   else none else X r)
  (h : a.length + b.length < 1000000) : L 3 0 [] = X (a ++ b) := by
 have t1 : decide ((([] : List Int).length + a.length) * 8 ≤ LIM) = true := decide_eq_true (lim8 (by simp only [List.length_nil]; omega))
 have t2 : decide ((a.length + b.length) * 8 ≤ LIM) = true := decide_eq_true (lim8 (by omega))
 rw [hL]
 show (bif decide ((([] : List Int).length + a.length) * 8 ≤ LIM) then L 2 1 ([] ++ a) else none) = _
 rw [t1, List.nil_append]
 refine (hL 1 1 a).trans ?_
 show (bif decide ((a.length + b.length) * 8 ≤ LIM) then L 1 2 (a ++ b) else none) = _
 rw [t2]
 exact hL 0 2 _
theorem F110.sem (a b : List Int) (h : concatB [a, b] = true) : callW F110.E false F110.fn 3 [.v (.sl (.sl (.int .i64))) [a, b]] = some (.v (.sl (.int .i64)) (concatL [a, b])) := by
 have hc := h
 unfold concatB at hc
 simp only [Bool.and_eq_true, decide_eq_true_eq, List.flatten_cons, List.flatten_nil, List.append_nil, List.length_append] at hc
 have hs : a.length + b.length < 1000000 := by omega
 have hg : growB ((a.length : Int) + (b.length : Int)) = true := by
  unfold growB
  simp only [Bool.and_eq_true, decide_eq_true_eq]
  omega
 refine (F110.start_eq 3 [a, b]).trans ?_
 refine (sum_loop2 a b (fun n s i => F110.l1_1_0_1_0 n (F110.kt 3 [1, 1, 0, 1, 0]) [a, b] s [a, b] ([a, b].length : Int) i) _ (fun n s i => F110.l1_1_0_1_0_eq n _ [a, b] s [a, b] _ i) hs).trans ?_
 refine (F110.c0 3 [a, b] _).trans ?_
 rw [hg, cond_true]
 refine (app_loop2 a b (fun n i r => F110.l1_1_1_1_0_1_0 n (F110.kt 3 [1, 1, 1, 1, 0, 1, 0]) [a, b] ([a, b].length : Int) i r) _ (fun n i r => F110.l1_1_1_1_0_1_0_eq n _ [a, b] _ i r) hs).trans ?_
 refine (F110.c1 3 _).trans ?_
 unfold concatL
 simp
theorem rel0_up {w : World} {ok : Nat → Prop} {x : AV} {u : Value} (h : rel0 w ok x u) : rel1 w ok [] mz x u := by
 cases x <;> first | exact h | trivial
theorem pullC_rel {w : World} {ok : Nat → Prop} {t : Ty} {cs : List AV} {us : List Value} {z : t.D} (h : pullC t cs = some z) (hf : F2 (rel0 w ok) cs us) : F2 (rel0 w ok) (explode t z) us := by
 have one : ∀ {t : Ty} {c : AV} {u : Value} {z : t.D}, leafD no t c = some z → rel0 w ok c u → rel0 w ok (.v t z) u := by
  intro t c u z hl hr
  exact leafD_rd (rd := no) (H := []) (m := mz) (fun i r hi => by simp [no] at hi) (fun k hk => hk) (fun id e t xs _ hH => by simp at hH) (rel0_up hr) hl
 cases t with
 | pair a b =>
  simp only [pullC] at h
  split at h
  case h_2 => simp at h
  rename_i y hy
  simp only [Option.some.injEq] at h
  subst h
  obtain ⟨u1, u2, e, h1, h2, _⟩ := implode_rd (rd := no) (H := []) (m := mz) (ok' := ok) (fun i r hi => by simp [no] at hi) (fun k hk => hk) (fun id e t xs _ hH => by simp at hH) (hf.imp fun x y _ h => rel0_up h) hy
  cases h2
  rw [List.append_nil] at e
  subst e
  exact explode_rel h1
 | _ =>
  match cs, h, hf with
  | [c], h, .cons h1 .nil => exact .cons (one h h1) .nil
theorem fn_rel {w : World} {ok : Nat → Prop} {g : Nat} {t : Ty} {cs : List AV} {z : t.D} {u : Value} (h : pullC t cs = some z) (hr : rel w ok [] mz (.fn g [] [.rp cs]) u) : rel w ok [] mz (.fn g [] [.rp (explode t z)]) u := by
 obtain ⟨us, vs, rfl, h1, h2⟩ := hr
 refine ⟨us, vs, rfl, h1, ?_⟩
 cases h2 with
 | cons a b =>
  obtain ⟨ad, ws, e1, e2, e3, e4, e5⟩ := a
  exact .cons ⟨ad, ws, e1, e2, e3, e4, pullC_rel h e5⟩ b
theorem rp_rel {w : World} {ok : Nat → Prop} {t : Ty} {cs : List AV} {z : t.D} {u : Value} (h : pullC t cs = some z) (hr : rel w ok [] mz (.rp cs) u) : rel w ok [] mz (.rp (explode t z)) u := by
 obtain ⟨ad, ws, e1, e2, e3, e4, e5⟩ := hr
 exact ⟨ad, ws, e1, e2, e3, e4, pullC_rel h e5⟩
theorem F96.eok : EOk Go.Proofs.Try.prog F96.E := eo calls_nil
theorem ok96 : HandOk Go.Proofs.Try.prog inv 46 h_varB := by
 intro args κ r h
 unfold h_varB at h
 split at h
 case h_2 => simp at h
 rename_i x0 cs
 cases hp : pullA (.int .i64) x0 with
 | none => simp [hp] at h
 | some y0 =>
  cases hq : pullC (.int .i64) cs with
  | none => simp [hp, hq] at h
  | some z =>
   simp only [hp, hq] at h
   refine ⟨_, h, spec_args (fun w okk us hf => ?_) (callW_ok (own := false) (k := 1) F96.eok mixed Go.Proofs.Try.func46 (by kernel_rfl) (show Go.Proofs.Try.f46.body = some (bodyOf Go.Proofs.Try.f46) by kernel_rfl) (F96.sem 1 y0 z))⟩
   cases hf with
   | cons a b =>
    cases b with
    | cons b c => exact .cons (pullA_rel hp a) (.cons (rp_rel hq b) c)
theorem F118.eok : EOk Go.Proofs.Try.prog F118.E := eo calls_nil
theorem ok118 : HandOk Go.Proofs.Try.prog inv 82 h_numB := by
 intro args κ r h
 unfold h_numB at h
 split at h
 case h_2 => simp at h
 rename_i x0 cs
 cases hp : pullA (.int .i64) x0 with
 | none => simp [hp] at h
 | some y0 =>
  cases hq : pullC (.int .i64) cs with
  | none => simp [hp, hq] at h
  | some z =>
   simp only [hp, hq] at h
   refine ⟨_, h, spec_args (fun w okk us hf => ?_) (callW_ok (own := false) (k := 1) F118.eok mixed Go.Proofs.Try.func82 (by kernel_rfl) (show Go.Proofs.Try.f82.body = some (bodyOf Go.Proofs.Try.f82) by kernel_rfl) (F118.sem 1 y0 z))⟩
   cases hf with
   | cons a b =>
    cases b with
    | cons b c => exact .cons (pullA_rel hp a) (.cons (rp_rel hq b) c)
theorem F108.eok : EOk Go.Proofs.Try.prog F108.E := eo calls_nil
theorem ok108 : HandOk Go.Proofs.Try.prog inv 62 h_rowN := by
 intro args κ r h
 unfold h_rowN at h
 split at h
 case h_2 => simp at h
 rename_i x0 cs
 cases hp : pullA (.sl (.int .i64)) x0 with
 | none => simp [hp] at h
 | some y0 =>
  cases hq : pullC ConT cs with
  | none => simp [hp, hq] at h
  | some z =>
   simp only [hp, hq] at h
   refine ⟨_, h, spec_args (fun w okk us hf => ?_) (callW_ok (own := false) (k := 1) F108.eok mixed Go.Proofs.Try.func62 (by kernel_rfl) (show Go.Proofs.Try.f62.body = some (bodyOf Go.Proofs.Try.f62) by kernel_rfl) (F108.sem 1 y0 z))⟩
   cases hf with
   | cons a b =>
    cases b with
    | cons b c => exact .cons (pullA_rel hp a) (.cons (rp_rel hq b) c)
theorem flat_res {w w' : World} {ok : Nat → Prop} {k : IntKind} {n : Int} (hok : ∀ i, ok i → i < w.heap.size) (hs : w.heap.size ≤ w'.heap.size) : ResRel w.heap.size ok w' (.v (.int k) n) (.int k n) :=
 ⟨ok, mz, ⟨fun i hi => Nat.lt_of_lt_of_le (hok i hi) hs, fun id r h => by simp [rowsA, rows2, rows1] at h, fun id r k h => by simp [rowsA, rows2, rows1] at h, fun i j ri rj k h => by simp [rowsA, rows2, rows1] at h⟩,
  (show Rd w' ok (.int k) n [.int k n] by simp [Rd]), fun i hi => .inl hi⟩
theorem run131 (s : ByteArray) (c : Int) (w : World) : (callFunc 95 #[.string s, .int .u8 c]).run Go.Proofs.Try.prog w = .ok (.value (.int .i64 (idxI s c))) w := by
 rw [run_callFunc_extern (e := Extern.BytealgIndexByte.indexByte) Go.Proofs.Try.func95 (by kernel_rfl) (by kernel_rfl) (by kernel_rfl) (by kernel_rfl)]
 rw [Lib.run_indexByteString]
 rfl
theorem run123 (s : ByteArray) (c : Int) (w : World) : (callFunc 89 #[.string s, .int .u8 c]).run Go.Proofs.Try.prog w = .ok (.value (.int .i64 (cntI s c))) w := by
 rw [run_callFunc_extern (e := Extern.BytealgCount.count) Go.Proofs.Try.func89 (by kernel_rfl) (by kernel_rfl) (by kernel_rfl) (by kernel_rfl)]
 rw [Lib.run_countString]
 rfl
theorem ok131 : HandOk Go.Proofs.Try.prog inv 95 h_idxI := hand_un fun xs => by
 intro w okk us hI hok ha
 cases ha with
 | cons h1 h2 =>
  cases h2 with
  | cons h2 h3 =>
   cases h3
   have e1 : _ = [Value.string xs.1] := h1
   have e2 : _ = [Value.int .u8 xs.2.1] := h2
   obtain ⟨rfl⟩ : _ = Value.string xs.1 ∧ True := ⟨List.cons.inj e1 |>.1, trivial⟩
   obtain ⟨rfl⟩ : _ = Value.int .u8 xs.2.1 ∧ True := ⟨List.cons.inj e2 |>.1, trivial⟩
   exact .inr ⟨_, run131 xs.1 xs.2.1 w, flat_res hok (Nat.le_refl _)⟩
theorem ok123 : HandOk Go.Proofs.Try.prog inv 89 h_cntI := hand_un fun xs => by
 intro w okk us hI hok ha
 cases ha with
 | cons h1 h2 =>
  cases h2 with
  | cons h2 h3 =>
   cases h3
   have e1 : _ = [Value.string xs.1] := h1
   have e2 : _ = [Value.int .u8 xs.2.1] := h2
   obtain ⟨rfl⟩ : _ = Value.string xs.1 ∧ True := ⟨List.cons.inj e1 |>.1, trivial⟩
   obtain ⟨rfl⟩ : _ = Value.int .u8 xs.2.1 ∧ True := ⟨List.cons.inj e2 |>.1, trivial⟩
   exact .inr ⟨_, run123 xs.1 xs.2.1 w, flat_res hok (Nat.le_refl _)⟩
theorem F124.eok : EOk Go.Proofs.Try.prog F124.E := eo (calls_cons ok131 calls_nil)
theorem ok124 : HandOk Go.Proofs.Try.prog inv 90 h_idxJ := hand_un fun xs => callW_ok (own := false) (k := 1) F124.eok mixed Go.Proofs.Try.func90 (by kernel_rfl) (show Go.Proofs.Try.f90.body = some (bodyOf Go.Proofs.Try.f90) by kernel_rfl) (F124.sem 1 xs.1 xs.2.1)
theorem one_byte {s : ByteArray} (h : decide (s.size = 1) = true) : ∃ b, s = ⟨#[b]⟩ := by
 have h' : s.size = 1 := of_decide_eq_true h
 obtain ⟨⟨l⟩⟩ := s
 have h2 : l.length = 1 := h'
 match l, h2 with
 | [b], _ => exact ⟨b, rfl⟩
theorem F116.eok : EOk Go.Proofs.Try.prog F116.E := eo (calls_cons ok124 calls_nil)
theorem ok116 : HandOk Go.Proofs.Try.prog inv 80 h_idx1 := hand_if fun xs hc => by
 obtain ⟨s, u, t⟩ := xs
 obtain ⟨b, rfl⟩ := one_byte (s := u) hc
 exact callW_ok (own := false) (k := 1) F116.eok mixed Go.Proofs.Try.func80 (by kernel_rfl) (show Go.Proofs.Try.f80.body = some (bodyOf Go.Proofs.Try.f80) by kernel_rfl) (F116.sem 1 s b)
theorem F109.eok : EOk Go.Proofs.Try.prog F109.E := eo (calls_cons ok116 calls_nil)
theorem ok109 : HandOk Go.Proofs.Try.prog inv 63 h_idx2 := hand_if fun xs hc => by
 obtain ⟨s, u, t⟩ := xs
 obtain ⟨b, rfl⟩ := one_byte (s := u) hc
 exact callW_ok (own := false) (k := 1) F109.eok mixed Go.Proofs.Try.func63 (by kernel_rfl) (show Go.Proofs.Try.f63.body = some (bodyOf Go.Proofs.Try.f63) by kernel_rfl) (F109.sem 1 s b)
theorem F94.eok : EOk Go.Proofs.Try.prog F94.E := eo (calls_cons ok109 calls_nil)
theorem ok94 : HandOk Go.Proofs.Try.prog inv 44 h_has1 := hand_if fun xs hc => by
 obtain ⟨s, u, t⟩ := xs
 obtain ⟨b, rfl⟩ := one_byte (s := u) hc
 exact callW_ok (own := false) (k := 1) F94.eok mixed Go.Proofs.Try.func44 (by kernel_rfl) (show Go.Proofs.Try.f44.body = some (bodyOf Go.Proofs.Try.f44) by kernel_rfl) (F94.sem 1 s b)
theorem F114.eok : EOk Go.Proofs.Try.prog F114.E := eo (calls_cons ok123 calls_nil)
theorem ok114 : HandOk Go.Proofs.Try.prog inv 79 h_cnt1 := hand_if fun xs hc => by
 obtain ⟨s, u, t⟩ := xs
 obtain ⟨b, rfl⟩ := one_byte (s := u) hc
 exact callW_ok (own := false) (k := 1) F114.eok mixed Go.Proofs.Try.func79 (by kernel_rfl) (show Go.Proofs.Try.f79.body = some (bodyOf Go.Proofs.Try.f79) by kernel_rfl) (F114.sem 1 s b)
theorem F105.eok : EOk Go.Proofs.Try.prog F105.E := eo calls_nil
theorem ok105 : HandOk Go.Proofs.Try.prog inv 60 h_withinD := hand_un fun xs => callW_ok (own := false) (k := 1) F105.eok mixed Go.Proofs.Try.func60 (by kernel_rfl) (show Go.Proofs.Try.f60.body = some (bodyOf Go.Proofs.Try.f60) by kernel_rfl) (F105.sem 1 xs.1 xs.2.1 xs.2.2.1)
theorem F106.eok : EOk Go.Proofs.Try.prog F106.E := eo (calls_cons ok94 (calls_cons ok105 (calls_cons ok114 calls_nil)))
theorem ok106 : HandOk Go.Proofs.Try.prog inv 61 h_namedD := hand_if fun xs hc => by
 have hc2 := (Bool.and_eq_true _ _).mp hc
 exact callW_ok (own := false) (k := 1) F106.eok mixed Go.Proofs.Try.func61 (by kernel_rfl) (show Go.Proofs.Try.f61.body = some (bodyOf Go.Proofs.Try.f61) by kernel_rfl) (F106.sem 1 xs.1 xs.2.1 xs.2.2.1 xs.2.2.2.1 hc2.1 hc2.2)
theorem F53.eok : EOk Go.Proofs.Try.prog F53.E := eo calls_nil
theorem ok53 : HandOk Go.Proofs.Try.prog inv 19 h_hasB := hand_if fun xs hc => callW_ok (own := false) (k := 101) F53.eok mixed Go.Proofs.Try.func19 (by kernel_rfl) (show Go.Proofs.Try.f19.body = some (bodyOf Go.Proofs.Try.f19) by kernel_rfl) (F53.sem xs.1 xs.2.1 hc)
theorem v104 : callW ⟨tt, [], [], [], none, inv, []⟩ false Go.Proofs.Try.f59 10 [] = some (.v (.sl (.pair .str .str)) formsL) := by kernel_rfl
theorem ok104 : HandOk Go.Proofs.Try.prog inv 59 h_forms := hand_un fun xs => callW_ok (own := false) (k := 10) (eo calls_nil) mixed Go.Proofs.Try.func59 (by kernel_rfl) (show Go.Proofs.Try.f59.body = some (bodyOf Go.Proofs.Try.f59) by kernel_rfl) v104
theorem v52 : callW ⟨tt, [], [], [], none, inv, []⟩ false Go.Proofs.Try.f18 10 [] = some (.v (.sl .str) shapesL) := by kernel_rfl
theorem ok52 : HandOk Go.Proofs.Try.prog inv 18 h_shapes := hand_un fun xs => callW_ok (own := false) (k := 10) (eo calls_nil) mixed Go.Proofs.Try.func18 (by kernel_rfl) (show Go.Proofs.Try.f18.body = some (bodyOf Go.Proofs.Try.f18) by kernel_rfl) v52
theorem F103.eok : EOk Go.Proofs.Try.prog F103.E := eo (calls_cons ok104 calls_nil)
theorem ok103 : HandOk Go.Proofs.Try.prog inv 58 h_word := hand_un fun xs => callW_ok (own := false) (k := 1) F103.eok mixed Go.Proofs.Try.func58 (by kernel_rfl) (show Go.Proofs.Try.f58.body = some (bodyOf Go.Proofs.Try.f58) by kernel_rfl) (F103.sem 1 xs.1)
theorem F91.eok : EOk Go.Proofs.Try.prog F91.E := eo (calls_cons ok103 (calls_cons ok104 calls_nil))
theorem ok91 : HandOk Go.Proofs.Try.prog inv 41 h_shapeS := hand_un fun xs => callW_ok (own := false) (k := 1) F91.eok mixed Go.Proofs.Try.func41 (by kernel_rfl) (show Go.Proofs.Try.f41.body = some (bodyOf Go.Proofs.Try.f41) by kernel_rfl) (F91.sem 1 xs.1)
noncomputable def i3 : TypeInfo := (Go.Proofs.Try.prog.info? 3).getD default
theorem i3_info : Go.Proofs.Try.prog.info? 3 = some i3 := by kernel_rfl
theorem i3_zero : i3.zero = some (.int .i64 0) := by kernel_rfl
theorem i3_size : i3.size = 1 := by kernel_rfl
theorem i3_bytes : i3.bytes = 8 := by kernel_rfl
theorem i3_pos : 0 < i3.size := by rw [i3_size]; exact Nat.one_pos
theorem ok117 : HandOk Go.Proofs.Try.prog inv 81 h_grow := by
 intro args κ r h
 unfold h_grow at h
 split at h
 case h_2 => simp at h
 rename_i n
 cases hg : growB n with
 | false => simp [hg] at h
 | true =>
  simp only [hg, cond_true] at h
  simp only [growB, Bool.and_eq_true, decide_eq_true_eq] at hg
  obtain ⟨h0, h1⟩ := hg
  refine ⟨_, h, fun w ok us hI hok ha => .inl ⟨callFunc_enter Go.Proofs.Try.func81 (by kernel_rfl) (by kernel_rfl) _ _, ?_⟩⟩
  cases ha with
  | cons h2 hr =>
  cases hr with
  | cons h3 hr =>
  cases hr
  rename_i u1 u2
  have h2 : u1 = .slice none 0 0 := h2
  have h3 : [u2] = [Value.int .i64 n] := h3
  obtain rfl : u2 = Value.int .i64 n := (List.cons.inj h3).1
  have hn : n = (n.toNat : Int) := (Int.toNat_of_nonneg (Int.le_of_lt h0)).symm
  rw [h2]
  have hc := Any8.slices_Grow_grow Go.Proofs.Try.growI i3 (.int .i64 0) i3_info i3_zero i3_pos none 0 0 n.toNat [] w (Nat.le_refl _) (by omega) (by rw [i3_bytes]; omega) (by omega) (by simp) (fun _ => rfl) (fun a h => by simp at h)
  have e1 : (Value.int .i64 n) = .int .i64 ((n.toNat : Nat) : Int) := congrArg (Value.int .i64) hn
  rw [e1]
  refine hc.mono fun e w' he => ?_
  obtain ⟨rfl, rfl⟩ := he
  refine ⟨_, rfl, ⟨rfl, rfl, rfl, by simp, fun k hk => heap_alloc_old w.drew _ hk⟩, ok, fun _ => _, ⟨fun k hk => by have := hok k hk; simp; omega, ?_, ?_, ?_⟩, ⟨⟨_, _, _, rfl⟩, rfl⟩, fun k hk => .inl hk⟩
  ·intro id r hr
   have hid : id = 0 ∧ r = .row 3 (.int .i64) [] := by
    cases id with
    | zero => simp [rowsA, rows2, rows1] at hr; exact ⟨rfl, hr.symm⟩
    | succ j => simp [rowsA, rows2, rows1] at hr
   obtain ⟨rfl, rfl⟩ := hid
   refine ⟨[], .nil, rfl, .inr ⟨_, _, _, rfl, Nat.le_refl _, heap_alloc_new w.drew _, Nat.zero_le _, grownCap_le_maxLen _ _ _ _ (by unfold maxLen; omega), ?_, by simp⟩⟩
   have hge : 0 + n.toNat ≤ grownCap w (0 + n.toNat) 0 3 := grownCap_ge w (0 + n.toNat) 0 3
   have hz : ∀ q, (Builtin.zeroCells (Value.int .i64 0).cells q).size = q := fun q => by simp [Builtin.zeroCells, Value.cells]
   rw [Array.size_append, Array.size_append, hz, hz]
   show 0 + (0 + n.toNat - 0) + (grownCap w (0 + n.toNat) 0 3 - (0 + n.toNat)) = grownCap w (0 + n.toNat) 0 3 * 1
   omega
  ·intro id r k hr hl hk ho
   have := hok k ho
   have hid : r = .row 3 (.int .i64) [] := by
    cases id with
    | zero => simp [rowsA, rows2, rows1] at hr; exact hr.symm
    | succ j => simp [rowsA, rows2, rows1] at hr
   subst hid
   simp only [RB, mblk, Option.some.injEq] at hk
   omega
  ·intro i j ri rj k hi hj _ _ _ _
   have z : ∀ (q : Nat) (r : Row), (rowsA (AV.nw 3 (.int .i64) []))[q]? = some r → q = 0 := fun q r h => by
    cases q with
    | zero => rfl
    | succ q => simp [rowsA, rows2, rows1] at h
   rw [z i ri hi, z j rj hj]
theorem F110.eok : EOk Go.Proofs.Try.prog F110.E := eo (calls_cons ok117 calls_nil)
theorem ok110 : HandOk Go.Proofs.Try.prog inv 64 h_concatL := hand_if fun xs hc => by
 obtain ⟨l, t⟩ := xs
 have hc' := hc
 unfold concatB at hc'
 simp only [Bool.and_eq_true, decide_eq_true_eq] at hc'
 obtain ⟨a, b, rfl⟩ := two_of (l := l) hc'.2
 exact callW_ok (own := false) (k := 3) F110.eok mixed Go.Proofs.Try.func64 (by kernel_rfl) (show Go.Proofs.Try.f64.body = some (bodyOf Go.Proofs.Try.f64) by kernel_rfl) (F110.sem a b hc)
theorem F95.eok : EOk Go.Proofs.Try.prog F95.E := eo (calls_cons ok110 calls_nil)
theorem ok95 : HandOk Go.Proofs.Try.prog inv 45 h_varsD := hand_if fun xs hc => callW_ok (own := false) (k := 1) F95.eok mixed Go.Proofs.Try.func45 (by kernel_rfl) (show Go.Proofs.Try.f45.body = some (bodyOf Go.Proofs.Try.f45) by kernel_rfl) (F95.sem 1 xs.1 hc)
theorem F54.eok : EOk Go.Proofs.Try.prog F54.E := eo calls_nil
theorem ok54 : HandOk Go.Proofs.Try.prog inv 20 h_placesL := hand_if fun xs hc => callW_ok (own := false) (k := 2000) F54.eok mixed Go.Proofs.Try.func20 (by kernel_rfl) (show Go.Proofs.Try.f20.body = some (bodyOf Go.Proofs.Try.f20) by kernel_rfl) (F54.sem xs.1 xs.2.1 xs.2.2.1 hc)
theorem F55.eok : EOk Go.Proofs.Try.prog F55.E := eo calls_nil
theorem ok55 : HandOk Go.Proofs.Try.prog inv 21 h_numbersL := hand_if fun xs hc => callW_ok (own := false) (k := 2000) F55.eok mixed Go.Proofs.Try.func21 (by kernel_rfl) (show Go.Proofs.Try.f21.body = some (bodyOf Go.Proofs.Try.f21) by kernel_rfl) (F55.sem xs.1 xs.2.1 xs.2.2.1 xs.2.2.2.1 xs.2.2.2.2.1 hc)
end Go.Proofs.Ytohdaehblenokaa.Ev
