/-
Seat 'a': the contracts of all that ElemFilters calls.
Conditions: the table of math/bits is laid.
-/
import Derived.Test.YtnojoaghcbljfaaGreatDoorAz
import Derived.Test.YtnojoaghcbljfaaGreatDoorDz
import Derived.Laws.Externs
set_option linter.unusedVariables false
set_option linter.unusedSimpArgs false
set_option maxRecDepth 100000
namespace Go.Proofs.YtnojoaghcbljfaaGreatDoor.Ev
open Go Go.RowKit
theorem chk_cons {P : Program} {t : Nat} {i : TInfo} {l : List (Nat × TInfo)} (h1 : chkT P t i = true) (h2 : chkAll P l = true) : chkAll P ((t, i) :: l) = true := (congrArg (· && _) h1).trans h2
theorem chk2 : chkT Go.Proofs.Tryz.prog 2 ⟨(.int .i64), false, 8, none, [], some .i64, false⟩ = true := by kernel_rfl
theorem chk3 : chkT Go.Proofs.Tryz.prog 3 ⟨(.int .i64), false, 8, none, [], some .i64, false⟩ = true := by kernel_rfl
theorem chk4 : chkT Go.Proofs.Tryz.prog 4 ⟨.bool, false, 1, none, [], none, false⟩ = true := by kernel_rfl
theorem chk5 : chkT Go.Proofs.Tryz.prog 5 ⟨(.int .u8), false, 1, none, [], some .u8, false⟩ = true := by kernel_rfl
theorem chk6 : chkT Go.Proofs.Tryz.prog 6 ⟨(.int .u8), false, 1, none, [], some .u8, false⟩ = true := by kernel_rfl
theorem chk7 : chkT Go.Proofs.Tryz.prog 7 ⟨(.pair (.int .i64) (.pair (.int .i64) (.pair .bool (.int .u8)))), true, 24, none, [(0, 2), (1, 3), (2, 4), (3, 6)], none, false⟩ = true := by kernel_rfl
theorem chk8 : chkT Go.Proofs.Tryz.prog 8 ⟨(.pair (.int .i64) (.pair (.int .i64) (.pair .bool (.int .u8)))), true, 24, none, [(0, 2), (1, 3), (2, 4), (3, 6)], none, false⟩ = true := by kernel_rfl
theorem chk9 : chkT Go.Proofs.Tryz.prog 9 ⟨.str, false, 16, none, [], none, true⟩ = true := by kernel_rfl
theorem chk10 : chkT Go.Proofs.Tryz.prog 10 ⟨.str, false, 16, none, [], none, true⟩ = true := by kernel_rfl
theorem chk11 : chkT Go.Proofs.Tryz.prog 11 ⟨.str, false, 16, none, [], none, true⟩ = true := by kernel_rfl
theorem chk12 : chkT Go.Proofs.Tryz.prog 12 ⟨(.int .u64), false, 8, none, [], some .u64, false⟩ = true := by kernel_rfl
theorem chk13 : chkT Go.Proofs.Tryz.prog 13 ⟨(.pair .str (.int .u64)), true, 24, none, [(0, 9), (1, 12)], none, false⟩ = true := by kernel_rfl
theorem chk14 : chkT Go.Proofs.Tryz.prog 14 ⟨(.pair .str (.int .u64)), true, 24, none, [(0, 9), (1, 12)], none, false⟩ = true := by kernel_rfl
theorem chk21 : chkT Go.Proofs.Tryz.prog 21 ⟨(.int .i32), false, 4, none, [], some .i32, false⟩ = true := by kernel_rfl
theorem chk22 : chkT Go.Proofs.Tryz.prog 22 ⟨(.sl (.int .u8)), false, 24, some 5, [], none, false⟩ = true := by kernel_rfl
theorem chk23 : chkT Go.Proofs.Tryz.prog 23 ⟨(.sl (.int .i8)), false, 24, some 35, [], none, false⟩ = true := by kernel_rfl
theorem chk24 : chkT Go.Proofs.Tryz.prog 24 ⟨(.int .i16), false, 2, none, [], some .i16, false⟩ = true := by kernel_rfl
theorem chk25 : chkT Go.Proofs.Tryz.prog 25 ⟨(.pair (.int .u8) (.pair (.sl (.int .u8)) (.pair (.sl (.int .u8)) (.pair (.sl (.int .i8)) (.pair (.int .i16) (.int .u8)))))), true, 88, none, [(0, 5), (1, 22), (2, 22), (3, 23), (4, 24), (5, 5)], none, false⟩ = true := by kernel_rfl
theorem chk26 : chkT Go.Proofs.Tryz.prog 26 ⟨(.pair (.int .u8) (.pair (.sl (.int .u8)) (.pair (.sl (.int .u8)) (.pair (.sl (.int .i8)) (.pair (.int .i16) (.int .u8)))))), true, 88, none, [(0, 5), (1, 22), (2, 22), (3, 23), (4, 24), (5, 5)], none, false⟩ = true := by kernel_rfl
theorem chk27 : chkT Go.Proofs.Tryz.prog 27 ⟨(.sl (.sl (.int .i64))), false, 24, some 30, [], none, false⟩ = true := by kernel_rfl
theorem chk28 : chkT Go.Proofs.Tryz.prog 28 ⟨(.pair (.pair (.int .u8) (.pair (.sl (.int .u8)) (.pair (.sl (.int .u8)) (.pair (.sl (.int .i8)) (.pair (.int .i16) (.int .u8)))))) (.sl (.sl (.int .i64)))), true, 112, none, [(0, 26), (6, 27)], none, false⟩ = true := by kernel_rfl
theorem chk29 : chkT Go.Proofs.Tryz.prog 29 ⟨(.pair (.pair (.int .u8) (.pair (.sl (.int .u8)) (.pair (.sl (.int .u8)) (.pair (.sl (.int .i8)) (.pair (.int .i16) (.int .u8)))))) (.sl (.sl (.int .i64)))), true, 112, none, [(0, 26), (6, 27)], none, false⟩ = true := by kernel_rfl
theorem chk30 : chkT Go.Proofs.Tryz.prog 30 ⟨(.sl (.int .i64)), false, 24, some 3, [], none, false⟩ = true := by kernel_rfl
theorem chk31 : chkT Go.Proofs.Tryz.prog 31 ⟨(.pair (.int .i64) (.pair (.sl (.int .i64)) (.pair (.sl (.int .i64)) (.pair (.sl (.int .i64)) (.pair (.sl (.int .i64)) (.pair (.sl (.int .i64)) (.pair (.int .i64) (.sl (.sl (.int .i64)))))))))), true, 160, none, [(0, 3), (1, 30), (2, 30), (3, 30), (4, 30), (5, 30), (6, 3), (7, 27)], none, false⟩ = true := by kernel_rfl
theorem chk32 : chkT Go.Proofs.Tryz.prog 32 ⟨(.pair (.int .i64) (.pair (.sl (.int .i64)) (.pair (.sl (.int .i64)) (.pair (.sl (.int .i64)) (.pair (.sl (.int .i64)) (.pair (.sl (.int .i64)) (.pair (.int .i64) (.sl (.sl (.int .i64)))))))))), true, 160, none, [(0, 3), (1, 30), (2, 30), (3, 30), (4, 30), (5, 30), (6, 3), (7, 27)], none, false⟩ = true := by kernel_rfl
theorem chk35 : chkT Go.Proofs.Tryz.prog 35 ⟨(.int .i8), false, 1, none, [], some .i8, false⟩ = true := by kernel_rfl
theorem chk37 : chkT Go.Proofs.Tryz.prog 37 ⟨(.sl (.pair (.int .i64) (.pair (.sl (.int .u64)) (.pair (.int .i64) (.pair (.int .i64) (.int .i64)))))), false, 24, some 47, [], none, false⟩ = true := by kernel_rfl
theorem chk45 : chkT Go.Proofs.Tryz.prog 45 ⟨(.sl (.int .u64)), false, 24, some 81, [], none, false⟩ = true := by kernel_rfl
theorem chk46 : chkT Go.Proofs.Tryz.prog 46 ⟨(.pair (.int .i64) (.pair (.sl (.int .u64)) (.pair (.int .i64) (.pair (.int .i64) (.int .i64))))), true, 56, none, [(0, 3), (1, 45), (2, 3), (3, 3), (4, 3)], none, false⟩ = true := by kernel_rfl
theorem chk47 : chkT Go.Proofs.Tryz.prog 47 ⟨(.pair (.int .i64) (.pair (.sl (.int .u64)) (.pair (.int .i64) (.pair (.int .i64) (.int .i64))))), true, 56, none, [(0, 3), (1, 45), (2, 3), (3, 3), (4, 3)], none, false⟩ = true := by kernel_rfl
theorem chk56 : chkT Go.Proofs.Tryz.prog 56 ⟨(.int .u64), false, 8, none, [], some .u64, false⟩ = true := by kernel_rfl
theorem chk64 : chkT Go.Proofs.Tryz.prog 64 ⟨(.pair (.int .u8) (.pair (.int .u8) (.pair (.sl (.int .i8)) (.sl (.int .i8))))), true, 56, none, [(0, 5), (1, 5), (2, 23), (3, 23)], none, false⟩ = true := by kernel_rfl
theorem chk65 : chkT Go.Proofs.Tryz.prog 65 ⟨(.pair (.int .u8) (.pair (.int .u8) (.pair (.sl (.int .i8)) (.sl (.int .i8))))), true, 56, none, [(0, 5), (1, 5), (2, 23), (3, 23)], none, false⟩ = true := by kernel_rfl
theorem chk69 : chkT Go.Proofs.Tryz.prog 69 ⟨(.pair (.int .u8) (.pair (.sl (.int .i64)) (.pair (.sl (.sl (.int .i64))) (.int .i64)))), true, 64, none, [(0, 5), (1, 30), (2, 27), (3, 3)], none, false⟩ = true := by kernel_rfl
theorem chk70 : chkT Go.Proofs.Tryz.prog 70 ⟨(.pair (.int .u8) (.pair (.sl (.int .i64)) (.pair (.sl (.sl (.int .i64))) (.int .i64)))), true, 64, none, [(0, 5), (1, 30), (2, 27), (3, 3)], none, false⟩ = true := by kernel_rfl
theorem chk77 : chkT Go.Proofs.Tryz.prog 77 ⟨(.int .i64), false, 8, none, [], some .i64, false⟩ = true := by kernel_rfl
theorem chk81 : chkT Go.Proofs.Tryz.prog 81 ⟨(.int .u64), false, 8, none, [], some .u64, false⟩ = true := by kernel_rfl
theorem chk85 : chkT Go.Proofs.Tryz.prog 85 ⟨(.sl .bool), false, 24, some 4, [], none, false⟩ = true := by kernel_rfl
theorem chk86 : chkT Go.Proofs.Tryz.prog 86 ⟨(.pair (.sl (.pair (.int .i64) (.pair (.sl (.int .u64)) (.pair (.int .i64) (.pair (.int .i64) (.int .i64)))))) (.pair (.sl (.pair (.int .i64) (.pair (.sl (.int .u64)) (.pair (.int .i64) (.pair (.int .i64) (.int .i64)))))) (.pair (.sl .bool) (.pair (.sl .bool) (.sl .bool))))), true, 120, none, [(0, 37), (1, 37), (2, 85), (3, 85), (4, 85)], none, false⟩ = true := by kernel_rfl
theorem chk87 : chkT Go.Proofs.Tryz.prog 87 ⟨(.pair (.sl (.pair (.int .i64) (.pair (.sl (.int .u64)) (.pair (.int .i64) (.pair (.int .i64) (.int .i64)))))) (.pair (.sl (.pair (.int .i64) (.pair (.sl (.int .u64)) (.pair (.int .i64) (.pair (.int .i64) (.int .i64)))))) (.pair (.sl .bool) (.pair (.sl .bool) (.sl .bool))))), true, 120, none, [(0, 37), (1, 37), (2, 85), (3, 85), (4, 85)], none, false⟩ = true := by kernel_rfl
theorem chk95 : chkT Go.Proofs.Tryz.prog 95 ⟨(.sl .str), false, 24, some 9, [], none, false⟩ = true := by kernel_rfl
theorem chk125 : chkT Go.Proofs.Tryz.prog 125 ⟨(.int .i64), false, 8, none, [], some .i64, false⟩ = true := by kernel_rfl
theorem chk134 : chkT Go.Proofs.Tryz.prog 134 ⟨(.int .i64), false, 8, none, [], some .i64, false⟩ = true := by kernel_rfl
theorem chk140 : chkT Go.Proofs.Tryz.prog 140 ⟨(.int .u32), false, 4, none, [], some .u32, false⟩ = true := by kernel_rfl
theorem chk149 : chkT Go.Proofs.Tryz.prog 149 ⟨(.int .u64), false, 8, none, [], some .u64, false⟩ = true := by kernel_rfl
theorem chk157 : chkT Go.Proofs.Tryz.prog 157 ⟨(.pair .str .str), true, 32, none, [(0, 9), (1, 9)], none, false⟩ = true := by kernel_rfl
theorem chk158 : chkT Go.Proofs.Tryz.prog 158 ⟨(.pair .str .str), true, 32, none, [(0, 9), (1, 9)], none, false⟩ = true := by kernel_rfl
theorem chk159 : chkT Go.Proofs.Tryz.prog 159 ⟨(.sl (.pair .str .str)), false, 24, some 158, [], none, false⟩ = true := by kernel_rfl
theorem chk187 : chkT Go.Proofs.Tryz.prog 187 ⟨(.int .u8), false, 1, none, [], some .u8, false⟩ = true := by kernel_rfl
theorem chk188 : chkT Go.Proofs.Tryz.prog 188 ⟨(.int .u8), false, 1, none, [], some .u8, false⟩ = true := by kernel_rfl
theorem chk191 : chkT Go.Proofs.Tryz.prog 191 ⟨(.int .i32), false, 4, none, [], some .i32, false⟩ = true := by kernel_rfl
theorem chk192 : chkT Go.Proofs.Tryz.prog 192 ⟨(.int .i32), false, 4, none, [], some .i32, false⟩ = true := by kernel_rfl
theorem tt_ok : chkAll Go.Proofs.Tryz.prog tt = true := by
 unfold tt
 exact (chk_cons chk2 (chk_cons chk3 (chk_cons chk4 (chk_cons chk5 (chk_cons chk6 (chk_cons chk7 (chk_cons chk8 (chk_cons chk9 (chk_cons chk10 (chk_cons chk11 (chk_cons chk12 (chk_cons chk13 (chk_cons chk14 (chk_cons chk21 (chk_cons chk22 (chk_cons chk23 (chk_cons chk24 (chk_cons chk25 (chk_cons chk26 (chk_cons chk27 (chk_cons chk28 (chk_cons chk29 (chk_cons chk30 (chk_cons chk31 (chk_cons chk32 (chk_cons chk35 (chk_cons chk37 (chk_cons chk45 (chk_cons chk46 (chk_cons chk47 (chk_cons chk56 (chk_cons chk64 (chk_cons chk65 (chk_cons chk69 (chk_cons chk70 (chk_cons chk77 (chk_cons chk81 (chk_cons chk85 (chk_cons chk86 (chk_cons chk87 (chk_cons chk95 (chk_cons chk125 (chk_cons chk134 (chk_cons chk140 (chk_cons chk149 (chk_cons chk157 (chk_cons chk158 (chk_cons chk159 (chk_cons chk187 (chk_cons chk188 (chk_cons chk191 (chk_cons chk192 rfl))))))))))))))))))))))))))))))))))))))))))))))))))))
theorem mixed : Go.Proofs.Tryz.prog.follows .mixedOrders = true := by kernel_rfl
theorem keep_inv (w w' : World) (h : inv w) (hb : Below w.heap.size w w') : inv w' := by
 intro j hj
 have h0 := h j hj
 have hlt : (0 : Nat) < w.heap.size := World.block_lt_of_cell? w _ h0
 exact (World.cell?_of_block (hb.block 0 hlt)).trans h0
theorem eo {l : List (Nat × Hand)} {k x f} (h : CallsOk Go.Proofs.Tryz.prog ⟨tt, l, k, x, f, inv, []⟩) : EOk Go.Proofs.Tryz.prog ⟨tt, l, k, x, f, inv, []⟩ := ⟨tyOk_of tt_ok, h, keep_inv, mcalls_nil⟩
theorem sum_loop2 (a b : List Int) (L : Nat → Int → Int → Option AV) (X : Int → Option AV)
  (hL : ∀ n s i, L (n + 1) s i = bif decide (i < ([a, b].length : Int)) then
   bif decide (0 ≤ i) && decide (i < ([a, b].length : Int)) then
    bif decide (IntKind.i64.wrap (s + (([a, b].getD i.toNat []).length : Int)) < 0) then none
    else L n (IntKind.i64.wrap (s + (([a, b].getD i.toNat []).length : Int))) (IntKind.i64.wrap (i + 1))
   else none else X s)
  (h : a.length + b.length < 1000000) : L 3 0 0 = X ((a.length : Int) + (b.length : Int)) := by
 have s1 : IntKind.i64.wrap (0 + (a.length : Int)) = (a.length : Int) := by rw [wrap_ok (by omega) (by omega)]; omega
 have s2 : IntKind.i64.wrap ((a.length : Int) + (b.length : Int)) = (a.length : Int) + (b.length : Int) := wrap_ok (by omega) (by omega)
 have n1 : decide ((a.length : Int) < 0) = false := decide_eq_false (by omega)
 have n2 : decide ((a.length : Int) + (b.length : Int) < 0) = false := decide_eq_false (by omega)
 rw [hL]
 show (bif decide (IntKind.i64.wrap (0 + (a.length : Int)) < 0) then none else L 2 (IntKind.i64.wrap (0 + (a.length : Int))) 1) = _
 rw [s1, n1]
 refine (hL 1 _ 1).trans ?_
 show (bif decide (IntKind.i64.wrap ((a.length : Int) + (b.length : Int)) < 0) then none else L 1 (IntKind.i64.wrap ((a.length : Int) + (b.length : Int))) 2) = _
 rw [s2, n2]
 exact hL 0 _ 2
theorem app_loop2 (a b : List Int) (L : Nat → Int → List Int → Option AV) (X : List Int → Option AV)
  (hL : ∀ n i r, L (n + 1) i r = bif decide (i < ([a, b].length : Int)) then
   bif decide (0 ≤ i) && decide (i < ([a, b].length : Int)) then
    bif decide ((r.length + ([a, b].getD i.toNat []).length) * 8 ≤ LIM) then L n (IntKind.i64.wrap (i + 1)) (r ++ [a, b].getD i.toNat [])
    else none
   else none else X r)
  (h : a.length + b.length < 1000000) : L 3 0 [] = X (a ++ b) := by
 have t1 : decide ((([] : List Int).length + a.length) * 8 ≤ LIM) = true := decide_eq_true (lim8 (by simp only [List.length_nil]; omega))
 have t2 : decide ((a.length + b.length) * 8 ≤ LIM) = true := decide_eq_true (lim8 (by omega))
 rw [hL]
 show (bif decide ((([] : List Int).length + a.length) * 8 ≤ LIM) then L 2 1 ([] ++ a) else none) = _
 rw [t1, List.nil_append]
 refine (hL 1 1 a).trans ?_
 show (bif decide ((a.length + b.length) * 8 ≤ LIM) then L 1 2 (a ++ b) else none) = _
 rw [t2]
 exact hL 0 2 _
theorem F110.sem (a b : List Int) (h : concatB [a, b] = true) : callW F110.E false F110.fn 3 [.v (.sl (.sl (.int .i64))) [a, b]] = some (.v (.sl (.int .i64)) (concatL [a, b])) := by
 have hc := h
 unfold concatB at hc
 simp only [Bool.and_eq_true, decide_eq_true_eq, List.flatten_cons, List.flatten_nil, List.append_nil, List.length_append] at hc
 have hs : a.length + b.length < 1000000 := by omega
 have hg : growB ((a.length : Int) + (b.length : Int)) = true := by
  unfold growB
  simp only [Bool.and_eq_true, decide_eq_true_eq]
  omega
 refine (F110.start_eq 3 [a, b]).trans ?_
 refine (sum_loop2 a b (fun n s i => F110.l1_1_0_1_0 n (F110.kt 3 [1, 1, 0, 1, 0]) [a, b] s [a, b] ([a, b].length : Int) i) _ (fun n s i => F110.l1_1_0_1_0_eq n _ [a, b] s [a, b] _ i) hs).trans ?_
 refine (F110.c0 3 [a, b] _).trans ?_
 rw [hg, cond_true]
 refine (app_loop2 a b (fun n i r => F110.l1_1_1_1_0_1_0 n (F110.kt 3 [1, 1, 1, 1, 0, 1, 0]) [a, b] ([a, b].length : Int) i r) _ (fun n i r => F110.l1_1_1_1_0_1_0_eq n _ [a, b] _ i r) hs).trans ?_
 refine (F110.c1 3 _).trans ?_
 unfold concatL
 simp
theorem rel0_up {w : World} {ok : Nat → Prop} {x : AV} {u : Value} (h : rel0 w ok x u) : rel1 w ok [] mz x u := by
 cases x <;> first | exact h | trivial
theorem pullC_rel {w : World} {ok : Nat → Prop} {t : Ty} {cs : List AV} {us : List Value} {z : t.D} (h : pullC t cs = some z) (hf : F2 (rel0 w ok) cs us) : F2 (rel0 w ok) (explode t z) us := by
 have one : ∀ {t : Ty} {c : AV} {u : Value} {z : t.D}, leafD no t c = some z → rel0 w ok c u → rel0 w ok (.v t z) u := by
  intro t c u z hl hr
  exact leafD_rd (rd := no) (H := []) (m := mz) (fun i r hi => by simp [no] at hi) (fun k hk => hk) (fun id e t xs _ hH => by simp at hH) (rel0_up hr) hl
 cases t with
 | pair a b =>
  simp only [pullC] at h
  split at h
  case h_2 => simp at h
  rename_i y hy
  simp only [Option.some.injEq] at h
  subst h
  obtain ⟨u1, u2, e, h1, h2, _⟩ := implode_rd (rd := no) (H := []) (m := mz) (ok' := ok) (fun i r hi => by simp [no] at hi) (fun k hk => hk) (fun id e t xs _ hH => by simp at hH) (hf.imp fun x y _ h => rel0_up h) hy
  cases h2
  rw [List.append_nil] at e
  subst e
  exact explode_rel h1
 | _ =>
  match cs, h, hf with
  | [c], h, .cons h1 .nil => exact .cons (one h h1) .nil
theorem fn_rel {w : World} {ok : Nat → Prop} {g : Nat} {t : Ty} {cs : List AV} {z : t.D} {u : Value} (h : pullC t cs = some z) (hr : rel w ok [] mz (.fn g [] [.rp cs]) u) : rel w ok [] mz (.fn g [] [.rp (explode t z)]) u := by
 obtain ⟨us, vs, rfl, h1, h2⟩ := hr
 refine ⟨us, vs, rfl, h1, ?_⟩
 cases h2 with
 | cons a b =>
  obtain ⟨ad, ws, e1, e2, e3, e4, e5⟩ := a
  exact .cons ⟨ad, ws, e1, e2, e3, e4, pullC_rel h e5⟩ b
theorem rp_rel {w : World} {ok : Nat → Prop} {t : Ty} {cs : List AV} {z : t.D} {u : Value} (h : pullC t cs = some z) (hr : rel w ok [] mz (.rp cs) u) : rel w ok [] mz (.rp (explode t z)) u := by
 obtain ⟨ad, ws, e1, e2, e3, e4, e5⟩ := hr
 exact ⟨ad, ws, e1, e2, e3, e4, pullC_rel h e5⟩
theorem F66.eok : EOk Go.Proofs.Tryz.prog F66.E := eo calls_nil
theorem ok66 : HandOk Go.Proofs.Tryz.prog inv 52 h_inD := hand_un fun xs => callW_ok (own := false) (k := 1) F66.eok mixed Go.Proofs.Tryz.func52 (by kernel_rfl) (show Go.Proofs.Tryz.f52.body = some (bodyOf Go.Proofs.Tryz.f52) by kernel_rfl) (F66.sem 1 xs.1)
theorem F68.eok : EOk Go.Proofs.Tryz.prog F68.E := eo calls_nil
theorem ok68 : HandOk Go.Proofs.Tryz.prog inv 54 h_placeD := hand_un fun xs => callW_ok (own := false) (k := 1) F68.eok mixed Go.Proofs.Tryz.func54 (by kernel_rfl) (show Go.Proofs.Tryz.f54.body = some (bodyOf Go.Proofs.Tryz.f54) by kernel_rfl) (F68.sem 1 xs.1)
theorem F67.eok : EOk Go.Proofs.Tryz.prog F67.E := eo calls_nil
theorem ok67 : HandOk Go.Proofs.Tryz.prog inv 53 h_wordD := hand_if fun xs hc => callW_ok (own := false) (k := 1) F67.eok mixed Go.Proofs.Tryz.func53 (by kernel_rfl) (show Go.Proofs.Tryz.f53.body = some (bodyOf Go.Proofs.Tryz.f53) by kernel_rfl) (F67.sem 1 xs.1 xs.2.1 hc)
theorem F31.eok : EOk Go.Proofs.Tryz.prog F31.E := eo (calls_cons ok66 (calls_cons ok67 (calls_cons ok68 calls_nil)))
theorem ok31 : HandOk Go.Proofs.Tryz.prog inv 22 h_hasD := hand_if fun xs hc => callW_ok (own := false) (k := 1) F31.eok mixed Go.Proofs.Tryz.func22 (by kernel_rfl) (show Go.Proofs.Tryz.f22.body = some (bodyOf Go.Proofs.Tryz.f22) by kernel_rfl) (F31.sem 1 xs.1 xs.2.1 hc)
theorem F75.eok : EOk Go.Proofs.Tryz.prog F75.E := eo calls_nil
theorem ok75 : HandOk Go.Proofs.Tryz.prog inv 92 h_sizeD := hand_un fun xs => callW_ok (own := false) (k := 1) F75.eok mixed Go.Proofs.Tryz.func92 (by kernel_rfl) (show Go.Proofs.Tryz.f92.body = some (bodyOf Go.Proofs.Tryz.f92) by kernel_rfl) (F75.sem 1 xs.1)
theorem F78.eok : EOk Go.Proofs.Tryz.prog F78.E := eo (calls_cons ok66 calls_nil)
theorem ok78 : HandOk Go.Proofs.Tryz.prog inv 95 h_outD := hand_un fun xs => callW_ok (own := false) (k := 1) F78.eok mixed Go.Proofs.Tryz.func95 (by kernel_rfl) (show Go.Proofs.Tryz.f95.body = some (bodyOf Go.Proofs.Tryz.f95) by kernel_rfl) (F78.sem 1 xs.1)
theorem F71.eok : EOk Go.Proofs.Tryz.prog F71.E := eo (calls_cons ok68 calls_nil)
theorem ok71 : HandOk Go.Proofs.Tryz.prog inv 98 h_room := hand_if fun xs hc => callW_ok (own := true) (k := 1) F71.eok mixed Go.Proofs.Tryz.func98 (by kernel_rfl) (show Go.Proofs.Tryz.f98.body = some (bodyOf Go.Proofs.Tryz.f98) by kernel_rfl) (F71.sem 1 xs.1 xs.2.1 hc)
theorem ok64 : HandOk Go.Proofs.Tryz.prog inv 55 h_tzD := hand_if fun xs hc => by
 intro w okk us hI hok ha
 refine .inl ⟨callFunc_enter Go.Proofs.Tryz.func55 (by kernel_rfl) (by kernel_rfl) _ _, ?_⟩
 cases ha with
 | cons h1 h2 =>
  cases h2
  have hu := uB_U hc
  unfold U at hu
  have e1 : _ = [Value.int .u64 xs.1] := h1
  obtain ⟨rfl⟩ : _ = Value.int .u64 xs.1 ∧ True := ⟨List.cons.inj e1 |>.1, trivial⟩
  have hx : xs.1 = ((xs.1.toNat : Nat) : Int) := (fun (a : Int) (h : 0 ≤ a) => show a = ((a.toNat : Nat) : Int) by omega) xs.1 hu.1
  have hcall := Any7.bits_TrailingZeros64 Go.Proofs.Tryz.tzI xs.1.toNat (by omega) w (fun _ => hI)
  rw [← hx] at hcall
  refine hcall.mono fun e w' he => ?_
  obtain ⟨rfl, rfl⟩ := he
  exact ⟨_, rfl, Below.refl _ w', okk, mz, ⟨fun i hi => hok i hi, fun id r h => by simp [rowsA, rows2, rows1, argA] at h, fun id r k h => by simp [rowsA, rows2, rows1, argA] at h, fun i j ri rj k h => by simp [rowsA, rows2, rows1, argA] at h⟩,
   (show Rd w' okk (.int .i64) (tzD xs.1) [.int .i64 _] by unfold tzD; simp [Rd]), fun i hi => .inl hi⟩
theorem F102.eok : EOk Go.Proofs.Tryz.prog F102.E := eo calls_nil
theorem ok102 : HandOk Go.Proofs.Tryz.prog inv 126 h_len64D := hand_if fun xs hc => callW_ok (own := false) (k := 1) F102.eok mixed Go.Proofs.Tryz.func126 (by kernel_rfl) (show Go.Proofs.Tryz.f126.body = some (bodyOf Go.Proofs.Tryz.f126) by kernel_rfl) (F102.sem 1 xs.1)
theorem F88.eok : EOk Go.Proofs.Tryz.prog F88.E := eo (calls_cons ok102 calls_nil)
theorem ok88 : HandOk Go.Proofs.Tryz.prog inv 137 h_lzD := hand_if fun xs hc => callW_ok (own := false) (k := 1) F88.eok mixed Go.Proofs.Tryz.func137 (by kernel_rfl) (show Go.Proofs.Tryz.f137.body = some (bodyOf Go.Proofs.Tryz.f137) by kernel_rfl) (F88.sem 1 xs.1 hc)
theorem F89.eok : EOk Go.Proofs.Tryz.prog F89.E := eo calls_nil
theorem ok89 : HandOk Go.Proofs.Tryz.prog inv 138 h_onesD := hand_if fun xs hc => callW_ok (own := false) (k := 1) F89.eok mixed Go.Proofs.Tryz.func138 (by kernel_rfl) (show Go.Proofs.Tryz.f138.body = some (bodyOf Go.Proofs.Tryz.f138) by kernel_rfl) (F89.sem 1 xs.1)
theorem F72.eok : EOk Go.Proofs.Tryz.prog F72.E := eo (calls_cons ok64 (calls_cons ok88 (calls_cons ok89 calls_nil)))
theorem ok72 : HandOk Go.Proofs.Tryz.prog inv 99 h_madeD := hand_if fun xs hc => spec_fits fun hx => callW_ok (own := false) (k := xs.2.1.length + 1) F72.eok mixed Go.Proofs.Tryz.func99 (by kernel_rfl) (show Go.Proofs.Tryz.f99.body = some (bodyOf Go.Proofs.Tryz.f99) by kernel_rfl) (F72.sem xs.1 xs.2.1 hc (hx (.v (.sl (.int .u64)) xs.2.1) (by simp [argsN, argA])).1)
theorem F29.eok : EOk Go.Proofs.Tryz.prog F29.E := eo (calls_cons ok64 calls_nil)
theorem ok29 : HandOk Go.Proofs.Tryz.prog inv 23 h_listD := hand_if fun xs hc => callW_ok (own := false) (k := xs.1.2.1.length + 100) F29.eok mixed Go.Proofs.Tryz.func23 (by kernel_rfl) (show Go.Proofs.Tryz.f23.body = some (bodyOf Go.Proofs.Tryz.f23) by kernel_rfl) (F29.sem xs.1 hc)
theorem F79.eok : EOk Go.Proofs.Tryz.prog F79.E := eo calls_nil
theorem ok79 : HandOk Go.Proofs.Tryz.prog inv 96 h_maxL := hand_if fun xs hc => spec_fits fun hx => callW_ok (own := false) (k := xs.1.length + 1) F79.eok mixed Go.Proofs.Tryz.func96 (by kernel_rfl) (show Go.Proofs.Tryz.f96.body = some (bodyOf Go.Proofs.Tryz.f96) by kernel_rfl) (F79.sem xs.1 hc (hx (.v (.sl (.int .i64)) xs.1) (by simp [argsN, argA])).1)
theorem F80.eok : EOk Go.Proofs.Tryz.prog F80.E := eo calls_nil
theorem ok80 : HandOk Go.Proofs.Tryz.prog inv 97 h_minL := hand_if fun xs hc => spec_fits fun hx => callW_ok (own := false) (k := xs.1.length + 1) F80.eok mixed Go.Proofs.Tryz.func97 (by kernel_rfl) (show Go.Proofs.Tryz.f97.body = some (bodyOf Go.Proofs.Tryz.f97) by kernel_rfl) (F80.sem xs.1 hc (hx (.v (.sl (.int .i64)) xs.1) (by simp [argsN, argA])).1)
theorem F74.eok : EOk Go.Proofs.Tryz.prog F74.E := eo (calls_cons ok75 calls_nil)
theorem ok74 : HandOk Go.Proofs.Tryz.prog inv 91 h_emptyD := hand_un fun xs => callW_ok (own := false) (k := 1) F74.eok mixed Go.Proofs.Tryz.func91 (by kernel_rfl) (show Go.Proofs.Tryz.f91.body = some (bodyOf Go.Proofs.Tryz.f91) by kernel_rfl) (F74.sem 1 xs.1)
theorem F96.eok : EOk Go.Proofs.Tryz.prog F96.E := eo calls_nil
theorem ok96 : HandOk Go.Proofs.Tryz.prog inv 133 h_varB := by
 intro args κ r h
 unfold h_varB at h
 split at h
 case h_2 => simp at h
 rename_i x0 cs
 cases hp : pullA (.int .i64) x0 with
 | none => simp [hp] at h
 | some y0 =>
  cases hq : pullC (.int .i64) cs with
  | none => simp [hp, hq] at h
  | some z =>
   simp only [hp, hq] at h
   refine ⟨_, h, spec_args (fun w okk us hf => ?_) (callW_ok (own := false) (k := 1) F96.eok mixed Go.Proofs.Tryz.func133 (by kernel_rfl) (show Go.Proofs.Tryz.f133.body = some (bodyOf Go.Proofs.Tryz.f133) by kernel_rfl) (F96.sem 1 y0 z))⟩
   cases hf with
   | cons a b =>
    cases b with
    | cons b c => exact .cons (pullA_rel hp a) (.cons (rp_rel hq b) c)
theorem F118.eok : EOk Go.Proofs.Tryz.prog F118.E := eo calls_nil
theorem ok118 : HandOk Go.Proofs.Tryz.prog inv 175 h_numB := by
 intro args κ r h
 unfold h_numB at h
 split at h
 case h_2 => simp at h
 rename_i x0 cs
 cases hp : pullA (.int .i64) x0 with
 | none => simp [hp] at h
 | some y0 =>
  cases hq : pullC (.int .i64) cs with
  | none => simp [hp, hq] at h
  | some z =>
   simp only [hp, hq] at h
   refine ⟨_, h, spec_args (fun w okk us hf => ?_) (callW_ok (own := false) (k := 1) F118.eok mixed Go.Proofs.Tryz.func175 (by kernel_rfl) (show Go.Proofs.Tryz.f175.body = some (bodyOf Go.Proofs.Tryz.f175) by kernel_rfl) (F118.sem 1 y0 z))⟩
   cases hf with
   | cons a b =>
    cases b with
    | cons b c => exact .cons (pullA_rel hp a) (.cons (rp_rel hq b) c)
theorem F99g78.eok : EOk Go.Proofs.Tryz.prog F99g78.E := eo (calls_cons ok78 calls_nil)
theorem F99g96.eok : EOk Go.Proofs.Tryz.prog F99g96.E := eo (calls_cons ok96 calls_nil)
theorem F99g118.eok : EOk Go.Proofs.Tryz.prog F99g118.E := eo (calls_cons ok118 calls_nil)
theorem ok99 : HandOk Go.Proofs.Tryz.prog inv 136 h_idxF := by
 intro args κ r h
 unfold h_idxF at h
 split at h
 ·rename_i x0
  cases hp : pullA (.sl (.int .i64)) x0 with
  | none => simp [hp] at h
  | some y0 =>
   simp only [hp] at h
   refine ⟨_, h, spec_args (fun w okk us hf => ?_) (spec_fits (args := [.v (.sl (.int .i64)) y0, .fn 95 [] []]) fun hx => callW_ok (own := false) (k := y0.length + 1) F99g78.eok mixed Go.Proofs.Tryz.func136 (by kernel_rfl) (show Go.Proofs.Tryz.f136.body = some (bodyOf Go.Proofs.Tryz.f136) by kernel_rfl) (F99g78.sem y0 (hx (.v (.sl (.int .i64)) y0) (by simp)).1))⟩
   cases hf with
   | cons a b => exact .cons (pullA_rel hp a) b
 ·rename_i x0 cs
  cases hp : pullA (.sl (.int .i64)) x0 with
  | none => simp [hp] at h
  | some y0 =>
   cases hq : pullC (.int .i64) cs with
   | none => simp [hp, hq] at h
   | some z =>
    simp only [hp, hq] at h
    refine ⟨_, h, spec_args (fun w okk us hf => ?_) (spec_fits (args := [.v (.sl (.int .i64)) y0, .fn 133 [] [.rp (explode (.int .i64) z)]]) fun hx => callW_ok (own := false) (k := y0.length + 1) F99g96.eok mixed Go.Proofs.Tryz.func136 (by kernel_rfl) (show Go.Proofs.Tryz.f136.body = some (bodyOf Go.Proofs.Tryz.f136) by kernel_rfl) (F99g96.sem y0 z (hx (.v (.sl (.int .i64)) y0) (by simp)).1))⟩
    cases hf with
    | cons a b =>
     cases b with
     | cons b c => exact .cons (pullA_rel hp a) (.cons (fn_rel hq b) c)
 ·rename_i x0 cs
  cases hp : pullA (.sl (.int .i64)) x0 with
  | none => simp [hp] at h
  | some y0 =>
   cases hq : pullC (.int .i64) cs with
   | none => simp [hp, hq] at h
   | some z =>
    simp only [hp, hq] at h
    refine ⟨_, h, spec_args (fun w okk us hf => ?_) (spec_fits (args := [.v (.sl (.int .i64)) y0, .fn 175 [] [.rp (explode (.int .i64) z)]]) fun hx => callW_ok (own := false) (k := y0.length + 1) F99g118.eok mixed Go.Proofs.Tryz.func136 (by kernel_rfl) (show Go.Proofs.Tryz.f136.body = some (bodyOf Go.Proofs.Tryz.f136) by kernel_rfl) (F99g118.sem y0 z (hx (.v (.sl (.int .i64)) y0) (by simp)).1))⟩
    cases hf with
    | cons a b =>
     cases b with
     | cons b c => exact .cons (pullA_rel hp a) (.cons (fn_rel hq b) c)
 ·simp at h
theorem F77g78.eok : EOk Go.Proofs.Tryz.prog F77g78.E := eo (calls_cons ok99 calls_nil)
theorem F77g96.eok : EOk Go.Proofs.Tryz.prog F77g96.E := eo (calls_cons ok99 calls_nil)
theorem F77g118.eok : EOk Go.Proofs.Tryz.prog F77g118.E := eo (calls_cons ok99 calls_nil)
theorem ok77 : HandOk Go.Proofs.Tryz.prog inv 94 h_any := by
 intro args κ r h
 unfold h_any at h
 split at h
 ·rename_i x0
  cases hp : pullA (.sl (.int .i64)) x0 with
  | none => simp [hp] at h
  | some y0 =>
   simp only [hp] at h
   refine ⟨_, h, spec_args (fun w okk us hf => ?_) (spec_fits (args := [.v (.sl (.int .i64)) y0, .fn 95 [] []]) fun hx => callW_ok (own := false) (k := 1) F77g78.eok mixed Go.Proofs.Tryz.func94 (by kernel_rfl) (show Go.Proofs.Tryz.f94.body = some (bodyOf Go.Proofs.Tryz.f94) by kernel_rfl) (F77g78.sem 1 y0))⟩
   cases hf with
   | cons a b => exact .cons (pullA_rel hp a) b
 ·rename_i x0 cs
  cases hp : pullA (.sl (.int .i64)) x0 with
  | none => simp [hp] at h
  | some y0 =>
   cases hq : pullC (.int .i64) cs with
   | none => simp [hp, hq] at h
   | some z =>
    simp only [hp, hq] at h
    refine ⟨_, h, spec_args (fun w okk us hf => ?_) (spec_fits (args := [.v (.sl (.int .i64)) y0, .fn 133 [] [.rp (explode (.int .i64) z)]]) fun hx => callW_ok (own := false) (k := 1) F77g96.eok mixed Go.Proofs.Tryz.func94 (by kernel_rfl) (show Go.Proofs.Tryz.f94.body = some (bodyOf Go.Proofs.Tryz.f94) by kernel_rfl) (F77g96.sem 1 y0 z))⟩
    cases hf with
    | cons a b =>
     cases b with
     | cons b c => exact .cons (pullA_rel hp a) (.cons (fn_rel hq b) c)
 ·rename_i x0 cs
  cases hp : pullA (.sl (.int .i64)) x0 with
  | none => simp [hp] at h
  | some y0 =>
   cases hq : pullC (.int .i64) cs with
   | none => simp [hp, hq] at h
   | some z =>
    simp only [hp, hq] at h
    refine ⟨_, h, spec_args (fun w okk us hf => ?_) (spec_fits (args := [.v (.sl (.int .i64)) y0, .fn 175 [] [.rp (explode (.int .i64) z)]]) fun hx => callW_ok (own := false) (k := 1) F77g118.eok mixed Go.Proofs.Tryz.func94 (by kernel_rfl) (show Go.Proofs.Tryz.f94.body = some (bodyOf Go.Proofs.Tryz.f94) by kernel_rfl) (F77g118.sem 1 y0 z))⟩
    cases hf with
    | cons a b =>
     cases b with
     | cons b c => exact .cons (pullA_rel hp a) (.cons (fn_rel hq b) c)
 ·simp at h
theorem F90g74.eok : EOk Go.Proofs.Tryz.prog F90g74.E := eo (calls_cons ok74 calls_nil)
theorem ok90 : HandOk Go.Proofs.Tryz.prog inv 127 h_idxE := by
 intro args κ r h
 unfold h_idxE at h
 split at h
 ·rename_i x0
  cases hp : pullA (.sl DomT) x0 with
  | none => simp [hp] at h
  | some y0 =>
   simp only [hp] at h
   refine ⟨_, h, spec_args (fun w okk us hf => ?_) (spec_fits (args := [.v (.sl DomT) y0, .fn 91 [] []]) fun hx => callW_ok (own := false) (k := y0.length + 1) F90g74.eok mixed Go.Proofs.Tryz.func127 (by kernel_rfl) (show Go.Proofs.Tryz.f127.body = some (bodyOf Go.Proofs.Tryz.f127) by kernel_rfl) (F90g74.sem y0 (hx (.v (.sl DomT) y0) (by simp)).1))⟩
   cases hf with
   | cons a b => exact .cons (pullA_rel hp a) b
 ·simp at h
theorem F73g74.eok : EOk Go.Proofs.Tryz.prog F73g74.E := eo (calls_cons ok90 calls_nil)
theorem ok73 : HandOk Go.Proofs.Tryz.prog inv 90 h_anyE := by
 intro args κ r h
 unfold h_anyE at h
 split at h
 ·rename_i x0
  cases hp : pullA (.sl DomT) x0 with
  | none => simp [hp] at h
  | some y0 =>
   simp only [hp] at h
   refine ⟨_, h, spec_args (fun w okk us hf => ?_) (spec_fits (args := [.v (.sl DomT) y0, .fn 91 [] []]) fun hx => callW_ok (own := false) (k := 1) F73g74.eok mixed Go.Proofs.Tryz.func90 (by kernel_rfl) (show Go.Proofs.Tryz.f90.body = some (bodyOf Go.Proofs.Tryz.f90) by kernel_rfl) (F73g74.sem 1 y0))⟩
   cases hf with
   | cons a b => exact .cons (pullA_rel hp a) b
 ·simp at h
theorem F50.eok : EOk Go.Proofs.Tryz.prog F50.E := eo (calls_cons ok77 (calls_cons ok79 (calls_cons ok80 (calls_cons ok71 (calls_cons ok72 calls_nil)))))
theorem ok50 : HandOk Go.Proofs.Tryz.prog inv 50 h_ofD := hand_un fun xs => spec_fits fun hx => by
 obtain ⟨r, h1, h2⟩ := F50.sem xs.1 ((hx (.v (.sl (.int .i64)) xs.1) (by simp [argsN, argA])).1)
 exact spec_weak h2 (callW_ok (own := false) (k := xs.1.length + 1) F50.eok mixed Go.Proofs.Tryz.func50 (by kernel_rfl) (show Go.Proofs.Tryz.f50.body = some (bodyOf Go.Proofs.Tryz.f50) by kernel_rfl) (h1))
theorem flat_res {w w' : World} {ok : Nat → Prop} {k : IntKind} {n : Int} (hok : ∀ i, ok i → i < w.heap.size) (hs : w.heap.size ≤ w'.heap.size) : ResRel w.heap.size ok w' (.v (.int k) n) (.int k n) :=
 ⟨ok, mz, ⟨fun i hi => Nat.lt_of_lt_of_le (hok i hi) hs, fun id r h => by simp [rowsA, rows2, rows1] at h, fun id r k h => by simp [rowsA, rows2, rows1] at h, fun i j ri rj k h => by simp [rowsA, rows2, rows1] at h⟩,
  (show Rd w' ok (.int k) n [.int k n] by simp [Rd]), fun i hi => .inl hi⟩
theorem run131 (s : ByteArray) (c : Int) (w : World) : (callFunc 185 #[.string s, .int .u8 c]).run Go.Proofs.Tryz.prog w = .ok (.value (.int .i64 (idxI s c))) w := by
 rw [run_callFunc_extern (e := Extern.BytealgIndexByte.indexByte) Go.Proofs.Tryz.func185 (by kernel_rfl) (by kernel_rfl) (by kernel_rfl) (by kernel_rfl)]
 rw [Lib.run_indexByteString]
 rfl
theorem run123 (s : ByteArray) (c : Int) (w : World) : (callFunc 179 #[.string s, .int .u8 c]).run Go.Proofs.Tryz.prog w = .ok (.value (.int .i64 (cntI s c))) w := by
 rw [run_callFunc_extern (e := Extern.BytealgCount.count) Go.Proofs.Tryz.func179 (by kernel_rfl) (by kernel_rfl) (by kernel_rfl) (by kernel_rfl)]
 rw [Lib.run_countString]
 rfl
theorem ok131 : HandOk Go.Proofs.Tryz.prog inv 185 h_idxI := hand_un fun xs => by
 intro w okk us hI hok ha
 cases ha with
 | cons h1 h2 =>
  cases h2 with
  | cons h2 h3 =>
   cases h3
   have e1 : _ = [Value.string xs.1] := h1
   have e2 : _ = [Value.int .u8 xs.2.1] := h2
   obtain ⟨rfl⟩ : _ = Value.string xs.1 ∧ True := ⟨List.cons.inj e1 |>.1, trivial⟩
   obtain ⟨rfl⟩ : _ = Value.int .u8 xs.2.1 ∧ True := ⟨List.cons.inj e2 |>.1, trivial⟩
   exact .inr ⟨_, run131 xs.1 xs.2.1 w, flat_res hok (Nat.le_refl _)⟩
theorem ok123 : HandOk Go.Proofs.Tryz.prog inv 179 h_cntI := hand_un fun xs => by
 intro w okk us hI hok ha
 cases ha with
 | cons h1 h2 =>
  cases h2 with
  | cons h2 h3 =>
   cases h3
   have e1 : _ = [Value.string xs.1] := h1
   have e2 : _ = [Value.int .u8 xs.2.1] := h2
   obtain ⟨rfl⟩ : _ = Value.string xs.1 ∧ True := ⟨List.cons.inj e1 |>.1, trivial⟩
   obtain ⟨rfl⟩ : _ = Value.int .u8 xs.2.1 ∧ True := ⟨List.cons.inj e2 |>.1, trivial⟩
   exact .inr ⟨_, run123 xs.1 xs.2.1 w, flat_res hok (Nat.le_refl _)⟩
theorem F124.eok : EOk Go.Proofs.Tryz.prog F124.E := eo (calls_cons ok131 calls_nil)
theorem ok124 : HandOk Go.Proofs.Tryz.prog inv 180 h_idxJ := hand_un fun xs => callW_ok (own := false) (k := 1) F124.eok mixed Go.Proofs.Tryz.func180 (by kernel_rfl) (show Go.Proofs.Tryz.f180.body = some (bodyOf Go.Proofs.Tryz.f180) by kernel_rfl) (F124.sem 1 xs.1 xs.2.1)
theorem one_byte {s : ByteArray} (h : decide (s.size = 1) = true) : ∃ b, s = ⟨#[b]⟩ := by
 have h' : s.size = 1 := of_decide_eq_true h
 obtain ⟨⟨l⟩⟩ := s
 have h2 : l.length = 1 := h'
 match l, h2 with
 | [b], _ => exact ⟨b, rfl⟩
theorem F116.eok : EOk Go.Proofs.Tryz.prog F116.E := eo (calls_cons ok124 calls_nil)
theorem ok116 : HandOk Go.Proofs.Tryz.prog inv 173 h_idx1 := hand_if fun xs hc => by
 obtain ⟨s, u, t⟩ := xs
 obtain ⟨b, rfl⟩ := one_byte (s := u) hc
 exact callW_ok (own := false) (k := 1) F116.eok mixed Go.Proofs.Tryz.func173 (by kernel_rfl) (show Go.Proofs.Tryz.f173.body = some (bodyOf Go.Proofs.Tryz.f173) by kernel_rfl) (F116.sem 1 s b)
theorem F109.eok : EOk Go.Proofs.Tryz.prog F109.E := eo (calls_cons ok116 calls_nil)
theorem ok109 : HandOk Go.Proofs.Tryz.prog inv 160 h_idx2 := hand_if fun xs hc => by
 obtain ⟨s, u, t⟩ := xs
 obtain ⟨b, rfl⟩ := one_byte (s := u) hc
 exact callW_ok (own := false) (k := 1) F109.eok mixed Go.Proofs.Tryz.func160 (by kernel_rfl) (show Go.Proofs.Tryz.f160.body = some (bodyOf Go.Proofs.Tryz.f160) by kernel_rfl) (F109.sem 1 s b)
theorem F94.eok : EOk Go.Proofs.Tryz.prog F94.E := eo (calls_cons ok109 calls_nil)
theorem ok94 : HandOk Go.Proofs.Tryz.prog inv 131 h_has1 := hand_if fun xs hc => by
 obtain ⟨s, u, t⟩ := xs
 obtain ⟨b, rfl⟩ := one_byte (s := u) hc
 exact callW_ok (own := false) (k := 1) F94.eok mixed Go.Proofs.Tryz.func131 (by kernel_rfl) (show Go.Proofs.Tryz.f131.body = some (bodyOf Go.Proofs.Tryz.f131) by kernel_rfl) (F94.sem 1 s b)
theorem F114.eok : EOk Go.Proofs.Tryz.prog F114.E := eo (calls_cons ok123 calls_nil)
theorem ok114 : HandOk Go.Proofs.Tryz.prog inv 171 h_cnt1 := hand_if fun xs hc => by
 obtain ⟨s, u, t⟩ := xs
 obtain ⟨b, rfl⟩ := one_byte (s := u) hc
 exact callW_ok (own := false) (k := 1) F114.eok mixed Go.Proofs.Tryz.func171 (by kernel_rfl) (show Go.Proofs.Tryz.f171.body = some (bodyOf Go.Proofs.Tryz.f171) by kernel_rfl) (F114.sem 1 s b)
theorem F105.eok : EOk Go.Proofs.Tryz.prog F105.E := eo calls_nil
theorem ok105 : HandOk Go.Proofs.Tryz.prog inv 156 h_withinD := hand_un fun xs => callW_ok (own := false) (k := 1) F105.eok mixed Go.Proofs.Tryz.func156 (by kernel_rfl) (show Go.Proofs.Tryz.f156.body = some (bodyOf Go.Proofs.Tryz.f156) by kernel_rfl) (F105.sem 1 xs.1 xs.2.1 xs.2.2.1)
theorem F106.eok : EOk Go.Proofs.Tryz.prog F106.E := eo (calls_cons ok94 (calls_cons ok105 (calls_cons ok114 calls_nil)))
theorem ok106 : HandOk Go.Proofs.Tryz.prog inv 157 h_namedD := hand_if fun xs hc => by
 have hc2 := (Bool.and_eq_true _ _).mp hc
 exact callW_ok (own := false) (k := 1) F106.eok mixed Go.Proofs.Tryz.func157 (by kernel_rfl) (show Go.Proofs.Tryz.f157.body = some (bodyOf Go.Proofs.Tryz.f157) by kernel_rfl) (F106.sem 1 xs.1 xs.2.1 xs.2.2.1 xs.2.2.2.1 hc2.1 hc2.2)
theorem v104 : callW ⟨tt, [], [], [], none, inv, []⟩ false Go.Proofs.Tryz.f155 10 [] = some (.v (.sl (.pair .str .str)) formsL) := by kernel_rfl
theorem ok104 : HandOk Go.Proofs.Tryz.prog inv 155 h_forms := hand_un fun xs => callW_ok (own := false) (k := 10) (eo calls_nil) mixed Go.Proofs.Tryz.func155 (by kernel_rfl) (show Go.Proofs.Tryz.f155.body = some (bodyOf Go.Proofs.Tryz.f155) by kernel_rfl) v104
theorem F103.eok : EOk Go.Proofs.Tryz.prog F103.E := eo (calls_cons ok104 calls_nil)
theorem ok103 : HandOk Go.Proofs.Tryz.prog inv 154 h_word := hand_un fun xs => callW_ok (own := false) (k := 1) F103.eok mixed Go.Proofs.Tryz.func154 (by kernel_rfl) (show Go.Proofs.Tryz.f154.body = some (bodyOf Go.Proofs.Tryz.f154) by kernel_rfl) (F103.sem 1 xs.1)
theorem F91.eok : EOk Go.Proofs.Tryz.prog F91.E := eo (calls_cons ok103 (calls_cons ok104 calls_nil))
theorem ok91 : HandOk Go.Proofs.Tryz.prog inv 128 h_shapeS := hand_un fun xs => callW_ok (own := false) (k := 1) F91.eok mixed Go.Proofs.Tryz.func128 (by kernel_rfl) (show Go.Proofs.Tryz.f128.body = some (bodyOf Go.Proofs.Tryz.f128) by kernel_rfl) (F91.sem 1 xs.1)
noncomputable def i3 : TypeInfo := (Go.Proofs.Tryz.prog.info? 3).getD default
theorem i3_info : Go.Proofs.Tryz.prog.info? 3 = some i3 := by kernel_rfl
theorem i3_zero : i3.zero = some (.int .i64 0) := by kernel_rfl
theorem i3_size : i3.size = 1 := by kernel_rfl
theorem i3_bytes : i3.bytes = 8 := by kernel_rfl
theorem i3_pos : 0 < i3.size := by rw [i3_size]; exact Nat.one_pos
theorem ok117 : HandOk Go.Proofs.Tryz.prog inv 174 h_grow := by
 intro args κ r h
 unfold h_grow at h
 split at h
 case h_2 => simp at h
 rename_i n
 cases hg : growB n with
 | false => simp [hg] at h
 | true =>
  simp only [hg, cond_true] at h
  simp only [growB, Bool.and_eq_true, decide_eq_true_eq] at hg
  obtain ⟨h0, h1⟩ := hg
  refine ⟨_, h, fun w ok us hI hok ha => .inl ⟨callFunc_enter Go.Proofs.Tryz.func174 (by kernel_rfl) (by kernel_rfl) _ _, ?_⟩⟩
  cases ha with
  | cons h2 hr =>
  cases hr with
  | cons h3 hr =>
  cases hr
  rename_i u1 u2
  have h2 : u1 = .slice none 0 0 := h2
  have h3 : [u2] = [Value.int .i64 n] := h3
  obtain rfl : u2 = Value.int .i64 n := (List.cons.inj h3).1
  have hn : n = (n.toNat : Int) := (Int.toNat_of_nonneg (Int.le_of_lt h0)).symm
  rw [h2]
  have hc := Any8.slices_Grow_grow Go.Proofs.Tryz.growI i3 (.int .i64 0) i3_info i3_zero i3_pos none 0 0 n.toNat [] w (Nat.le_refl _) (by omega) (by rw [i3_bytes]; omega) (by omega) (by simp) (fun _ => rfl) (fun a h => by simp at h)
  have e1 : (Value.int .i64 n) = .int .i64 ((n.toNat : Nat) : Int) := congrArg (Value.int .i64) hn
  rw [e1]
  refine hc.mono fun e w' he => ?_
  obtain ⟨rfl, rfl⟩ := he
  refine ⟨_, rfl, ⟨rfl, rfl, rfl, by simp, fun k hk => heap_alloc_old w.drew _ hk⟩, ok, fun _ => _, ⟨fun k hk => by have := hok k hk; simp; omega, ?_, ?_, ?_⟩, ⟨⟨_, _, _, rfl⟩, rfl⟩, fun k hk => .inl hk⟩
  ·intro id r hr
   have hid : id = 0 ∧ r = .row 3 (.int .i64) [] := by
    cases id with
    | zero => simp [rowsA, rows2, rows1] at hr; exact ⟨rfl, hr.symm⟩
    | succ j => simp [rowsA, rows2, rows1] at hr
   obtain ⟨rfl, rfl⟩ := hid
   refine ⟨[], .nil, rfl, .inr ⟨_, _, _, rfl, Nat.le_refl _, heap_alloc_new w.drew _, Nat.zero_le _, grownCap_le_maxLen _ _ _ _ (by unfold maxLen; omega), ?_, by simp⟩⟩
   have hge : 0 + n.toNat ≤ grownCap w (0 + n.toNat) 0 3 := grownCap_ge w (0 + n.toNat) 0 3
   have hz : ∀ q, (Builtin.zeroCells (Value.int .i64 0).cells q).size = q := fun q => by simp [Builtin.zeroCells, Value.cells]
   rw [Array.size_append, Array.size_append, hz, hz]
   show 0 + (0 + n.toNat - 0) + (grownCap w (0 + n.toNat) 0 3 - (0 + n.toNat)) = grownCap w (0 + n.toNat) 0 3 * 1
   omega
  ·intro id r k hr hl hk ho
   have := hok k ho
   have hid : r = .row 3 (.int .i64) [] := by
    cases id with
    | zero => simp [rowsA, rows2, rows1] at hr; exact hr.symm
    | succ j => simp [rowsA, rows2, rows1] at hr
   subst hid
   simp only [RB, mblk, Option.some.injEq] at hk
   omega
  ·intro i j ri rj k hi hj _ _ _ _
   have z : ∀ (q : Nat) (r : Row), (rowsA (AV.nw 3 (.int .i64) []))[q]? = some r → q = 0 := fun q r h => by
    cases q with
    | zero => rfl
    | succ q => simp [rowsA, rows2, rows1] at h
   rw [z i ri hi, z j rj hj]
theorem F110.eok : EOk Go.Proofs.Tryz.prog F110.E := eo (calls_cons ok117 calls_nil)
theorem ok110 : HandOk Go.Proofs.Tryz.prog inv 161 h_concatL := hand_if fun xs hc => by
 obtain ⟨l, t⟩ := xs
 have hc' := hc
 unfold concatB at hc'
 simp only [Bool.and_eq_true, decide_eq_true_eq] at hc'
 obtain ⟨a, b, rfl⟩ := two_of (l := l) hc'.2
 exact callW_ok (own := false) (k := 3) F110.eok mixed Go.Proofs.Tryz.func161 (by kernel_rfl) (show Go.Proofs.Tryz.f161.body = some (bodyOf Go.Proofs.Tryz.f161) by kernel_rfl) (F110.sem a b hc)
theorem F95.eok : EOk Go.Proofs.Tryz.prog F95.E := eo (calls_cons ok110 calls_nil)
theorem ok95 : HandOk Go.Proofs.Tryz.prog inv 132 h_varsD := hand_if fun xs hc => callW_ok (own := false) (k := 1) F95.eok mixed Go.Proofs.Tryz.func132 (by kernel_rfl) (show Go.Proofs.Tryz.f132.body = some (bodyOf Go.Proofs.Tryz.f132) by kernel_rfl) (F95.sem 1 xs.1 hc)
theorem F111.eok : EOk Go.Proofs.Tryz.prog F111.E := eo (calls_cons ok77 calls_nil)
theorem ok111 : HandOk Go.Proofs.Tryz.prog inv 162 h_boundedD := hand_un fun xs => callW_ok (own := false) (k := 1) F111.eok mixed Go.Proofs.Tryz.func162 (by kernel_rfl) (show Go.Proofs.Tryz.f162.body = some (bodyOf Go.Proofs.Tryz.f162) by kernel_rfl) (F111.sem 1 xs.1 xs.2.1)
theorem F92k22.eok : EOk Go.Proofs.Tryz.prog F92k22.E := eo (calls_cons ok94 (calls_cons ok106 calls_nil))
theorem ok92 : HandOk Go.Proofs.Tryz.prog inv 129 h_countedD := hand_if fun xs hc => by
 obtain ⟨⟨k, c⟩, s, t⟩ := xs
 have hc2 := (Bool.and_eq_true _ _).mp hc
 have hs : @Eq ByteArray s (shapeS k) := (fun (a b : ByteArray) (h : decide (a = b) = true) => of_decide_eq_true h) s (shapeS k) hc2.2
 have hk := kind_cases hc2.1
 simp only at hk
 rcases hk with rfl
 ·have e : s = ⟨#[86, 87]⟩ := hs.trans rfl
  subst e
  exact callW_ok (own := false) (k := 1) F92k22.eok mixed Go.Proofs.Tryz.func129 (by kernel_rfl) (show Go.Proofs.Tryz.f129.body = some (bodyOf Go.Proofs.Tryz.f129) by kernel_rfl) (F92k22.sem 1 c)
theorem F93k22.eok : EOk Go.Proofs.Tryz.prog F93k22.E := eo calls_nil
theorem ok93 : HandOk Go.Proofs.Tryz.prog inv 130 h_alikeD := hand_if fun xs hc => by
 obtain ⟨⟨k, c⟩, t⟩ := xs
 have hk := kind_cases hc
 simp only at hk
 rcases hk with rfl
 ·exact callW_ok (own := false) (k := 1) F93k22.eok mixed Go.Proofs.Tryz.func130 (by kernel_rfl) (show Go.Proofs.Tryz.f130.body = some (bodyOf Go.Proofs.Tryz.f130) by kernel_rfl) (F93k22.sem 1 c)
theorem F98k22.eok : EOk Go.Proofs.Tryz.prog F98k22.E := eo calls_nil
theorem ok98 : HandOk Go.Proofs.Tryz.prog inv 135 h_countsD := hand_if fun xs hc => by
 obtain ⟨⟨k, c⟩, t⟩ := xs
 have hk := kind_cases hc
 simp only at hk
 rcases hk with rfl
 ·exact callW_ok (own := false) (k := 1) F98k22.eok mixed Go.Proofs.Tryz.func135 (by kernel_rfl) (show Go.Proofs.Tryz.f135.body = some (bodyOf Go.Proofs.Tryz.f135) by kernel_rfl) (F98k22.sem 1 c)
theorem F97.eok : EOk Go.Proofs.Tryz.prog F97.E := eo (calls_cons ok111 calls_nil)
theorem ok97 : HandOk Go.Proofs.Tryz.prog inv 134 h_numbersD := hand_if fun xs hc => spec_fits fun hx => callW_ok (own := false) (k := xs.1.2.2.2.2.2.2.2.length + 1) F97.eok mixed Go.Proofs.Tryz.func134 (by kernel_rfl) (show Go.Proofs.Tryz.f134.body = some (bodyOf Go.Proofs.Tryz.f134) by kernel_rfl) (F97.sem xs.1 hc ((hx (.agg (explode ConT xs.1)) (by simp [argsN, argA])) (.v (.sl (.sl (.int .i64))) xs.1.2.2.2.2.2.2.2) (by simp [explode])).1)
theorem F76.eok : EOk Go.Proofs.Tryz.prog F76.E := eo (calls_cons ok77 (calls_cons ok91 (calls_cons ok92 (calls_cons ok93 (calls_cons ok94 (calls_cons ok95 (calls_cons ok97 (calls_cons ok98 calls_nil))))))))
theorem ok76 : HandOk Go.Proofs.Tryz.prog inv 93 h_rightM := hand_if fun xs hc => callW_ok (own := false) (k := 1) F76.eok mixed Go.Proofs.Tryz.func93 (by kernel_rfl) (show Go.Proofs.Tryz.f93.body = some (bodyOf Go.Proofs.Tryz.f93) by kernel_rfl) (F76.sem 1 xs.1 xs.2.1 hc)
theorem F48.eok : EOk Go.Proofs.Tryz.prog F48.E := eo (calls_cons ok73 (calls_cons ok76 calls_nil))
theorem ok48 : HandOk Go.Proofs.Tryz.prog inv 48 h_fitsD := hand_if fun xs hc => spec_fits fun hx => callW_ok (own := false) (k := 1) F48.eok mixed Go.Proofs.Tryz.func48 (by kernel_rfl) (show Go.Proofs.Tryz.f48.body = some (bodyOf Go.Proofs.Tryz.f48) by kernel_rfl) (F48.sem 1 xs.1 xs.2.1 xs.2.2.1 xs.2.2.2.1 hc ((hx (.agg (explode ConT xs.1)) (by simp [argsN, argA])) (.v (.sl (.int .i64)) xs.1.2.1) (by simp [explode])).1 ((hx (.agg (explode ConT xs.1)) (by simp [argsN, argA])) (.v (.sl (.int .i64)) xs.1.2.2.1) (by simp [explode])).1 (hx (.v (.sl DomT) xs.2.1) (by simp [argsN, argA])).1)
theorem F49.eok : EOk Go.Proofs.Tryz.prog F49.E := eo (calls_cons ok50 calls_nil)
theorem ok49 : HandOk Go.Proofs.Tryz.prog inv 49 h_made := hand_if fun xs hc => by
 obtain ⟨r, h1, h2⟩ := F49.sem xs.1 (by have h := hc; rwa [Nat.ble_eq] at h)
 exact spec_weak h2 (callW_ok (own := false) (k := 1001) F49.eok mixed Go.Proofs.Tryz.func49 (by kernel_rfl) (show Go.Proofs.Tryz.f49.body = some (bodyOf Go.Proofs.Tryz.f49) by kernel_rfl) (h1))
noncomputable def E46 : Env := ⟨tt, [(52, h_inD), (98, h_room), (99, h_madeD)], [], [], none, inv, []⟩
noncomputable def E47 : Env := ⟨tt, [], [], [], none, inv, []⟩
theorem ok46 : HandOk Go.Proofs.Tryz.prog inv 51 (callH E46 false Go.Proofs.Tryz.f51 100) := hand_callH (eo (calls_cons ok66 (calls_cons ok71 (calls_cons ok72 calls_nil)))) mixed Go.Proofs.Tryz.func51 (by kernel_rfl) (show Go.Proofs.Tryz.f51.body = some (bodyOf Go.Proofs.Tryz.f51) by kernel_rfl)
theorem ok47 : HandOk Go.Proofs.Tryz.prog inv 38 (callH E47 false Go.Proofs.Tryz.f38 100) := hand_callH (eo calls_nil) mixed Go.Proofs.Tryz.func38 (by kernel_rfl) (show Go.Proofs.Tryz.f38.body = some (bodyOf Go.Proofs.Tryz.f38) by kernel_rfl)
end Go.Proofs.YtnojoaghcbljfaaGreatDoor.Ev
