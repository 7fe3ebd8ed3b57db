/-
Seat 'a': the contracts of all that ElemFilters calls.
Conditions: the table of math/bits is laid.
-/
import Derived.Test.YtlfdikofmfhefaaGreatDoorAz
import Derived.Test.YtlfdikofmfhefaaGreatDoorDz
import Derived.Laws.Externs
set_option linter.unusedVariables false
set_option linter.unusedSimpArgs false
set_option maxRecDepth 100000
namespace Go.Proofs.YtlfdikofmfhefaaGreatDoor.Ev
open Go Go.RowKit
theorem chk_cons {P : Program} {t : Nat} {i : TInfo} {l : List (Nat × TInfo)} (h1 : chkT P t i = true) (h2 : chkAll P l = true) : chkAll P ((t, i) :: l) = true := (congrArg (· && _) h1).trans h2
theorem chk2 : chkT Go.Proofs.Tryz.prog 2 ⟨(.int .i64), false, 8, none, [], some .i64, false⟩ = true := by kernel_rfl
theorem chk3 : chkT Go.Proofs.Tryz.prog 3 ⟨(.int .i64), false, 8, none, [], some .i64, false⟩ = true := by kernel_rfl
theorem chk4 : chkT Go.Proofs.Tryz.prog 4 ⟨.bool, false, 1, none, [], none, false⟩ = true := by kernel_rfl
theorem chk5 : chkT Go.Proofs.Tryz.prog 5 ⟨(.int .u8), false, 1, none, [], some .u8, false⟩ = true := by kernel_rfl
theorem chk6 : chkT Go.Proofs.Tryz.prog 6 ⟨(.int .u8), false, 1, none, [], some .u8, false⟩ = true := by kernel_rfl
theorem chk7 : chkT Go.Proofs.Tryz.prog 7 ⟨(.pair (.int .i64) (.pair (.int .i64) (.pair .bool (.int .u8)))), true, 24, none, [(0, 2), (1, 3), (2, 4), (3, 6)], none, false⟩ = true := by kernel_rfl
theorem chk8 : chkT Go.Proofs.Tryz.prog 8 ⟨(.pair (.int .i64) (.pair (.int .i64) (.pair .bool (.int .u8)))), true, 24, none, [(0, 2), (1, 3), (2, 4), (3, 6)], none, false⟩ = true := by kernel_rfl
theorem chk9 : chkT Go.Proofs.Tryz.prog 9 ⟨.str, false, 16, none, [], none, true⟩ = true := by kernel_rfl
theorem chk10 : chkT Go.Proofs.Tryz.prog 10 ⟨.str, false, 16, none, [], none, true⟩ = true := by kernel_rfl
theorem chk11 : chkT Go.Proofs.Tryz.prog 11 ⟨.str, false, 16, none, [], none, true⟩ = true := by kernel_rfl
theorem chk12 : chkT Go.Proofs.Tryz.prog 12 ⟨(.int .u64), false, 8, none, [], some .u64, false⟩ = true := by kernel_rfl
theorem chk13 : chkT Go.Proofs.Tryz.prog 13 ⟨(.pair .str (.int .u64)), true, 24, none, [(0, 9), (1, 12)], none, false⟩ = true := by kernel_rfl
theorem chk14 : chkT Go.Proofs.Tryz.prog 14 ⟨(.pair .str (.int .u64)), true, 24, none, [(0, 9), (1, 12)], none, false⟩ = true := by kernel_rfl
theorem chk21 : chkT Go.Proofs.Tryz.prog 21 ⟨(.int .i32), false, 4, none, [], some .i32, false⟩ = true := by kernel_rfl
theorem chk22 : chkT Go.Proofs.Tryz.prog 22 ⟨(.int .u16), false, 2, none, [], some .u16, false⟩ = true := by kernel_rfl
theorem chk23 : chkT Go.Proofs.Tryz.prog 23 ⟨(.sl .str), false, 24, some 9, [], none, false⟩ = true := by kernel_rfl
theorem chk24 : chkT Go.Proofs.Tryz.prog 24 ⟨(.sl (.sl (.int .i64))), false, 24, some 29, [], none, false⟩ = true := by kernel_rfl
theorem chk25 : chkT Go.Proofs.Tryz.prog 25 ⟨(.sl (.pair (.int .i64) (.pair (.sl (.int .i64)) (.pair (.sl (.int .i64)) (.pair (.sl (.int .i64)) (.pair (.sl (.int .i64)) (.pair (.sl (.int .i64)) (.pair (.int .i64) (.sl (.sl (.int .i64))))))))))), false, 24, some 31, [], none, false⟩ = true := by kernel_rfl
theorem chk26 : chkT Go.Proofs.Tryz.prog 26 ⟨(.pair (.sl .str) (.pair (.sl (.sl (.int .i64))) (.pair (.sl (.pair (.int .i64) (.pair (.sl (.int .i64)) (.pair (.sl (.int .i64)) (.pair (.sl (.int .i64)) (.pair (.sl (.int .i64)) (.pair (.sl (.int .i64)) (.pair (.int .i64) (.sl (.sl (.int .i64))))))))))) (.pair (.int .i64) (.int .i64))))), true, 88, none, [(0, 23), (1, 24), (2, 25), (3, 3), (4, 3)], none, false⟩ = true := by kernel_rfl
theorem chk27 : chkT Go.Proofs.Tryz.prog 27 ⟨(.pair (.sl .str) (.pair (.sl (.sl (.int .i64))) (.pair (.sl (.pair (.int .i64) (.pair (.sl (.int .i64)) (.pair (.sl (.int .i64)) (.pair (.sl (.int .i64)) (.pair (.sl (.int .i64)) (.pair (.sl (.int .i64)) (.pair (.int .i64) (.sl (.sl (.int .i64))))))))))) (.pair (.int .i64) (.int .i64))))), true, 88, none, [(0, 23), (1, 24), (2, 25), (3, 3), (4, 3)], none, false⟩ = true := by kernel_rfl
theorem chk28 : chkT Go.Proofs.Tryz.prog 28 ⟨(.sl (.int .u8)), false, 24, some 5, [], none, false⟩ = true := by kernel_rfl
theorem chk29 : chkT Go.Proofs.Tryz.prog 29 ⟨(.sl (.int .i64)), false, 24, some 3, [], none, false⟩ = true := by kernel_rfl
theorem chk30 : chkT Go.Proofs.Tryz.prog 30 ⟨(.pair (.int .i64) (.pair (.sl (.int .i64)) (.pair (.sl (.int .i64)) (.pair (.sl (.int .i64)) (.pair (.sl (.int .i64)) (.pair (.sl (.int .i64)) (.pair (.int .i64) (.sl (.sl (.int .i64)))))))))), true, 160, none, [(0, 3), (1, 29), (2, 29), (3, 29), (4, 29), (5, 29), (6, 3), (7, 24)], none, false⟩ = true := by kernel_rfl
theorem chk31 : chkT Go.Proofs.Tryz.prog 31 ⟨(.pair (.int .i64) (.pair (.sl (.int .i64)) (.pair (.sl (.int .i64)) (.pair (.sl (.int .i64)) (.pair (.sl (.int .i64)) (.pair (.sl (.int .i64)) (.pair (.int .i64) (.sl (.sl (.int .i64)))))))))), true, 160, none, [(0, 3), (1, 29), (2, 29), (3, 29), (4, 29), (5, 29), (6, 3), (7, 24)], none, false⟩ = true := by kernel_rfl
theorem chk32 : chkT Go.Proofs.Tryz.prog 32 ⟨(.int .i64), false, 8, none, [], some .i64, false⟩ = true := by kernel_rfl
theorem chk39 : chkT Go.Proofs.Tryz.prog 39 ⟨(.sl (.sl (.int .i8))), false, 24, some 73, [], none, false⟩ = true := by kernel_rfl
theorem chk40 : chkT Go.Proofs.Tryz.prog 40 ⟨(.sl (.pair (.int .u8) (.pair (.sl (.int .u8)) (.pair (.sl (.int .u8)) (.pair (.sl (.int .i8)) (.pair (.int .i16) (.int .u8))))))), false, 24, some 78, [], none, false⟩ = true := by kernel_rfl
theorem chk41 : chkT Go.Proofs.Tryz.prog 41 ⟨(.pair (.sl .str) (.pair (.sl (.sl (.int .i8))) (.pair (.sl (.pair (.int .u8) (.pair (.sl (.int .u8)) (.pair (.sl (.int .u8)) (.pair (.sl (.int .i8)) (.pair (.int .i16) (.int .u8))))))) (.pair (.int .i64) (.pair (.int .i64) (.pair (.int .u8) (.pair (.pair (.int .i64) (.pair (.sl (.int .i64)) (.pair (.sl (.int .i64)) (.pair (.sl (.int .i64)) (.pair (.sl (.int .i64)) (.pair (.sl (.int .i64)) (.pair (.int .i64) (.sl (.sl (.int .i64)))))))))) (.sl (.int .i64))))))))), true, 280, none, [(0, 23), (1, 39), (2, 40), (3, 3), (4, 3), (5, 5), (6, 31), (14, 29)], none, false⟩ = true := by kernel_rfl
theorem chk42 : chkT Go.Proofs.Tryz.prog 42 ⟨(.pair (.sl .str) (.pair (.sl (.sl (.int .i8))) (.pair (.sl (.pair (.int .u8) (.pair (.sl (.int .u8)) (.pair (.sl (.int .u8)) (.pair (.sl (.int .i8)) (.pair (.int .i16) (.int .u8))))))) (.pair (.int .i64) (.pair (.int .i64) (.pair (.int .u8) (.pair (.pair (.int .i64) (.pair (.sl (.int .i64)) (.pair (.sl (.int .i64)) (.pair (.sl (.int .i64)) (.pair (.sl (.int .i64)) (.pair (.sl (.int .i64)) (.pair (.int .i64) (.sl (.sl (.int .i64)))))))))) (.sl (.int .i64))))))))), true, 280, none, [(0, 23), (1, 39), (2, 40), (3, 3), (4, 3), (5, 5), (6, 31), (14, 29)], none, false⟩ = true := by kernel_rfl
theorem chk45 : chkT Go.Proofs.Tryz.prog 45 ⟨(.pair (.pair (.sl .str) (.pair (.sl (.sl (.int .i8))) (.pair (.sl (.pair (.int .u8) (.pair (.sl (.int .u8)) (.pair (.sl (.int .u8)) (.pair (.sl (.int .i8)) (.pair (.int .i16) (.int .u8))))))) (.pair (.int .i64) (.pair (.int .i64) (.pair (.int .u8) (.pair (.pair (.int .i64) (.pair (.sl (.int .i64)) (.pair (.sl (.int .i64)) (.pair (.sl (.int .i64)) (.pair (.sl (.int .i64)) (.pair (.sl (.int .i64)) (.pair (.int .i64) (.sl (.sl (.int .i64)))))))))) (.sl (.int .i64))))))))) (.pair (.pair (.sl .str) (.pair (.sl (.sl (.int .i8))) (.pair (.sl (.pair (.int .u8) (.pair (.sl (.int .u8)) (.pair (.sl (.int .u8)) (.pair (.sl (.int .i8)) (.pair (.int .i16) (.int .u8))))))) (.pair (.int .i64) (.pair (.int .i64) (.pair (.int .u8) (.pair (.pair (.int .i64) (.pair (.sl (.int .i64)) (.pair (.sl (.int .i64)) (.pair (.sl (.int .i64)) (.pair (.sl (.int .i64)) (.pair (.sl (.int .i64)) (.pair (.int .i64) (.sl (.sl (.int .i64)))))))))) (.sl (.int .i64))))))))) (.pair (.int .u8) (.int .i64)))), true, 576, none, [(0, 42), (15, 42), (30, 5), (31, 3)], none, false⟩ = true := by kernel_rfl
theorem chk46 : chkT Go.Proofs.Tryz.prog 46 ⟨(.pair (.pair (.sl .str) (.pair (.sl (.sl (.int .i8))) (.pair (.sl (.pair (.int .u8) (.pair (.sl (.int .u8)) (.pair (.sl (.int .u8)) (.pair (.sl (.int .i8)) (.pair (.int .i16) (.int .u8))))))) (.pair (.int .i64) (.pair (.int .i64) (.pair (.int .u8) (.pair (.pair (.int .i64) (.pair (.sl (.int .i64)) (.pair (.sl (.int .i64)) (.pair (.sl (.int .i64)) (.pair (.sl (.int .i64)) (.pair (.sl (.int .i64)) (.pair (.int .i64) (.sl (.sl (.int .i64)))))))))) (.sl (.int .i64))))))))) (.pair (.pair (.sl .str) (.pair (.sl (.sl (.int .i8))) (.pair (.sl (.pair (.int .u8) (.pair (.sl (.int .u8)) (.pair (.sl (.int .u8)) (.pair (.sl (.int .i8)) (.pair (.int .i16) (.int .u8))))))) (.pair (.int .i64) (.pair (.int .i64) (.pair (.int .u8) (.pair (.pair (.int .i64) (.pair (.sl (.int .i64)) (.pair (.sl (.int .i64)) (.pair (.sl (.int .i64)) (.pair (.sl (.int .i64)) (.pair (.sl (.int .i64)) (.pair (.int .i64) (.sl (.sl (.int .i64)))))))))) (.sl (.int .i64))))))))) (.pair (.int .u8) (.int .i64)))), true, 576, none, [(0, 42), (15, 42), (30, 5), (31, 3)], none, false⟩ = true := by kernel_rfl
theorem chk48 : chkT Go.Proofs.Tryz.prog 48 ⟨(.int .u64), false, 8, none, [], some .u64, false⟩ = true := by kernel_rfl
theorem chk52 : chkT Go.Proofs.Tryz.prog 52 ⟨(.pair (.sl (.sl (.int .i8))) (.pair (.sl (.pair (.int .u8) (.pair (.sl (.int .u8)) (.pair (.sl (.int .u8)) (.pair (.sl (.int .i8)) (.pair (.int .i16) (.int .u8))))))) (.pair (.int .u8) (.int .u8)))), true, 56, none, [(0, 39), (1, 40), (2, 5), (3, 5)], none, false⟩ = true := by kernel_rfl
theorem chk53 : chkT Go.Proofs.Tryz.prog 53 ⟨(.pair (.sl (.sl (.int .i8))) (.pair (.sl (.pair (.int .u8) (.pair (.sl (.int .u8)) (.pair (.sl (.int .u8)) (.pair (.sl (.int .i8)) (.pair (.int .i16) (.int .u8))))))) (.pair (.int .u8) (.int .u8)))), true, 56, none, [(0, 39), (1, 40), (2, 5), (3, 5)], none, false⟩ = true := by kernel_rfl
theorem chk73 : chkT Go.Proofs.Tryz.prog 73 ⟨(.sl (.int .i8)), false, 24, some 74, [], none, false⟩ = true := by kernel_rfl
theorem chk74 : chkT Go.Proofs.Tryz.prog 74 ⟨(.int .i8), false, 1, none, [], some .i8, false⟩ = true := by kernel_rfl
theorem chk76 : chkT Go.Proofs.Tryz.prog 76 ⟨(.int .i16), false, 2, none, [], some .i16, false⟩ = true := by kernel_rfl
theorem chk77 : chkT Go.Proofs.Tryz.prog 77 ⟨(.pair (.int .u8) (.pair (.sl (.int .u8)) (.pair (.sl (.int .u8)) (.pair (.sl (.int .i8)) (.pair (.int .i16) (.int .u8)))))), true, 88, none, [(0, 5), (1, 28), (2, 28), (3, 73), (4, 76), (5, 5)], none, false⟩ = true := by kernel_rfl
theorem chk78 : chkT Go.Proofs.Tryz.prog 78 ⟨(.pair (.int .u8) (.pair (.sl (.int .u8)) (.pair (.sl (.int .u8)) (.pair (.sl (.int .i8)) (.pair (.int .i16) (.int .u8)))))), true, 88, none, [(0, 5), (1, 28), (2, 28), (3, 73), (4, 76), (5, 5)], none, false⟩ = true := by kernel_rfl
theorem chk86 : chkT Go.Proofs.Tryz.prog 86 ⟨(.sl .bool), false, 24, some 4, [], none, false⟩ = true := by kernel_rfl
theorem chk101 : chkT Go.Proofs.Tryz.prog 101 ⟨(.sl (.pair .str .str)), false, 24, some 104, [], none, false⟩ = true := by kernel_rfl
theorem chk103 : chkT Go.Proofs.Tryz.prog 103 ⟨(.pair .str .str), true, 32, none, [(0, 9), (1, 9)], none, false⟩ = true := by kernel_rfl
theorem chk104 : chkT Go.Proofs.Tryz.prog 104 ⟨(.pair .str .str), true, 32, none, [(0, 9), (1, 9)], none, false⟩ = true := by kernel_rfl
theorem chk120 : chkT Go.Proofs.Tryz.prog 120 ⟨(.sl (.int .u64)), false, 24, some 145, [], none, false⟩ = true := by kernel_rfl
theorem chk121 : chkT Go.Proofs.Tryz.prog 121 ⟨(.pair (.int .i64) (.pair (.sl (.int .u64)) (.pair (.int .i64) (.pair (.int .i64) (.int .i64))))), true, 56, none, [(0, 3), (1, 120), (2, 3), (3, 3), (4, 3)], none, false⟩ = true := by kernel_rfl
theorem chk122 : chkT Go.Proofs.Tryz.prog 122 ⟨(.pair (.int .i64) (.pair (.sl (.int .u64)) (.pair (.int .i64) (.pair (.int .i64) (.int .i64))))), true, 56, none, [(0, 3), (1, 120), (2, 3), (3, 3), (4, 3)], none, false⟩ = true := by kernel_rfl
theorem chk136 : chkT Go.Proofs.Tryz.prog 136 ⟨(.int .i64), false, 8, none, [], some .i64, false⟩ = true := by kernel_rfl
theorem chk143 : chkT Go.Proofs.Tryz.prog 143 ⟨(.int .u32), false, 4, none, [], some .u32, false⟩ = true := by kernel_rfl
theorem chk145 : chkT Go.Proofs.Tryz.prog 145 ⟨(.int .u64), false, 8, none, [], some .u64, false⟩ = true := by kernel_rfl
theorem chk154 : chkT Go.Proofs.Tryz.prog 154 ⟨(.int .u64), false, 8, none, [], some .u64, false⟩ = true := by kernel_rfl
theorem chk176 : chkT Go.Proofs.Tryz.prog 176 ⟨(.int .u8), false, 1, none, [], some .u8, false⟩ = true := by kernel_rfl
theorem chk177 : chkT Go.Proofs.Tryz.prog 177 ⟨(.int .u8), false, 1, none, [], some .u8, false⟩ = true := by kernel_rfl
theorem chk180 : chkT Go.Proofs.Tryz.prog 180 ⟨(.int .i32), false, 4, none, [], some .i32, false⟩ = true := by kernel_rfl
theorem chk181 : chkT Go.Proofs.Tryz.prog 181 ⟨(.int .i32), false, 4, none, [], some .i32, false⟩ = true := by kernel_rfl
theorem tt_ok : chkAll Go.Proofs.Tryz.prog tt = true := by
 unfold tt
 exact (chk_cons chk2 (chk_cons chk3 (chk_cons chk4 (chk_cons chk5 (chk_cons chk6 (chk_cons chk7 (chk_cons chk8 (chk_cons chk9 (chk_cons chk10 (chk_cons chk11 (chk_cons chk12 (chk_cons chk13 (chk_cons chk14 (chk_cons chk21 (chk_cons chk22 (chk_cons chk23 (chk_cons chk24 (chk_cons chk25 (chk_cons chk26 (chk_cons chk27 (chk_cons chk28 (chk_cons chk29 (chk_cons chk30 (chk_cons chk31 (chk_cons chk32 (chk_cons chk39 (chk_cons chk40 (chk_cons chk41 (chk_cons chk42 (chk_cons chk45 (chk_cons chk46 (chk_cons chk48 (chk_cons chk52 (chk_cons chk53 (chk_cons chk73 (chk_cons chk74 (chk_cons chk76 (chk_cons chk77 (chk_cons chk78 (chk_cons chk86 (chk_cons chk101 (chk_cons chk103 (chk_cons chk104 (chk_cons chk120 (chk_cons chk121 (chk_cons chk122 (chk_cons chk136 (chk_cons chk143 (chk_cons chk145 (chk_cons chk154 (chk_cons chk176 (chk_cons chk177 (chk_cons chk180 (chk_cons chk181 rfl))))))))))))))))))))))))))))))))))))))))))))))))))))))
theorem mixed : Go.Proofs.Tryz.prog.follows .mixedOrders = true := by kernel_rfl
theorem keep_inv (w w' : World) (h : inv w) (hb : Below w.heap.size w w') : inv w' := by
 intro j hj
 have h0 := h j hj
 have hlt : (0 : Nat) < w.heap.size := World.block_lt_of_cell? w _ h0
 exact (World.cell?_of_block (hb.block 0 hlt)).trans h0
theorem eo {l : List (Nat × Hand)} {k x f} (h : CallsOk Go.Proofs.Tryz.prog ⟨tt, l, k, x, f, inv, []⟩) : EOk Go.Proofs.Tryz.prog ⟨tt, l, k, x, f, inv, []⟩ := ⟨tyOk_of tt_ok, h, keep_inv, mcalls_nil⟩
theorem sum_loop2 (a b : List Int) (L : Nat → Int → Int → Option AV) (X : Int → Option AV)
  (hL : ∀ n s i, L (n + 1) s i = bif decide (i < ([a, b].length : Int)) then
   bif decide (0 ≤ i) && decide (i < ([a, b].length : Int)) then
    bif decide (IntKind.i64.wrap (s + (([a, b].getD i.toNat []).length : Int)) < 0) then none
    else L n (IntKind.i64.wrap (s + (([a, b].getD i.toNat []).length : Int))) (IntKind.i64.wrap (i + 1))
   else none else X s)
  (h : a.length + b.length < 1000000) : L 3 0 0 = X ((a.length : Int) + (b.length : Int)) := by
 have s1 : IntKind.i64.wrap (0 + (a.length : Int)) = (a.length : Int) := by rw [wrap_ok (by omega) (by omega)]; omega
 have s2 : IntKind.i64.wrap ((a.length : Int) + (b.length : Int)) = (a.length : Int) + (b.length : Int) := wrap_ok (by omega) (by omega)
 have n1 : decide ((a.length : Int) < 0) = false := decide_eq_false (by omega)
 have n2 : decide ((a.length : Int) + (b.length : Int) < 0) = false := decide_eq_false (by omega)
 rw [hL]
 show (bif decide (IntKind.i64.wrap (0 + (a.length : Int)) < 0) then none else L 2 (IntKind.i64.wrap (0 + (a.length : Int))) 1) = _
 rw [s1, n1]
 refine (hL 1 _ 1).trans ?_
 show (bif decide (IntKind.i64.wrap ((a.length : Int) + (b.length : Int)) < 0) then none else L 1 (IntKind.i64.wrap ((a.length : Int) + (b.length : Int))) 2) = _
 rw [s2, n2]
 exact hL 0 _ 2
theorem app_loop2 (a b : List Int) (L : Nat → Int → List Int → Option AV) (X : List Int → Option AV)
  (hL : ∀ n i r, L (n + 1) i r = bif decide (i < ([a, b].length : Int)) then
   bif decide (0 ≤ i) && decide (i < ([a, b].length : Int)) then
    bif decide ((r.length + ([a, b].getD i.toNat []).length) * 8 ≤ LIM) then L n (IntKind.i64.wrap (i + 1)) (r ++ [a, b].getD i.toNat [])
    else none
   else none else X r)
  (h : a.length + b.length < 1000000) : L 3 0 [] = X (a ++ b) := by
 have t1 : decide ((([] : List Int).length + a.length) * 8 ≤ LIM) = true := decide_eq_true (lim8 (by simp only [List.length_nil]; omega))
 have t2 : decide ((a.length + b.length) * 8 ≤ LIM) = true := decide_eq_true (lim8 (by omega))
 rw [hL]
 show (bif decide ((([] : List Int).length + a.length) * 8 ≤ LIM) then L 2 1 ([] ++ a) else none) = _
 rw [t1, List.nil_append]
 refine (hL 1 1 a).trans ?_
 show (bif decide ((a.length + b.length) * 8 ≤ LIM) then L 1 2 (a ++ b) else none) = _
 rw [t2]
 exact hL 0 2 _
theorem F110.sem (a b : List Int) (h : concatB [a, b] = true) : callW F110.E false F110.fn 3 [.v (.sl (.sl (.int .i64))) [a, b]] = some (.v (.sl (.int .i64)) (concatL [a, b])) := by
 have hc := h
 unfold concatB at hc
 simp only [Bool.and_eq_true, decide_eq_true_eq, List.flatten_cons, List.flatten_nil, List.append_nil, List.length_append] at hc
 have hs : a.length + b.length < 1000000 := by omega
 have hg : growB ((a.length : Int) + (b.length : Int)) = true := by
  unfold growB
  simp only [Bool.and_eq_true, decide_eq_true_eq]
  omega
 refine (F110.start_eq 3 [a, b]).trans ?_
 refine (sum_loop2 a b (fun n s i => F110.l1_1_0_1_0 n (F110.kt 3 [1, 1, 0, 1, 0]) [a, b] s [a, b] ([a, b].length : Int) i) _ (fun n s i => F110.l1_1_0_1_0_eq n _ [a, b] s [a, b] _ i) hs).trans ?_
 refine (F110.c0 3 [a, b] _).trans ?_
 rw [hg, cond_true]
 refine (app_loop2 a b (fun n i r => F110.l1_1_1_1_0_1_0 n (F110.kt 3 [1, 1, 1, 1, 0, 1, 0]) [a, b] ([a, b].length : Int) i r) _ (fun n i r => F110.l1_1_1_1_0_1_0_eq n _ [a, b] _ i r) hs).trans ?_
 refine (F110.c1 3 _).trans ?_
 unfold concatL
 simp
theorem rel0_up {w : World} {ok : Nat → Prop} {x : AV} {u : Value} (h : rel0 w ok x u) : rel1 w ok [] mz x u := by
 cases x <;> first | exact h | trivial
theorem pullC_rel {w : World} {ok : Nat → Prop} {t : Ty} {cs : List AV} {us : List Value} {z : t.D} (h : pullC t cs = some z) (hf : F2 (rel0 w ok) cs us) : F2 (rel0 w ok) (explode t z) us := by
 have one : ∀ {t : Ty} {c : AV} {u : Value} {z : t.D}, leafD no t c = some z → rel0 w ok c u → rel0 w ok (.v t z) u := by
  intro t c u z hl hr
  exact leafD_rd (rd := no) (H := []) (m := mz) (fun i r hi => by simp [no] at hi) (fun k hk => hk) (fun id e t xs _ hH => by simp at hH) (rel0_up hr) hl
 cases t with
 | pair a b =>
  simp only [pullC] at h
  split at h
  case h_2 => simp at h
  rename_i y hy
  simp only [Option.some.injEq] at h
  subst h
  obtain ⟨u1, u2, e, h1, h2, _⟩ := implode_rd (rd := no) (H := []) (m := mz) (ok' := ok) (fun i r hi => by simp [no] at hi) (fun k hk => hk) (fun id e t xs _ hH => by simp at hH) (hf.imp fun x y _ h => rel0_up h) hy
  cases h2
  rw [List.append_nil] at e
  subst e
  exact explode_rel h1
 | _ =>
  match cs, h, hf with
  | [c], h, .cons h1 .nil => exact .cons (one h h1) .nil
theorem fn_rel {w : World} {ok : Nat → Prop} {g : Nat} {t : Ty} {cs : List AV} {z : t.D} {u : Value} (h : pullC t cs = some z) (hr : rel w ok [] mz (.fn g [] [.rp cs]) u) : rel w ok [] mz (.fn g [] [.rp (explode t z)]) u := by
 obtain ⟨us, vs, rfl, h1, h2⟩ := hr
 refine ⟨us, vs, rfl, h1, ?_⟩
 cases h2 with
 | cons a b =>
  obtain ⟨ad, ws, e1, e2, e3, e4, e5⟩ := a
  exact .cons ⟨ad, ws, e1, e2, e3, e4, pullC_rel h e5⟩ b
theorem rp_rel {w : World} {ok : Nat → Prop} {t : Ty} {cs : List AV} {z : t.D} {u : Value} (h : pullC t cs = some z) (hr : rel w ok [] mz (.rp cs) u) : rel w ok [] mz (.rp (explode t z)) u := by
 obtain ⟨ad, ws, e1, e2, e3, e4, e5⟩ := hr
 exact ⟨ad, ws, e1, e2, e3, e4, pullC_rel h e5⟩
theorem F66.eok : EOk Go.Proofs.Tryz.prog F66.E := eo calls_nil
theorem ok66 : HandOk Go.Proofs.Tryz.prog inv 133 h_inD := hand_un fun xs => callW_ok (own := false) (k := 1) F66.eok mixed Go.Proofs.Tryz.func133 (by kernel_rfl) (show Go.Proofs.Tryz.f133.body = some (bodyOf Go.Proofs.Tryz.f133) by kernel_rfl) (F66.sem 1 xs.1)
theorem F68.eok : EOk Go.Proofs.Tryz.prog F68.E := eo calls_nil
theorem ok68 : HandOk Go.Proofs.Tryz.prog inv 152 h_placeD := hand_un fun xs => callW_ok (own := false) (k := 1) F68.eok mixed Go.Proofs.Tryz.func152 (by kernel_rfl) (show Go.Proofs.Tryz.f152.body = some (bodyOf Go.Proofs.Tryz.f152) by kernel_rfl) (F68.sem 1 xs.1)
theorem F78.eok : EOk Go.Proofs.Tryz.prog F78.E := eo (calls_cons ok66 calls_nil)
theorem ok78 : HandOk Go.Proofs.Tryz.prog inv 132 h_outD := hand_un fun xs => callW_ok (own := false) (k := 1) F78.eok mixed Go.Proofs.Tryz.func132 (by kernel_rfl) (show Go.Proofs.Tryz.f132.body = some (bodyOf Go.Proofs.Tryz.f132) by kernel_rfl) (F78.sem 1 xs.1)
theorem F71.eok : EOk Go.Proofs.Tryz.prog F71.E := eo (calls_cons ok68 calls_nil)
theorem ok71 : HandOk Go.Proofs.Tryz.prog inv 136 h_room := hand_if fun xs hc => callW_ok (own := true) (k := 1) F71.eok mixed Go.Proofs.Tryz.func136 (by kernel_rfl) (show Go.Proofs.Tryz.f136.body = some (bodyOf Go.Proofs.Tryz.f136) by kernel_rfl) (F71.sem 1 xs.1 xs.2.1 hc)
theorem ok64 : HandOk Go.Proofs.Tryz.prog inv 138 h_tzD := hand_if fun xs hc => by
 intro w okk us hI hok ha
 refine .inl ⟨callFunc_enter Go.Proofs.Tryz.func138 (by kernel_rfl) (by kernel_rfl) _ _, ?_⟩
 cases ha with
 | cons h1 h2 =>
  cases h2
  have hu := uB_U hc
  unfold U at hu
  have e1 : _ = [Value.int .u64 xs.1] := h1
  obtain ⟨rfl⟩ : _ = Value.int .u64 xs.1 ∧ True := ⟨List.cons.inj e1 |>.1, trivial⟩
  have hx : xs.1 = ((xs.1.toNat : Nat) : Int) := (fun (a : Int) (h : 0 ≤ a) => show a = ((a.toNat : Nat) : Int) by omega) xs.1 hu.1
  have hcall := Any7.bits_TrailingZeros64 Go.Proofs.Tryz.tzI xs.1.toNat (by omega) w (fun _ => hI)
  rw [← hx] at hcall
  refine hcall.mono fun e w' he => ?_
  obtain ⟨rfl, rfl⟩ := he
  exact ⟨_, rfl, Below.refl _ w', okk, mz, ⟨fun i hi => hok i hi, fun id r h => by simp [rowsA, rows2, rows1, argA] at h, fun id r k h => by simp [rowsA, rows2, rows1, argA] at h, fun i j ri rj k h => by simp [rowsA, rows2, rows1, argA] at h⟩,
   (show Rd w' okk (.int .i64) (tzD xs.1) [.int .i64 _] by unfold tzD; simp [Rd]), fun i hi => .inl hi⟩
theorem F102.eok : EOk Go.Proofs.Tryz.prog F102.E := eo calls_nil
theorem ok102 : HandOk Go.Proofs.Tryz.prog inv 123 h_len64D := hand_if fun xs hc => callW_ok (own := false) (k := 1) F102.eok mixed Go.Proofs.Tryz.func123 (by kernel_rfl) (show Go.Proofs.Tryz.f123.body = some (bodyOf Go.Proofs.Tryz.f123) by kernel_rfl) (F102.sem 1 xs.1)
theorem F88.eok : EOk Go.Proofs.Tryz.prog F88.E := eo (calls_cons ok102 calls_nil)
theorem ok88 : HandOk Go.Proofs.Tryz.prog inv 153 h_lzD := hand_if fun xs hc => callW_ok (own := false) (k := 1) F88.eok mixed Go.Proofs.Tryz.func153 (by kernel_rfl) (show Go.Proofs.Tryz.f153.body = some (bodyOf Go.Proofs.Tryz.f153) by kernel_rfl) (F88.sem 1 xs.1 hc)
theorem F89.eok : EOk Go.Proofs.Tryz.prog F89.E := eo calls_nil
theorem ok89 : HandOk Go.Proofs.Tryz.prog inv 154 h_onesD := hand_if fun xs hc => callW_ok (own := false) (k := 1) F89.eok mixed Go.Proofs.Tryz.func154 (by kernel_rfl) (show Go.Proofs.Tryz.f154.body = some (bodyOf Go.Proofs.Tryz.f154) by kernel_rfl) (F89.sem 1 xs.1)
theorem F72.eok : EOk Go.Proofs.Tryz.prog F72.E := eo (calls_cons ok64 (calls_cons ok88 (calls_cons ok89 calls_nil)))
theorem ok72 : HandOk Go.Proofs.Tryz.prog inv 137 h_madeD := hand_if fun xs hc => spec_fits fun hx => callW_ok (own := false) (k := xs.2.1.length + 1) F72.eok mixed Go.Proofs.Tryz.func137 (by kernel_rfl) (show Go.Proofs.Tryz.f137.body = some (bodyOf Go.Proofs.Tryz.f137) by kernel_rfl) (F72.sem xs.1 xs.2.1 hc (hx (.v (.sl (.int .u64)) xs.2.1) (by simp [argsN, argA])).1)
theorem F29.eok : EOk Go.Proofs.Tryz.prog F29.E := eo (calls_cons ok64 calls_nil)
theorem ok29 : HandOk Go.Proofs.Tryz.prog inv 101 h_listD := hand_if fun xs hc => callW_ok (own := false) (k := xs.1.2.1.length + 100) F29.eok mixed Go.Proofs.Tryz.func101 (by kernel_rfl) (show Go.Proofs.Tryz.f101.body = some (bodyOf Go.Proofs.Tryz.f101) by kernel_rfl) (F29.sem xs.1 hc)
theorem F79.eok : EOk Go.Proofs.Tryz.prog F79.E := eo calls_nil
theorem ok79 : HandOk Go.Proofs.Tryz.prog inv 134 h_maxL := hand_if fun xs hc => spec_fits fun hx => callW_ok (own := false) (k := xs.1.length + 1) F79.eok mixed Go.Proofs.Tryz.func134 (by kernel_rfl) (show Go.Proofs.Tryz.f134.body = some (bodyOf Go.Proofs.Tryz.f134) by kernel_rfl) (F79.sem xs.1 hc (hx (.v (.sl (.int .i64)) xs.1) (by simp [argsN, argA])).1)
theorem F80.eok : EOk Go.Proofs.Tryz.prog F80.E := eo calls_nil
theorem ok80 : HandOk Go.Proofs.Tryz.prog inv 135 h_minL := hand_if fun xs hc => spec_fits fun hx => callW_ok (own := false) (k := xs.1.length + 1) F80.eok mixed Go.Proofs.Tryz.func135 (by kernel_rfl) (show Go.Proofs.Tryz.f135.body = some (bodyOf Go.Proofs.Tryz.f135) by kernel_rfl) (F80.sem xs.1 hc (hx (.v (.sl (.int .i64)) xs.1) (by simp [argsN, argA])).1)
theorem F96.eok : EOk Go.Proofs.Tryz.prog F96.E := eo calls_nil
theorem ok96 : HandOk Go.Proofs.Tryz.prog inv 57 h_varB := by
 intro args κ r h
 unfold h_varB at h
 split at h
 case h_2 => simp at h
 rename_i x0 cs
 cases hp : pullA (.int .i64) x0 with
 | none => simp [hp] at h
 | some y0 =>
  cases hq : pullC (.int .i64) cs with
  | none => simp [hp, hq] at h
  | some z =>
   simp only [hp, hq] at h
   refine ⟨_, h, spec_args (fun w okk us hf => ?_) (callW_ok (own := false) (k := 1) F96.eok mixed Go.Proofs.Tryz.func57 (by kernel_rfl) (show Go.Proofs.Tryz.f57.body = some (bodyOf Go.Proofs.Tryz.f57) by kernel_rfl) (F96.sem 1 y0 z))⟩
   cases hf with
   | cons a b =>
    cases b with
    | cons b c => exact .cons (pullA_rel hp a) (.cons (rp_rel hq b) c)
theorem F118.eok : EOk Go.Proofs.Tryz.prog F118.E := eo calls_nil
theorem ok118 : HandOk Go.Proofs.Tryz.prog inv 142 h_numB := by
 intro args κ r h
 unfold h_numB at h
 split at h
 case h_2 => simp at h
 rename_i x0 cs
 cases hp : pullA (.int .i64) x0 with
 | none => simp [hp] at h
 | some y0 =>
  cases hq : pullC (.int .i64) cs with
  | none => simp [hp, hq] at h
  | some z =>
   simp only [hp, hq] at h
   refine ⟨_, h, spec_args (fun w okk us hf => ?_) (callW_ok (own := false) (k := 1) F118.eok mixed Go.Proofs.Tryz.func142 (by kernel_rfl) (show Go.Proofs.Tryz.f142.body = some (bodyOf Go.Proofs.Tryz.f142) by kernel_rfl) (F118.sem 1 y0 z))⟩
   cases hf with
   | cons a b =>
    cases b with
    | cons b c => exact .cons (pullA_rel hp a) (.cons (rp_rel hq b) c)
theorem F108.eok : EOk Go.Proofs.Tryz.prog F108.E := eo calls_nil
theorem ok108 : HandOk Go.Proofs.Tryz.prog inv 103 h_rowN := by
 intro args κ r h
 unfold h_rowN at h
 split at h
 case h_2 => simp at h
 rename_i x0 cs
 cases hp : pullA (.sl (.int .i64)) x0 with
 | none => simp [hp] at h
 | some y0 =>
  cases hq : pullC ConT cs with
  | none => simp [hp, hq] at h
  | some z =>
   simp only [hp, hq] at h
   refine ⟨_, h, spec_args (fun w okk us hf => ?_) (callW_ok (own := false) (k := 1) F108.eok mixed Go.Proofs.Tryz.func103 (by kernel_rfl) (show Go.Proofs.Tryz.f103.body = some (bodyOf Go.Proofs.Tryz.f103) by kernel_rfl) (F108.sem 1 y0 z))⟩
   cases hf with
   | cons a b =>
    cases b with
    | cons b c => exact .cons (pullA_rel hp a) (.cons (rp_rel hq b) c)
theorem flat_res {w w' : World} {ok : Nat → Prop} {k : IntKind} {n : Int} (hok : ∀ i, ok i → i < w.heap.size) (hs : w.heap.size ≤ w'.heap.size) : ResRel w.heap.size ok w' (.v (.int k) n) (.int k n) :=
 ⟨ok, mz, ⟨fun i hi => Nat.lt_of_lt_of_le (hok i hi) hs, fun id r h => by simp [rowsA, rows2, rows1] at h, fun id r k h => by simp [rowsA, rows2, rows1] at h, fun i j ri rj k h => by simp [rowsA, rows2, rows1] at h⟩,
  (show Rd w' ok (.int k) n [.int k n] by simp [Rd]), fun i hi => .inl hi⟩
theorem run131 (s : ByteArray) (c : Int) (w : World) : (callFunc 163 #[.string s, .int .u8 c]).run Go.Proofs.Tryz.prog w = .ok (.value (.int .i64 (idxI s c))) w := by
 rw [run_callFunc_extern (e := Extern.BytealgIndexByte.indexByte) Go.Proofs.Tryz.func163 (by kernel_rfl) (by kernel_rfl) (by kernel_rfl) (by kernel_rfl)]
 rw [Lib.run_indexByteString]
 rfl
theorem run123 (s : ByteArray) (c : Int) (w : World) : (callFunc 156 #[.string s, .int .u8 c]).run Go.Proofs.Tryz.prog w = .ok (.value (.int .i64 (cntI s c))) w := by
 rw [run_callFunc_extern (e := Extern.BytealgCount.count) Go.Proofs.Tryz.func156 (by kernel_rfl) (by kernel_rfl) (by kernel_rfl) (by kernel_rfl)]
 rw [Lib.run_countString]
 rfl
theorem ok131 : HandOk Go.Proofs.Tryz.prog inv 163 h_idxI := hand_un fun xs => by
 intro w okk us hI hok ha
 cases ha with
 | cons h1 h2 =>
  cases h2 with
  | cons h2 h3 =>
   cases h3
   have e1 : _ = [Value.string xs.1] := h1
   have e2 : _ = [Value.int .u8 xs.2.1] := h2
   obtain ⟨rfl⟩ : _ = Value.string xs.1 ∧ True := ⟨List.cons.inj e1 |>.1, trivial⟩
   obtain ⟨rfl⟩ : _ = Value.int .u8 xs.2.1 ∧ True := ⟨List.cons.inj e2 |>.1, trivial⟩
   exact .inr ⟨_, run131 xs.1 xs.2.1 w, flat_res hok (Nat.le_refl _)⟩
theorem ok123 : HandOk Go.Proofs.Tryz.prog inv 156 h_cntI := hand_un fun xs => by
 intro w okk us hI hok ha
 cases ha with
 | cons h1 h2 =>
  cases h2 with
  | cons h2 h3 =>
   cases h3
   have e1 : _ = [Value.string xs.1] := h1
   have e2 : _ = [Value.int .u8 xs.2.1] := h2
   obtain ⟨rfl⟩ : _ = Value.string xs.1 ∧ True := ⟨List.cons.inj e1 |>.1, trivial⟩
   obtain ⟨rfl⟩ : _ = Value.int .u8 xs.2.1 ∧ True := ⟨List.cons.inj e2 |>.1, trivial⟩
   exact .inr ⟨_, run123 xs.1 xs.2.1 w, flat_res hok (Nat.le_refl _)⟩
theorem F124.eok : EOk Go.Proofs.Tryz.prog F124.E := eo (calls_cons ok131 calls_nil)
theorem ok124 : HandOk Go.Proofs.Tryz.prog inv 157 h_idxJ := hand_un fun xs => callW_ok (own := false) (k := 1) F124.eok mixed Go.Proofs.Tryz.func157 (by kernel_rfl) (show Go.Proofs.Tryz.f157.body = some (bodyOf Go.Proofs.Tryz.f157) by kernel_rfl) (F124.sem 1 xs.1 xs.2.1)
theorem one_byte {s : ByteArray} (h : decide (s.size = 1) = true) : ∃ b, s = ⟨#[b]⟩ := by
 have h' : s.size = 1 := of_decide_eq_true h
 obtain ⟨⟨l⟩⟩ := s
 have h2 : l.length = 1 := h'
 match l, h2 with
 | [b], _ => exact ⟨b, rfl⟩
theorem F116.eok : EOk Go.Proofs.Tryz.prog F116.E := eo (calls_cons ok124 calls_nil)
theorem ok116 : HandOk Go.Proofs.Tryz.prog inv 140 h_idx1 := hand_if fun xs hc => by
 obtain ⟨s, u, t⟩ := xs
 obtain ⟨b, rfl⟩ := one_byte (s := u) hc
 exact callW_ok (own := false) (k := 1) F116.eok mixed Go.Proofs.Tryz.func140 (by kernel_rfl) (show Go.Proofs.Tryz.f140.body = some (bodyOf Go.Proofs.Tryz.f140) by kernel_rfl) (F116.sem 1 s b)
theorem F109.eok : EOk Go.Proofs.Tryz.prog F109.E := eo (calls_cons ok116 calls_nil)
theorem ok109 : HandOk Go.Proofs.Tryz.prog inv 104 h_idx2 := hand_if fun xs hc => by
 obtain ⟨s, u, t⟩ := xs
 obtain ⟨b, rfl⟩ := one_byte (s := u) hc
 exact callW_ok (own := false) (k := 1) F109.eok mixed Go.Proofs.Tryz.func104 (by kernel_rfl) (show Go.Proofs.Tryz.f104.body = some (bodyOf Go.Proofs.Tryz.f104) by kernel_rfl) (F109.sem 1 s b)
theorem F94.eok : EOk Go.Proofs.Tryz.prog F94.E := eo (calls_cons ok109 calls_nil)
theorem ok94 : HandOk Go.Proofs.Tryz.prog inv 54 h_has1 := hand_if fun xs hc => by
 obtain ⟨s, u, t⟩ := xs
 obtain ⟨b, rfl⟩ := one_byte (s := u) hc
 exact callW_ok (own := false) (k := 1) F94.eok mixed Go.Proofs.Tryz.func54 (by kernel_rfl) (show Go.Proofs.Tryz.f54.body = some (bodyOf Go.Proofs.Tryz.f54) by kernel_rfl) (F94.sem 1 s b)
theorem F114.eok : EOk Go.Proofs.Tryz.prog F114.E := eo (calls_cons ok123 calls_nil)
theorem ok114 : HandOk Go.Proofs.Tryz.prog inv 139 h_cnt1 := hand_if fun xs hc => by
 obtain ⟨s, u, t⟩ := xs
 obtain ⟨b, rfl⟩ := one_byte (s := u) hc
 exact callW_ok (own := false) (k := 1) F114.eok mixed Go.Proofs.Tryz.func139 (by kernel_rfl) (show Go.Proofs.Tryz.f139.body = some (bodyOf Go.Proofs.Tryz.f139) by kernel_rfl) (F114.sem 1 s b)
theorem F105.eok : EOk Go.Proofs.Tryz.prog F105.E := eo calls_nil
theorem ok105 : HandOk Go.Proofs.Tryz.prog inv 60 h_withinD := hand_un fun xs => callW_ok (own := false) (k := 1) F105.eok mixed Go.Proofs.Tryz.func60 (by kernel_rfl) (show Go.Proofs.Tryz.f60.body = some (bodyOf Go.Proofs.Tryz.f60) by kernel_rfl) (F105.sem 1 xs.1 xs.2.1 xs.2.2.1)
theorem F106.eok : EOk Go.Proofs.Tryz.prog F106.E := eo (calls_cons ok94 (calls_cons ok105 (calls_cons ok114 calls_nil)))
theorem ok106 : HandOk Go.Proofs.Tryz.prog inv 102 h_namedD := hand_if fun xs hc => by
 have hc2 := (Bool.and_eq_true _ _).mp hc
 exact callW_ok (own := false) (k := 1) F106.eok mixed Go.Proofs.Tryz.func102 (by kernel_rfl) (show Go.Proofs.Tryz.f102.body = some (bodyOf Go.Proofs.Tryz.f102) by kernel_rfl) (F106.sem 1 xs.1 xs.2.1 xs.2.2.1 xs.2.2.2.1 hc2.1 hc2.2)
theorem F53.eok : EOk Go.Proofs.Tryz.prog F53.E := eo calls_nil
theorem ok53 : HandOk Go.Proofs.Tryz.prog inv 71 h_hasB := hand_if fun xs hc => callW_ok (own := false) (k := 101) F53.eok mixed Go.Proofs.Tryz.func71 (by kernel_rfl) (show Go.Proofs.Tryz.f71.body = some (bodyOf Go.Proofs.Tryz.f71) by kernel_rfl) (F53.sem xs.1 xs.2.1 hc)
theorem F100.eok : EOk Go.Proofs.Tryz.prog F100.E := eo calls_nil
theorem ok100 : HandOk Go.Proofs.Tryz.prog inv 112 h_listB1 := hand_un fun xs => callW_ok (own := false) (k := 1) F100.eok mixed Go.Proofs.Tryz.func112 (by kernel_rfl) (show Go.Proofs.Tryz.f112.body = some (bodyOf Go.Proofs.Tryz.f112) by kernel_rfl) (F100.sem 1 xs.1 xs.2.1 xs.2.2.1)
theorem v104 : callW ⟨tt, [], [], [], none, inv, []⟩ false Go.Proofs.Tryz.f66 10 [] = some (.v (.sl (.pair .str .str)) formsL) := by kernel_rfl
theorem ok104 : HandOk Go.Proofs.Tryz.prog inv 66 h_forms := hand_un fun xs => callW_ok (own := false) (k := 10) (eo calls_nil) mixed Go.Proofs.Tryz.func66 (by kernel_rfl) (show Go.Proofs.Tryz.f66.body = some (bodyOf Go.Proofs.Tryz.f66) by kernel_rfl) v104
theorem v52 : callW ⟨tt, [], [], [], none, inv, []⟩ false Go.Proofs.Tryz.f62 10 [] = some (.v (.sl .str) shapesL) := by kernel_rfl
theorem ok52 : HandOk Go.Proofs.Tryz.prog inv 62 h_shapes := hand_un fun xs => callW_ok (own := false) (k := 10) (eo calls_nil) mixed Go.Proofs.Tryz.func62 (by kernel_rfl) (show Go.Proofs.Tryz.f62.body = some (bodyOf Go.Proofs.Tryz.f62) by kernel_rfl) v52
theorem F103.eok : EOk Go.Proofs.Tryz.prog F103.E := eo (calls_cons ok104 calls_nil)
theorem ok103 : HandOk Go.Proofs.Tryz.prog inv 29 h_word := hand_un fun xs => callW_ok (own := false) (k := 1) F103.eok mixed Go.Proofs.Tryz.func29 (by kernel_rfl) (show Go.Proofs.Tryz.f29.body = some (bodyOf Go.Proofs.Tryz.f29) by kernel_rfl) (F103.sem 1 xs.1)
theorem F91.eok : EOk Go.Proofs.Tryz.prog F91.E := eo (calls_cons ok103 (calls_cons ok104 calls_nil))
theorem ok91 : HandOk Go.Proofs.Tryz.prog inv 31 h_shapeS := hand_un fun xs => callW_ok (own := false) (k := 1) F91.eok mixed Go.Proofs.Tryz.func31 (by kernel_rfl) (show Go.Proofs.Tryz.f31.body = some (bodyOf Go.Proofs.Tryz.f31) by kernel_rfl) (F91.sem 1 xs.1)
noncomputable def i3 : TypeInfo := (Go.Proofs.Tryz.prog.info? 3).getD default
theorem i3_info : Go.Proofs.Tryz.prog.info? 3 = some i3 := by kernel_rfl
theorem i3_zero : i3.zero = some (.int .i64 0) := by kernel_rfl
theorem i3_size : i3.size = 1 := by kernel_rfl
theorem i3_bytes : i3.bytes = 8 := by kernel_rfl
theorem i3_pos : 0 < i3.size := by rw [i3_size]; exact Nat.one_pos
theorem ok117 : HandOk Go.Proofs.Tryz.prog inv 141 h_grow := by
 intro args κ r h
 unfold h_grow at h
 split at h
 case h_2 => simp at h
 rename_i n
 cases hg : growB n with
 | false => simp [hg] at h
 | true =>
  simp only [hg, cond_true] at h
  simp only [growB, Bool.and_eq_true, decide_eq_true_eq] at hg
  obtain ⟨h0, h1⟩ := hg
  refine ⟨_, h, fun w ok us hI hok ha => .inl ⟨callFunc_enter Go.Proofs.Tryz.func141 (by kernel_rfl) (by kernel_rfl) _ _, ?_⟩⟩
  cases ha with
  | cons h2 hr =>
  cases hr with
  | cons h3 hr =>
  cases hr
  rename_i u1 u2
  have h2 : u1 = .slice none 0 0 := h2
  have h3 : [u2] = [Value.int .i64 n] := h3
  obtain rfl : u2 = Value.int .i64 n := (List.cons.inj h3).1
  have hn : n = (n.toNat : Int) := (Int.toNat_of_nonneg (Int.le_of_lt h0)).symm
  rw [h2]
  have hc := Any8.slices_Grow_grow Go.Proofs.Tryz.growI i3 (.int .i64 0) i3_info i3_zero i3_pos none 0 0 n.toNat [] w (Nat.le_refl _) (by omega) (by rw [i3_bytes]; omega) (by omega) (by simp) (fun _ => rfl) (fun a h => by simp at h)
  have e1 : (Value.int .i64 n) = .int .i64 ((n.toNat : Nat) : Int) := congrArg (Value.int .i64) hn
  rw [e1]
  refine hc.mono fun e w' he => ?_
  obtain ⟨rfl, rfl⟩ := he
  refine ⟨_, rfl, ⟨rfl, rfl, rfl, by simp, fun k hk => heap_alloc_old w.drew _ hk⟩, ok, fun _ => _, ⟨fun k hk => by have := hok k hk; simp; omega, ?_, ?_, ?_⟩, ⟨⟨_, _, _, rfl⟩, rfl⟩, fun k hk => .inl hk⟩
  ·intro id r hr
   have hid : id = 0 ∧ r = .row 3 (.int .i64) [] := by
    cases id with
    | zero => simp [rowsA, rows2, rows1] at hr; exact ⟨rfl, hr.symm⟩
    | succ j => simp [rowsA, rows2, rows1] at hr
   obtain ⟨rfl, rfl⟩ := hid
   refine ⟨[], .nil, rfl, .inr ⟨_, _, _, rfl, Nat.le_refl _, heap_alloc_new w.drew _, Nat.zero_le _, grownCap_le_maxLen _ _ _ _ (by unfold maxLen; omega), ?_, by simp⟩⟩
   have hge : 0 + n.toNat ≤ grownCap w (0 + n.toNat) 0 3 := grownCap_ge w (0 + n.toNat) 0 3
   have hz : ∀ q, (Builtin.zeroCells (Value.int .i64 0).cells q).size = q := fun q => by simp [Builtin.zeroCells, Value.cells]
   rw [Array.size_append, Array.size_append, hz, hz]
   show 0 + (0 + n.toNat - 0) + (grownCap w (0 + n.toNat) 0 3 - (0 + n.toNat)) = grownCap w (0 + n.toNat) 0 3 * 1
   omega
  ·intro id r k hr hl hk ho
   have := hok k ho
   have hid : r = .row 3 (.int .i64) [] := by
    cases id with
    | zero => simp [rowsA, rows2, rows1] at hr; exact hr.symm
    | succ j => simp [rowsA, rows2, rows1] at hr
   subst hid
   simp only [RB, mblk, Option.some.injEq] at hk
   omega
  ·intro i j ri rj k hi hj _ _ _ _
   have z : ∀ (q : Nat) (r : Row), (rowsA (AV.nw 3 (.int .i64) []))[q]? = some r → q = 0 := fun q r h => by
    cases q with
    | zero => rfl
    | succ q => simp [rowsA, rows2, rows1] at h
   rw [z i ri hi, z j rj hj]
theorem F110.eok : EOk Go.Proofs.Tryz.prog F110.E := eo (calls_cons ok117 calls_nil)
theorem ok110 : HandOk Go.Proofs.Tryz.prog inv 106 h_concatL := hand_if fun xs hc => by
 obtain ⟨l, t⟩ := xs
 have hc' := hc
 unfold concatB at hc'
 simp only [Bool.and_eq_true, decide_eq_true_eq] at hc'
 obtain ⟨a, b, rfl⟩ := two_of (l := l) hc'.2
 exact callW_ok (own := false) (k := 3) F110.eok mixed Go.Proofs.Tryz.func106 (by kernel_rfl) (show Go.Proofs.Tryz.f106.body = some (bodyOf Go.Proofs.Tryz.f106) by kernel_rfl) (F110.sem a b hc)
theorem F95.eok : EOk Go.Proofs.Tryz.prog F95.E := eo (calls_cons ok110 calls_nil)
theorem ok95 : HandOk Go.Proofs.Tryz.prog inv 56 h_varsD := hand_if fun xs hc => callW_ok (own := false) (k := 1) F95.eok mixed Go.Proofs.Tryz.func56 (by kernel_rfl) (show Go.Proofs.Tryz.f56.body = some (bodyOf Go.Proofs.Tryz.f56) by kernel_rfl) (F95.sem 1 xs.1 hc)
theorem F87.eok : EOk Go.Proofs.Tryz.prog F87.E := eo calls_nil
theorem ok87 : HandOk Go.Proofs.Tryz.prog inv 49 h_hasL := hand_un fun xs => spec_fits fun hx => callW_ok (own := false) (k := xs.1.length + 1) F87.eok mixed Go.Proofs.Tryz.func49 (by kernel_rfl) (show Go.Proofs.Tryz.f49.body = some (bodyOf Go.Proofs.Tryz.f49) by kernel_rfl) (F87.sem xs.1 xs.2.1 (hx (.v (.sl (.int .i64)) xs.1) (by simp [argsN, argA])).1)
theorem F70.eok : EOk Go.Proofs.Tryz.prog F70.E := eo (calls_cons ok87 calls_nil)
theorem F54.eok : EOk Go.Proofs.Tryz.prog F54.E := eo calls_nil
theorem ok54 : HandOk Go.Proofs.Tryz.prog inv 72 h_placesL := hand_if fun xs hc => callW_ok (own := false) (k := 2000) F54.eok mixed Go.Proofs.Tryz.func72 (by kernel_rfl) (show Go.Proofs.Tryz.f72.body = some (bodyOf Go.Proofs.Tryz.f72) by kernel_rfl) (F54.sem xs.1 xs.2.1 xs.2.2.1 hc)
theorem F55.eok : EOk Go.Proofs.Tryz.prog F55.E := eo calls_nil
theorem ok55 : HandOk Go.Proofs.Tryz.prog inv 73 h_numbersL := hand_if fun xs hc => callW_ok (own := false) (k := 2000) F55.eok mixed Go.Proofs.Tryz.func73 (by kernel_rfl) (show Go.Proofs.Tryz.f73.body = some (bodyOf Go.Proofs.Tryz.f73) by kernel_rfl) (F55.sem xs.1 xs.2.1 xs.2.2.1 xs.2.2.2.1 xs.2.2.2.2.1 hc)
end Go.Proofs.YtlfdikofmfhefaaGreatDoor.Ev
