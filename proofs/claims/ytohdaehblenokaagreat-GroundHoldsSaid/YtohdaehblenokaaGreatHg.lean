/-
GroundHolds: what the law's function answers.
Conditions: the kind of what is made is a byte.
-/
import Derived.Test.YtohdaehblenokaaGreatHc
import Derived.Test.YtohdaehblenokaaGreatHf
set_option linter.unusedVariables false
set_option linter.unusedSimpArgs false
set_option maxRecDepth 100000
namespace Go.Proofs.YtohdaehblenokaaGreat.Ev
open Go Go.RowKit
theorem F526.sem (k : Nat) : callW F526.E false F526.fn k [] = some (.v .bool true) := by
 have e1 : holdsX (17, ([0, 1, 2], ([], ([], ([], ([], ((0 : Int), []))))))) [3, 1, 2] = true := (holds_any _ _).trans (by decide +kernel)
 have e2 : holdsX (17, ([0, 1, 2], ([], ([], ([], ([], ((0 : Int), []))))))) [3, 1, 3] = false := (holds_any _ _).trans (by decide +kernel)
 have e3 : holdsX (20, ([0, 1, 2], ([], ([], ([], ([], ((0 : Int), []))))))) [2, 3, 1] = true := (holds_any _ _).trans (by decide +kernel)
 have e4 : holdsX (20, ([0, 1, 2], ([], ([], ([], ([], ((0 : Int), []))))))) [1, 3, 2] = false := (holds_any _ _).trans (by decide +kernel)
 refine (F526.start_eq k).trans ((bT' rfl).trans ((bT' e1).trans ((bT' rfl).trans ((bT' (by rw [e2]; rfl)).trans ((bT' rfl).trans ((bT' e3).trans ((bT' rfl).trans ?_)))))))
 rw [e4]
 rfl
theorem F526.eok : EOk Go.Proofs.Tryz.prog F526.E := eo (calls_cons ok567 calls_nil)
theorem ok526 : HandOk Go.Proofs.Tryz.prog inv 9 h_wakes526 := hand_un fun xs => callW_ok (own := false) (k := 1) F526.eok mixed Go.Proofs.Tryz.func9 (by kernel_rfl) (show Go.Proofs.Tryz.f9.body = some (bodyOf Go.Proofs.Tryz.f9) by kernel_rfl) (F526.sem 1)
theorem F721.sem (k : Nat) (l : List Int) : callW F721.E false F721.fn k [.v (.sl (.int .i64)) l] = some (.v (.sl (.int .i64)) (l.take 8)) := by
 refine (F721.start_eq k l).trans ?_
 by_cases h : 8 < (l.length : Int)
 ·rw [if_pos h]
  exact bT' (by rw [decide_eq_true (show (0 : Int) ≤ 8 by decide), decide_eq_true (show (8 : Int) ≤ (l.length : Int) by omega)]; rfl)
 ·rw [if_neg h]
  refine (bT' (by rw [decide_eq_true (show (0 : Int) ≤ (l.length : Int) by omega), decide_eq_true (show (l.length : Int) ≤ (l.length : Int) by omega)]; rfl)).trans ?_
  rw [Int.toNat_natCast, List.take_length]
  exact congrArg (fun x : List Int => some (AV.v (.sl (.int .i64)) x)) (List.take_of_length_le (show l.length ≤ 8 by omega)).symm
theorem nearLB_of {a : List Int} {n : Int} (h : a.length ≤ 1000) (h0 : 0 ≤ n) (h1 : n ≤ 1000) : nearLB a n = true := by
 unfold nearLB
 rw [Nat.ble_eq_true_of_le h, decide_eq_true h0, decide_eq_true h1]
 rfl
theorem near_len (a : List Int) (n : Int) : (nearL a n).length = n.toNat := by
 unfold nearL
 rw [List.length_map, List.length_range]
theorem F720.step (n : Nat) (K : Conts) (p0 : List Int) (p1 p2 i : Int) (h0 : 0 ≤ i) (h1 : i < 3) (kk : Int) (c : RestG) (hs : smallC (kk, c) = true) (cs : List Con) (x y z : List Int) (hx : x.length ≤ 1000) (hy : y.length ≤ 1000) (hz : z.length ≤ 1000) :
  F720.l1_1_1_1_1_0_1_0_0_1_1_0_0_1_1_0 (n + 1) K p0 p1 p2 3 i kk c.1 c.2.1 c.2.2.1 c.2.2.2.1 c.2.2.2.2.1 c.2.2.2.2.2.1 c.2.2.2.2.2.2 cs [x, y, z] = F720.l1_1_1_1_1_0_1_0_0_1_1_0_0_1_1_0 n K p0 p1 p2 3 (IntKind.i64.wrap (i + 1)) kk c.1 c.2.1 c.2.2.1 c.2.2.2.1 c.2.2.2.2.1 c.2.2.2.2.2.1 c.2.2.2.2.2.2 cs [x, y, z] := by
 have hl : ([x, y, z].getD i.toNat []).length ≤ 1000 := by
  have : i = 0 ∨ i = 1 ∨ i = 2 := by omega
  rcases this with rfl | rfl | rfl
  ·exact hx
  ·exact hy
  ·exact hz
 have hb : (smallC (kk, c) && Nat.ble ([x, y, z].getD i.toNat []).length 1000) = true := by
  rw [hs, Nat.ble_eq_true_of_le hl]
  rfl
 refine (F720.l1_1_1_1_1_0_1_0_0_1_1_0_0_1_1_0_eq ..).trans ((bT' (decide_eq_true h1)).trans ((bT' ?_).trans ((bT' hb).trans ((bT' hb).trans (bF' ?_)))))
 ·rw [decide_eq_true h0, decide_eq_true (show i < (([x, y, z] : List (List Int)).length : Int) from h1)]
  rfl
 ·show (!(holdsX (kk, c) ([x, y, z].getD i.toNat []) == anyY (kk, c) ([x, y, z].getD i.toNat []))) = false
  rw [holds_any, beq_self_eq_true]
  rfl
theorem F720.round (n : Nat) (K : Conts) (p0 : List Int) (hp : p0.length ≤ 8) (i : Int) (h0 : 0 ≤ i) (h1 : i < 2) (c d : Con) (hc : smallC c = true) (hd : smallC d = true) :
  F720.l1_1_1_1_1_0_1_0 (n + 4 + 1) K p0 2 i [c, d] = F720.l1_1_1_1_1_0_1_0 (n + 4) K p0 2 (IntKind.i64.wrap (i + 1)) [c, d] := by
 refine (F720.l1_1_1_1_1_0_1_0_eq ..).trans ((bT' (decide_eq_true h1)).trans ((bT' ?_).trans ((bT' (nearLB_of (by omega) (by decide) (by decide))).trans ((bT' (nearLB_of (by omega) (by decide) (by decide))).trans ?_))))
 ·rw [decide_eq_true h0, decide_eq_true (show i < (([c, d] : List Con).length : Int) from h1)]
  rfl
 ·have hx : (nearL p0 5).length ≤ 1000 := by rw [near_len]; decide
  have hz : (nearL p0 3).length ≤ 1000 := by rw [near_len]; decide
  have hs : smallC ([c, d].getD i.toNat ((0 : Int), ([], ([], ([], ([], ([], ((0 : Int), [])))))))) = true := by
   have : i = 0 ∨ i = 1 := by omega
   rcases this with rfl | rfl
   ·exact hc
   ·exact hd
  generalize [c, d].getD i.toNat ((0 : Int), ([], ([], ([], ([], ([], ((0 : Int), []))))))) = e at hs ⊢
  obtain ⟨kk, e⟩ := e
  have s := fun n' j h0 h1 => F720.step n' (F720.k_l1_1_1_1_1_0_1_0 (n + 4) K [1, 1, 0, 0, 1, 1, 0]) p0 2 i j h0 h1 kk e hs [c, d] (nearL p0 5) p0 (nearL p0 3) hx (by omega) hz
  rw [show ((([nearL p0 5, p0, nearL p0 3] : List (List Int)).length : Nat) : Int) = 3 from rfl]
  refine (s (n + 3) 0 (by decide) (by decide)).trans ?_
  rw [show IntKind.i64.wrap ((0 : Int) + 1) = 1 from rfl]
  refine (s (n + 2) 1 (by decide) (by decide)).trans ?_
  rw [show IntKind.i64.wrap ((1 : Int) + 1) = 2 from rfl]
  refine (s (n + 1) 2 (by decide) (by decide)).trans ?_
  rw [show IntKind.i64.wrap ((2 : Int) + 1) = 3 from rfl]
  exact (F720.l1_1_1_1_1_0_1_0_0_1_1_0_0_1_1_0_eq ..).trans (self_lt'.trans (F720.c2 ..))
theorem F720.sem (z : Small) (a : List Int) (kk : Int) (c : RestG) (h0 : 0 ≤ z.1) (h1 : z.1 < 256) : callW F720.E false F720.fn 20 [.agg (explode SmallT z), .v (.sl (.int .i64)) a, .agg (explode ConT (kk, c))] = some (.v .bool true) := by
 have hb : conAB z 5 = true := by
  unfold conAB
  rw [decide_eq_true h0, decide_eq_true (Int.le_of_lt_add_one (show (z.1 : Int) < 255 + 1 from h1))]
  rfl
 have hc : smallC (conA z 5) = true := (conA_spec hb).2.2.2.2.2.1
 have ht : ∀ l : List Int, (l.take 8).length ≤ 1000 := fun l => by rw [List.length_take]; omega
 have hd : smallC (kk, (c.1.take 8, (c.2.1.take 8, (c.2.2.1.take 8, (c.2.2.2.1.take 8, (c.2.2.2.2.1.take 8, (c.2.2.2.2.2.1, []))))))) = true := small_of (ht _) (ht _) (ht _) (ht _) (ht _) (show ([] : List (List Int)).length ≤ 1000 by simp)
 refine (F720.start_eq 20 z a kk c).trans ((bT' ?_).trans ((bT' hb).trans ?_))
 ·by_cases h : 8 < (a.length : Int)
  ·rw [if_pos h, decide_eq_true (show (0 : Int) ≤ 8 by decide), decide_eq_true (show (8 : Int) ≤ (a.length : Int) by omega)]
   rfl
  ·rw [if_neg h, decide_eq_true (show (0 : Int) ≤ (a.length : Int) by omega), decide_eq_true (show (a.length : Int) ≤ (a.length : Int) by omega)]
   rfl
 ·have hp : (a.take ((if 8 < (a.length : Int) then 8 else (a.length : Int)).toNat)).length ≤ 8 := by
   rw [List.length_take]
   by_cases h : 8 < (a.length : Int)
   ·rw [if_pos h]; omega
   ·rw [if_neg h]; omega
  generalize a.take ((if 8 < (a.length : Int) then 8 else (a.length : Int)).toNat) = p0 at hp ⊢
  generalize conA z 5 = x at hc ⊢
  generalize ((kk, (c.1.take 8, (c.2.1.take 8, (c.2.2.1.take 8, (c.2.2.2.1.take 8, (c.2.2.2.2.1.take 8, (c.2.2.2.2.2.1, []))))))) : Con) = y at hd ⊢
  rw [show ((([x, y] : List Con).length : Nat) : Int) = 2 from rfl]
  refine (F720.round 15 _ p0 hp 0 (by decide) (by decide) x y hc hd).trans ?_
  rw [show IntKind.i64.wrap ((0 : Int) + 1) = 1 from rfl]
  refine (F720.round 14 _ p0 hp 1 (by decide) (by decide) x y hc hd).trans ?_
  rw [show IntKind.i64.wrap ((1 : Int) + 1) = 2 from rfl]
  exact (F720.l1_1_1_1_1_0_1_0_eq ..).trans (self_lt'.trans (F720.c0 20))
theorem F721.eok : EOk Go.Proofs.Tryz.prog F721.E := eo calls_nil
theorem ok721 : HandOk Go.Proofs.Tryz.prog inv 5 h_short721 := hand_un fun xs => callW_ok (own := false) (k := 1) F721.eok mixed Go.Proofs.Tryz.func5 (by kernel_rfl) (show Go.Proofs.Tryz.f5.body = some (bodyOf Go.Proofs.Tryz.f5) by kernel_rfl) (F721.sem 1 xs.1)
theorem F720.eok : EOk Go.Proofs.Tryz.prog F720.E := eo (calls_cons ok26A (calls_cons ok721 (calls_cons ok521 (calls_cons ok567 (calls_cons ok522 (calls_cons ok526 calls_nil))))))
theorem law720 (z : Small) (a : List Int) (c : Con) (h0 : 0 ≤ z.1 ∧ z.1 < 256) : CallSpec Go.Proofs.Tryz.prog inv 3 [.agg (explode SmallT z), .v (.sl (.int .i64)) a, .agg (explode ConT c)] (.v .bool true) := callW_ok (own := false) (k := 20) F720.eok mixed Go.Proofs.Tryz.func3 (by kernel_rfl) (show Go.Proofs.Tryz.f3.body = some (bodyOf Go.Proofs.Tryz.f3) by kernel_rfl) (F720.sem z a c.1 c.2 h0.1 h0.2)
end Go.Proofs.YtohdaehblenokaaGreat.Ev
