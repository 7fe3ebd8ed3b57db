/-
The functions as the evaluator runs them: printed by a program of mine, each equation by kernel_rfl.
Conditions: none.
Does a constraint hold: what the functions answer.
The constraint's places are among the values.
Conditions: none.
-/
import Derived.Test.YtdihbphkbdelbaaGreatDoorAa
import Derived.Test.YtdihbphkbdelbaaGreatDoorAt
set_option linter.unusedVariables false
set_option linter.unusedSimpArgs false
set_option maxRecDepth 100000
namespace Go.Proofs.YtdihbphkbdelbaaGreatDoor.Ev
open Go
noncomputable def F86.fn : Func := Go.Proofs.Tryz.f140
noncomputable def F86.body : Code := bodyOf F86.fn
noncomputable def F86.E : Env := ⟨tt, [], [(1, [1, 2, 3]), (2, [1, 2, 3, 7]), (3, [1, 2, 3, 7, 8]), (4, [1, 2, 3, 7, 8]), (5, [1, 2, 3, 7, 8]), (6, [1, 2, 3, 7, 8, 9]), (7, [1, 2, 3, 7, 8, 38]), (8, [7])], [(0, [7]), (1, [1, 2, 3, 7, 8])], some [6], inv, []⟩
noncomputable def F86.K0 : Conts := { nrm := endW F86.E false F86.fn.results.toList, ret := endW F86.E false F86.fn.results.toList, ex := [] }
noncomputable def F86.kt (k : Nat) (q : List Nat) : Conts := contAt F86.E k F86.body F86.K0 q
noncomputable def F86.l1_1_0_1_0 (n : Nat) (K : Conts) (p0 : List Int) (p1 p2 p3 p4 : Int) (p5 p6 p7 p8 p9 : List Int) (p10 : Int) (p11 : List (List Int)) : Option AV := loopF F86.E n (inLoop (subC [1,1,0,1,0] F86.body)) K ⟨slots 47 [(1, .v (.sl (.int .i64)) p0), (2, .v (.int .i64) p1), (3, .pb 0 0), (7, .v (.int .i64) p2), (8, .v (.int .i64) p3)], [.box (bC p4 p5 p6 p7 p8 p9 p10 p11)]⟩
theorem F86.start_eq (k : Nat) (a0 : Con) (a1 : List Int) (a2 : Int) : callW F86.E false F86.fn k [.agg (bC a0.1 a0.2.1 a0.2.2.1 a0.2.2.2.1 a0.2.2.2.2.1 a0.2.2.2.2.2.1 a0.2.2.2.2.2.2.1 a0.2.2.2.2.2.2.2), .v (.sl (.int .i64)) a1, .v (.int .i64) a2] =
 F86.l1_1_0_1_0 k (F86.kt k [1,1,0,1,0]) a1 a2 0 0 a0.1 a0.2.1 a0.2.2.1 a0.2.2.2.1 a0.2.2.2.2.1 a0.2.2.2.2.2.1 a0.2.2.2.2.2.2.1 a0.2.2.2.2.2.2.2 := by kernel_rfl
theorem F86.l1_1_0_1_0_eq (n : Nat) (K : Conts) (p0 : List Int) (p1 p2 p3 p4 : Int) (p5 p6 p7 p8 p9 : List Int) (p10 : Int) (p11 : List (List Int)) : F86.l1_1_0_1_0 (n + 1) K p0 p1 p2 p3 p4 p5 p6 p7 p8 p9 p10 p11 =
 bif decide (p3 < (p5.length : Int)) then
 bif decide (0 ≤ p3) && decide (p3 < p5.length) then
 bif decide (0 ≤ (p5.getD p3.toNat (0 : Int))) && decide ((p5.getD p3.toNat (0 : Int)) < p0.length) then
 bif decide ((p0.getD ((p5.getD p3.toNat (0 : Int)).toNat) (0 : Int)) ≤ p1) then
 bif decide (0 ≤ p3) && decide (p3 < p7.length) then
 bif decide ((IntKind.i64.wrap (p1 - (p0.getD ((p5.getD p3.toNat (0 : Int)).toNat) (0 : Int)))) < (p7.getD p3.toNat (0 : Int))) then
 bif decide (0 ≤ p3) && decide (p3 < p8.length) then
 F86.l1_1_0_1_0 n K p0 p1 (IntKind.i64.wrap (p2 + (p8.getD p3.toNat (0 : Int)))) (IntKind.i64.wrap (p3 + 1)) p4 p5 p6 p7 p8 p9 p10 p11
 else
 none
 else
 F86.l1_1_0_1_0 n K p0 p1 p2 (IntKind.i64.wrap (p3 + 1)) p4 p5 p6 p7 p8 p9 p10 p11
 else
 none
 else
 F86.l1_1_0_1_0 n K p0 p1 p2 (IntKind.i64.wrap (p3 + 1)) p4 p5 p6 p7 p8 p9 p10 p11
 else
 none
 else
 none
 else
 exitK K 0 ⟨slots 47 [(7, .v (.int .i64) p2)], []⟩ := by kernel_rfl
theorem F86.c0 (k : Nat) (p0 : Int) : exitK (F86.kt k [1,1,0,1,0]) 0 ⟨slots 47 [(7, .v (.int .i64) p0)], []⟩ =
 some (.v (.int .i64) p0) := by kernel_rfl
noncomputable def F60.fn : Func := Go.Proofs.Tryz.f84
noncomputable def F60.body : Code := bodyOf F60.fn
noncomputable def F60.E : Env := ⟨tt, [(140, h_runsC)], [(1, [1, 2]), (2, [1, 2, 5]), (3, [1, 2, 5]), (4, [1, 2, 5]), (5, [1, 2, 5, 6]), (6, [1, 2, 5, 28]), (7, [])], [(0, []), (1, [1, 2, 5])], some [4], inv, []⟩
noncomputable def F60.K0 : Conts := { nrm := endW F60.E false F60.fn.results.toList, ret := endW F60.E false F60.fn.results.toList, ex := [] }
noncomputable def F60.kt (k : Nat) (q : List Nat) : Conts := contAt F60.E k F60.body F60.K0 q
noncomputable def F60.l1_0_1_0 (n : Nat) (K : Conts) (p0 : List Int) (p1 p2 : Int) (p3 p4 p5 p6 p7 : List Int) (p8 : Int) (p9 : List (List Int)) : Option AV := loopF F60.E n (inLoop (subC [1,0,1,0] F60.body)) K ⟨slots 29 [(1, .v (.sl (.int .i64)) p0), (2, .pb 0 0), (5, .v (.int .i64) p1)], [.box (bC p2 p3 p4 p5 p6 p7 p8 p9)]⟩
theorem F60.start_eq (k : Nat) (a0 : Con) (a1 : List Int) : callW F60.E false F60.fn k [.agg (bC a0.1 a0.2.1 a0.2.2.1 a0.2.2.2.1 a0.2.2.2.2.1 a0.2.2.2.2.2.1 a0.2.2.2.2.2.2.1 a0.2.2.2.2.2.2.2), .v (.sl (.int .i64)) a1] =
 F60.l1_0_1_0 k (F60.kt k [1,0,1,0]) a1 0 a0.1 a0.2.1 a0.2.2.1 a0.2.2.2.1 a0.2.2.2.2.1 a0.2.2.2.2.2.1 a0.2.2.2.2.2.2.1 a0.2.2.2.2.2.2.2 := by kernel_rfl
theorem F60.l1_0_1_0_eq (n : Nat) (K : Conts) (p0 : List Int) (p1 p2 : Int) (p3 p4 p5 p6 p7 : List Int) (p8 : Int) (p9 : List (List Int)) : F60.l1_0_1_0 (n + 1) K p0 p1 p2 p3 p4 p5 p6 p7 p8 p9 =
 bif decide (p1 < (p3.length : Int)) then
 bif decide (0 ≤ p1) && decide (p1 < p3.length) then
 bif decide (0 ≤ (p3.getD p1.toNat (0 : Int))) && decide ((p3.getD p1.toNat (0 : Int)) < p0.length) then
 bif cumHB (p2, (p3, (p4, (p5, (p6, (p7, (p8, p9))))))) p0 && tM (p0.getD ((p3.getD p1.toNat (0 : Int)).toNat) (0 : Int)) then
 bif decide ((runsC (p2, (p3, (p4, (p5, (p6, (p7, (p8, p9))))))) p0 (p0.getD ((p3.getD p1.toNat (0 : Int)).toNat) (0 : Int))) > p8) then
 K.ret ⟨slots 29 [(4, .v .bool false)], []⟩
 else
 F60.l1_0_1_0 n K p0 (IntKind.i64.wrap (p1 + 1)) p2 p3 p4 p5 p6 p7 p8 p9
 else
 none
 else
 none
 else
 none
 else
 exitK K 0 ⟨slots 29 [], []⟩ := by kernel_rfl
theorem F60.c0 (k : Nat) : (F60.kt k [1,0,1,0]).ret ⟨slots 29 [(4, .v .bool false)], []⟩ =
 some (.v .bool false) := by kernel_rfl
theorem F60.c1 (k : Nat) : exitK (F60.kt k [1,0,1,0]) 0 ⟨slots 29 [], []⟩ =
 some (.v .bool true) := by kernel_rfl
noncomputable def F28k19.fn : Func := Go.Proofs.Tryz.f39
noncomputable def F28k19.E : Env := ⟨tt, [(84, h_cumHC)], [(1, [1, 2]), (2, [1, 2, 9]), (3, [1, 2]), (4, [1, 2, 15]), (5, [1, 2]), (6, [1, 2, 21]), (7, [1, 2]), (8, [1, 2, 26]), (9, [1, 2, 26, 27]), (10, [1, 2, 5]), (11, [1, 2, 5]), (12, [1, 2, 5]), (13, [1, 2, 5, 6]), (14, [1, 2, 5, 6]), (15, [1, 2, 5, 6]), (16, [1, 2, 5, 6, 57]), (17, []), (19, [1, 2, 26, 58]), (21, [1, 2, 26, 63]), (23, [1, 2, 26, 68]), (25, [1, 2, 73]), (26, [1, 2])], [(0, [1, 2]), (1, []), (2, [1, 2, 5]), (3, [1, 2, 5]), (4, [1, 2, 5, 6])], some [4], inv, []⟩
theorem F28k19.start_eq (k : Nat) (c : (List Int) × ((List Int) × ((List Int) × ((List Int) × ((List Int) × (Int × (List (List Int)))))))) (a1 : List Int) : callW F28k19.E false F28k19.fn k [.agg (bC (19 : Int) c.1 c.2.1 c.2.2.1 c.2.2.2.1 c.2.2.2.2.1 c.2.2.2.2.2.1 c.2.2.2.2.2.2), .v (.sl (.int .i64)) a1] =
 bif cumHB (19, c) a1 then some (.v .bool (cumHC (19, c) a1)) else none := by kernel_rfl
end Go.Proofs.YtdihbphkbdelbaaGreatDoor.Ev
set_option linter.unusedVariables false
set_option linter.unusedSimpArgs false
set_option maxRecDepth 100000
namespace Go.Proofs.YtdihbphkbdelbaaGreatDoor.Ev
open Go
theorem bT' {α : Type} {b : Bool} {x y : α} (h : b = true) : (bif b then x else y) = x := by rw [h]; rfl
theorem bF' {α : Type} {b : Bool} {x y : α} (h : b = false) : (bif b then x else y) = y := by rw [h]; rfl
theorem self_lt' {α : Type} {a : Int} {x y : α} : (bif decide (a < a) then x else y) = y := bF' (decide_eq_false (by omega))
abbrev Rest18 := List Int × List Int × List Int × List Int × List Int × Int × List (List Int)
structure HoldC (c : Con) (a : List Int) : Prop where
  le : c.2.1.length ≤ 1000
  cl : c.2.2.2.1.length = c.2.1.length
  dl : c.2.2.2.2.1.length = c.2.1.length
  inn : ∀ x ∈ c.2.1, 0 ≤ x ∧ x < a.length
  cp : ∀ k ∈ c.2.2.2.1, 0 ≤ k ∧ k ≤ 1000000
  dp : ∀ k ∈ c.2.2.2.2.1, 0 ≤ k ∧ k ≤ 1000000
  am : ∀ v ∈ a, -1000000 ≤ v ∧ v ≤ 1000000
theorem hold_iff {c : Con} {a : List Int} : cumHB c a = true ↔ c.1 = 19 ∧ HoldC c a := by
 unfold cumHB inB
 simp only [Bool.and_eq_true, decide_eq_true_eq, List.all_eq_true, posIff, Nat.ble_eq, millIff]
 constructor
 ·rintro ⟨⟨⟨⟨⟨⟨⟨h0, h1⟩, h2⟩, h3⟩, h4⟩, h5⟩, h6⟩, h7⟩
  exact ⟨h0, h1, h2, h3, h4, h5, h6, h7⟩
 ·rintro ⟨h0, h1, h2, h3, h4, h5, h6, h7⟩
  exact ⟨⟨⟨⟨⟨⟨⟨h0, h1⟩, h2⟩, h3⟩, h4⟩, h5⟩, h6⟩, h7⟩
def runsT (c : Con) (a : List Int) (t : Int) (k : Nat) : Int := bif decide (a.getD (c.2.1.getD k 0).toNat 0 ≤ t) && decide (t - a.getD (c.2.1.getD k 0).toNat 0 < c.2.2.2.1.getD k 0) then c.2.2.2.2.1.getD k 0 else 0
theorem goN_runs (c : Con) (a : List Int) (t : Int) : ∀ (n k : Nat) (acc : Int), goN (fun k acc => acc + runsT c a t k) n k acc = acc + runsI c a t n k
 | 0, _, acc => by simp [goN, runsI]
 | n + 1, k, acc => by
  show goN _ n (k + 1) (acc + runsT c a t k) = _
  rw [goN_runs c a t n (k + 1)]
  show acc + runsT c a t k + runsI c a t n (k + 1) = acc + (runsT c a t k + runsI c a t n (k + 1))
  omega
theorem F86.sem (c : Con) (a : List Int) (t : Int) (h : (cumHB c a && tM t) = true) : callW F86.E false F86.fn 1002 [.agg (explode ConT c), .v (.sl (.int .i64)) a, .v (.int .i64) t] = some (.v (.int .i64) (runsC c a t)) := by
 rw [Bool.and_eq_true, hold_iff] at h
 obtain ⟨⟨hk, hc⟩, ht⟩ := h
 have ht : -10000000 ≤ t ∧ t ≤ 10000000 := by unfold tM at ht; simpa using ht
 have hle := hc.le
 have hcl := hc.cl
 have hdl := hc.dl
 refine (F86.start_eq 1002 c a t).trans ?_
 have lp := idx_loop (fun n k acc => F86.l1_1_0_1_0 n (F86.kt 1002 [1, 1, 0, 1, 0]) a t acc k c.1 c.2.1 c.2.2.1 c.2.2.2.1 c.2.2.2.2.1 c.2.2.2.2.2.1 c.2.2.2.2.2.2.1 c.2.2.2.2.2.2.2) (fun acc => some (.v (.int .i64) acc)) c.2.1.length (fun k acc => acc + runsT c a t k) (fun k acc => 0 ≤ acc ∧ acc ≤ 1000000 * (k : Int)) 0
  (fun n k acc _ hk ha => by
   have bd := hc.dp _ (gD_mem (show k < c.2.2.2.2.1.length by omega) 0)
   have bi := hc.inn _ (gD_mem hk 0)
   have ba := hc.am _ (gD_mem (show (c.2.1.getD k 0).toNat < a.length by omega) 0)
   have br : 0 ≤ runsT c a t k ∧ runsT c a t k ≤ 1000000 := by
    unfold runsT
    cases decide (a.getD (c.2.1.getD k 0).toNat 0 ≤ t) && decide (t - a.getD (c.2.1.getD k 0).toNat 0 < c.2.2.2.1.getD k 0) with
    | true => exact bd
    | false => exact ⟨Int.le_refl _, (by decide : (0 : Int) ≤ 1000000)⟩
   refine ⟨⟨by omega, by omega⟩, ?_⟩
   refine (F86.l1_1_0_1_0_eq n _ a t acc (k : Int) _ _ _ _ _ _ _ _).trans ((bT' (decide_eq_true (by omega))).trans ((bT' (in_natC hk)).trans ((bT' (by
    rw [Int.toNat_natCast, decide_eq_true bi.1, decide_eq_true bi.2]; rfl)).trans ?_)))
   rw [wrap_succ (by omega), Int.toNat_natCast]
   have w1 : IntKind.i64.wrap (t - a.getD (c.2.1.getD k 0).toNat 0) = t - a.getD (c.2.1.getD k 0).toNat 0 := wrap_ok (by omega) (by omega)
   have e0 : acc + 0 = acc := by omega
   rw [w1]
   unfold runsT
   cases decide (a.getD (c.2.1.getD k 0).toNat 0 ≤ t) with
   | false => simp only [Bool.false_and, cond_false, e0]
   | true =>
    simp only [Bool.true_and, cond_true]
    refine (bT' (in_natC (by omega))).trans ?_
    cases decide (t - a.getD (c.2.1.getD k 0).toNat 0 < c.2.2.2.1.getD k 0) with
    | false => simp only [cond_false, e0]
    | true =>
     simp only [cond_true]
     refine (bT' (in_natC (by omega))).trans ?_
     rw [wrap_ok (by omega) (by omega)])
  (fun n acc _ _ => (F86.l1_1_0_1_0_eq n _ a t acc _ _ _ _ _ _ _ _ _).trans (self_lt'.trans (F86.c0 1002 acc)))
  c.2.1.length 0 1002 0 (by omega) (by omega) ⟨by omega, by omega⟩
 refine lp.trans ?_
 rw [goN_runs]
 exact congrArg (fun (x : Int) => some (AV.v (.int .i64) x)) (Int.zero_add (runsC c a t))
theorem F60.sem (c : Con) (a : List Int) (h : cumHB c a = true) : callW F60.E false F60.fn 1002 [.agg (explode ConT c), .v (.sl (.int .i64)) a] = some (.v .bool (cumHC c a)) := by
 obtain ⟨hk, hc⟩ := hold_iff.mp h
 have hle := hc.le
 refine (F60.start_eq 1002 c a).trans ?_
 refine (search_loopN (fun n i => F60.l1_0_1_0 n (F60.kt 1002 [1, 0, 1, 0]) a i c.1 c.2.1 c.2.2.1 c.2.2.2.1 c.2.2.2.2.1 c.2.2.2.2.2.1 c.2.2.2.2.2.2.1 c.2.2.2.2.2.2.2) c.2.1 0 (fun x => decide (runsC c a (a.getD x.toNat 0) > c.2.2.2.2.2.2.1)) (fun _ => some (.v .bool false)) (some (.v .bool true)) 0 (fun n i _ h0 h1 => ?_) (fun n i hi => ?_) 1002 0 (by omega) (by omega) (by omega)).trans ?_
 ·have hin : i.toNat < c.2.1.length := by omega
  have bi := hc.inn _ (gD_mem hin 0)
  have ba := hc.am _ (gD_mem (show (c.2.1.getD i.toNat 0).toNat < a.length by omega) 0)
  refine (F60.l1_0_1_0_eq n _ a i _ _ _ _ _ _ _ _).trans ((bT' (decide_eq_true h1)).trans ((bT' (by rw [decide_eq_true h0, decide_eq_true h1]; rfl)).trans ((bT' (by rw [decide_eq_true bi.1, decide_eq_true bi.2]; rfl)).trans ((bT' ?_).trans ?_))))
  ·show (cumHB c a && tM (a.getD (c.2.1.getD i.toNat 0).toNat 0)) = true
   rw [h, Bool.true_and]
   unfold tM
   rw [decide_eq_true (by omega), decide_eq_true (by omega)]; rfl
  ·rw [F60.c0, wrap_ok (x := i + 1) (by omega) (by omega)]
 ·subst hi
  exact (F60.l1_0_1_0_eq n _ a _ _ _ _ _ _ _ _ _).trans (self_lt'.trans (F60.c1 1002))
 ·show (bif (c.2.1.drop (Int.toNat 0)).any _ then _ else _) = _
  unfold cumHC
  show (bif c.2.1.any _ then _ else _) = _
  cases c.2.1.any fun x => decide (runsC c a (a.getD x.toNat 0) > c.2.2.2.2.2.2.1) <;> rfl
theorem F28k19.sem (k : Nat) (c : Rest18) (a : List Int) (h : holdsB (19, c) a = true) : callW F28k19.E false F28k19.fn k [.agg (explode ConT ((19 : Int), c)), .v (.sl (.int .i64)) a] = some (.v .bool (holdsC (19, c) a)) :=
 (F28k19.start_eq k c a).trans (bT' h)
end Go.Proofs.YtdihbphkbdelbaaGreatDoor.Ev
