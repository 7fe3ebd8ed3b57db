/-
Seat 'a': constraints that may not be are filtered to nothing: ElemRefuses, ReifRefuses: what the laws' functions answer.
Conditions: none.
-/
import Derived.Test.YtnojoaghcbljfaaGreatDoorCg
set_option linter.unusedVariables false
set_option linter.unusedSimpArgs false
set_option maxRecDepth 100000
namespace Go.Proofs.YtnojoaghcbljfaaGreatDoor.Ev
open Go Go.RowKit
theorem u8_less {k : Int} (h1 : 1 ≤ k) (h2 : k ≤ 23) : IntKind.u8.wrap (IntKind.i64.wrap (k - 1)) = k - 1 := by
 rw [wrap_ok (by omega) (by omega)]
 have e : ∀ x : Int, IntKind.u8.wrap x = x % 256 := fun x => by simp [IntKind.wrap, IntKind.signed, IntKind.bits]
 rw [e]
 omega
theorem conAB_of {k : Int} {z : ZRest} (h1 : 1 ≤ k) (h2 : k ≤ 23) : conAB (k - 1, z) 5 = true := by
 unfold conAB
 simp only [Bool.and_eq_true, decide_eq_true_eq]
 refine ⟨⟨?_, ?_⟩, ?_⟩ <;> omega
theorem F15a.sem (z : Case) (k w : Int) (h : makeAB z k w = true) : callW F15a.E true F15a.fn 1001 [.agg (explode CaseT z), .v (.int .i64) k, .v (.int .i64) w] =
  some (.tup [.agg (explode ConT (makeAC z k)), .nw 30 LI (makeAL z k w)]) := by
 unfold makeAB at h
 simp only [Bool.and_eq_true, decide_eq_true_eq] at h
 obtain ⟨⟨⟨hk1, hk2⟩, hw1⟩, hw2⟩ := h
 have ew : IntKind.u8.wrap (IntKind.i64.wrap (k - 1)) = k - 1 := u8_less hk1 hk2
 have hcb : conAB (k - 1, z.1.2) 5 = true := conAB_of hk1 hk2
 have st := F15a.start_eq 1001 z k w
 rw [ew, hcb] at st
 simp only [cond_true] at st
 have ec : conA (k - 1, z.1.2) 5 = makeAC z k := rfl
 rw [ec] at st
 have hl2 : (makeAC z k).2.1.length ≤ 4 ∧ (makeAC z k).2.2.1.length ≤ 4 := ⟨(conA_spec hcb).2.2.2.1, (conA_spec hcb).2.2.2.2.1⟩
 have eL : makeAL z k w = (List.range ((makeAC z k).2.1.length + (makeAC z k).2.2.1.length)).map fun i => smallL (pickL z.2 i) 6 w := rfl
 rw [eL]
 generalize makeAC z k = c at st hl2
 have hlen : (List.range (c.2.1.length + c.2.2.1.length)).length = c.2.1.length + c.2.2.1.length := List.length_range
 have := range_loop (fun n i (acc : List (List Int)) => F15a.l1_1_1_1_0_1_0 n (F15a.kt 1001 [1, 1, 1, 1, 0, 1, 0]) w i (k - 1) z.1.2.1 z.1.2.2.1 z.1.2.2.2.1 z.1.2.2.2.2.1 z.1.2.2.2.2.2 z.2 0 0 c.1 c.2.1 c.2.2.1 c.2.2.2.1 c.2.2.2.2.1 c.2.2.2.2.2.1 c.2.2.2.2.2.2.1 c.2.2.2.2.2.2.2 acc) (List.range (c.2.1.length + c.2.2.1.length)) 0 (fun i acc _ => acc ++ [smallL (pickL z.2 i.toNat) 6 w]) _ (fun i acc => acc.length ≤ i.toNat) (by
   intro n i acc hI h0 h1
   rw [hlen] at h1
   have lim : ∀ y : List Int, (acc.length + [y].length) * 24 ≤ LIM := fun y => lim24 (by simp; omega)
   refine ⟨(F15a.l1_1_1_1_0_1_0_eq n _ w i _ _ _ _ _ _ _ _ _ _ _ _ _ _ _ _ _ acc).trans ?_, by simp; omega⟩
   rw [wrap_ok (x := (c.2.1.length : Int) + (c.2.2.1.length : Int)) (by omega) (by omega), wrap_ok (x := i + 1) (by omega) (by omega)]
   have a1 : i < (c.2.1.length : Int) + (c.2.2.1.length : Int) := by omega
   have sb := smallB_ok (pick_ne z.2 i.toNat) hw1 hw2
   have ei : ((i.toNat : Nat) : Int) = i := by omega
   unfold pickL at sb ⊢
   rw [ei] at sb ⊢
   by_cases b1 : i < z.2.length
   ·have b1' : i.toNat < z.2.length := by omega
    by_cases b2 : (z.2.getD i.toNat []).length > 0
    ·have b2' : ((z.2.getD i.toNat []).length : Int) > 0 := by omega
     rw [if_pos ⟨b1', b2⟩] at sb ⊢
     simp only [a1, b1, b2', h0, sb, lim, decide_true, Bool.and_true, cond_true]
    ·have b2' : ¬ ((z.2.getD i.toNat []).length : Int) > 0 := by omega
     rw [if_neg (fun h => b2 h.2)] at sb ⊢
     simp only [a1, b1, b2', h0, sb, lim, decide_true, decide_false, Bool.and_true, cond_true, cond_false]
   ·have b1' : ¬ i.toNat < z.2.length := by omega
    rw [if_neg (fun h => b1' h.1)] at sb ⊢
    simp only [a1, b1, sb, lim, decide_true, decide_false, cond_true, cond_false]) (by
   intro n i acc hI hi
   rw [hlen] at hi
   refine (F15a.l1_1_1_1_0_1_0_eq n _ w i _ _ _ _ _ _ _ _ _ _ _ _ _ _ _ _ _ acc).trans ?_
   rw [wrap_ok (x := (c.2.1.length : Int) + (c.2.2.1.length : Int)) (by omega) (by omega)]
   have : ¬ i < (c.2.1.length : Int) + (c.2.2.1.length : Int) := by omega
   simp only [this, decide_false, cond_false]
   exact F15a.c0 _ _ _ _ _ _ _ _ _ _ _ acc) 1001 0 [] (by simp) (by omega) (by omega) (by rw [hlen]; omega)
 refine (st.trans (show _ = _ from this)).trans ?_
 rw [goFold_idx (fun i => smallL (pickL z.2 i.toNat) 6 w)]
 have e : ([] : List (List Int)) ++ ((List.range ((List.range (c.2.1.length + c.2.2.1.length)).drop (Int.toNat 0)).length).map fun (j : Nat) => smallL (pickL z.2 (0 + (j : Int)).toNat) 6 w) = (List.range (c.2.1.length + c.2.2.1.length)).map fun i => smallL (pickL z.2 i) 6 w := by
  simp
 rw [e]
 rfl
theorem F15a.eok : EOk Go.Proofs.Tryz.prog F15a.E := eo (calls_cons ok26A (calls_cons ok44 calls_nil))
theorem ok15A : HandOk Go.Proofs.Tryz.prog inv 14 h_makeA := hand_if fun xs hc => callW_ok (own := true) (k := 1001) F15a.eok mixed Go.Proofs.Tryz.func14 (by kernel_rfl) (show Go.Proofs.Tryz.f14.body = some (bodyOf Go.Proofs.Tryz.f14) by kernel_rfl) (F15a.sem xs.1 xs.2.1 xs.2.2.1 hc)
theorem makeA_dom {z : Case} {k w : Int} (hw : 1 ≤ w) : ∀ x ∈ makeAL z k w, SmallDom w x := by
 intro x hx
 unfold makeAL at hx
 obtain ⟨i, _, rfl⟩ := List.mem_map.mp hx
 exact smallL_ok (pick_ne _ _) hw
theorem makeA_len {z : Case} {k w : Int} (hk1 : 1 ≤ k) (hk2 : k ≤ 23) : 1 ≤ (makeAL z k w).length ∧ (makeAL z k w).length ≤ 8 := by
 have h := conA_spec (conAB_of (z := z.1.2) hk1 hk2)
 unfold makeAL
 rw [List.length_map, List.length_range]
 have h1 : 1 ≤ (makeAC z k).2.1.length := h.2.2.1
 have h2 : (makeAC z k).2.1.length ≤ 4 := h.2.2.2.1
 have h3 : (makeAC z k).2.2.1.length ≤ 4 := h.2.2.2.2.1
 omega
structure Refuser (lo hi : Int) (F : Con → List Dom → List Dom × Bool) : Prop where
  kind : ∀ c, fitsB c lo hi = true
  no : ∀ c d, fitsD c d lo hi = false → F c d = ([], false)
  len : ∀ c d, fitsD c d lo hi = true → (F c d).2 = true → (F c d).1.length = d.length
theorem bT {α : Type} {b : Bool} {x y : α} (h : b = true) : (bif b then x else y) = x := by rw [h]; rfl
theorem bF {α : Type} {b : Bool} {x y : α} (h : b = false) : (bif b then x else y) = y := by rw [h]; rfl
end Go.Proofs.YtnojoaghcbljfaaGreatDoor.Ev
