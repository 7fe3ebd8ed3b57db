/-
slices.Values, slices.AppendSeq, slices.Collect, slices.Sorted at []int: what these calls do.
Conditions: none.
-/
import Derived.RangeFuncBox
import Derived.RangeFuncLeaves
import Derived.RangeFuncKeeps
import Derived.Shelf.Abstract
import Derived.WalkKit
import Derived.OwnWalkIn
import Derived.TacticsInMore
import Derived.LoopNIn
import Derived.LoopIn
import Derived.Maps.AppendAt
import Derived.Sort.OwnSortedInts
import Derived.Test.YtlfdikofmfhefaaGreatDoorYx
set_option linter.unusedVariables false
set_option linter.unusedSimpArgs false
namespace Go.Proofs
open Go Go.RowKit Go.Shelf Go.Sort
attribute [local go_sem] Oper.semAt_some
def Tryz.upto (zs : List Int) (k : Nat) : List Int := (List.range k).map fun j => zs[j]?.getD 0
theorem Tryz.upto_succ (zs : List Int) (k : Nat) : Tryz.upto zs (k + 1) = Tryz.upto zs k ++ [zs[k]?.getD 0] := by unfold Tryz.upto; rw [List.range_succ, List.map_append]; rfl
theorem Tryz.upto_len (zs : List Int) (k : Nat) : (Tryz.upto zs k).length = k := by simp [Tryz.upto]
theorem Tryz.upto_take (zs : List Int) {k : Nat} (hk : k ≤ zs.length) : Tryz.upto zs k = zs.take k := by
 apply List.ext_getElem
 ·simp [Tryz.upto, hk]
 ·intro i h1 h2
  have : i < zs.length := by simp [Tryz.upto] at h1; omega
  simp [Tryz.upto, this]
theorem Tryz.values1_in (F : Fence) (n : Nat) (h7 : F.fn 144) (hro : F.round = none) (hn : 1 ≤ n) (l n₀ : Nat) (bx ad : Addr) (len cap : Nat) (zs : List Int) (hreach : len * 8 ≤ 140737488351232) (hb : ad.block < n₀) (J Jx : List Int → World → Prop)
  (hY : ∀ pre x W, J pre W → pre.length < len → YieldAt F (n - 1) Tryz.prog l #[.int .i64 x] W fun e W' =>
   (e = .returned (.bool true) ∧ J (pre ++ [x]) W' ∧ Below n₀ W W') ∨ (e = .returned (.bool false) ∧ Jx (pre ++ [x]) W'))
  (W : World) (hBs : W.cell? bx = some (.slice (some ad) len cap)) (hc : ∀ j, j < len → W.cell? (ad.add j) = some (.int .i64 (zs[j]?.getD 0))) (h0 : J [] W) :
  CallsIn F n Tryz.prog 144 #[.func (.yield l) #[] #[], .pointer (some bx)] W fun e W' => (∃ v, e = .returned v) ∧
   ((∃ ys, ys = Tryz.upto zs len ∧ J ys W') ∨ (∃ pre, (∃ k, k ≤ len ∧ pre = Tryz.upto zs k) ∧ Jx pre W')) := by
 have ea : ∀ k, (ad.add k).block = ad.block := fun k => by unfold Addr.add; split <;> rfl
 refine callsIn_of_wp Tryz.func144 rfl h7 ?_ hro
 simp only [Tryz.ntmps144, List.size_toArray, List.length_cons, List.length_nil, Nat.reduceAdd, Nat.reduceSub, Array.replicate_succ, Array.replicate_zero, List.push_toArray, List.append_toArray, List.nil_append, List.cons_append]
 gi_wp2
 gi_loopw [7] (fun i wr => ∃ k : Nat, k ≤ len ∧ i = .int .i64 k ∧ J (Tryz.upto zs k) wr ∧ Below n₀ W wr)
  (fun i _ => len - (intOf i).toNat)
 case atStart => exact ⟨0, Nat.zero_le _, rfl, h0, Below.refl _ _⟩
 case round =>
  obtain ⟨k, hk, rfl, hJs, hnx⟩ := hrel
  have hcx : k < len → wr.cell? (ad.add k) = some (.int .i64 (zs[k]?.getD 0)) := fun h => (hnx.cell (p := ad.add k) (by rw [ea]; exact hb)).trans (hc k h)
  by_cases hlt : k < len
  ·obtain ⟨fn, tmps, assign, body, hy, hR⟩ := hY _ (zs[k]?.getD 0) wr hJs (by rw [Tryz.upto_len]; exact hlt)
   have hcx' := hcx hlt
   gi_wp2
   refine hR.mono ?_
   rintro e W3 (⟨rfl, hJ3, hk3⟩ | ⟨rfl, hJx3⟩)
   ·gi_wp2
    go_roundw
    case rel => exact ⟨k + 1, by omega, by simp, by rw [Tryz.upto_succ]; exact hJ3, hnx.trans hk3⟩
    case measure => simp [intOf]; omega
   ·gi_wp2
    refine bodyPost_ret (results_none rfl _ _ _) rfl ?_
    exact ⟨⟨_, rfl⟩, .inr ⟨_, ⟨k + 1, by omega, (Tryz.upto_succ _ _).symm⟩, hJx3⟩⟩
  ·obtain rfl : k = len := by omega
   gi_wp2
   go_end0
   exact ⟨⟨_, rfl⟩, .inl ⟨_, rfl, hJs⟩⟩
def Tryz.Ints (n₀ : Nat) (W : World) (sv : Value) (zs : List Int) : Prop :=
 (sv = .slice none 0 0 ∧ zs = []) ∨ ∃ ad cap, sv = .slice (some ad) zs.length cap ∧ ad.block < n₀ ∧ ∀ j, j < zs.length → W.cell? (ad.add j) = some (.int .i64 (zs[j]?.getD 0))
theorem Tryz.Ints.below {n₀ : Nat} {A B : World} (h : Below n₀ A B) {sv : Value} {zs : List Int} : Tryz.Ints n₀ A sv zs → Tryz.Ints n₀ B sv zs
 | .inl e => .inl e
 | .inr ⟨ad, cap, e, hb, hc⟩ => .inr ⟨ad, cap, e, hb, fun j hj => (h.cell (p := ad.add j) (by unfold Addr.add; split <;> exact hb)).trans (hc j hj)⟩
theorem Tryz.values1_nil_in (F : Fence) (n : Nat) (h7 : F.fn 144) (hro : F.round = none) (l : Nat) (bx : Addr) (J : List Int → World → Prop) (W : World) (hBs : W.cell? bx = some (.slice none 0 0)) (h0 : J [] W) :
  CallsIn F n Tryz.prog 144 #[.func (.yield l) #[] #[], .pointer (some bx)] W fun e W' => (∃ v, e = .returned v) ∧ J [] W' := by
 refine callsIn_of_wp Tryz.func144 rfl h7 ?_ hro
 simp only [Tryz.ntmps144, List.size_toArray, List.length_cons, List.length_nil, Nat.reduceAdd, Nat.reduceSub, Array.replicate_succ, Array.replicate_zero, List.push_toArray, List.append_toArray, List.nil_append, List.cons_append]
 gi_wp2
 gi_loopw [7] (fun i wr => i = .int .i64 0 ∧ J [] wr) (fun _ _ => 0)
 case atStart => exact ⟨rfl, h0⟩
 case round =>
  obtain ⟨rfl, hJs⟩ := hrel
  gi_wp2
  go_end0
  exact ⟨⟨_, rfl⟩, hJs⟩
set_option maxHeartbeats 1000000 in
theorem Tryz.values_in (F : Fence) (n : Nat) (h5 : F.fn 109) (hro : F.round = none) (a : Option Addr) (len cap : Nat) (w : World) :
  CallsIn F n Tryz.prog 109 #[.slice a len cap] w fun e w' => e = .returned (.func (.func 144) #[] #[.pointer (some ⟨w.heap.size, 0, none⟩)]) ∧ w' = w.alloc (.cells #[.slice a len cap] 29) := by
 refine callsIn_of_wp Tryz.func109 rfl h5 ?_ hro
 simp only [Tryz.ntmps109, List.size_toArray, List.length_cons, List.length_nil, Nat.reduceAdd, Nat.reduceSub, Array.replicate_succ, Array.replicate_zero, List.push_toArray, List.append_toArray, List.nil_append, List.cons_append]
 gi_wp2
 go_ret
 exact ⟨rfl, rfl⟩
theorem Tryz.values_stops (F : Fence) (n : Nat) (h7 : F.fn 144) (hro : F.round = none) (hn : 1 ≤ n) (bx : Addr) (n₀ : Nat) (sv : Value) (zs : List Int) (hreach : zs.length * 8 ≤ 140737488351232) (w : World) (hBs : bx.block < w.heap.size) (hn₀ : n₀ ≤ w.heap.size)
  (hc : w.cell? bx = some sv) (hI : Tryz.Ints n₀ w sv zs) :
  SeqStopsK F n Tryz.prog 144 #[.pointer (some bx)] (fun x : Int => #[Value.int .i64 x]) (Below n₀) (fun ys => ys = zs) (fun pre => pre <+: zs) zs.length w := fun l J Jx W hW _ _ hY h0 => by
 have hc' := (hW.cell (p := bx) hBs).trans hc
 rcases hI.below (hW.mono hn₀) with ⟨rfl, rfl⟩ | ⟨ad, cap, rfl, hb, hcs⟩
 ·exact (Tryz.values1_nil_in F n h7 hro l bx J W hc' h0).mono fun e W' ⟨he, hj⟩ => ⟨he, .inl ⟨_, rfl, hj⟩⟩
 ·refine (Tryz.values1_in F n h7 hro hn l n₀ bx ad zs.length cap zs hreach hb J Jx hY W hc' hcs h0).mono ?_
  rintro e W' ⟨he, ⟨ys, rfl, hj⟩ | ⟨pre, ⟨k, hk, rfl⟩, hj⟩⟩
  ·exact ⟨he, .inl ⟨_, (Tryz.upto_take zs (Nat.le_refl _)).trans List.take_length, hj⟩⟩
  ·exact ⟨he, .inr ⟨_, by rw [Tryz.upto_take zs hk]; exact List.take_prefix _ _, hj⟩⟩
theorem Tryz.info3 : (Tryz.prog.info? 3).map (fun i => (i.zero, i.size, i.bytes)) = some (some (.int .i64 0), 1, 8) := by kernel_rfl
theorem Tryz.append_in (F : Fence) (n : Nat) (hA : F.fn 161) (h7 : F.fn 144) (hro : F.round = none) (hn : 3 ≤ n) (bx : Addr) (sv : Value) (zs : List Int) (hlen : zs.length ≤ maxLen) (hreach : zs.length * 8 ≤ 140737488351232) (w : World) (hBs : bx.block < w.heap.size)
  (hc : w.cell? bx = some sv) (hI : Tryz.Ints w.heap.size w sv zs) :
  CallsIn F n Tryz.prog 161 #[.slice none 0 0, .func (.func 144) #[] #[.pointer (some bx)]] w fun e W' => ∃ v, e = .returned v ∧ W'.ownsRow w.heap.size 3 1 v zs.length (zs.map (Value.int .i64)) ∧ (v = .slice none 0 0 ↔ zs = []) ∧ Below w.heap.size w W' := by
 have h1 : 1 ≤ n := by omega
 obtain ⟨i0, hi, hz0, hz1, hz2⟩ := info_parts Tryz.info3
 refine callsIn_of_wp_marks Tryz.func161 rfl hA ?_ hro
 simp only [Tryz.ntmps161, List.size_toArray, List.length_cons, List.length_nil, Nat.reduceAdd, Nat.reduceSub, Array.replicate_succ, Array.replicate_zero, List.push_toArray, List.append_toArray, List.nil_append, List.cons_append]
 gi_wp2
 have bO := Boxed.new w 29 (.slice none 0 0)
 have hB0 : Below w.heap.size w (w.alloc (.cells #[.slice none 0 0] 29)) := (Below.refl _ w).alloc (Nat.le_refl _) _
 refine wpIn_rangeFunc_ownG hro h1 (gf := 144) (lb := #[.pointer (some bx)]) rfl h7 (enters_of Tryz.func144 (by kernel_rfl) rfl)
  (Tryz.values_stops F (n - 1) h7 hro (by omega) bx w.heap.size sv zs hreach _ (by simp; omega) (by simp) ((hB0.cell (p := bx) hBs).trans hc) (hI.below hB0)) belowK_t (belowK_b (by simp)) (Below.refl _ _) (fun _ => rfl)
  (fun pre W => (∃ v, Boxed W w.heap.size 29 v ∧ W.ownsRow w.heap.size 3 1 v pre.length (pre.map (Value.int .i64)) ∧ (v = .slice none 0 0 ↔ pre = [])) ∧ Below w.heap.size w W)
  (fun _ _ _ => False)
  (OwnFrom.and (Own.from (holdsRow_own w.heap.size w.heap.size 29 3 1 (fun pre : List Int => pre.length) (fun pre => pre.map (Value.int .i64)) (fun pre v => v = .slice none 0 0 ↔ pre = [])) _) (ownFrom_below (Nat.le_refl _) (by simp)))
  (fun _ _ _ _ _ hs _ _ => hs)
  ⟨⟨_, bO, World.ownsRow_nil _ _ _ _, by simp⟩, hB0⟩
  (fun x => { tmps := #[.slice none 0 0, .func (.func 144) #[] #[.pointer (some bx)], .pointer (some ⟨w.heap.size, 0, none⟩), undef, .slice none 0 0, .int .i64 x, .func (.func 144) #[] #[.pointer (some bx)], .int .i64 x, undef, undef, undef, undef, undef], defers := [] }) ?assign ?body ?done ?stop
 case assign =>
  intro l x W K hK
  gi_wp2
  exact hK
 case body =>
  rintro l pre x W ⟨⟨v, hv, hrow, hnil⟩, hB⟩ hlt
  have hc := hv.cell
  gi_wp2_with (gi_at_builtin; refine wpListIn_append_own _ rfl _ _ 29 rfl w.heap.size 3 i0 (.int .i64 0) 1 8 Tryz.underlying29 hi hz0 hz1 hz2 rfl (by decide) _ _ _ rfl (hrow.alloc _) ⟨W.heap.size, 0, none⟩ 1 1 [.int .i64 x] rfl rfl (cell_one_new _ _ _) (by simp [Value.oneCell']) (by omega) (by omega) (by have := hB.size; simp; omega) ?_; intro v' w1 hown' hgrow _; obtain ⟨g', cap', rfl⟩ := ownsRow_succ hown'; obtain ⟨hv1, hv2, hr2, hk2, hb2⟩ := hv.appended (by decide) hrow hB.size (Nat.le_refl _) hown' hgrow; have hc1 := hv1.cell; have hf1 := hv1.frozen)
  exact ⟨hk2.from _, hb2, ⟨_, hv2, by simpa using hr2, by simp⟩, hB.trans hb2⟩
 case done =>
  rintro D ys W hD rfl ⟨⟨v, hv, hrow, hnil⟩, hB⟩ hK
  have hc := hv.cell
  gi_wp2
  refine ⟨by simp, .inl ⟨_, _, rfl, run_takeDeferred hK, ?_⟩⟩
  exact ⟨_, results_tmp rfl _ _ _, v, rfl, ownsRow_putObj hrow _ hK rfl, hnil, hB.trans (belowK_b (w := w) (Nat.le_refl _) W D _ _ (by simp at hD; omega) hK rfl rfl)⟩
 case stop =>
  rintro D c pre W _ _ h _
  exact h.elim
set_option maxHeartbeats 1000000 in
theorem Tryz.collect_in (F : Fence) (n : Nat) (hC : F.fn 143) (hA : F.fn 161) (h7 : F.fn 144) (hro : F.round = none) (hn : 4 ≤ n) (bx : Addr) (sv : Value) (zs : List Int) (hlen : zs.length ≤ maxLen) (hreach : zs.length * 8 ≤ 140737488351232) (w : World) (hBs : bx.block < w.heap.size)
  (hc : w.cell? bx = some sv) (hI : Tryz.Ints w.heap.size w sv zs) :
  CallsIn F n Tryz.prog 143 #[.func (.func 144) #[] #[.pointer (some bx)]] w fun e W' => ∃ v, e = .returned v ∧ W'.ownsRow w.heap.size 3 1 v zs.length (zs.map (Value.int .i64)) ∧ (v = .slice none 0 0 ↔ zs = []) ∧ Below w.heap.size w W' := by
 have h1 : 1 ≤ n := by omega
 refine callsIn_of_wp Tryz.func143 rfl hC ?_ hro
 simp only [Tryz.ntmps143, List.size_toArray, List.length_cons, List.length_nil, Nat.reduceAdd, Nat.reduceSub, Array.replicate_succ, Array.replicate_zero, List.push_toArray, List.append_toArray, List.nil_append, List.cons_append]
 gi_wp2_with (gi_at_call 161; refine (Tryz.append_in F (n - 1) hA h7 hro (by omega) bx sv zs hlen hreach _ hBs hc hI).mono ?_; rintro e w' ⟨v, rfl, hrow, hnil, hb⟩)
 go_ret
 exact ⟨v, rfl, hrow, hnil, hb⟩
theorem Tryz.sorted_calls (bx : Addr) (sv : Value) (zs : List Int) (hlen : zs.length ≤ 1000000) (hne : zs ≠ []) (w : World) (hBs : bx.block < w.heap.size) (hc : w.cell? bx = some sv) (hI : Tryz.Ints w.heap.size w sv zs) :
  Calls Tryz.prog 108 #[.func (.func 144) #[] #[.pointer (some bx)]] w fun e w' => ∃ v, e = .returned v ∧ w'.ownsRow w.heap.size 3 1 v zs.length ((zs.mergeSort fun x y => decide (x ≤ y)).map (Value.int .i64)) ∧ Below w.heap.size w w' := by
 refine (callsIn_wide (n := 9)).1 ?_
 have hC : Fence.wide.fn 143 := trivial
 have hO : Fence.wide.fn 32 := trivial
 refine callsIn_of_wp Tryz.func108 rfl trivial ?_ rfl
 simp only [Tryz.ntmps108, List.size_toArray, List.length_cons, List.length_nil, Nat.reduceAdd, Nat.reduceSub, Array.replicate_succ, Array.replicate_zero, List.push_toArray, List.append_toArray, List.nil_append, List.cons_append]
 gi_wp2_with (gi_at_call 143; refine (Tryz.collect_in Fence.wide 8 trivial trivial trivial rfl (by omega) bx sv zs (by unfold maxLen; omega) (by omega) _ hBs hc hI).mono ?_; rintro e W ⟨v, rfl, hrow, hnil, hb⟩)
 rcases hrow.2 with ⟨rfl, hz⟩ | ⟨gb, cap, cur, rfl, hbase, hgb, r1, r2, r3, r4⟩
 ·exact absurd (List.eq_nil_of_length_eq_zero hz) hne
 ·have hH : Holds (Value.int .i64) W gb 0 zs.toArray := holds_of_blockI hgb (by simpa using r4)
  have hgl : gb < W.heap.size := (Array.getElem?_eq_some_iff.1 hgb).1
  gi_wp2_with (gi_at_call 32; refine ((callsIn_wide (n := 8)).2 (Any.slices_Sort_int Tryz.sortI gb 0 cap zs W hH hgl (by omega))).mono ?_; rintro e w' ⟨rfl, nn, os, rfl⟩)
  go_ret
  have hl : (zs.mergeSort fun x y => decide (x ≤ y)).length = zs.length := List.length_mergeSort zs
  refine ⟨_, rfl, ?_, hb.grown (grownBy_sortedI _) hb.size (fun j hj => by cases hj; exact hbase)⟩
  exact ownsRow_sortedI (by simp) hbase hgb r1 r2 r3
end Go.Proofs
