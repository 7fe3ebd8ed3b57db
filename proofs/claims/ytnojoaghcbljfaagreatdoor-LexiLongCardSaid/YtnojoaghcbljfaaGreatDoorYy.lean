/-
Sorting, and leaving out what is there twice: the contracts; the law at lists that the program sorts.
Conditions: none.
-/
import Derived.Test.YtnojoaghcbljfaaGreatDoorYx
import Derived.Test.YtnojoaghcbljfaaGreatDoorYl
import Derived.Test.YtnojoaghcbljfaaGreatDoorLi
import Derived.Test.YtnojoaghcbljfaaGreatDoorBh
import Derived.Sort.OwnSortedInts
set_option linter.unusedVariables false
set_option linter.unusedSimpArgs false
set_option maxRecDepth 100000
namespace Go.Proofs.YtnojoaghcbljfaaGreatDoor.Ev
open Go Go.RowKit Go.Sort
theorem ints_cells {w : World} {ok : Nat → Prop} : ∀ {xs : List Int} {cs : List (List Value)}, F2 (Rd w ok (.int .i64)) xs cs → cs.flatten = xs.map (Value.int .i64)
 | [], _, .nil => rfl
 | x :: xs, _, .cons h t => by
  have h1 : _ = [Value.int .i64 x] := h
  rw [List.flatten_cons, ints_cells t, h1]
  rfl
theorem cells_ints {w : World} {ok : Nat → Prop} : ∀ xs : List Int, F2 (Rd w ok (.int .i64)) xs (xs.map fun x => [Value.int .i64 x])
 | [] => .nil
 | x :: xs => .cons rfl (cells_ints xs)
theorem flat_ints (xs : List Int) : (xs.map fun x => [Value.int .i64 x]).flatten = xs.map (Value.int .i64) := by
 induction xs with
 | nil => rfl
 | cons x xs ih => rw [List.map_cons, List.flatten_cons, ih]; rfl
theorem below_grown {w1 w w' : World} {g : Nat} (hB : RowKit.Below w1.heap.size w1 w) (hg : w1.heap.size ≤ g) (h : w.grownBy w' (some g)) : RowKit.Below w1.heap.size w w' :=
 ⟨h.os, h.tape, h.output, h.size, fun k hk => h.block k (Nat.lt_of_lt_of_le hk hB.size) (fun e => by have := Option.some.inj e; omega)⟩
theorem sort_mspec (xs : List Int) (hne : xs ≠ []) (hle : xs.length ≤ 1000) : MSpec Go.Proofs.Tryz.prog inv 44 0 [.un] 3 (.int .i64) xs (sortL xs) (some (.tup [])) := by
 intro w1 w ok us u hI hB hok ha hu hsl hrow hsep
 refine ⟨callFunc_enter Go.Proofs.Tryz.func44 (by kernel_rfl) (by kernel_rfl) _ _, ?_⟩
 obtain ⟨cs, hcs, hl, hown⟩ := hrow
 rcases hown with ⟨_, h0⟩ | ⟨g, cap, cur, rfl, hg, hb, hn, hcap, hcur, htake⟩
 ·exact absurd (List.length_eq_zero_iff.mp h0) hne
 have hn : @List.length Int xs ≤ cap := hn
 cases ha with
 | cons h1 h2 =>
  cases h2
  have hu := Option.some.inj (show some _ = some _ from hu)
  subst hu
  rw [ints_cells hcs] at htake
  have htake : cur.toList.take xs.length = xs.map (Value.int .i64) := by rw [← htake]; exact congrArg (fun k => cur.toList.take k) (Nat.mul_one _).symm
  have hH : Holds (Value.int .i64) w g 0 xs.toArray := holds_of_blockI hb htake
  have hsz : g < w.heap.size := (Array.getElem?_eq_some_iff.1 hb).1
  have C := Any.slices_Sort_int Go.Proofs.Tryz.sortI g 0 cap xs w hH hsz (by omega)
  refine Calls.mono (show Calls Go.Proofs.Tryz.prog 44 _ w _ from C) ?_
  rintro ex w' ⟨rfl, n, os, rfl⟩
  have hlen : (sortL xs).length = xs.length := sortL_len xs
  have G := grownBy_sortedI (w := w) (g := g) (n := n) (os := os) (sortL xs).toArray
  have O := ownsRow_sortedI (n := n) (os := os) hlen hg hb hn hcap (by rw [hcur]; rfl)
  refine ⟨_, rfl, below_grown hB hg G, G.size, fun k hk hm => G.block k hk (fun e => hm e.symm), ok, .slice (some ⟨g, 0, none⟩) xs.length cap, (sortL xs).map fun x => [Value.int .i64 x], fun k hk => hk, fun k hk => ⟨.inl hk, Nat.lt_of_lt_of_le (hok k hk) G.size⟩, cells_ints _, ?_, fun k hk => ⟨hsep k hk, .inl hk⟩, hlen, rfl, [], rfl, .nil⟩
  rw [flat_ints]
  show World.ownsRow _ _ _ 1 _ (@List.length Int (sortL xs)) _
  rw [hlen]
  exact O
theorem okM120 : MHandOk Go.Proofs.Tryz.prog inv 44 h_sort := by
 intro args e t xs κ r h
 change h_sortF args e t xs κ = some r at h
 unfold h_sortF at h
 split at h
 case h_2 => simp at h
 split at h
 case h_2 => simp at h
 rename_i xs _ _
 cases hc : Nat.beq e 3 && (!(List.isEmpty xs) && Nat.ble (List.length xs) 1000) with
 | false => simp [hc] at h
 | true =>
  simp only [hc, cond_true] at h
  obtain ⟨he, hp⟩ := (Bool.and_eq_true _ _).mp hc
  obtain ⟨hne, hle⟩ := (Bool.and_eq_true _ _).mp hp
  have he := Nat.eq_of_beq_eq_true he
  subst he
  have hle : xs.length ≤ 1000 := by rwa [Nat.ble_eq] at hle
  refine ⟨_, _, h, ?_⟩
  have hne : (xs : List Int) ≠ [] := fun e => by rw [e] at hne; cases hne
  exact sort_mspec xs hne hle
theorem comp_mspec (xs : List Int) (hne : xs ≠ []) (hle : xs.length ≤ 1000) : MSpec Go.Proofs.Tryz.prog inv 45 0 [.un] 3 (.int .i64) xs (compL xs) none := by
 intro w1 w ok us u hI hB hok ha hu hsl hrow hsep
 refine ⟨callFunc_enter Go.Proofs.Tryz.func45 (by kernel_rfl) (by kernel_rfl) _ _, ?_⟩
 obtain ⟨cs, hcs, hl, hown⟩ := hrow
 rcases hown with ⟨_, h0⟩ | ⟨g, cap, cur, rfl, hg, hb, hn, hcap, hcur, htake⟩
 ·exact absurd (List.length_eq_zero_iff.mp h0) hne
 have hn : @List.length Int xs ≤ cap := hn
 cases ha with
 | cons h1 h2 =>
  cases h2
  have hu := Option.some.inj (show some _ = some _ from hu)
  subst hu
  rw [ints_cells hcs] at htake
  have htake : cur.toList.take xs.length = xs.map (Value.int .i64) := by rw [← htake]; exact congrArg (fun k => cur.toList.take k) (Nat.mul_one _).symm
  have hH : Holds (Value.int .i64) w g 0 xs.toArray := holds_of_blockI hb htake
  have hsz : g < w.heap.size := (Array.getElem?_eq_some_iff.1 hb).1
  have C := Any.slices_Compact_int Go.Proofs.Tryz.compI g 0 cap xs w hH (by omega) hn
  refine Calls.mono (show Calls Go.Proofs.Tryz.prog 45 _ w _ from C) ?_
  rintro ex w' ⟨rfl, q, rfl⟩
  have hcl : (compL xs).length ≤ xs.length := Lib.compact_length_le xs
  have hcl : (Lib.compact xs).length ≤ xs.length := hcl
  have eg : ∀ W : World, grow W #[] = W := fun W => by simp [grow]
  have G := grownBy_sortedI (w := w) (g := g) (n := q) (os := #[]) (Lib.compact xs ++ List.replicate (xs.length - (Lib.compact xs).length) 0).toArray
  have O := heap_sortedI (n := q) (os := #[]) (Lib.compact xs ++ List.replicate (xs.length - (Lib.compact xs).length) 0).toArray hb
  rw [eg] at G O
  have hfull : (Lib.compact xs ++ List.replicate (xs.length - (Lib.compact xs).length) 0).length = xs.length := by simp; omega
  have hs1 : cur.size = cap := by rw [hcur]; exact Nat.mul_one cap
  have tk := take_putCellsI cur (Lib.compact xs ++ List.replicate (xs.length - (Lib.compact xs).length) 0) (by rw [hfull]; omega)
  rw [hfull] at tk
  refine ⟨_, rfl, below_grown hB hg G, G.size, fun k hk hm => G.block k hk (fun e => hm e.symm), ok, .slice (some ⟨g, 0, none⟩) (Lib.compact xs).length cap, (compL xs).map fun x => [Value.int .i64 x], fun k hk => hk, fun k hk => ⟨.inl hk, Nat.lt_of_lt_of_le (hok k hk) G.size⟩, cells_ints _, ?_, fun k hk => ⟨hsep k hk, .inl hk⟩, rfl, _, _, _, rfl⟩
  rw [flat_ints]
  refine ⟨by rw [List.length_map]; exact (Nat.mul_one _).symm, .inr ⟨g, cap, _, rfl, hg, O, by show (Lib.compact xs).length ≤ cap; omega, hcap, by show (putCells (Value.int .i64) 0 _ cur).size = cap * 1; simp [putCells, hs1], ?_⟩⟩
  have e2 : (compL xs).length * 1 = (Lib.compact xs).length := Nat.mul_one _
  show (putCells _ _ _ _).toList.take ((compL xs).length * 1) = _
  rw [e2]
  have := congrArg (fun l => l.take (Lib.compact xs).length) tk
  simp only [List.take_take, Nat.min_eq_left hcl] at this
  rw [this, List.map_append, List.take_append_of_le_length (by simp), List.take_of_length_le (by simp)]
  rfl
theorem okM345 : MHandOk Go.Proofs.Tryz.prog inv 45 h_comp := by
 intro args e t xs κ r h
 change h_compF args e t xs κ = some r at h
 unfold h_compF at h
 split at h
 case h_2 => simp at h
 split at h
 case h_2 => simp at h
 rename_i xs _ _
 cases hc : Nat.beq e 3 && (!(List.isEmpty xs) && Nat.ble (List.length xs) 1000) with
 | false => simp [hc] at h
 | true =>
  simp only [hc, cond_true] at h
  obtain ⟨he, hp⟩ := (Bool.and_eq_true _ _).mp hc
  obtain ⟨hne, hle⟩ := (Bool.and_eq_true _ _).mp hp
  have he := Nat.eq_of_beq_eq_true he
  subst he
  have hle : xs.length ≤ 1000 := by rwa [Nat.ble_eq] at hle
  refine ⟨_, _, h, ?_⟩
  have hne : (xs : List Int) ≠ [] := fun e => by rw [e] at hne; cases hne
  exact comp_mspec xs hne hle
theorem F337.eok : EOk Go.Proofs.Tryz.prog F337.E := ⟨tyOk_of tt_ok, calls_nil, keep_inv, mcalls_cons okM120 (mcalls_cons okM345 mcalls_nil)⟩
theorem ok337 : HandOk Go.Proofs.Tryz.prog inv 37 h_risingL := hand_un fun xs => callW_ok (own := false) (k := 2000) F337.eok mixed Go.Proofs.Tryz.func37 (by kernel_rfl) (show Go.Proofs.Tryz.f37.body = some (bodyOf Go.Proofs.Tryz.f37) by kernel_rfl) (F337.sem xs.1)
theorem F47.eok : EOk Go.Proofs.Tryz.prog F47.E := eo calls_nil
theorem ok47e : HandOk Go.Proofs.Tryz.prog inv 38 h_eqL := hand_if fun xs hc => callW_ok (own := false) (k := 2000) F47.eok mixed Go.Proofs.Tryz.func38 (by kernel_rfl) (show Go.Proofs.Tryz.f38.body = some (bodyOf Go.Proofs.Tryz.f38) by kernel_rfl) (F47.sem xs.1 xs.2.1 hc)
theorem F308.eok : EOk Go.Proofs.Tryz.prog F308.E := ⟨tyOk_of tt_ok, (calls_cons ok30 (calls_cons ok318 (calls_cons ok29 (calls_cons ok325 (calls_cons ok326 (calls_cons ok328 (calls_cons ok337 (calls_cons ok47e calls_nil)))))))), keep_inv, mcalls_nil⟩
theorem law308 (z : Int × Int × List Int × List Int) (h1 : 0 ≤ z.1 ∧ z.1 < 256) (h2 : 0 ≤ z.2.1 ∧ z.2.1 < 256) (h3 : I8s z.2.2.1) (h4 : I8s z.2.2.2) : CallSpec Go.Proofs.Tryz.prog inv 8 [.agg [.v (.int .u8) z.1, .v (.int .u8) z.2.1, .v (.sl (.int .i8)) z.2.2.1, .v (.sl (.int .i8)) z.2.2.2]] (.v .bool true) := callW_ok (own := false) (k := 2000) F308.eok mixed Go.Proofs.Tryz.func8 (by kernel_rfl) (show Go.Proofs.Tryz.f8.body = some (bodyOf Go.Proofs.Tryz.f8) by kernel_rfl) (F308.sem z h1 h2 h3 h4)
end Go.Proofs.YtnojoaghcbljfaaGreatDoor.Ev
