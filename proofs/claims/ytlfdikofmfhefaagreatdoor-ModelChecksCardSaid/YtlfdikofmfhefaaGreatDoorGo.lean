/-
Does a constraint hold, the program's answer: sums, tasks, the whole.
Conditions: as the handlers ask.
Does a constraint hold, the program's answer as a whole; its contracts.
Conditions: lists of at most 1000 elements.
-/
import Derived.Test.YtlfdikofmfhefaaGreatDoorGl
import Derived.Test.YtlfdikofmfhefaaGreatDoorGf
import Derived.Lib.RowBridge
set_option linter.unusedVariables false
set_option linter.unusedSimpArgs false
set_option maxRecDepth 100000
namespace Go.Proofs.YtlfdikofmfhefaaGreatDoor.Ev
open Go
end Go.Proofs.YtlfdikofmfhefaaGreatDoor.Ev
set_option linter.unusedVariables false
set_option linter.unusedSimpArgs false
set_option maxRecDepth 100000
namespace Go.Proofs.YtlfdikofmfhefaaGreatDoor.Ev
open Go Go.RowKit Go.Sort
structure Val (kk : Int) (c : RestG) (n : Nat) : Prop where
  kd : inS kk = true
  cn : countedG (kk, c) (shapeS kk) = true
  al : alikeG (kk, c) = true
  pl : ∀ v ∈ c.1 ++ c.2.1, 0 ≤ v ∧ v < (n : Int)
  nu : numbersG (kk, c) = true
section
variable {kk : Int} {c : RestG} {a : List Int}
end
theorem below_grown {w1 w w' : World} {g : Nat} (hB : RowKit.Below w1.heap.size w1 w) (hg : w1.heap.size ≤ g) (h : w.grownBy w' (some g)) : RowKit.Below w1.heap.size w w' :=
 ⟨h.os, h.tape, h.output, h.size, fun k hk => h.block k (Nat.lt_of_lt_of_le hk hB.size) (fun e => by have := Option.some.inj e; omega)⟩
theorem comp_mspec (xs : List Int) (hne : xs ≠ []) (hle : xs.length ≤ 1000) : MSpec Go.Proofs.Tryz.prog inv 33 0 [.un] 3 (.int .i64) xs (compL xs) none := by
 intro w1 w ok us u hI hB hok ha hu hsl hrow hsep
 refine ⟨callFunc_enter Go.Proofs.Tryz.func33 (by kernel_rfl) (by kernel_rfl) _ _, ?_⟩
 obtain ⟨cs, hcs, hl, hown⟩ := hrow
 rcases hown with ⟨_, h0⟩ | ⟨g, cap, cur, rfl, hg, hb, hn, hcap, hcur, htake⟩
 ·exact absurd (List.length_eq_zero_iff.mp h0) hne
 have hn : @List.length Int xs ≤ cap := hn
 cases ha with
 | cons h1 h2 =>
  cases h2
  have hu := Option.some.inj (show some _ = some _ from hu)
  subst hu
  rw [ints_cells hcs] at htake
  have htake : cur.toList.take xs.length = xs.map (Value.int .i64) := by rw [← htake]; exact congrArg (fun k => cur.toList.take k) (Nat.mul_one _).symm
  have hH : Holds (Value.int .i64) w g 0 xs.toArray := holds_of_blockI hb htake
  have hsz : g < w.heap.size := (Array.getElem?_eq_some_iff.1 hb).1
  have C := Any.slices_Compact_int Go.Proofs.Tryz.compI g 0 cap xs w hH (by omega) hn
  refine Calls.mono (show Calls Go.Proofs.Tryz.prog 33 _ w _ from C) ?_
  rintro ex w' ⟨rfl, q, rfl⟩
  have hcl : (compL xs).length ≤ xs.length := Lib.compact_length_le xs
  have hcl : (Lib.compact xs).length ≤ xs.length := hcl
  have eg : ∀ W : World, grow W #[] = W := fun W => by simp [grow]
  have G := grownBy_sortedI (w := w) (g := g) (n := q) (os := #[]) (Lib.compact xs ++ List.replicate (xs.length - (Lib.compact xs).length) 0).toArray
  have O := heap_sortedI (n := q) (os := #[]) (Lib.compact xs ++ List.replicate (xs.length - (Lib.compact xs).length) 0).toArray hb
  rw [eg] at G O
  have hfull : (Lib.compact xs ++ List.replicate (xs.length - (Lib.compact xs).length) 0).length = xs.length := by simp; omega
  have hs1 : cur.size = cap := by rw [hcur]; exact Nat.mul_one cap
  have tk := take_putCellsI cur (Lib.compact xs ++ List.replicate (xs.length - (Lib.compact xs).length) 0) (by rw [hfull]; omega)
  rw [hfull] at tk
  refine ⟨_, rfl, below_grown hB hg G, G.size, fun k hk hm => G.block k hk (fun e => hm e.symm), ok, .slice (some ⟨g, 0, none⟩) (Lib.compact xs).length cap, (compL xs).map fun x => [Value.int .i64 x], fun k hk => hk, fun k hk => ⟨.inl hk, Nat.lt_of_lt_of_le (hok k hk) G.size⟩, cells_ints _, ?_, fun k hk => ⟨hsep k hk, .inl hk⟩, rfl, _, _, _, rfl⟩
  rw [flat_ints]
  refine ⟨by rw [List.length_map]; exact (Nat.mul_one _).symm, .inr ⟨g, cap, _, rfl, hg, O, by show (Lib.compact xs).length ≤ cap; omega, hcap, by show (putCells (Value.int .i64) 0 _ cur).size = cap * 1; simp [putCells, hs1], ?_⟩⟩
  have e2 : (compL xs).length * 1 = (Lib.compact xs).length := Nat.mul_one _
  show (putCells _ _ _ _).toList.take ((compL xs).length * 1) = _
  rw [e2]
  have := congrArg (fun l => l.take (Lib.compact xs).length) tk
  simp only [List.take_take, Nat.min_eq_left hcl] at this
  rw [this, List.map_append, List.take_append_of_le_length (by simp), List.take_of_length_le (by simp)]
  rfl
theorem okM345 : MHandOk Go.Proofs.Tryz.prog inv 33 h_comp := by
 intro args e t xs κ r h
 change h_compF args e t xs κ = some r at h
 unfold h_compF at h
 split at h
 case h_2 => simp at h
 split at h
 case h_2 => simp at h
 rename_i xs _ _
 cases hc : Nat.beq e 3 && (!(List.isEmpty xs) && Nat.ble (List.length xs) 1000) with
 | false => simp [hc] at h
 | true =>
  simp only [hc, cond_true] at h
  obtain ⟨he, hp⟩ := (Bool.and_eq_true _ _).mp hc
  obtain ⟨hne, hle⟩ := (Bool.and_eq_true _ _).mp hp
  have he := Nat.eq_of_beq_eq_true he
  subst he
  have hle : xs.length ≤ 1000 := by rwa [Nat.ble_eq] at hle
  refine ⟨_, _, h, ?_⟩
  have hne : (xs : List Int) ≠ [] := fun e => by rw [e] at hne; cases hne
  exact comp_mspec xs hne hle
end Go.Proofs.YtlfdikofmfhefaaGreatDoor.Ev
