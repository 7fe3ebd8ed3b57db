/-
ModelKinds: the contracts of all that it calls.
Conditions: none.
-/
import Derived.Test.YtoplphfgbfcagaaKc
import Derived.Test.YtoplphfgbfcagaaKg
import Derived.Laws.Externs
set_option linter.unusedVariables false
set_option linter.unusedSimpArgs false
set_option maxRecDepth 100000
namespace Go.Proofs.Ytoplphfgbfcagaa.Ev
open Go Go.RowKit

theorem enter_of {g : Nat} {fn : Func} (hf : Go.Proofs.Try.prog.funcs[g]? = some fn) (h1 : (fn.name == "runtime.NumGoroutine") = false) (h2 : fn.body.isNone = false) (vs : Array Value) (w : World) :
    (callFunc g vs).run Go.Proofs.Try.prog w = .ok (.enter g vs) w := callFunc_enter hf h1 h2 vs w
theorem flat_res {w w' : World} {ok : Nat → Prop} {k : IntKind} {n : Int} (hok : ∀ i, ok i → i < w.heap.size) (hs : w.heap.size ≤ w'.heap.size) : ResRel w.heap.size ok w' (.v (.int k) n) (.int k n) :=
  ⟨ok, mz, ⟨fun i hi => Nat.lt_of_lt_of_le (hok i hi) hs, fun id r h => by simp [rowsA, rows2, rows1] at h, fun id r k h => by simp [rowsA, rows2, rows1] at h, fun i j ri rj k h => by simp [rowsA, rows2, rows1] at h⟩,
    (show Rd w' ok (.int k) n [.int k n] by simp [Rd]), fun i hi => .inl hi⟩

theorem run51 (s : ByteArray) (c : Int) (w : World) : (callFunc 51 #[.string s, .int .u8 c]).run Go.Proofs.Try.prog w = .ok (.value (.int .i64 (idxI s c))) w := by
  rw [run_callFunc_extern (e := Extern.BytealgIndexByte.indexByte) Go.Proofs.Try.func51 (by kernel_rfl) (by kernel_rfl) (by kernel_rfl) (by kernel_rfl)]
  rw [Lib.run_indexByteString]
  rfl
theorem run43 (s : ByteArray) (c : Int) (w : World) : (callFunc 43 #[.string s, .int .u8 c]).run Go.Proofs.Try.prog w = .ok (.value (.int .i64 (cntI s c))) w := by
  rw [run_callFunc_extern (e := Extern.BytealgCount.count) Go.Proofs.Try.func43 (by kernel_rfl) (by kernel_rfl) (by kernel_rfl) (by kernel_rfl)]
  rw [Lib.run_countString]
  rfl
theorem ok51 : HandOk Go.Proofs.Try.prog 51 hIndexByte := by
  intro args κ r h
  unfold hIndexByte at h
  split at h
  case h_2 => simp at h
  rename_i s c
  refine ⟨_, h, fun w ok us hok ha => .inr ⟨.int .i64 (idxI s c), ?_, flat_res hok (Nat.le_refl _)⟩⟩
  obtain ⟨u1, u2, rfl, h1, h2⟩ := ha.two
  rw [rd_str h1, rd_int h2]
  exact run51 s c w
theorem ok43 : HandOk Go.Proofs.Try.prog 43 hCountByte := by
  intro args κ r h
  unfold hCountByte at h
  split at h
  case h_2 => simp at h
  rename_i s c
  refine ⟨_, h, fun w ok us hok ha => .inr ⟨.int .i64 (cntI s c), ?_, flat_res hok (Nat.le_refl _)⟩⟩
  obtain ⟨u1, u2, rfl, h1, h2⟩ := ha.two
  rw [rd_str h1, rd_int h2]
  exact run43 s c w
noncomputable def i3 : TypeInfo := (Go.Proofs.Try.prog.info? 3).getD default
theorem i3_info : Go.Proofs.Try.prog.info? 3 = some i3 := by kernel_rfl
theorem i3_zero : i3.zero = some (.int .i64 0) := by kernel_rfl
theorem i3_size : i3.size = 1 := by kernel_rfl
theorem i3_bytes : i3.bytes = 8 := by kernel_rfl
theorem i3_pos : 0 < i3.size := by rw [i3_size]; exact Nat.one_pos
theorem ok37 : HandOk Go.Proofs.Try.prog 37 hGrow := by
  intro args κ r h
  unfold hGrow at h
  split at h
  case h_2 => simp at h
  rename_i n
  cases hg : growB n with
  | false => simp [hg] at h
  | true =>
    simp only [hg, cond_true] at h
    simp only [growB, Bool.and_eq_true, decide_eq_true_eq] at hg
    obtain ⟨h0, h1⟩ := hg
    refine ⟨_, h, fun w ok us hok ha => .inl ⟨enter_of Go.Proofs.Try.func37 (by kernel_rfl) (by kernel_rfl) _ _, ?_⟩⟩
    obtain ⟨u1, u2, rfl, h2, h3⟩ := ha.two
    have h2 : u1 = .slice none 0 0 := h2
    have hn : n = (n.toNat : Int) := (Int.toNat_of_nonneg (Int.le_of_lt h0)).symm
    rw [h2, rd_int h3]
    have hc := Any8.slices_Grow_grow Go.Proofs.Try.growI i3 (.int .i64 0) i3_info i3_zero i3_pos none 0 0 n.toNat [] w (Nat.le_refl _) (by omega) (by rw [i3_bytes]; omega) (by omega) (by simp) (fun _ => rfl) (fun a h => by simp at h)
    have e1 : (Value.int .i64 n) = .int .i64 ((n.toNat : Nat) : Int) := congrArg (Value.int .i64) hn
    rw [e1]
    refine hc.mono fun e w' he => ?_
    obtain ⟨rfl, rfl⟩ := he
    refine ⟨_, rfl, ⟨rfl, rfl, rfl, by simp, fun k hk => heap_alloc_old w.drew _ hk⟩, ok, fun _ => _, ⟨fun k hk => by have := hok k hk; simp; omega, ?_, ?_, ?_⟩, ⟨⟨_, _, _, rfl⟩, rfl⟩, fun k hk => .inl hk⟩
    · intro id r hr
      have hid : id = 0 ∧ r = .row 3 (.int .i64) [] := by
        cases id with
        | zero => simp [rowsA, rows2, rows1] at hr; exact ⟨rfl, hr.symm⟩
        | succ j => simp [rowsA, rows2, rows1] at hr
      obtain ⟨rfl, rfl⟩ := hid
      refine ⟨[], .nil, rfl, .inr ⟨_, _, _, rfl, Nat.le_refl _, heap_alloc_new w.drew _, Nat.zero_le _, grownCap_le_maxLen _ _ _ _ (by unfold maxLen; omega), ?_, by simp⟩⟩
      have hge : 0 + n.toNat ≤ grownCap w (0 + n.toNat) 0 3 := grownCap_ge w (0 + n.toNat) 0 3
      have hz : ∀ q, (Builtin.zeroCells (Value.int .i64 0).cells q).size = q := fun q => by simp [Builtin.zeroCells, Value.cells]
      rw [Array.size_append, Array.size_append, hz, hz]
      show 0 + (0 + n.toNat - 0) + (grownCap w (0 + n.toNat) 0 3 - (0 + n.toNat)) = grownCap w (0 + n.toNat) 0 3 * 1
      omega
    · intro id r k hr hl hk ho
      have := hok k ho
      simp only [mblk, Option.some.injEq] at hk
      omega
    · intro i j ri rj k hi hj _ _ _ _
      have z : ∀ (q : Nat) (r : Row), (rowsA (AV.nw 3 (.int .i64) []))[q]? = some r → q = 0 := fun q r h => by
        cases q with
        | zero => rfl
        | succ q => simp [rowsA, rows2, rows1] at h
      rw [z i ri hi, z j rj hj]
end Go.Proofs.Ytoplphfgbfcagaa.Ev
