/-
lex.run with lex.inner: how many bytes a word has (a range over a string, walked by hand).
Conditions: none.
-/
import Derived.WalkKit
import Derived.LoopTactic
import Derived.Laws.RangeAny
import Derived.Lib.OthersKept
import Derived.Test.YtlfdikofmfhefaaGreatDoorProg
import Derived.Test.YtlfdikofmfhefaaGreatDoorIe
set_option linter.unusedVariables false
set_option linter.unusedSimpArgs false
namespace Go.Proofs
open Go Go.RowKit Go.Lib
namespace YtlfdikofmfhefaaGreatDoor.Ev
theorem iter_pos {w : World} {k : Nat} {s : ByteArray} {p : Nat} (h : w.heap[k]? = some (.stringIter s p)) : w.iterPos k = p := by simp [World.iterPos, h]
theorem byteW_at {s : ByteArray} {i : Nat} (h : i < s.size) : byteW s i = ((s[i]'h).toNat : Int) := by
 unfold byteW
 rw [dif_pos h]
theorem inner_high {c : Int} (h : 128 ≤ c) : innerI c = false := by
 unfold innerI letterI digitI
 rw [decide_eq_false (show ¬ c ≤ 122 by omega), decide_eq_false (show ¬ c ≤ 90 by omega), decide_eq_false (show ¬ c ≤ 57 by omega), decide_eq_false (show ¬ c = 95 by omega)]
 simp
theorem decode_inner {s : ByteArray} {pos : Nat} (h : pos < s.size) : innerI (Utf8.decode s pos).1 = innerI (byteW s pos) ∧ (innerI (byteW s pos) = true → (Utf8.decode s pos).2 = 1) ∧ 1 ≤ (Utf8.decode s pos).2 := by
 rw [byteW_at h]
 by_cases ha : (s[pos]'h).toNat < 128
 ·rw [decode_ascii s pos h ha]
  exact ⟨rfl, fun _ => rfl, Nat.le_refl _⟩
 ·have hd := decode_high s pos h (by omega)
  rw [inner_high (by omega), inner_high (by omega)]
  exact ⟨rfl, (fun q => by cases q), hd.2⟩
theorem run_succ (s : ByteArray) (n i : Nat) : runGo s (n + 1) i = if innerI (byteW s i) then runGo s n (i + 1) else i := rfl
end YtlfdikofmfhefaaGreatDoor.Ev
theorem Tryz.run_any (s : ByteArray) (w : World) (hin : ∀ (c : Int) (W : World), Below w.heap.size w W → Calls Tryz.prog 99 #[.int .i32 c] W fun e w' => e = .returned (.bool (YtlfdikofmfhefaaGreatDoor.Ev.innerI c)) ∧ Below W.heap.size W w') :
  Calls Tryz.prog 98 #[.string s, .func (.func 99) #[] #[]] w fun e w' => e = .returned (.int .i64 (YtlfdikofmfhefaaGreatDoor.Ev.runD s)) ∧ Below w.heap.size w w' := by
 go_enter Tryz.func98, Tryz.ntmps98
 go_wp2
 go_loopw [5] (fun _ wr => ∃ pos : Nat, pos ≤ s.size ∧ wr.heap[w.heap.size]? = some (.stringIter s pos) ∧ Below w.heap.size w wr ∧ YtlfdikofmfhefaaGreatDoor.Ev.runGo s (s.size - pos) pos = YtlfdikofmfhefaaGreatDoor.Ev.runGo s s.size 0)
  (fun _ wr => s.size - wr.iterPos w.heap.size)
 case atStart => exact ⟨0, Nat.zero_le _, World.iter_heap w s 0, (Below.refl _ _).alloc (Nat.le_refl _) _, rfl⟩
 case round =>
  obtain ⟨pos, hle, hk, hB, hr⟩ := hrel
  by_cases hp : pos < s.size
  ·obtain ⟨d1, d2, d3⟩ := YtlfdikofmfhefaaGreatDoor.Ev.decode_inner hp
   have hnx : ∀ ty, (Instr.next (.pointer (some ⟨w.heap.size, 0, none⟩)) true ty).run Tryz.prog wr = _ := fun ty => run_next_any_at wr w.heap.size s pos ty hk hp
   have hB1 : Below w.heap.size w (wr.iterAt w.heap.size s (pos + (Utf8.decode s pos).2)) := below_iterAt hB (Nat.le_refl _) _ _
   have hk1 : (wr.iterAt w.heap.size s (pos + (Utf8.decode s pos).2)).heap[w.heap.size]? = some (.stringIter s (pos + (Utf8.decode s pos).2)) := iterAt_heap wr w.heap.size s pos _ hk
   have hlt : w.heap.size < (wr.iterAt w.heap.size s (pos + (Utf8.decode s pos).2)).heap.size := (Array.getElem?_eq_some_iff.1 hk1).1
   have hC := hin (Utf8.decode s pos).1 _ hB1
   rw [d1] at hC
   obtain ⟨m, hm⟩ : ∃ m, s.size - pos = m + 1 := ⟨s.size - pos - 1, by omega⟩
   cases hb : YtlfdikofmfhefaaGreatDoor.Ev.innerI (YtlfdikofmfhefaaGreatDoor.Ev.byteW s pos) with
   | true =>
    rw [hb] at hC
    rw [d2 hb] at hC hk1 hlt hB1 hnx
    go_wp2_with (go_at_call 99; refine hC.mono ?_; rintro e W' ⟨rfl, hW⟩)
    go_wp2
    have hk2 : W'.heap[w.heap.size]? = some (.stringIter s (pos + 1)) := (hW.block _ hlt).trans hk1
    go_roundw
    case rel =>
     refine ⟨pos + 1, by omega, hk2, hB1.trans (hW.mono hB1.size), ?_⟩
     rw [← hr, hm, YtlfdikofmfhefaaGreatDoor.Ev.run_succ, hb, if_pos rfl, show s.size - (pos + 1) = m by omega]
    case measure =>
     rw [YtlfdikofmfhefaaGreatDoor.Ev.iter_pos hk2, YtlfdikofmfhefaaGreatDoor.Ev.iter_pos hk]
     omega
   | false =>
    rw [hb] at hC
    go_wp2_with (go_at_call 99; refine hC.mono ?_; rintro e W' ⟨rfl, hW⟩)
    go_wp2
    go_ret
    refine ⟨?_, hB1.trans (hW.mono hB1.size)⟩
    have : YtlfdikofmfhefaaGreatDoor.Ev.runGo s s.size 0 = pos := by
     rw [← hr, hm, YtlfdikofmfhefaaGreatDoor.Ev.run_succ, hb]
     rfl
    unfold YtlfdikofmfhefaaGreatDoor.Ev.runD
    rw [this]
    rfl
  ·have hnx : ∀ ty, (Instr.next (.pointer (some ⟨w.heap.size, 0, none⟩)) true ty).run Tryz.prog wr = _ := fun ty => run_next_end_at wr w.heap.size s pos ty hk hp
   go_wp2
   go_ret
   refine ⟨?_, hB⟩
   have : YtlfdikofmfhefaaGreatDoor.Ev.runGo s s.size 0 = s.size := by
    rw [← hr, show s.size - pos = 0 by omega]
    show pos = s.size
    omega
   unfold YtlfdikofmfhefaaGreatDoor.Ev.runD
   rw [this]
   rfl
end Go.Proofs
