/-
Seat 'a': what the arguments read as; a law's call by its contract.
Conditions: none.
-/
import Derived.Test.YtohdaehblenokaaBh
import Derived.Test.YtohdaehblenokaaEvR
set_option linter.unusedVariables false
set_option maxRecDepth 100000
namespace Go.Proofs.Ytohdaehblenokaa.Ev
open Go Go.RowKit
def T : {t : Ty} → t.D → Prop := fun _ => True
theorem rds_u8 : Rds Go.Proofs.Try.prog 5 (.int .u8) (fun (n : Int) => 0 ≤ n ∧ n < 256) := rds_weak (rds_int Go.Proofs.Try.underlying5) fun (z : Int) (h : IntKind.u8.min ≤ z ∧ z ≤ IntKind.u8.max) => (by
 have h1 : (0 : Int) ≤ z := h.1
 have h2 : z ≤ 255 := h.2
 exact ⟨h1, by omega⟩)
theorem rds_u8s : Rds Go.Proofs.Try.prog 22 (.sl (.int .u8)) U8s := rds_slice Go.Proofs.Try.underlying22 (of_decide_eq_true (by kernel_rfl)) rds_u8
theorem rds_i8 : Rds Go.Proofs.Try.prog 61 (.int .i8) (fun (n : Int) => -128 ≤ n ∧ n ≤ 127) := rds_weak (rds_int Go.Proofs.Try.underlying61) fun (z : Int) (h : IntKind.i8.min ≤ z ∧ z ≤ IntKind.i8.max) => h
theorem rds_i8s : Rds Go.Proofs.Try.prog 23 (.sl (.int .i8)) I8s := rds_slice Go.Proofs.Try.underlying23 (of_decide_eq_true (by kernel_rfl)) rds_i8
theorem rds_i16 : Rds Go.Proofs.Try.prog 24 (.int .i16) T := rds_weak (rds_int Go.Proofs.Try.underlying24) fun _ _ => trivial
theorem rds_i64 : Rds Go.Proofs.Try.prog 3 (.int .i64) T := rds_weak (rds_int Go.Proofs.Try.underlying3) fun _ _ => trivial
theorem rds_i64s : Rds Go.Proofs.Try.prog 27 (.sl (.int .i64)) T := rds_weak (rds_slice Go.Proofs.Try.underlying27 (of_decide_eq_true (by kernel_rfl)) rds_i64) fun _ _ => trivial
theorem rds_small : Rds Go.Proofs.Try.prog 26 SmallT (fun (z : Small) => (0 ≤ z.1 ∧ z.1 < 256) ∧ U8s z.2.1 ∧ U8s z.2.2.1) := rds_weak
 (rds_struct (total := 6) Go.Proofs.Try.underlying26 (by kernel_rfl) (rdsF_cons (by kernel_rfl) rds_u8 (rdsF_cons (by kernel_rfl) rds_u8s (rdsF_cons (by kernel_rfl) rds_u8s (rdsF_cons (by kernel_rfl) rds_i8s (rdsF_cons (by kernel_rfl) rds_i16 (rdsF_last (by kernel_rfl) rds_u8)))))))
 fun z h => ⟨h.1, h.2.1, h.2.2.1⟩
theorem rds_row {P : Program} {t e : TypeId} {ty : Ty} {Q : (Ty.sl ty).D → Prop} {H : Type} {enc : TypeId × Value → H} {w : World} {base b0 : Nat} {spare : Nat → Bool} {held : Bool} {r : Reach} {v : Value} {d : DataW H} {ps : List MemPlace}
  (ht : P.underlying t = some (.slice e)) (h : Rds P t (.sl ty) Q) (hval : Value.okWide P w r b0 t v) (hd : DataW.Trod enc P w base spare held t v d ps) :
  ∃ z : (Ty.sl ty).D, Q z ∧ rel w (oldB w) [] mz (.v (.sl ty) z) v := by
 obtain ⟨a, len, cap, rfl⟩ := Go.WideShapes.okWide_slice ht hval
 obtain ⟨fuel, hf⟩ := hd
 exact h enc w base spare held fuel _ _ hf
theorem law_calls {I : World → Prop} {f : Nat} {fn : Func} {args : List AV} (hf : Go.Proofs.Try.prog.funcs[f]? = some fn) (h1 : (fn.name == "runtime.NumGoroutine") = false) (h2 : fn.body.isNone = false) (h : CallSpec Go.Proofs.Try.prog I f args (.v .bool true)) {us : List Value} {W : World} (hI : I W) (hr : F2 (rel W (oldB W) [] mz) args us) :
  Calls Go.Proofs.Try.prog f us.toArray W fun e w' => e = .returned (.bool true) ∧ Below W.heap.size W w' := by
 have hent := callFunc_enter hf h1 h2 us.toArray W
 rcases h W (oldB W) us hI (fun _ h => h) hr with ⟨_, h⟩ | ⟨u, h, _⟩
 ·refine h.mono fun e w' he => ?_
  obtain ⟨u, rfl, hB, okR, mR, _, hr, _⟩ := he
  have hr : rel w' okR [] mz (.v .bool true) u := hr
  rw [rd_bool hr]
  exact ⟨rfl, hB⟩
 ·rw [hent] at h
  simp at h
end Go.Proofs.Ytohdaehblenokaa.Ev
