/-
GroundTurns: the row, proved.
Conditions: none.
-/
import Derived.Test.YtohdaehblenokaaRows
import Derived.Test.YtohdaehblenokaaHk
import Derived.Test.YtohdaehblenokaaBe
import Derived.ProofKit
set_option linter.unusedVariables false
namespace Go.Proofs.Ytohdaehblenokaa
open Go.ChangeShapes Go.WideShapes Go.ChangeAt Go.RowKit
theorem Try.own : ownKnob Try.prog.godebug = none := by kernel_rfl
theorem Try.laidOut : laidOutB Try.prog = true := by kernel_rfl
def nilS : Value := .slice none 0 0
set_option maxRecDepth 100000 in
theorem groundTurns_lifted (os : Os) (started : os.Started) (H : Type) (enc : TypeId × Value → H) :
  ReturnsInHanded {} Try.checked os 3 .any (Rows.groundTurnsSpec.pre6 enc Try.prog Try.f3 Rows.groundTurnsRow.domain false) (Rows.groundTurnsSpec.post enc Try.prog Try.f3 false true false false) := by
 refine returnsInHanded_of_change (C := Try.checked) Try.own started (by kernel_rfl) Try.func3
  (ChangeSpec.witness6 (enc := enc) (C := Try.checked) false ⟨#[], #[.agg #[.int .u8 0, nilS, nilS, nilS, .int .i16 0, .int .u8 0], nilS], []⟩ 8 (by kernel_rfl) (by kernel_rfl) (by kernel_rfl) (by kernel_rfl)) ?_
 intro W base args ds gs before hval0 hW hcnd _
 have hval : ∀ (j : Nat) t v, Try.f3.params[j]? = some t → args[j]? = some v → Value.okWide Try.prog W .any base t v := hval0
 have hW' := hW
 obtain ⟨p, q, hA0, hV, rfl, hfz, hnd⟩ := hW
 have hA : DataW.TrodAll enc Try.prog W 0 (fun _ => true) true Try.f3.params.toList args.toList ds p := hA0
 rw [Try.params3] at hA hval
 obtain ⟨v0, v1, d0, d1, p0, p1, rfl, rfl, rfl, h0, h1⟩ := trodAll_two hA
 obtain ⟨rfl, rfl⟩ := trodVars_none hV
 obtain ⟨z0, q0, r0⟩ := Ytohdaehblenokaa.Ev.rds_arg Try.underlying26 Ytohdaehblenokaa.Ev.rds_small (hval 0 26 v0 rfl rfl) h0
 obtain ⟨z1, q1, r1⟩ := Ytohdaehblenokaa.Ev.rds_row Try.underlying27 Ytohdaehblenokaa.Ev.rds_i64s (hval 1 27 v1 rfl rfl) h1
 have hlt := hW'.lt
 refine (Ytohdaehblenokaa.Ev.law_calls (I := Ytohdaehblenokaa.Ev.inv) Try.func3 (by kernel_rfl) (by kernel_rfl) (Ytohdaehblenokaa.Ev.law724 z0 z1 q0.1 q0.2.1) (us := [v0, v1]) trivial (.cons r0 (.cons r1 .nil))).mono fun e W' ⟨he, hb⟩ => ?_
 subst he
 exact ⟨_, rfl, _, _, _, [], _, [], hW', trodAll_mk1 (shut_bool Try.underlying4 true), trodAll_mk2 (Below.trod Try.laidOut (by kernel_rfl) (of_decide_eq_true (by kernel_rfl)) h0 hb (fun x hx => hlt x (by simp [hx]))) (Below.trod Try.laidOut (by kernel_rfl) (of_decide_eq_true (by kernel_rfl)) h1 hb (fun x hx => hlt x (by simp [hx]))), rfl, hb.frame _, fun h => by cases h⟩
theorem groundTurns_holds : Rows.GroundTurnsSaid :=
 OpenClaim.holds_of_wide 3 Try.f3 rfl rfl rfl rfl rfl rfl rfl ⟨rfl, rfl, rfl, rfl, rfl⟩ rfl rfl rfl rfl rfl (by kernel_rfl) Try.func3 (by kernel_rfl)
  (of_decide_eq_true (by kernel_rfl)) (by unfold Func.isWrapper; rw [if_neg (by decide +kernel)]; exact ⟨rfl, rfl⟩)
  (fun os started H enc _ => groundTurns_lifted os started H enc)
#print axioms groundTurns_holds
end Go.Proofs.Ytohdaehblenokaa
