/-
GroundHolds: the row, proved.
Conditions: none.
-/
import Derived.Test.YtohdaehblenokaaGreatRows
import Derived.Test.YtohdaehblenokaaGreatHg
import Derived.Test.YtohdaehblenokaaGreatBe
import Derived.ProofKit
set_option linter.unusedVariables false
namespace Go.Proofs.YtohdaehblenokaaGreat
open Go.ChangeShapes Go.WideShapes Go.ChangeAt Go.RowKit
theorem Tryz.own : ownKnob Tryz.prog.godebug = none := by kernel_rfl
theorem Tryz.laidOut : laidOutB Tryz.prog = true := by kernel_rfl
def nilS : Value := .slice none 0 0
set_option maxRecDepth 100000 in
theorem groundHolds_lifted (os : Os) (started : os.Started) (H : Type) (enc : TypeId × Value → H) :
  ReturnsInHanded {} Tryz.checked os 3 .any (Rows.groundHoldsSpec.pre6 enc Tryz.prog Tryz.f3 Rows.groundHoldsRow.domain false) (Rows.groundHoldsSpec.post enc Tryz.prog Tryz.f3 false true false false) := by
 refine returnsInHanded_of_change (C := Tryz.checked) Tryz.own started (by kernel_rfl) Tryz.func3
  (ChangeSpec.witness6 (enc := enc) (C := Tryz.checked) false ⟨#[], #[.agg #[.int .u8 0, nilS, nilS, nilS, .int .i16 0, .int .u8 0], nilS, .agg #[.int .i64 0, nilS, nilS, nilS, nilS, nilS, .int .i64 0, nilS]], []⟩ 8 (by kernel_rfl) (by kernel_rfl) (by kernel_rfl) (by kernel_rfl)) ?_
 intro W base args ds gs before hval0 hW hcnd _
 have hval : ∀ (j : Nat) t v, Tryz.f3.params[j]? = some t → args[j]? = some v → Value.okWide Tryz.prog W .any base t v := hval0
 have hW' := hW
 obtain ⟨p, q, hA0, hV, rfl, hfz, hnd⟩ := hW
 have hA : DataW.TrodAll enc Tryz.prog W 0 (fun _ => true) true Tryz.f3.params.toList args.toList ds p := hA0
 rw [Tryz.params3] at hA hval
 obtain ⟨v0, v1, v2, d0, d1, d2, p0, p1, p2, rfl, rfl, rfl, h0, h1, h2⟩ := trodAll_three hA
 obtain ⟨rfl, rfl⟩ := trodVars_none hV
 obtain ⟨z0, q0, r0⟩ := YtohdaehblenokaaGreat.Ev.rds_arg Tryz.underlying26 YtohdaehblenokaaGreat.Ev.rds_small (hval 0 26 v0 rfl rfl) h0
 obtain ⟨z1, q1, r1⟩ := YtohdaehblenokaaGreat.Ev.rds_row Tryz.underlying27 YtohdaehblenokaaGreat.Ev.rds_i64s (hval 1 27 v1 rfl rfl) h1
 obtain ⟨z2, q2, r2⟩ := YtohdaehblenokaaGreat.Ev.rds_arg Tryz.underlying30 YtohdaehblenokaaGreat.Ev.rds_con (hval 2 30 v2 rfl rfl) h2
 have hlt := hW'.lt
 refine (YtohdaehblenokaaGreat.Ev.law_calls (I := YtohdaehblenokaaGreat.Ev.inv) Tryz.func3 (by kernel_rfl) (by kernel_rfl) (YtohdaehblenokaaGreat.Ev.law720 z0 z1 z2 q0.1) (us := [v0, v1, v2]) trivial (.cons r0 (.cons r1 (.cons r2 .nil)))).mono fun e W' ⟨he, hb⟩ => ?_
 subst he
 exact ⟨_, rfl, _, _, _, [], _, [], hW', trodAll_mk1 (shut_bool Tryz.underlying4 true), trodAll_mk3 (Below.trod Tryz.laidOut (by kernel_rfl) (of_decide_eq_true (by kernel_rfl)) h0 hb (fun x hx => hlt x (by simp [hx]))) (Below.trod Tryz.laidOut (by kernel_rfl) (of_decide_eq_true (by kernel_rfl)) h1 hb (fun x hx => hlt x (by simp [hx]))) (Below.trod Tryz.laidOut (by kernel_rfl) (of_decide_eq_true (by kernel_rfl)) h2 hb (fun x hx => hlt x (by simp [hx]))), rfl, hb.frame _, fun h => by cases h⟩
theorem groundHolds_holds : Rows.GroundHoldsSaid :=
 OpenClaim.holds_of_wide 3 Tryz.f3 rfl rfl rfl rfl rfl rfl rfl ⟨rfl, rfl, rfl, rfl, rfl⟩ rfl rfl rfl rfl rfl (by kernel_rfl) Tryz.func3 (by kernel_rfl)
  (of_decide_eq_true (by kernel_rfl)) (by unfold Func.isWrapper; rw [if_neg (by decide +kernel)]; exact ⟨rfl, rfl⟩)
  (fun os started H enc _ => groundHolds_lifted os started H enc)
#print axioms groundHolds_holds
end Go.Proofs.YtohdaehblenokaaGreat
