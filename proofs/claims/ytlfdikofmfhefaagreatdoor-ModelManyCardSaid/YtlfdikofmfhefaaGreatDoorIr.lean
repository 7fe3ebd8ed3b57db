/-
ModelMany with the table of math/bits tied to the program's text: proved.
Conditions: none.
-/
import Derived.Test.YtlfdikofmfhefaaGreatDoorBe
import Derived.Test.YtlfdikofmfhefaaGreatDoorIj
set_option linter.unusedVariables false
namespace Go.Proofs.YtlfdikofmfhefaaGreatDoor
open Go.ChangeShapes Go.WideShapes Go.ChangeAt Go.RowKit
theorem Lit_u16 {n : Int} (h : (Lit.int .u16 n).wf = true) : 0 ≤ n ∧ n ≤ 65535 := by
 simp only [Lit.wf, Bool.and_eq_true, decide_eq_true_eq] at h
 exact h
set_option maxRecDepth 100000 in
theorem l3_contract (H : Type) (enc : TypeId × Value → H) (W : World) (base : Nat) (args : Array Value) (ds gs : List (DataW H)) (before : List MemPlace)
  (hval0 : ∀ (j : Nat) t v, Tryz.f3.params[j]? = some t → args[j]? = some v → Value.okWide Tryz.prog W .any base t v)
  (hW : DataW.Whole enc Tryz.prog Tryz.f3.params.toList Rows.modelManySpec.vars false W args.toList ds gs before) (hL : laidMetH Tryz.prog laidL W) :
  Calls Tryz.prog 3 args W fun e W' => ∃ v, e = .returned v ∧ Rows.modelManySpec.post enc Tryz.prog Tryz.f3 false true false false W args v W' := by
 have hval := hval0
 have hW' := hW
 obtain ⟨p, q, hA0, hV, rfl, hfz, hnd⟩ := hW
 have hA : DataW.TrodAll enc Tryz.prog W 0 (fun _ => true) true Tryz.f3.params.toList args.toList ds p := hA0
 rw [Tryz.params3] at hA hval
 obtain ⟨v0, v1, d0, d1, p0, p1, rfl, rfl, rfl, h0, h1⟩ := trodAll_two hA
 obtain ⟨rfl, rfl⟩ := trodVars_none hV
 obtain ⟨n0, rfl, rfl, rfl, w0⟩ := open_int Tryz.underlying22 (hval 0 22 v0 rfl rfl) h0
 have q0 : 0 ≤ n0 := (Lit_u16 w0).1
 obtain ⟨n1, rfl, rfl, rfl, w1⟩ := open_int Tryz.underlying22 (hval 1 22 v1 rfl rfl) h1
 have q1 : 0 ≤ n1 := (Lit_u16 w1).1
 have hlt := hW'.lt
 refine (YtlfdikofmfhefaaGreatDoor.Ev.law_calls Tryz.func3 (by kernel_rfl) (by kernel_rfl) (YtlfdikofmfhefaaGreatDoor.Ev.law503 n0 n1 ⟨q0, by have := (Lit_u16 w0).2; omega⟩ ⟨q1, by have := (Lit_u16 w1).2; omega⟩) (us := [.int .u16 n0, .int .u16 n1]) (inv_laid hL) (.cons rfl (.cons rfl .nil))).mono fun e W' ⟨he, hb⟩ => ?_
 subst he
 exact ⟨_, rfl, _, _, _, [], _, [], hW', trodAll_mk1 (shut_bool Tryz.underlying4 true), trodAll_mk2 (shut_int Tryz.underlying22 w0) (shut_int Tryz.underlying22 w1), rfl, hb.frame _, fun h => by cases h⟩
def l3_args : Array Value := #[.int .u16 0, .int .u16 0]
theorem l3_met (os : Os) : laidMet Tryz.prog Rows.modelManyRow.laid ((laidWorld os).forCall (fun _ _ => 0) ⟨#[], l3_args, []⟩).memory :=
 laidMet_of_run' 8 (by kernel_rfl) (by kernel_rfl)
theorem l3_reads (os : Os) {H : Type} (enc : TypeId × Value → H) : ∃ places, DataW.whole enc Tryz.prog ((laidWorld os).forCall (fun _ _ => 0) ⟨#[], l3_args, []⟩).memory Tryz.f3.params.toList Rows.modelManySpec.vars false l3_args.toList 8 = some ([.lit (.int .u16 0), .lit (.int .u16 0)], [], places) :=
 ⟨[], by kernel_rfl⟩
set_option maxRecDepth 100000 in
theorem l3_lifted (os : Os) (started : os.Started) (H : Type) (enc : TypeId × Value → H) (F : Stop.Interp) :
  ReturnsInHanded {} Tryz.checked os 3 .any ((OpenSpec.ofChange Rows.modelManySpec).preRow enc Tryz.prog Tryz.f3 Rows.modelManyRow.domain false Rows.modelManyRow.laid) (((OpenSpec.ofChange Rows.modelManySpec).at F).post enc Tryz.prog Tryz.f3 false true false false) := by
 obtain ⟨places, hx⟩ := l3_reads os enc
 refine returnsInHanded_of_row (C := Tryz.checked) (s := OpenSpec.ofChange Rows.modelManySpec) Tryz.own started (by kernel_rfl) Tryz.func3
  (witness_row_at (enc := enc) (C := Tryz.checked) false (laidWorld os) l3_args rfl (by kernel_rfl) (by kernel_rfl) (by kernel_rfl)
   (OpenSpec.preRow_of_cond 8 hx (by kernel_rfl) (fun k hk => by cases hk) (by kernel_rfl) (l3_met os))) ?_
 intro W base args ds gs before hval hW _ _ _ hL _ _
 exact l3_contract H enc W base args ds gs before hval hW hL
theorem modelMany_said : Rows.ModelManySaid :=
 OpenClaim.holds_of_cond 3 Tryz.f3 rfl rfl rfl rfl rfl rfl rfl ⟨rfl, rfl, rfl, rfl, rfl⟩ rfl rfl rfl rfl rfl (by kernel_rfl) Tryz.func3 (by kernel_rfl)
  (of_decide_eq_true (by kernel_rfl)) (by unfold Func.isWrapper; first | (rw [if_pos (by decide +kernel)]; kernel_rfl) | (rw [if_neg (by decide +kernel)]; exact ⟨rfl, rfl⟩))
  (fun os started H enc _ F => by rw [OpenClaim.pre_eq_preRow]; exact l3_lifted os started H enc F)
theorem l3_plain (f : FuncId) (fn : Func) (hf : Tryz.pinned.checked.prog.funcNamed "jigsaw/jigsawlaw06.ModelMany" = some f) (hfn : Tryz.pinned.checked.prog.funcs[f]? = some fn) :
  false = Tryz.pinned.checked.prog.looks [] ∧ ∀ (j : Nat) t, fn.params[j]? = some t → Tryz.pinned.checked.prog.wantsStandIn t = false := by
 obtain rfl : f = 3 := Option.some.inj ((show Tryz.prog.funcNamed "jigsaw/jigsawlaw06.ModelMany" = some 3 by kernel_rfl).symm.trans hf) |>.symm
 obtain rfl : fn = Tryz.f3 := (Option.some.inj (Tryz.func3.symm.trans hfn)).symm
 refine ⟨by kernel_rfl, fun j t ht => ?_⟩
 rw [Tryz.params3] at ht
 have hm : t ∈ [22, 22] := by simpa using Array.mem_of_getElem? ht
 have hall : ([22, 22].all fun u => !Tryz.prog.wantsStandIn u) = true := by kernel_rfl
 exact (show Tryz.prog.wantsStandIn t = false by simpa using List.all_eq_true.1 hall t hm)
theorem modelMany_card : Rows.ModelManyCardSaid :=
 Claim7.holds_tied_plain_at .later [] _ _ _ _ modelMany_said (fun _ h => by cases h) (by kernel_rfl) (fun _ h => by cases h) modelMany_row_tie rfl ⟨rfl, rfl⟩ (by kernel_rfl) rfl l3_plain (by kernel_rfl)
#print axioms modelMany_card
end Go.Proofs.YtlfdikofmfhefaaGreatDoor
