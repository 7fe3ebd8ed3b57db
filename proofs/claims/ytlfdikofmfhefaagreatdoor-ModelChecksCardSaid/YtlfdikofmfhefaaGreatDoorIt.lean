/-
ModelChecks with the table of math/bits tied to the program's text: proved.
Conditions: none.
-/
import Derived.Test.YtlfdikofmfhefaaGreatDoorIf
import Derived.Test.YtlfdikofmfhefaaGreatDoorIl
set_option linter.unusedVariables false
namespace Go.Proofs.YtlfdikofmfhefaaGreatDoor
open Go.ChangeShapes Go.WideShapes Go.ChangeAt Go.RowKit
def rawV : Value := .agg #[nilS, nilS, nilS, .int .i64 0, .int .i64 0, .int .u8 0, .int .i64 0, nilS, nilS, nilS, nilS, nilS, .int .i64 0, nilS, nilS]
def rawD {H : Type} : DataW H := .agg [.nil, .nil, .nil, .lit (.int .i64 0), .lit (.int .i64 0), .lit (.int .u8 0), conD, .nil]
set_option maxRecDepth 100000 in
theorem l4_contract (H : Type) (enc : TypeId × Value → H) (W : World) (base : Nat) (args : Array Value) (ds gs : List (DataW H)) (before : List MemPlace)
  (hval0 : ∀ (j : Nat) t v, Tryz.f4.params[j]? = some t → args[j]? = some v → Value.okWide Tryz.prog W .any base t v)
  (hW : DataW.Whole enc Tryz.prog Tryz.f4.params.toList Rows.modelChecksSpec.vars false W args.toList ds gs before) (hL : laidMetH Tryz.prog laidL W) :
  Calls Tryz.prog 4 args W fun e W' => ∃ v, e = .returned v ∧ Rows.modelChecksSpec.post enc Tryz.prog Tryz.f4 false true false false W args v W' := by
 have hval := hval0
 have hW' := hW
 obtain ⟨p, q, hA0, hV, rfl, hfz, hnd⟩ := hW
 have hA : DataW.TrodAll enc Tryz.prog W 0 (fun _ => true) true Tryz.f4.params.toList args.toList ds p := hA0
 rw [Tryz.params4] at hA hval
 obtain ⟨v0, d0, rfl, rfl, h0⟩ := trodAll_one hA
 obtain ⟨rfl, rfl⟩ := trodVars_none hV
 obtain ⟨z0, q0, r0⟩ := YtlfdikofmfhefaaGreatDoor.Ev.rds_arg Tryz.underlying42 YtlfdikofmfhefaaGreatDoor.Ev.rds_raw (hval 0 42 v0 rfl rfl) h0
 have hlt := hW'.lt
 refine (YtlfdikofmfhefaaGreatDoor.Ev.law_calls Tryz.func4 (by kernel_rfl) (by kernel_rfl) (YtlfdikofmfhefaaGreatDoor.Ev.law504 z0 q0) (us := [v0]) (inv_laid hL) (.cons r0 .nil)).mono fun e W' ⟨he, hb⟩ => ?_
 subst he
 exact ⟨_, rfl, _, _, _, [], _, [], hW', trodAll_mk1 (shut_bool Tryz.underlying4 true), trodAll_mk1 (Below.trod Tryz.laidOut (by kernel_rfl) (of_decide_eq_true (by kernel_rfl)) h0 hb (fun x hx => hlt x (by simp [hx]))), rfl, hb.frame _, fun h => by cases h⟩
def l4_args : Array Value := #[rawV]
theorem l4_met (os : Os) : laidMet Tryz.prog Rows.modelChecksRow.laid ((laidWorld os).forCall (fun _ _ => 0) ⟨#[], l4_args, []⟩).memory :=
 laidMet_of_run' 8 (by kernel_rfl) (by kernel_rfl)
theorem l4_reads (os : Os) {H : Type} (enc : TypeId × Value → H) : ∃ places, DataW.whole enc Tryz.prog ((laidWorld os).forCall (fun _ _ => 0) ⟨#[], l4_args, []⟩).memory Tryz.f4.params.toList Rows.modelChecksSpec.vars false l4_args.toList 8 = some ([rawD], [], places) :=
 ⟨[], by kernel_rfl⟩
set_option maxRecDepth 100000 in
theorem l4_lifted (os : Os) (started : os.Started) (H : Type) (enc : TypeId × Value → H) (F : Stop.Interp) :
  ReturnsInHanded {} Tryz.checked os 4 .any ((OpenSpec.ofChange Rows.modelChecksSpec).preRow enc Tryz.prog Tryz.f4 Rows.modelChecksRow.domain false Rows.modelChecksRow.laid) (((OpenSpec.ofChange Rows.modelChecksSpec).at F).post enc Tryz.prog Tryz.f4 false true false false) := by
 obtain ⟨places, hx⟩ := l4_reads os enc
 refine returnsInHanded_of_row (C := Tryz.checked) (s := OpenSpec.ofChange Rows.modelChecksSpec) Tryz.own started (by kernel_rfl) Tryz.func4
  (witness_row_at (enc := enc) (C := Tryz.checked) false (laidWorld os) l4_args rfl (by kernel_rfl) (by kernel_rfl) (by kernel_rfl)
   (OpenSpec.preRow_of_cond 8 hx (by kernel_rfl) (fun k hk => by cases hk) (by kernel_rfl) (l4_met os))) ?_
 intro W base args ds gs before hval hW _ _ _ hL _ _
 exact l4_contract H enc W base args ds gs before hval hW hL
theorem modelChecks_said : Rows.ModelChecksSaid :=
 OpenClaim.holds_of_cond 4 Tryz.f4 rfl rfl rfl rfl rfl rfl rfl ⟨rfl, rfl, rfl, rfl, rfl⟩ rfl rfl rfl rfl rfl (by kernel_rfl) Tryz.func4 (by kernel_rfl)
  (of_decide_eq_true (by kernel_rfl)) (by unfold Func.isWrapper; first | (rw [if_pos (by decide +kernel)]; kernel_rfl) | (rw [if_neg (by decide +kernel)]; exact ⟨rfl, rfl⟩))
  (fun os started H enc _ F => by rw [OpenClaim.pre_eq_preRow]; exact l4_lifted os started H enc F)
theorem l4_plain (f : FuncId) (fn : Func) (hf : Tryz.pinned.checked.prog.funcNamed "jigsaw/jigsawlaw06.ModelChecks" = some f) (hfn : Tryz.pinned.checked.prog.funcs[f]? = some fn) :
  false = Tryz.pinned.checked.prog.looks [] ∧ ∀ (j : Nat) t, fn.params[j]? = some t → Tryz.pinned.checked.prog.wantsStandIn t = false := by
 obtain rfl : f = 4 := Option.some.inj ((show Tryz.prog.funcNamed "jigsaw/jigsawlaw06.ModelChecks" = some 4 by kernel_rfl).symm.trans hf) |>.symm
 obtain rfl : fn = Tryz.f4 := (Option.some.inj (Tryz.func4.symm.trans hfn)).symm
 refine ⟨by kernel_rfl, fun j t ht => ?_⟩
 rw [Tryz.params4] at ht
 have hm : t ∈ [42] := by simpa using Array.mem_of_getElem? ht
 have hall : ([42].all fun u => !Tryz.prog.wantsStandIn u) = true := by kernel_rfl
 exact (show Tryz.prog.wantsStandIn t = false by simpa using List.all_eq_true.1 hall t hm)
theorem modelChecks_card : Rows.ModelChecksCardSaid :=
 Claim7.holds_tied_plain_at .later [] _ _ _ _ modelChecks_said (fun _ h => by cases h) (by kernel_rfl) (fun _ h => by cases h) modelChecks_row_tie rfl ⟨rfl, rfl⟩ (by kernel_rfl) rfl l4_plain (by kernel_rfl)
#print axioms modelChecks_card
end Go.Proofs.YtlfdikofmfhefaaGreatDoor
