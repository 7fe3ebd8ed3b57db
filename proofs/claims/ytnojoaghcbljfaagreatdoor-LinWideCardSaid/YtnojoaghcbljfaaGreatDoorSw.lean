/-
LinWide of seat 'b', with the table of math/bits tied to the program's text: proved.
Conditions: none.
-/
import Derived.Test.YtnojoaghcbljfaaGreatDoorBe
import Derived.Test.YtnojoaghcbljfaaGreatDoorYy
set_option linter.unusedVariables false
namespace Go.Proofs.YtnojoaghcbljfaaGreatDoor.Ev
open Go Go.RowKit
abbrev WideT : Ty := .pair (.int .u8) (.pair (.sl (.int .i64)) (.pair (.sl (.sl (.int .i64))) (.int .i64)))
theorem rds_wide : Rds Go.Proofs.Tryz.prog 70 WideT T := rds_weak
 (rds_struct (total := 4) Go.Proofs.Tryz.underlying70 (by kernel_rfl) (rdsF_cons (by kernel_rfl) rds_u8 (rdsF_cons (by kernel_rfl) rds_i64s (rdsF_cons (by kernel_rfl) rds_rows (rdsF_last (by kernel_rfl) rds_i64)))))
 fun z h => trivial
end Go.Proofs.YtnojoaghcbljfaaGreatDoor.Ev
namespace Go.Proofs.YtnojoaghcbljfaaGreatDoor
open Go.ChangeShapes Go.WideShapes Go.ChangeAt Go.RowKit
def wideV : Value := .agg #[.int .u8 0, nilS, nilS, .int .i64 0]
def wideD {H : Type} : DataW H := .agg [.lit (.int .u8 0), .nil, .nil, .lit (.int .i64 0)]
set_option maxRecDepth 100000 in
theorem l13_contract (H : Type) (enc : TypeId × Value → H) (W : World) (base : Nat) (args : Array Value) (ds gs : List (DataW H)) (before : List MemPlace)
  (hval0 : ∀ (j : Nat) t v, Tryz.f13.params[j]? = some t → args[j]? = some v → Value.okWide Tryz.prog W .any base t v)
  (hW : DataW.Whole enc Tryz.prog Tryz.f13.params.toList Rows.linWideSpec.vars false W args.toList ds gs before) (hL : laidMetH Tryz.prog laidL W) :
  Calls Tryz.prog 13 args W fun e W' => ∃ v, e = .returned v ∧ Rows.linWideSpec.post enc Tryz.prog Tryz.f13 false true false false W args v W' := by
 have hval := hval0
 have hW' := hW
 obtain ⟨p, q, hA0, hV, rfl, hfz, hnd⟩ := hW
 have hA : DataW.TrodAll enc Tryz.prog W 0 (fun _ => true) true Tryz.f13.params.toList args.toList ds p := hA0
 rw [Tryz.params13] at hA hval
 obtain ⟨v0, d0, rfl, rfl, h0⟩ := trodAll_one hA
 obtain ⟨rfl, rfl⟩ := trodVars_none hV
 obtain ⟨z0, q0, r0⟩ := YtnojoaghcbljfaaGreatDoor.Ev.rds_arg Tryz.underlying70 YtnojoaghcbljfaaGreatDoor.Ev.rds_wide (hval 0 70 v0 rfl rfl) h0
 have hlt := hW'.lt
 refine (YtnojoaghcbljfaaGreatDoor.Ev.law_calls Tryz.func13 (by kernel_rfl) (by kernel_rfl) (YtnojoaghcbljfaaGreatDoor.Ev.law313 z0.1 z0.2.1 z0.2.2.1 z0.2.2.2) (us := [v0]) (inv_laid hL) (.cons r0 .nil)).mono fun e W' ⟨he, hb⟩ => ?_
 subst he
 exact ⟨_, rfl, _, _, _, [], _, [], hW', trodAll_mk1 (shut_bool Tryz.underlying4 true), trodAll_mk1 (Below.trod Tryz.laidOut (by kernel_rfl) (of_decide_eq_true (by kernel_rfl)) h0 hb (fun x hx => hlt x (by simp [hx]))), rfl, hb.frame _, fun h => by cases h⟩
def l13_args : Array Value := #[wideV]
theorem l13_met (os : Os) : laidMet Tryz.prog Rows.linWideRow.laid ((laidWorld os).forCall (fun _ _ => 0) ⟨#[], l13_args, []⟩).memory :=
 laidMet_of_run' 8 (by kernel_rfl) (by kernel_rfl)
theorem l13_reads (os : Os) {H : Type} (enc : TypeId × Value → H) : ∃ places, DataW.whole enc Tryz.prog ((laidWorld os).forCall (fun _ _ => 0) ⟨#[], l13_args, []⟩).memory Tryz.f13.params.toList Rows.linWideSpec.vars false l13_args.toList 8 = some ([wideD], [], places) :=
 ⟨[], by kernel_rfl⟩
set_option maxRecDepth 100000 in
theorem l13_lifted (os : Os) (started : os.Started) (H : Type) (enc : TypeId × Value → H) (F : Stop.Interp) :
  ReturnsInHanded {} Tryz.checked os 13 .any ((OpenSpec.ofChange Rows.linWideSpec).preRow enc Tryz.prog Tryz.f13 Rows.linWideRow.domain false Rows.linWideRow.laid) (((OpenSpec.ofChange Rows.linWideSpec).at F).post enc Tryz.prog Tryz.f13 false true false false) := by
 obtain ⟨places, hx⟩ := l13_reads os enc
 refine returnsInHanded_of_row (C := Tryz.checked) (s := OpenSpec.ofChange Rows.linWideSpec) Tryz.own started (by kernel_rfl) Tryz.func13
  (witness_row_at (enc := enc) (C := Tryz.checked) false (laidWorld os) l13_args rfl (by kernel_rfl) (by kernel_rfl) (by kernel_rfl)
   (OpenSpec.preRow_of_cond 8 hx (by kernel_rfl) (fun k hk => by cases hk) (by kernel_rfl) (l13_met os))) ?_
 intro W base args ds gs before hval hW _ _ _ hL _ _
 exact l13_contract H enc W base args ds gs before hval hW hL
theorem linWide_said : Rows.LinWideSaid :=
 OpenClaim.holds_of_cond 13 Tryz.f13 rfl rfl rfl rfl rfl rfl rfl ⟨rfl, rfl, rfl, rfl, rfl⟩ rfl rfl rfl rfl rfl (by kernel_rfl) Tryz.func13 (by kernel_rfl)
  (of_decide_eq_true (by kernel_rfl)) (by unfold Func.isWrapper; first | (rw [if_pos (by decide +kernel)]; kernel_rfl) | (rw [if_neg (by decide +kernel)]; exact ⟨rfl, rfl⟩))
  (fun os started H enc _ F => by rw [OpenClaim.pre_eq_preRow]; exact l13_lifted os started H enc F)
theorem l13_plain (f : FuncId) (fn : Func) (hf : Tryz.pinned.checked.prog.funcNamed "jigsaw/jigsawlaw10.LinWide" = some f) (hfn : Tryz.pinned.checked.prog.funcs[f]? = some fn) :
  false = Tryz.pinned.checked.prog.looks [] ∧ ∀ (j : Nat) t, fn.params[j]? = some t → Tryz.pinned.checked.prog.wantsStandIn t = false := by
 obtain rfl : f = 13 := Option.some.inj ((show Tryz.prog.funcNamed "jigsaw/jigsawlaw10.LinWide" = some 13 by kernel_rfl).symm.trans hf) |>.symm
 obtain rfl : fn = Tryz.f13 := (Option.some.inj (Tryz.func13.symm.trans hfn)).symm
 refine ⟨by kernel_rfl, fun j t ht => ?_⟩
 rw [Tryz.params13] at ht
 have hm : t ∈ [70] := by simpa using Array.mem_of_getElem? ht
 have hall : ([70].all fun u => !Tryz.prog.wantsStandIn u) = true := by kernel_rfl
 exact (show Tryz.prog.wantsStandIn t = false by simpa using List.all_eq_true.1 hall t hm)
theorem linWide_card : Rows.LinWideCardSaid :=
 Claim7.holds_tied_plain_at .later [] _ _ _ _ linWide_said (fun _ h => by cases h) (by kernel_rfl) (fun _ h => by cases h) linWide_row_tie rfl ⟨rfl, rfl⟩ (by kernel_rfl) rfl l13_plain (by kernel_rfl)
#print axioms linWide_card
end Go.Proofs.YtnojoaghcbljfaaGreatDoor
