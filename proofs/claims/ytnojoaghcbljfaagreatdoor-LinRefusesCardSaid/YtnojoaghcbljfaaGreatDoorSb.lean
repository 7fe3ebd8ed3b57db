/-
LinRefuses of seat 'b', with the table of math/bits tied to the program's text: proved.
Conditions: none.
-/
import Derived.Test.YtnojoaghcbljfaaGreatDoorBe
import Derived.Test.YtnojoaghcbljfaaGreatDoorNr
set_option linter.unusedVariables false
namespace Go.Proofs.YtnojoaghcbljfaaGreatDoor
open Go.ChangeShapes Go.WideShapes Go.ChangeAt Go.RowKit
set_option maxRecDepth 100000 in
theorem l10_contract (H : Type) (enc : TypeId × Value → H) (W : World) (base : Nat) (args : Array Value) (ds gs : List (DataW H)) (before : List MemPlace)
  (hval0 : ∀ (j : Nat) t v, Tryz.f10.params[j]? = some t → args[j]? = some v → Value.okWide Tryz.prog W .any base t v)
  (hW : DataW.Whole enc Tryz.prog Tryz.f10.params.toList Rows.linRefusesSpec.vars false W args.toList ds gs before) (hL : laidMetH Tryz.prog laidL W) :
  Calls Tryz.prog 10 args W fun e W' => ∃ v, e = .returned v ∧ Rows.linRefusesSpec.post enc Tryz.prog Tryz.f10 false true false false W args v W' := by
 have hval := hval0
 have hW' := hW
 obtain ⟨p, q, hA0, hV, rfl, hfz, hnd⟩ := hW
 have hA : DataW.TrodAll enc Tryz.prog W 0 (fun _ => true) true Tryz.f10.params.toList args.toList ds p := hA0
 rw [Tryz.params10] at hA hval
 obtain ⟨v0, v1, v2, d0, d1, d2, p0, p1, p2, rfl, rfl, rfl, h0, h1, h2⟩ := trodAll_three hA
 obtain ⟨rfl, rfl⟩ := trodVars_none hV
 obtain ⟨z0, q0, r0⟩ := YtnojoaghcbljfaaGreatDoor.Ev.rds_arg Tryz.underlying29 YtnojoaghcbljfaaGreatDoor.Ev.rds_case (hval 0 29 v0 rfl rfl) h0
 obtain ⟨z1, q1, r1⟩ := YtnojoaghcbljfaaGreatDoor.Ev.rds_arg Tryz.underlying32 YtnojoaghcbljfaaGreatDoor.Ev.rds_con (hval 1 32 v1 rfl rfl) h1
 obtain ⟨n2, rfl, rfl, rfl, w2⟩ := open_int Tryz.underlying5 (hval 2 5 v2 rfl rfl) h2
 have q2 : 0 ≤ n2 := (Lit_u8 w2).1
 have hlt := hW'.lt
 refine (YtnojoaghcbljfaaGreatDoor.Ev.law_calls Tryz.func10 (by kernel_rfl) (by kernel_rfl) (YtnojoaghcbljfaaGreatDoor.Ev.law310 z0 z1 n2 q2 (by have := (Lit_u8 w2).2; omega)) (us := [v0, v1, .int .u8 n2]) (inv_laid hL) (.cons r0 (.cons r1 (.cons rfl .nil)))).mono fun e W' ⟨he, hb⟩ => ?_
 subst he
 exact ⟨_, rfl, _, _, _, [], _, [], hW', trodAll_mk1 (shut_bool Tryz.underlying4 true), trodAll_mk3 (Below.trod Tryz.laidOut (by kernel_rfl) (of_decide_eq_true (by kernel_rfl)) h0 hb (fun x hx => hlt x (by simp [hx]))) (Below.trod Tryz.laidOut (by kernel_rfl) (of_decide_eq_true (by kernel_rfl)) h1 hb (fun x hx => hlt x (by simp [hx]))) (shut_int Tryz.underlying5 w2), rfl, hb.frame _, fun h => by cases h⟩
def l10_args : Array Value := #[caseA, conV, .int .u8 0]
theorem l10_met (os : Os) : laidMet Tryz.prog Rows.linRefusesRow.laid ((laidWorld os).forCall (fun _ _ => 0) ⟨#[], l10_args, []⟩).memory :=
 laidMet_of_run' 8 (by kernel_rfl) (by kernel_rfl)
theorem l10_reads (os : Os) {H : Type} (enc : TypeId × Value → H) : ∃ places, DataW.whole enc Tryz.prog ((laidWorld os).forCall (fun _ _ => 0) ⟨#[], l10_args, []⟩).memory Tryz.f10.params.toList Rows.linRefusesSpec.vars false l10_args.toList 8 = some ([caseD, conD, .lit (.int .u8 0)], [], places) :=
 ⟨[], by kernel_rfl⟩
set_option maxRecDepth 100000 in
theorem l10_lifted (os : Os) (started : os.Started) (H : Type) (enc : TypeId × Value → H) (F : Stop.Interp) :
  ReturnsInHanded {} Tryz.checked os 10 .any ((OpenSpec.ofChange Rows.linRefusesSpec).preRow enc Tryz.prog Tryz.f10 Rows.linRefusesRow.domain false Rows.linRefusesRow.laid) (((OpenSpec.ofChange Rows.linRefusesSpec).at F).post enc Tryz.prog Tryz.f10 false true false false) := by
 obtain ⟨places, hx⟩ := l10_reads os enc
 refine returnsInHanded_of_row (C := Tryz.checked) (s := OpenSpec.ofChange Rows.linRefusesSpec) Tryz.own started (by kernel_rfl) Tryz.func10
  (witness_row_at (enc := enc) (C := Tryz.checked) false (laidWorld os) l10_args rfl (by kernel_rfl) (by kernel_rfl) (by kernel_rfl)
   (OpenSpec.preRow_of_cond 8 hx (by kernel_rfl) (fun k hk => by cases hk) (by kernel_rfl) (l10_met os))) ?_
 intro W base args ds gs before hval hW _ _ _ hL _ _
 exact l10_contract H enc W base args ds gs before hval hW hL
theorem linRefuses_said : Rows.LinRefusesSaid :=
 OpenClaim.holds_of_cond 10 Tryz.f10 rfl rfl rfl rfl rfl rfl rfl ⟨rfl, rfl, rfl, rfl, rfl⟩ rfl rfl rfl rfl rfl (by kernel_rfl) Tryz.func10 (by kernel_rfl)
  (of_decide_eq_true (by kernel_rfl)) (by unfold Func.isWrapper; first | (rw [if_pos (by decide +kernel)]; kernel_rfl) | (rw [if_neg (by decide +kernel)]; exact ⟨rfl, rfl⟩))
  (fun os started H enc _ F => by rw [OpenClaim.pre_eq_preRow]; exact l10_lifted os started H enc F)
theorem l10_plain (f : FuncId) (fn : Func) (hf : Tryz.pinned.checked.prog.funcNamed "jigsaw/jigsawlaw10.LinRefuses" = some f) (hfn : Tryz.pinned.checked.prog.funcs[f]? = some fn) :
  false = Tryz.pinned.checked.prog.looks [] ∧ ∀ (j : Nat) t, fn.params[j]? = some t → Tryz.pinned.checked.prog.wantsStandIn t = false := by
 obtain rfl : f = 10 := Option.some.inj ((show Tryz.prog.funcNamed "jigsaw/jigsawlaw10.LinRefuses" = some 10 by kernel_rfl).symm.trans hf) |>.symm
 obtain rfl : fn = Tryz.f10 := (Option.some.inj (Tryz.func10.symm.trans hfn)).symm
 refine ⟨by kernel_rfl, fun j t ht => ?_⟩
 rw [Tryz.params10] at ht
 have hm : t ∈ [29, 32, 5] := by simpa using Array.mem_of_getElem? ht
 have hall : ([29, 32, 5].all fun u => !Tryz.prog.wantsStandIn u) = true := by kernel_rfl
 exact (show Tryz.prog.wantsStandIn t = false by simpa using List.all_eq_true.1 hall t hm)
theorem linRefuses_card : Rows.LinRefusesCardSaid :=
 Claim7.holds_tied_plain_at .later [] _ _ _ _ linRefuses_said (fun _ h => by cases h) (by kernel_rfl) (fun _ h => by cases h) linRefuses_row_tie rfl ⟨rfl, rfl⟩ (by kernel_rfl) rfl l10_plain (by kernel_rfl)
#print axioms linRefuses_card
end Go.Proofs.YtnojoaghcbljfaaGreatDoor
