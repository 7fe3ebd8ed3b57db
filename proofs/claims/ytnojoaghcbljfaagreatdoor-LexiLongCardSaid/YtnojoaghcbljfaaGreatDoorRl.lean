/-
LexiLong of seat 'b', with the table of math/bits tied to the program's text: proved.
Conditions: none.
-/
import Derived.Test.YtnojoaghcbljfaaGreatDoorBe
import Derived.Test.YtnojoaghcbljfaaGreatDoorYy
set_option linter.unusedVariables false
namespace Go.Proofs.YtnojoaghcbljfaaGreatDoor.Ev
open Go Go.RowKit
abbrev WideT : Ty := .pair (.int .u8) (.pair (.int .u8) (.pair (.sl (.int .i8)) (.sl (.int .i8))))
theorem rds_wide : Rds Go.Proofs.Tryz.prog 65 WideT (fun (z : Int × Int × List Int × List Int) => (0 ≤ z.1 ∧ z.1 < 256) ∧ (0 ≤ z.2.1 ∧ z.2.1 < 256) ∧ I8s z.2.2.1 ∧ I8s z.2.2.2) := rds_weak
 (rds_struct (total := 4) Go.Proofs.Tryz.underlying65 (by kernel_rfl) (rdsF_cons (by kernel_rfl) rds_u8 (rdsF_cons (by kernel_rfl) rds_u8 (rdsF_cons (by kernel_rfl) rds_i8s (rdsF_last (by kernel_rfl) rds_i8s)))))
 fun z h => h
end Go.Proofs.YtnojoaghcbljfaaGreatDoor.Ev
namespace Go.Proofs.YtnojoaghcbljfaaGreatDoor
open Go.ChangeShapes Go.WideShapes Go.ChangeAt Go.RowKit
def wideV : Value := .agg #[.int .u8 0, .int .u8 0, nilS, nilS]
def wideD {H : Type} : DataW H := .agg [.lit (.int .u8 0), .lit (.int .u8 0), .nil, .nil]
set_option maxRecDepth 100000 in
theorem l8_contract (H : Type) (enc : TypeId × Value → H) (W : World) (base : Nat) (args : Array Value) (ds gs : List (DataW H)) (before : List MemPlace)
  (hval0 : ∀ (j : Nat) t v, Tryz.f8.params[j]? = some t → args[j]? = some v → Value.okWide Tryz.prog W .any base t v)
  (hW : DataW.Whole enc Tryz.prog Tryz.f8.params.toList Rows.lexiLongSpec.vars false W args.toList ds gs before) (hL : laidMetH Tryz.prog laidL W) :
  Calls Tryz.prog 8 args W fun e W' => ∃ v, e = .returned v ∧ Rows.lexiLongSpec.post enc Tryz.prog Tryz.f8 false true false false W args v W' := by
 have hval := hval0
 have hW' := hW
 obtain ⟨p, q, hA0, hV, rfl, hfz, hnd⟩ := hW
 have hA : DataW.TrodAll enc Tryz.prog W 0 (fun _ => true) true Tryz.f8.params.toList args.toList ds p := hA0
 rw [Tryz.params8] at hA hval
 obtain ⟨v0, d0, rfl, rfl, h0⟩ := trodAll_one hA
 obtain ⟨rfl, rfl⟩ := trodVars_none hV
 obtain ⟨z0, q0, r0⟩ := YtnojoaghcbljfaaGreatDoor.Ev.rds_arg Tryz.underlying65 YtnojoaghcbljfaaGreatDoor.Ev.rds_wide (hval 0 65 v0 rfl rfl) h0
 have hlt := hW'.lt
 refine (YtnojoaghcbljfaaGreatDoor.Ev.law_calls Tryz.func8 (by kernel_rfl) (by kernel_rfl) (YtnojoaghcbljfaaGreatDoor.Ev.law308 z0 q0.1 q0.2.1 q0.2.2.1 q0.2.2.2) (us := [v0]) (inv_laid hL) (.cons r0 .nil)).mono fun e W' ⟨he, hb⟩ => ?_
 subst he
 exact ⟨_, rfl, _, _, _, [], _, [], hW', trodAll_mk1 (shut_bool Tryz.underlying4 true), trodAll_mk1 (Below.trod Tryz.laidOut (by kernel_rfl) (of_decide_eq_true (by kernel_rfl)) h0 hb (fun x hx => hlt x (by simp [hx]))), rfl, hb.frame _, fun h => by cases h⟩
def l8_args : Array Value := #[wideV]
theorem l8_met (os : Os) : laidMet Tryz.prog Rows.lexiLongRow.laid ((laidWorld os).forCall (fun _ _ => 0) ⟨#[], l8_args, []⟩).memory :=
 laidMet_of_run' 8 (by kernel_rfl) (by kernel_rfl)
theorem l8_reads (os : Os) {H : Type} (enc : TypeId × Value → H) : ∃ places, DataW.whole enc Tryz.prog ((laidWorld os).forCall (fun _ _ => 0) ⟨#[], l8_args, []⟩).memory Tryz.f8.params.toList Rows.lexiLongSpec.vars false l8_args.toList 8 = some ([wideD], [], places) :=
 ⟨[], by kernel_rfl⟩
set_option maxRecDepth 100000 in
theorem l8_lifted (os : Os) (started : os.Started) (H : Type) (enc : TypeId × Value → H) (F : Stop.Interp) :
  ReturnsInHanded {} Tryz.checked os 8 .any ((OpenSpec.ofChange Rows.lexiLongSpec).preRow enc Tryz.prog Tryz.f8 Rows.lexiLongRow.domain false Rows.lexiLongRow.laid) (((OpenSpec.ofChange Rows.lexiLongSpec).at F).post enc Tryz.prog Tryz.f8 false true false false) := by
 obtain ⟨places, hx⟩ := l8_reads os enc
 refine returnsInHanded_of_row (C := Tryz.checked) (s := OpenSpec.ofChange Rows.lexiLongSpec) Tryz.own started (by kernel_rfl) Tryz.func8
  (witness_row_at (enc := enc) (C := Tryz.checked) false (laidWorld os) l8_args rfl (by kernel_rfl) (by kernel_rfl) (by kernel_rfl)
   (OpenSpec.preRow_of_cond 8 hx (by kernel_rfl) (fun k hk => by cases hk) (by kernel_rfl) (l8_met os))) ?_
 intro W base args ds gs before hval hW _ _ _ hL _ _
 exact l8_contract H enc W base args ds gs before hval hW hL
theorem lexiLong_said : Rows.LexiLongSaid :=
 OpenClaim.holds_of_cond 8 Tryz.f8 rfl rfl rfl rfl rfl rfl rfl ⟨rfl, rfl, rfl, rfl, rfl⟩ rfl rfl rfl rfl rfl (by kernel_rfl) Tryz.func8 (by kernel_rfl)
  (of_decide_eq_true (by kernel_rfl)) (by unfold Func.isWrapper; first | (rw [if_pos (by decide +kernel)]; kernel_rfl) | (rw [if_neg (by decide +kernel)]; exact ⟨rfl, rfl⟩))
  (fun os started H enc _ F => by rw [OpenClaim.pre_eq_preRow]; exact l8_lifted os started H enc F)
theorem l8_plain (f : FuncId) (fn : Func) (hf : Tryz.pinned.checked.prog.funcNamed "jigsaw/jigsawlaw21.LexiLong" = some f) (hfn : Tryz.pinned.checked.prog.funcs[f]? = some fn) :
  false = Tryz.pinned.checked.prog.looks [] ∧ ∀ (j : Nat) t, fn.params[j]? = some t → Tryz.pinned.checked.prog.wantsStandIn t = false := by
 obtain rfl : f = 8 := Option.some.inj ((show Tryz.prog.funcNamed "jigsaw/jigsawlaw21.LexiLong" = some 8 by kernel_rfl).symm.trans hf) |>.symm
 obtain rfl : fn = Tryz.f8 := (Option.some.inj (Tryz.func8.symm.trans hfn)).symm
 refine ⟨by kernel_rfl, fun j t ht => ?_⟩
 rw [Tryz.params8] at ht
 have hm : t ∈ [65] := by simpa using Array.mem_of_getElem? ht
 have hall : ([65].all fun u => !Tryz.prog.wantsStandIn u) = true := by kernel_rfl
 exact (show Tryz.prog.wantsStandIn t = false by simpa using List.all_eq_true.1 hall t hm)
theorem lexiLong_card : Rows.LexiLongCardSaid :=
 Claim7.holds_tied_plain_at .later [] _ _ _ _ lexiLong_said (fun _ h => by cases h) (by kernel_rfl) (fun _ h => by cases h) lexiLong_row_tie rfl ⟨rfl, rfl⟩ (by kernel_rfl) rfl l8_plain (by kernel_rfl)
#print axioms lexiLong_card
end Go.Proofs.YtnojoaghcbljfaaGreatDoor
