/-
CumulFixed of seat 'b', with the table of math/bits tied to the program's text: proved.
Conditions: none.
-/
import Derived.Test.YtdihbphkbdelbaaGreatDoorBe
import Derived.Test.YtdihbphkbdelbaaGreatDoorMy
set_option linter.unusedVariables false
namespace Go.Proofs.YtdihbphkbdelbaaGreatDoor
open Go.ChangeShapes Go.WideShapes Go.ChangeAt Go.RowKit
set_option maxRecDepth 100000 in
theorem l9_contract (H : Type) (enc : TypeId × Value → H) (W : World) (base : Nat) (args : Array Value) (ds gs : List (DataW H)) (before : List MemPlace)
  (hval0 : ∀ (j : Nat) t v, Tryz.f9.params[j]? = some t → args[j]? = some v → Value.okWide Tryz.prog W .any base t v)
  (hW : DataW.Whole enc Tryz.prog Tryz.f9.params.toList Rows.cumulFixedSpec.vars false W args.toList ds gs before) (hL : laidMetH Tryz.prog laidL W) :
  Calls Tryz.prog 9 args W fun e W' => ∃ v, e = .returned v ∧ Rows.cumulFixedSpec.post enc Tryz.prog Tryz.f9 false true false false W args v W' := by
 have hval := hval0
 have hW' := hW
 obtain ⟨p, q, hA0, hV, rfl, hfz, hnd⟩ := hW
 have hA : DataW.TrodAll enc Tryz.prog W 0 (fun _ => true) true Tryz.f9.params.toList args.toList ds p := hA0
 rw [Tryz.params9] at hA hval
 obtain ⟨v0, v1, v2, d0, d1, d2, p0, p1, p2, rfl, rfl, rfl, h0, h1, h2⟩ := trodAll_three hA
 obtain ⟨rfl, rfl⟩ := trodVars_none hV
 obtain ⟨z0, q0, r0⟩ := YtdihbphkbdelbaaGreatDoor.Ev.rds_arg Tryz.underlying64 YtdihbphkbdelbaaGreatDoor.Ev.rds_small (hval 0 64 v0 rfl rfl) h0
 obtain ⟨n1, rfl, rfl, rfl, w1⟩ := open_int Tryz.underlying5 (hval 1 5 v1 rfl rfl) h1
 have q1 : 0 ≤ n1 := (Lit_u8 w1).1
 obtain ⟨z2, q2, r2⟩ := YtdihbphkbdelbaaGreatDoor.Ev.rds_row Tryz.underlying61 YtdihbphkbdelbaaGreatDoor.Ev.rds_i8s (hval 2 61 v2 rfl rfl) h2
 have hlt := hW'.lt
 refine (YtdihbphkbdelbaaGreatDoor.Ev.law_calls Tryz.func9 (by kernel_rfl) (by kernel_rfl) (YtdihbphkbdelbaaGreatDoor.Ev.law509 z0 n1 z2 q0.1 q2) (us := [v0, .int .u8 n1, v2]) (inv_laid hL) (.cons r0 (.cons rfl (.cons r2 .nil)))).mono fun e W' ⟨he, hb⟩ => ?_
 subst he
 exact ⟨_, rfl, _, _, _, [], _, [], hW', trodAll_mk1 (shut_bool Tryz.underlying4 true), trodAll_mk3 (Below.trod Tryz.laidOut (by kernel_rfl) (of_decide_eq_true (by kernel_rfl)) h0 hb (fun x hx => hlt x (by simp [hx]))) (shut_int Tryz.underlying5 w1) (Below.trod Tryz.laidOut (by kernel_rfl) (of_decide_eq_true (by kernel_rfl)) h2 hb (fun x hx => hlt x (by simp [hx]))), rfl, hb.frame _, fun h => by cases h⟩
def l9_args : Array Value := #[smallV, .int .u8 0, nilS]
theorem l9_met (os : Os) : laidMet Tryz.prog Rows.cumulFixedRow.laid ((laidWorld os).forCall (fun _ _ => 0) ⟨#[], l9_args, []⟩).memory :=
 laidMet_of_run' 8 (by kernel_rfl) (by kernel_rfl)
theorem l9_reads (os : Os) {H : Type} (enc : TypeId × Value → H) : ∃ places, DataW.whole enc Tryz.prog ((laidWorld os).forCall (fun _ _ => 0) ⟨#[], l9_args, []⟩).memory Tryz.f9.params.toList Rows.cumulFixedSpec.vars false l9_args.toList 8 = some ([smallD, .lit (.int .u8 0), .nil], [], places) :=
 ⟨[], by kernel_rfl⟩
set_option maxRecDepth 100000 in
theorem l9_lifted (os : Os) (started : os.Started) (H : Type) (enc : TypeId × Value → H) (F : Stop.Interp) :
  ReturnsInHanded {} Tryz.checked os 9 .any ((OpenSpec.ofChange Rows.cumulFixedSpec).preRow enc Tryz.prog Tryz.f9 Rows.cumulFixedRow.domain false Rows.cumulFixedRow.laid) (((OpenSpec.ofChange Rows.cumulFixedSpec).at F).post enc Tryz.prog Tryz.f9 false true false false) := by
 obtain ⟨places, hx⟩ := l9_reads os enc
 refine returnsInHanded_of_row (C := Tryz.checked) (s := OpenSpec.ofChange Rows.cumulFixedSpec) Tryz.own started (by kernel_rfl) Tryz.func9
  (witness_row_at (enc := enc) (C := Tryz.checked) false (laidWorld os) l9_args rfl (by kernel_rfl) (by kernel_rfl) (by kernel_rfl)
   (OpenSpec.preRow_of_cond 8 hx (by kernel_rfl) (fun k hk => by cases hk) (by kernel_rfl) (l9_met os))) ?_
 intro W base args ds gs before hval hW _ _ _ hL _ _
 exact l9_contract H enc W base args ds gs before hval hW hL
theorem cumulFixed_said : Rows.CumulFixedSaid :=
 OpenClaim.holds_of_cond 9 Tryz.f9 rfl rfl rfl rfl rfl rfl rfl ⟨rfl, rfl, rfl, rfl, rfl⟩ rfl rfl rfl rfl rfl (by kernel_rfl) Tryz.func9 (by kernel_rfl)
  (of_decide_eq_true (by kernel_rfl)) (by unfold Func.isWrapper; first | (rw [if_pos (by decide +kernel)]; kernel_rfl) | (rw [if_neg (by decide +kernel)]; exact ⟨rfl, rfl⟩))
  (fun os started H enc _ F => by rw [OpenClaim.pre_eq_preRow]; exact l9_lifted os started H enc F)
theorem l9_plain (f : FuncId) (fn : Func) (hf : Tryz.pinned.checked.prog.funcNamed "jigsaw/jigsawlaw18.CumulFixed" = some f) (hfn : Tryz.pinned.checked.prog.funcs[f]? = some fn) :
  false = Tryz.pinned.checked.prog.looks [] ∧ ∀ (j : Nat) t, fn.params[j]? = some t → Tryz.pinned.checked.prog.wantsStandIn t = false := by
 obtain rfl : f = 9 := Option.some.inj ((show Tryz.prog.funcNamed "jigsaw/jigsawlaw18.CumulFixed" = some 9 by kernel_rfl).symm.trans hf) |>.symm
 obtain rfl : fn = Tryz.f9 := (Option.some.inj (Tryz.func9.symm.trans hfn)).symm
 refine ⟨by kernel_rfl, fun j t ht => ?_⟩
 rw [Tryz.params9] at ht
 have hm : t ∈ [64, 5, 61] := by simpa using Array.mem_of_getElem? ht
 have hall : ([64, 5, 61].all fun u => !Tryz.prog.wantsStandIn u) = true := by kernel_rfl
 exact (show Tryz.prog.wantsStandIn t = false by simpa using List.all_eq_true.1 hall t hm)
theorem cumulFixed_card : Rows.CumulFixedCardSaid :=
 Claim7.holds_tied_plain_at .later [] _ _ _ _ cumulFixed_said (fun _ h => by cases h) (by kernel_rfl) (fun _ h => by cases h) cumulFixed_row_tie rfl ⟨rfl, rfl⟩ (by kernel_rfl) rfl l9_plain (by kernel_rfl)
#print axioms cumulFixed_card
end Go.Proofs.YtdihbphkbdelbaaGreatDoor
