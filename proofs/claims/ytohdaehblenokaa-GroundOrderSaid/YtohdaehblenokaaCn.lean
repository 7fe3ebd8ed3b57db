/-
A copy of a slice without elements (of numbers, of rows): nil, or an own slice without elements.
Conditions: none.
-/
import Derived.Shelf.SlicesE.Clone
import Derived.Test.YtohdaehblenokaaProg
import Derived.Test.YtohdaehblenokaaAa
import Derived.Test.YtohdaehblenokaaEvR
import Derived.KernelRfl
set_option linter.unusedVariables false
namespace Go.Proofs
open Go Go.Shelf Go.RowKit Go.Lib
def Try.clI_ren : Go.Shelf.Ren :=
 {f := fun x => match x with
   | 41 => 14
   | n => n
  t := fun x => match x with
   | 4 => 4
   | 22 => 27
   | 23 => 3
   | n => n
  g := fun n => n }
theorem Try.clI : SlLaysE0.n41 Try.prog Try.clI_ren where
 mixed := by kernel_rfl
 f41 := ⟨Try.f14.name, by kernel_rfl, by kernel_rfl⟩
 t4 := by kernel_rfl
 a4 := fun w => by kernel_rfl
 z4 := fun w => by kernel_rfl
 v4 := fun w => by kernel_rfl
 t22 := by kernel_rfl
 a22 := fun w => by kernel_rfl
 z22 := fun w => by kernel_rfl
 v22 := fun w => by kernel_rfl
def Try.clR_ren : Go.Shelf.Ren :=
 {f := fun x => match x with
   | 41 => 16
   | n => n
  t := fun x => match x with
   | 4 => 4
   | 22 => 29
   | 23 => 27
   | n => n
  g := fun n => n }
theorem Try.clR : SlLaysE0.n41 Try.prog Try.clR_ren where
 mixed := by kernel_rfl
 f41 := ⟨Try.f16.name, by kernel_rfl, by kernel_rfl⟩
 t4 := by kernel_rfl
 a4 := fun w => by kernel_rfl
 z4 := fun w => by kernel_rfl
 v4 := fun w => by kernel_rfl
 t22 := by kernel_rfl
 a22 := fun w => by kernel_rfl
 z22 := fun w => by kernel_rfl
 v22 := fun w => by kernel_rfl
theorem clone_zero {P : Program} {ρ : Ren} (L : SlLaysE0.n41 P ρ) (i0 : TypeInfo) (z : Value) (size bytes : Nat) (hi : P.info? (ρ.t 23) = some i0) (hz0 : i0.zero = some z) (hz1 : i0.size = size) (hz2 : i0.bytes = bytes) (hzs : z.cells.size = size) (hsz : 0 < size)
  (z23 : ∀ w, (Go.sizeOf (ρ.t 23)).run P w = .ok size w) (ad : Addr) (c : Nat) (w : World) :
  Calls P (ρ.f 41) #[.slice (some ad) 0 c] w fun e w' => ∃ v', e = .returned v' ∧ w'.ownsRow w.heap.size (ρ.t 23) size v' 0 [] ∧ Below w.heap.size w w' := by
 have mixed := L.mixed; have t4 := L.t4; have a4 := L.a4; have z4 := L.z4; have v4 := L.v4; have t22 := L.t22; have a22 := L.a22; have z22 := L.z22; have v22 := L.v22
 have q22 : ∀ (w : World) (a : Option Addr) (n c n' c' : Nat), (binOp .eql (ρ.t 22) (.slice a n c) (.slice none n' c')).run P w = .ok (.bool a.isNone) w := fun w a n c n' c' => Lib.run_eql_slice_nil w _ _ a n c n' c' L.t22
 have u22 : ∀ w, Sem.run P (underlying (ρ.t 22)) w = .ok (TypeDesc.slice (ρ.t 23)) w := run_underlying t22
 obtain ⟨_, _, FG⟩ := L.f41
 go_enter FG, SlBodyN.n41_ntmps ρ
 go_wp2_with (at_builtin; refine wpList_append_own _ rfl _ _ (ρ.t 22) rfl w.heap.size (ρ.t 23) i0 z size bytes t22 hi hz0 hz1 hz2 hzs hsz _ _ _ rfl (World.ownsRow_made w #[] 0 (Nat.le_refl _) (Nat.zero_le _) (by simp)) ad 0 c [] rfl ?qc1 ?qc2 ?qc3 ?qc4 ?qc5 ?qc6 ?_)
 case qc1 => simp
 case qc2 =>
  intro j u hj
  simp at hj
 case qc3 => simp
 case qc4 => simp
 case qc5 => simp
 case qc6 => simp
 intro v' w1 hown hgrow hnil
 go_wp2
 go_ret
 refine ⟨v', rfl, by simpa using hown, ?_⟩
 exact ((Below.refl _ w).alloc (Nat.le_refl _) _).grown hgrow (by simp) (by intro k hk; simp [Value.ownBlock] at hk; omega)
namespace Ytohdaehblenokaa.Ev
theorem clone_empty {P : Program} {I : World → Prop} {g e : Nat} {t : Ty} (hnil : ∀ n c w, Calls P g #[.slice none n c] w fun e w' => e = .returned (.slice none 0 0) ∧ w' = w)
  (hne : ∀ ad c w, Calls P g #[.slice (some ad) 0 c] w fun en w' => ∃ v', en = .returned v' ∧ w'.ownsRow w.heap.size e t.sz v' 0 [] ∧ Below w.heap.size w w')
  (hent : ∀ (vs : Array Value) (w : World), (callFunc g vs).run P w = .ok (.enter g vs) w) : CallSpec P I g [.v (.sl t) []] (.nw e t []) := by
 intro w ok us hI hok ha
 have fin : ∀ (v : Value) (w' : World), w'.ownsRow w.heap.size e t.sz v 0 [] → ResRel w.heap.size ok w' (.nw e t []) v := fun v w' ho => by
  refine ⟨fun _ => False, fun _ => v, ⟨fun k h => h.elim, ?_, fun id r k _ _ _ h => h, ?_⟩, ?_, fun k h => h.elim⟩
  ·intro id r hr
   cases id with
   | zero =>
    simp only [rowsA, rows2, rows1, List.getElem?_cons_zero, Option.some.injEq] at hr
    subst hr
    exact ⟨[], .nil, ho⟩
   | succ id => simp [rowsA, rows2, rows1] at hr
  ·intro i j ri rj k hi hj _ _ _ _
   cases i with
   | zero =>
    cases j with
    | zero => rfl
    | succ j => simp [rowsA, rows2, rows1] at hj
   | succ i => simp [rowsA, rows2, rows1] at hi
  ·show (∃ p n c, v = Value.slice p n c) ∧ v = v
   refine ⟨?_, rfl⟩
   rcases ho.2 with ⟨h1, _⟩ | ⟨b, cap, cur, h1, _⟩
   ·exact ⟨_, _, _, h1⟩
   ·exact ⟨_, _, _, h1⟩
 cases ha with
 | cons h1 h2 =>
  cases h2
  have h1 : Rd w ok (.sl t) ([] : List t.D) _ := h1
  simp only [Rd] at h1
  obtain ⟨a, c, hcs, _, hn, _⟩ := h1
  simp only [List.cons.injEq, and_true] at hcs
  subst hcs
  refine .inl ⟨hent _ _, ?_⟩
  cases a with
  | none =>
   refine (hnil _ _ w).mono fun en w' he => ?_
   obtain ⟨rfl, rfl⟩ := he
   exact ⟨_, rfl, Below.refl _ _, fin _ _ ⟨by simp, .inl ⟨rfl, rfl⟩⟩⟩
  | some ad =>
   refine (hne ad c w).mono fun en w' he => ?_
   obtain ⟨v', rfl, ho, hb⟩ := he
   exact ⟨_, rfl, hb, fin _ _ ho⟩
theorem cloneI_empty {I : World → Prop} : CallSpec Try.prog I 14 [.v (.sl (.int .i64)) []] (.nw 3 (.int .i64) []) :=
 clone_empty (fun n c w => AnyE.slices_Clone_nil Try.clI n c w) (fun ad c w => clone_zero Try.clI ((Try.prog.info? 3).get (by kernel_rfl)) (.int .i64 0) 1 8 (Option.some_get _).symm (by kernel_rfl) (by kernel_rfl) (by kernel_rfl) (by kernel_rfl) (by decide) (fun w => by kernel_rfl) ad c w)
  (fun vs w => callFunc_enter (show Try.prog.funcs[14]? = some Try.f14 by kernel_rfl) (by kernel_rfl) (by kernel_rfl) vs w)
theorem cloneR_empty {I : World → Prop} : CallSpec Try.prog I 16 [.v (.sl (.sl (.int .i64))) []] (.nw 27 (.sl (.int .i64)) []) :=
 clone_empty (fun n c w => AnyE.slices_Clone_nil Try.clR n c w) (fun ad c w => clone_zero Try.clR ((Try.prog.info? 27).get (by kernel_rfl)) (.slice none 0 0) 1 24 (Option.some_get _).symm (by kernel_rfl) (by kernel_rfl) (by kernel_rfl) (by kernel_rfl) (by decide) (fun w => by kernel_rfl) ad c w)
  (fun vs w => callFunc_enter (show Try.prog.funcs[16]? = some Try.f16 by kernel_rfl) (by kernel_rfl) (by kernel_rfl) vs w)
end Ytohdaehblenokaa.Ev
end Go.Proofs
