/-
Seat 'a': elem.Filter's answer is the document's: the plain law.
Conditions: what is made of plain data.
-/
import Derived.Test.YthdpbmcidebagaaGreatDoorAz
set_option linter.unusedVariables false
set_option linter.unusedSimpArgs false
set_option maxRecDepth 100000
namespace Go.Proofs.YthdpbmcidebagaaGreatDoor.Ev
open Go

/-- Numbers of 8 bits. -/
def U8s (l : List Int) : Prop := ∀ x ∈ l, 0 ≤ x ∧ x < 256
theorem numbers_length (l : List Int) (f n least wide : Int) : (numbersL l f n least wide).length = n.toNat := by unfold numbersL; simp
/-- An Element as it is made. -/
structure ElemC (c : Con) : Prop where
  kind : c.1 = 11
  a : c.2.1.length = 2
  ar : ∀ x ∈ c.2.1, 0 ≤ x ∧ x < 256
  b : c.2.2.1 = []
  c1 : 1 ≤ c.2.2.2.1.length
  c2 : c.2.2.2.1.length ≤ 64
  cr : ∀ x ∈ c.2.2.2.1, -5 < x ∧ x < 5
  rest : c.2.2.2.2 = ([], [], 0, [])
/-! ### domains of lists -/
theorem smallDom_ok {w : Int} {l : List Int} (h : SmallDom w l) (hw : w ≤ 1000) : okL l = true := okL_small h.ne (fun x hx => by have := h.abs x hx; omega)
theorem listB_of {l : List Int} (h : okL l = true) : listB (ofD l).1 = true := listB_wf (wf_ofD h)

/-! ### rows of two values -/
/-! ### what stands at a place -/
end Go.Proofs.YthdpbmcidebagaaGreatDoor.Ev
