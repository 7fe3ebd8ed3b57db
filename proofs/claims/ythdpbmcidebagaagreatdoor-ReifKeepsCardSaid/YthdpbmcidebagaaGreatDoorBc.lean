/-
Seat 'a': ElemFilters is true: what the law's function answers.
Conditions: the numbers of the constraint's first list are of 8 bits.
-/
import Derived.Test.YthdpbmcidebagaaGreatDoorBb
set_option linter.unusedVariables false
set_option linter.unusedSimpArgs false
set_option maxRecDepth 100000
namespace Go.Proofs.YthdpbmcidebagaaGreatDoor.Ev
open Go

theorem kindE_eq (n : Int) : kindE n = 11 := by
  unfold kindE
  rw [Int.zero_mul]
  rfl
theorem two_of {α : Type} {l : List α} (h : l.length = 2) : ∃ a b, l = [a, b] := by
  match l, h with
  | [a, b], _ => exact ⟨a, b, rfl⟩
theorem makeE (z : Case) (hz : U8s z.1.2.1) : makeB z 11 6 = true ∧ ElemC (makeC z 11) ∧ ∃ a b, makeL z 11 6 = [a, b] ∧ SmallDom 6 a ∧ SmallDom 6 b := by
  refine ⟨rfl, elem_conC z.1.2 5 hz (by omega) (by omega), ?_⟩
  obtain ⟨a, b, e⟩ := two_of (make_len z 11 6)
  have := make_dom (z := z) (k := 11) (w := 6) (by omega)
  rw [e] at this
  exact ⟨a, b, e, this a (by simp), this b (by simp)⟩
theorem keep_len {rows : List (List Int)} {i : Nat} {l : List Int} : (keepV rows i l).length ≤ l.length := List.length_filter_le _ _
theorem lens_two {a b : List Int} (ha : a.length ≤ 1000) (hb : b.length ≤ 1000) : (Nat.ble [a, b].length 1000 && lensB [a, b]) = true := by
  have h1 : Nat.ble a.length 1000000 = true := by rw [Nat.ble_eq]; omega
  have h2 : Nat.ble b.length 1000000 = true := by rw [Nat.ble_eq]; omega
  unfold lensB
  simp only [List.all_cons, List.all_nil, h1, h2]
  rfl
theorem exact_lens {c : Con} (h : ElemC c) {a b : List Int} (sa : SmallDom 6 a) (sb : SmallDom 6 b) : (Nat.ble (exactL c [a, b] 4000).1.length 1000 && lensB (exactL c [a, b] 4000).1) = true := by
  rw [exact_elem h sa.len sb.len sa.ne sb.ne]
  split
  · rfl
  · have h1 := keep_len (rows := rowsE c a b) (i := 0) (l := a)
    have h2 := keep_len (rows := rowsE c a b) (i := 1) (l := b)
    exact lens_two (by have := sa.len; omega) (by have := sb.len; omega)
theorem F3.sem (k : Nat) (z : Case) (n : Int) (hz : U8s z.1.2.1) : callW F3.E false F3.fn k [.agg (explode CaseT z), .v (.int .u8) n] = some (.v .bool true) := by
  have st := F3.start_eq k z n
  obtain ⟨hm, hc, a, b, e, sa, sb⟩ := makeE z hz
  have hk := kindE_eq n
  rw [hk] at st
  rw [hm, e] at st
  generalize makeC z 11 = c at st hc
  obtain ⟨h1, h2⟩ := sol_elem hc sa.len sb.len sa.ne sb.ne
  have ha := smallDom_ok sa (by omega)
  have hb := smallDom_ok sb (by omega)
  have ed : domsL [a, b] = [(ofD a).1, (ofD b).1] := rfl
  have hf := (fits_elem hc ha hb).2
  have fl := elem_filters hc sa sb
  have el := exact_lens hc sa sb
  rw [← fl.same] at el
  rw [h1, h2, ed, hf] at st
  have e1 : Nat.ble [a, b].length 1000 = true := rfl
  have e2 : ((elemF c [(ofD a).1, (ofD b).1]).2 == (exactL c [a, b] 4000).2) = true := by rw [fl.ok]; cases (exactL c [a, b] 4000).2 <;> rfl
  have e3 : (Nat.ble (elemF c [(ofD a).1, (ofD b).1]).1.length 1000 && (elemF c [(ofD a).1, (ofD b).1]).1.all listB) = true := by
    rw [fl.lb, Bool.and_true, Nat.ble_eq]
    exact fl.ln
  have e4 : sameL (listsL (elemF c [(ofD a).1, (ofD b).1]).1) (exactL c [a, b] 4000).1 = true := by
    rw [fl.same]
    unfold sameL
    exact decide_eq_true rfl
  rw [e1, e2, e3, el, e4] at st
  exact st
end Go.Proofs.YthdpbmcidebagaaGreatDoor.Ev
