/-
Seat 'a': elem.Filter's answer is the document's: the plain laws.
Conditions: what is made of plain data.
-/
import Derived.Test.YthdpbmcidebagaaGreatDoorBa
import Derived.Test.YthdpbmcidebagaaGreatDoorBo
set_option linter.unusedVariables false
set_option linter.unusedSimpArgs false
set_option maxRecDepth 100000
namespace Go.Proofs.YthdpbmcidebagaaGreatDoor.Ev
open Go

def near3 (l : List Int) : Prop := ∀ x ∈ l, -1000 ≤ x ∧ x ≤ 1000
def atL (c : Con) (a b : List Int) : List Int := (elemGo (ofD a).1 (ofD b).1 0 c.2.2.2.1).1
def whatL (c : Con) (a b : List Int) : List Int := (elemGo (ofD a).1 (ofD b).1 0 c.2.2.2.1).2
theorem at_mem {c : Con} {a b : List Int} (ha : okL a = true) (hb : okL b = true) (x : Int) : x ∈ atL c a b ↔ x ∈ a ∧ 1 ≤ x ∧ x ≤ c.2.2.2.1.length ∧ c.2.2.2.1.getD (x - 1).toNat 0 ∈ b := by
  unfold atL
  rw [(elemGo_mem _ _ _ 0 (by omega)).1]
  constructor
  · rintro ⟨k, hk, rfl, h1, h2⟩
    rw [has_ofD ha] at h1
    rw [has_ofD hb] at h2
    have e : (0 + (k : Int) + 1 - 1).toNat = k := by omega
    rw [e]
    exact ⟨of_decide_eq_true h1, by omega, by omega, of_decide_eq_true h2⟩
  · rintro ⟨h1, h2, h3, h4⟩
    have e : 0 + (((x - 1).toNat : Nat) : Int) + 1 = x := by omega
    refine ⟨(x - 1).toNat, by omega, by omega, ?_, ?_⟩
    · rw [has_ofD ha, decide_eq_true h1]
    · rw [has_ofD hb, decide_eq_true h4]
theorem what_mem {c : Con} {a b : List Int} (ha : okL a = true) (hb : okL b = true) (y : Int) : y ∈ whatL c a b ↔ y ∈ b ∧ ∃ x, x ∈ a ∧ 1 ≤ x ∧ x ≤ c.2.2.2.1.length ∧ c.2.2.2.1.getD (x - 1).toNat 0 = y := by
  unfold whatL
  rw [(elemGo_mem _ _ _ 0 (by omega)).2]
  constructor
  · rintro ⟨k, hk, rfl, h1, h2⟩
    rw [has_ofD ha] at h1
    rw [has_ofD hb] at h2
    have e : (0 + (k : Int) + 1 - 1).toNat = k := by omega
    exact ⟨of_decide_eq_true h2, 0 + (k : Int) + 1, of_decide_eq_true h1, by omega, by omega, by rw [e]⟩
  · rintro ⟨h1, x, h2, h3, h4, h5⟩
    refine ⟨(x - 1).toNat, by omega, h5.symm, ?_, ?_⟩
    · have e : 0 + (((x - 1).toNat : Nat) : Int) + 1 = x := by omega
      rw [e, has_ofD ha, decide_eq_true h2]
    · rw [has_ofD hb, decide_eq_true h1]
theorem at_empty (c : Con) (a b : List Int) : atL c a b = [] ↔ whatL c a b = [] := by
  have := elemGo_len (ofD a).1 (ofD b).1 c.2.2.2.1 0
  unfold atL whatL
  rw [← List.length_eq_zero_iff, ← List.length_eq_zero_iff, this]
theorem fits_elem {c : Con} (h : ElemC c) {a b : List Int} (ha : okL a = true) (hb : okL b = true) : fitsD c [(ofD a).1, (ofD b).1] 11 11 = true ∧ filtB 11 11 c [(ofD a).1, (ofD b).1] = true := by
  obtain ⟨h1, h2⟩ := right_elem h
  constructor
  · unfold fitsD lenCB
    have e1 : emptyD (ofD a).1 = false := by unfold emptyD; simp [size_ofD ha]
    have e2 : emptyD (ofD b).1 = false := by unfold emptyD; simp [size_ofD hb]
    rw [h1, h.kind, h.a, h.b]
    simp only [List.any_cons, List.any_nil, e1, e2]
    rfl
  · unfold filtB fitsB
    rw [h2]
    simp only [List.all_cons, List.all_nil, listB_of ha, listB_of hb]
    simp
/-- elem.Filter of the domains of two lists. -/
theorem elemF_of {c : Con} (h : ElemC c) {a b : List Int} (ha : okL a = true) (hb : okL b = true) : elemF c [(ofD a).1, (ofD b).1] = madeAll [atL c a b, whatL c a b] := by
  unfold elemF
  rw [(fits_elem h ha hb).1]
  rfl
theorem okL_nil : okL [] = false := rfl
theorem sub_near {l m : List Int} (h : near3 m) (hs : ∀ x ∈ l, x ∈ m) : near3 l := fun x hx => h x (hs x hx)
/-- Both outcomes. -/
theorem elemF_two {c : Con} (h : ElemC c) {a b : List Int} (ha : okL a = true) (hb : okL b = true) (na : near3 a) (nb : near3 b) :
    (atL c a b = [] ∧ elemF c [(ofD a).1, (ofD b).1] = ([], false)) ∨
    (atL c a b ≠ [] ∧ okL (atL c a b) = true ∧ okL (whatL c a b) = true ∧ near3 (atL c a b) ∧ near3 (whatL c a b) ∧ elemF c [(ofD a).1, (ofD b).1] = ([(ofD (atL c a b)).1, (ofD (whatL c a b)).1], true)) := by
  rw [elemF_of h ha hb]
  by_cases he : atL c a b = []
  · left
    refine ⟨he, ?_⟩
    have hw := (at_empty c a b).mp he
    rw [he, hw]
    rfl
  · right
    have hw : whatL c a b ≠ [] := fun e => he ((at_empty c a b).mpr e)
    have n1 : near3 (atL c a b) := sub_near na (fun x hx => ((at_mem ha hb x).mp hx).1)
    have n2 : near3 (whatL c a b) := sub_near nb (fun x hx => ((what_mem ha hb x).mp hx).1)
    have o1 := okL_small he n1
    have o2 := okL_small hw n2
    refine ⟨he, o1, o2, n1, n2, ?_⟩
    unfold madeAll
    simp only [List.all_cons, List.all_nil, o1, o2]
    rfl
/-! ### the document's answer -/
def rowsE (c : Con) (a b : List Int) : List (List Int) := (prodL [a, b]).filter (holdsC (localC c))
theorem rows_mem {c : Con} (h : ElemC c) {a b : List Int} (ha : a ≠ []) (hb : b ≠ []) (r : List Int) : r ∈ rowsE c a b ↔ ∃ x y, x ∈ a ∧ y ∈ b ∧ r = [x, y] ∧ 1 ≤ x ∧ x ≤ c.2.2.2.1.length ∧ c.2.2.2.1.getD (x - 1).toNat 0 = y := by
  unfold rowsE
  rw [List.mem_filter, prod_two ha hb]
  constructor
  · rintro ⟨⟨x, y, hx, hy, rfl⟩, hh⟩
    exact ⟨x, y, hx, hy, rfl, (holds_elem h x y).2.mp hh⟩
  · rintro ⟨x, y, hx, hy, rfl, hh⟩
    exact ⟨⟨x, y, hx, hy, rfl⟩, (holds_elem h x y).2.mpr hh⟩
theorem sol_elem {c : Con} (h : ElemC c) {a b : List Int} (la : a.length ≤ 6) (lb : b.length ≤ 6) (ha : a ≠ []) (hb : b ≠ []) : solB c [a, b] 4000 = true ∧ solL c [a, b] 4000 = (rowsE c a b, true) := by
  have hm := many_two la lb
  constructor
  · unfold solB
    rw [productB_two la lb ha hb]
    have e1 : localB c = true := by
      unfold localB
      rw [h.a, h.b]
      rfl
    rw [e1]
    simp only [Bool.true_and, Bool.or_eq_true, List.all_eq_true]
    right
    intro r hr
    obtain ⟨x, y, _, _, rfl⟩ := (prod_two ha hb r).mp hr
    exact (holds_elem h x y).1
  · unfold solL
    rw [hm]
    rfl
theorem keep0_mem {c : Con} (h : ElemC c) {a b : List Int} (ha : a ≠ []) (hb : b ≠ []) (v : Int) : v ∈ keepV (rowsE c a b) 0 a ↔ v ∈ a ∧ 1 ≤ v ∧ v ≤ c.2.2.2.1.length ∧ c.2.2.2.1.getD (v - 1).toNat 0 ∈ b := by
  unfold keepV
  rw [List.mem_filter, List.any_eq_true]
  constructor
  · rintro ⟨h1, r, hr, he⟩
    obtain ⟨x, y, hx, hy, rfl, g1, g2, g3⟩ := (rows_mem h ha hb r).mp hr
    have : x = v := of_decide_eq_true he
    subst this
    exact ⟨h1, g1, g2, by rw [g3]; exact hy⟩
  · rintro ⟨h1, h2, h3, h4⟩
    exact ⟨h1, [v, c.2.2.2.1.getD (v - 1).toNat 0], (rows_mem h ha hb _).mpr ⟨v, _, h1, h4, rfl, h2, h3, rfl⟩, decide_eq_true rfl⟩
theorem keep1_mem {c : Con} (h : ElemC c) {a b : List Int} (ha : a ≠ []) (hb : b ≠ []) (y : Int) : y ∈ keepV (rowsE c a b) 1 b ↔ y ∈ b ∧ ∃ x, x ∈ a ∧ 1 ≤ x ∧ x ≤ c.2.2.2.1.length ∧ c.2.2.2.1.getD (x - 1).toNat 0 = y := by
  unfold keepV
  rw [List.mem_filter, List.any_eq_true]
  constructor
  · rintro ⟨h1, r, hr, he⟩
    obtain ⟨x, y', hx, hy, rfl, g1, g2, g3⟩ := (rows_mem h ha hb r).mp hr
    have : y' = y := of_decide_eq_true he
    subst this
    exact ⟨h1, x, hx, g1, g2, g3⟩
  · rintro ⟨h1, x, hx, g1, g2, g3⟩
    exact ⟨h1, [x, y], (rows_mem h ha hb _).mpr ⟨x, y, hx, h1, rfl, g1, g2, g3⟩, decide_eq_true rfl⟩
theorem rows_empty {c : Con} (h : ElemC c) {a b : List Int} (ha : okL a = true) (hb : okL b = true) : rowsE c a b = [] ↔ atL c a b = [] := by
  have na := (okL_iff.mp ha).1
  have nb := (okL_iff.mp hb).1
  constructor
  · intro hr
    refine List.eq_nil_iff_forall_not_mem.mpr fun x hx => ?_
    obtain ⟨g1, g2, g3, g4⟩ := (at_mem ha hb x).mp hx
    have := (rows_mem h na nb [x, c.2.2.2.1.getD (x - 1).toNat 0]).mpr ⟨x, _, g1, g4, rfl, g2, g3, rfl⟩
    rw [hr] at this
    simp at this
  · intro he
    refine List.eq_nil_iff_forall_not_mem.mpr fun r hr => ?_
    obtain ⟨x, y, hx, hy, _, g1, g2, g3⟩ := (rows_mem h na nb r).mp hr
    have := (at_mem ha hb x).mpr ⟨hx, g1, g2, by rw [g3]; exact hy⟩
    rw [he] at this
    simp at this
theorem exact_elem {c : Con} (h : ElemC c) {a b : List Int} (la : a.length ≤ 6) (lb : b.length ≤ 6) (ha : a ≠ []) (hb : b ≠ []) :
    exactL c [a, b] 4000 = if rowsE c a b = [] then ([], false) else ([keepV (rowsE c a b) 0 a, keepV (rowsE c a b) 1 b], true) := by
  unfold exactL
  rw [(sol_elem h la lb ha hb).2]
  by_cases hr : rowsE c a b = []
  · simp [hr]
  · have : ¬ (rowsE c a b).length = 0 := fun e => hr (List.length_eq_zero_iff.mp e)
    rw [if_neg this, if_neg hr]
    rfl
theorem keep_rising {rows : List (List Int)} {i : Nat} {l : List Int} (h : Rising l) : Rising (keepV rows i l) := List.Pairwise.filter _ h
structure Filt (c : Con) (a b : List Int) : Prop where
  ok : (elemF c [(ofD a).1, (ofD b).1]).2 = (exactL c [a, b] 4000).2
  same : listsL (elemF c [(ofD a).1, (ofD b).1]).1 = (exactL c [a, b] 4000).1
  lb : (elemF c [(ofD a).1, (ofD b).1]).1.all listB = true
  ln : (elemF c [(ofD a).1, (ofD b).1]).1.length ≤ 1000
/-- What is left is the document's. -/
theorem elem_filters {c : Con} (h : ElemC c) {a b : List Int} (sa : SmallDom 6 a) (sb : SmallDom 6 b) : Filt c a b := by
  have ha := smallDom_ok sa (by omega)
  have hb := smallDom_ok sb (by omega)
  have na : near3 a := fun x hx => by have := sa.abs x hx; omega
  have nb : near3 b := fun x hx => by have := sb.abs x hx; omega
  have ex := exact_elem h sa.len sb.len sa.ne sb.ne
  rcases elemF_two h ha hb na nb with ⟨he, e⟩ | ⟨he, o1, o2, n1, n2, e⟩
  · have hr := (rows_empty h ha hb).mpr he
    rw [if_pos hr] at ex
    exact ⟨by rw [e, ex], by rw [e, ex]; rfl, by rw [e]; rfl, by rw [e]; simp⟩
  · have hr : ¬ rowsE c a b = [] := fun hr => he ((rows_empty h ha hb).mp hr)
    rw [if_neg hr] at ex
    refine ⟨by rw [e, ex], ?_, ?_, by rw [e]; simp⟩
    · rw [e, ex]
      unfold listsL
      simp only [List.map_cons, List.map_nil]
      have q1 : listD (ofD (atL c a b)).1 = keepV (rowsE c a b) 0 a := rising_ext (list_ofD o1).2 (keep_rising sa.ris) fun v => by
        rw [(list_ofD o1).1, at_mem ha hb, keep0_mem h sa.ne sb.ne]
      have q2 : listD (ofD (whatL c a b)).1 = keepV (rowsE c a b) 1 b := rising_ext (list_ofD o2).2 (keep_rising sb.ris) fun v => by
        rw [(list_ofD o2).1, what_mem ha hb, keep1_mem h sa.ne sb.ne]
      rw [q1, q2]
    · rw [e]
      simp only [List.all_cons, List.all_nil, listB_of o1, listB_of o2]
      rfl
end Go.Proofs.YthdpbmcidebagaaGreatDoor.Ev
