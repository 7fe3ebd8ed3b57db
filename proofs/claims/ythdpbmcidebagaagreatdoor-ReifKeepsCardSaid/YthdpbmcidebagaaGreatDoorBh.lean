/-
Seat 'a': a constraint of two variables and its filter: the plain laws, once for Element and for what is reified.
Conditions: what is made of plain data.
-/
import Derived.Test.YthdpbmcidebagaaGreatDoorBc
set_option linter.unusedVariables false
set_option linter.unusedSimpArgs false
set_option maxRecDepth 100000
namespace Go.Proofs.YthdpbmcidebagaaGreatDoor.Ev
open Go

/-- 'c' is of two variables, holds of x and y just if R x y; its filter leaves the values that are in a pair. -/
structure TwoC (c : Con) (lo hi : Int) (F : Con → List Dom → List Dom × Bool) (R : Int → Int → Prop) : Prop where
  loc : localB c = true
  two : c.2.1.length + c.2.2.1.length = 2
  holds : ∀ x y, holdsB (localC c) [x, y] = true ∧ (holdsC (localC c) [x, y] = true ↔ R x y)
  fits : ∀ a b, okL a = true → okL b = true → filtB lo hi c [(ofD a).1, (ofD b).1] = true
  filt : ∀ a b, okL a = true → okL b = true → ∃ p q, F c [(ofD a).1, (ofD b).1] = madeAll [p, q] ∧ (∀ x, x ∈ p ↔ x ∈ a ∧ ∃ y, y ∈ b ∧ R x y) ∧ (∀ y, y ∈ q ↔ y ∈ b ∧ ∃ x, x ∈ a ∧ R x y)
def RE (c : Con) (x y : Int) : Prop := 1 ≤ x ∧ x ≤ c.2.2.2.1.length ∧ c.2.2.2.1.getD (x - 1).toNat 0 = y
theorem elem_two {c : Con} (h : ElemC c) : TwoC c 11 11 elemF (RE c) where
  loc := by
    unfold localB
    rw [h.a, h.b]
    rfl
  two := by rw [h.a, h.b]; rfl
  holds := fun x y => holds_elem h x y
  fits := fun a b ha hb => (fits_elem h ha hb).2
  filt := fun a b ha hb => ⟨atL c a b, whatL c a b, elemF_of h ha hb, fun x => by
      rw [at_mem ha hb]
      constructor
      · rintro ⟨h1, h2, h3, h4⟩
        exact ⟨h1, _, h4, h2, h3, rfl⟩
      · rintro ⟨h1, y, h4, h2, h3, rfl⟩
        exact ⟨h1, h2, h3, h4⟩, fun y => what_mem ha hb y⟩

/-! ### what is reified -/
structure ReifC (c : Con) : Prop where
  kind : c.1 = 13 ∨ c.1 = 14 ∨ c.1 = 15 ∨ c.1 = 16
  a : c.2.1.length = 1
  ar : ∀ x ∈ c.2.1, 0 ≤ x ∧ x < 256
  b : c.2.2.1.length = 1
  br : ∀ x ∈ c.2.2.1, 0 ≤ x ∧ x < 256
  k : -12 < c.2.2.2.2.2.2.1 ∧ c.2.2.2.2.2.2.1 < 12
  c0 : c.2.2.2.1 = []
  d0 : c.2.2.2.2.1 = []
  e0 : c.2.2.2.2.2.1 = []
  r0 : c.2.2.2.2.2.2.2 = []
theorem reif_conC (n : Int) (hn : n = 12 ∨ n = 13 ∨ n = 14 ∨ n = 15) (z : ZRest) (v : Int) (h1 : U8s z.1) (h2 : U8s z.2.1) (hv : 0 < v) (hv1 : v ≤ 256) : ReifC (conC (n, z) v) := by
  have e : conC (n, z) v = (n + 1, placesL z.1 1 v, placesL z.2.1 1 v, [], [], [], (IntKind.i64.wrap z.2.2.2.1).tmod 12, []) := by
    unfold conC
    rw [if_neg (show ¬ n = 10 by omega)]
  rw [e]
  refine ⟨?_, places_length _ _ _, fun x hx => ?_, places_length _ _ _, fun x hx => ?_, tmod_abs (by omega), rfl, rfl, rfl, rfl⟩
  · show n + 1 = 13 ∨ n + 1 = 14 ∨ n + 1 = 15 ∨ n + 1 = 16
    omega
  · have := places_range h1 hv x hx
    omega
  · have := places_range h2 hv x hx
    omega
theorem right_reif {c : Con} (h : ReifC c) : rightM c 256 = 0 ∧ kindB c = true ∧ 13 ≤ c.1 ∧ c.1 ≤ 16 := by
  obtain ⟨k, A, B, C, D, E, K, R⟩ := c
  obtain ⟨h1, h2, h3, h4, h5, h6, h7, h8, h9, h10⟩ := h
  simp only at h1 h2 h3 h4 h5 h6 h7 h8 h9 h10
  subst h7 h8 h9 h10
  have e2 : countedD (k, A, B, [], [], [], K, []) ⟨#[]⟩ = true := by
    rcases h1 with rfl | rfl | rfl | rfl <;> simp [countedD, noneL, -List.length_eq_zero_iff, h2, h4]
  have e3 : alikeD (k, A, B, [], [], [], K, []) = true := by
    rcases h1 with rfl | rfl | rfl | rfl <;> rfl
  have e4 : kB (k, A, B, [], [], [], K, []) = true := by
    rcases h1 with rfl | rfl | rfl | rfl <;> simp [kB]
  have e5 : List.any (varsD (k, A, B, [], [], [], K, [])) (varB 256) = false := by
    refine vars_ok fun x hx => ?_
    rcases List.mem_append.mp (show x ∈ A ++ B from hx) with hm | hm
    · exact h3 x hm
    · exact h5 x hm
  have e6 : numbersD (k, A, B, [], [], [], K, []) = true := by
    have g1 : decide (K ≥ -9999999999) = true := decide_eq_true (by omega)
    have g2 : decide (K ≤ 9999999999) = true := decide_eq_true (by omega)
    unfold numbersD
    simp only [g1, g2]
    rfl
  refine ⟨?_, ?_, ?_, ?_⟩
  · unfold rightM
    rw [e2, e3, e4, e5, e6]
    rfl
  · rcases h1 with rfl | rfl | rfl | rfl <;> rfl
  · show 13 ≤ k
    omega
  · show k ≤ 16
    omega
def RR (c : Con) (x y : Int) : Prop := (y = 0 ∨ y = 1) ∧ allowedC c x y = true
theorem holds_reif {c : Con} (h : ReifC c) (x y : Int) : holdsB (localC c) [x, y] = true ∧ (holdsC (localC c) [x, y] = true ↔ RR c x y) := by
  obtain ⟨k, A, B, C, D, E, K, R⟩ := c
  obtain ⟨h1, h2, h3, h4, h5, h6, h7, h8, h9, h10⟩ := h
  simp only at h1 h2 h3 h4 h5 h6 h7 h8 h9 h10
  have e : localC (k, A, B, C, D, E, K, R) = (k, [0], [1], C, D, E, K, R) := by
    unfold localC
    simp only [h2, h4]
    rfl
  rw [e]
  constructor
  · unfold holdsB logicB
    have : reifK (k, [0], [1], C, D, E, K, R) = true := by
      rcases h1 with rfl | rfl | rfl | rfl <;> rfl
    rw [this]
    simp [inB]
  · unfold holdsC
    have hk : ¬ k = 11 := by omega
    simp only [if_neg hk]
    show logicC (k, [0], [1], C, D, E, K, R) [x, y] = true ↔ _
    have e2 : logicC (k, [0], [1], C, D, E, K, R) [x, y] = ((decide (y = 0) || decide (y = 1)) && allowedC (k, A, B, C, D, E, K, R) x y) := rfl
    rw [e2]
    unfold RR
    simp
theorem fits_reif {c : Con} (h : ReifC c) {a b : List Int} (ha : okL a = true) (hb : okL b = true) : fitsD c [(ofD a).1, (ofD b).1] 13 16 = true ∧ filtB 13 16 c [(ofD a).1, (ofD b).1] = true := by
  obtain ⟨h1, h2, h3, h4⟩ := right_reif h
  constructor
  · unfold fitsD lenCB
    have e1 : emptyD (ofD a).1 = false := by unfold emptyD; simp [size_ofD ha]
    have e2 : emptyD (ofD b).1 = false := by unfold emptyD; simp [size_ofD hb]
    rw [h1, h.a, h.b, decide_eq_true h3, decide_eq_true h4]
    simp only [List.any_cons, List.any_nil, e1, e2]
    rfl
  · unfold filtB fitsB
    rw [h2]
    simp only [List.all_cons, List.all_nil, listB_of ha, listB_of hb]
    simp
theorem reifV_mem {c : Con} {b : List Int} (hb : okL b = true) (v y : Int) : y ∈ reifV c (ofD b).1 v ↔ y ∈ b ∧ RR c v y := by
  unfold reifV reifB RR
  rw [has_ofD hb, has_ofD hb, List.mem_append]
  by_cases h0 : (decide ((0 : Int) ∈ b) && allowedC c v 0) = true
  · by_cases h1 : (decide ((1 : Int) ∈ b) && allowedC c v 1) = true
    · rw [if_pos h0, if_pos h1]
      simp only [Bool.and_eq_true, decide_eq_true_eq] at h0 h1
      simp only [List.mem_singleton]
      constructor
      · rintro (rfl | rfl)
        · exact ⟨h0.1, .inl rfl, h0.2⟩
        · exact ⟨h1.1, .inr rfl, h1.2⟩
      · exact fun h => h.2.1
    · rw [if_pos h0, if_neg h1]
      simp only [Bool.and_eq_true, decide_eq_true_eq] at h0 h1
      simp only [List.mem_singleton, List.not_mem_nil, or_false]
      constructor
      · rintro rfl
        exact ⟨h0.1, .inl rfl, h0.2⟩
      · rintro ⟨g1, rfl | rfl, g2⟩
        · rfl
        · exact absurd ⟨g1, g2⟩ h1
  · by_cases h1 : (decide ((1 : Int) ∈ b) && allowedC c v 1) = true
    · rw [if_neg h0, if_pos h1]
      simp only [Bool.and_eq_true, decide_eq_true_eq] at h0 h1
      simp only [List.mem_singleton, List.not_mem_nil, false_or]
      constructor
      · rintro rfl
        exact ⟨h1.1, .inr rfl, h1.2⟩
      · rintro ⟨g1, rfl | rfl, g2⟩
        · exact absurd ⟨g1, g2⟩ h0
        · rfl
    · rw [if_neg h0, if_neg h1]
      simp only [Bool.and_eq_true, decide_eq_true_eq] at h0 h1
      simp only [List.not_mem_nil, or_self, false_iff]
      rintro ⟨g1, rfl | rfl, g2⟩
      · exact h0 ⟨g1, g2⟩
      · exact h1 ⟨g1, g2⟩
theorem reif_two {c : Con} (h : ReifC c) : TwoC c 13 16 reifF (RR c) where
  loc := by
    unfold localB
    rw [h.a, h.b]
    rfl
  two := by rw [h.a, h.b]
  holds := fun x y => holds_reif h x y
  fits := fun a b ha hb => (fits_reif h ha hb).2
  filt := fun a b ha hb => by
    refine ⟨reifXs c (ofD b).1 (listD (ofD a).1), reifBs c (ofD b).1 (listD (ofD a).1), ?_, fun x => ?_, fun y => ?_⟩
    · unfold reifF
      rw [(fits_reif h ha hb).1]
      rfl
    · unfold reifXs
      rw [List.mem_flatMap]
      constructor
      · rintro ⟨v, hv, hm⟩
        obtain ⟨y, hy, rfl⟩ := List.mem_map.mp hm
        exact ⟨((list_ofD ha).1 _).mp hv, y, (reifV_mem hb _ _).mp hy⟩
      · rintro ⟨hx, y, hy⟩
        exact ⟨x, ((list_ofD ha).1 _).mpr hx, List.mem_map.mpr ⟨y, (reifV_mem hb _ _).mpr hy, rfl⟩⟩
    · unfold reifBs
      rw [List.mem_flatMap]
      constructor
      · rintro ⟨v, hv, hm⟩
        obtain ⟨g1, g2⟩ := (reifV_mem hb _ _).mp hm
        exact ⟨g1, v, ((list_ofD ha).1 _).mp hv, g2⟩
      · rintro ⟨hy, x, hx, hr⟩
        exact ⟨x, ((list_ofD ha).1 _).mpr hx, (reifV_mem hb _ _).mpr ⟨hy, hr⟩⟩

/-! ### what the filter leaves -/
section
variable {c : Con} {lo hi : Int} {F : Con → List Dom → List Dom × Bool} {R : Int → Int → Prop}
theorem two_out (h : TwoC c lo hi F R) {a b : List Int} (ha : okL a = true) (hb : okL b = true) (na : near3 a) (nb : near3 b) :
    ((∀ x y, x ∈ a → y ∈ b → ¬ R x y) ∧ F c [(ofD a).1, (ofD b).1] = ([], false)) ∨
    ∃ p q, p ≠ [] ∧ okL p = true ∧ okL q = true ∧ near3 p ∧ near3 q ∧ (∀ x, x ∈ p ↔ x ∈ a ∧ ∃ y, y ∈ b ∧ R x y) ∧ (∀ y, y ∈ q ↔ y ∈ b ∧ ∃ x, x ∈ a ∧ R x y) ∧ F c [(ofD a).1, (ofD b).1] = ([(ofD p).1, (ofD q).1], true) := by
  obtain ⟨p, q, e, hp, hq⟩ := h.filt a b ha hb
  by_cases he : p = []
  · left
    have hn : ∀ x y, x ∈ a → y ∈ b → ¬ R x y := fun x y hx hy hr => by
      have := (hp x).mpr ⟨hx, y, hy, hr⟩
      rw [he] at this
      simp at this
    have hq0 : q = [] := List.eq_nil_iff_forall_not_mem.mpr fun y hy => by
      obtain ⟨g1, x, g2, g3⟩ := (hq y).mp hy
      exact hn x y g2 g1 g3
    refine ⟨hn, ?_⟩
    rw [e, he, hq0]
    rfl
  · right
    have hq0 : q ≠ [] := fun hq0 => by
      obtain ⟨x, hx⟩ := List.exists_mem_of_ne_nil p he
      obtain ⟨g1, y, g2, g3⟩ := (hp x).mp hx
      have := (hq y).mpr ⟨g2, x, g1, g3⟩
      rw [hq0] at this
      simp at this
    have n1 : near3 p := sub_near na (fun x hx => ((hp x).mp hx).1)
    have n2 : near3 q := sub_near nb (fun x hx => ((hq x).mp hx).1)
    have o1 := okL_small he n1
    have o2 := okL_small hq0 n2
    refine ⟨p, q, he, o1, o2, n1, n2, hp, hq, ?_⟩
    rw [e]
    unfold madeAll
    simp only [List.all_cons, List.all_nil, o1, o2]
    rfl
theorem two_rows (h : TwoC c lo hi F R) {a b : List Int} (ha : a ≠ []) (hb : b ≠ []) (r : List Int) : r ∈ rowsE c a b ↔ ∃ x y, x ∈ a ∧ y ∈ b ∧ r = [x, y] ∧ R x y := by
  unfold rowsE
  rw [List.mem_filter, prod_two ha hb]
  constructor
  · rintro ⟨⟨x, y, hx, hy, rfl⟩, hh⟩
    exact ⟨x, y, hx, hy, rfl, (h.holds x y).2.mp hh⟩
  · rintro ⟨x, y, hx, hy, rfl, hh⟩
    exact ⟨⟨x, y, hx, hy, rfl⟩, (h.holds x y).2.mpr hh⟩
theorem two_sol (h : TwoC c lo hi F R) {a b : List Int} (la : a.length ≤ 6) (lb : b.length ≤ 6) (ha : a ≠ []) (hb : b ≠ []) : solB c [a, b] 4000 = true ∧ solL c [a, b] 4000 = (rowsE c a b, true) := by
  have hm := many_two la lb
  constructor
  · unfold solB
    rw [productB_two la lb ha hb, h.loc]
    simp only [Bool.true_and, Bool.or_eq_true, List.all_eq_true]
    right
    intro r hr
    obtain ⟨x, y, _, _, rfl⟩ := (prod_two ha hb r).mp hr
    exact (h.holds x y).1
  · unfold solL
    rw [hm]
    rfl
theorem two_keep0 (h : TwoC c lo hi F R) {a b : List Int} (ha : a ≠ []) (hb : b ≠ []) (v : Int) : v ∈ keepV (rowsE c a b) 0 a ↔ v ∈ a ∧ ∃ y, y ∈ b ∧ R v y := by
  unfold keepV
  rw [List.mem_filter, List.any_eq_true]
  constructor
  · rintro ⟨h1, r, hr, he⟩
    obtain ⟨x, y, hx, hy, rfl, g1⟩ := (two_rows h ha hb r).mp hr
    have : x = v := of_decide_eq_true he
    subst this
    exact ⟨h1, y, hy, g1⟩
  · rintro ⟨h1, y, hy, g1⟩
    exact ⟨h1, [v, y], (two_rows h ha hb _).mpr ⟨v, _, h1, hy, rfl, g1⟩, decide_eq_true rfl⟩
theorem two_keep1 (h : TwoC c lo hi F R) {a b : List Int} (ha : a ≠ []) (hb : b ≠ []) (y : Int) : y ∈ keepV (rowsE c a b) 1 b ↔ y ∈ b ∧ ∃ x, x ∈ a ∧ R x y := by
  unfold keepV
  rw [List.mem_filter, List.any_eq_true]
  constructor
  · rintro ⟨h1, r, hr, he⟩
    obtain ⟨x, y', hx, hy, rfl, g1⟩ := (two_rows h ha hb r).mp hr
    have : y' = y := of_decide_eq_true he
    subst this
    exact ⟨h1, x, hx, g1⟩
  · rintro ⟨h1, x, hx, g1⟩
    exact ⟨h1, [x, y], (two_rows h ha hb _).mpr ⟨x, y, hx, h1, rfl, g1⟩, decide_eq_true rfl⟩
theorem two_exact (h : TwoC c lo hi F R) {a b : List Int} (la : a.length ≤ 6) (lb : b.length ≤ 6) (ha : a ≠ []) (hb : b ≠ []) :
    exactL c [a, b] 4000 = if rowsE c a b = [] then ([], false) else ([keepV (rowsE c a b) 0 a, keepV (rowsE c a b) 1 b], true) := by
  unfold exactL
  rw [(two_sol h la lb ha hb).2]
  by_cases hr : rowsE c a b = []
  · simp [hr]
  · have : ¬ (rowsE c a b).length = 0 := fun e => hr (List.length_eq_zero_iff.mp e)
    rw [if_neg this, if_neg hr]
    rfl
structure FiltG (F : Con → List Dom → List Dom × Bool) (c : Con) (a b : List Int) : Prop where
  ok : (F c [(ofD a).1, (ofD b).1]).2 = (exactL c [a, b] 4000).2
  same : listsL (F c [(ofD a).1, (ofD b).1]).1 = (exactL c [a, b] 4000).1
  lb : (F c [(ofD a).1, (ofD b).1]).1.all listB = true
  ln : (F c [(ofD a).1, (ofD b).1]).1.length ≤ 1000
/-- What is left is the document's. -/
theorem two_filters (h : TwoC c lo hi F R) {a b : List Int} (sa : SmallDom 6 a) (sb : SmallDom 6 b) : FiltG F c a b := by
  have ha := smallDom_ok sa (by omega)
  have hb := smallDom_ok sb (by omega)
  have na : near3 a := fun x hx => by have := sa.abs x hx; omega
  have nb : near3 b := fun x hx => by have := sb.abs x hx; omega
  have ex := two_exact h sa.len sb.len sa.ne sb.ne
  rcases two_out h ha hb na nb with ⟨he, e⟩ | ⟨p, q, he, o1, o2, n1, n2, hp, hq, e⟩
  · have hr : rowsE c a b = [] := List.eq_nil_iff_forall_not_mem.mpr fun r hr => by
      obtain ⟨x, y, hx, hy, _, g⟩ := (two_rows h sa.ne sb.ne r).mp hr
      exact he x y hx hy g
    rw [if_pos hr] at ex
    exact ⟨by rw [e, ex], by rw [e, ex]; rfl, by rw [e]; rfl, by rw [e]; simp⟩
  · have hr : ¬ rowsE c a b = [] := fun hr => by
      obtain ⟨x, hx⟩ := List.exists_mem_of_ne_nil p he
      obtain ⟨g1, y, g2, g3⟩ := (hp x).mp hx
      have := (two_rows h sa.ne sb.ne [x, y]).mpr ⟨x, y, g1, g2, rfl, g3⟩
      rw [hr] at this
      simp at this
    rw [if_neg hr] at ex
    refine ⟨by rw [e, ex], ?_, ?_, by rw [e]; simp⟩
    · rw [e, ex]
      unfold listsL
      simp only [List.map_cons, List.map_nil]
      have q1 : listD (ofD p).1 = keepV (rowsE c a b) 0 a := rising_ext (list_ofD o1).2 (keep_rising sa.ris) fun v => by
        rw [(list_ofD o1).1, hp, two_keep0 h sa.ne sb.ne]
      have q2 : listD (ofD q).1 = keepV (rowsE c a b) 1 b := rising_ext (list_ofD o2).2 (keep_rising sb.ris) fun v => by
        rw [(list_ofD o2).1, hq, two_keep1 h sa.ne sb.ne]
      rw [q1, q2]
    · rw [e]
      simp only [List.all_cons, List.all_nil, listB_of o1, listB_of o2]
      rfl
theorem two_exact_lens (h : TwoC c lo hi F R) {a b : List Int} (sa : SmallDom 6 a) (sb : SmallDom 6 b) : (Nat.ble (exactL c [a, b] 4000).1.length 1000 && lensB (exactL c [a, b] 4000).1) = true := by
  rw [two_exact h sa.len sb.len sa.ne sb.ne]
  split
  · rfl
  · have h1 := keep_len (rows := rowsE c a b) (i := 0) (l := a)
    have h2 := keep_len (rows := rowsE c a b) (i := 1) (l := b)
    exact lens_two (by have := sa.len; omega) (by have := sb.len; omega)
end
theorem kindR_cases {n : Int} (h0 : 0 ≤ n) : kindR n = 13 ∨ kindR n = 14 ∨ kindR n = 15 ∨ kindR n = 16 := by
  unfold kindR
  rw [Int.tmod_eq_emod_of_nonneg h0]
  have h1 : 0 ≤ n % 4 := Int.emod_nonneg _ (by omega)
  have h2 : n % 4 < 4 := Int.emod_lt_of_pos _ (by omega)
  rw [wrap_ok (x := n % 4) (by omega) (by omega), wrap_ok (by omega) (by omega)]
  omega
theorem makeR (z : Case) (k : Int) (hk : k = 13 ∨ k = 14 ∨ k = 15 ∨ k = 16) (hz : U8s z.1.2.1) (hz2 : U8s z.1.2.2.1) : makeB z k 6 = true ∧ ReifC (makeC z k) ∧ ∃ a b, makeL z k 6 = [a, b] ∧ SmallDom 6 a ∧ SmallDom 6 b := by
  refine ⟨?_, reif_conC (k - 1) (by omega) z.1.2 5 hz hz2 (by omega) (by omega), ?_⟩
  · unfold makeB
    rcases hk with rfl | rfl | rfl | rfl <;> rfl
  · obtain ⟨a, b, e⟩ := two_of (make_len z k 6)
    have := make_dom (z := z) (k := k) (w := 6) (by omega)
    rw [e] at this
    exact ⟨a, b, e, this a (by simp), this b (by simp)⟩
theorem F7.sem (k : Nat) (z : Case) (n : Int) (hz : U8s z.1.2.1) (hz2 : U8s z.1.2.2.1) (hn : 0 ≤ n) : callW F7.E false F7.fn k [.agg (explode CaseT z), .v (.int .u8) n] = some (.v .bool true) := by
  have st := F7.start_eq k z n
  obtain ⟨hm, hc, a, b, e, sa, sb⟩ := makeR z (kindR n) (kindR_cases hn) hz hz2
  generalize kindR n = kk at st hm hc e
  rw [hm, e] at st
  generalize makeC z kk = c at st hc
  have ht := reif_two hc
  obtain ⟨h1, h2⟩ := two_sol ht sa.len sb.len sa.ne sb.ne
  have ha := smallDom_ok sa (by omega)
  have hb := smallDom_ok sb (by omega)
  have ed : domsL [a, b] = [(ofD a).1, (ofD b).1] := rfl
  have hf := ht.fits a b ha hb
  have fl := two_filters ht sa sb
  have el := two_exact_lens ht sa sb
  rw [← fl.same] at el
  rw [h1, h2, ed, hf] at st
  have e1 : Nat.ble [a, b].length 1000 = true := rfl
  have e2 : ((reifF c [(ofD a).1, (ofD b).1]).2 == (exactL c [a, b] 4000).2) = true := by rw [fl.ok]; cases (exactL c [a, b] 4000).2 <;> rfl
  have e3 : (Nat.ble (reifF c [(ofD a).1, (ofD b).1]).1.length 1000 && (reifF c [(ofD a).1, (ofD b).1]).1.all listB) = true := by
    rw [fl.lb, Bool.and_true, Nat.ble_eq]
    exact fl.ln
  have e4 : sameL (listsL (reifF c [(ofD a).1, (ofD b).1]).1) (exactL c [a, b] 4000).1 = true := by
    rw [fl.same]
    unfold sameL
    exact decide_eq_true rfl
  rw [e1, e2, e3, el, e4] at st
  exact st
end Go.Proofs.YthdpbmcidebagaaGreatDoor.Ev
