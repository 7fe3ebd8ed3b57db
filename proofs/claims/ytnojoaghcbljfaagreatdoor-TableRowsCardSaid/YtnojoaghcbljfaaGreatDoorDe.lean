/-
Tables: the filter's plain laws.
Conditions: constraints that are made of plain data.
-/
import Derived.Test.YtnojoaghcbljfaaGreatDoorDb
set_option linter.unusedVariables false
set_option linter.unusedSimpArgs false
set_option maxRecDepth 100000
namespace Go.Proofs.YtnojoaghcbljfaaGreatDoor.Ev
open Go

structure TabC (c : Con) : Prop where
  kind : c.1 = 18
  a1 : 1 ≤ c.2.1.length
  a4 : c.2.1.length ≤ 4
  ar : ∀ x ∈ c.2.1, 0 ≤ x ∧ x < 256
  b0 : c.2.2.1 = []
  c0 : c.2.2.2.1 = []
  d0 : c.2.2.2.2.1 = []
  e0 : c.2.2.2.2.2.1 = []
  k0 : c.2.2.2.2.2.2.1 = 0
  r1 : 1 ≤ c.2.2.2.2.2.2.2.length
  r6 : c.2.2.2.2.2.2.2.length ≤ 10
  rl : ∀ r ∈ c.2.2.2.2.2.2.2, r.length = c.2.1.length
  rr : ∀ r ∈ c.2.2.2.2.2.2.2, ∀ x ∈ r, -1000 ≤ x ∧ x ≤ 1000
theorem tab_con18 (z : ZRest) (v : Int) (h1 : U8s z.1) (hv : 0 < v) (hv1 : v ≤ 256) : TabC (con18 z v) := by
  have hn := nA_range z.1
  have hl : (placesL z.1 (nA z.1) v).length = (nA z.1).toNat := places_length _ _ _
  have hlt := Nat.mod_lt z.2.2.1.length (show 0 < 6 by omega)
  refine ⟨rfl, ?_, ?_, fun x hx => ?_, rfl, rfl, rfl, rfl, rfl, ?_, ?_, fun r hr => ?_, fun r hr x hx => ?_⟩
  · show 1 ≤ (placesL z.1 (nA z.1) v).length
    omega
  · show (placesL z.1 (nA z.1) v).length ≤ 4
    omega
  · have := places_range h1 hv x hx
    omega
  · show 1 ≤ (rowsC z.2.2.1 (nA z.1)).length
    unfold rowsC
    simp
  · show (rowsC z.2.2.1 (nA z.1)).length ≤ 10
    unfold rowsC
    simp
    omega
  · have hr : r ∈ rowsC z.2.2.1 (nA z.1) := hr
    unfold rowsC at hr
    obtain ⟨i, _, rfl⟩ := List.mem_map.mp hr
    show (numbersL _ _ _ _ _).length = (placesL z.1 (nA z.1) v).length
    rw [numbers_length, hl]
  · have hr : r ∈ rowsC z.2.2.1 (nA z.1) := hr
    unfold rowsC at hr
    obtain ⟨i, _, rfl⟩ := List.mem_map.mp hr
    have := numbers_range (show (0 : Int) < 4 by omega) x hx
    omega
theorem right_tab {c : Con} (h : TabC c) : rightM c 256 = 0 ∧ kindB c = true := by
  obtain ⟨k, A, B, C, D, E, M, R⟩ := c
  obtain ⟨h1, h2, h3, h4, h5, h6, h7, h8, h9, h10, h11, h12, h13⟩ := h
  simp only at h1 h2 h3 h4 h5 h6 h7 h8 h9 h10 h11 h12 h13
  subst h1 h5 h6 h7 h8 h9
  have e2 : countedD (18, A, [], [], [], [], 0, R) ⟨#[]⟩ = true := by
    simp [countedD, noneL, -List.length_eq_zero_iff]
    omega
  have e3 : alikeD (18, A, [], [], [], [], 0, R) = true := by
    have : List.any R (rowN (18, A, [], [], [], [], 0, R)) = false := not_any fun r hr => by
      unfold rowN
      simp [h12 r hr]
    unfold alikeD
    simp [this]
  have e4 : kB (18, A, [], [], [], [], 0, R) = true := rfl
  have e5 : List.any (varsD (18, A, [], [], [], [], 0, R)) (varB 256) = false := by
    refine vars_ok fun x hx => ?_
    rcases List.mem_append.mp (show x ∈ A ++ [] from hx) with hm | hm
    · exact h4 x hm
    · cases hm
  have e6 : numbersD (18, A, [], [], [], [], 0, R) = true := by
    have : (R.all fun r => boundedD r (-1000000)) = true := by
      rw [List.all_eq_true]
      exact fun r hr => bounded_ok fun x hx => by have := h13 r hr x hx; omega
    unfold numbersD
    simp only [this]
    rfl
  refine ⟨?_, rfl⟩
  unfold rightM
  rw [e2, e3, e4, e5, e6]
  rfl
theorem fits_tab {c : Con} (h : TabC c) {l : List (List Int)} (hl : l.length = c.2.1.length) (ok : ∀ x ∈ l, okL x = true) : fitsD c (domsL l) 18 18 = true ∧ filtB 18 18 c (domsL l) = true := by
  obtain ⟨h1, h2⟩ := right_tab h
  constructor
  · unfold fitsD lenCB
    have e1 : List.any (domsL l) emptyD = false := not_any fun d hd => by
      obtain ⟨x, hx, rfl⟩ := List.mem_map.mp hd
      unfold emptyD
      simp [size_ofD (ok x hx)]
    rw [h1, e1, doms_len, h.b0, h.kind]
    simp [hl]
  · unfold filtB fitsB
    rw [h2, DomsOk.listB ok, full_doms ok]
    simp
theorem tabIn_iff {l : List (List Int)} (ok : ∀ x ∈ l, okL x = true) {r : List Int} (hr : r.length = l.length) : tabIn (domsL l) r = true ↔ InP r l := by
  unfold tabIn
  rw [List.all_eq_true]
  constructor
  · intro h
    refine F2.ofD 0 [] hr fun i hi => ?_
    have := h i (List.mem_range.mpr hi)
    rw [doms_get (by omega), has_ofD (ok _ (getD_mem (by omega) []))] at this
    exact of_decide_eq_true this
  · intro h i hi
    have hi := List.mem_range.mp hi
    rw [doms_get (by omega), has_ofD (ok _ (getD_mem (by omega) []))]
    exact decide_eq_true (h.getD hi 0 [])
theorem put1_mem (l : List Int) (v x : Int) : x ∈ (if v ∈ l then l else l ++ [v]) ↔ x ∈ l ∨ x = v := by
  split
  · rename_i h
    constructor
    · exact .inl
    · rintro (h1 | rfl)
      · exact h1
      · exact h
  · simp
theorem tabPut_mem : ∀ (l : List (List Int)) (r : List Int), l.length = r.length → (tabPut l r).length = l.length ∧ ∀ i x, i < l.length → (x ∈ (tabPut l r).getD i [] ↔ x ∈ l.getD i [] ∨ x = r.getD i 0)
  | [], [], _ => ⟨by unfold tabPut; rfl, fun i x h => by simp at h⟩
  | [], _ :: _, h => by simp at h
  | _ :: _, [], h => by simp at h
  | l :: ls, v :: vs, h => by
    obtain ⟨h1, h2⟩ := tabPut_mem ls vs (by simpa using h)
    refine ⟨by unfold tabPut; simp [h1], fun i x hi => ?_⟩
    cases i with
    | zero => exact put1_mem l v x
    | succ i => exact h2 i x (by simpa using hi)
theorem tabGo_mem (d : List Dom) : ∀ (rows : List (List Int)) (left : List (List Int)), (∀ r ∈ rows, r.length = left.length) →
    (tabGo d left rows).length = left.length ∧ ∀ i x, i < left.length → (x ∈ (tabGo d left rows).getD i [] ↔ x ∈ left.getD i [] ∨ ∃ r ∈ rows, tabIn d r = true ∧ r.getD i 0 = x)
  | [], left, _ => ⟨rfl, fun i x _ => by simp [tabGo]⟩
  | r :: rows, left, h => by
    have hr := h r List.mem_cons_self
    have e : tabGo d left (r :: rows) = tabGo d (if tabIn d r then tabPut left r else left) rows := rfl
    rw [e]
    cases ht : tabIn d r with
    | false =>
      obtain ⟨h1, h2⟩ := tabGo_mem d rows left fun r' hr' => h r' (List.mem_cons_of_mem _ hr')
      refine ⟨h1, fun i x hi => ?_⟩
      show x ∈ (tabGo d left rows).getD i [] ↔ _
      rw [h2 i x hi]
      constructor
      · rintro (h | ⟨r', h3, h4⟩)
        · exact .inl h
        · exact .inr ⟨r', List.mem_cons_of_mem _ h3, h4⟩
      · rintro (h | ⟨r', h3, h4, h5⟩)
        · exact .inl h
        · rcases List.mem_cons.mp h3 with rfl | h3
          · rw [ht] at h4; cases h4
          · exact .inr ⟨r', h3, h4, h5⟩
    | true =>
      obtain ⟨p1, p2⟩ := tabPut_mem left r hr.symm
      obtain ⟨h1, h2⟩ := tabGo_mem d rows (tabPut left r) fun r' hr' => by rw [p1]; exact h r' (List.mem_cons_of_mem _ hr')
      refine ⟨h1.trans p1, fun i x hi => ?_⟩
      show x ∈ (tabGo d (tabPut left r) rows).getD i [] ↔ _
      rw [h2 i x (by omega), p2 i x hi]
      constructor
      · rintro ((h | h) | ⟨r', h3, h4⟩)
        · exact .inl h
        · exact .inr ⟨r, List.mem_cons_self, ht, h.symm⟩
        · exact .inr ⟨r', List.mem_cons_of_mem _ h3, h4⟩
      · rintro (h | ⟨r', h3, h4, h5⟩)
        · exact .inl (.inl h)
        · rcases List.mem_cons.mp h3 with rfl | h3
          · exact .inl (.inr h5.symm)
          · exact .inr ⟨r', h3, h4, h5⟩
/-- What is left of each place. -/
def tabP (c : Con) (l : List (List Int)) : List (List Int) := tabGo (domsL l) (List.replicate l.length []) c.2.2.2.2.2.2.2
theorem tabP_mem {c : Con} (h : TabC c) {l : List (List Int)} (hl : l.length = c.2.1.length) (ok : ∀ x ∈ l, okL x = true) :
    (tabP c l).length = l.length ∧ ∀ i x, i < l.length → (x ∈ (tabP c l).getD i [] ↔ ∃ r ∈ c.2.2.2.2.2.2.2, InP r l ∧ r.getD i 0 = x) := by
  obtain ⟨h1, h2⟩ := tabGo_mem (domsL l) c.2.2.2.2.2.2.2 (List.replicate l.length []) fun r hr => by rw [h.rl r hr, List.length_replicate, hl]
  rw [List.length_replicate] at h1 h2
  refine ⟨h1, fun i x hi => ?_⟩
  unfold tabP
  rw [h2 i x hi]
  have e : (List.replicate l.length ([] : List Int)).getD i [] = [] := by
    rw [List.getD_eq_getElem?_getD, List.getElem?_replicate]
    split <;> rfl
  rw [e]
  constructor
  · rintro (h3 | ⟨r, h3, h4, h5⟩)
    · cases h3
    · exact ⟨r, h3, (tabIn_iff ok (by rw [h.rl r h3, hl])).mp h4, h5⟩
  · rintro ⟨r, h3, h4, h5⟩
    exact .inr ⟨r, h3, (tabIn_iff ok (by rw [h.rl r h3, hl])).mpr h4, h5⟩
theorem tableF_of {c : Con} (h : TabC c) {l : List (List Int)} (hl : l.length = c.2.1.length) (ok : ∀ x ∈ l, okL x = true) : tableF c (domsL l) = madeAll (tabP c l) := by
  unfold tableF
  rw [(fits_tab h hl ok).1, doms_len]
  rfl
theorem getD_of_mem {α : Type} {l : List α} {x : α} (h : x ∈ l) (d : α) : ∃ i, i < l.length ∧ l.getD i d = x := by
  obtain ⟨i, hi, rfl⟩ := List.getElem_of_mem h
  exact ⟨i, hi, by rw [List.getD_eq_getElem?_getD, List.getElem?_eq_getElem hi]; rfl⟩
theorem tab_out {c : Con} (h : TabC c) {l : List (List Int)} (hl : l.length = c.2.1.length) (ok : ∀ x ∈ l, okL x = true) :
    ((∀ r ∈ c.2.2.2.2.2.2.2, ¬ InP r l) ∧ tableF c (domsL l) = ([], false)) ∨
    ((∃ r ∈ c.2.2.2.2.2.2.2, InP r l) ∧ tableF c (domsL l) = (domsL (tabP c l), true) ∧ (∀ x ∈ tabP c l, okL x = true) ∧ ∀ x ∈ tabP c l, near3 x) := by
  rw [tableF_of h hl ok]
  obtain ⟨p1, p2⟩ := tabP_mem h hl ok
  have h1 := h.a1
  by_cases hr : ∃ r ∈ c.2.2.2.2.2.2.2, InP r l
  · obtain ⟨r, hr1, hr2⟩ := hr
    have near : ∀ x ∈ tabP c l, near3 x := fun x hx y hy => by
      obtain ⟨i, hi, rfl⟩ := getD_of_mem hx []
      obtain ⟨r', g1, g2, rfl⟩ := (p2 i y (by omega)).mp hy
      exact h.rr r' g1 _ (getD_mem (by rw [h.rl r' g1]; omega) 0)
    have oks : ∀ x ∈ tabP c l, okL x = true := fun x hx => by
      obtain ⟨i, hi, e⟩ := getD_of_mem hx []
      refine okL_small ?_ (near x hx)
      have hm := (p2 i (r.getD i 0) (by omega)).mpr ⟨r, hr1, hr2, rfl⟩
      rw [e] at hm
      exact List.ne_nil_of_mem hm
    refine .inr ⟨⟨r, hr1, hr2⟩, ?_, oks, near⟩
    unfold madeAll
    have : (tabP c l).all okL = true := by rw [List.all_eq_true]; exact oks
    rw [this]
    rfl
  · have hr' : ∀ r ∈ c.2.2.2.2.2.2.2, ¬ InP r l := fun r h1 h2 => hr ⟨r, h1, h2⟩
    refine .inl ⟨hr', ?_⟩
    have e0 : (tabP c l).getD 0 [] = [] := by
      apply List.eq_nil_iff_forall_not_mem.mpr
      intro x hx
      obtain ⟨r, g1, g2, _⟩ := (p2 0 x (by omega)).mp hx
      exact hr' r g1 g2
    have hm : ([] : List Int) ∈ tabP c l := by
      have := getD_mem (show 0 < (tabP c l).length by omega) ([] : List Int)
      rwa [e0] at this
    unfold madeAll
    have : (tabP c l).all okL = false := by
      rw [List.all_eq_false]
      exact ⟨[], hm, by simp [okL_nil]⟩
    rw [this]
    rfl
theorem InP.len {r : List Int} {d : List (List Int)} (h : InP r d) : r.length = d.length := F2.length h
theorem listD_near {p : List Int} (h : okL p = true) (hn : near3 p) : listB (ofD p).1 = true ∧ (listD (ofD p).1).length ≤ 1000000 := by
  have := list_len h hn
  exact ⟨listB_of h, by omega⟩
theorem lists_get {l : List (List Int)} {i : Nat} (hi : i < l.length) (ok : ∀ x ∈ l, okL x = true) (v : Int) : v ∈ listD ((domsL l).getD i dom0) ↔ v ∈ l.getD i [] := by
  rw [doms_get hi]
  exact (list_ofD (ok _ (getD_mem hi []))).1 v
/-- Lists of the same numbers read as the same domains. -/
theorem lists_same {p q : List (List Int)} (hl : p.length = q.length) (hp : ∀ x ∈ p, okL x = true) (hq : ∀ x ∈ q, okL x = true) (h : ∀ i v, i < p.length → (v ∈ p.getD i [] ↔ v ∈ q.getD i [])) : listsL (domsL p) = listsL (domsL q) := by
  unfold listsL
  apply List.ext_getElem (by simp [doms_len, hl])
  intro i h1 h2
  rw [List.getElem_map, List.getElem_map]
  have hi : i < p.length := by simpa [doms_len] using h1
  have hi2 : i < q.length := by omega
  have e : ∀ {l : List (List Int)} (h : i < l.length) (h' : i < (domsL l).length), (domsL l)[i] = (ofD (l.getD i [])).1 := fun {l} h h' => by
    rw [← doms_get h, List.getD_eq_getElem?_getD, List.getElem?_eq_getElem h']
    rfl
  rw [e hi, e hi2]
  have a1 := list_ofD (hp _ (getD_mem hi []))
  have a2 := list_ofD (hq _ (getD_mem hi2 []))
  exact rising_ext a1.2 a2.2 fun v => by rw [a1.1, a2.1]; exact h i v hi
theorem lists_bound {p : List (List Int)} (hl : p.length ≤ 1000) (ok : ∀ x ∈ p, okL x = true) (hn : ∀ x ∈ p, near3 x) : (Nat.ble (domsL p).length 1000 && (domsL p).all listB) = true ∧ (Nat.ble (listsL (domsL p)).length 1000 && lensB (listsL (domsL p))) = true := by
  constructor
  · rw [DomsOk.listB ok, Bool.and_true, Nat.ble_eq, doms_len]
    exact hl
  · rw [Bool.and_eq_true, Nat.ble_eq]
    refine ⟨by simp [listsL, doms_len, hl], ?_⟩
    unfold lensB listsL
    rw [List.all_eq_true]
    intro y hy
    obtain ⟨d, hd, rfl⟩ := List.mem_map.mp hy
    obtain ⟨x, hx, rfl⟩ := List.mem_map.mp hd
    rw [Nat.ble_eq]
    exact (listD_near (ok x hx) (hn x hx)).2
theorem DomsOk.near {l : List (List Int)} (h : DomsOk 6 l) : ∀ x ∈ l, near3 x := fun x hx y hy => by have := (h.dom x hx).abs y hy; omega

end Go.Proofs.YtnojoaghcbljfaaGreatDoor.Ev
