/-
Tables: the filter's plain laws.
Conditions: constraints that are made of plain data.
-/
import Derived.Test.YthdpbmcidebagaaGreatDoorDb
set_option linter.unusedVariables false
set_option linter.unusedSimpArgs false
set_option maxRecDepth 100000
namespace Go.Proofs.YthdpbmcidebagaaGreatDoor.Ev
open Go

structure TabC (c : Con) : Prop where
  kind : c.1 = 18
  a1 : 1 ≤ c.2.1.length
  a4 : c.2.1.length ≤ 4
  ar : ∀ x ∈ c.2.1, 0 ≤ x ∧ x < 256
  b0 : c.2.2.1 = []
  c0 : c.2.2.2.1 = []
  d0 : c.2.2.2.2.1 = []
  e0 : c.2.2.2.2.2.1 = []
  k0 : c.2.2.2.2.2.2.1 = 0
  r1 : 1 ≤ c.2.2.2.2.2.2.2.length
  r6 : c.2.2.2.2.2.2.2.length ≤ 6
  rl : ∀ r ∈ c.2.2.2.2.2.2.2, r.length = c.2.1.length
  rr : ∀ r ∈ c.2.2.2.2.2.2.2, ∀ x ∈ r, -1000 ≤ x ∧ x ≤ 1000
theorem tab_con18 (z : ZRest) (v : Int) (h1 : U8s z.1) (hv : 0 < v) (hv1 : v ≤ 256) : TabC (con18 z v) := by
  have hn := nA_range z.1
  have hl : (placesL z.1 (nA z.1) v).length = (nA z.1).toNat := places_length _ _ _
  have hlt := Nat.mod_lt z.2.2.1.length (show 0 < 6 by omega)
  refine ⟨rfl, ?_, ?_, fun x hx => ?_, rfl, rfl, rfl, rfl, rfl, ?_, ?_, fun r hr => ?_, fun r hr x hx => ?_⟩
  · show 1 ≤ (placesL z.1 (nA z.1) v).length
    omega
  · show (placesL z.1 (nA z.1) v).length ≤ 4
    omega
  · have := places_range h1 hv x hx
    omega
  · show 1 ≤ (rowsC z.2.2.1 (nA z.1)).length
    unfold rowsC
    simp
  · show (rowsC z.2.2.1 (nA z.1)).length ≤ 6
    unfold rowsC
    simp
    omega
  · have hr : r ∈ rowsC z.2.2.1 (nA z.1) := hr
    unfold rowsC at hr
    obtain ⟨i, _, rfl⟩ := List.mem_map.mp hr
    show (numbersL _ _ _ _ _).length = (placesL z.1 (nA z.1) v).length
    rw [numbers_length, hl]
  · have hr : r ∈ rowsC z.2.2.1 (nA z.1) := hr
    unfold rowsC at hr
    obtain ⟨i, _, rfl⟩ := List.mem_map.mp hr
    have := numbers_range (show (0 : Int) < 4 by omega) x hx
    omega
theorem right_tab {c : Con} (h : TabC c) : rightM c 256 = 0 ∧ kindB c = true := by
  obtain ⟨k, A, B, C, D, E, M, R⟩ := c
  obtain ⟨h1, h2, h3, h4, h5, h6, h7, h8, h9, h10, h11, h12, h13⟩ := h
  simp only at h1 h2 h3 h4 h5 h6 h7 h8 h9 h10 h11 h12 h13
  subst h1 h5 h6 h7 h8 h9
  have e2 : countedD (18, A, [], [], [], [], 0, R) ⟨#[]⟩ = true := by
    simp [countedD, noneL, -List.length_eq_zero_iff]
    omega
  have e3 : alikeD (18, A, [], [], [], [], 0, R) = true := by
    have : List.any R (rowN (18, A, [], [], [], [], 0, R)) = false := not_any fun r hr => by
      unfold rowN
      simp [h12 r hr]
    unfold alikeD
    simp [this]
  have e4 : kB (18, A, [], [], [], [], 0, R) = true := rfl
  have e5 : List.any (varsD (18, A, [], [], [], [], 0, R)) (varB 256) = false := by
    refine vars_ok fun x hx => ?_
    rcases List.mem_append.mp (show x ∈ A ++ [] from hx) with hm | hm
    · exact h4 x hm
    · cases hm
  have e6 : numbersD (18, A, [], [], [], [], 0, R) = true := by
    have : (R.all fun r => boundedD r (-1000000)) = true := by
      rw [List.all_eq_true]
      exact fun r hr => bounded_ok fun x hx => by have := h13 r hr x hx; omega
    unfold numbersD
    simp only [this]
    rfl
  refine ⟨?_, rfl⟩
  unfold rightM
  rw [e2, e3, e4, e5, e6]
  rfl
theorem fits_tab {c : Con} (h : TabC c) {l : List (List Int)} (hl : l.length = c.2.1.length) (ok : ∀ x ∈ l, okL x = true) : fitsD c (domsL l) 18 18 = true ∧ filtB 18 18 c (domsL l) = true := by
  obtain ⟨h1, h2⟩ := right_tab h
  constructor
  · unfold fitsD lenCB
    have e1 : List.any (domsL l) emptyD = false := not_any fun d hd => by
      obtain ⟨x, hx, rfl⟩ := List.mem_map.mp hd
      unfold emptyD
      simp [size_ofD (ok x hx)]
    rw [h1, e1, doms_len, h.b0, h.kind]
    simp [hl]
  · unfold filtB fitsB
    rw [h2, DomsOk.listB ok]
    simp
theorem tabIn_iff {l : List (List Int)} (ok : ∀ x ∈ l, okL x = true) {r : List Int} (hr : r.length = l.length) : tabIn (domsL l) r = true ↔ InP r l := by
  unfold tabIn
  rw [List.all_eq_true]
  constructor
  · intro h
    refine F2.ofD 0 [] hr fun i hi => ?_
    have := h i (List.mem_range.mpr hi)
    rw [doms_get (by omega), has_ofD (ok _ (getD_mem (by omega) []))] at this
    exact of_decide_eq_true this
  · intro h i hi
    have hi := List.mem_range.mp hi
    rw [doms_get (by omega), has_ofD (ok _ (getD_mem (by omega) []))]
    exact decide_eq_true (h.getD hi 0 [])
theorem put1_mem (l : List Int) (v x : Int) : x ∈ (if v ∈ l then l else l ++ [v]) ↔ x ∈ l ∨ x = v := by
  split
  · rename_i h
    constructor
    · exact .inl
    · rintro (h1 | rfl)
      · exact h1
      · exact h
  · simp
theorem tabPut_mem : ∀ (l : List (List Int)) (r : List Int), l.length = r.length → (tabPut l r).length = l.length ∧ ∀ i x, i < l.length → (x ∈ (tabPut l r).getD i [] ↔ x ∈ l.getD i [] ∨ x = r.getD i 0)
  | [], [], _ => ⟨by unfold tabPut; rfl, fun i x h => by simp at h⟩
  | [], _ :: _, h => by simp at h
  | _ :: _, [], h => by simp at h
  | l :: ls, v :: vs, h => by
    obtain ⟨h1, h2⟩ := tabPut_mem ls vs (by simpa using h)
    refine ⟨by unfold tabPut; simp [h1], fun i x hi => ?_⟩
    cases i with
    | zero => exact put1_mem l v x
    | succ i => exact h2 i x (by simpa using hi)
theorem tabGo_mem (d : List Dom) : ∀ (rows : List (List Int)) (left : List (List Int)), (∀ r ∈ rows, r.length = left.length) →
    (tabGo d left rows).length = left.length ∧ ∀ i x, i < left.length → (x ∈ (tabGo d left rows).getD i [] ↔ x ∈ left.getD i [] ∨ ∃ r ∈ rows, tabIn d r = true ∧ r.getD i 0 = x)
  | [], left, _ => ⟨rfl, fun i x _ => by simp [tabGo]⟩
  | r :: rows, left, h => by
    have hr := h r List.mem_cons_self
    have e : tabGo d left (r :: rows) = tabGo d (if tabIn d r then tabPut left r else left) rows := rfl
    rw [e]
    cases ht : tabIn d r with
    | false =>
      obtain ⟨h1, h2⟩ := tabGo_mem d rows left fun r' hr' => h r' (List.mem_cons_of_mem _ hr')
      refine ⟨h1, fun i x hi => ?_⟩
      show x ∈ (tabGo d left rows).getD i [] ↔ _
      rw [h2 i x hi]
      constructor
      · rintro (h | ⟨r', h3, h4⟩)
        · exact .inl h
        · exact .inr ⟨r', List.mem_cons_of_mem _ h3, h4⟩
      · rintro (h | ⟨r', h3, h4, h5⟩)
        · exact .inl h
        · rcases List.mem_cons.mp h3 with rfl | h3
          · rw [ht] at h4; cases h4
          · exact .inr ⟨r', h3, h4, h5⟩
    | true =>
      obtain ⟨p1, p2⟩ := tabPut_mem left r hr.symm
      obtain ⟨h1, h2⟩ := tabGo_mem d rows (tabPut left r) fun r' hr' => by rw [p1]; exact h r' (List.mem_cons_of_mem _ hr')
      refine ⟨h1.trans p1, fun i x hi => ?_⟩
      show x ∈ (tabGo d (tabPut left r) rows).getD i [] ↔ _
      rw [h2 i x (by omega), p2 i x hi]
      constructor
      · rintro ((h | h) | ⟨r', h3, h4⟩)
        · exact .inl h
        · exact .inr ⟨r, List.mem_cons_self, ht, h.symm⟩
        · exact .inr ⟨r', List.mem_cons_of_mem _ h3, h4⟩
      · rintro (h | ⟨r', h3, h4, h5⟩)
        · exact .inl (.inl h)
        · rcases List.mem_cons.mp h3 with rfl | h3
          · exact .inl (.inr h5.symm)
          · exact .inr ⟨r', h3, h4, h5⟩
/-- What is left of each place. -/
def tabP (c : Con) (l : List (List Int)) : List (List Int) := tabGo (domsL l) (List.replicate l.length []) c.2.2.2.2.2.2.2
theorem tabP_mem {c : Con} (h : TabC c) {l : List (List Int)} (hl : l.length = c.2.1.length) (ok : ∀ x ∈ l, okL x = true) :
    (tabP c l).length = l.length ∧ ∀ i x, i < l.length → (x ∈ (tabP c l).getD i [] ↔ ∃ r ∈ c.2.2.2.2.2.2.2, InP r l ∧ r.getD i 0 = x) := by
  obtain ⟨h1, h2⟩ := tabGo_mem (domsL l) c.2.2.2.2.2.2.2 (List.replicate l.length []) fun r hr => by rw [h.rl r hr, List.length_replicate, hl]
  rw [List.length_replicate] at h1 h2
  refine ⟨h1, fun i x hi => ?_⟩
  unfold tabP
  rw [h2 i x hi]
  have e : (List.replicate l.length ([] : List Int)).getD i [] = [] := by
    rw [List.getD_eq_getElem?_getD, List.getElem?_replicate]
    split <;> rfl
  rw [e]
  constructor
  · rintro (h3 | ⟨r, h3, h4, h5⟩)
    · cases h3
    · exact ⟨r, h3, (tabIn_iff ok (by rw [h.rl r h3, hl])).mp h4, h5⟩
  · rintro ⟨r, h3, h4, h5⟩
    exact .inr ⟨r, h3, (tabIn_iff ok (by rw [h.rl r h3, hl])).mpr h4, h5⟩
theorem tableF_of {c : Con} (h : TabC c) {l : List (List Int)} (hl : l.length = c.2.1.length) (ok : ∀ x ∈ l, okL x = true) : tableF c (domsL l) = madeAll (tabP c l) := by
  unfold tableF
  rw [(fits_tab h hl ok).1, doms_len]
  rfl
theorem getD_of_mem {α : Type} {l : List α} {x : α} (h : x ∈ l) (d : α) : ∃ i, i < l.length ∧ l.getD i d = x := by
  obtain ⟨i, hi, rfl⟩ := List.getElem_of_mem h
  exact ⟨i, hi, by rw [List.getD_eq_getElem?_getD, List.getElem?_eq_getElem hi]; rfl⟩
theorem tab_out {c : Con} (h : TabC c) {l : List (List Int)} (hl : l.length = c.2.1.length) (ok : ∀ x ∈ l, okL x = true) :
    ((∀ r ∈ c.2.2.2.2.2.2.2, ¬ InP r l) ∧ tableF c (domsL l) = ([], false)) ∨
    ((∃ r ∈ c.2.2.2.2.2.2.2, InP r l) ∧ tableF c (domsL l) = (domsL (tabP c l), true) ∧ (∀ x ∈ tabP c l, okL x = true) ∧ ∀ x ∈ tabP c l, near3 x) := by
  rw [tableF_of h hl ok]
  obtain ⟨p1, p2⟩ := tabP_mem h hl ok
  have h1 := h.a1
  by_cases hr : ∃ r ∈ c.2.2.2.2.2.2.2, InP r l
  · obtain ⟨r, hr1, hr2⟩ := hr
    have near : ∀ x ∈ tabP c l, near3 x := fun x hx y hy => by
      obtain ⟨i, hi, rfl⟩ := getD_of_mem hx []
      obtain ⟨r', g1, g2, rfl⟩ := (p2 i y (by omega)).mp hy
      exact h.rr r' g1 _ (getD_mem (by rw [h.rl r' g1]; omega) 0)
    have oks : ∀ x ∈ tabP c l, okL x = true := fun x hx => by
      obtain ⟨i, hi, e⟩ := getD_of_mem hx []
      refine okL_small ?_ (near x hx)
      have hm := (p2 i (r.getD i 0) (by omega)).mpr ⟨r, hr1, hr2, rfl⟩
      rw [e] at hm
      exact List.ne_nil_of_mem hm
    refine .inr ⟨⟨r, hr1, hr2⟩, ?_, oks, near⟩
    unfold madeAll
    have : (tabP c l).all okL = true := by rw [List.all_eq_true]; exact oks
    rw [this]
    rfl
  · have hr' : ∀ r ∈ c.2.2.2.2.2.2.2, ¬ InP r l := fun r h1 h2 => hr ⟨r, h1, h2⟩
    refine .inl ⟨hr', ?_⟩
    have e0 : (tabP c l).getD 0 [] = [] := by
      apply List.eq_nil_iff_forall_not_mem.mpr
      intro x hx
      obtain ⟨r, g1, g2, _⟩ := (p2 0 x (by omega)).mp hx
      exact hr' r g1 g2
    have hm : ([] : List Int) ∈ tabP c l := by
      have := getD_mem (show 0 < (tabP c l).length by omega) ([] : List Int)
      rwa [e0] at this
    unfold madeAll
    have : (tabP c l).all okL = false := by
      rw [List.all_eq_false]
      exact ⟨[], hm, by simp [okL_nil]⟩
    rw [this]
    rfl
theorem iota_map (r : List Int) : (iota 0 r.length).map (fun i => r.getD i.toNat 0) = r := by
  unfold iota
  rw [List.map_map]
  apply List.ext_getElem (by simp)
  intro i h1 h2
  rw [List.getElem_map, List.getElem_range]
  show r.getD (0 + (i : Int)).toNat 0 = _
  have : (0 + (i : Int)).toNat = i := by omega
  rw [this, List.getD_eq_getElem?_getD, List.getElem?_eq_getElem h2]
  rfl
theorem InP.len {r : List Int} {d : List (List Int)} (h : InP r d) : r.length = d.length := F2.length h
theorem holds_tab {c : Con} (h : TabC c) {r : List Int} (hr : r.length = c.2.1.length) : holdsB (localC c) r = true ∧ (holdsC (localC c) r = true ↔ r ∈ c.2.2.2.2.2.2.2) := by
  have hk : (localC c).1 = 18 := h.kind
  have hil : (iota 0 c.2.1.length).length = c.2.1.length := by unfold iota; simp
  constructor
  · unfold holdsB
    rw [Bool.or_eq_true]
    refine .inr ?_
    unfold rowB
    rw [hk]
    simp only [Bool.and_eq_true, List.all_eq_true, decide_eq_true_eq, Nat.ble_eq]
    refine ⟨⟨⟨⟨trivial, ?_⟩, ?_⟩, fun x hx => ?_⟩, fun r' hr' => ?_⟩
    · show (iota 0 c.2.1.length).length ≤ 1000
      have := h.a4
      omega
    · have := h.r6
      show c.2.2.2.2.2.2.2.length ≤ 10000
      omega
    · have hx : x ∈ iota 0 c.2.1.length := hx
      unfold iota at hx
      obtain ⟨i, hi, rfl⟩ := List.mem_map.mp hx
      have hi := List.mem_range.mp hi
      unfold inB
      simp only [Bool.and_eq_true, decide_eq_true_eq]
      omega
    · show r'.length = (iota 0 c.2.1.length).length
      rw [hil]
      exact h.rl r' hr'
  · unfold holdsC
    have hk2 : ¬ (localC c).1 = 11 := by rw [hk]; decide
    rw [if_neg hk2, if_pos hk]
    unfold rowC
    have e : (localC c).2.1.map (fun i => r.getD i.toNat 0) = r := by
      show (iota 0 c.2.1.length).map (fun i => r.getD i.toNat 0) = r
      rw [← hr]
      exact iota_map r
    rw [e, List.any_eq_true]
    constructor
    · rintro ⟨x, hx, e⟩
      rw [← of_decide_eq_true e]
      exact hx
    · exact fun hm => ⟨r, hm, decide_eq_true rfl⟩
theorem local_tab {c : Con} (h : TabC c) : localB c = true := by
  unfold localB
  rw [h.b0]
  simp
  have := h.a4
  omega
theorem listD_near {p : List Int} (h : okL p = true) (hn : near3 p) : listB (ofD p).1 = true ∧ (listD (ofD p).1).length ≤ 1000000 := by
  have := list_len h hn
  exact ⟨listB_of h, by omega⟩
theorem lists_get {l : List (List Int)} {i : Nat} (hi : i < l.length) (ok : ∀ x ∈ l, okL x = true) (v : Int) : v ∈ listD ((domsL l).getD i dom0) ↔ v ∈ l.getD i [] := by
  rw [doms_get hi]
  exact (list_ofD (ok _ (getD_mem hi []))).1 v
/-- Lists of the same numbers read as the same domains. -/
theorem lists_same {p q : List (List Int)} (hl : p.length = q.length) (hp : ∀ x ∈ p, okL x = true) (hq : ∀ x ∈ q, okL x = true) (h : ∀ i v, i < p.length → (v ∈ p.getD i [] ↔ v ∈ q.getD i [])) : listsL (domsL p) = listsL (domsL q) := by
  unfold listsL
  apply List.ext_getElem (by simp [doms_len, hl])
  intro i h1 h2
  rw [List.getElem_map, List.getElem_map]
  have hi : i < p.length := by simpa [doms_len] using h1
  have hi2 : i < q.length := by omega
  have e : ∀ {l : List (List Int)} (h : i < l.length) (h' : i < (domsL l).length), (domsL l)[i] = (ofD (l.getD i [])).1 := fun {l} h h' => by
    rw [← doms_get h, List.getD_eq_getElem?_getD, List.getElem?_eq_getElem h']
    rfl
  rw [e hi, e hi2]
  have a1 := list_ofD (hp _ (getD_mem hi []))
  have a2 := list_ofD (hq _ (getD_mem hi2 []))
  exact rising_ext a1.2 a2.2 fun v => by rw [a1.1, a2.1]; exact h i v hi
theorem lists_bound {p : List (List Int)} (hl : p.length ≤ 1000) (ok : ∀ x ∈ p, okL x = true) (hn : ∀ x ∈ p, near3 x) : (Nat.ble (domsL p).length 1000 && (domsL p).all listB) = true ∧ (Nat.ble (listsL (domsL p)).length 1000 && lensB (listsL (domsL p))) = true := by
  constructor
  · rw [DomsOk.listB ok, Bool.and_true, Nat.ble_eq, doms_len]
    exact hl
  · rw [Bool.and_eq_true, Nat.ble_eq]
    refine ⟨by simp [listsL, doms_len, hl], ?_⟩
    unfold lensB listsL
    rw [List.all_eq_true]
    intro y hy
    obtain ⟨d, hd, rfl⟩ := List.mem_map.mp hy
    obtain ⟨x, hx, rfl⟩ := List.mem_map.mp hd
    rw [Nat.ble_eq]
    exact (listD_near (ok x hx) (hn x hx)).2
theorem tab_keeps {c : Con} (h : TabC c) {l : List (List Int)} (hd : DomsOk 6 l) (hl : l.length = c.2.1.length) : KeptN tableF 18 18 c l := by
  have ok := hd.ok (by omega)
  have few := sol_ok (c := c) hd (local_tab h) fun r hr => (holds_tab h (by rw [hr.len, hl])).1
  have sol : (solL c l 4000).2 = true → ∀ r, r ∈ (solL c l 4000).1 ↔ InP r l ∧ r ∈ c.2.2.2.2.2.2.2 := fun hs r => by
    rw [sol_mem hd.ne hs]
    constructor
    · rintro ⟨h1, h2⟩; exact ⟨h1, (holds_tab h (by rw [h1.len, hl])).2.mp h2⟩
    · rintro ⟨h1, h2⟩; exact ⟨h1, (holds_tab h (by rw [h1.len, hl])).2.mpr h2⟩
  have rows : (solL c l 4000).2 = true → (solL c l 4000).1.length ≤ 100000 := fun hs => by have := sol_lenN hd.ne hs; omega
  have f1 := (fits_tab h hl ok).2
  obtain ⟨p1, p2⟩ := tabP_mem h hl ok
  rcases tab_out h hl ok with ⟨hr, e⟩ | ⟨⟨r0, hr1, hr2⟩, e, oks, near⟩
  · refine ⟨hd.ble, f1, few, rows, fun hs _ => ?_, ?_, ?_, ?_, ?_, ?_, ?_⟩
    · apply List.eq_nil_iff_forall_not_mem.mpr
      intro r hm
      obtain ⟨g1, g2⟩ := (sol hs r).mp hm
      exact hr r g2 g1
    all_goals (rw [e]; intro h; first | cases h | (intro h; cases h))
  · have hpl : (tabP c l).length = c.2.1.length := by omega
    have f2 := (fits_tab h hpl oks).2
    have inp : ∀ r ∈ c.2.2.2.2.2.2.2, InP r l → InP r (tabP c l) := fun r g1 g2 => F2.ofD 0 [] (by rw [g2.len, p1]) fun i hi => (p2 i _ (by rw [← g2.len]; exact hi)).mpr ⟨r, g1, g2, rfl⟩
    have sub : ∀ i v, i < l.length → v ∈ (tabP c l).getD i [] → v ∈ l.getD i [] := fun i v hi hv => by
      obtain ⟨r, g1, g2, rfl⟩ := (p2 i v hi).mp hv
      exact g2.getD (by rw [g2.len]; exact hi) 0 []
    have back : ∀ r, InP r (tabP c l) → InP r l := fun r g => F2.ofD 0 [] (by rw [g.len, p1]) fun i hi => sub i _ (by rw [← p1, ← g.len]; exact hi) (g.getD hi 0 [])
    refine ⟨hd.ble, f1, few, rows, fun _ h => (by rw [e] at h; cases h), fun _ => ?_, fun _ d hm => ?_, fun _ i v hi hv => ?_, fun hs _ r hm => ?_, fun _ => ?_, fun _ => ?_⟩
    · rw [e]; show (domsL (tabP c l)).length = _; rw [doms_len, p1]
    · rw [e] at hm
      obtain ⟨x, hx, rfl⟩ := List.mem_map.mp (show d ∈ domsL (tabP c l) from hm)
      exact listD_near (oks x hx) (near x hx)
    · rw [e] at hv
      exact sub i v hi ((lists_get (by omega) oks v).mp hv)
    · obtain ⟨g1, g2⟩ := (sol hs r).mp hm
      refine ⟨g1.len, fun i hi => ?_⟩
      rw [e]
      show hasD ((domsL (tabP c l)).getD i dom0) (r.getD i 0) = true
      rw [doms_get (by omega), has_ofD (oks _ (getD_mem (by omega) []))]
      exact decide_eq_true ((p2 i _ hi).mpr ⟨r, g2, g1, rfl⟩)
    · rw [e]; exact f2
    · rw [e]
      show (tableF c (domsL (tabP c l))).2 = true ∧ (tableF c (domsL (tabP c l))).1.all listB = true ∧ listsL (tableF c (domsL (tabP c l))).1 = listsL (domsL (tabP c l))
      rcases tab_out h hpl oks with ⟨hr, _⟩ | ⟨_, e2, oks2, near2⟩
      · exact absurd (inp r0 hr1 hr2) (hr r0 hr1)
      · rw [e2]
        obtain ⟨q1, q2⟩ := tabP_mem h hpl oks
        refine ⟨rfl, DomsOk.listB oks2, lists_same q1 oks2 oks fun i v hi => ?_⟩
        rw [q2 i v (by omega), p2 i v (by omega)]
        constructor
        · rintro ⟨r, g1, g2, g3⟩; exact ⟨r, g1, back r g2, g3⟩
        · rintro ⟨r, g1, g2, g3⟩; exact ⟨r, g1, inp r g1 g2, g3⟩
/-- Of each list what is in a solution. -/
theorem exact_lists {c : Con} {l p : List (List Int)} (hd : DomsOk 6 l) (hpl : p.length = l.length) (hp : ∀ x ∈ p, okL x = true) (hs : (solL c l 4000).2 = true) (hne : (solL c l 4000).1 ≠ [])
    (h : ∀ i v, i < l.length → (v ∈ p.getD i [] ↔ ∃ r ∈ (solL c l 4000).1, r.getD i 0 = v)) : exactL c l 4000 = (listsL (domsL p), true) := by
  have hrl : ∀ r ∈ (solL c l 4000).1, InP r l := fun r hr => ((sol_mem hd.ne hs r).mp hr).1
  unfold exactL
  rw [if_neg (fun e => hne (List.length_eq_zero_iff.mp e))]
  congr 1
  unfold exactGo listsL
  apply List.ext_getElem (by simp [doms_len, hpl])
  intro i h1 h2
  rw [List.getElem_map, List.getElem_map, List.getElem_range]
  have hi : i < l.length := by simpa using h1
  have hip : i < p.length := by omega
  have e : (domsL p)[i]'(by rw [doms_len]; exact hip) = (ofD (p.getD i [])).1 := by
    rw [← doms_get hip, List.getD_eq_getElem?_getD, List.getElem?_eq_getElem]
    rfl
  rw [e]
  have a1 := list_ofD (hp _ (getD_mem hip []))
  refine rising_ext ?_ a1.2 fun v => ?_
  · exact List.Pairwise.filter _ (hd.dom _ (getD_mem hi [])).ris
  · rw [a1.1, h i v hi, List.mem_filter, List.any_eq_true]
    constructor
    · rintro ⟨_, r, g1, g2⟩
      exact ⟨r, g1, of_decide_eq_true g2⟩
    · rintro ⟨r, g1, rfl⟩
      exact ⟨(hrl r g1).getD (by rw [(hrl r g1).len]; exact hi) 0 [], r, g1, decide_eq_true rfl⟩
theorem tab_filters {c : Con} (h : TabC c) {l : List (List Int)} (hd : DomsOk 6 l) (hl : l.length = c.2.1.length) : FiltN tableF 18 18 c l := by
  have k := tab_keeps h hd hl
  have ok := hd.ok (by omega)
  have sol : (solL c l 4000).2 = true → ∀ r, r ∈ (solL c l 4000).1 ↔ InP r l ∧ r ∈ c.2.2.2.2.2.2.2 := fun hs r => by
    rw [sol_mem hd.ne hs]
    constructor
    · rintro ⟨h1, h2⟩; exact ⟨h1, (holds_tab h (by rw [h1.len, hl])).2.mp h2⟩
    · rintro ⟨h1, h2⟩; exact ⟨h1, (holds_tab h (by rw [h1.len, hl])).2.mpr h2⟩
  obtain ⟨p1, p2⟩ := tabP_mem h hl ok
  rcases tab_out h hl ok with ⟨hr, e⟩ | ⟨⟨r0, hr1, hr2⟩, e, oks, near⟩
  · have no : (solL c l 4000).2 = true → exactL c l 4000 = ([], false) := fun hs => by
      have : (solL c l 4000).1 = [] := by
        apply List.eq_nil_iff_forall_not_mem.mpr
        intro r hm
        obtain ⟨g1, g2⟩ := (sol hs r).mp hm
        exact hr r g2 g1
      unfold exactL
      rw [this]
      rfl
    refine ⟨k.le, k.f1, k.few, fun hs => by rw [e, no hs], ?_, ?_, fun hs => by rw [e, no hs]; rfl⟩
    · rw [e]; rfl
    · rw [e]; rfl
  · have yes : (solL c l 4000).2 = true → exactL c l 4000 = (listsL (domsL (tabP c l)), true) := fun hs => by
      refine exact_lists hd p1 oks hs (List.ne_nil_of_mem ((sol hs r0).mpr ⟨hr2, hr1⟩)) fun i v hi => ?_
      rw [p2 i v hi]
      constructor
      · rintro ⟨r, g1, g2, g3⟩; exact ⟨r, (sol hs r).mpr ⟨g2, g1⟩, g3⟩
      · rintro ⟨r, g1, g3⟩
        obtain ⟨g2, g4⟩ := (sol hs r).mp g1
        exact ⟨r, g4, g2, g3⟩
    obtain ⟨b1, b2⟩ := lists_bound (p := tabP c l) (by have := h.a4; omega) oks near
    refine ⟨k.le, k.f1, k.few, fun hs => by rw [e, yes hs], ?_, ?_, fun hs => by rw [e, yes hs]⟩
    · rw [e]; exact b1
    · rw [e]; exact b2
theorem ones_in {r v : List Int} : InP r (ones v) ↔ r = v := by
  induction v generalizing r with
  | nil =>
    constructor
    · intro h; cases h; rfl
    · rintro rfl; exact .nil
  | cons x v ih =>
    constructor
    · intro h
      cases h with
      | cons h1 h2 => rw [ih.mp h2, List.mem_singleton.mp h1]
    · rintro rfl
      exact .cons (List.mem_singleton.mpr rfl) (ih.mpr rfl)
theorem ones_ok {v : List Int} (hv : ∀ x ∈ v, -1000 ≤ x ∧ x ≤ 1000) : ∀ x ∈ ones v, okL x = true ∧ Rising x ∧ near3 x := fun x hx => by
  obtain ⟨y, hy, rfl⟩ := List.mem_map.mp hx
  exact ⟨one_ok (hv y hy), by simp [Rising], fun z hz => by rw [List.mem_singleton.mp hz]; exact hv y hy⟩
theorem ones_get {v : List Int} {i : Nat} (hi : i < v.length) : (ones v).getD i [] = [v.getD i 0] := by
  unfold ones
  rw [List.getD_eq_getElem?_getD, List.getElem?_map, List.getD_eq_getElem?_getD, List.getElem?_eq_getElem hi]
  rfl
theorem tab_fixed {c : Con} (h : TabC c) {v : List Int} (hl : v.length = c.2.1.length) (hv : ∀ x ∈ v, -1000 ≤ x ∧ x ≤ 1000) : FixN tableF 18 18 c v := by
  have ok : ∀ x ∈ ones v, okL x = true := fun x hx => (ones_ok hv x hx).1
  have hol : (ones v).length = c.2.1.length := by rw [List.length_map, hl]
  obtain ⟨b1, b2⟩ := holds_tab h (r := v) hl
  obtain ⟨p1, p2⟩ := tabP_mem h hol ok
  rcases tab_out h hol ok with ⟨hr, e⟩ | ⟨⟨r0, hr1, hr2⟩, e, oks, near⟩
  · refine ⟨(fits_tab h hol ok).2, b1, ?_, fun h => (by rw [e] at h; cases h), fun h => (by rw [e] at h; cases h)⟩
    rw [e]
    cases hh : holdsC (localC c) v with
    | false => rfl
    | true => exact absurd (ones_in.mpr rfl) (hr v (b2.mp hh))
  · have hr0 := ones_in.mp hr2
    subst hr0
    refine ⟨(fits_tab h hol ok).2, b1, by rw [e, b2.mpr hr1], fun _ => ?_, fun _ => ?_⟩
    · rw [e]
      exact (lists_bound (p := tabP c (ones r0)) (by have := h.a4; omega) oks near).1
    · rw [e]
      show listsL (domsL (tabP c (ones r0))) = ones r0
      have e2 := lists_doms (l := ones r0) fun x hx => ⟨(ones_ok hv x hx).1, (ones_ok hv x hx).2.1⟩
      conv => rhs; rw [← e2]
      refine lists_same p1 oks ok fun i x hi => ?_
      rw [p2 i x (by omega), ones_get (by have : (ones r0).length = r0.length := List.length_map _; omega), List.mem_singleton]
      constructor
      · rintro ⟨r, _, g2, rfl⟩
        rw [ones_in.mp g2]
      · rintro rfl
        exact ⟨r0, hr1, hr2, rfl⟩
end Go.Proofs.YthdpbmcidebagaaGreatDoor.Ev
