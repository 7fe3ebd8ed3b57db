/-
Tables: the filter's plain laws.
Conditions: constraints that are made of plain data.
-/
import Derived.Test.YtnojoaghcbljfaaGreatDoorDb
set_option linter.unusedVariables false
set_option linter.unusedSimpArgs false
set_option maxRecDepth 100000
namespace Go.Proofs.YtnojoaghcbljfaaGreatDoor.Ev
open Go

theorem getD_of_mem {α : Type} {l : List α} {x : α} (h : x ∈ l) (d : α) : ∃ i, i < l.length ∧ l.getD i d = x := by
  obtain ⟨i, hi, rfl⟩ := List.getElem_of_mem h
  exact ⟨i, hi, by rw [List.getD_eq_getElem?_getD, List.getElem?_eq_getElem hi]; rfl⟩
theorem InP.len {r : List Int} {d : List (List Int)} (h : InP r d) : r.length = d.length := F2.length h
theorem listD_near {p : List Int} (h : okL p = true) (hn : near3 p) : listB (ofD p).1 = true ∧ (listD (ofD p).1).length ≤ 1000000 := by
  have := list_len h hn
  exact ⟨listB_of h, by omega⟩
theorem lists_get {l : List (List Int)} {i : Nat} (hi : i < l.length) (ok : ∀ x ∈ l, okL x = true) (v : Int) : v ∈ listD ((domsL l).getD i dom0) ↔ v ∈ l.getD i [] := by
  rw [doms_get hi]
  exact (list_ofD (ok _ (getD_mem hi []))).1 v
/-- Lists of the same numbers read as the same domains. -/
theorem lists_same {p q : List (List Int)} (hl : p.length = q.length) (hp : ∀ x ∈ p, okL x = true) (hq : ∀ x ∈ q, okL x = true) (h : ∀ i v, i < p.length → (v ∈ p.getD i [] ↔ v ∈ q.getD i [])) : listsL (domsL p) = listsL (domsL q) := by
  unfold listsL
  apply List.ext_getElem (by simp [doms_len, hl])
  intro i h1 h2
  rw [List.getElem_map, List.getElem_map]
  have hi : i < p.length := by simpa [doms_len] using h1
  have hi2 : i < q.length := by omega
  have e : ∀ {l : List (List Int)} (h : i < l.length) (h' : i < (domsL l).length), (domsL l)[i] = (ofD (l.getD i [])).1 := fun {l} h h' => by
    rw [← doms_get h, List.getD_eq_getElem?_getD, List.getElem?_eq_getElem h']
    rfl
  rw [e hi, e hi2]
  have a1 := list_ofD (hp _ (getD_mem hi []))
  have a2 := list_ofD (hq _ (getD_mem hi2 []))
  exact rising_ext a1.2 a2.2 fun v => by rw [a1.1, a2.1]; exact h i v hi
theorem lists_bound {p : List (List Int)} (hl : p.length ≤ 1000) (ok : ∀ x ∈ p, okL x = true) (hn : ∀ x ∈ p, near3 x) : (Nat.ble (domsL p).length 1000 && (domsL p).all listB) = true ∧ (Nat.ble (listsL (domsL p)).length 1000 && lensB (listsL (domsL p))) = true := by
  constructor
  · rw [DomsOk.listB ok, Bool.and_true, Nat.ble_eq, doms_len]
    exact hl
  · rw [Bool.and_eq_true, Nat.ble_eq]
    refine ⟨by simp [listsL, doms_len, hl], ?_⟩
    unfold lensB listsL
    rw [List.all_eq_true]
    intro y hy
    obtain ⟨d, hd, rfl⟩ := List.mem_map.mp hy
    obtain ⟨x, hx, rfl⟩ := List.mem_map.mp hd
    rw [Nat.ble_eq]
    exact (listD_near (ok x hx) (hn x hx)).2
theorem DomsOk.near {l : List (List Int)} (h : DomsOk 6 l) : ∀ x ∈ l, near3 x := fun x hx y hy => by have := (h.dom x hx).abs y hy; omega

/-- Of each list what is in a solution. -/
theorem exact_lists {c : Con} {l p : List (List Int)} (hd : DomsOk 6 l) (hpl : p.length = l.length) (hp : ∀ x ∈ p, okL x = true) (hs : (solL c l 4000).2 = true) (hne : (solL c l 4000).1 ≠ [])
    (h : ∀ i v, i < l.length → (v ∈ p.getD i [] ↔ ∃ r ∈ (solL c l 4000).1, r.getD i 0 = v)) : exactL c l 4000 = (listsL (domsL p), true) := by
  have hrl : ∀ r ∈ (solL c l 4000).1, InP r l := fun r hr => ((sol_mem hd.ne hs r).mp hr).1
  unfold exactL
  rw [if_neg (fun e => hne (List.length_eq_zero_iff.mp e))]
  congr 1
  unfold exactGo listsL
  apply List.ext_getElem (by simp [doms_len, hpl])
  intro i h1 h2
  rw [List.getElem_map, List.getElem_map, List.getElem_range]
  have hi : i < l.length := by simpa using h1
  have hip : i < p.length := by omega
  have e : (domsL p)[i]'(by rw [doms_len]; exact hip) = (ofD (p.getD i [])).1 := by
    rw [← doms_get hip, List.getD_eq_getElem?_getD, List.getElem?_eq_getElem]
    rfl
  rw [e]
  have a1 := list_ofD (hp _ (getD_mem hip []))
  refine rising_ext ?_ a1.2 fun v => ?_
  · exact List.Pairwise.filter _ (hd.dom _ (getD_mem hi [])).ris
  · rw [a1.1, h i v hi, List.mem_filter, List.any_eq_true]
    constructor
    · rintro ⟨_, r, g1, g2⟩
      exact ⟨r, g1, of_decide_eq_true g2⟩
    · rintro ⟨r, g1, rfl⟩
      exact ⟨(hrl r g1).getD (by rw [(hrl r g1).len]; exact hi) 0 [], r, g1, decide_eq_true rfl⟩
theorem ones_in {r v : List Int} : InP r (ones v) ↔ r = v := by
  induction v generalizing r with
  | nil =>
    constructor
    · intro h; cases h; rfl
    · rintro rfl; exact .nil
  | cons x v ih =>
    constructor
    · intro h
      cases h with
      | cons h1 h2 => rw [ih.mp h2, List.mem_singleton.mp h1]
    · rintro rfl
      exact .cons (List.mem_singleton.mpr rfl) (ih.mpr rfl)
theorem ones_ok {v : List Int} (hv : ∀ x ∈ v, -1000 ≤ x ∧ x ≤ 1000) : ∀ x ∈ ones v, okL x = true ∧ Rising x ∧ near3 x := fun x hx => by
  obtain ⟨y, hy, rfl⟩ := List.mem_map.mp hx
  exact ⟨one_ok (hv y hy), by simp [Rising], fun z hz => by rw [List.mem_singleton.mp hz]; exact hv y hy⟩
theorem ones_get {v : List Int} {i : Nat} (hi : i < v.length) : (ones v).getD i [] = [v.getD i 0] := by
  unfold ones
  rw [List.getD_eq_getElem?_getD, List.getElem?_map, List.getD_eq_getElem?_getD, List.getElem?_eq_getElem hi]
  rfl
end Go.Proofs.YtnojoaghcbljfaaGreatDoor.Ev
