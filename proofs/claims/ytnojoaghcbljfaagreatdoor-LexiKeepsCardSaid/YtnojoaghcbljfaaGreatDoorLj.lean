/-
Two rows in order: constraints made of plain data; the filter is exact; the document's answer is the same.
Conditions: none.
-/
import Derived.Test.YtnojoaghcbljfaaGreatDoorLe
import Derived.Test.YtnojoaghcbljfaaGreatDoorLf
import Derived.Test.YtnojoaghcbljfaaGreatDoorCr
set_option linter.unusedVariables false
set_option linter.unusedSimpArgs false
set_option maxRecDepth 100000
namespace Go.Proofs.YtnojoaghcbljfaaGreatDoor.Ev
open Go

structure LexC (c : Con) : Prop where
  kind : c.1 = 22
  a1 : 1 ≤ c.2.1.length
  a4 : c.2.1.length ≤ 4
  ab : c.2.2.1.length = c.2.1.length
  ar : ∀ x ∈ c.2.1, 0 ≤ x ∧ x < 256
  br : ∀ x ∈ c.2.2.1, 0 ≤ x ∧ x < 256
  c0 : c.2.2.2.1 = []
  d0 : c.2.2.2.2.1 = []
  e0 : c.2.2.2.2.2.1 = []
  k0 : c.2.2.2.2.2.2.1 = 0
  r0 : c.2.2.2.2.2.2.2 = []
theorem lex_con22 (z : ZRest) (v : Int) (h1 : U8s z.1) (h2 : U8s z.2.1) (hv : 0 < v) (hv1 : v ≤ 256) : LexC (con22 z v) := by
  have hn := nA_range z.1
  have hl : (placesL z.1 (nA z.1) v).length = (nA z.1).toNat := places_length _ _ _
  have hl2 : (placesL z.2.1 (nA z.1) v).length = (nA z.1).toNat := places_length _ _ _
  refine ⟨rfl, ?_, ?_, ?_, fun x hx => ?_, fun x hx => ?_, rfl, rfl, rfl, rfl, rfl⟩
  · show 1 ≤ (placesL z.1 (nA z.1) v).length
    omega
  · show (placesL z.1 (nA z.1) v).length ≤ 4
    omega
  · show (placesL z.2.1 (nA z.1) v).length = (placesL z.1 (nA z.1) v).length
    omega
  · have := places_range h1 hv x hx
    omega
  · have := places_range h2 hv x hx
    omega
theorem right_lex {c : Con} (h : LexC c) : rightM c 256 = 0 ∧ kindB c = true := by
  obtain ⟨k, A, B, C, D, E, M, R⟩ := c
  obtain ⟨h1, h2, h3, h4, h5, h6, h7, h8, h9, h10, h11⟩ := h
  simp only at h1 h2 h3 h4 h5 h6 h7 h8 h9 h10 h11
  subst h1 h7 h8 h9 h10 h11
  have e2 : countedD (22, A, B, [], [], [], 0, []) ⟨#[]⟩ = true := by
    simp [countedD, noneL, -List.length_eq_zero_iff]
    omega
  have e3 : alikeD (22, A, B, [], [], [], 0, []) = true := by
    unfold alikeD
    simp [h4]
  have e4 : kB (22, A, B, [], [], [], 0, []) = true := rfl
  have e5 : List.any (varsD (22, A, B, [], [], [], 0, [])) (varB 256) = false := by
    refine vars_ok fun x hx => ?_
    rcases List.mem_append.mp (show x ∈ A ++ B from hx) with hm | hm
    · exact h5 x hm
    · exact h6 x hm
  have e6 : numbersD (22, A, B, [], [], [], 0, []) = true := rfl
  refine ⟨?_, rfl⟩
  unfold rightM
  rw [e2, e3, e4, e5, e6]
  rfl
theorem fits_lexC {c : Con} (h : LexC c) {l : List (List Int)} (hl : l.length = c.2.1.length + c.2.1.length) (ok : ∀ x ∈ l, okL x = true) : fitsD c (domsL l) 22 22 = true ∧ filtB 22 22 c (domsL l) = true := by
  obtain ⟨h1, h2⟩ := right_lex h
  constructor
  · unfold fitsD lenCB
    have e1 : List.any (domsL l) emptyD = false := not_any fun d hd => by
      obtain ⟨x, hx, rfl⟩ := List.mem_map.mp hd
      unfold emptyD
      simp [size_ofD (ok x hx)]
    rw [h1, e1, doms_len, h.ab, h.kind]
    simp [hl]
  · unfold filtB fitsB
    rw [h2, DomsOk.listB ok, full_doms ok]
    simp
theorem iota_cons (a : Int) (n : Nat) : iota a (n + 1) = a :: iota (a + 1) n := by
  unfold iota
  rw [List.range_succ_eq_map, List.map_cons, List.map_map]
  congr 1
  · simp
  · apply List.map_congr_left
    intro i _
    show a + ((i + 1 : Nat) : Int) = a + 1 + (i : Int)
    omega
theorem pair_lex (r : List Int) : ∀ (n i j : Nat), i + n ≤ r.length → j + n ≤ r.length → pairGo r (iota (i : Int) n) (iota (j : Int) n) = lexR ((r.drop i).take n) ((r.drop j).take n)
  | 0, i, j, _, _ => by
    unfold iota
    simp only [List.range_zero, List.map_nil, List.take_zero]
    unfold pairGo lexR
    rfl
  | n + 1, i, j, h1, h2 => by
    have ih := pair_lex r n (i + 1) (j + 1) (by omega) (by omega)
    have e1 : (i : Int) + 1 = ((i + 1 : Nat) : Int) := by omega
    have e2 : (j : Int) + 1 = ((j + 1 : Nat) : Int) := by omega
    rw [iota_cons, iota_cons, e1, e2, drop_getD (show i < r.length by omega) 0, drop_getD (show j < r.length by omega) 0, List.take_succ_cons, List.take_succ_cons]
    unfold pairGo lexR
    rw [Int.toNat_natCast, Int.toNat_natCast, ih]
theorem holds_lex {c : Con} (h : LexC c) {r : List Int} (hr : r.length = c.2.1.length + c.2.1.length) : holdsB (localC c) r = true ∧ (holdsC (localC c) r = true ↔ LexS c.2.1.length r) := by
  have hk : (localC c).1 = 22 := h.kind
  have l1 : ∀ (a : Int) n, (iota a n).length = n := fun a n => by unfold iota; simp
  constructor
  · unfold holdsB
    rw [Bool.or_eq_true]
    refine .inr ?_
    unfold pairB
    rw [hk]
    simp only [Bool.and_eq_true, List.all_eq_true, decide_eq_true_eq, Nat.ble_eq]
    have a4 := h.a4
    refine ⟨⟨⟨⟨trivial, ?_⟩, ?_⟩, fun x hx => ?_⟩, fun x hx => ?_⟩
    · show (iota 0 c.2.1.length).length ≤ 1000
      rw [l1]
      omega
    · show (iota c.2.1.length c.2.2.1.length).length = (iota 0 c.2.1.length).length
      rw [l1, l1, h.ab]
    · have hx : x ∈ iota 0 c.2.1.length := hx
      unfold iota at hx
      obtain ⟨i, hi, rfl⟩ := List.mem_map.mp hx
      have hi := List.mem_range.mp hi
      unfold inB
      simp only [Bool.and_eq_true, decide_eq_true_eq]
      omega
    · have hx : x ∈ iota c.2.1.length c.2.2.1.length := hx
      rw [h.ab] at hx
      unfold iota at hx
      obtain ⟨i, hi, rfl⟩ := List.mem_map.mp hx
      have hi := List.mem_range.mp hi
      unfold inB
      simp only [Bool.and_eq_true, decide_eq_true_eq]
      omega
  · unfold holdsC
    rw [hk, if_neg (by decide), if_pos rfl]
    have e : pairC (localC c) r = lexR (r.take c.2.1.length) (r.drop c.2.1.length) := by
      have e1 : pairC (localC c) r = pairGo r (iota 0 c.2.1.length) (iota c.2.1.length c.2.2.1.length) := rfl
      have p := pair_lex r c.2.1.length 0 c.2.1.length (by omega) (by omega)
      rw [e1, h.ab]
      refine Eq.trans p ?_
      rw [List.drop_zero]
      congr 1
      rw [List.take_of_length_le]
      rw [List.length_drop]
      omega
    rw [e]
    exact Iff.rfl
theorem local_lex {c : Con} (h : LexC c) : localB c = true := by
  unfold localB
  have := h.a4
  have := h.ab
  rw [Bool.and_eq_true, Nat.ble_eq, Nat.ble_eq]
  omega
theorem lex_exact {c : Con} (h : LexC c) : ExF lexiF 22 22 c (c.2.1.length + c.2.1.length) (lexiP c.2.1.length) (LexS c.2.1.length) where
  n1 := by have := h.a1; omega
  n8 := by have := h.a4; omega
  fits := fun l hl ok => (fits_lexC h hl ok).2
  out := fun l hl ok _ => by
    unfold lexiF
    rw [(fits_lexC h hl ok).1]
    rfl
  len := fun l hl => lexiP_len hl
  mem := fun l hl ok _ i x hi => lexiP_mem hl ok hi x
  loc := local_lex h
  hb := fun r hr _ => (holds_lex h hr).1
  hc := fun r hr _ => (holds_lex h hr).2
/-- The document's answer is the program's. -/
theorem ref_lex {c : Con} (h : LexC c) {l : List (List Int)} (hd : DomsOk 6 l) (hl : l.length = c.2.1.length + c.2.1.length) : refX c l = (listsL (lexiF c (domsL l)).1, (lexiF c (domsL l)).2) := by
  have ok := hd.ok (by omega)
  have nl := hd.near
  have ex := lex_exact h
  have good : Good l := fun x hx => .inl (ok x hx)
  have fr : fitsR c l 22 22 = true := by rw [← fits_same good]; exact (fits_lexC h hl ok).1
  have ris : ∀ x ∈ l, Rising x ∧ x ≠ [] := fun x hx => ⟨(hd.dom x hx).ris, hd.ne x hx⟩
  have mem : ∀ i v, i < l.length → (v ∈ refL c.2.1.length l i ↔ ∃ r, LexS c.2.1.length r ∧ InP r l ∧ r.getD i 0 = v) := fun i v hi => refL_mem hl ris hi v
  obtain ⟨p1, p2⟩ := ex_mem ex hl ok nl
  unfold refX
  rw [fr]
  rcases ex_out ex hl ok nl with ⟨hr, e⟩ | ⟨⟨r0, hr1, hr2⟩, e, oks, near⟩
  · rw [e]
    have hl1 := hd.one
    have : (List.range l.length).all (fun i => !(refL c.2.1.length l i).isEmpty) = false := by
      rw [List.all_eq_false]
      refine ⟨0, List.mem_range.mpr (by omega), ?_⟩
      have e0 : refL c.2.1.length l 0 = [] := by
        apply List.eq_nil_iff_forall_not_mem.mpr
        intro v hv
        obtain ⟨r, g1, g2, _⟩ := (mem 0 v (by omega)).mp hv
        exact hr r g1 g2
      rw [e0]
      simp
    rw [this]
    rfl
  · rw [e]
    have : (List.range l.length).all (fun i => !(refL c.2.1.length l i).isEmpty) = true := by
      rw [List.all_eq_true]
      intro i hi
      have hi := List.mem_range.mp hi
      have := (mem i (r0.getD i 0) hi).mpr ⟨r0, hr1, hr2, rfl⟩
      cases hc : refL c.2.1.length l i with
      | nil => rw [hc] at this; cases this
      | cons x xs => rfl
    rw [this]
    show ((List.range l.length).map (refL c.2.1.length l), true) = (listsL (domsL (lexiP c.2.1.length l)), true)
    congr 1
    unfold listsL
    apply List.ext_getElem (by simp [doms_len, p1])
    intro i h1 h2
    have hi : i < l.length := by simpa using h1
    have hip : i < (lexiP c.2.1.length l).length := by omega
    rw [List.getElem_map, List.getElem_map, List.getElem_range]
    have e1 : (domsL (lexiP c.2.1.length l))[i]'(by rw [doms_len]; exact hip) = (ofD ((lexiP c.2.1.length l).getD i [])).1 := by
      rw [← doms_get hip, List.getD_eq_getElem?_getD, List.getElem?_eq_getElem]
      rfl
    rw [e1]
    have a1 := list_ofD (oks _ (getD_mem hip []))
    refine rising_ext ?_ a1.2 fun v => ?_
    · exact List.Pairwise.filter _ (hd.dom _ (getD_mem hi [])).ris
    · rw [a1.1, mem i v hi, p2 i v hi]
theorem refXB_ok {c : Con} (h : LexC c) {l : List (List Int)} (hd : DomsOk 6 l) : refXB c l = true := by
  unfold refXB fitsB
  rw [(right_lex h).2, hd.ble]
  simp only [Bool.or_true, Bool.true_and, List.all_eq_true, Nat.ble_eq]
  intro x hx
  have := (hd.dom x hx).len
  omega
end Go.Proofs.YtnojoaghcbljfaaGreatDoor.Ev
