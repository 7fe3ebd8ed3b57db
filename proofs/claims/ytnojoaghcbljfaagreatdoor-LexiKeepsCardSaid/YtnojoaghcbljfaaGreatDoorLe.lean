/-
What is left of each list is what is in a solution: the laws Filters, Keeps, Fixed of such a filter.
Conditions: none.
-/
import Derived.Test.YtnojoaghcbljfaaGreatDoorDe
set_option linter.unusedVariables false
set_option linter.unusedSimpArgs false
set_option maxRecDepth 100000
namespace Go.Proofs.YtnojoaghcbljfaaGreatDoor.Ev
open Go

structure ExF (F : Con → List Dom → List Dom × Bool) (lo hi : Int) (c : Con) (n : Nat) (P : List (List Int) → List (List Int)) (S : List Int → Prop) : Prop where
  n1 : 1 ≤ n
  n8 : n ≤ 8
  fits : ∀ l, l.length = n → (∀ x ∈ l, okL x = true) → filtB lo hi c (domsL l) = true
  out : ∀ l, l.length = n → (∀ x ∈ l, okL x = true) → (∀ x ∈ l, near3 x) → F c (domsL l) = madeAll (P l)
  len : ∀ l, l.length = n → (P l).length = n
  mem : ∀ l, l.length = n → (∀ x ∈ l, okL x = true) → (∀ x ∈ l, near3 x) → ∀ i x, i < n → (x ∈ (P l).getD i [] ↔ ∃ r, S r ∧ InP r l ∧ r.getD i 0 = x)
  loc : localB c = true
  hb : ∀ r, r.length = n → near3 r → holdsB (localC c) r = true
  hc : ∀ r, r.length = n → near3 r → (holdsC (localC c) r = true ↔ S r)
section
variable {F : Con → List Dom → List Dom × Bool} {lo hi : Int} {c : Con} {n : Nat} {P : List (List Int) → List (List Int)} {S : List Int → Prop}
theorem in_near {r : List Int} {l : List (List Int)} (h : InP r l) (nl : ∀ x ∈ l, near3 x) : near3 r := by
  intro x hx
  obtain ⟨i, hi, rfl⟩ := getD_of_mem hx 0
  exact nl _ (getD_mem (d := []) (by rw [← h.len]; exact hi)) _ (h.getD hi 0 [])
theorem ex_mem (h : ExF F lo hi c n P S) {l : List (List Int)} (hl : l.length = n) (ok : ∀ x ∈ l, okL x = true) (nl : ∀ x ∈ l, near3 x) :
    (P l).length = l.length ∧ ∀ i x, i < l.length → (x ∈ (P l).getD i [] ↔ ∃ r, S r ∧ InP r l ∧ r.getD i 0 = x) := by
  refine ⟨by rw [h.len l hl, hl], ?_⟩
  rw [hl]
  exact h.mem l hl ok nl
theorem ex_out (h : ExF F lo hi c n P S) {l : List (List Int)} (hl : l.length = n) (ok : ∀ x ∈ l, okL x = true) (nl : ∀ x ∈ l, near3 x) :
    ((∀ r, S r → ¬ InP r l) ∧ F c (domsL l) = ([], false)) ∨
    ((∃ r, S r ∧ InP r l) ∧ F c (domsL l) = (domsL (P l), true) ∧ (∀ x ∈ P l, okL x = true) ∧ ∀ x ∈ P l, near3 x) := by
  rw [h.out l hl ok nl]
  obtain ⟨p1, p2⟩ := ex_mem h hl ok nl
  have h1 := h.n1
  by_cases hr : ∃ r, S r ∧ InP r l
  · obtain ⟨r, hr1, hr2⟩ := hr
    have near : ∀ x ∈ P l, near3 x := fun x hx y hy => by
      obtain ⟨i, hi, rfl⟩ := getD_of_mem hx []
      obtain ⟨r', g1, g2, rfl⟩ := (p2 i y (by omega)).mp hy
      exact in_near g2 nl _ (getD_mem (by rw [g2.len]; omega) 0)
    have oks : ∀ x ∈ P l, okL x = true := fun x hx => by
      obtain ⟨i, hi, e⟩ := getD_of_mem hx []
      refine okL_small ?_ (near x hx)
      have hm := (p2 i (r.getD i 0) (by omega)).mpr ⟨r, hr1, hr2, rfl⟩
      rw [e] at hm
      exact List.ne_nil_of_mem hm
    refine .inr ⟨⟨r, hr1, hr2⟩, ?_, oks, near⟩
    unfold madeAll
    have : (P l).all okL = true := by rw [List.all_eq_true]; exact oks
    rw [this]
    rfl
  · have hr' : ∀ r, S r → ¬ InP r l := fun r h1 h2 => hr ⟨r, h1, h2⟩
    refine .inl ⟨hr', ?_⟩
    have e0 : (P l).getD 0 [] = [] := by
      apply List.eq_nil_iff_forall_not_mem.mpr
      intro x hx
      obtain ⟨r, g1, g2, _⟩ := (p2 0 x (by omega)).mp hx
      exact hr' r g1 g2
    have hm : ([] : List Int) ∈ P l := by
      have := getD_mem (show 0 < (P l).length by omega) ([] : List Int)
      rwa [e0] at this
    unfold madeAll
    have : (P l).all okL = false := by
      rw [List.all_eq_false]
      exact ⟨[], hm, by simp [okL_nil]⟩
    rw [this]
    rfl
theorem ex_keeps (h : ExF F lo hi c n P S) {l : List (List Int)} (hd : DomsOk 6 l) (hl : l.length = n) : KeptN F lo hi c l := by
  have ok := hd.ok (by omega)
  have nl := hd.near
  have few := sol_ok (c := c) hd h.loc fun r hr => h.hb r (by rw [hr.len, hl]) (in_near hr nl)
  have sol : (solL c l 4000).2 = true → ∀ r, r ∈ (solL c l 4000).1 ↔ InP r l ∧ S r := fun hs r => by
    rw [sol_mem hd.ne hs]
    constructor
    · rintro ⟨h1, h2⟩; exact ⟨h1, (h.hc r (by rw [h1.len, hl]) (in_near h1 nl)).mp h2⟩
    · rintro ⟨h1, h2⟩; exact ⟨h1, (h.hc r (by rw [h1.len, hl]) (in_near h1 nl)).mpr h2⟩
  have rows : (solL c l 4000).2 = true → (solL c l 4000).1.length ≤ 100000 := fun hs => by have := sol_lenN hd.ne hs; omega
  have f1 := h.fits l hl ok
  obtain ⟨p1, p2⟩ := ex_mem h hl ok nl
  rcases ex_out h hl ok nl with ⟨hr, e⟩ | ⟨⟨r0, hr1, hr2⟩, e, oks, near⟩
  · refine ⟨hd.ble, f1, few, rows, fun hs _ => ?_, ?_, ?_, ?_, ?_, ?_, ?_⟩
    · apply List.eq_nil_iff_forall_not_mem.mpr
      intro r hm
      obtain ⟨g1, g2⟩ := (sol hs r).mp hm
      exact hr r g2 g1
    all_goals (rw [e]; intro h; first | cases h | (intro h; cases h))
  · have hpl : (P l).length = n := by omega
    have f2 := h.fits (P l) hpl oks
    have inp : ∀ r, S r → InP r l → InP r (P l) := fun r g1 g2 => F2.ofD 0 [] (by rw [g2.len, p1]) fun i hi => (p2 i _ (by rw [← g2.len]; exact hi)).mpr ⟨r, g1, g2, rfl⟩
    have sub : ∀ i v, i < l.length → v ∈ (P l).getD i [] → v ∈ l.getD i [] := fun i v hi hv => by
      obtain ⟨r, g1, g2, rfl⟩ := (p2 i v hi).mp hv
      exact g2.getD (by rw [g2.len]; exact hi) 0 []
    have back : ∀ r, InP r (P l) → InP r l := fun r g => F2.ofD 0 [] (by rw [g.len, p1]) fun i hi => sub i _ (by rw [← p1, ← g.len]; exact hi) (g.getD hi 0 [])
    refine ⟨hd.ble, f1, few, rows, fun _ h => (by rw [e] at h; cases h), fun _ => ?_, fun _ d hm => ?_, fun _ i v hi hv => ?_, fun hs _ r hm => ?_, fun _ => ?_, fun _ => ?_⟩
    · rw [e]; show (domsL (P l)).length = _; rw [doms_len, p1]
    · rw [e] at hm
      obtain ⟨x, hx, rfl⟩ := List.mem_map.mp (show d ∈ domsL (P l) from hm)
      exact listD_near (oks x hx) (near x hx)
    · rw [e] at hv
      exact sub i v hi ((lists_get (by omega) oks v).mp hv)
    · obtain ⟨g1, g2⟩ := (sol hs r).mp hm
      refine ⟨g1.len, fun i hi => ?_⟩
      rw [e]
      show hasD ((domsL (P l)).getD i dom0) (r.getD i 0) = true
      rw [doms_get (by omega), has_ofD (oks _ (getD_mem (by omega) []))]
      exact decide_eq_true ((p2 i _ hi).mpr ⟨r, g2, g1, rfl⟩)
    · rw [e]; exact f2
    · rw [e]
      show (F c (domsL (P l))).2 = true ∧ (F c (domsL (P l))).1.all listB = true ∧ listsL (F c (domsL (P l))).1 = listsL (domsL (P l))
      rcases ex_out h hpl oks near with ⟨hr, _⟩ | ⟨_, e2, oks2, near2⟩
      · exact absurd (inp r0 hr1 hr2) (hr r0 hr1)
      · rw [e2]
        obtain ⟨q1, q2⟩ := ex_mem h hpl oks near
        refine ⟨rfl, DomsOk.listB oks2, lists_same q1 oks2 oks fun i v hi => ?_⟩
        rw [q2 i v (by omega), p2 i v (by omega)]
        constructor
        · rintro ⟨r, g1, g2, g3⟩; exact ⟨r, g1, back r g2, g3⟩
        · rintro ⟨r, g1, g2, g3⟩; exact ⟨r, g1, inp r g1 g2, g3⟩
theorem ex_filters (h : ExF F lo hi c n P S) {l : List (List Int)} (hd : DomsOk 6 l) (hl : l.length = n) : FiltN F lo hi c l := by
  have k := ex_keeps h hd hl
  have ok := hd.ok (by omega)
  have nl := hd.near
  have sol : (solL c l 4000).2 = true → ∀ r, r ∈ (solL c l 4000).1 ↔ InP r l ∧ S r := fun hs r => by
    rw [sol_mem hd.ne hs]
    constructor
    · rintro ⟨h1, h2⟩; exact ⟨h1, (h.hc r (by rw [h1.len, hl]) (in_near h1 nl)).mp h2⟩
    · rintro ⟨h1, h2⟩; exact ⟨h1, (h.hc r (by rw [h1.len, hl]) (in_near h1 nl)).mpr h2⟩
  obtain ⟨p1, p2⟩ := ex_mem h hl ok nl
  rcases ex_out h hl ok nl with ⟨hr, e⟩ | ⟨⟨r0, hr1, hr2⟩, e, oks, near⟩
  · have no : (solL c l 4000).2 = true → exactL c l 4000 = ([], false) := fun hs => by
      have : (solL c l 4000).1 = [] := by
        apply List.eq_nil_iff_forall_not_mem.mpr
        intro r hm
        obtain ⟨g1, g2⟩ := (sol hs r).mp hm
        exact hr r g2 g1
      unfold exactL
      rw [this]
      rfl
    refine ⟨k.le, k.f1, k.few, fun hs => by rw [e, no hs], ?_, ?_, fun hs => by rw [e, no hs]; rfl⟩
    · rw [e]; rfl
    · rw [e]; rfl
  · have yes : (solL c l 4000).2 = true → exactL c l 4000 = (listsL (domsL (P l)), true) := fun hs => by
      refine exact_lists hd p1 oks hs (List.ne_nil_of_mem ((sol hs r0).mpr ⟨hr2, hr1⟩)) fun i v hi => ?_
      rw [p2 i v hi]
      constructor
      · rintro ⟨r, g1, g2, g3⟩; exact ⟨r, (sol hs r).mpr ⟨g2, g1⟩, g3⟩
      · rintro ⟨r, g1, g3⟩
        obtain ⟨g2, g4⟩ := (sol hs r).mp g1
        exact ⟨r, g4, g2, g3⟩
    obtain ⟨b1, b2⟩ := lists_bound (p := P l) (by have := h.n8; omega) oks near
    refine ⟨k.le, k.f1, k.few, fun hs => by rw [e, yes hs], ?_, ?_, fun hs => by rw [e, yes hs]⟩
    · rw [e]; exact b1
    · rw [e]; exact b2
theorem ex_fixed (h : ExF F lo hi c n P S) {v : List Int} (hl : v.length = n) (hv : ∀ x ∈ v, -1000 ≤ x ∧ x ≤ 1000) : FixN F lo hi c v := by
  have ok : ∀ x ∈ ones v, okL x = true := fun x hx => (ones_ok hv x hx).1
  have hol : (ones v).length = n := by rw [List.length_map, hl]
  have b1 := h.hb v hl hv
  have b2 := h.hc v hl hv
  have nl : ∀ x ∈ ones v, near3 x := fun x hx => (ones_ok hv x hx).2.2
  obtain ⟨p1, p2⟩ := ex_mem h hol ok nl
  rcases ex_out h hol ok nl with ⟨hr, e⟩ | ⟨⟨r0, hr1, hr2⟩, e, oks, near⟩
  · refine ⟨h.fits (ones v) hol ok, b1, ?_, fun h => (by rw [e] at h; cases h), fun h => (by rw [e] at h; cases h)⟩
    rw [e]
    cases hh : holdsC (localC c) v with
    | false => rfl
    | true => exact absurd (ones_in.mpr rfl) (hr v (b2.mp hh))
  · have hr0 := ones_in.mp hr2
    subst hr0
    refine ⟨h.fits (ones r0) hol ok, b1, by rw [e, b2.mpr hr1], fun _ => ?_, fun _ => ?_⟩
    · rw [e]
      exact (lists_bound (p := P (ones r0)) (by have := h.n8; omega) oks near).1
    · rw [e]
      show listsL (domsL (P (ones r0))) = ones r0
      have e2 := lists_doms (l := ones r0) fun x hx => ⟨(ones_ok hv x hx).1, (ones_ok hv x hx).2.1⟩
      conv => rhs; rw [← e2]
      refine lists_same p1 oks ok fun i x hi => ?_
      rw [p2 i x (by omega), ones_get (by have : (ones r0).length = r0.length := List.length_map _; omega), List.mem_singleton]
      constructor
      · rintro ⟨r, _, g2, rfl⟩
        rw [ones_in.mp g2]
      · rintro rfl
        exact ⟨r0, hr1, hr2, rfl⟩
end
end Go.Proofs.YtnojoaghcbljfaaGreatDoor.Ev
