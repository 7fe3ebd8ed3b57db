/-
TableRows: a row more, and a row once more: the plain law.
Conditions: none.
-/
import Derived.Test.YtnojoaghcbljfaaGreatDoorDe
set_option linter.unusedVariables false
set_option linter.unusedSimpArgs false
set_option maxRecDepth 100000
namespace Go.Proofs.YtnojoaghcbljfaaGreatDoor.Ev
open Go

/-- With a row more, and the first one once more. -/
def moreC (c : Con) (r : List Int) : Con := (c.1, (c.2.1, (c.2.2.1, (c.2.2.2.1, (c.2.2.2.2.1, (c.2.2.2.2.2.1, (c.2.2.2.2.2.2.1, c.2.2.2.2.2.2.2 ++ [r, c.2.2.2.2.2.2.2.getD 0 []])))))))
theorem more_first {c : Con} (h : TabC c) : c.2.2.2.2.2.2.2.getD 0 [] ∈ c.2.2.2.2.2.2.2 := getD_mem (by have := h.r1; omega) []
theorem more_mem {c : Con} (h : TabC c) {r x : List Int} : x ∈ (moreC c r).2.2.2.2.2.2.2 ↔ x ∈ c.2.2.2.2.2.2.2 ∨ x = r := by
  show x ∈ c.2.2.2.2.2.2.2 ++ [r, c.2.2.2.2.2.2.2.getD 0 []] ↔ _
  have h1 := more_first h
  rw [List.mem_append]
  constructor
  · rintro (h2 | h2)
    · exact .inl h2
    · rcases List.mem_cons.mp h2 with rfl | h2
      · exact .inr rfl
      · rw [List.mem_singleton.mp h2]
        exact .inl h1
  · rintro (h2 | rfl)
    · exact .inl h2
    · exact .inr List.mem_cons_self
theorem tab_more {c : Con} (h : TabC c) (hc : c.2.2.2.2.2.2.2.length ≤ 8) {r : List Int} (hr : r.length = c.2.1.length) (hv : ∀ x ∈ r, -1000 ≤ x ∧ x ≤ 1000) : TabC (moreC c r) where
  kind := h.kind
  a1 := h.a1
  a4 := h.a4
  ar := h.ar
  b0 := h.b0
  c0 := h.c0
  d0 := h.d0
  e0 := h.e0
  k0 := h.k0
  r1 := by
    show 1 ≤ (c.2.2.2.2.2.2.2 ++ [r, c.2.2.2.2.2.2.2.getD 0 []]).length
    simp
  r6 := by
    show (c.2.2.2.2.2.2.2 ++ [r, c.2.2.2.2.2.2.2.getD 0 []]).length ≤ 10
    simp
    omega
  rl := fun x hx => by
    rcases (more_mem h).mp hx with hx | rfl
    · exact h.rl x hx
    · exact hr
  rr := fun x hx => by
    rcases (more_mem h).mp hx with hx | rfl
    · exact h.rr x hx
    · exact hv
/-- What TableRows needs. -/
structure RowsN (c : Con) (r : List Int) (l : List (List Int)) : Prop where
  le : Nat.ble l.length 1000 = true
  f1 : filtB 18 18 c (domsL l) = true
  f2 : filtB 18 18 (moreC c r) (domsL l) = true
  no : ¬ InP r l → (tableF c (domsL l)).2 = (tableF (moreC c r) (domsL l)).2 ∧ listsL (tableF c (domsL l)).1 = listsL (tableF (moreC c r) (domsL l)).1
  b1 : (Nat.ble (tableF c (domsL l)).1.length 1000 && (tableF c (domsL l)).1.all listB) = true
  b2 : (Nat.ble (tableF (moreC c r) (domsL l)).1.length 1000 && (tableF (moreC c r) (domsL l)).1.all listB) = true
  b3 : (Nat.ble (listsL (tableF c (domsL l)).1).length 1000 && lensB (listsL (tableF c (domsL l)).1)) = true
  len : InP r l → (tableF (moreC c r) (domsL l)).2 = true ∧ (tableF (moreC c r) (domsL l)).1.length = l.length
  near : ∀ d ∈ (tableF (moreC c r) (domsL l)).1, nearB d.1 = true
  has : InP r l → ∀ i, i < l.length → hasD ((tableF (moreC c r) (domsL l)).1.getD i dom0) (r.getD i 0) = true
  len1 : (tableF c (domsL l)).2 = true → (tableF c (domsL l)).1.length = l.length
  small : ∀ d ∈ (tableF c (domsL l)).1, (listD d).length ≤ 1000000
  sub : InP r l → (tableF c (domsL l)).2 = true → ∀ i v, i < l.length → v ∈ listD ((tableF c (domsL l)).1.getD i dom0) → hasD ((tableF (moreC c r) (domsL l)).1.getD i dom0) v = true
theorem tab_rows {c : Con} (h : TabC c) (hc : c.2.2.2.2.2.2.2.length ≤ 8) {w : Int} (hw : w ≤ 1000) {l : List (List Int)} (hd : DomsOk w l) (hl : l.length = c.2.1.length) {r : List Int} (hr : r.length = c.2.1.length) (hv : ∀ x ∈ r, -1000 ≤ x ∧ x ≤ 1000) : RowsN c r l := by
  have ok := hd.ok hw
  have hm := tab_more h hc hr hv
  have hlm : l.length = (moreC c r).2.1.length := hl
  have a4 := h.a4
  obtain ⟨p1, p2⟩ := tabP_mem h hl ok
  obtain ⟨q1, q2⟩ := tabP_mem hm hlm ok
  have f1 := (fits_tab h hl ok).2
  have f2 := (fits_tab hm hlm ok).2
  have e0 : ∀ {d : List Dom} {p : List (List Int)}, d = domsL p → p.length ≤ 1000 → (∀ x ∈ p, okL x = true) → (∀ x ∈ p, near3 x) → (Nat.ble d.length 1000 && d.all listB) = true ∧ (Nat.ble (listsL d).length 1000 && lensB (listsL d)) = true ∧ (∀ x ∈ d, nearB x.1 = true) ∧ ∀ x ∈ d, (listD x).length ≤ 1000000 := by
    rintro d p rfl h1 h2 h3
    obtain ⟨b1, b2⟩ := lists_bound h1 h2 h3
    refine ⟨b1, b2, fun x hx => ?_, fun x hx => ?_⟩
    · obtain ⟨y, hy, rfl⟩ := List.mem_map.mp hx
      exact listB_near (listB_of (h2 y hy))
    · obtain ⟨y, hy, rfl⟩ := List.mem_map.mp hx
      exact (listD_near (h2 y hy) (h3 y hy)).2
  rcases tab_out h hl ok with ⟨s1, e1⟩ | ⟨⟨t1, t2, t3⟩, e1, o1, n1⟩ <;> rcases tab_out hm hlm ok with ⟨s2, e2⟩ | ⟨⟨u1, u2, u3⟩, e2, o2, n2⟩
  · have no : ¬ InP r l := s2 r ((more_mem h).mpr (.inr rfl))
    obtain ⟨g1, g2, g3, g4⟩ := e0 (d := []) (p := []) rfl (by simp) (by simp) (by simp)
    refine ⟨hd.ble, f1, f2, fun _ => by rw [e1, e2]; exact ⟨rfl, rfl⟩, by rw [e1]; exact g1, by rw [e2]; exact g1, by rw [e1]; exact g2, fun hi => absurd hi no, by rw [e2]; exact g3, fun hi => absurd hi no, fun hh => (by rw [e1] at hh; cases hh), by rw [e1]; exact g4, fun hi => absurd hi no⟩
  · obtain ⟨g1, g2, g3, g4⟩ := e0 (d := []) (p := []) rfl (by simp) (by simp) (by simp)
    obtain ⟨k1, k2, k3, k4⟩ := e0 (d := domsL (tabP (moreC c r) l)) rfl (by rw [q1]; omega) o2 n2
    have hin : InP r l := by
      rcases (more_mem h).mp u2 with hx | rfl
      · exact absurd u3 (s1 _ hx)
      · exact u3
    refine ⟨hd.ble, f1, f2, fun hn => absurd hin hn, by rw [e1]; exact g1, by rw [e2]; exact k1, by rw [e1]; exact g2, fun _ => by rw [e2]; exact ⟨rfl, by rw [doms_len, q1]⟩, by rw [e2]; exact k3, fun hi i hil => ?_, fun hh => (by rw [e1] at hh; cases hh), by rw [e1]; exact g4, fun _ hh => (by rw [e1] at hh; cases hh)⟩
    rw [e2]
    show hasD ((domsL (tabP (moreC c r) l)).getD i dom0) (r.getD i 0) = true
    rw [doms_get (by omega), has_ofD (o2 _ (getD_mem (by omega) []))]
    exact decide_eq_true ((q2 i _ hil).mpr ⟨r, (more_mem h).mpr (.inr rfl), hi, rfl⟩)
  · exact absurd t3 (s2 t1 ((more_mem h).mpr (.inl t2)))
  · obtain ⟨g1, g2, g3, g4⟩ := e0 (d := domsL (tabP c l)) rfl (by rw [p1]; omega) o1 n1
    obtain ⟨k1, k2, k3, k4⟩ := e0 (d := domsL (tabP (moreC c r) l)) rfl (by rw [q1]; omega) o2 n2
    refine ⟨hd.ble, f1, f2, fun hn => ?_, by rw [e1]; exact g1, by rw [e2]; exact k1, by rw [e1]; exact g2, fun _ => by rw [e2]; exact ⟨rfl, by rw [doms_len, q1]⟩, by rw [e2]; exact k3, fun hi i hil => ?_, fun _ => by rw [e1]; show (domsL (tabP c l)).length = _; rw [doms_len, p1], by rw [e1]; exact g4, fun hi _ i v hil hv => ?_⟩
    · rw [e1, e2]
      refine ⟨rfl, lists_same (by rw [p1, q1]) o1 o2 fun i v hi => ?_⟩
      rw [p2 i v (by omega), q2 i v (by omega)]
      constructor
      · rintro ⟨x, g5, g6, g7⟩
        exact ⟨x, (more_mem h).mpr (.inl g5), g6, g7⟩
      · rintro ⟨x, g5, g6, g7⟩
        rcases (more_mem h).mp g5 with hx | rfl
        · exact ⟨x, hx, g6, g7⟩
        · exact absurd g6 hn
    · rw [e2]
      show hasD ((domsL (tabP (moreC c r) l)).getD i dom0) (r.getD i 0) = true
      rw [doms_get (by omega), has_ofD (o2 _ (getD_mem (by omega) []))]
      exact decide_eq_true ((q2 i _ hil).mpr ⟨r, (more_mem h).mpr (.inr rfl), hi, rfl⟩)
    · rw [e1] at hv
      rw [e2]
      show hasD ((domsL (tabP (moreC c r) l)).getD i dom0) v = true
      rw [doms_get (by omega), has_ofD (o2 _ (getD_mem (by omega) []))]
      have hv2 := (lists_get (by omega) o1 v).mp hv
      obtain ⟨x, g5, g6, g7⟩ := (p2 i v hil).mp hv2
      exact decide_eq_true ((q2 i v hil).mpr ⟨x, (more_mem h).mpr (.inl g5), g6, g7⟩)
end Go.Proofs.YtnojoaghcbljfaaGreatDoor.Ev
