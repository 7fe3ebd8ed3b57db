/-
Linear constraints: the program's filter is the document's; what it keeps.
Conditions: none.
-/
import Derived.Test.YtnojoaghcbljfaaGreatDoorNn
import Derived.Test.YtnojoaghcbljfaaGreatDoorCr
set_option linter.unusedVariables false
set_option linter.unusedSimpArgs false
set_option maxRecDepth 100000
namespace Go.Proofs.YtnojoaghcbljfaaGreatDoor.Ev
open Go
structure Md (d : Dom) : Prop where
  made : Made d
  inn : ∀ v ∈ listD d, inD v = true
theorem G.md {d : Dom} (h : G d) : Md d := ⟨h.made, h.inn⟩
theorem dom0_made : Made dom0 := ⟨⟨rfl, by decide, by decide, fun w hw => (by cases hw), by decide⟩, by decide, rfl⟩
theorem Md.dom {d : Dom} (h : Md d) : domB d = true := by
 have h1 := h.made.wf.lo
 have h2 := h.made.wf.hi
 have h3 := h.made.len
 unfold domB wordsB
 rw [decide_eq_true (by omega), decide_eq_true (by omega), Nat.ble_eq_true_of_le (show d.2.1.length ≤ 1000000 by omega)]
 rfl
theorem cut_M {d : Dom} {k : Int → Int → Int} {p : Int → Bool} (h : Md d) (hk : Keeps k p) : listD (cutD d k).1 = (listD d).filter p ∧ Md (cutD d k).1 := by
 obtain ⟨a, b, c, e⟩ := cut_all h.made hk
 refine ⟨a, ?_, fun v hv => ?_⟩
 ·by_cases hne : (listD d).filter p ≠ [] ∨ listD d = []
  ·exact b hne
  ·have h1 : (listD d).filter p = [] := Decidable.byContradiction fun h => hne (.inl h)
   have h2 : listD d ≠ [] := fun h => hne (.inr h)
   have h4 : (cutD d k).2 = 4 := e.mpr ⟨h1, h2⟩
   have : (cutD d k).1 = dom0 := by
    unfold cutD at h4 ⊢
    split at h4
    ·cases h4
    ·rename_i c1
     rw [if_neg c1]
     split at h4
     ·rename_i c2; rw [if_pos c2]; rfl
     ·split at h4
      ·cases h4
      ·split at h4
       ·cases h4
       ·split at h4 <;> cases h4
   rw [this]
   exact dom0_made
 ·rw [a] at hv
  exact h.inn v (List.mem_filter.mp hv).1
theorem truths_list : listD truthsD = [0, 1] := list_rising (by decide +kernel) (by decide)
theorem truths_wf : Wf truthsD := wf_ofD (xs := [0, 1]) (by decide +kernel)
theorem take_lists (d : List Dom) (n : Nat) : listsL (d.take n) = (listsL d).take n := by unfold listsL; rw [List.map_take]
theorem AllG.take {d : List Dom} (h : AllG d) (n : Nat) : AllG (d.take n) := fun x hx => h x (List.mem_of_mem_take hx)
theorem lastR_rising (c : Con) (l : List (List Int)) : Rising (lastR c l) := by
 rcases lastR_cases c l with h | h | h | h <;> rw [h] <;> simp
theorem last_same {c : Con} {d : List Dom} (hG : AllG d) (hn : c.2.1.length < d.length) :
  listD (lastD c d) = lastR c (listsL d) ∧ Md (lastD c d) ∧ domB (cutD (d.getD c.2.1.length dom0) (andK truthsD)).1 = true ∧
  domB (if -(lowsD (turnedL (cC c)) (d.take c.2.1.length)) ≤ cK c then (withoutD (cutD (d.getD c.2.1.length dom0) (andK truthsD)).1 0).1 else (cutD (d.getD c.2.1.length dom0) (andK truthsD)).1) = true := by
 obtain ⟨a1, a2⟩ := cut_M (hG _ (getD_memD hn dom0)).md (keeps_and truths_wf)
 rw [truths_list] at a1
 have e1 : lowsD (turnedL (cC c)) (d.take c.2.1.length) = lowsR (-1) (cC c) ((listsL d).take c.2.1.length) := by rw [← take_lists, lowsR_D _ _ _ (hG.take _), sc_neg]
 have e2 : lowsD (cC c) (d.take c.2.1.length) = lowsR 1 (cC c) ((listsL d).take c.2.1.length) := by rw [← take_lists, lowsR_D _ _ _ (hG.take _), sc_one]
 have hl : lastD c d = (if lowsD (cC c) (d.take c.2.1.length) > cK c then (withoutD (if -(lowsD (turnedL (cC c)) (d.take c.2.1.length)) ≤ cK c then (withoutD (cutD (d.getD c.2.1.length dom0) (andK truthsD)).1 0).1 else (cutD (d.getD c.2.1.length dom0) (andK truthsD)).1) 1).1
  else (if -(lowsD (turnedL (cC c)) (d.take c.2.1.length)) ≤ cK c then (withoutD (cutD (d.getD c.2.1.length dom0) (andK truthsD)).1 0).1 else (cutD (d.getD c.2.1.length dom0) (andK truthsD)).1)) := rfl
 have lm := lastR_mem c (listsL d)
 rw [lists_at hn] at lm
 rw [hl, e1, e2]
 rw [← lists_at hn] at a1 lm
 rw [lists_at hn] at a1 lm
 generalize (cutD (d.getD c.2.1.length dom0) (andK truthsD)).1 = b0 at a1 a2
 generalize listD (d.getD c.2.1.length dom0) = L at a1 lm
 have b1 : ∃ b1 : Dom, b1 = (if -(lowsR (-1) (cC c) ((listsL d).take c.2.1.length)) ≤ cK c then (withoutD b0 0).1 else b0) ∧ Md b1 ∧ ∀ v, v ∈ listD b1 ↔ (v ∈ L ∧ (v = 0 ∨ v = 1)) ∧ (v = 0 → -(lowsR (-1) (cC c) ((listsL d).take c.2.1.length)) > cK c) := by
  have m0 : ∀ v, v ∈ listD b0 ↔ v ∈ L ∧ (v = 0 ∨ v = 1) := fun v => by
   rw [a1, List.mem_filter, decide_eq_true_eq]
   simp
  by_cases c1 : -(lowsR (-1) (cC c) ((listsL d).take c.2.1.length)) ≤ cK c
  ·rw [if_pos c1]
   obtain ⟨f1, f2⟩ := cut_M (p := fun x => !(decide (x = 0))) a2 (keeps_no (v := 0) rfl)
   refine ⟨_, rfl, f2, fun v => ?_⟩
   show v ∈ listD (cutD b0 (noK 0)).1 ↔ _
   rw [f1, List.mem_filter, m0]
   simp only [Bool.not_eq_true', decide_eq_false_iff_not]
   constructor
   ·rintro ⟨h1, h2⟩; exact ⟨h1, fun h => absurd h h2⟩
   ·rintro ⟨h1, h2⟩; exact ⟨h1, fun h => by have := h2 h; omega⟩
  ·rw [if_neg c1]
   exact ⟨_, rfl, a2, fun v => by rw [m0]; exact ⟨fun h => ⟨h, fun _ => by omega⟩, fun h => h.1⟩⟩
 obtain ⟨b1, e3, m1, v1⟩ := b1
 rw [← e3]
 have fin : ∃ b2 : Dom, b2 = (if lowsR 1 (cC c) ((listsL d).take c.2.1.length) > cK c then (withoutD b1 1).1 else b1) ∧ Md b2 ∧ ∀ v, v ∈ listD b2 ↔ v ∈ lastR c (listsL d) := by
  by_cases c1 : lowsR 1 (cC c) ((listsL d).take c.2.1.length) > cK c
  ·rw [if_pos c1]
   obtain ⟨f1, f2⟩ := cut_M (p := fun x => !(decide (x = 1))) m1 (keeps_no (v := 1) rfl)
   refine ⟨_, rfl, f2, fun v => ?_⟩
   show v ∈ listD (cutD b1 (noK 1)).1 ↔ _
   rw [f1, List.mem_filter, v1, lm]
   simp only [Bool.not_eq_true', decide_eq_false_iff_not]
   constructor
   ·rintro ⟨⟨⟨h1, h2⟩, h3⟩, h4⟩
    rcases h2 with h2 | h2
    ·exact ⟨h1, .inl ⟨h2, h3 h2⟩⟩
    ·exact absurd h2 h4
   ·rintro ⟨h1, ⟨h2, h3⟩ | ⟨h2, h3⟩⟩
    ·exact ⟨⟨⟨h1, .inl h2⟩, fun _ => h3⟩, by omega⟩
    ·omega
  ·rw [if_neg c1]
   refine ⟨_, rfl, m1, fun v => ?_⟩
   rw [v1, lm]
   constructor
   ·rintro ⟨⟨h1, h2⟩, h3⟩
    rcases h2 with h2 | h2
    ·exact ⟨h1, .inl ⟨h2, h3 h2⟩⟩
    ·exact ⟨h1, .inr ⟨h2, by omega⟩⟩
   ·rintro ⟨h1, ⟨h2, h3⟩ | ⟨h2, h3⟩⟩
    ·exact ⟨⟨h1, .inl h2⟩, fun _ => h3⟩
    ·exact ⟨⟨h1, .inr h2⟩, fun h => by omega⟩
 obtain ⟨b2, e4, m2, v2⟩ := fin
 rw [← e4]
 exact ⟨rising_ext (listD_mem m2.made.wf).2 (lastR_rising _ _) v2, m2, a2.dom, m1.dom⟩
theorem reified_same {c : Con} {n : Nat} (hA : c.2.1.length = n) (h : LinC (cC c) (cK c) n) {d : List Dom} (hG : AllG d) (hl : d.length = n + 1) (ht : tot (listsL d) ≤ 100000) :
  Same (reifiedF c d) (reifiedR c (listsL d)) ∧ reifiedB c d = true ∧ reifiedRB c (listsL d) = true := by
 have h1 := h.len
 have h2 := h.n64
 have h3 := h.n1
 have h4 := h.K1
 have h5 := h.K2
 obtain ⟨g1, g2, g3, g4⟩ := last_same (c := c) hG (by omega)
 have hGt := hG.take c.2.1.length
 have tl : (d.take c.2.1.length).length = n := by rw [List.length_take]; omega
 have hCt : (cC c).length = (d.take c.2.1.length).length := by omega
 obtain ⟨S1, _⟩ := bound_by (c := cC c) (s := 1) (most := cK c) hGt hCt
 obtain ⟨S2, _⟩ := bound_by (c := cC c) (s := -1) (most := -(cK c) - 1) hGt hCt
 rw [sc_one, take_lists] at S1
 rw [sc_neg, take_lists] at S2
 have b1 := h.bound (s := 1) (.inl rfl) (most := cK c) (by omega) hGt tl
 have b2 := h.bound (s := -1) (.inr rfl) (most := -(cK c) - 1) (by omega) hGt tl
 rw [sc_one] at b1
 rw [sc_neg] at b2
 have hlt : Lg ((listsL d).take c.2.1.length) := fun x hx => lg_lists hG x (List.mem_of_mem_take hx)
 have ttl : ((listsL d).take c.2.1.length).length = n := by rw [List.length_take, lists_len]; omega
 have tt : tot ((listsL d).take c.2.1.length) ≤ 100000 := by
  have : ∀ (l : List (List Int)) (m : Nat), tot (l.take m) ≤ tot l := fun l => by
   induction l with
   | nil => intro m; simp
   | cons x l ih =>
    intro m
    cases m with
    | zero => exact Nat.zero_le _
    | succ m =>
     have := ih m
     show x.length + tot (l.take m) ≤ x.length + tot l
     omega
  exact Nat.le_trans (this _ _) ht
 have r1 := h.by (s := 1) (.inl rfl) (most := cK c) (by omega) hlt tt ttl
 have r2 := h.by (s := -1) (.inr rfl) (most := -(cK c) - 1) (by omega) hlt tt ttl
 refine ⟨?_, ?_, ?_⟩
 ·rw [reifiedR_eq]
  have hs := made_size g2.made
  rw [g1] at hs
  have gb : lastR c (listsL d) ≠ [] → G (lastD c d) := fun hne => ⟨g2.made, by rw [g1]; exact hne, g2.inn⟩
  have eF : reifiedF c d = if sizeD (lastD c d) > 0 then
   (if sizeD (lastD c d) = 1 then
    (if minD (lastD c d) = 1 then ((boundD (cC c) (cK c) (d.take c.2.1.length)).1 ++ [lastD c d], (boundD (cC c) (cK c) (d.take c.2.1.length)).2.2)
    else ((boundD (turnedL (cC c)) (-(cK c) - 1) (d.take c.2.1.length)).1 ++ [lastD c d], (boundD (turnedL (cC c)) (-(cK c) - 1) (d.take c.2.1.length)).2.2))
   else (d.take c.2.1.length ++ [lastD c d], true))
  else (d.take c.2.1.length ++ [lastD c d], false) := rfl
  have join : ∀ (x : List Dom), listsL (x ++ [lastD c d]) = listsL x ++ [lastR c (listsL d)] := fun x => by
   unfold listsL
   rw [List.map_append, List.map_singleton, g1]
   rfl
  have joinG : lastR c (listsL d) ≠ [] → ∀ (x : List Dom), AllG x → AllG (x ++ [lastD c d]) := fun hne x hx y hy => by
   rcases List.mem_append.mp hy with hy | hy
   ·exact hx y hy
   ·rw [List.mem_singleton.mp hy]; exact gb hne
  have one : ∀ v, lastR c (listsL d) = [v] → minD (lastD c d) = v := fun v hv => by
   have := (gb (by rw [hv]; simp)).ends.1.1
   rw [g1, hv] at this
   exact List.mem_singleton.mp this
  rw [eF]
  rcases lastR_cases c (listsL d) with hb | hb | hb | hb
  ·rw [hb] at hs
   rw [if_neg (by rw [hs]; simp), hb]
   exact ⟨rfl, fun h => (by cases h)⟩
  ·have hm := one 0 hb
   rw [hb] at hs
   rw [if_pos (by rw [hs]; simp), if_pos (by rw [hs]; simp), if_neg (by rw [hm]; decide), hb, reR_single, if_neg (show ¬ (0 : Int) = 1 by decide)]
   cases hq : (byR (cC c) (-1) (-(cK c) - 1) ((listsL d).take c.2.1.length)).2 with
   | false => exact ⟨S2.ok.trans hq, fun h => (by cases h)⟩
   | true =>
    obtain ⟨l1, l2⟩ := S2.lists hq
    refine ⟨S2.ok.trans hq, fun _ => ⟨?_, joinG (by rw [hb]; simp) _ l2⟩⟩
    show listsL ((boundD (turnedL (cC c)) (-(cK c) - 1) (d.take c.2.1.length)).1 ++ [lastD c d]) = _
    rw [join, hb, l1]
    rfl
  ·have hm := one 1 hb
   rw [hb] at hs
   rw [if_pos (by rw [hs]; simp), if_pos (by rw [hs]; simp), if_pos hm, hb, reR_single, if_pos (show (1 : Int) = 1 from rfl)]
   cases hq : (byR (cC c) 1 (cK c) ((listsL d).take c.2.1.length)).2 with
   | false => exact ⟨S1.ok.trans hq, fun h => (by cases h)⟩
   | true =>
    obtain ⟨l1, l2⟩ := S1.lists hq
    refine ⟨S1.ok.trans hq, fun _ => ⟨?_, joinG (by rw [hb]; simp) _ l2⟩⟩
    show listsL ((boundD (cC c) (cK c) (d.take c.2.1.length)).1 ++ [lastD c d]) = _
    rw [join, hb, l1]
    rfl
  ·rw [hb] at hs
   rw [if_pos (by rw [hs]; simp), if_neg (by rw [hs]; simp), hb]
   refine ⟨rfl, fun _ => ⟨?_, joinG (by rw [hb]; simp) _ hGt⟩⟩
   show listsL (d.take c.2.1.length ++ [lastD c d]) = _
   rw [join, hb, take_lists]
   rfl
 ·unfold boundB at b1 b2
  have b1' := b1
  have b2' := b2
  simp only [Bool.and_eq_true] at b1' b2'
  have e : reifiedB c d = (decide (c.2.1.length < d.length) && domB (d.getD c.2.1.length dom0) && turnedB (cC c) && lowsB (turnedL (cC c)) (d.take c.2.1.length) && boundB (cC c) (cK c) (d.take c.2.1.length) && boundB (turnedL (cC c)) (-(cK c) - 1) (d.take c.2.1.length) &&
   decide (-10000000000 ≤ cK c) && decide (cK c ≤ 10000000000) &&
   (!(decide (-(lowsD (turnedL (cC c)) (d.take c.2.1.length)) ≤ cK c)) || domB (cutD (d.getD c.2.1.length dom0) (andK truthsD)).1) && (!(decide (lowsD (cC c) (d.take c.2.1.length) > cK c)) || domB (if -(lowsD (turnedL (cC c)) (d.take c.2.1.length)) ≤ cK c then (withoutD (cutD (d.getD c.2.1.length dom0) (andK truthsD)).1 0).1 else (cutD (d.getD c.2.1.length dom0) (andK truthsD)).1))) := rfl
  rw [e, decide_eq_true (show c.2.1.length < d.length by omega), (hG _ (getD_memD (show c.2.1.length < d.length by omega) dom0)).dom, h.turned, b2'.1.1.1, show boundB (cC c) (cK c) (d.take c.2.1.length) = true from b1, show boundB (turnedL (cC c)) (-(cK c) - 1) (d.take c.2.1.length) = true from b2,
   decide_eq_true (show -10000000000 ≤ cK c by omega), decide_eq_true (show cK c ≤ 10000000000 by omega), g3, g4, Bool.or_true, Bool.or_true]
  rfl
 ·have e : reifiedRB c (listsL d) = (decide (c.2.1.length < (listsL d).length) && byRB (cC c) 1 (cK c) ((listsL d).take c.2.1.length) && byRB (cC c) (-1) (-(cK c) - 1) ((listsL d).take c.2.1.length) && Nat.ble ((listsL d).getD c.2.1.length []).length 1000000 && decide (-10000000000 ≤ cK c) && decide (cK c ≤ 10000000000)) := rfl
  have hm := tot_mem (getD_memD (show c.2.1.length < (listsL d).length by rw [lists_len]; omega) [])
  rw [e, lists_len, decide_eq_true (show c.2.1.length < d.length by omega), r1, r2, Nat.ble_eq_true_of_le (by omega), decide_eq_true (show -10000000000 ≤ cK c by omega), decide_eq_true (show cK c ≤ 10000000000 by omega)]
  rfl
structure LinF (c : Con) : Prop where
  k : 1 ≤ c.1 ∧ c.1 ≤ 4
  lin : LinC (cC c) (cK c) c.2.1.length
  b : c.2.2.1.length = if c.1 = 4 then 1 else 0
theorem fits_lin {c : Con} {d : List Dom} (h : fitsD c d 1 4 = true) : LinF c ∧ d.length = c.2.1.length + c.2.2.1.length := by
 have hb : fitsB c 1 4 = true := by
  unfold fitsD at h
  simp only [Bool.and_eq_true, decide_eq_true_eq] at h
  unfold fitsB kindB
  have h1 := h.1.1.1.1
  have h2 := h.1.1.1.2
  have : c.1 = 1 ∨ c.1 = 2 ∨ c.1 = 3 ∨ c.1 = 4 := by omega
  rcases this with h | h | h | h <;> rw [h] <;> rfl
 obtain ⟨h1, h2, h3, h4, h5⟩ := fits_len h hb
 have hr : rightM c 256 = 0 := by
  unfold fitsD at h
  simp only [Bool.and_eq_true, decide_eq_true_eq] at h
  exact h.1.1.2
 have ha : alikeD c = true := by
  unfold rightM at hr
  cases ha : alikeD c with
  | true => rfl
  | false => rw [ha] at hr; simp at hr
 have hn : numbersD c = true := by
  unfold rightM at hr
  cases hn : numbersD c with
  | true => rfl
  | false =>
   rw [hn] at hr
   cases hx : (!(countedD c ⟨#[]⟩ && alikeD c && kB c)) <;> cases hy : List.any (varsD c) (varB 256) <;> rw [hx, hy] at hr <;> simp at hr
 unfold numbersD at hn
 simp only [Bool.and_eq_true, decide_eq_true_eq] at hn
 have hc : ∀ x ∈ cC c, millB x = true := by
  have := hn.1.1.1.1.2
  unfold boundedD at this
  intro x hx
  have h : List.any c.2.2.2.1 (numB (-1000000)) = false := by simpa using this
  rw [List.any_eq_false] at h
  have := h x hx
  unfold numB at this
  simp only [Bool.or_eq_true, decide_eq_true_eq, not_or] at this
  rw [mill_iff]
  omega
 have hk : c.1 = 1 ∨ c.1 = 2 ∨ c.1 = 3 ∨ c.1 = 4 := by omega
 refine ⟨⟨⟨h4, h5⟩, ⟨?_, ?_, ?_, hc, hn.1.2, hn.2⟩, ?_⟩, h3⟩
 ·show c.2.2.2.1.length = c.2.1.length
  unfold alikeD at ha
  rcases hk with h | h | h | h <;> simpa [h] using ha
 ·unfold countedD at h2
  rcases hk with h | h | h | h <;> (simp [h, noneL, -List.length_eq_zero_iff] at h2; omega)
 ·unfold countedD at h2
  rcases hk with h | h | h | h <;> (simp [h, noneL, -List.length_eq_zero_iff] at h2; omega)
 ·unfold countedD at h2
  rcases hk with h | h | h | h
  ·rw [if_neg (by omega)]
   simp [h, noneL, -List.length_eq_zero_iff] at h2
   omega
  ·rw [if_neg (by omega)]
   simp [h, noneL, -List.length_eq_zero_iff] at h2
   omega
  ·rw [if_neg (by omega)]
   simp [h, noneL, -List.length_eq_zero_iff] at h2
   omega
  ·rw [if_pos h]
   simp [h, noneL, -List.length_eq_zero_iff] at h2
   omega
theorem fitsB_lin (c : Con) : fitsB c 1 4 = true := by
 unfold fitsB kindB
 by_cases h : 1 ≤ c.1 ∧ c.1 ≤ 4
 ·have : c.1 = 1 ∨ c.1 = 2 ∨ c.1 = 3 ∨ c.1 = 4 := by omega
  rcases this with h | h | h | h <;> rw [h] <;> rfl
 ·have : (decide ((1 : Int) ≤ c.1) && decide (c.1 ≤ 4)) = false := by
   by_cases h1 : (1 : Int) ≤ c.1
   ·rw [decide_eq_false (show ¬ c.1 ≤ 4 by omega), Bool.and_false]
   ·rw [decide_eq_false h1, Bool.false_and]
  rw [this]
  rfl
theorem fits_other {c : Con} {d e : List Dom} (h : fitsD c d 1 4 = true) (he : AllG e) (hl : e.length = d.length) : fitsD c e 1 4 = true ∧ fitsR c (listsL e) 1 4 = true := by
 unfold fitsD lenCB at h
 unfold fitsD fitsR lenCB
 simp only [Bool.and_eq_true, decide_eq_true_eq] at h
 have hr := h.1.1.2
 have hr2 := hr
 rw [right_same c 256 (by omega)] at hr2
 rw [decide_eq_true h.1.1.1.1, decide_eq_true h.1.1.1.2, decide_eq_true hr, decide_eq_true hr2, lists_len, hl, decide_eq_true h.1.2]
 have e1 : List.any e emptyD = false := by
  rw [List.any_eq_false]
  intro x hx
  unfold emptyD
  have := (he x hx).size
  have := List.length_pos_iff.mpr (he x hx).ne
  rw [decide_eq_false (by omega)]
  decide
 have e2 : ((listsL e).all fun x => decide (x.length ≠ 0)) = true := by
  rw [List.all_eq_true]
  intro x hx
  have := List.length_pos_iff.mpr (lg_lists he x hx).1
  exact decide_eq_true (by omega)
 rw [e1, e2]
 exact ⟨rfl, rfl⟩
theorem linK_same {c : Con} (h : LinF c) {d : List Dom} (hG : AllG d) (hl : d.length = c.2.1.length + c.2.2.1.length) (ht : tot (listsL d) < 100000) :
  Same (linKF c d) (bif (linKR c (listsL d)).2 then ((linKR c (listsL d)).1, true) else ([], false)) ∧ linKB c d = true ∧ linKRB c (listsL d) = true := by
 have h1 := h.k
 have hb := h.b
 have triv : ∀ {r : List Dom × Bool} {q : List (List Int) × Bool}, Same r q → Same r (bif q.2 then (q.1, true) else ([], false)) := fun {r q} S => by
  obtain ⟨q1, q2⟩ := q
  cases q2 with
  | true => exact S
  | false => exact ⟨S.ok, fun h => (by cases h)⟩
 unfold linKF linKR linKB linKRB
 by_cases c1 : c.1 = 1
 ·rw [if_pos c1, if_pos c1, if_pos c1, if_pos c1]
  rw [if_neg (by omega)] at hb
  obtain ⟨k1, k2, k3, _⟩ := equal_same h.lin 100000 d hG (by omega) ht (Nat.le_refl _)
  exact ⟨triv k1, k2, k3⟩
 ·rw [if_neg c1, if_neg c1, if_neg c1, if_neg c1]
  by_cases c2 : c.1 = 2
  ·rw [if_pos c2, if_pos c2, if_pos c2, if_pos c2]
   rw [if_neg (by omega)] at hb
   have h4 := h.lin.K1
   have h5 := h.lin.K2
   obtain ⟨S1, _⟩ := bound_by (c := cC c) (s := 1) (most := cK c) hG (by rw [h.lin.len]; omega)
   have b1 := h.lin.bound (s := 1) (.inl rfl) (most := cK c) (by omega) hG (by omega)
   rw [sc_one] at S1 b1
   exact ⟨triv S1, b1, h.lin.by (s := 1) (.inl rfl) (by omega) (lg_lists hG) (by omega) (by rw [lists_len]; omega)⟩
  ·rw [if_neg c2, if_neg c2, if_neg c2, if_neg c2]
   by_cases c3 : c.1 = 3
   ·rw [if_pos c3, if_pos c3, if_pos c3, if_pos c3]
    rw [if_neg (by omega)] at hb
    obtain ⟨S, u1, u2⟩ := unlike_same h.lin hG (by omega) (by omega)
    refine ⟨?_, ?_, u2⟩
    ·have := triv (triv S)
     cases hu : (unlikeR c (listsL d)).2 with
     | true => rw [hu] at this; exact this
     | false => rw [hu] at this; exact this
    ·have h2 := h.lin.n1
     have h3 := h.lin.n64
     unfold cloneB
     rw [u1, decide_eq_false (show ¬ d.length = 0 by omega), Nat.ble_eq_true_of_le (show d.length ≤ 1000000 by omega)]
     rfl
   ·rw [if_neg c3, if_neg c3, if_neg c3, if_neg c3]
    rw [if_pos (by omega)] at hb
    obtain ⟨S, u1, u2⟩ := reified_same rfl h.lin hG (by omega) (by omega)
    exact ⟨triv S, u1, u2⟩
theorem lin_same {c : Con} {d : List Dom} (hf : fitsD c d 1 4 = true) (hG : AllG d) (ht : tot (listsL d) < 100000) :
  linFB c d = true ∧ linRB c (listsL d) = true ∧ Same (linF c d) (linR c (listsL d)) := by
 obtain ⟨F, hl⟩ := fits_lin hf
 obtain ⟨S, k1, k2⟩ := linK_same F hG hl ht
 obtain ⟨_, hr⟩ := fits_other hf hG rfl
 unfold linFB linRB linF linR
 rw [hf, hr, fitsB_lin, k1, k2]
 refine ⟨rfl, rfl, ?_⟩
 show Same (bif (linKF c d).2 then ((linKF c d).1, true) else ([], false)) (linKR c (listsL d))
 have hok := S.ok
 cases hq : (linKR c (listsL d)).2 with
 | false =>
  rw [hq] at hok
  have hok : (linKF c d).2 = false := hok
  rw [hok]
  exact ⟨hq.symm, fun h => (by rw [hq] at h; cases h)⟩
 | true =>
  rw [hq] at hok S
  have hok : (linKF c d).2 = true := hok
  rw [hok]
  exact ⟨hq.symm, fun _ => S.lists rfl⟩
end Go.Proofs.YtnojoaghcbljfaaGreatDoor.Ev
