/-
Rows of any number of lists; what a filter must do for the laws Keeps, Filters, Fixed; plain data.
Conditions: none.
Tables: the filter's plain laws.
Conditions: constraints that are made of plain data.
-/
import Derived.Test.YtnojoaghcbljfaaGreatDoorBh
import Derived.Test.YtnojoaghcbljfaaGreatDoorCf
set_option linter.unusedVariables false
set_option linter.unusedSimpArgs false
set_option maxRecDepth 100000
namespace Go.Proofs.YtnojoaghcbljfaaGreatDoor.Ev
open Go
abbrev InP (r : List Int) (d : List (List Int)) : Prop := F2 (fun x l => x ∈ l) r d
theorem F2.getD {α β : Type} {r : α → β → Prop} {xs : List α} {ys : List β} (h : F2 r xs ys) {i : Nat} (hi : i < xs.length) (a : α) (b : β) : r (xs.getD i a) (ys.getD i b) := by
 obtain ⟨y, hy, hr⟩ := h.get (List.getElem?_eq_getElem hi)
 rw [List.getD_eq_getElem?_getD, List.getD_eq_getElem?_getD, hy, List.getElem?_eq_getElem hi]
 exact hr
theorem F2.ofD {α β : Type} {r : α → β → Prop} : ∀ {xs : List α} {ys : List β} (a : α) (b : β), xs.length = ys.length → (∀ i, i < xs.length → r (xs.getD i a) (ys.getD i b)) → F2 r xs ys
 | [], [], _, _, _, _ => .nil
 | [], _ :: _, _, _, h, _ => by simp at h
 | _ :: _, [], _, _, h, _ => by simp at h
 | x :: xs, y :: ys, a, b, h, hr => .cons (hr 0 (by simp)) (F2.ofD a b (by simpa using h) fun i hi => hr (i + 1) (by simpa using hi))
structure DomsOk (w : Int) (l : List (List Int)) : Prop where
  dom : ∀ x ∈ l, SmallDom w x
  len : l.length ≤ 8
  one : 1 ≤ l.length
section
variable {w : Int} {l : List (List Int)}
theorem DomsOk.ne (h : DomsOk w l) : ∀ x ∈ l, x ≠ [] := fun x hx => (h.dom x hx).ne
theorem doms_len (l : List (List Int)) : (domsL l).length = l.length := by unfold domsL; simp
theorem doms_get {l : List (List Int)} {i : Nat} (hi : i < l.length) : (domsL l).getD i dom0 = (ofD (l.getD i [])).1 := by
 unfold domsL
 rw [List.getD_eq_getElem?_getD, List.getElem?_map, List.getElem?_eq_getElem hi, List.getD_eq_getElem?_getD, List.getElem?_eq_getElem hi]
 rfl
theorem DomsOk.listB (h : ∀ x ∈ l, okL x = true) : (domsL l).all Ev.listB = true := by
 rw [List.all_eq_true]
 intro d hd
 obtain ⟨x, hx, rfl⟩ := List.mem_map.mp hd
 exact listB_of (h x hx)
theorem DomsOk.ble (h : DomsOk w l) : Nat.ble l.length 1000 = true := by rw [Nat.ble_eq]; have := h.len; omega
end
structure KeptN (F : Con → List Dom → List Dom × Bool) (lo hi : Int) (c : Con) (l : List (List Int)) : Prop where
  le : Nat.ble l.length 1000 = true
  f1 : filtB lo hi c (domsL l) = true
  few : solB c l 4000 = true
  rows : (solL c l 4000).2 = true → (solL c l 4000).1.length ≤ 100000
  no : (solL c l 4000).2 = true → (F c (domsL l)).2 = false → (solL c l 4000).1 = []
  len : (F c (domsL l)).2 = true → (F c (domsL l)).1.length = l.length
  lb : (F c (domsL l)).2 = true → ∀ d ∈ (F c (domsL l)).1, listB d = true ∧ (listD d).length ≤ 1000000
  sub : (F c (domsL l)).2 = true → ∀ i v, i < l.length → v ∈ listD ((F c (domsL l)).1.getD i dom0) → v ∈ l.getD i []
  keep : (solL c l 4000).2 = true → (F c (domsL l)).2 = true → ∀ r ∈ (solL c l 4000).1, r.length = l.length ∧ ∀ i, i < l.length → hasD ((F c (domsL l)).1.getD i dom0) (r.getD i 0) = true
  f2 : (F c (domsL l)).2 = true → filtB lo hi c (F c (domsL l)).1 = true
  again : (F c (domsL l)).2 = true → (F c (F c (domsL l)).1).2 = true ∧ (F c (F c (domsL l)).1).1.all listB = true ∧ listsL (F c (F c (domsL l)).1).1 = listsL (F c (domsL l)).1
structure FiltN (F : Con → List Dom → List Dom × Bool) (lo hi : Int) (c : Con) (l : List (List Int)) : Prop where
  le : Nat.ble l.length 1000 = true
  f1 : filtB lo hi c (domsL l) = true
  few : solB c l 4000 = true
  ok : (solL c l 4000).2 = true → (F c (domsL l)).2 = (exactL c l 4000).2
  lb : (Nat.ble (F c (domsL l)).1.length 1000 && (F c (domsL l)).1.all listB) = true
  ll : (Nat.ble (listsL (F c (domsL l)).1).length 1000 && lensB (listsL (F c (domsL l)).1)) = true
  same : (solL c l 4000).2 = true → listsL (F c (domsL l)).1 = (exactL c l 4000).1
abbrev ones (v : List Int) : List (List Int) := v.map fun x => [x]
structure FixN (F : Con → List Dom → List Dom × Bool) (lo hi : Int) (c : Con) (v : List Int) : Prop where
  f1 : filtB lo hi c (domsL (ones v)) = true
  hb : holdsB (localC c) v = true
  ok : (F c (domsL (ones v))).2 = holdsC (localC c) v
  lb : (F c (domsL (ones v))).2 = true → (Nat.ble (F c (domsL (ones v))).1.length 1000 && (F c (domsL (ones v))).1.all listB) = true
  same : (F c (domsL (ones v))).2 = true → listsL (F c (domsL (ones v))).1 = ones v
end Go.Proofs.YtnojoaghcbljfaaGreatDoor.Ev
set_option linter.unusedVariables false
set_option linter.unusedSimpArgs false
set_option maxRecDepth 100000
namespace Go.Proofs.YtnojoaghcbljfaaGreatDoor.Ev
open Go
theorem getD_of_mem {α : Type} {l : List α} {x : α} (h : x ∈ l) (d : α) : ∃ i, i < l.length ∧ l.getD i d = x := by
 obtain ⟨i, hi, rfl⟩ := List.getElem_of_mem h
 exact ⟨i, hi, by rw [List.getD_eq_getElem?_getD, List.getElem?_eq_getElem hi]; rfl⟩
theorem InP.len {r : List Int} {d : List (List Int)} (h : InP r d) : r.length = d.length := F2.length h
theorem DomsOk.near {l : List (List Int)} (h : DomsOk 6 l) : ∀ x ∈ l, near3 x := fun x hx y hy => by have := (h.dom x hx).abs y hy; omega
end Go.Proofs.YtnojoaghcbljfaaGreatDoor.Ev
