/-
Rows of any number of lists; what a filter must do for the laws Keeps, Filters, Fixed; plain data.
Conditions: none.
Tables: the filter's plain laws.
Conditions: constraints that are made of plain data.
-/
import Derived.Test.YtdihbphkbdelbaaGreatDoorBh
import Derived.Test.YtdihbphkbdelbaaGreatDoorCf
set_option linter.unusedVariables false
set_option linter.unusedSimpArgs false
set_option maxRecDepth 100000
namespace Go.Proofs.YtdihbphkbdelbaaGreatDoor.Ev
open Go
abbrev InP (r : List Int) (d : List (List Int)) : Prop := F2 (fun x l => x ∈ l) r d
theorem F2.rev {α β : Type} {r : α → β → Prop} : ∀ {xs : List α} {ys : List β}, F2 r xs ys → F2 r xs.reverse ys.reverse
 | _, _, .nil => .nil
 | _, _, .cons h t => by
  rw [List.reverse_cons, List.reverse_cons]
  exact (F2.rev t).append (.cons h .nil)
theorem prodN_append : ∀ (a b : List (List Int)), prodN (a ++ b) = prodN a * prodN b
 | [], b => by simp [prodN]
 | l :: a, b => by simp only [List.cons_append, prodN, prodN_append a b, Nat.mul_assoc]
theorem prodN_rev : ∀ (a : List (List Int)), prodN a.reverse = prodN a
 | [] => rfl
 | l :: a => by
  rw [List.reverse_cons, prodN_append, prodN_rev a]
  simp only [prodN, Nat.mul_one]
  exact Nat.mul_comm _ _
theorem rowR_in : ∀ {ds : List (List Int)} (k : Nat), (∀ l ∈ ds, l ≠ []) → InP (rowR ds k) ds
 | [], _, _ => .nil
 | l :: ds, k, h => by
  have h0 : 0 < l.length := List.length_pos_iff.mpr (h l List.mem_cons_self)
  exact .cons (getD_mem (Nat.mod_lt _ h0) 0) (rowR_in _ fun x hx => h x (List.mem_cons_of_mem _ hx))
theorem rowR_all : ∀ {ds : List (List Int)} {r : List Int}, InP r ds → ∃ k, k < prodN ds ∧ rowR ds k = r
 | [], _, .nil => ⟨0, by simp [prodN], rfl⟩
 | l :: ds, _, .cons (a := x) hx t => by
  obtain ⟨k, hk, rfl⟩ := rowR_all t
  obtain ⟨i, hi, rfl⟩ := List.getElem_of_mem hx
  refine ⟨i + l.length * k, ?_, ?_⟩
  ·have : l.length * (k + 1) ≤ l.length * prodN ds := Nat.mul_le_mul_left _ hk
   rw [Nat.mul_add, Nat.mul_one] at this
   show i + l.length * k < l.length * prodN ds
   omega
  ·have h0 : 0 < l.length := by omega
   simp only [rowR]
   rw [Nat.add_mul_mod_self_left, Nat.mod_eq_of_lt hi, Nat.add_mul_div_left _ _ h0, Nat.div_eq_of_lt hi, Nat.zero_add, List.getD_eq_getElem?_getD, List.getElem?_eq_getElem hi]
   rfl
theorem prod_mem {d : List (List Int)} (h : ∀ l ∈ d, l ≠ []) (r : List Int) : r ∈ prodL d ↔ InP r d := by
 unfold prodL rowOf
 rw [List.mem_map]
 constructor
 ·rintro ⟨k, _, rfl⟩
  have := (rowR_in (ds := d.reverse) k fun l hl => h l (List.mem_reverse.mp hl)).rev
  rwa [List.reverse_reverse] at this
 ·intro hr
  obtain ⟨k, hk, e⟩ := rowR_all hr.rev
  refine ⟨k, by rw [List.mem_range, ← prodN_rev]; exact hk, by rw [e, List.reverse_reverse]⟩
theorem prod_len (d : List (List Int)) : (prodL d).length = prodN d := by unfold prodL; simp
theorem F2.getD {α β : Type} {r : α → β → Prop} {xs : List α} {ys : List β} (h : F2 r xs ys) {i : Nat} (hi : i < xs.length) (a : α) (b : β) : r (xs.getD i a) (ys.getD i b) := by
 obtain ⟨y, hy, hr⟩ := h.get (List.getElem?_eq_getElem hi)
 rw [List.getD_eq_getElem?_getD, List.getD_eq_getElem?_getD, hy, List.getElem?_eq_getElem hi]
 exact hr
theorem F2.ofD {α β : Type} {r : α → β → Prop} : ∀ {xs : List α} {ys : List β} (a : α) (b : β), xs.length = ys.length → (∀ i, i < xs.length → r (xs.getD i a) (ys.getD i b)) → F2 r xs ys
 | [], [], _, _, _, _ => .nil
 | [], _ :: _, _, _, h, _ => by simp at h
 | _ :: _, [], _, _, h, _ => by simp at h
 | x :: xs, y :: ys, a, b, h, hr => .cons (hr 0 (by simp)) (F2.ofD a b (by simpa using h) fun i hi => hr (i + 1) (by simpa using hi))
theorem many_prodN {most : Int} : ∀ {d : List (List Int)} {n : Int}, 0 ≤ n → manyGo most d n = false → (∀ l ∈ d, l ≠ []) → n ≤ most → n * (prodN d : Int) ≤ most
 | [], n, h0, h, hd, hn => by simp [prodN]; exact hn
 | l :: d, n, h0, h, hd, hn => by
  unfold manyGo at h
  by_cases c : n * (l.length : Int) > most
  ·rw [if_pos c] at h; cases h
  ·rw [if_neg c] at h
   have hl : 0 ≤ n * (l.length : Int) := Int.mul_nonneg h0 (by omega)
   have := many_prodN (d := d) hl h (fun x hx => hd x (List.mem_cons_of_mem _ hx)) (by omega)
   have e : (prodN (l :: d) : Int) = (l.length : Int) * (prodN d : Int) := by simp [prodN]
   rw [e, ← Int.mul_assoc]
   exact this
theorem many_lenN {d : List (List Int)} {most : Int} (h : manyL d most = false) (hd : ∀ l ∈ d, l ≠ []) (hm : 1 ≤ most) : ((prodL d).length : Int) ≤ most := by
 rw [prod_len]
 have := many_prodN (n := 1) (by omega) h hd hm
 omega
structure DomsOk (w : Int) (l : List (List Int)) : Prop where
  dom : ∀ x ∈ l, SmallDom w x
  len : l.length ≤ 8
  one : 1 ≤ l.length
section
variable {w : Int} {l : List (List Int)}
theorem DomsOk.ne (h : DomsOk w l) : ∀ x ∈ l, x ≠ [] := fun x hx => (h.dom x hx).ne
theorem DomsOk.ok (h : DomsOk w l) (hw : w ≤ 1000) : ∀ x ∈ l, okL x = true := fun x hx => smallDom_ok (h.dom x hx) hw
theorem doms_len (l : List (List Int)) : (domsL l).length = l.length := by unfold domsL; simp
theorem DomsOk.listB (h : ∀ x ∈ l, okL x = true) : (domsL l).all Ev.listB = true := by
 rw [List.all_eq_true]
 intro d hd
 obtain ⟨x, hx, rfl⟩ := List.mem_map.mp hd
 exact listB_of (h x hx)
theorem lists_doms (hr : ∀ x ∈ l, okL x = true ∧ Rising x) : listsL (domsL l) = l := by
 unfold listsL domsL
 rw [List.map_map]
 conv => rhs; rw [← List.map_id l]
 exact List.map_congr_left fun x hx => list_rising (hr x hx).1 (hr x hx).2
theorem DomsOk.prodB (h : DomsOk w l) {most : Int} (h0 : 0 ≤ most) (h1 : most ≤ 100000) : productB l most = true := by
 unfold productB
 simp only [Bool.and_eq_true, decide_eq_true_eq, List.all_eq_true, Nat.ble_eq]
 refine ⟨⟨⟨h0, h1⟩, by have := h.len; omega⟩, fun x hx => ⟨by have := (h.dom x hx).len; omega, List.length_pos_iff.mpr (h.ne x hx)⟩⟩
theorem DomsOk.ble (h : DomsOk w l) : Nat.ble l.length 1000 = true := by rw [Nat.ble_eq]; have := h.len; omega
end
theorem sol_ok {c : Con} {l : List (List Int)} {w : Int} (hl : DomsOk w l) (hc : localB c = true) (hh : ∀ r, InP r l → holdsB (localC c) r = true) : solB c l 4000 = true := by
 unfold solB
 rw [hc, hl.prodB (by omega) (by omega)]
 simp only [Bool.true_and, Bool.or_eq_true, List.all_eq_true]
 exact .inr fun r hr => hh r ((prod_mem hl.ne r).mp hr)
theorem sol_few {c : Con} {l : List (List Int)} {most : Int} (h : (solL c l most).2 = true) : manyL l most = false ∧ (solL c l most).1 = (prodL l).filter (holdsC (localC c)) := by
 unfold solL at h ⊢
 cases hm : manyL l most with
 | true => rw [hm] at h; cases h
 | false => exact ⟨rfl, rfl⟩
theorem sol_mem {c : Con} {l : List (List Int)} {most : Int} (hl : ∀ x ∈ l, x ≠ []) (h : (solL c l most).2 = true) (r : List Int) : r ∈ (solL c l most).1 ↔ InP r l ∧ holdsC (localC c) r = true := by
 rw [(sol_few h).2, List.mem_filter, prod_mem hl]
theorem sol_lenN {c : Con} {l : List (List Int)} (hl : ∀ x ∈ l, x ≠ []) (h : (solL c l 4000).2 = true) : (solL c l 4000).1.length ≤ 4000 := by
 obtain ⟨h1, h2⟩ := sol_few h
 rw [h2]
 have := List.length_filter_le (holdsC (localC c)) (prodL l)
 have := many_lenN h1 hl (by omega)
 omega
structure KeptN (F : Con → List Dom → List Dom × Bool) (lo hi : Int) (c : Con) (l : List (List Int)) : Prop where
  le : Nat.ble l.length 1000 = true
  f1 : filtB lo hi c (domsL l) = true
  few : solB c l 4000 = true
  rows : (solL c l 4000).2 = true → (solL c l 4000).1.length ≤ 100000
  no : (solL c l 4000).2 = true → (F c (domsL l)).2 = false → (solL c l 4000).1 = []
  len : (F c (domsL l)).2 = true → (F c (domsL l)).1.length = l.length
  lb : (F c (domsL l)).2 = true → ∀ d ∈ (F c (domsL l)).1, listB d = true ∧ (listD d).length ≤ 1000000
  sub : (F c (domsL l)).2 = true → ∀ i v, i < l.length → v ∈ listD ((F c (domsL l)).1.getD i dom0) → v ∈ l.getD i []
  keep : (solL c l 4000).2 = true → (F c (domsL l)).2 = true → ∀ r ∈ (solL c l 4000).1, r.length = l.length ∧ ∀ i, i < l.length → hasD ((F c (domsL l)).1.getD i dom0) (r.getD i 0) = true
  f2 : (F c (domsL l)).2 = true → filtB lo hi c (F c (domsL l)).1 = true
  again : (F c (domsL l)).2 = true → (F c (F c (domsL l)).1).2 = true ∧ (F c (F c (domsL l)).1).1.all listB = true ∧ listsL (F c (F c (domsL l)).1).1 = listsL (F c (domsL l)).1
structure FiltN (F : Con → List Dom → List Dom × Bool) (lo hi : Int) (c : Con) (l : List (List Int)) : Prop where
  le : Nat.ble l.length 1000 = true
  f1 : filtB lo hi c (domsL l) = true
  few : solB c l 4000 = true
  ok : (solL c l 4000).2 = true → (F c (domsL l)).2 = (exactL c l 4000).2
  lb : (Nat.ble (F c (domsL l)).1.length 1000 && (F c (domsL l)).1.all listB) = true
  ll : (Nat.ble (listsL (F c (domsL l)).1).length 1000 && lensB (listsL (F c (domsL l)).1)) = true
  same : (solL c l 4000).2 = true → listsL (F c (domsL l)).1 = (exactL c l 4000).1
abbrev ones (v : List Int) : List (List Int) := v.map fun x => [x]
structure FixN (F : Con → List Dom → List Dom × Bool) (lo hi : Int) (c : Con) (v : List Int) : Prop where
  f1 : filtB lo hi c (domsL (ones v)) = true
  hb : holdsB (localC c) v = true
  ok : (F c (domsL (ones v))).2 = holdsC (localC c) v
  lb : (F c (domsL (ones v))).2 = true → (Nat.ble (F c (domsL (ones v))).1.length 1000 && (F c (domsL (ones v))).1.all listB) = true
  same : (F c (domsL (ones v))).2 = true → listsL (F c (domsL (ones v))).1 = ones v
end Go.Proofs.YtdihbphkbdelbaaGreatDoor.Ev
set_option linter.unusedVariables false
set_option linter.unusedSimpArgs false
set_option maxRecDepth 100000
namespace Go.Proofs.YtdihbphkbdelbaaGreatDoor.Ev
open Go
theorem getD_of_mem {α : Type} {l : List α} {x : α} (h : x ∈ l) (d : α) : ∃ i, i < l.length ∧ l.getD i d = x := by
 obtain ⟨i, hi, rfl⟩ := List.getElem_of_mem h
 exact ⟨i, hi, by rw [List.getD_eq_getElem?_getD, List.getElem?_eq_getElem hi]; rfl⟩
theorem InP.len {r : List Int} {d : List (List Int)} (h : InP r d) : r.length = d.length := F2.length h
theorem DomsOk.near {l : List (List Int)} (h : DomsOk 6 l) : ∀ x ∈ l, near3 x := fun x hx y hy => by have := (h.dom x hx).abs y hy; omega
theorem ones_in {r v : List Int} : InP r (ones v) ↔ r = v := by
 induction v generalizing r with
 | nil =>
  constructor
  ·intro h; cases h; rfl
  ·rintro rfl; exact .nil
 | cons x v ih =>
  constructor
  ·intro h
   cases h with
   | cons h1 h2 => rw [ih.mp h2, List.mem_singleton.mp h1]
  ·rintro rfl
   exact .cons (List.mem_singleton.mpr rfl) (ih.mpr rfl)
theorem ones_ok {v : List Int} (hv : ∀ x ∈ v, -1000 ≤ x ∧ x ≤ 1000) : ∀ x ∈ ones v, okL x = true ∧ Rising x ∧ near3 x := fun x hx => by
 obtain ⟨y, hy, rfl⟩ := List.mem_map.mp hx
 exact ⟨one_ok (hv y hy), by simp [Rising], fun z hz => by rw [List.mem_singleton.mp hz]; exact hv y hy⟩
theorem ones_get {v : List Int} {i : Nat} (hi : i < v.length) : (ones v).getD i [] = [v.getD i 0] := by
 unfold ones
 rw [List.getD_eq_getElem?_getD, List.getElem?_map, List.getD_eq_getElem?_getD, List.getElem?_eq_getElem hi]
 rfl
end Go.Proofs.YtdihbphkbdelbaaGreatDoor.Ev
