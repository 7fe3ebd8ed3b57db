/-
Rows of any number of lists; what a filter must do for the laws Keeps, Filters, Fixed; plain data.
Conditions: none.
-/
import Derived.Test.YtnojoaghcbljfaaGreatDoorBi
import Derived.Test.YtnojoaghcbljfaaGreatDoorCf
set_option linter.unusedVariables false
set_option linter.unusedSimpArgs false
set_option maxRecDepth 100000
namespace Go.Proofs.YtnojoaghcbljfaaGreatDoor.Ev
open Go

/-- A row of values, one of each list. -/
abbrev InP (r : List Int) (d : List (List Int)) : Prop := F2 (fun x l => x ∈ l) r d
theorem F2.rev {α β : Type} {r : α → β → Prop} : ∀ {xs : List α} {ys : List β}, F2 r xs ys → F2 r xs.reverse ys.reverse
  | _, _, .nil => .nil
  | _, _, .cons h t => by
    rw [List.reverse_cons, List.reverse_cons]
    exact (F2.rev t).append (.cons h .nil)
theorem prodN_append : ∀ (a b : List (List Int)), prodN (a ++ b) = prodN a * prodN b
  | [], b => by simp [prodN]
  | l :: a, b => by simp only [List.cons_append, prodN, prodN_append a b, Nat.mul_assoc]
theorem prodN_rev : ∀ (a : List (List Int)), prodN a.reverse = prodN a
  | [] => rfl
  | l :: a => by
    rw [List.reverse_cons, prodN_append, prodN_rev a]
    simp only [prodN, Nat.mul_one]
    exact Nat.mul_comm _ _
theorem rowR_in : ∀ {ds : List (List Int)} (k : Nat), (∀ l ∈ ds, l ≠ []) → InP (rowR ds k) ds
  | [], _, _ => .nil
  | l :: ds, k, h => by
    have h0 : 0 < l.length := List.length_pos_iff.mpr (h l List.mem_cons_self)
    exact .cons (getD_mem (Nat.mod_lt _ h0) 0) (rowR_in _ fun x hx => h x (List.mem_cons_of_mem _ hx))
theorem rowR_all : ∀ {ds : List (List Int)} {r : List Int}, InP r ds → ∃ k, k < prodN ds ∧ rowR ds k = r
  | [], _, .nil => ⟨0, by simp [prodN], rfl⟩
  | l :: ds, _, .cons (a := x) hx t => by
    obtain ⟨k, hk, rfl⟩ := rowR_all t
    obtain ⟨i, hi, rfl⟩ := List.getElem_of_mem hx
    refine ⟨i + l.length * k, ?_, ?_⟩
    · have : l.length * (k + 1) ≤ l.length * prodN ds := Nat.mul_le_mul_left _ hk
      rw [Nat.mul_add, Nat.mul_one] at this
      show i + l.length * k < l.length * prodN ds
      omega
    · have h0 : 0 < l.length := by omega
      simp only [rowR]
      rw [Nat.add_mul_mod_self_left, Nat.mod_eq_of_lt hi, Nat.add_mul_div_left _ _ h0, Nat.div_eq_of_lt hi, Nat.zero_add, List.getD_eq_getElem?_getD, List.getElem?_eq_getElem hi]
      rfl
theorem prod_mem {d : List (List Int)} (h : ∀ l ∈ d, l ≠ []) (r : List Int) : r ∈ prodL d ↔ InP r d := by
  unfold prodL rowOf
  rw [List.mem_map]
  constructor
  · rintro ⟨k, _, rfl⟩
    have := (rowR_in (ds := d.reverse) k fun l hl => h l (List.mem_reverse.mp hl)).rev
    rwa [List.reverse_reverse] at this
  · intro hr
    obtain ⟨k, hk, e⟩ := rowR_all hr.rev
    refine ⟨k, by rw [List.mem_range, ← prodN_rev]; exact hk, by rw [e, List.reverse_reverse]⟩
theorem prod_len (d : List (List Int)) : (prodL d).length = prodN d := by unfold prodL; simp
theorem F2.getD {α β : Type} {r : α → β → Prop} {xs : List α} {ys : List β} (h : F2 r xs ys) {i : Nat} (hi : i < xs.length) (a : α) (b : β) : r (xs.getD i a) (ys.getD i b) := by
  obtain ⟨y, hy, hr⟩ := h.get (List.getElem?_eq_getElem hi)
  rw [List.getD_eq_getElem?_getD, List.getD_eq_getElem?_getD, hy, List.getElem?_eq_getElem hi]
  exact hr
theorem F2.ofD {α β : Type} {r : α → β → Prop} : ∀ {xs : List α} {ys : List β} (a : α) (b : β), xs.length = ys.length → (∀ i, i < xs.length → r (xs.getD i a) (ys.getD i b)) → F2 r xs ys
  | [], [], _, _, _, _ => .nil
  | [], _ :: _, _, _, h, _ => by simp at h
  | _ :: _, [], _, _, h, _ => by simp at h
  | x :: xs, y :: ys, a, b, h, hr => .cons (hr 0 (by simp)) (F2.ofD a b (by simpa using h) fun i hi => hr (i + 1) (by simpa using hi))

/-! ### how many rows there are -/
theorem many_prodN {most : Int} : ∀ {d : List (List Int)} {n : Int}, 0 ≤ n → manyGo most d n = false → (∀ l ∈ d, l ≠ []) → n ≤ most → n * (prodN d : Int) ≤ most
  | [], n, h0, h, hd, hn => by simp [prodN]; exact hn
  | l :: d, n, h0, h, hd, hn => by
    unfold manyGo at h
    by_cases c : n * (l.length : Int) > most
    · rw [if_pos c] at h; cases h
    · rw [if_neg c] at h
      have hl : 0 ≤ n * (l.length : Int) := Int.mul_nonneg h0 (by omega)
      have := many_prodN (d := d) hl h (fun x hx => hd x (List.mem_cons_of_mem _ hx)) (by omega)
      have e : (prodN (l :: d) : Int) = (l.length : Int) * (prodN d : Int) := by simp [prodN]
      rw [e, ← Int.mul_assoc]
      exact this
theorem many_lenN {d : List (List Int)} {most : Int} (h : manyL d most = false) (hd : ∀ l ∈ d, l ≠ []) (hm : 1 ≤ most) : ((prodL d).length : Int) ≤ most := by
  rw [prod_len]
  have := many_prodN (n := 1) (by omega) h hd hm
  omega

/-! ### domains of the laws -/
structure DomsOk (w : Int) (l : List (List Int)) : Prop where
  dom : ∀ x ∈ l, SmallDom w x
  len : l.length ≤ 8
  one : 1 ≤ l.length
section
variable {w : Int} {l : List (List Int)}
theorem DomsOk.ne (h : DomsOk w l) : ∀ x ∈ l, x ≠ [] := fun x hx => (h.dom x hx).ne
theorem DomsOk.ok (h : DomsOk w l) (hw : w ≤ 1000) : ∀ x ∈ l, okL x = true := fun x hx => smallDom_ok (h.dom x hx) hw
theorem doms_len (l : List (List Int)) : (domsL l).length = l.length := by unfold domsL; simp
theorem doms_get {l : List (List Int)} {i : Nat} (hi : i < l.length) : (domsL l).getD i dom0 = (ofD (l.getD i [])).1 := by
  unfold domsL
  rw [List.getD_eq_getElem?_getD, List.getElem?_map, List.getElem?_eq_getElem hi, List.getD_eq_getElem?_getD, List.getElem?_eq_getElem hi]
  rfl
theorem DomsOk.listB (h : ∀ x ∈ l, okL x = true) : (domsL l).all Ev.listB = true := by
  rw [List.all_eq_true]
  intro d hd
  obtain ⟨x, hx, rfl⟩ := List.mem_map.mp hd
  exact listB_of (h x hx)
theorem lists_doms (hr : ∀ x ∈ l, okL x = true ∧ Rising x) : listsL (domsL l) = l := by
  unfold listsL domsL
  rw [List.map_map]
  conv => rhs; rw [← List.map_id l]
  exact List.map_congr_left fun x hx => list_rising (hr x hx).1 (hr x hx).2
theorem DomsOk.prodB (h : DomsOk w l) {most : Int} (h0 : 0 ≤ most) (h1 : most ≤ 100000) : productB l most = true := by
  unfold productB
  simp only [Bool.and_eq_true, decide_eq_true_eq, List.all_eq_true, Nat.ble_eq]
  refine ⟨⟨⟨h0, h1⟩, by have := h.len; omega⟩, fun x hx => ⟨by have := (h.dom x hx).len; omega, List.length_pos_iff.mpr (h.ne x hx)⟩⟩
theorem DomsOk.ble (h : DomsOk w l) : Nat.ble l.length 1000 = true := by rw [Nat.ble_eq]; have := h.len; omega
end
/-- What 'sol' answers. -/
theorem sol_ok {c : Con} {l : List (List Int)} {w : Int} (hl : DomsOk w l) (hc : localB c = true) (hh : ∀ r, InP r l → holdsB (localC c) r = true) : solB c l 4000 = true := by
  unfold solB
  rw [hc, hl.prodB (by omega) (by omega)]
  simp only [Bool.true_and, Bool.or_eq_true, List.all_eq_true]
  exact .inr fun r hr => hh r ((prod_mem hl.ne r).mp hr)
theorem sol_few {c : Con} {l : List (List Int)} {most : Int} (h : (solL c l most).2 = true) : manyL l most = false ∧ (solL c l most).1 = (prodL l).filter (holdsC (localC c)) := by
  unfold solL at h ⊢
  cases hm : manyL l most with
  | true => rw [hm] at h; cases h
  | false => exact ⟨rfl, rfl⟩
theorem sol_mem {c : Con} {l : List (List Int)} {most : Int} (hl : ∀ x ∈ l, x ≠ []) (h : (solL c l most).2 = true) (r : List Int) : r ∈ (solL c l most).1 ↔ InP r l ∧ holdsC (localC c) r = true := by
  rw [(sol_few h).2, List.mem_filter, prod_mem hl]
theorem sol_lenN {c : Con} {l : List (List Int)} (hl : ∀ x ∈ l, x ≠ []) (h : (solL c l 4000).2 = true) : (solL c l 4000).1.length ≤ 4000 := by
  obtain ⟨h1, h2⟩ := sol_few h
  rw [h2]
  have := List.length_filter_le (holdsC (localC c)) (prodL l)
  have := many_lenN h1 hl (by omega)
  omega

/-! ### what a filter must do -/
structure KeptN (F : Con → List Dom → List Dom × Bool) (lo hi : Int) (c : Con) (l : List (List Int)) : Prop where
  le : Nat.ble l.length 1000 = true
  f1 : filtB lo hi c (domsL l) = true
  few : solB c l 4000 = true
  rows : (solL c l 4000).2 = true → (solL c l 4000).1.length ≤ 100000
  no : (solL c l 4000).2 = true → (F c (domsL l)).2 = false → (solL c l 4000).1 = []
  len : (F c (domsL l)).2 = true → (F c (domsL l)).1.length = l.length
  lb : (F c (domsL l)).2 = true → ∀ d ∈ (F c (domsL l)).1, listB d = true ∧ (listD d).length ≤ 1000000
  sub : (F c (domsL l)).2 = true → ∀ i v, i < l.length → v ∈ listD ((F c (domsL l)).1.getD i dom0) → v ∈ l.getD i []
  keep : (solL c l 4000).2 = true → (F c (domsL l)).2 = true → ∀ r ∈ (solL c l 4000).1, r.length = l.length ∧ ∀ i, i < l.length → hasD ((F c (domsL l)).1.getD i dom0) (r.getD i 0) = true
  f2 : (F c (domsL l)).2 = true → filtB lo hi c (F c (domsL l)).1 = true
  again : (F c (domsL l)).2 = true → (F c (F c (domsL l)).1).2 = true ∧ (F c (F c (domsL l)).1).1.all listB = true ∧ listsL (F c (F c (domsL l)).1).1 = listsL (F c (domsL l)).1
structure FiltN (F : Con → List Dom → List Dom × Bool) (lo hi : Int) (c : Con) (l : List (List Int)) : Prop where
  le : Nat.ble l.length 1000 = true
  f1 : filtB lo hi c (domsL l) = true
  few : solB c l 4000 = true
  ok : (solL c l 4000).2 = true → (F c (domsL l)).2 = (exactL c l 4000).2
  lb : (Nat.ble (F c (domsL l)).1.length 1000 && (F c (domsL l)).1.all listB) = true
  ll : (Nat.ble (listsL (F c (domsL l)).1).length 1000 && lensB (listsL (F c (domsL l)).1)) = true
  same : (solL c l 4000).2 = true → listsL (F c (domsL l)).1 = (exactL c l 4000).1
abbrev ones (v : List Int) : List (List Int) := v.map fun x => [x]
structure FixN (F : Con → List Dom → List Dom × Bool) (lo hi : Int) (c : Con) (v : List Int) : Prop where
  f1 : filtB lo hi c (domsL (ones v)) = true
  hb : holdsB (localC c) v = true
  ok : (F c (domsL (ones v))).2 = holdsC (localC c) v
  lb : (F c (domsL (ones v))).2 = true → (Nat.ble (F c (domsL (ones v))).1.length 1000 && (F c (domsL (ones v))).1.all listB) = true
  same : (F c (domsL (ones v))).2 = true → listsL (F c (domsL (ones v))).1 = ones v
theorem fix_loopN (L : Nat → Int → List (List Int) → List Int → Option AV) (a : List Int) (N : Nat) (hN : N ≤ 1000) (X : List (List Int) → List Int → Option AV)
    (hL : ∀ n i l v, L (n + 1) i l v = bif decide (i < (N : Int)) then
      bif decide (i < (a.length : Int)) then
        bif decide (0 ≤ i) && decide (i < (a.length : Int)) then
          bif decide ((l.length + [[IntKind.i64.wrap (a.getD i.toNat (0 : Int))]].length) * 24 ≤ LIM) then
            bif decide ((v.length + [IntKind.i64.wrap (a.getD i.toNat (0 : Int))].length) * 8 ≤ LIM) then
              L n (IntKind.i64.wrap (i + 1)) (l ++ [[IntKind.i64.wrap (a.getD i.toNat (0 : Int))]]) (v ++ [IntKind.i64.wrap (a.getD i.toNat (0 : Int))])
            else none
          else none
        else none
      else
        bif decide ((l.length + [[IntKind.i64.wrap (1 + i)]].length) * 24 ≤ LIM) then
          bif decide ((v.length + [IntKind.i64.wrap (1 + i)].length) * 8 ≤ LIM) then
            L n (IntKind.i64.wrap (i + 1)) (l ++ [[IntKind.i64.wrap (1 + i)]]) (v ++ [IntKind.i64.wrap (1 + i)])
          else none
        else none
      else X l v) (n : Nat) (hn : N < n) : L n 0 [] [] = X (ones ((List.range N).map fun (i : Nat) => fixV a i)) ((List.range N).map fun (i : Nat) => fixV a i) := by
  have step : ∀ (n i : Nat) (l : List (List Int)) (v : List Int), i < N → l.length ≤ 1000 → v.length ≤ 1000 → L (n + 1) (i : Int) l v = L n ((i + 1 : Nat) : Int) (l ++ [[fixV a (i : Int)]]) (v ++ [fixV a (i : Int)]) := by
    intro n i l v hi hl hv
    have w : IntKind.i64.wrap ((i : Int) + 1) = ((i + 1 : Nat) : Int) := by rw [wrap_ok (by omega) (by omega)]; omega
    have c1 : decide ((i : Int) < (N : Int)) = true := decide_eq_true (by omega)
    have l1 : ∀ y : List Int, decide ((l.length + [y].length) * 24 ≤ LIM) = true := fun y => decide_eq_true (show (l.length + 1) * 24 ≤ 140737488355328 by omega)
    have l2 : ∀ y : Int, decide ((v.length + [y].length) * 8 ≤ LIM) = true := fun y => decide_eq_true (show (v.length + 1) * 8 ≤ 140737488355328 by omega)
    rw [hL, c1, w]
    unfold fixV
    by_cases ha : (i : Int) < (a.length : Int)
    · rw [decide_eq_true ha, l1, l2, if_pos ha, decide_eq_true (show (0 : Int) ≤ (i : Int) by omega)]
      rfl
    · rw [decide_eq_false ha, l1 [IntKind.i64.wrap (1 + (i : Int))], l2 (IntKind.i64.wrap (1 + (i : Int))), if_neg ha]
      rfl
  have key : ∀ (d i n : Nat), i + d = N → d < n → L n (i : Int) (ones ((List.range i).map fun (i : Nat) => fixV a i)) ((List.range i).map fun (i : Nat) => fixV a i) = X (ones ((List.range N).map fun (i : Nat) => fixV a i)) ((List.range N).map fun (i : Nat) => fixV a i) := by
    intro d
    induction d with
    | zero =>
      intro i n h1 h2
      obtain ⟨n', rfl⟩ : ∃ n', n = n' + 1 := ⟨n - 1, by omega⟩
      obtain rfl : i = N := by omega
      rw [hL]
      exact self_lt
    | succ d ih =>
      intro i n h1 h2
      obtain ⟨n', rfl⟩ : ∃ n', n = n' + 1 := ⟨n - 1, by omega⟩
      rw [step n' i _ _ (by omega) (by simp; omega) (by simp; omega)]
      have e2 : ((List.range i).map fun (i : Nat) => fixV a i) ++ [fixV a (i : Int)] = (List.range (i + 1)).map fun (i : Nat) => fixV a i := by
        rw [List.range_succ, List.map_append]
        rfl
      have e3 : ones ((List.range i).map fun (i : Nat) => fixV a i) ++ [[fixV a (i : Int)]] = ones ((List.range (i + 1)).map fun (i : Nat) => fixV a i) := by
        rw [← e2]
        unfold ones
        rw [List.map_append]
        rfl
      rw [e2, e3]
      exact ih (i + 1) n' (by omega) (by omega)
  exact key N 0 n (by omega) hn
theorem fix_nearN {a : List Int} (h : I8s a) (N : Nat) (hN : N ≤ 500) : ∀ x ∈ (List.range N).map fun (i : Nat) => fixV a i, -1000 ≤ x ∧ x ≤ 1000 := by
  intro x hx
  obtain ⟨i, hi, rfl⟩ := List.mem_map.mp hx
  have hi := List.mem_range.mp hi
  unfold fixV
  split
  · rename_i h1
    have hm : a.getD (i : Int).toNat 0 ∈ a := getD_mem (by omega) 0
    have := h _ hm
    rw [wrap_ok (by omega) (by omega)]
    omega
  · rw [wrap_ok (by omega) (by omega)]
    omega
end Go.Proofs.YtnojoaghcbljfaaGreatDoor.Ev
