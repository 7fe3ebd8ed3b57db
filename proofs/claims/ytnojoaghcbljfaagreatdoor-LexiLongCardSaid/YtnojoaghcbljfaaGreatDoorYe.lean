/-
Sorting, and leaving out what is there twice: the lists that come of it.
Conditions: none.
Two long rows that begin alike: what is in a solution. Plain lists.
Conditions: none.
-/
import Derived.Test.YtnojoaghcbljfaaGreatDoorYd
import Derived.Test.YtnojoaghcbljfaaGreatDoorLj
import Derived.Lib.RowBridge
set_option linter.unusedVariables false
set_option linter.unusedSimpArgs false
namespace Go.Proofs.YtnojoaghcbljfaaGreatDoor.Ev
open Go
theorem sortL_mem {l : List Int} {x : Int} : x ∈ sortL l ↔ x ∈ l := List.mem_mergeSort
theorem sortL_len (l : List Int) : (sortL l).length = l.length := List.length_mergeSort l
theorem sortL_le (l : List Int) : (sortL l).Pairwise (· ≤ ·) := by
 have h := List.pairwise_mergeSort (le := fun x y : Int => decide (x ≤ y)) (fun a b c h1 h2 => by
  have h1 := of_decide_eq_true h1; have h2 := of_decide_eq_true h2; exact decide_eq_true (by omega)) (fun a b => by
  rw [Bool.or_eq_true, decide_eq_true_iff, decide_eq_true_iff]; omega) l
 exact h.imp fun h => of_decide_eq_true h
structure CompP (d : Array Int) (m : Nat) : Prop where
  ris : Rising (Lib.compactUpTo d m)
  mem : ∀ x ∈ Lib.compactUpTo d m, ∃ j, j < m ∧ x = d[j]!
  le : 0 < m → ∀ x ∈ Lib.compactUpTo d m, x ≤ d[m - 1]!
  last : 0 < m → d[m - 1]! ∈ Lib.compactUpTo d m
theorem comp_part {d : Array Int} (hs : ∀ i j, i ≤ j → j < d.size → d[i]! ≤ d[j]!) : ∀ m, m ≤ d.size → CompP d m
 | 0, _ => ⟨List.Pairwise.nil, (fun x hx => absurd hx (by simp [Lib.compactUpTo])), (fun h => absurd h (Nat.lt_irrefl 0)), (fun h => absurd h (Nat.lt_irrefl 0))⟩
 | m + 1, hm => by
  obtain ⟨r, me, le, la⟩ := comp_part hs m (by omega)
  have e : Lib.compactUpTo d (m + 1) = Lib.compactUpTo d m ++ (if Lib.keeps d m then [d[m]!] else []) := Lib.compactUpTo_succ d m
  by_cases hk : Lib.keeps d m = true
  ·rw [if_pos hk] at e
   have hk : m = 0 ∨ d[m]! ≠ d[m - 1]! := of_decide_eq_true (show decide (m = 0 ∨ d[m]! ≠ d[m - 1]!) = true from hk)
   have lt : ∀ x ∈ Lib.compactUpTo d m, x < d[m]! := fun x hx => by
    obtain ⟨j, hj, rfl⟩ := me x hx
    have h1 := le (by omega) _ hx
    have h2 := hs (m - 1) m (by omega) (by omega)
    rcases hk with h | h
    ·omega
    ·omega
   refine ⟨?_, ?_, ?_, ?_⟩
   ·rw [e]
    exact List.pairwise_append.mpr ⟨r, List.pairwise_singleton _ _, fun x hx y hy => by rw [List.mem_singleton.mp hy]; exact lt x hx⟩
   ·rw [e]
    intro x hx
    rcases List.mem_append.mp hx with h | h
    ·obtain ⟨j, hj, h⟩ := me x h
     exact ⟨j, by omega, h⟩
    ·exact ⟨m, by omega, List.mem_singleton.mp h⟩
   ·rw [e]
    intro _ x hx
    show x ≤ d[m]!
    rcases List.mem_append.mp hx with h | h
    ·have := lt x h; omega
    ·rw [List.mem_singleton.mp h]; exact Int.le_refl _
   ·rw [e]
    intro _
    exact List.mem_append.mpr (.inr (List.mem_singleton.mpr rfl))
  ·rw [if_neg hk, List.append_nil] at e
   have hk : ¬ (m = 0 ∨ d[m]! ≠ d[m - 1]!) := fun h => hk (decide_eq_true h)
   have h0 : 0 < m := by omega
   have he : d[m]! = d[m - 1]! := Classical.byContradiction fun h => hk (.inr h)
   refine ⟨by rw [e]; exact r, ?_, ?_, ?_⟩
   ·rw [e]
    intro x hx
    obtain ⟨j, hj, h⟩ := me x hx
    exact ⟨j, by omega, h⟩
   ·rw [e]
    intro _ x hx
    show x ≤ d[m]!
    rw [he]
    exact le h0 x hx
   ·rw [e]
    intro _
    show d[m]! ∈ _
    rw [he]
    exact la h0
theorem pair_le {l : List Int} (h : l.Pairwise (· ≤ ·)) : ∀ i j, i ≤ j → j < l.toArray.size → l.toArray[i]! ≤ l.toArray[j]! := by
 intro i j hij hj
 have hj : j < l.length := by simpa using hj
 by_cases e : i = j
 ·subst e; exact Int.le_refl _
 ·have := List.pairwise_iff_getElem.mp h i j (by omega) hj (by omega)
  simpa [hj, show i < l.length by omega] using this
structure CompS (l y : List Int) : Prop where
  ris : Rising y
  sub : ∀ x ∈ y, x ∈ l
  ne : y ≠ []
  len : y.length ≤ l.length
theorem comp_sort {l : List Int} (h : l ≠ []) : CompS l (compL (sortL l)) := by
 have hl := sortL_len l
 have h0 : 0 < l.length := List.length_pos_iff.mpr h
 obtain ⟨r, me, _, la⟩ := comp_part (pair_le (sortL_le l)) (sortL l).length (by simp)
 refine ⟨r, fun x hx => ?_, fun e => ?_, ?_⟩
 ·obtain ⟨j, hj, rfl⟩ := me x hx
  have : (sortL l).toArray[j]! ∈ sortL l := by
   simp [hj]
  exact sortL_mem.mp this
 ·have := la (by omega)
  rw [show Lib.compactUpTo (sortL l).toArray (sortL l).length = [] from e] at this
  cases this
 ·have := Lib.compact_length_le (sortL l)
  show (Lib.compact (sortL l)).length ≤ _
  omega
theorem map_loop {f : Int → Int} (xs : List Int) (L : Nat → Int → List Int → Option AV) (X : List Int → Option AV)
  (hstep : ∀ (n j : Nat) (acc : List Int), j < xs.length → acc.length ≤ 1000 → L (n + 1) (j : Int) acc = L n ((j + 1 : Nat) : Int) (acc ++ [f (xs.getD j 0)]))
  (hend : ∀ n acc, L (n + 1) (xs.length : Int) acc = X acc) : ∀ (d j n : Nat) (acc : List Int), j + d = xs.length → d < n → acc.length + d ≤ 1000 → L n (j : Int) acc = X (acc ++ (xs.drop j).map f)
 | 0, j, n, acc, h1, h2, h3 => by
  obtain ⟨n', rfl⟩ : ∃ n', n = n' + 1 := ⟨n - 1, by omega⟩
  obtain rfl : j = xs.length := by omega
  rw [hend, List.drop_length]
  simp
 | d + 1, j, n, acc, h1, h2, h3 => by
  obtain ⟨n', rfl⟩ : ∃ n', n = n' + 1 := ⟨n - 1, by omega⟩
  have hj : j < xs.length := by omega
  rw [hstep n' j acc hj (by omega), map_loop xs L X hstep hend d (j + 1) n' _ (by omega) (by omega) (by simp; omega)]
  have : xs.drop j = xs.getD j 0 :: xs.drop (j + 1) := by
   rw [List.drop_eq_getElem_cons hj, List.getD_eq_getElem?_getD, List.getElem?_eq_getElem hj]
   rfl
  rw [this]
  simp
theorem st_loop {α : Type} (st : Nat → α) (N M : Nat) (L : Nat → Int → α → Option AV) (X : Option AV)
  (hstep : ∀ n i : Nat, M ≤ n → i < N → L (n + 1) (i : Int) (st i) = L n ((i + 1 : Nat) : Int) (st (i + 1)))
  (hend : ∀ n, L (n + 1) (N : Int) (st N) = X) : ∀ (d i n : Nat), i + d = N → M + d < n → L n (i : Int) (st i) = X
 | 0, i, n, h1, h2 => by
  obtain ⟨n', rfl⟩ : ∃ n', n = n' + 1 := ⟨n - 1, by omega⟩
  obtain rfl : i = N := by omega
  exact hend n'
 | d + 1, i, n, h1, h2 => by
  obtain ⟨n', rfl⟩ : ∃ n', n = n' + 1 := ⟨n - 1, by omega⟩
  rw [hstep n' i (by omega) (by omega)]
  exact st_loop st N M L X hstep hend d (i + 1) n' (by omega) (by omega)
end Go.Proofs.YtnojoaghcbljfaaGreatDoor.Ev
set_option linter.unusedVariables false
set_option linter.unusedSimpArgs false
set_option maxRecDepth 10000
namespace Go.Proofs.YtnojoaghcbljfaaGreatDoor.Ev
open Go
theorem lexR_le : ∀ (J : Nat) (p q : List Int), lexR p q = true → (∀ i, i < J → p.getD i 0 = q.getD i 0) → J < p.length → J < q.length → p.getD J 0 ≤ q.getD J 0
 | _, [], _, _, _, h, _ => by simp at h
 | _, _ :: _, [], _, _, _, h => by simp at h
 | 0, x :: p, y :: q, h, _, _, _ => by
  unfold lexR at h
  show x ≤ y
  by_cases e : x = y
  ·omega
  ·rw [if_neg e, decide_eq_true_eq] at h
   omega
 | J + 1, x :: p, y :: q, h, he, h1, h2 => by
  have e : x = y := he 0 (by omega)
  unfold lexR at h
  rw [if_pos e] at h
  exact lexR_le J p q h (fun i hi => he (i + 1) (by omega)) (by simpa using h1) (by simpa using h2)
theorem lexR_of : ∀ (p q : List Int) (J : Nat), p.length = q.length → (∀ i, i ≠ J → p.getD i 0 = q.getD i 0) → p.getD J 0 ≤ q.getD J 0 → lexR p q = true
 | [], [], _, _, _, _ => rfl
 | [], _ :: _, _, h, _, _ => by simp at h
 | _ :: _, [], _, h, _, _ => by simp at h
 | x :: p, y :: q, 0, h, he, hj => by
  have hj : x ≤ y := hj
  have h : p.length = q.length := by simpa using h
  unfold lexR
  by_cases e : x = y
  ·rw [if_pos e]
   have g : ∀ i, p.getD i 0 = q.getD i 0 := fun i => he (i + 1) (by omega)
   exact lexR_of p q 0 h (fun i _ => g i) (by rw [g]; exact Int.le_refl _)
  ·rw [if_neg e, decide_eq_true_eq]
   omega
 | x :: p, y :: q, J + 1, h, he, hj => by
  have h : p.length = q.length := by simpa using h
  have e : x = y := he 0 (by omega)
  unfold lexR
  rw [if_pos e]
  exact lexR_of p q J h (fun i hi => he (i + 1) (by omega)) hj
def rowJ (J : Nat) (a : List Int) (i : Nat) : List Int := if i < J then [(i : Int)] else if i = J then a else [0, 1]
def rowsJ (J : Nat) (a : List Int) (N : Nat) : List (List Int) := (List.range N).map (rowJ J a)
def pickJ (J : Nat) (u : Int) (i : Nat) : Int := if i < J then (i : Int) else if i = J then u else 0
def picksJ (J : Nat) (u : Int) (N : Nat) : List Int := (List.range N).map (pickJ J u)
theorem rowsJ_len (J : Nat) (a : List Int) (N : Nat) : (rowsJ J a N).length = N := by unfold rowsJ; simp
theorem rowsJ_get {J N i : Nat} {a : List Int} (h : i < N) : (rowsJ J a N).getD i [] = rowJ J a i := known_get _ h []
theorem picks_len (J : Nat) (u : Int) (N : Nat) : (picksJ J u N).length = N := by unfold picksJ; simp
theorem picks_get {J N i : Nat} {u : Int} (h : i < N) : (picksJ J u N).getD i 0 = pickJ J u i := known_get _ h 0
theorem picks_in {J N : Nat} {a : List Int} {u : Int} (hu : u ∈ a) : InP (picksJ J u N) (rowsJ J a N) := F2.ofD 0 [] (by rw [picks_len, rowsJ_len]) fun i hi => by
 rw [picks_len] at hi
 show (picksJ J u N).getD i 0 ∈ (rowsJ J a N).getD i []
 rw [picks_get hi, rowsJ_get hi]
 unfold pickJ rowJ
 by_cases h1 : i < J
 ·rw [if_pos h1, if_pos h1]; exact List.mem_singleton.mpr rfl
 ·rw [if_neg h1, if_neg h1]
  by_cases h2 : i = J
  ·rw [if_pos h2, if_pos h2]; exact hu
  ·rw [if_neg h2, if_neg h2]; simp
theorem picks_lex {J N : Nat} {u v : Int} (h : u ≤ v) : lexR (picksJ J u N) (picksJ J v N) = true := by
 refine lexR_of _ _ J (by rw [picks_len, picks_len]) (fun i hi => ?_) ?_
 ·by_cases hN : i < N
  ·rw [picks_get hN, picks_get hN]
   unfold pickJ
   rw [if_neg hi, if_neg hi]
  ·rw [List.getD_eq_getElem?_getD, List.getD_eq_getElem?_getD, List.getElem?_eq_none (by rw [picks_len]; omega), List.getElem?_eq_none (by rw [picks_len]; omega)]
 ·by_cases hN : J < N
  ·rw [picks_get hN, picks_get hN]
   unfold pickJ
   rw [if_neg (Nat.lt_irrefl _), if_pos rfl, if_neg (Nat.lt_irrefl _), if_pos rfl]
   exact h
  ·rw [List.getD_eq_getElem?_getD, List.getD_eq_getElem?_getD, List.getElem?_eq_none (by rw [picks_len]; omega), List.getElem?_eq_none (by rw [picks_len]; omega)]
   exact Int.le_refl _
theorem long_of {J N : Nat} {a b : List Int} {u v : Int} (hJ : J < N) (hu : u ∈ a) (hv : v ∈ b) (h : u ≤ v) :
  LexS N (picksJ J u N ++ picksJ J v N) ∧ InP (picksJ J u N ++ picksJ J v N) (rowsJ J a N ++ rowsJ J b N) ∧ (picksJ J u N ++ picksJ J v N).getD J 0 = u ∧ (picksJ J u N ++ picksJ J v N).getD (N + J) 0 = v := by
 have l1 : (picksJ J u N).length = N := picks_len _ _ _
 have pj : ∀ w, pickJ J w J = w := fun w => by unfold pickJ; rw [if_neg (Nat.lt_irrefl _), if_pos rfl]
 refine ⟨?_, (picks_in hu).append (picks_in hv), ?_, ?_⟩
 ·unfold LexS
  have e1 : (picksJ J u N ++ picksJ J v N).take N = picksJ J u N := by rw [List.take_append_of_le_length (by omega), List.take_of_length_le (by omega)]
  have e2 : (picksJ J u N ++ picksJ J v N).drop N = picksJ J v N := by rw [List.drop_append_of_le_length (by omega), List.drop_of_length_le (by omega)]; rfl
  rw [e1, e2]
  exact picks_lex h
 ·rw [List.getD_eq_getElem?_getD, List.getElem?_append_left (by omega), ← List.getD_eq_getElem?_getD, picks_get hJ]
  exact pj u
 ·rw [List.getD_eq_getElem?_getD, List.getElem?_append_right (by omega), l1, Nat.add_sub_cancel_left, ← List.getD_eq_getElem?_getD, picks_get hJ]
  exact pj v
theorem long_to {J N : Nat} {a b : List Int} {r : List Int} (hJ : J < N) (hl : LexS N r) (hr : InP r (rowsJ J a N ++ rowsJ J b N)) : r.getD J 0 ∈ a ∧ r.getD (N + J) 0 ∈ b ∧ r.getD J 0 ≤ r.getD (N + J) 0 := by
 obtain ⟨h1, h2⟩ := inp_split hr
 rw [rowsJ_len] at h1 h2
 have g1 : ∀ i, (r.take N).getD i 0 = if i < N then r.getD i 0 else 0 := fun i => by
  by_cases h : i < N
  ·rw [if_pos h, List.getD_eq_getElem?_getD, List.getD_eq_getElem?_getD, List.getElem?_take_of_lt h]
  ·rw [if_neg h, List.getD_eq_getElem?_getD, List.getElem?_eq_none (by rw [List.length_take]; omega)]; rfl
 have g2 : ∀ i, (r.drop N).getD i 0 = r.getD (N + i) 0 := fun i => by
  rw [List.getD_eq_getElem?_getD, List.getD_eq_getElem?_getD, List.getElem?_drop]
 have n1 : (r.take N).length = N := by rw [F2.length h1, rowsJ_len]
 have n2 : (r.drop N).length = N := by rw [F2.length h2, rowsJ_len]
 have in1 : ∀ i, i < N → (r.take N).getD i 0 ∈ rowJ J a i := fun i hi => by
  have := h1.getD (i := i) (by omega) 0 []
  rwa [rowsJ_get hi] at this
 have in2 : ∀ i, i < N → (r.drop N).getD i 0 ∈ rowJ J b i := fun i hi => by
  have := h2.getD (i := i) (by omega) 0 []
  rwa [rowsJ_get hi] at this
 have same : ∀ i, i < J → (r.take N).getD i 0 = (r.drop N).getD i 0 := fun i hi => by
  have a1 := in1 i (by omega)
  have a2 := in2 i (by omega)
  unfold rowJ at a1 a2
  rw [if_pos hi] at a1 a2
  rw [List.mem_singleton.mp a1, List.mem_singleton.mp a2]
 have le := lexR_le J _ _ hl same (by omega) (by omega)
 have a1 := in1 J hJ
 have a2 := in2 J hJ
 unfold rowJ at a1 a2
 rw [if_neg (Nat.lt_irrefl _), if_pos rfl] at a1 a2
 rw [g1, if_pos hJ] at a1 le
 rw [g2] at a2 le
 exact ⟨a1, a2, le⟩
def conL (N : Nat) : Con := (22, ((List.range N).map fun (i : Nat) => (i : Int)), ((List.range N).map fun (i : Nat) => (N : Int) + (i : Int)), [], [], [], 0, [])
structure Small30 (a : List Int) : Prop where
  ris : Rising a
  ne : a ≠ []
  near : ∀ x ∈ a, -1000 ≤ x ∧ x ≤ 1000
  len : a.length ≤ 5
section
variable {J N : Nat} {a b : List Int}
theorem long_rows (hN : N ≤ 30) (ha : Small30 a) : ∀ x ∈ rowsJ J a N, okL x = true ∧ near3 x := fun x hx => by
 obtain ⟨i, hi, rfl⟩ := List.mem_map.mp hx
 have hi := List.mem_range.mp hi
 have key : rowJ J a i ≠ [] ∧ near3 (rowJ J a i) := by
  unfold rowJ
  by_cases h1 : i < J
  ·rw [if_pos h1]
   exact ⟨by simp, fun y hy => by rw [List.mem_singleton.mp hy]; omega⟩
  ·rw [if_neg h1]
   by_cases h2 : i = J
   ·rw [if_pos h2]; exact ⟨ha.ne, ha.near⟩
   ·rw [if_neg h2]
    refine ⟨by simp, fun y hy => ?_⟩
    simp at hy
    omega
 exact ⟨okL_small key.1 key.2, key.2⟩
theorem long_all (hN : N ≤ 30) (ha : Small30 a) (hb : Small30 b) : ∀ x ∈ rowsJ J a N ++ rowsJ J b N, okL x = true ∧ near3 x := fun x hx => by
 rcases List.mem_append.mp hx with h | h
 ·exact long_rows hN ha x h
 ·exact long_rows hN hb x h
theorem right_long (h1 : 1 ≤ N) (h2 : N ≤ 30) : rightM (conL N) 256 = 0 ∧ kindB (conL N) = true := by
 have lA : ((List.range N).map fun (i : Nat) => (i : Int)).length = N := by simp
 have lB : ((List.range N).map fun (i : Nat) => (N : Int) + (i : Int)).length = N := by simp
 have e2 : countedD (conL N) ⟨#[]⟩ = true := by
  simp [countedD, conL, noneL, -List.length_eq_zero_iff]
  omega
 have e3 : alikeD (conL N) = true := by
  unfold alikeD conL
  simp
 have e4 : kB (conL N) = true := rfl
 have e5 : List.any (varsD (conL N)) (varB 256) = false := by
  refine vars_ok fun x hx => ?_
  rcases List.mem_append.mp (show x ∈ ((List.range N).map fun (i : Nat) => (i : Int)) ++ ((List.range N).map fun (i : Nat) => (N : Int) + (i : Int)) from hx) with hm | hm
  ·obtain ⟨i, hi, rfl⟩ := List.mem_map.mp hm
   have := List.mem_range.mp hi
   omega
  ·obtain ⟨i, hi, rfl⟩ := List.mem_map.mp hm
   have := List.mem_range.mp hi
   omega
 have e6 : numbersD (conL N) = true := rfl
 refine ⟨?_, rfl⟩
 unfold rightM
 rw [e2, e3, e4, e5, e6]
 rfl
theorem fits_long (h1 : 1 ≤ N) (h2 : N ≤ 30) {l : List (List Int)} (hl : l.length = N + N) (ok : ∀ x ∈ l, okL x = true) : fitsD (conL N) (domsL l) 22 22 = true ∧ filtB 22 22 (conL N) (domsL l) = true := by
 obtain ⟨g1, g2⟩ := right_long h1 h2
 have lA : (conL N).2.1.length = N := by unfold conL; simp
 have lB : (conL N).2.2.1.length = N := by unfold conL; simp
 constructor
 ·unfold fitsD lenCB
  have e1 : List.any (domsL l) emptyD = false := not_any fun d hd => by
   obtain ⟨x, hx, rfl⟩ := List.mem_map.mp hd
   unfold emptyD
   simp [size_ofD (ok x hx)]
  rw [g1, e1, doms_len, lA, lB]
  show (decide ((22 : Int) ≤ (conL N).1) && decide ((conL N).1 ≤ 22) && _ && _ && _) = true
  simp [hl, conL]
 ·unfold filtB fitsB
  rw [g2, DomsOk.listB ok, full_doms ok]
  simp
def keepP (a b : List Int) : List Int := a.filter fun v => decide (v ≤ b.getD (b.length - 1) 0) && (decide (v < b.getD (b.length - 1) 0) || containsL b v)
def keepQ (a b : List Int) : List Int := b.filter fun v => decide (v > a.getD 0 0) || decide (v = a.getD 0 0)
theorem keepP_mem (ha : Small30 a) (hb : Small30 b) (v : Int) : v ∈ keepP a b ↔ v ∈ a ∧ ∃ w ∈ b, v ≤ w := by
 have e := (rising_ends hb.ris hb.ne).2
 obtain ⟨n1, n2⟩ := maxL_spec hb.ne
 unfold keepP
 rw [List.mem_filter, e, Bool.and_eq_true, Bool.or_eq_true, decide_eq_true_eq, decide_eq_true_eq, contains_mem, decide_eq_true_eq]
 constructor
 ·rintro ⟨h1, h2, _⟩
  exact ⟨h1, _, n2, h2⟩
 ·rintro ⟨h1, w, hw, hv⟩
  have := n1 w hw
  refine ⟨h1, by omega, ?_⟩
  by_cases h : v < maxL b
  ·exact .inl h
  ·have : v = maxL b := by omega
   rw [this]
   exact .inr n2
theorem keepQ_mem (ha : Small30 a) (hb : Small30 b) (v : Int) : v ∈ keepQ a b ↔ v ∈ b ∧ ∃ u ∈ a, u ≤ v := by
 have e := (rising_ends ha.ris ha.ne).1
 obtain ⟨n1, n2⟩ := minL_spec ha.ne
 unfold keepQ
 rw [List.mem_filter, e, Bool.or_eq_true, decide_eq_true_eq, decide_eq_true_eq]
 constructor
 ·rintro ⟨h1, h2⟩
  exact ⟨h1, _, n2, by omega⟩
 ·rintro ⟨h1, u, hu, hv⟩
  have := n1 u hu
  exact ⟨h1, by omega⟩
theorem long_mem1 (hJ : J < N) (hN : N ≤ 30) (ha : Small30 a) (hb : Small30 b) (v : Int) : v ∈ (lexiP N (rowsJ J a N ++ rowsJ J b N)).getD J [] ↔ v ∈ keepP a b := by
 have hl : (rowsJ J a N ++ rowsJ J b N).length = N + N := by rw [List.length_append, rowsJ_len, rowsJ_len]
 rw [lexiP_mem hl (fun x hx => (long_all hN ha hb x hx).1) (by omega), keepP_mem ha hb]
 constructor
 ·rintro ⟨r, h1, h2, rfl⟩
  obtain ⟨g1, g2, g3⟩ := long_to hJ h1 h2
  exact ⟨g1, _, g2, g3⟩
 ·rintro ⟨h1, w, h2, h3⟩
  obtain ⟨g1, g2, g3, _⟩ := long_of hJ h1 h2 h3
  exact ⟨_, g1, g2, g3⟩
theorem long_mem2 (hJ : J < N) (hN : N ≤ 30) (ha : Small30 a) (hb : Small30 b) (v : Int) : v ∈ (lexiP N (rowsJ J a N ++ rowsJ J b N)).getD (N + J) [] ↔ v ∈ keepQ a b := by
 have hl : (rowsJ J a N ++ rowsJ J b N).length = N + N := by rw [List.length_append, rowsJ_len, rowsJ_len]
 rw [lexiP_mem hl (fun x hx => (long_all hN ha hb x hx).1) (by omega), keepQ_mem ha hb]
 constructor
 ·rintro ⟨r, h1, h2, rfl⟩
  obtain ⟨g1, g2, g3⟩ := long_to hJ h1 h2
  exact ⟨g2, _, g1, g3⟩
 ·rintro ⟨h1, w, h2, h3⟩
  obtain ⟨g1, g2, _, g3⟩ := long_of hJ h2 h1 h3
  exact ⟨_, g1, g2, g3⟩
structure LongR (N J : Nat) (a b : List Int) (R : List Dom × Bool) : Prop where
  no : keepP a b = [] ∨ keepQ a b = [] → R.2 = false
  yes : keepP a b ≠ [] → keepQ a b ≠ [] → R.2 = true ∧ R.1.length = N + N ∧ (∀ d ∈ R.1, listB d = true) ∧ listD (R.1.getD J dom0) = keepP a b ∧ listD (R.1.getD (N + J) dom0) = keepQ a b
theorem long_law (hJ : J < N) (hN : N ≤ 30) (ha : Small30 a) (hb : Small30 b) : LongR N J a b (lexiF (conL N) (domsL (rowsJ J a N ++ rowsJ J b N))) := by
 have hl : (rowsJ J a N ++ rowsJ J b N).length = N + N := by rw [List.length_append, rowsJ_len, rowsJ_len]
 have ok : ∀ x ∈ rowsJ J a N ++ rowsJ J b N, okL x = true := fun x hx => (long_all hN ha hb x hx).1
 have lA : (conL N).2.1.length = N := by unfold conL; simp
 have pl : (lexiP N (rowsJ J a N ++ rowsJ J b N)).length = N + N := lexiP_len hl
 have e : lexiF (conL N) (domsL (rowsJ J a N ++ rowsJ J b N)) = madeAll (lexiP N (rowsJ J a N ++ rowsJ J b N)) := by
  unfold lexiF
  rw [(fits_long (by omega) hN hl ok).1, lA]
  rfl
 rw [e]
 have m1 := long_mem1 hJ hN ha hb
 have m2 := long_mem2 hJ hN ha hb
 have none1 : ∀ i, i < N + N → (lexiP N (rowsJ J a N ++ rowsJ J b N)).getD i [] = [] → (madeAll (lexiP N (rowsJ J a N ++ rowsJ J b N))).2 = false := fun i hi h => by
  have hm := getD_mem (show i < (lexiP N (rowsJ J a N ++ rowsJ J b N)).length by omega) ([] : List Int)
  rw [h] at hm
  unfold madeAll
  have : (lexiP N (rowsJ J a N ++ rowsJ J b N)).all okL = false := by
   rw [List.all_eq_false]
   exact ⟨[], hm, by simp [okL_nil]⟩
  rw [this]
  rfl
 constructor
 ·rintro (h | h)
  ·exact none1 J (by omega) (List.eq_nil_iff_forall_not_mem.mpr fun v hv => by have := (m1 v).mp hv; rw [h] at this; cases this)
  ·exact none1 (N + J) (by omega) (List.eq_nil_iff_forall_not_mem.mpr fun v hv => by have := (m2 v).mp hv; rw [h] at this; cases this)
 ·intro h1 h2
  obtain ⟨v, hv⟩ := List.exists_mem_of_ne_nil _ h1
  obtain ⟨g1, w, g2, g3⟩ := (keepP_mem ha hb v).mp hv
  obtain ⟨s1, s2, _, _⟩ := long_of hJ g1 g2 g3
  have oks : ∀ x ∈ lexiP N (rowsJ J a N ++ rowsJ J b N), okL x = true := fun x hx => by
   obtain ⟨i, hi, rfl⟩ := getD_of_mem hx []
   have mi := lexiP_mem hl ok (i := i) (by omega)
   refine okL_small (List.ne_nil_of_mem ((mi _).mpr ⟨_, s1, s2, rfl⟩)) fun y hy => ?_
   obtain ⟨r, _, t2, rfl⟩ := (mi y).mp hy
   have := t2.getD (i := i) (by rw [F2.length t2]; omega) 0 []
   exact (long_all hN ha hb _ (getD_mem (by omega) [])).2 _ this
  unfold madeAll
  have : (lexiP N (rowsJ J a N ++ rowsJ J b N)).all okL = true := by rw [List.all_eq_true]; exact oks
  rw [this]
  have get : ∀ i, i < N + N → listD ((domsL (lexiP N (rowsJ J a N ++ rowsJ J b N))).getD i dom0) = listD (ofD ((lexiP N (rowsJ J a N ++ rowsJ J b N)).getD i [])).1 := fun i hi => by rw [doms_get (by omega)]
  refine ⟨rfl, by show (domsL _).length = _; rw [doms_len, pl], fun d hd => List.all_eq_true.mp (DomsOk.listB oks) d hd, ?_, ?_⟩
  ·show listD ((domsL (lexiP N (rowsJ J a N ++ rowsJ J b N))).getD J dom0) = _
   rw [get J (by omega)]
   obtain ⟨q1, q2⟩ := list_ofD (oks _ (getD_mem (show J < (lexiP N (rowsJ J a N ++ rowsJ J b N)).length by omega) []))
   exact rising_ext q2 (List.Pairwise.filter _ ha.ris) fun v => by rw [q1, m1]
  ·show listD ((domsL (lexiP N (rowsJ J a N ++ rowsJ J b N))).getD (N + J) dom0) = _
   rw [get (N + J) (by omega)]
   obtain ⟨q1, q2⟩ := list_ofD (oks _ (getD_mem (show N + J < (lexiP N (rowsJ J a N ++ rowsJ J b N)).length by omega) []))
   exact rising_ext q2 (List.Pairwise.filter _ hb.ris) fun v => by rw [q1, m2]
end
theorem small_rising {l : List Int} (h : I8s l) : Small30 (risingL l) := by
 have key : ∀ m : List Int, m ≠ [] → (∀ x ∈ m, -1000 ≤ x ∧ x ≤ 1000) → m.length ≤ 5 → Small30 (compL (sortL m)) := fun m h1 h2 h3 => by
  have P := comp_sort h1
  exact ⟨P.ris, P.ne, fun x hx => h2 x (P.sub x hx), by have := P.len; omega⟩
 unfold risingL
 by_cases c : (l.length : Int) > 0
 ·rw [if_pos c]
  refine key _ (fun e => ?_) (fun x hx => ?_) (by simp; omega)
  ·have h5 := congrArg List.length e
   rw [List.length_map, List.length_take, List.length_nil] at h5
   omega
  ·obtain ⟨y, hy, rfl⟩ := List.mem_map.mp hx
   have := h y (List.mem_of_mem_take hy)
   rw [wrap_ok (by omega) (by omega)]
   omega
 ·rw [if_neg c]
  exact key [3] (by simp) (fun x hx => by rw [List.mem_singleton.mp hx]; omega) (by simp)
end Go.Proofs.YtnojoaghcbljfaaGreatDoor.Ev
