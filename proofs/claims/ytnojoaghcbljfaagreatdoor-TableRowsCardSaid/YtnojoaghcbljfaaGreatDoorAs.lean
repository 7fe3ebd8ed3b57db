/-
Seat 'a': loops over lists, once and for all; what the closures' callers answer; words and shapes.
Conditions: none.
-/
import Derived.Test.YtnojoaghcbljfaaGreatDoorAc
import Derived.Test.YtnojoaghcbljfaaGreatDoorAb
set_option linter.unusedVariables false
set_option linter.unusedSimpArgs false
set_option maxRecDepth 100000
namespace Go.Proofs.YtnojoaghcbljfaaGreatDoor.Ev
open Go

/-- A loop that looks for the first element of a kind. -/
theorem search_loop {α : Type} (L : Nat → Int → Option AV) (xs : List α) (d : α) (p : α → Bool) (hit : Int → Option AV) (miss : Option AV) (hl : xs.length ≤ maxLen)
    (h : ∀ n i, L (n + 1) i = bif decide (i < (xs.length : Int)) then (bif decide (0 ≤ i) && decide (i < (xs.length : Int)) then (bif p (xs.getD i.toNat d) then hit i else L n (IntKind.i64.wrap (i + 1))) else none) else miss) :
    ∀ (n : Nat) (i : Int), 0 ≤ i → i ≤ xs.length → xs.length - i < n → L n i = bif (xs.drop i.toNat).any p then hit (idx p (xs.drop i.toNat) i) else miss := by
  have hm := lenMax hl
  intro n
  induction n with
  | zero => intro i h0 h1 h2; omega
  | succ n ih =>
    intro i h0 h1 h2
    rw [h]
    by_cases hi : i < xs.length
    · rw [drop_get (d := d) h0 hi]
      simp only [hi, h0, decide_true, Bool.and_true, cond_true, List.any_cons, idx]
      cases hp : p (xs.getD i.toNat d) with
      | true => rfl
      | false =>
        simp only [cond_false, Bool.false_or]
        rw [wrap_ok (by omega) (by omega)]
        exact ih (i + 1) (by omega) (by omega) (by omega)
    · rw [List.drop_of_length_le (by omega)]
      simp only [hi, decide_false, cond_false, List.any_nil]
/-- A loop that goes through a list with a state. -/
def goFold {α σ : Type} (step : Int → σ → α → σ) : Int → σ → List α → σ
  | _, s, [] => s
  | i, s, x :: xs => goFold step (i + 1) (step i s x) xs
theorem range_loop {α σ : Type} (L : Nat → Int → σ → Option AV) (xs : List α) (d : α) (step : Int → σ → α → σ) (done : σ → Option AV) (I : Int → σ → Prop)
    (h : ∀ n i s, I i s → 0 ≤ i → i < xs.length → L (n + 1) i s = L n (i + 1) (step i s (xs.getD i.toNat d)) ∧ I (i + 1) (step i s (xs.getD i.toNat d)))
    (h0 : ∀ n i s, I i s → i = xs.length → L (n + 1) i s = done s) :
    ∀ (n : Nat) (i : Int) (s : σ), I i s → 0 ≤ i → i ≤ xs.length → xs.length - i < n → L n i s = done (goFold step i s (xs.drop i.toNat)) := by
  intro n
  induction n with
  | zero => intro i s hI h0 h1 h2; omega
  | succ n ih =>
    intro i s hI hi h1 h2
    by_cases hlt : i < xs.length
    · obtain ⟨e, hI'⟩ := h n i s hI hi hlt
      rw [e, drop_get (d := d) hi hlt]
      exact ih (i + 1) _ hI' (by omega) (by omega) (by omega)
    · rw [h0 n i s hI (by omega), List.drop_of_length_le (by omega)]
      rfl
theorem search_loopN {α : Type} (L : Nat → Int → Option AV) (xs : List α) (d : α) (p : α → Bool) (hit : Int → Option AV) (miss : Option AV) (N : Nat)
    (h : ∀ (n : Nat) (i : Int), N ≤ n → 0 ≤ i → i < xs.length → L (n + 1) i = bif p (xs.getD i.toNat d) then hit i else L n (i + 1)) (h0 : ∀ (n : Nat) (i : Int), i = xs.length → L (n + 1) i = miss) :
    ∀ (n : Nat) (i : Int), 0 ≤ i → i ≤ xs.length → xs.length - i + N < n → L n i = bif (xs.drop i.toNat).any p then hit (idx p (xs.drop i.toNat) i) else miss := by
  intro n
  induction n with
  | zero => intro i h0 h1 h2; omega
  | succ n ih =>
    intro i hi h1 h2
    by_cases hlt : i < xs.length
    · rw [h n i (by omega) hi hlt, drop_get (d := d) hi hlt]
      simp only [List.any_cons, idx]
      cases hp : p (xs.getD i.toNat d) with
      | true => rfl
      | false =>
        simp only [cond_false, Bool.false_or]
        exact ih (i + 1) (by omega) (by omega) (by omega)
    · rw [h0 n i (by omega), List.drop_of_length_le (by omega)]
      rfl
theorem range_loopN {α σ : Type} (L : Nat → Int → σ → Option AV) (xs : List α) (d : α) (step : Int → σ → α → σ) (done : σ → Option AV) (I : Int → σ → Prop) (N : Nat)
    (h : ∀ n i s, N ≤ n → I i s → 0 ≤ i → i < xs.length → L (n + 1) i s = L n (i + 1) (step i s (xs.getD i.toNat d)) ∧ I (i + 1) (step i s (xs.getD i.toNat d)))
    (h0 : ∀ n i s, N ≤ n → I i s → i = xs.length → L (n + 1) i s = done s) :
    ∀ (n : Nat) (i : Int) (s : σ), I i s → 0 ≤ i → i ≤ xs.length → xs.length - i + N < n → L n i s = done (goFold step i s (xs.drop i.toNat)) := by
  intro n
  induction n with
  | zero => intro i s hI h0 h1 h2; omega
  | succ n ih =>
    intro i s hI hi h1 h2
    by_cases hlt : i < xs.length
    · obtain ⟨e, hI'⟩ := h n i s (by omega) hI hi hlt
      rw [e, drop_get (d := d) hi hlt]
      exact ih (i + 1) _ hI' (by omega) (by omega) (by omega)
    · rw [h0 n i s (by omega) hI (by omega), List.drop_of_length_le (by omega)]
      rfl
theorem goFold_map {α β : Type} (f : α → β) : ∀ (xs : List α) (i : Int) (acc : List β), goFold (fun _ (a : List β) x => a ++ [f x]) i acc xs = acc ++ xs.map f
  | [], i, acc => by simp [goFold]
  | x :: xs, i, acc => by
    simp only [goFold, List.map_cons]
    rw [goFold_map f xs (i + 1)]
    simp
theorem idx_any {α : Type} (p : α → Bool) : ∀ (xs : List α) (i : Int), 0 ≤ i → decide (idx p xs i ≥ 0) = xs.any p
  | [], i, h => by simp [idx]
  | x :: xs, i, h => by
    rw [Bool.eq_iff_iff, decide_eq_true_iff, List.any_cons]
    by_cases hp : p x = true
    · simp [idx, hp, h]
    · have hp : p x = false := by simpa using hp
      have e : idx p (x :: xs) i = idx p xs (i + 1) := by simp [idx, hp]
      rw [e, hp, Bool.false_or, ← idx_any p xs (i + 1) (by omega), decide_eq_true_iff]
theorem idx_miss {α : Type} (p : α → Bool) : ∀ (xs : List α) (i : Int), xs.any p = false → idx p xs i = -1
  | [], i, h => rfl
  | x :: xs, i, h => by
    simp only [List.any_cons, Bool.or_eq_false_iff] at h
    simp only [idx, h.1, cond_false]
    exact idx_miss p xs (i + 1) h.2
theorem idx_res {α : Type} (p : α → Bool) (xs : List α) (f : Int → Option AV) (m : Option AV) (hm : m = f (-1)) : (bif xs.any p then f (idx p xs 0) else m) = f (idx p xs 0) := by
  cases h : xs.any p with
  | true => rfl
  | false => rw [idx_miss p xs 0 h, hm]; rfl
theorem F99g78.sem (xs : List Int) (hl : xs.length ≤ maxLen) : callW F99g78.E false F99g78.fn (xs.length + 1) [.v (.sl (.int .i64)) xs, .fn 95 [] []] = some (.v (.int .i64) (idx outD xs 0)) := by
  rw [F99g78.start_eq, search_loop (fun n i => F99g78.l1_0_1_0 n _ xs xs.length i) xs 0 outD _ _ hl (fun n i => F99g78.l1_0_1_0_eq n _ xs _ i) _ 0 (by omega) (by omega) (by omega)]
  simp only [F99g78.c0, F99g78.c1]
  exact idx_res outD xs (fun v => some (.v (.int .i64) v)) _ rfl
theorem F99g96.sem (xs : List Int) (z : Int) (hl : xs.length ≤ maxLen) : callW F99g96.E false F99g96.fn (xs.length + 1) [.v (.sl (.int .i64)) xs, .fn 133 [] [.rp [.v (.int .i64) z]]] = some (.v (.int .i64) (idx (varB z) xs 0)) := by
  rw [F99g96.start_eq, search_loop (fun n i => F99g96.l1_0_1_0 n _ xs z xs.length i) xs 0 (varB z) _ _ hl (fun n i => F99g96.l1_0_1_0_eq n _ xs z _ i) _ 0 (by omega) (by omega) (by omega)]
  simp only [F99g96.c0, F99g96.c1]
  exact idx_res (varB z) xs (fun v => some (.v (.int .i64) v)) _ rfl
theorem F99g118.sem (xs : List Int) (z : Int) (hl : xs.length ≤ maxLen) : callW F99g118.E false F99g118.fn (xs.length + 1) [.v (.sl (.int .i64)) xs, .fn 175 [] [.rp [.v (.int .i64) z]]] = some (.v (.int .i64) (idx (numB z) xs 0)) := by
  rw [F99g118.start_eq, search_loop (fun n i => F99g118.l1_0_1_0 n _ xs z xs.length i) xs 0 (numB z) _ _ hl (fun n i => F99g118.l1_0_1_0_eq n _ xs z _ i) _ 0 (by omega) (by omega) (by omega)]
  simp only [F99g118.c0, F99g118.c1]
  exact idx_res (numB z) xs (fun v => some (.v (.int .i64) v)) _ rfl
theorem F115g108.sem (xs : List (List Int)) (z : Con) (hl : xs.length ≤ maxLen) : callW F115g108.E false F115g108.fn (xs.length + 1) [.v (.sl (.sl (.int .i64))) xs, .fn 159 [] [.rp (explode ConT z)]] = some (.v (.int .i64) (idx (rowN z) xs 0)) := by
  refine (F115g108.start_eq _ xs z).trans ?_
  rw [search_loop (fun n i => F115g108.l1_0_1_0 n _ xs z.1 z.2.1 z.2.2.1 z.2.2.2.1 z.2.2.2.2.1 z.2.2.2.2.2.1 z.2.2.2.2.2.2.1 z.2.2.2.2.2.2.2 xs.length i) xs [] (rowN z) _ _ hl (fun n i => F115g108.l1_0_1_0_eq n _ xs _ _ _ _ _ _ _ _ _ i) _ 0 (by omega) (by omega) (by omega)]
  simp only [F115g108.c0, F115g108.c1]
  exact idx_res (rowN z) xs (fun v => some (.v (.int .i64) v)) _ rfl
theorem F90g74.sem (xs : List Dom) (hl : xs.length ≤ maxLen) : callW F90g74.E false F90g74.fn (xs.length + 1) [.v (.sl DomT) xs, .fn 91 [] []] = some (.v (.int .i64) (idx emptyD xs 0)) := by
  refine (F90g74.start_eq _ xs).trans ?_
  rw [search_loop (fun n i => F90g74.l1_0_1_0 n _ xs xs.length i) xs (0, [], 0, 0, 0) emptyD _ _ hl (fun n i => F90g74.l1_0_1_0_eq n _ xs _ i) _ 0 (by omega) (by omega) (by omega)]
  simp only [F90g74.c0, F90g74.c1]
  exact idx_res emptyD xs (fun v => some (.v (.int .i64) v)) _ rfl
theorem F77g78.sem (k : Nat) (xs : List Int) : callW F77g78.E false F77g78.fn k [.v (.sl (.int .i64)) xs, .fn 95 [] []] = some (.v .bool (xs.any outD)) := by
  rw [F77g78.start_eq, idx_any outD xs 0 (Int.le_refl _)]
theorem F77g96.sem (k : Nat) (xs : List Int) (z : Int) : callW F77g96.E false F77g96.fn k [.v (.sl (.int .i64)) xs, .fn 133 [] [.rp [.v (.int .i64) z]]] = some (.v .bool (xs.any (varB z))) := by
  rw [F77g96.start_eq, idx_any (varB z) xs 0 (Int.le_refl _)]
theorem F77g118.sem (k : Nat) (xs : List Int) (z : Int) : callW F77g118.E false F77g118.fn k [.v (.sl (.int .i64)) xs, .fn 175 [] [.rp [.v (.int .i64) z]]] = some (.v .bool (xs.any (numB z))) := by
  rw [F77g118.start_eq, idx_any (numB z) xs 0 (Int.le_refl _)]
theorem F107g108.sem (k : Nat) (xs : List (List Int)) (z : Con) : callW F107g108.E false F107g108.fn k [.v (.sl (.sl (.int .i64))) xs, .fn 159 [] [.rp (explode ConT z)]] = some (.v .bool (xs.any (rowN z))) := by
  refine (F107g108.start_eq k xs z).trans ?_
  rw [idx_any (rowN z) xs 0 (Int.le_refl _)]
theorem F73g74.sem (k : Nat) (xs : List Dom) : callW F73g74.E false F73g74.fn k [.v (.sl DomT) xs, .fn 91 [] []] = some (.v .bool (xs.any emptyD)) := by
  refine (F73g74.start_eq k xs).trans ?_
  rw [idx_any emptyD xs 0 (Int.le_refl _)]
theorem F74.sem (k : Nat) (d : Dom) : callW F74.E false F74.fn k [.agg (explode DomT d)] = some (.v .bool (emptyD d)) := F74.start_eq k d
theorem F96.sem (k : Nat) (v z : Int) : callW F96.E false F96.fn k [.v (.int .i64) v, .rp [.v (.int .i64) z]] = some (.v .bool (varB z v)) := by
  rw [F96.start_eq]
  unfold varB
  cases decide (v < 0) <;> rfl
theorem F118.sem (k : Nat) (v z : Int) : callW F118.E false F118.fn k [.v (.int .i64) v, .rp [.v (.int .i64) z]] = some (.v .bool (numB z v)) := by
  rw [F118.start_eq]
  unfold numB
  cases decide (v < z) <;> rfl
theorem F108.sem (k : Nat) (r : List Int) (z : Con) : callW F108.E false F108.fn k [.v (.sl (.int .i64)) r, .rp (explode ConT z)] = some (.v .bool (rowN z r)) := F108.start_eq k r z

/-! ### words and shapes -/
theorem F124.sem (k : Nat) (s : ByteArray) (c : Int) : callW F124.E false F124.fn k [.v .str s, .v (.int .u8) c] = some (.v (.int .i64) (idxJ s c)) := F124.start_eq k s c
theorem F116.sem (k : Nat) (s : ByteArray) (b : UInt8) : callW F116.E false F116.fn k [.v .str s, .v .str ⟨#[b]⟩] = some (.v (.int .i64) (idx1 s ⟨#[b]⟩)) := by
  rw [F116.start_eq]
  unfold idx1 idxJ
  cases strEq ⟨#[b]⟩ s <;> rfl
theorem F109.sem (k : Nat) (s : ByteArray) (b : UInt8) : callW F109.E false F109.fn k [.v .str s, .v .str ⟨#[b]⟩] = some (.v (.int .i64) (idx2 s ⟨#[b]⟩)) := F109.start_eq k s b
theorem F94.sem (k : Nat) (s : ByteArray) (b : UInt8) : callW F94.E false F94.fn k [.v .str s, .v .str ⟨#[b]⟩] = some (.v .bool (has1 s ⟨#[b]⟩)) := F94.start_eq k s b
theorem F114.sem (k : Nat) (s : ByteArray) (b : UInt8) : callW F114.E false F114.fn k [.v .str s, .v .str ⟨#[b]⟩] = some (.v (.int .i64) (cnt1 s ⟨#[b]⟩)) := F114.start_eq k s b
theorem F105.sem (k : Nat) (n a b : Int) : callW F105.E false F105.fn k [.v (.int .i64) n, .v (.int .i64) a, .v (.int .i64) b] = some (.v .bool (withinD n a b)) := by
  rw [F105.start_eq]
  unfold withinD
  cases decide (n ≥ a) <;> rfl
theorem F106.sem (k : Nat) (n : Int) (s o a : ByteArray) (h1 : decide (o.size = 1) = true) (h2 : decide (a.size = 1) = true) : callW F106.E false F106.fn k [.v (.int .i64) n, .v .str s, .v .str o, .v .str a] = some (.v .bool (namedD n s o a)) := by
  rw [F106.start_eq, h1, h2]
  unfold namedD
  cases has1 s a <;> rfl
theorem F53.loop (K : Conts) (s : ByteArray) (c : Int) (hs : s.size ≤ 100) : ∀ (n : Nat) (i m : Nat), i ≤ s.size → m ≤ i → s.size - i < n →
    F53.l1_1_0_1_0 n K s c (m : Int) (i : Int) = exitK K 0 ⟨slots 21 [(5, .v (.int .i64) (hasGo s c (List.range' i (s.size - i)) m))], []⟩ := by
  intro n
  induction n with
  | zero => intro i m h1 h2 h3; omega
  | succ n ih =>
    intro i m h1 h2 h3
    rw [F53.l1_1_0_1_0_eq]
    by_cases hi : i < s.size
    · have e : s.size - i = (s.size - (i + 1)) + 1 := by omega
      rw [e, List.range'_succ]
      have a1 : (i : Int) < s.size := by omega
      have a2 : (0 : Int) ≤ i := by omega
      simp only [a1, a2, decide_true, Bool.and_true, cond_true, hasGo]
      have e1 : IntKind.i64.wrap ((i : Int) + 1) = ((i + 1 : Nat) : Int) := by rw [wrap_ok (by omega) (by omega)]; omega
      have e2 : IntKind.i64.wrap ((m : Int) + 1) = ((m + 1 : Nat) : Int) := by rw [wrap_ok (by omega) (by omega)]; omega
      rw [e1, e2]
      have e3 : (i : Int).toNat = i := by omega
      rw [e3]
      by_cases hb : byteW s i = c
      · simp only [hb, decide_true, cond_true, if_true]
        have := ih (i + 1) (m + 1) (by omega) (by omega) (by omega)
        rw [this]
        rfl
      · simp only [hb, decide_false, cond_false, if_false]
        exact ih (i + 1) m (by omega) (by omega) (by omega)
    · have e : s.size - i = 0 := by omega
      have a1 : ¬ (i : Int) < s.size := by omega
      rw [e]
      simp only [a1, decide_false, cond_false]
      rfl
theorem F53.sem (s : ByteArray) (c : Int) (hs : decide (s.size ≤ 100) = true) : callW F53.E false F53.fn 101 [.v .str s, .v (.int .u8) c] = some (.v (.int .i64) (hasB s c)) := by
  have hs' : s.size ≤ 100 := of_decide_eq_true hs
  rw [F53.start_eq]
  have := F53.loop (F53.kt 101 [1, 1, 0, 1, 0]) s c hs' 101 0 0 (by omega) (by omega) (by omega)
  refine (show _ = _ from this).trans ?_
  rw [F53.c0]
  unfold hasB
  rw [List.range_eq_range', Nat.sub_zero]
  rfl
end Go.Proofs.YtnojoaghcbljfaaGreatDoor.Ev
