/-
Seat 'a': domains: what the functions answer.
Conditions: numbers and offsets are those of domains.
Seat 'a': a domain's list; a domain of numbers: what the functions answer.
Conditions: numbers and offsets are those of domains.
-/
import Derived.Test.YtnojoaghcbljfaaGreatDoorAb
set_option linter.unusedVariables false
set_option linter.unusedSimpArgs false
set_option maxRecDepth 100000
namespace Go.Proofs.YtnojoaghcbljfaaGreatDoor.Ev
open Go

theorem lenMax {n : Nat} (h : n ≤ maxLen) : (n : Int) ≤ 9223372036854775807 := by
  unfold maxLen at h
  have e : (2 : Nat) ^ 63 - 1 = 9223372036854775807 := by decide
  rw [e] at h
  omega
theorem F66.sem (k : Nat) (v : Int) : callW F66.E false F66.fn k [.v (.int .i64) v] = some (.v .bool (inD v)) := by
  rw [F66.start_eq]
  unfold inD
  by_cases h : -1000000 ≤ v <;> simp [h]
theorem F68.sem (k : Nat) (v : Int) : callW F68.E false F68.fn k [.v (.int .i64) v] = some (.v (.int .i64) (placeD v)) := by
  rw [F68.start_eq]
  rfl
theorem F78.sem (k : Nat) (v : Int) : callW F78.E false F78.fn k [.v (.int .i64) v] = some (.v .bool (outD v)) := by
  rw [F78.start_eq]
  rfl
theorem F75.sem (k : Nat) (d : Dom) : callW F75.E false F75.fn k [.agg (explode DomT d)] = some (.v (.int .i64) (sizeD d)) := F75.start_eq k d
theorem nearB_iff {v : Int} : nearB v = true ↔ -1099511627776 ≤ v ∧ v ≤ 1099511627776 := by unfold nearB; simp
theorem F67.sem (k : Nat) (d : Dom) (a : Int) (h : wordB d a = true) : callW F67.E false F67.fn k [.agg (explode DomT d), .v (.int .i64) a] = some (.v (.int .u64) (wordD d a)) := by
  refine (F67.start_eq k d a).trans ?_
  unfold wordB at h
  rw [Bool.and_eq_true, nearB_iff, nearB_iff] at h
  obtain ⟨h1, h2⟩ := h
  unfold wordD
  by_cases hlt : a < d.1
  · simp [hlt]
  · have e1 : IntKind.i64.wrap (a - d.1) = a - d.1 := wrap_ok (by omega) (by omega)
    have e2 : (a - d.1).tdiv 64 = (a - d.1) / 64 := Int.tdiv_eq_ediv_of_nonneg (by omega)
    have e3 : IntKind.i64.wrap ((a - d.1) / 64) = (a - d.1) / 64 := wrap_ok (by omega) (by omega)
    rw [e1, e2, e3]
    by_cases hge : (a - d.1) / 64 ≥ (d.2.1.length : Int)
    · have : d.2.1[((a - d.1) / 64).toNat]? = none := List.getElem?_eq_none (by omega)
      simp [hlt, hge, this]
    · have h0 : 0 ≤ (a - d.1) / 64 := by omega
      have h3 : (a - d.1) / 64 < (d.2.1.length : Int) := by omega
      have h4 : ¬ (d.2.1.length : Int) ≤ (a - d.1) / 64 := by omega
      simp [hlt, h4, h0, h3]
theorem F31.sem (k : Nat) (d : Dom) (v : Int) (h1 : nearB d.1 = true) : callW F31.E false F31.fn k [.agg (explode DomT d), .v (.int .i64) v] = some (.v .bool (hasD d v)) := by
  refine (F31.start_eq k d v).trans ?_
  unfold hasD
  cases hi : inD v with
  | false => simp
  | true =>
    have hv := inD_iff.mp hi
    have hp := place_eq hv.1 hv.2
    have hn : nearB (placeD v) = true := by
      rw [nearB_iff, hp]
      omega
    have e : IntKind.i64.wrap (v - placeD v) = v - placeD v := wrap_ok (by rw [hp]; omega) (by rw [hp]; omega)
    have h0 : 0 ≤ v - placeD v := by rw [hp]; omega
    rw [e]
    have h2 : placeD v ≤ v := by omega
    simp [wordB, h1, hn, h2]
theorem F71.sem (k : Nat) (lo hi : Int) (h : roomB lo hi = true) : callW F71.E true F71.fn k [.v (.int .i64) lo, .v (.int .i64) hi] =
    some (.agg [.v (.int .i64) (placeD lo), .nw 81 (.int .u64) (zerosD lo hi), .v (.int .i64) (0 : Int), .v (.int .i64) (0 : Int), .v (.int .i64) (0 : Int)]) := by
  refine (F71.start_eq k lo hi).trans ?_
  simp only [roomB, Bool.and_eq_true, decide_eq_true_eq] at h
  unfold zerosD
  generalize placeD hi = q at h
  generalize placeD lo = p at h
  have e1 : IntKind.i64.wrap (q - p) = q - p := wrap_ok (by omega) (by omega)
  have e2 : (q - p).tdiv 64 = (q - p) / 64 := Int.tdiv_eq_ediv_of_nonneg (by omega)
  have e3 : IntKind.i64.wrap ((q - p) / 64) = (q - p) / 64 := wrap_ok (by omega) (by omega)
  have e4 : IntKind.i64.wrap ((q - p) / 64 + 1) = (q - p) / 64 + 1 := wrap_ok (by omega) (by omega)
  rw [e1, e2, e3, e4]
  have h0 : 0 ≤ (q - p) / 64 + 1 := by omega
  have h1 : ((q - p) / 64 + 1).toNat * 8 ≤ LIM := by unfold LIM; omega
  simp [h0, h1]
  rfl
theorem F89.sem (k : Nat) (w : Int) : callW F89.E false F89.fn k [.v (.int .u64) w] = some (.v (.int .i64) (onesD w)) := by kernel_rfl
theorem u8_range (x : Int) : 0 ≤ IntKind.u8.wrap x ∧ IntKind.u8.wrap x < len8tab.size := by
  have e : IntKind.u8.wrap x = x % 256 := by simp [IntKind.wrap, IntKind.signed, IntKind.bits]
  have e2 : len8tab.size = 256 := by rfl
  rw [e, e2]
  omega
theorem F102.sem (k : Nat) (w : Int) : callW F102.E false F102.fn k [.v (.int .u64) w] = some (.v (.int .i64) (len64D w)) := by
  have z : ∀ (n : Nat) (K : Conts) (x m : Int), F102.n1_1_1_1 n K x m = K.ret ⟨slots 25 [(2, .v (.int .i64) (lenZ x m))], []⟩ := by
    intro n K x m
    rw [F102.n1_1_1_1_eq]
    obtain ⟨h1, h2⟩ := u8_range x
    simp only [h1, h2, decide_true, Bool.and_true, cond_true]
    rfl
  have c : ∀ (n : Nat) (K : Conts) (x m : Int), F102.n1_1_1 n K x m = K.ret ⟨slots 25 [(2, .v (.int .i64) (lenZ (lenC x) (lenC' x m)))], []⟩ := by
    intro n K x m
    rw [F102.n1_1_1_eq]
    unfold lenC lenC'
    by_cases h : x ≥ 256
    · simp only [h, decide_true, cond_true, if_true]
      rw [z, F102.c0]
    · simp only [h, decide_false, cond_false, if_false]
      rw [z, F102.c0]
  have b : ∀ (n : Nat) (K : Conts) (x m : Int), F102.n1_1 n K x m = K.ret ⟨slots 25 [(2, .v (.int .i64) (lenZ (lenC (lenB1 x)) (lenC' (lenB1 x) (lenB' x m))))], []⟩ := by
    intro n K x m
    rw [F102.n1_1_eq]
    unfold lenB1 lenB'
    by_cases h : x ≥ 65536
    · simp only [h, decide_true, cond_true, if_true]
      rw [c, F102.c1]
    · simp only [h, decide_false, cond_false, if_false]
      rw [c, F102.c1]
  rw [F102.start_eq]
  unfold len64D
  by_cases h : w ≥ 4294967296
  · simp only [h, decide_true, cond_true, lenA, lenA', if_true]
    rw [b, F102.c2]
  · simp only [h, decide_false, cond_false, lenA, lenA', if_false]
    rw [b, F102.c2]
theorem F88.sem (k : Nat) (w : Int) (h : uB w = true) : callW F88.E false F88.fn k [.v (.int .u64) w] = some (.v (.int .i64) (lzD w)) := by
  rw [F88.start_eq, h]
  rfl

/-! ### loops over a list -/
theorem F79.loop (K : Conts) (xs : List Int) (hl : xs.length ≤ maxLen) : ∀ (n : Nat) (m i : Int), 0 ≤ i → i ≤ xs.length → xs.length - i < n →
    F79.l1_1_1_0_1_0 n K xs m i = exitK K 0 ⟨slots 25 [(3, .v (.int .i64) (maxF m (xs.drop i.toNat)))], []⟩ := by
  have hm := lenMax hl
  intro n
  induction n with
  | zero => intro m i h0 h1 h2; omega
  | succ n ih =>
    intro m i h0 h1 h2
    rw [F79.l1_1_1_0_1_0_eq]
    by_cases hi : i < xs.length
    · have hd := drop_get (d := (0 : Int)) h0 hi
      rw [hd]
      simp only [hi, h0, decide_true, Bool.and_true, cond_true]
      rw [wrap_ok (by omega) (by omega)]
      exact ih _ (i + 1) (by omega) (by omega) (by omega)
    · rw [List.drop_of_length_le (by omega)]
      simp only [hi, decide_false, cond_false]
      rfl
theorem F79.sem (xs : List Int) (h : (!xs.isEmpty) = true) (hl : xs.length ≤ maxLen) : callW F79.E false F79.fn (xs.length + 1) [.v (.sl (.int .i64)) xs] = some (.v (.int .i64) (maxL xs)) := by
  have h0 : 0 < xs.length := by cases xs <;> simp_all
  have h0' : (0 : Int) < xs.length := by omega
  have h1 : ¬ (xs.length : Int) < 1 := by omega
  rw [F79.start_eq, F79.n1_1_eq]
  simp only [h1, h0', decide_true, decide_false, cond_true, cond_false]
  rw [F79.loop _ xs hl _ _ 1 (by omega) (by omega) (by omega), F79.c0, F79.c1]
  rfl
theorem F80.loop (K : Conts) (xs : List Int) (hl : xs.length ≤ maxLen) : ∀ (n : Nat) (m i : Int), 0 ≤ i → i ≤ xs.length → xs.length - i < n →
    F80.l1_1_1_0_1_0 n K xs m i = exitK K 0 ⟨slots 25 [(3, .v (.int .i64) (minF m (xs.drop i.toNat)))], []⟩ := by
  have hm := lenMax hl
  intro n
  induction n with
  | zero => intro m i h0 h1 h2; omega
  | succ n ih =>
    intro m i h0 h1 h2
    rw [F80.l1_1_1_0_1_0_eq]
    by_cases hi : i < xs.length
    · have hd := drop_get (d := (0 : Int)) h0 hi
      rw [hd]
      simp only [hi, h0, decide_true, Bool.and_true, cond_true]
      rw [wrap_ok (by omega) (by omega)]
      exact ih _ (i + 1) (by omega) (by omega) (by omega)
    · rw [List.drop_of_length_le (by omega)]
      simp only [hi, decide_false, cond_false]
      rfl
theorem F80.sem (xs : List Int) (h : (!xs.isEmpty) = true) (hl : xs.length ≤ maxLen) : callW F80.E false F80.fn (xs.length + 1) [.v (.sl (.int .i64)) xs] = some (.v (.int .i64) (minL xs)) := by
  have h0 : 0 < xs.length := by cases xs <;> simp_all
  have h0' : (0 : Int) < xs.length := by omega
  have h1 : ¬ (xs.length : Int) < 1 := by omega
  rw [F80.start_eq, F80.n1_1_eq]
  simp only [h1, h0', decide_true, decide_false, cond_true, cond_false]
  rw [F80.loop _ xs hl _ _ 1 (by omega) (by omega) (by omega), F80.c0, F80.c1]
  rfl
theorem getD_uB {ws : List Int} (h : ws.all uB = true) {i : Nat} (hi : i < ws.length) : uB (ws.getD i 0) = true := by
  rw [List.all_eq_true] at h
  rw [List.getD_eq_getElem?_getD, List.getElem?_eq_getElem hi]
  exact h _ (List.getElem_mem hi)
theorem F72.loop (K : Conts) (off : Int) (ws : List Int) (hu : ws.all uB = true) (hl : ws.length ≤ maxLen) (p4 p5 p6 p7 p8 : Int) (p9 : List Int) : ∀ (n : Nat) (i mn mx sz : Int), 0 ≤ i → i ≤ ws.length → ws.length - i < n →
    F72.l1_1_0_1_0 n K off ws ws.length i p4 p5 p6 p7 p8 p9 mn mx sz =
    exitK K 0 ⟨slots 49 [(4, .pb 0 0), (5, .pb 1 0)], [.box [.v (.int .i64) p4, .nl, .v (.int .i64) p5, .v (.int .i64) p6, .v (.int .i64) p7], .box [.v (.int .i64) p8, .v (.sl (.int .u64)) p9,
      .v (.int .i64) (madeGo off i mn mx sz (ws.drop i.toNat)).1, .v (.int .i64) (madeGo off i mn mx sz (ws.drop i.toNat)).2.1, .v (.int .i64) (madeGo off i mn mx sz (ws.drop i.toNat)).2.2]]⟩ := by
  have hm := lenMax hl
  intro n
  induction n with
  | zero => intro i mn mx sz h0 h1 h2; omega
  | succ n ih =>
    intro i mn mx sz h0 h1 h2
    rw [F72.l1_1_0_1_0_eq]
    by_cases hi : i < ws.length
    · have hu1 := getD_uB hu (i := i.toNat) (by omega)
      rw [drop_get (d := (0 : Int)) h0 hi]
      simp only [hi, h0, decide_true, Bool.and_true, cond_true, madeGo, hu1]
      generalize ws.getD i.toNat 0 = w
      rw [wrap_ok (x := i + 1) (by omega) (by omega)]
      by_cases hw : w = 0
      · simp only [hw, decide_true, cond_true, if_true]
        exact ih (i + 1) mn mx sz (by omega) (by omega) (by omega)
      · by_cases hs : sz = 0
        · simp only [hw, hs, decide_true, decide_false, cond_true, cond_false, if_true, if_false]
          exact ih (i + 1) _ _ _ (by omega) (by omega) (by omega)
        · simp only [hw, hs, decide_true, decide_false, cond_true, cond_false, if_true, if_false]
          exact ih (i + 1) _ _ _ (by omega) (by omega) (by omega)
    · rw [List.drop_of_length_le (by omega)]
      simp only [hi, decide_false, cond_false, madeGo]
theorem F72.sem (off : Int) (ws : List Int) (hu : ws.all uB = true) (hl : ws.length ≤ maxLen) : callW F72.E false F72.fn (ws.length + 1) [.v (.int .i64) off, .v (.sl (.int .u64)) ws] = some (.agg (explode DomT (madeD off ws))) := by
  rw [F72.start_eq, F72.loop _ off ws hu hl _ _ _ _ _ _ _ 0 0 0 0 (by omega) (by omega) (by omega), F72.c0]
  rfl
end Go.Proofs.YtnojoaghcbljfaaGreatDoor.Ev

set_option linter.unusedVariables false
set_option linter.unusedSimpArgs false
set_option maxRecDepth 100000
namespace Go.Proofs.YtnojoaghcbljfaaGreatDoor.Ev
open Go

theorem uB_U {w : Int} (h : uB w = true) : U w := by
  unfold uB at h
  simp only [Bool.and_eq_true, decide_eq_true_eq] at h
  exact h
theorem U_uB {w : Int} (h : U w) : uB w = true := by
  unfold U at h
  unfold uB
  simp [h.1, h.2]
theorem F29.inner (K : Conts) (i : Int) (ws : List Int) (len j off : Int) (p6 : List Int) (p7 p8 p9 : Int) (ho : nearB off = true) (hi : 0 ≤ i ∧ i ≤ 1000000) : ∀ (f : Nat) (w : Int) (acc : List Int) (n : Nat), U w → f ≤ 64 → (∀ j, j < 64 - f → tb w j = false) →
    acc.length + f ≤ 100000000 → f < n →
    F29.l1_1_0_1_0_0_1_1_0_0_1_0 n K i w ws len j off p6 p7 p8 p9 acc =
    exitK K 2 ⟨slots 33 [(1, .pb 0 0), (3, .own 1), (7, .v (.sl (.int .u64)) ws), (8, .v (.int .i64) len), (9, .v (.int .i64) j)], [.box [.v (.int .i64) off, .v (.sl (.int .u64)) p6, .v (.int .i64) p7, .v (.int .i64) p8, .v (.int .i64) p9], .row 3 (.int .i64) (acc ++ bitsFrom f (off + 64 * i) w)]⟩ := by
  have ho' := nearB_iff.mp ho
  intro f
  induction f with
  | zero =>
    intro w acc n hw hf hz hl hn
    have h0 : w = 0 := zero_of_tb hw (fun j hj => hz j (by omega))
    subst h0
    obtain ⟨n, rfl⟩ : ∃ m, n = m + 1 := ⟨n - 1, by omega⟩
    rw [F29.l1_1_0_1_0_0_1_1_0_0_1_0_eq]
    simp [bitsFrom]
  | succ f ih =>
    intro w acc n hw hf hz hl hn
    obtain ⟨n, rfl⟩ : ∃ m, n = m + 1 := ⟨n - 1, by omega⟩
    rw [F29.l1_1_0_1_0_0_1_1_0_0_1_0_eq]
    unfold bitsFrom
    by_cases h0 : w = 0
    · simp [h0]
    · obtain ⟨hl', t, ht, ht64, hbt, hlow, hcl⟩ := lessD_spec hw h0
      have e1 : IntKind.i64.wrap (64 * i) = 64 * i := wrap_ok (by omega) (by omega)
      have e2 : IntKind.i64.wrap (off + 64 * i) = off + 64 * i := wrap_ok (by omega) (by omega)
      have e3 : IntKind.i64.wrap (off + 64 * i + tzD w) = off + 64 * i + tzD w := wrap_ok (by rw [ht]; omega) (by rw [ht]; omega)
      have e4 : (acc.length + [off + 64 * i + tzD w].length) * 8 ≤ LIM := by unfold LIM; simp only [List.length_cons, List.length_nil]; omega
      rw [e1, e2, e3]
      have hu := U_uB hw
      simp only [h0, decide_false, Bool.not_false, cond_true, hu, e4, decide_true, if_false]
      have := ih (lessD w) (acc ++ [off + 64 * i + tzD w]) n hl' (by omega) (by
        intro j hj
        rw [hcl]
        cases hb : tb w j with
        | false => rfl
        | true =>
          have h1 := hlow j hb
          have h2 : ¬ t < 64 - (f + 1) := fun hlt => by rw [hz t hlt] at hbt; simp at hbt
          have hjt : j = t := by omega
          simp [hjt]) (by simp only [List.length_append, List.length_cons, List.length_nil]; omega) (by omega)
      refine (show _ = _ from this).trans ?_
      rw [List.append_assoc]
      rfl
theorem F29.loop (K : Conts) (ws : List Int) (off : Int) (p4 : List Int) (p5 p6 p7 : Int) (ho : nearB off = true) (hu : ws.all uB = true) (hl : ws.length ≤ 1000000) : ∀ (n : Nat) (i : Int) (acc : List Int), 0 ≤ i → i ≤ ws.length → ws.length - i + 66 < n → acc.length + 64 * (ws.length - i) ≤ 90000000 →
    F29.l1_1_0_1_0 n K ws ws.length i off p4 p5 p6 p7 acc = exitK K 0 ⟨slots 33 [(3, .own 0)], [.row 3 (.int .i64) (acc ++ listFrom off i (ws.drop i.toNat))]⟩ := by
  intro n
  induction n with
  | zero => intro i acc h0 h1 h2; omega
  | succ n ih =>
    intro i acc h0 h1 h2 h3
    rw [F29.l1_1_0_1_0_eq]
    by_cases hi : i < ws.length
    · have hu1 := uB_U (getD_uB hu (i := i.toNat) (by omega))
      have hd := drop_get (d := (0 : Int)) h0 hi
      rw [hd]
      simp only [hi, h0, decide_true, Bool.and_true, cond_true, listFrom]
      rw [F29.inner _ i ws ws.length i off p4 p5 p6 p7 ho ⟨h0, by omega⟩ 64 _ acc n hu1 (Nat.le_refl _) (fun j hj => by omega) (by omega) (by omega), F29.c1]
      rw [wrap_ok (by omega) (by omega), ih (i + 1) _ (by omega) (by omega) (by omega) (by
        have := bitsFrom_length 64 (off + 64 * i) (ws.getD i.toNat 0)
        rw [List.length_append]
        omega)]
      rw [List.append_assoc]
    · rw [List.drop_of_length_le (by omega)]
      simp only [hi, decide_false, cond_false, listFrom, List.append_nil]
theorem F29.sem (d : Dom) (h : listB d = true) : callW F29.E false F29.fn (d.2.1.length + 100) [.agg (explode DomT d)] = some (.v (.sl (.int .i64)) (listD d)) := by
  unfold listB at h
  simp only [Bool.and_eq_true, Nat.ble_eq] at h
  refine (F29.start_eq _ d).trans ?_
  rw [F29.loop _ d.2.1 d.1 _ _ _ _ h.1.1 h.1.2 h.2 _ 0 [] (by omega) (by omega) (by omega) (by simp only [List.length_nil]; omega), F29.c0]
  rfl
theorem F50.loop (K : Conts) (xs : List Int) (hl : xs.length ≤ maxLen) (off : Int) (hv : ∀ v ∈ xs, inD v = true) (ho : -1000064 ≤ off ∧ off ≤ 1000000) (p3 p4 p5 p6 p8 p9 p10 : Int) :
    ∀ (n : Nat) (i : Int) (ws : List Int), 0 ≤ i → i ≤ xs.length → xs.length - i < n → (∀ v ∈ xs, off ≤ v ∧ (v - off) / 64 < ws.length) →
    F50.l1_1_1_0_1_0 n K xs xs.length i p3 p4 p5 p6 off p8 p9 p10 ws =
    exitK K 1 ⟨slots 58 [(2, .pb 0 0), (4, .pb 1 0)], [.box [.v (.int .i64) p3, .nl, .v (.int .i64) p4, .v (.int .i64) p5, .v (.int .i64) p6], .box [.v (.int .i64) off, .own 2, .v (.int .i64) p8, .v (.int .i64) p9, .v (.int .i64) p10], .row 81 (.int .u64) (setsD off (xs.drop i.toNat) ws)]⟩ := by
  have hm := lenMax hl
  intro n
  induction n with
  | zero => intro i ws h0 h1 h2; omega
  | succ n ih =>
    intro i ws h0 h1 h2 h3
    rw [F50.l1_1_1_0_1_0_eq]
    by_cases hi : i < xs.length
    · have hd := drop_get (d := (0 : Int)) h0 hi
      rw [hd]
      have hx : xs.getD i.toNat 0 ∈ xs := by
        rw [List.getD_eq_getElem?_getD, List.getElem?_eq_getElem (by omega)]
        exact List.getElem_mem _
      simp only [hi, h0, decide_true, Bool.and_true, cond_true]
      generalize xs.getD i.toNat 0 = v at hx
      have hv' := inD_iff.mp (hv v hx)
      obtain ⟨b1, b2⟩ := h3 v hx
      have e1 : IntKind.i64.wrap (v - off) = v - off := wrap_ok (by omega) (by omega)
      have e2 : (v - off).tdiv 64 = (v - off) / 64 := Int.tdiv_eq_ediv_of_nonneg (by omega)
      have e3 : IntKind.i64.wrap ((v - off) / 64) = (v - off) / 64 := wrap_ok (by omega) (by omega)
      have e4 : (v - off).tmod 64 = (v - off) % 64 := Int.tmod_eq_emod_of_nonneg (by omega)
      rw [e1, e2, e3, e4, wrap_ok (x := i + 1) (by omega) (by omega)]
      have c1 : 0 ≤ (v - off) / 64 := by omega
      have c2 : 0 ≤ (v - off) % 64 := by omega
      simp only [c1, c2, b2, decide_true, Bool.and_true, cond_true]
      exact ih (i + 1) (setD off ws v) (by omega) (by omega) (by omega) (fun y hy => by rw [setD_length]; exact h3 y hy)
    · rw [List.drop_of_length_le (by omega)]
      simp only [hi, decide_false, cond_false]
      rfl
theorem no_out {xs : List Int} (h : xs.any outD = false) : ∀ v ∈ xs, inD v = true := by
  intro v hv
  rw [List.any_eq_false] at h
  have := h v hv
  unfold outD at this
  simpa using this
/-- dom.Of. -/
theorem F50.sem (xs : List Int) (hl : xs.length ≤ maxLen) : ∃ r, callW F50.E false F50.fn (xs.length + 1) [.v (.sl (.int .i64)) xs] = some r ∧ WA r (.tup [.agg (explode DomT (ofD xs).1), .v (.int .i64) (ofD xs).2]) := by
  rw [F50.start_eq]
  have bad : ∀ e : Int, WA (.tup [.agg [.v (.int .i64) (0 : Int), .nl, .v (.int .i64) (0 : Int), .v (.int .i64) (0 : Int), .v (.int .i64) (0 : Int)], .v (.int .i64) e])
      (.tup [.agg (explode DomT ((0 : Int), ([] : List Int), (0 : Int), (0 : Int), (0 : Int))), .v (.int .i64) e]) := fun e =>
    .tup (.cons (.agg (.cons (.same _) (.cons (.nl _) (.cons (.same _) (.cons (.same _) (.cons (.same _) .nil)))))) (.cons (.one (by simp) (.same _)) .nil))
  by_cases h0 : (xs.length : Int) = 0
  · have h0' : xs.length = 0 := by omega
    simp only [h0, decide_true, cond_true]
    refine ⟨_, rfl, ?_⟩
    unfold ofD
    rw [if_pos h0']
    exact bad 4
  · have h0' : ¬ xs.length = 0 := by omega
    have hne : xs ≠ [] := fun e => h0' (by simp [e])
    have hemp : (!xs.isEmpty) = true := by cases xs <;> simp_all
    simp only [h0, decide_false, cond_false]
    cases h1 : xs.any outD with
    | true =>
      simp only [cond_true]
      refine ⟨_, rfl, ?_⟩
      unfold ofD
      rw [if_neg h0', if_pos h1]
      exact bad 3
    | false =>
      have hin := no_out h1
      have i1 := inD_iff.mp (hin _ (maxL_spec hne).2)
      have i2 := inD_iff.mp (hin _ (minL_spec hne).2)
      rw [wrap_ok (x := maxL xs - minL xs) (by omega) (by omega)]
      simp only [cond_false, hemp, cond_true]
      by_cases h2 : maxL xs - minL xs ≥ 65536
      · simp only [h2, decide_true, cond_true]
        refine ⟨_, rfl, ?_⟩
        unfold ofD
        rw [if_neg h0', if_neg (by rw [h1]; simp), if_pos h2]
        exact bad 5
      · have hok : okL xs = true := okL_iff.mpr ⟨hne, hin, by omega⟩
        have ho := okL_ok hok
        have hr : roomB (minL xs) (maxL xs) = true := by
          unfold roomB
          have := ho.le
          rw [ho.pl, ho.ph]
          simp only [Bool.and_eq_true, decide_eq_true_eq]
          omega
        simp only [h2, decide_false, cond_false, hr, cond_true]
        have hoff : -1000064 ≤ placeD (minL xs) ∧ placeD (minL xs) ≤ 1000000 := by rw [ho.pl]; omega
        have hw : (wordsL xs).all uB = true := by
          rw [List.all_eq_true]
          exact fun w hw => U_uB ((words_spec hok).2.1 w hw)
        rw [F50.loop _ xs hl _ hin hoff _ _ _ _ _ _ _ _ 0 _ (by omega) (by omega) (by omega) ho.fit, F50.c0]
        have e : setsD (placeD (minL xs)) (xs.drop (Int.toNat 0)) (zerosD (minL xs) (maxL xs)) = wordsL xs := rfl
        rw [e, hw]
        refine ⟨_, rfl, ?_⟩
        rw [ofD_ok hok]
        exact WA.refl _
end Go.Proofs.YtnojoaghcbljfaaGreatDoor.Ev
