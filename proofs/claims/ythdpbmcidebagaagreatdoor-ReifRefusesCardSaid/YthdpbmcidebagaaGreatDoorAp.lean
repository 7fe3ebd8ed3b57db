/-
Seat 'a': words and domains as plain data: their bits, their lists, how they are made of numbers.
Conditions: none.
-/
import Derived.Test.YthdpbmcidebagaaGreatDoorEvR
import Derived.Lib.TrailingZeros
import Derived.Laws.Bits64b
set_option linter.unusedVariables false
set_option linter.unusedSimpArgs false
namespace Go.Proofs.YthdpbmcidebagaaGreatDoor.Ev
open Go
abbrev Dom := Int × List Int × Int × Int × Int
abbrev DomT : Ty := .pair (.int .i64) (.pair (.sl (.int .u64)) (.pair (.int .i64) (.pair (.int .i64) (.int .i64))))
/-- A number of 64 bits. -/
def U (w : Int) : Prop := 0 ≤ w ∧ w < 18446744073709551616
def uB (w : Int) : Bool := decide (0 ≤ w) && decide (w < 18446744073709551616)
/-- A bit of a word. -/
def tb (w : Int) (i : Nat) : Bool := w.toNat.testBit i
def tzD (w : Int) : Int := (Lib.ctz 64 w.toNat : Nat)

theorem clear_low (n : Nat) (h0 : 0 < n) (h : n < 2 ^ 64) (j : Nat) :
    (n &&& (n - 1)).testBit j = (n.testBit j && !decide (j = Lib.ctz 64 n)) ∧ (n.testBit j = true → Lib.ctz 64 n ≤ j) ∧ n.testBit (Lib.ctz 64 n) = true ∧ Lib.ctz 64 n < 64 := by
  obtain ⟨m, hm, hk⟩ := Lib.ctzFrom_spec 64 n h0 h
  have e : Lib.ctz 64 n = Lib.ctzFrom 64 n := by unfold Lib.ctz; rw [if_neg (by omega)]
  rw [e]
  generalize Lib.ctzFrom 64 n = t at hm hk
  have hp : 0 < 2 ^ t := Nat.two_pow_pos t
  have e1 : n = 2 ^ t * (2 * m + 1) + 0 := by omega
  have e2 : n - 1 = 2 ^ t * (2 * m) + (2 ^ t - 1) := by
    rw [hm, Nat.mul_add]
    omega
  have b1 : ∀ j, n.testBit j = if j < t then false else (2 * m + 1).testBit (j - t) := by
    intro j
    rw [e1, Nat.testBit_two_pow_mul_add _ (by omega)]
    simp
  have b2 : ∀ j, (n - 1).testBit j = if j < t then true else (2 * m).testBit (j - t) := by
    intro j
    rw [e2, Nat.testBit_two_pow_mul_add _ (by omega), Nat.testBit_two_pow_sub_one]
    by_cases hj : j < t <;> simp [hj]
  refine ⟨?_, ?_, ?_, hk⟩
  · rw [Nat.testBit_and, b1, b2]
    by_cases hj : j < t
    · simp [hj]
    · simp only [hj, if_false]
      by_cases he : j = t
      · subst he
        simp
      · have : j - t = (j - t - 1) + 1 := by omega
        rw [this, Nat.testBit_succ, Nat.testBit_succ]
        have d1 : (2 * m + 1) / 2 = m := by omega
        have d2 : (2 * m) / 2 = m := by omega
        simp [d1, d2, he]
  · intro hb
    rw [b1] at hb
    by_cases hj : j < t
    · simp [hj] at hb
    · omega
  · rw [b1]
    simp

theorem and_u64 {a b : Int} (ha : U a) (hb : U b) : bitsW .and .u64 a b = ((a.toNat &&& b.toNat : Nat) : Int) := by
  have := bits_and_u64_nat a.toNat b.toNat (by unfold U at ha; omega) (by unfold U at hb; omega)
  unfold U at ha hb
  rw [Int.toNat_of_nonneg ha.1, Int.toNat_of_nonneg hb.1] at this
  exact this
theorem or_u64 {a b : Int} (ha : U a) (hb : U b) : bitsW .or .u64 a b = ((a.toNat ||| b.toNat : Nat) : Int) := by
  have := bits_or_u64_nat a.toNat b.toNat (by unfold U at ha; omega) (by unfold U at hb; omega)
  unfold U at ha hb
  rw [Int.toNat_of_nonneg ha.1, Int.toNat_of_nonneg hb.1] at this
  exact this
theorem wrap_u {x : Int} (h : U x) : IntKind.u64.wrap x = x := by unfold U at h; rw [IntKind.wrap_u64]; omega

/-- A word without its lowest bit. -/
def lessD (w : Int) : Int := bitsW .and .u64 w (IntKind.u64.wrap (w - 1))
theorem lessD_spec {w : Int} (h : U w) (h0 : w ≠ 0) : U (lessD w) ∧ ∃ t : Nat, tzD w = (t : Int) ∧ t < 64 ∧ tb w t = true ∧ (∀ j, tb w j = true → t ≤ j) ∧ ∀ j, tb (lessD w) j = (tb w j && !decide (j = t)) := by
  have hw := h
  unfold U at h
  have h1 : U (w - 1) := ⟨by omega, by omega⟩
  have e : lessD w = ((w.toNat &&& (w.toNat - 1) : Nat) : Int) := by
    unfold lessD
    rw [wrap_u h1, and_u64 hw h1]
    congr 2
    omega
  have hp : w.toNat < 2 ^ 64 := by show _ < 18446744073709551616; omega
  have hq : 0 < w.toNat := by omega
  refine ⟨?_, Lib.ctz 64 w.toNat, rfl, (clear_low _ hq hp 0).2.2.2, (clear_low _ hq hp 0).2.2.1, fun j => (clear_low _ hq hp j).2.1, fun j => ?_⟩
  · rw [e]
    have : w.toNat &&& (w.toNat - 1) ≤ w.toNat := Nat.and_le_left
    exact ⟨by omega, by omega⟩
  · unfold tb
    rw [e, Int.toNat_natCast]
    exact (clear_low _ hq hp j).1

/-- The numbers of a word, from a base on. -/
def bitsFrom : Nat → Int → Int → List Int
  | 0, _, _ => []
  | f + 1, b, w => if w = 0 then [] else (b + tzD w) :: bitsFrom f b (lessD w)
/-- Rising. -/
abbrev Rising (l : List Int) : Prop := l.Pairwise (· < ·)
theorem tb_zero (i : Nat) : tb 0 i = false := by unfold tb; simp
theorem zero_of_tb {w : Int} (h : U w) (hz : ∀ j, j < 64 → tb w j = false) : w = 0 := by
  unfold U at h
  have : w.toNat = 0 := by
    apply Nat.eq_of_testBit_eq
    intro i
    rw [Nat.zero_testBit]
    by_cases hi : i < 64
    · exact hz i hi
    · exact Nat.testBit_lt_two_pow (Nat.lt_of_lt_of_le (show w.toNat < 2 ^ 64 by show _ < 18446744073709551616; omega) (Nat.pow_le_pow_right (by decide) (by omega)))
  omega
theorem bitsFrom_length : ∀ (f : Nat) (b w : Int), (bitsFrom f b w).length ≤ f
  | 0, _, _ => by simp [bitsFrom]
  | f + 1, b, w => by
    unfold bitsFrom
    by_cases h0 : w = 0
    · simp [h0]
    · simp only [h0, if_false, List.length_cons]
      have := bitsFrom_length f b (lessD w)
      omega

/-! ### a domain -/
def listFrom (off : Int) : Int → List Int → List Int
  | _, [] => []
  | i, w :: ws => bitsFrom 64 (off + 64 * i) w ++ listFrom off (i + 1) ws
def listD (d : Dom) : List Int := listFrom d.1 0 d.2.1
/-- Is a number in the words from an offset on? -/
def memW (off : Int) (ws : List Int) (v : Int) : Bool := decide (off ≤ v) && tb (ws.getD ((v - off) / 64).toNat 0) ((v - off) % 64).toNat
/-! ### a number more -/
def setD (off : Int) (ws : List Int) (v : Int) : List Int := ws.set ((v - off) / 64).toNat (bitsW .or .u64 (ws.getD ((v - off) / 64).toNat 0) (shlW .u64 1 ((v - off) % 64)))
theorem shl_one {s : Nat} (h : s < 64) : shlW .u64 1 (s : Int) = ((2 ^ s : Nat) : Int) ∧ U ((2 ^ s : Nat) : Int) := by
  have hb : (2 : Nat) ^ s < 2 ^ 64 := Nat.pow_lt_pow_right (by decide) h
  have hu : U ((2 ^ s : Nat) : Int) := by
    have e : (2 : Nat) ^ 64 = 18446744073709551616 := by decide
    rw [e] at hb
    generalize 2 ^ s = p at hb
    exact ⟨by omega, by omega⟩
  refine ⟨?_, hu⟩
  unfold shlW
  have : min (s : Int).toNat IntKind.u64.bits = s := by
    show min (s : Int).toNat 64 = s
    omega
  rw [this, Int.one_mul]
  have e : ((2 : Int) ^ s) = ((2 ^ s : Nat) : Int) := by rw [Int.natCast_pow]; rfl
  rw [e]
  exact wrap_u hu
theorem orbit {w : Int} (hw : U w) {s : Nat} (hs : s < 64) : U (bitsW .or .u64 w (shlW .u64 1 (s : Int))) ∧ ∀ j, tb (bitsW .or .u64 w (shlW .u64 1 (s : Int))) j = (tb w j || decide (j = s)) := by
  obtain ⟨e, hu⟩ := shl_one hs
  rw [e, or_u64 hw hu]
  constructor
  · have : w.toNat ||| (((2 ^ s : Nat) : Int)).toNat < 2 ^ 64 := Nat.or_lt_two_pow (by unfold U at hw; show _ < 18446744073709551616; omega) (by unfold U at hu; show _ < 18446744073709551616; omega)
    have e64 : (2 : Nat) ^ 64 = 18446744073709551616 := by decide
    rw [e64] at this
    exact ⟨by omega, by omega⟩
  · intro j
    unfold tb
    rw [Int.toNat_natCast, Int.toNat_natCast, Nat.testBit_or, Nat.testBit_two_pow]
    congr 1
    by_cases h : j = s
    · subst h; simp
    · have h' : ¬ s = j := fun e => h e.symm
      simp [h, h']
theorem setD_length (off : Int) (ws : List Int) (v : Int) : (setD off ws v).length = ws.length := by simp [setD]
theorem getD_U {ws : List Int} (h : ∀ w ∈ ws, U w) (i : Nat) : U (ws.getD i 0) := by
  rw [List.getD_eq_getElem?_getD]
  cases hi : ws[i]? with
  | none => exact ⟨by decide, by decide⟩
  | some w => exact h w (List.mem_of_getElem? hi)
theorem setD_U {off : Int} {ws : List Int} {v : Int} (h : ∀ w ∈ ws, U w) (h1 : off ≤ v) : ∀ w ∈ setD off ws v, U w := by
  intro w hw
  unfold setD at hw
  rcases List.mem_or_eq_of_mem_set hw with hm | rfl
  · exact h w hm
  · have e : (v - off) % 64 = (((v - off) % 64).toNat : Int) := by omega
    rw [e]
    exact (orbit (getD_U h _) (by omega)).1
theorem setD_mem {off : Int} {ws : List Int} {v : Int} (h : ∀ w ∈ ws, U w) (h1 : off ≤ v) (h2 : (v - off) / 64 < ws.length) (x : Int) : memW off (setD off ws v) x = (memW off ws x || decide (x = v)) := by
  unfold memW setD
  by_cases hx : off ≤ x
  · simp only [hx, decide_true, Bool.true_and]
    rw [List.getD_eq_getElem?_getD, List.getD_eq_getElem?_getD, List.getElem?_set]
    have e : (v - off) % 64 = (((v - off) % 64).toNat : Int) := by omega
    by_cases hi : ((v - off) / 64).toNat = ((x - off) / 64).toNat
    · have hlt : ((v - off) / 64).toNat < ws.length := by omega
      rw [hi] at hlt
      simp only [hi, if_true, hlt, Option.getD_some]
      have ho := (orbit (getD_U h ((x - off) / 64).toNat) (s := ((v - off) % 64).toNat) (by omega)).2 ((x - off) % 64).toNat
      rw [List.getD_eq_getElem?_getD] at ho
      rw [e, ho, List.getD_eq_getElem?_getD]
      congr 1
      by_cases hv : x = v
      · subst hv; simp
      · have : ¬ ((x - off) % 64).toNat = ((v - off) % 64).toNat := by omega
        simp [this, hv]
    · have hv : ¬ x = v := by intro e; subst e; exact hi rfl
      simp [hi, hv]
  · have hv : ¬ x = v := by omega
    simp [hx, hv]
def setsD (off : Int) (xs : List Int) (ws : List Int) : List Int := xs.foldl (setD off) ws
theorem setsD_spec {off : Int} : ∀ (xs : List Int) (ws : List Int), (∀ w ∈ ws, U w) → (∀ v ∈ xs, off ≤ v ∧ (v - off) / 64 < ws.length) →
    (setsD off xs ws).length = ws.length ∧ (∀ w ∈ setsD off xs ws, U w) ∧ ∀ x, memW off (setsD off xs ws) x = (memW off ws x || decide (x ∈ xs))
  | [], ws, h, hv => by simp [setsD]; exact h
  | v :: xs, ws, h, hv => by
    have hv1 := hv v (by simp)
    have ih := setsD_spec xs (setD off ws v) (setD_U h hv1.1) (fun y hy => by rw [setD_length]; exact hv y (by simp [hy]))
    refine ⟨by rw [← setD_length off ws v]; exact ih.1, ih.2.1, fun x => ?_⟩
    refine (ih.2.2 x).trans ?_
    rw [setD_mem h hv1.1 hv1.2, Bool.or_assoc]
    congr 1
    simp [List.mem_cons, Bool.decide_or]

/-! ### domains of numbers -/
def inD (v : Int) : Bool := decide (-1000000 ≤ v) && decide (v ≤ 1000000)
def nearB (v : Int) : Bool := decide (-1099511627776 ≤ v) && decide (v ≤ 1099511627776)
def outD (v : Int) : Bool := !inD v
def placeD (v : Int) : Int := bitsW .andNot .i64 v 63
def wordD (d : Dom) (a : Int) : Int := if a < d.1 then 0 else d.2.1.getD ((a - d.1) / 64).toNat 0
def wordB (d : Dom) (a : Int) : Bool := nearB d.1 && nearB a
def hasD (d : Dom) (v : Int) : Bool := inD v && decide (bitsW .and .u64 (shrW .u64 (wordD d (placeD v)) (v - placeD v)) 1 = 1)
def roomB (lo hi : Int) : Bool := decide (placeD lo ≤ placeD hi) && decide (placeD hi - placeD lo ≤ 1000000)
def zerosD (lo hi : Int) : List Int := List.replicate ((placeD hi - placeD lo) / 64 + 1).toNat 0
theorem and_not63 (x : BitVec 64) : (x &&& ~~~(63#64)).toNat = x.toNat / 64 * 64 := by
  apply Nat.eq_of_testBit_eq
  intro i
  have h63 : (63#64).getLsbD i = decide (i < 6) := by
    rw [← BitVec.testBit_toNat]
    show Nat.testBit 63 i = _
    exact Nat.testBit_two_pow_sub_one 6 i
  have e : x.toNat / 64 * 64 = 2 ^ 6 * (x.toNat / 2 ^ 6) := by omega
  rw [e, Nat.testBit_two_pow_mul, Nat.testBit_div_two_pow, BitVec.testBit_toNat, BitVec.getLsbD_and, BitVec.getLsbD_not, h63, ← BitVec.testBit_toNat]
  by_cases h6 : i < 6
  · have : ¬ 6 ≤ i := by omega
    simp [h6, this]
  · have h6' : 6 ≤ i := by omega
    rw [show i - 6 + 6 = i by omega]
    by_cases h64 : i < 64
    · simp [h6, h6', h64]
    · have : x.toNat.testBit i = false := Nat.testBit_lt_two_pow (Nat.lt_of_lt_of_le x.isLt (Nat.pow_le_pow_right (by decide) (by omega)))
      simp [h6, this]
/-- The place of a number: the multiple of 64 that isn't above it. -/
theorem place_eq {v : Int} (h1 : -1000000 ≤ v) (h2 : v ≤ 1000000) : placeD v = v / 64 * 64 := by
  show IntKind.i64.wrap (((BitVec.ofInt 64 v &&& ~~~(63#64)).toNat : Nat) : Int) = _
  rw [and_not63, BitVec.toNat_ofInt, IntKind.wrap_i64]
  have hu : (((v % ((2 ^ 64 : Nat) : Int)).toNat : Nat) : Int) = v % 18446744073709551616 := by
    rw [Int.toNat_of_nonneg (Int.emod_nonneg _ (by decide))]
    rfl
  generalize (v % ((2 ^ 64 : Nat) : Int)).toNat = u at hu
  omega
theorem inD_iff {v : Int} : inD v = true ↔ -1000000 ≤ v ∧ v ≤ 1000000 := by unfold inD; simp
/-- A domain as the program makes them. -/
structure Wf (d : Dom) : Prop where
  off : d.1 % 64 = 0
  lo : -1000064 ≤ d.1
  hi : d.1 ≤ 1000000
  ws : ∀ w ∈ d.2.1, U w
  len : d.2.1.length ≤ 40000
/-! ### the least and the greatest of a list -/
def maxF (m : Int) (xs : List Int) : Int := xs.foldl (fun m y => if y > m then y else m) m
def minF (m : Int) (xs : List Int) : Int := xs.foldl (fun m y => if y < m then y else m) m
def maxL (xs : List Int) : Int := maxF (xs.getD 0 0) (xs.drop 1)
def minL (xs : List Int) : Int := minF (xs.getD 0 0) (xs.drop 1)
theorem fold_max : ∀ (xs : List Int) (m : Int), m ≤ xs.foldl (fun m y => if y > m then y else m) m ∧ (∀ x ∈ xs, x ≤ xs.foldl (fun m y => if y > m then y else m) m) ∧
    (xs.foldl (fun m y => if y > m then y else m) m = m ∨ xs.foldl (fun m y => if y > m then y else m) m ∈ xs)
  | [], m => by simp
  | y :: xs, m => by
    obtain ⟨h1, h2, h3⟩ := fold_max xs (if y > m then y else m)
    simp only [List.foldl_cons]
    generalize xs.foldl (fun m y => if y > m then y else m) (if y > m then y else m) = r at h1 h2 h3
    refine ⟨by split at h1 <;> omega, ?_, ?_⟩
    · intro x hx
      rcases List.mem_cons.mp hx with rfl | hx
      · split at h1 <;> omega
      · exact h2 x hx
    · rcases h3 with h3 | h3
      · split at h3
        · right; rw [h3]; simp
        · left; exact h3
      · right; exact List.mem_cons_of_mem _ h3
theorem fold_min : ∀ (xs : List Int) (m : Int), xs.foldl (fun m y => if y < m then y else m) m ≤ m ∧ (∀ x ∈ xs, xs.foldl (fun m y => if y < m then y else m) m ≤ x) ∧
    (xs.foldl (fun m y => if y < m then y else m) m = m ∨ xs.foldl (fun m y => if y < m then y else m) m ∈ xs)
  | [], m => by simp
  | y :: xs, m => by
    obtain ⟨h1, h2, h3⟩ := fold_min xs (if y < m then y else m)
    simp only [List.foldl_cons]
    generalize xs.foldl (fun m y => if y < m then y else m) (if y < m then y else m) = r at h1 h2 h3
    refine ⟨by split at h1 <;> omega, ?_, ?_⟩
    · intro x hx
      rcases List.mem_cons.mp hx with rfl | hx
      · split at h1 <;> omega
      · exact h2 x hx
    · rcases h3 with h3 | h3
      · split at h3
        · right; rw [h3]; simp
        · left; exact h3
      · right; exact List.mem_cons_of_mem _ h3
theorem maxL_spec {xs : List Int} (h : xs ≠ []) : (∀ x ∈ xs, x ≤ maxL xs) ∧ maxL xs ∈ xs := by
  cases xs with
  | nil => exact absurd rfl h
  | cons y xs =>
    have e : maxL (y :: xs) = xs.foldl (fun m y => if y > m then y else m) y := rfl
    rw [e]
    obtain ⟨h1, h2, h3⟩ := fold_max xs y
    refine ⟨fun x hx => ?_, ?_⟩
    · rcases List.mem_cons.mp hx with rfl | hx
      · exact h1
      · exact h2 x hx
    · rcases h3 with h3 | h3
      · rw [h3]; simp
      · exact List.mem_cons_of_mem _ h3
theorem minL_spec {xs : List Int} (h : xs ≠ []) : (∀ x ∈ xs, minL xs ≤ x) ∧ minL xs ∈ xs := by
  cases xs with
  | nil => exact absurd rfl h
  | cons y xs =>
    have e : minL (y :: xs) = xs.foldl (fun m y => if y < m then y else m) y := rfl
    rw [e]
    obtain ⟨h1, h2, h3⟩ := fold_min xs y
    refine ⟨fun x hx => ?_, ?_⟩
    · rcases List.mem_cons.mp hx with rfl | hx
      · exact h1
      · exact h2 x hx
    · rcases h3 with h3 | h3
      · rw [h3]; simp
      · exact List.mem_cons_of_mem _ h3
/-- Numbers of which a domain can be. -/
def okL (xs : List Int) : Bool := !xs.isEmpty && xs.all inD && decide (maxL xs - minL xs < 65536)
theorem okL_iff {xs : List Int} : okL xs = true ↔ xs ≠ [] ∧ (∀ x ∈ xs, inD x = true) ∧ maxL xs - minL xs < 65536 := by
  unfold okL
  simp [and_assoc]
/-- The words of numbers. -/
def wordsL (xs : List Int) : List Int := setsD (placeD (minL xs)) xs (zerosD (minL xs) (maxL xs))
theorem zeros_mem (off : Int) (n : Nat) (v : Int) : memW off (List.replicate n 0) v = false := by
  unfold memW
  have : (List.replicate n (0 : Int)).getD ((v - off) / 64).toNat 0 = 0 := by
    rw [List.getD_eq_getElem?_getD, List.getElem?_replicate]
    split <;> rfl
  rw [this, tb_zero, Bool.and_false]
theorem zeros_U (n : Nat) : ∀ w ∈ List.replicate n (0 : Int), U w := by
  intro w hw
  rw [(List.mem_replicate.mp hw).2]
  exact ⟨by decide, by decide⟩
structure OkL (xs : List Int) : Prop where
  lo : -1000000 ≤ minL xs
  hi : maxL xs ≤ 1000000
  le : minL xs ≤ maxL xs
  wide : maxL xs - minL xs < 65536
  pl : placeD (minL xs) = minL xs / 64 * 64
  ph : placeD (maxL xs) = maxL xs / 64 * 64
  len : (zerosD (minL xs) (maxL xs)).length = (maxL xs / 64 - minL xs / 64 + 1).toNat
  fit : ∀ v ∈ xs, placeD (minL xs) ≤ v ∧ (v - placeD (minL xs)) / 64 < (zerosD (minL xs) (maxL xs)).length
theorem okL_ok {xs : List Int} (h : okL xs = true) : OkL xs := by
  obtain ⟨h0, h1, h2⟩ := okL_iff.mp h
  obtain ⟨a1, a2⟩ := maxL_spec h0
  obtain ⟨b1, b2⟩ := minL_spec h0
  have i1 := inD_iff.mp (h1 _ a2)
  have i2 := inD_iff.mp (h1 _ b2)
  have hle := a1 _ b2
  have pl := place_eq i2.1 i2.2
  have ph := place_eq i1.1 i1.2
  have hl : (zerosD (minL xs) (maxL xs)).length = (maxL xs / 64 - minL xs / 64 + 1).toNat := by
    unfold zerosD
    rw [List.length_replicate, pl, ph]
    congr 1
    omega
  refine ⟨i2.1, i1.2, hle, h2, pl, ph, hl, fun v hv => ?_⟩
  have := a1 v hv
  have := b1 v hv
  rw [hl, pl]
  omega
theorem words_spec {xs : List Int} (h : okL xs = true) : (wordsL xs).length = (zerosD (minL xs) (maxL xs)).length ∧ (∀ w ∈ wordsL xs, U w) ∧ ∀ v, memW (placeD (minL xs)) (wordsL xs) v = decide (v ∈ xs) := by
  have ho := okL_ok h
  obtain ⟨h1, h2, h3⟩ := setsD_spec (off := placeD (minL xs)) xs (zerosD (minL xs) (maxL xs)) (zeros_U _) ho.fit
  refine ⟨h1, h2, fun v => ?_⟩
  have := h3 v
  rw [show memW (placeD (minL xs)) (zerosD (minL xs) (maxL xs)) v = false from zeros_mem _ _ _, Bool.false_or] at this
  exact this

/-! ### the numbers of a word: how many, the greatest -/
def len8tab : ByteArray := ⟨#[0, 1, 2, 2, 3, 3, 3, 3, 4, 4, 4, 4, 4, 4, 4, 4, 5, 5, 5, 5, 5, 5, 5, 5, 5, 5, 5, 5, 5, 5, 5, 5, 6, 6, 6, 6, 6, 6, 6, 6, 6, 6, 6, 6, 6, 6, 6, 6, 6, 6, 6, 6, 6, 6, 6, 6, 6, 6, 6, 6, 6, 6, 6, 6, 7, 7, 7, 7, 7, 7, 7, 7, 7, 7, 7, 7, 7, 7, 7, 7, 7, 7, 7, 7, 7, 7, 7, 7, 7, 7, 7, 7, 7, 7, 7, 7, 7, 7, 7, 7, 7, 7, 7, 7, 7, 7, 7, 7, 7, 7, 7, 7, 7, 7, 7, 7, 7, 7, 7, 7, 7, 7, 7, 7, 7, 7, 7, 7, 8, 8, 8, 8, 8, 8, 8, 8, 8, 8, 8, 8, 8, 8, 8, 8, 8, 8, 8, 8, 8, 8, 8, 8, 8, 8, 8, 8, 8, 8, 8, 8, 8, 8, 8, 8, 8, 8, 8, 8, 8, 8, 8, 8, 8, 8, 8, 8, 8, 8, 8, 8, 8, 8, 8, 8, 8, 8, 8, 8, 8, 8, 8, 8, 8, 8, 8, 8, 8, 8, 8, 8, 8, 8, 8, 8, 8, 8, 8, 8, 8, 8, 8, 8, 8, 8, 8, 8, 8, 8, 8, 8, 8, 8, 8, 8, 8, 8, 8, 8, 8, 8, 8, 8, 8, 8, 8, 8, 8, 8, 8, 8, 8, 8, 8, 8, 8, 8, 8, 8, 8, 8, 8, 8, 8, 8, 8, 8]⟩
def lenA (w : Int) : Int := if w ≥ 4294967296 then shrW .u64 w 32 else w
def lenA' (w : Int) : Int := if w ≥ 4294967296 then 32 else 0
def lenB1 (w : Int) : Int := if w ≥ 65536 then shrW .u64 w 16 else w
def lenB' (w n : Int) : Int := if w ≥ 65536 then IntKind.i64.wrap (n + 16) else n
def lenC (w : Int) : Int := if w ≥ 256 then shrW .u64 w 8 else w
def lenC' (w n : Int) : Int := if w ≥ 256 then IntKind.i64.wrap (n + 8) else n
def lenZ (w n : Int) : Int := IntKind.i64.wrap (n + IntKind.i64.wrap (byteW len8tab (IntKind.u8.wrap w).toNat))
def len64D (w : Int) : Int := lenZ (lenC (lenB1 (lenA w))) (lenC' (lenB1 (lenA w)) (lenB' (lenA w) (lenA' w)))
def lzD (w : Int) : Int := IntKind.i64.wrap (64 - len64D w)
def ones1 (x : Int) : Int := IntKind.u64.wrap (bitsW .and .u64 (shrW .u64 x 1) 6148914691236517205 + bitsW .and .u64 x 6148914691236517205)
def ones2 (x : Int) : Int := IntKind.u64.wrap (bitsW .and .u64 (shrW .u64 x 2) 3689348814741910323 + bitsW .and .u64 x 3689348814741910323)
def ones3 (x : Int) : Int := bitsW .and .u64 (IntKind.u64.wrap (shrW .u64 x 4 + x)) 1085102592571150095
def ones4 (x : Int) : Int := IntKind.u64.wrap (x + shrW .u64 x 8)
def ones5 (x : Int) : Int := IntKind.u64.wrap (x + shrW .u64 x 16)
def ones6 (x : Int) : Int := IntKind.u64.wrap (x + shrW .u64 x 32)
def onesD (x : Int) : Int := bitsW .and .i64 (IntKind.i64.wrap (ones6 (ones5 (ones4 (ones3 (ones2 (ones1 x))))))) 127
/-- What 'made' finds: the least, the greatest, how many. -/
def madeGo (off : Int) : Int → Int → Int → Int → List Int → Int × Int × Int
  | _, mn, mx, sz, [] => (mn, mx, sz)
  | i, mn, mx, sz, w :: ws => if w = 0 then madeGo off (i + 1) mn mx sz ws else
    madeGo off (i + 1) (if sz = 0 then IntKind.i64.wrap (IntKind.i64.wrap (off + IntKind.i64.wrap (64 * i)) + tzD w) else mn)
      (IntKind.i64.wrap (IntKind.i64.wrap (IntKind.i64.wrap (IntKind.i64.wrap (off + IntKind.i64.wrap (64 * i)) + 64) - 1) - lzD w)) (IntKind.i64.wrap (sz + onesD w)) ws
def madeD (off : Int) (ws : List Int) : Dom := (off, ws, madeGo off 0 0 0 0 ws)
def sizeD (d : Dom) : Int := d.2.2.2.2
def listB (d : Dom) : Bool := nearB d.1 && d.2.1.all uB && Nat.ble d.2.1.length 1000000
def ofD (xs : List Int) : Dom × Int := if xs.length = 0 then ((0, [], 0, 0, 0), 4) else if xs.any outD then ((0, [], 0, 0, 0), 3) else if maxL xs - minL xs ≥ 65536 then ((0, [], 0, 0, 0), 5) else
  (madeD (placeD (minL xs)) (wordsL xs), 0)
theorem ofD_ok {xs : List Int} (h : okL xs = true) : ofD xs = (madeD (placeD (minL xs)) (wordsL xs), 0) := by
  obtain ⟨h0, h1, h2⟩ := okL_iff.mp h
  unfold ofD
  have e1 : ¬ xs.length = 0 := by simpa using h0
  have e2 : xs.any outD = false := by
    rw [List.any_eq_false]
    intro x hx
    unfold outD
    rw [h1 x hx]
    simp
  have e3 : ¬ maxL xs - minL xs ≥ 65536 := by omega
  simp [e1, e2, e3]
theorem wf_ofD {xs : List Int} (h : okL xs = true) : Wf (ofD xs).1 := by
  rw [ofD_ok h]
  have ho := okL_ok h
  obtain ⟨h1, h2, h3⟩ := words_spec h
  have h5 := ho.lo
  have h6 := ho.hi
  have h7 := ho.le
  refine ⟨?_, ?_, ?_, h2, ?_⟩
  · show placeD (minL xs) % 64 = 0
    rw [ho.pl]; omega
  · show _ ≤ placeD (minL xs)
    rw [ho.pl]; omega
  · show placeD (minL xs) ≤ _
    rw [ho.pl]; omega
  · show (wordsL xs).length ≤ 40000
    rw [h1, ho.len]
    omega
theorem listB_wf {d : Dom} (h : Wf d) : listB d = true := by
  unfold listB nearB
  have h1 := h.lo
  have h2 := h.hi
  have h3 := h.len
  simp only [Bool.and_eq_true, decide_eq_true_eq, Nat.ble_eq, List.all_eq_true]
  refine ⟨⟨⟨by omega, by omega⟩, fun w hw => ?_⟩, by omega⟩
  have := h.ws w hw
  unfold U at this
  unfold uB
  simp [this.1, this.2]
end Go.Proofs.YthdpbmcidebagaaGreatDoor.Ev
