/-
Seat 'a': words and domains as plain data: their bits, their lists, how they are made of numbers.
Conditions: none.
Seat 'a': what the functions answer, as plain data: constraints, and whether they may be.
Conditions: none.
Seat 'a': what the functions answer, as plain data: lists, solutions, the filters.
Conditions: none.
Seat 'a': a word that isn't 0 has bits: what OnesCount64 answers; a domain that isn't empty has a size.
Conditions: none.
Constraints of all kinds: whether they may be, whether they hold of values: plain data.
Conditions: none.
-/
import Derived.Test.YtlfdikofmfhefaaGreatDoorEvR
import Derived.Lib.TrailingZeros
import Derived.Laws.Bits64b
import Derived.Lib.Bytealg
import Derived.Lib.SlicesCompact
set_option linter.unusedVariables false
set_option linter.unusedSimpArgs false
namespace Go.Proofs.YtlfdikofmfhefaaGreatDoor.Ev
open Go
abbrev Dom := Int × List Int × Int × Int × Int
abbrev DomT : Ty := .pair (.int .i64) (.pair (.sl (.int .u64)) (.pair (.int .i64) (.pair (.int .i64) (.int .i64))))
def U (w : Int) : Prop := 0 ≤ w ∧ w < 18446744073709551616
def uB (w : Int) : Bool := decide (0 ≤ w) && decide (w < 18446744073709551616)
def tb (w : Int) (i : Nat) : Bool := w.toNat.testBit i
def tzD (w : Int) : Int := (Lib.ctz 64 w.toNat : Nat)
theorem clear_low (n : Nat) (h0 : 0 < n) (h : n < 2 ^ 64) (j : Nat) :
  (n &&& (n - 1)).testBit j = (n.testBit j && !decide (j = Lib.ctz 64 n)) ∧ (n.testBit j = true → Lib.ctz 64 n ≤ j) ∧ n.testBit (Lib.ctz 64 n) = true ∧ Lib.ctz 64 n < 64 := by
 obtain ⟨m, hm, hk⟩ := Lib.ctzFrom_spec 64 n h0 h
 have e : Lib.ctz 64 n = Lib.ctzFrom 64 n := by unfold Lib.ctz; rw [if_neg (by omega)]
 rw [e]
 generalize Lib.ctzFrom 64 n = t at hm hk
 have hp : 0 < 2 ^ t := Nat.two_pow_pos t
 have e1 : n = 2 ^ t * (2 * m + 1) + 0 := by omega
 have e2 : n - 1 = 2 ^ t * (2 * m) + (2 ^ t - 1) := by
  rw [hm, Nat.mul_add]
  omega
 have b1 : ∀ j, n.testBit j = if j < t then false else (2 * m + 1).testBit (j - t) := by
  intro j
  rw [e1, Nat.testBit_two_pow_mul_add _ (by omega)]
  simp
 have b2 : ∀ j, (n - 1).testBit j = if j < t then true else (2 * m).testBit (j - t) := by
  intro j
  rw [e2, Nat.testBit_two_pow_mul_add _ (by omega), Nat.testBit_two_pow_sub_one]
  by_cases hj : j < t <;> simp [hj]
 refine ⟨?_, ?_, ?_, hk⟩
 ·rw [Nat.testBit_and, b1, b2]
  by_cases hj : j < t
  ·simp [hj]
  ·simp only [hj, if_false]
   by_cases he : j = t
   ·subst he
    simp
   ·have : j - t = (j - t - 1) + 1 := by omega
    rw [this, Nat.testBit_succ, Nat.testBit_succ]
    have d1 : (2 * m + 1) / 2 = m := by omega
    have d2 : (2 * m) / 2 = m := by omega
    simp [d1, d2, he]
 ·intro hb
  rw [b1] at hb
  by_cases hj : j < t
  ·simp [hj] at hb
  ·omega
 ·rw [b1]
  simp
theorem and_u64 {a b : Int} (ha : U a) (hb : U b) : bitsW .and .u64 a b = ((a.toNat &&& b.toNat : Nat) : Int) := by
 have := bits_and_u64_nat a.toNat b.toNat (by unfold U at ha; omega) (by unfold U at hb; omega)
 unfold U at ha hb
 rw [Int.toNat_of_nonneg ha.1, Int.toNat_of_nonneg hb.1] at this
 exact this
theorem or_u64 {a b : Int} (ha : U a) (hb : U b) : bitsW .or .u64 a b = ((a.toNat ||| b.toNat : Nat) : Int) := by
 have := bits_or_u64_nat a.toNat b.toNat (by unfold U at ha; omega) (by unfold U at hb; omega)
 unfold U at ha hb
 rw [Int.toNat_of_nonneg ha.1, Int.toNat_of_nonneg hb.1] at this
 exact this
theorem wrap_u {x : Int} (h : U x) : IntKind.u64.wrap x = x := by unfold U at h; rw [IntKind.wrap_u64]; omega
def lessD (w : Int) : Int := bitsW .and .u64 w (IntKind.u64.wrap (w - 1))
theorem lessD_spec {w : Int} (h : U w) (h0 : w ≠ 0) : U (lessD w) ∧ ∃ t : Nat, tzD w = (t : Int) ∧ t < 64 ∧ tb w t = true ∧ (∀ j, tb w j = true → t ≤ j) ∧ ∀ j, tb (lessD w) j = (tb w j && !decide (j = t)) := by
 have hw := h
 unfold U at h
 have h1 : U (w - 1) := ⟨by omega, by omega⟩
 have e : lessD w = ((w.toNat &&& (w.toNat - 1) : Nat) : Int) := by
  unfold lessD
  rw [wrap_u h1, and_u64 hw h1]
  congr 2
  omega
 have hp : w.toNat < 2 ^ 64 := by show _ < 18446744073709551616; omega
 have hq : 0 < w.toNat := by omega
 refine ⟨?_, Lib.ctz 64 w.toNat, rfl, (clear_low _ hq hp 0).2.2.2, (clear_low _ hq hp 0).2.2.1, fun j => (clear_low _ hq hp j).2.1, fun j => ?_⟩
 ·rw [e]
  have : w.toNat &&& (w.toNat - 1) ≤ w.toNat := Nat.and_le_left
  exact ⟨by omega, by omega⟩
 ·unfold tb
  rw [e, Int.toNat_natCast]
  exact (clear_low _ hq hp j).1
def bitsFrom : Nat → Int → Int → List Int
 | 0, _, _ => []
 | f + 1, b, w => if w = 0 then [] else (b + tzD w) :: bitsFrom f b (lessD w)
abbrev Rising (l : List Int) : Prop := l.Pairwise (· < ·)
theorem tb_zero (i : Nat) : tb 0 i = false := by unfold tb; simp
theorem zero_of_tb {w : Int} (h : U w) (hz : ∀ j, j < 64 → tb w j = false) : w = 0 := by
 unfold U at h
 have : w.toNat = 0 := by
  apply Nat.eq_of_testBit_eq
  intro i
  rw [Nat.zero_testBit]
  by_cases hi : i < 64
  ·exact hz i hi
  ·exact Nat.testBit_lt_two_pow (Nat.lt_of_lt_of_le (show w.toNat < 2 ^ 64 by show _ < 18446744073709551616; omega) (Nat.pow_le_pow_right (by decide) (by omega)))
 omega
theorem bitsFrom_spec : ∀ (f : Nat) (b w : Int), U w → f ≤ 64 → (∀ j, j < 64 - f → tb w j = false) → (∀ v, v ∈ bitsFrom f b w ↔ ∃ j : Nat, j < 64 ∧ tb w j = true ∧ v = b + j) ∧ Rising (bitsFrom f b w)
 | 0, b, w, h, hf, hz => by
  have : w = 0 := zero_of_tb h (fun j hj => hz j (by omega))
  subst this
  simp [bitsFrom, tb_zero]
 | f + 1, b, w, h, hf, hz => by
  unfold bitsFrom
  by_cases h0 : w = 0
  ·subst h0
   simp [tb_zero]
  ·simp only [h0, if_false]
   obtain ⟨hl, t, ht, ht64, hbt, hlow, hcl⟩ := lessD_spec h h0
   have htf : 64 - (f + 1) ≤ t := by
    rcases Nat.lt_or_ge t (64 - (f + 1)) with hlt | hge
    ·rw [hz t hlt] at hbt; simp at hbt
    ·exact hge
   obtain ⟨i1, i2⟩ := bitsFrom_spec f b (lessD w) hl (by omega) (by
    intro j hj
    rw [hcl]
    cases hb : tb w j with
    | false => rfl
    | true =>
     have := hlow j hb
     have hjt : j = t := by omega
     simp [hjt])
   rw [ht]
   constructor
   ·intro v
    rw [List.mem_cons, i1]
    constructor
    ·rintro (rfl | ⟨j, hj, hb, rfl⟩)
     ·exact ⟨t, ht64, hbt, rfl⟩
     ·rw [hcl, Bool.and_eq_true] at hb
      exact ⟨j, hj, hb.1, rfl⟩
    ·rintro ⟨j, hj, hb, rfl⟩
     by_cases he : j = t
     ·left; rw [he]
     ·right
      exact ⟨j, hj, by rw [hcl, hb]; simp [he], rfl⟩
   ·refine List.Pairwise.cons ?_ i2
    intro v hv
    obtain ⟨j, hj, hb, rfl⟩ := (i1 v).mp hv
    rw [hcl, Bool.and_eq_true] at hb
    have := hlow j hb.1
    have hne : ¬ j = t := by simpa using hb.2
    omega
theorem bitsFrom_length : ∀ (f : Nat) (b w : Int), (bitsFrom f b w).length ≤ f
 | 0, _, _ => by simp [bitsFrom]
 | f + 1, b, w => by
  unfold bitsFrom
  by_cases h0 : w = 0
  ·simp [h0]
  ·simp only [h0, if_false, List.length_cons]
   have := bitsFrom_length f b (lessD w)
   omega
def listFrom (off : Int) : Int → List Int → List Int
 | _, [] => []
 | i, w :: ws => bitsFrom 64 (off + 64 * i) w ++ listFrom off (i + 1) ws
def listD (d : Dom) : List Int := listFrom d.1 0 d.2.1
def memW (off : Int) (ws : List Int) (v : Int) : Bool := decide (off ≤ v) && tb (ws.getD ((v - off) / 64).toNat 0) ((v - off) % 64).toNat
theorem listFrom_spec (off : Int) : ∀ (ws : List Int) (i : Int), (∀ w ∈ ws, U w) → (∀ v, v ∈ listFrom off i ws ↔ memW (off + 64 * i) ws v = true) ∧ Rising (listFrom off i ws)
 | [], i, h => by simp [listFrom, memW, tb_zero]
 | w :: ws, i, h => by
  obtain ⟨a1, a2⟩ := bitsFrom_spec 64 (off + 64 * i) w (h w (by simp)) (Nat.le_refl _) (fun j hj => by omega)
  obtain ⟨b1, b2⟩ := listFrom_spec off ws (i + 1) (fun x hx => h x (by simp [hx]))
  unfold listFrom
  have hm : ∀ v, memW (off + 64 * (i + 1)) ws v = (decide (off + 64 * i + 64 ≤ v) && tb ((w :: ws).getD ((v - (off + 64 * i)) / 64).toNat 0) ((v - (off + 64 * i)) % 64).toNat) := by
   intro v
   unfold memW
   have e0 : off + 64 * (i + 1) = off + 64 * i + 64 := by omega
   rw [e0]
   generalize off + 64 * i = o
   by_cases hv : o + 64 ≤ v
   ·have e1 : ((v - o) / 64).toNat = ((v - (o + 64)) / 64).toNat + 1 := by omega
    have e2 : (v - (o + 64)) % 64 = (v - o) % 64 := by omega
    rw [e1, e2, List.getD_cons_succ]
   ·simp [hv]
  constructor
  ·intro v
   rw [List.mem_append, a1, b1, hm]
   unfold memW
   generalize off + 64 * i = o
   simp only [Bool.and_eq_true, decide_eq_true_eq]
   constructor
   ·rintro (⟨j, hj, hb, rfl⟩ | ⟨h1, h2⟩)
    ·have e1 : ((o + (j : Int) - o) / 64).toNat = 0 := by omega
     have e2 : ((o + (j : Int) - o) % 64).toNat = j := by omega
     rw [e1, e2]
     exact ⟨by omega, hb⟩
    ·exact ⟨by omega, h2⟩
   ·rintro ⟨h1, h2⟩
    by_cases hv : o + 64 ≤ v
    ·exact .inr ⟨hv, h2⟩
    ·left
     have e1 : ((v - o) / 64).toNat = 0 := by omega
     have e2 : ((v - o) % 64).toNat = (v - o).toNat := by omega
     rw [e1, e2] at h2
     exact ⟨(v - o).toNat, by omega, h2, by omega⟩
  ·refine List.pairwise_append.mpr ⟨a2, b2, fun x hx y hy => ?_⟩
   obtain ⟨j, hj, hb, rfl⟩ := (a1 x).mp hx
   have := (b1 y).mp hy
   rw [hm] at this
   simp only [Bool.and_eq_true, decide_eq_true_eq] at this
   omega
theorem rising_ext : ∀ {l m : List Int}, Rising l → Rising m → (∀ v, v ∈ l ↔ v ∈ m) → l = m
 | [], [], _, _, _ => rfl
 | [], y :: m, _, _, h => absurd ((h y).mpr (by simp)) (by simp)
 | x :: l, [], _, _, h => absurd ((h x).mp (by simp)) (by simp)
 | x :: l, y :: m, h1, h2, h => by
  obtain ⟨p1, q1⟩ := List.pairwise_cons.mp h1
  obtain ⟨p2, q2⟩ := List.pairwise_cons.mp h2
  have exy : x = y := by
   have a := (h x).mp (by simp)
   have b := (h y).mpr (by simp)
   rw [List.mem_cons] at a b
   rcases a with a | a
   ·exact a
   ·rcases b with b | b
    ·exact b.symm
    ·have := p1 y b
     have := p2 x a
     omega
  subst exy
  congr 1
  refine rising_ext q1 q2 (fun v => ?_)
  have := h v
  rw [List.mem_cons, List.mem_cons] at this
  constructor
  ·intro hv
   rcases this.mp (.inr hv) with e | e
   ·have := p1 v hv; omega
   ·exact e
  ·intro hv
   rcases this.mpr (.inr hv) with e | e
   ·have := p2 v hv; omega
   ·exact e
def setD (off : Int) (ws : List Int) (v : Int) : List Int := ws.set ((v - off) / 64).toNat (bitsW .or .u64 (ws.getD ((v - off) / 64).toNat 0) (shlW .u64 1 ((v - off) % 64)))
theorem shl_one {s : Nat} (h : s < 64) : shlW .u64 1 (s : Int) = ((2 ^ s : Nat) : Int) ∧ U ((2 ^ s : Nat) : Int) := by
 have hb : (2 : Nat) ^ s < 2 ^ 64 := Nat.pow_lt_pow_right (by decide) h
 have hu : U ((2 ^ s : Nat) : Int) := by
  have e : (2 : Nat) ^ 64 = 18446744073709551616 := by decide
  rw [e] at hb
  generalize 2 ^ s = p at hb
  exact ⟨by omega, by omega⟩
 refine ⟨?_, hu⟩
 unfold shlW
 have : min (s : Int).toNat IntKind.u64.bits = s := by
  show min (s : Int).toNat 64 = s
  omega
 rw [this, Int.one_mul]
 have e : ((2 : Int) ^ s) = ((2 ^ s : Nat) : Int) := by rw [Int.natCast_pow]; rfl
 rw [e]
 exact wrap_u hu
theorem orbit {w : Int} (hw : U w) {s : Nat} (hs : s < 64) : U (bitsW .or .u64 w (shlW .u64 1 (s : Int))) ∧ ∀ j, tb (bitsW .or .u64 w (shlW .u64 1 (s : Int))) j = (tb w j || decide (j = s)) := by
 obtain ⟨e, hu⟩ := shl_one hs
 rw [e, or_u64 hw hu]
 constructor
 ·have : w.toNat ||| (((2 ^ s : Nat) : Int)).toNat < 2 ^ 64 := Nat.or_lt_two_pow (by unfold U at hw; show _ < 18446744073709551616; omega) (by unfold U at hu; show _ < 18446744073709551616; omega)
  have e64 : (2 : Nat) ^ 64 = 18446744073709551616 := by decide
  rw [e64] at this
  exact ⟨by omega, by omega⟩
 ·intro j
  unfold tb
  rw [Int.toNat_natCast, Int.toNat_natCast, Nat.testBit_or, Nat.testBit_two_pow]
  congr 1
  by_cases h : j = s
  ·subst h; simp
  ·have h' : ¬ s = j := fun e => h e.symm
   simp [h, h']
theorem setD_length (off : Int) (ws : List Int) (v : Int) : (setD off ws v).length = ws.length := by simp [setD]
theorem getD_U {ws : List Int} (h : ∀ w ∈ ws, U w) (i : Nat) : U (ws.getD i 0) := by
 rw [List.getD_eq_getElem?_getD]
 cases hi : ws[i]? with
 | none => exact ⟨by decide, by decide⟩
 | some w => exact h w (List.mem_of_getElem? hi)
theorem setD_U {off : Int} {ws : List Int} {v : Int} (h : ∀ w ∈ ws, U w) (h1 : off ≤ v) : ∀ w ∈ setD off ws v, U w := by
 intro w hw
 unfold setD at hw
 rcases List.mem_or_eq_of_mem_set hw with hm | rfl
 ·exact h w hm
 ·have e : (v - off) % 64 = (((v - off) % 64).toNat : Int) := by omega
  rw [e]
  exact (orbit (getD_U h _) (by omega)).1
theorem setD_mem {off : Int} {ws : List Int} {v : Int} (h : ∀ w ∈ ws, U w) (h1 : off ≤ v) (h2 : (v - off) / 64 < ws.length) (x : Int) : memW off (setD off ws v) x = (memW off ws x || decide (x = v)) := by
 unfold memW setD
 by_cases hx : off ≤ x
 ·simp only [hx, decide_true, Bool.true_and]
  rw [List.getD_eq_getElem?_getD, List.getD_eq_getElem?_getD, List.getElem?_set]
  have e : (v - off) % 64 = (((v - off) % 64).toNat : Int) := by omega
  by_cases hi : ((v - off) / 64).toNat = ((x - off) / 64).toNat
  ·have hlt : ((v - off) / 64).toNat < ws.length := by omega
   rw [hi] at hlt
   simp only [hi, if_true, hlt, Option.getD_some]
   have ho := (orbit (getD_U h ((x - off) / 64).toNat) (s := ((v - off) % 64).toNat) (by omega)).2 ((x - off) % 64).toNat
   rw [List.getD_eq_getElem?_getD] at ho
   rw [e, ho, List.getD_eq_getElem?_getD]
   congr 1
   by_cases hv : x = v
   ·subst hv; simp
   ·have : ¬ ((x - off) % 64).toNat = ((v - off) % 64).toNat := by omega
    simp [this, hv]
  ·have hv : ¬ x = v := by intro e; subst e; exact hi rfl
   simp [hi, hv]
 ·have hv : ¬ x = v := by omega
  simp [hx, hv]
def setsD (off : Int) (xs : List Int) (ws : List Int) : List Int := xs.foldl (setD off) ws
theorem setsD_spec {off : Int} : ∀ (xs : List Int) (ws : List Int), (∀ w ∈ ws, U w) → (∀ v ∈ xs, off ≤ v ∧ (v - off) / 64 < ws.length) →
  (setsD off xs ws).length = ws.length ∧ (∀ w ∈ setsD off xs ws, U w) ∧ ∀ x, memW off (setsD off xs ws) x = (memW off ws x || decide (x ∈ xs))
 | [], ws, h, hv => by simp [setsD]; exact h
 | v :: xs, ws, h, hv => by
  have hv1 := hv v (by simp)
  have ih := setsD_spec xs (setD off ws v) (setD_U h hv1.1) (fun y hy => by rw [setD_length]; exact hv y (by simp [hy]))
  refine ⟨by rw [← setD_length off ws v]; exact ih.1, ih.2.1, fun x => ?_⟩
  refine (ih.2.2 x).trans ?_
  rw [setD_mem h hv1.1 hv1.2, Bool.or_assoc]
  congr 1
  simp [List.mem_cons, Bool.decide_or]
def inD (v : Int) : Bool := decide (-1000000 ≤ v) && decide (v ≤ 1000000)
def nearB (v : Int) : Bool := decide (-1099511627776 ≤ v) && decide (v ≤ 1099511627776)
def outD (v : Int) : Bool := !inD v
def placeD (v : Int) : Int := bitsW .andNot .i64 v 63
def roomB (lo hi : Int) : Bool := decide (placeD lo ≤ placeD hi) && decide (placeD hi - placeD lo ≤ 1000000)
def zerosD (lo hi : Int) : List Int := List.replicate ((placeD hi - placeD lo) / 64 + 1).toNat 0
theorem and_not63 (x : BitVec 64) : (x &&& ~~~(63#64)).toNat = x.toNat / 64 * 64 := by
 apply Nat.eq_of_testBit_eq
 intro i
 have h63 : (63#64).getLsbD i = decide (i < 6) := by
  rw [← BitVec.testBit_toNat]
  show Nat.testBit 63 i = _
  exact Nat.testBit_two_pow_sub_one 6 i
 have e : x.toNat / 64 * 64 = 2 ^ 6 * (x.toNat / 2 ^ 6) := by omega
 rw [e, Nat.testBit_two_pow_mul, Nat.testBit_div_two_pow, BitVec.testBit_toNat, BitVec.getLsbD_and, BitVec.getLsbD_not, h63, ← BitVec.testBit_toNat]
 by_cases h6 : i < 6
 ·have : ¬ 6 ≤ i := by omega
  simp [h6, this]
 ·have h6' : 6 ≤ i := by omega
  rw [show i - 6 + 6 = i by omega]
  by_cases h64 : i < 64
  ·simp [h6, h6', h64]
  ·have : x.toNat.testBit i = false := Nat.testBit_lt_two_pow (Nat.lt_of_lt_of_le x.isLt (Nat.pow_le_pow_right (by decide) (by omega)))
   simp [h6, this]
theorem place_eq {v : Int} (h1 : -1000000 ≤ v) (h2 : v ≤ 1000000) : placeD v = v / 64 * 64 := by
 show IntKind.i64.wrap (((BitVec.ofInt 64 v &&& ~~~(63#64)).toNat : Nat) : Int) = _
 rw [and_not63, BitVec.toNat_ofInt, IntKind.wrap_i64]
 have hu : (((v % ((2 ^ 64 : Nat) : Int)).toNat : Nat) : Int) = v % 18446744073709551616 := by
  rw [Int.toNat_of_nonneg (Int.emod_nonneg _ (by decide))]
  rfl
 generalize (v % ((2 ^ 64 : Nat) : Int)).toNat = u at hu
 omega
theorem inD_iff {v : Int} : inD v = true ↔ -1000000 ≤ v ∧ v ≤ 1000000 := by unfold inD; simp
structure Wf (d : Dom) : Prop where
  off : d.1 % 64 = 0
  lo : -1000064 ≤ d.1
  hi : d.1 ≤ 1000000
  ws : ∀ w ∈ d.2.1, U w
  len : d.2.1.length ≤ 40000
theorem listD_mem {d : Dom} (h : Wf d) : (∀ v, v ∈ listD d ↔ memW d.1 d.2.1 v = true) ∧ Rising (listD d) := by
 have := listFrom_spec d.1 d.2.1 0 h.ws
 rw [Int.mul_zero, Int.add_zero] at this
 exact this
def maxF (m : Int) (xs : List Int) : Int := xs.foldl (fun m y => if y > m then y else m) m
def minF (m : Int) (xs : List Int) : Int := xs.foldl (fun m y => if y < m then y else m) m
def maxL (xs : List Int) : Int := maxF (xs.getD 0 0) (xs.drop 1)
def minL (xs : List Int) : Int := minF (xs.getD 0 0) (xs.drop 1)
theorem fold_max : ∀ (xs : List Int) (m : Int), m ≤ xs.foldl (fun m y => if y > m then y else m) m ∧ (∀ x ∈ xs, x ≤ xs.foldl (fun m y => if y > m then y else m) m) ∧
  (xs.foldl (fun m y => if y > m then y else m) m = m ∨ xs.foldl (fun m y => if y > m then y else m) m ∈ xs)
 | [], m => by simp
 | y :: xs, m => by
  obtain ⟨h1, h2, h3⟩ := fold_max xs (if y > m then y else m)
  simp only [List.foldl_cons]
  generalize xs.foldl (fun m y => if y > m then y else m) (if y > m then y else m) = r at h1 h2 h3
  refine ⟨by split at h1 <;> omega, ?_, ?_⟩
  ·intro x hx
   rcases List.mem_cons.mp hx with rfl | hx
   ·split at h1 <;> omega
   ·exact h2 x hx
  ·rcases h3 with h3 | h3
   ·split at h3
    ·right; rw [h3]; simp
    ·left; exact h3
   ·right; exact List.mem_cons_of_mem _ h3
theorem fold_min : ∀ (xs : List Int) (m : Int), xs.foldl (fun m y => if y < m then y else m) m ≤ m ∧ (∀ x ∈ xs, xs.foldl (fun m y => if y < m then y else m) m ≤ x) ∧
  (xs.foldl (fun m y => if y < m then y else m) m = m ∨ xs.foldl (fun m y => if y < m then y else m) m ∈ xs)
 | [], m => by simp
 | y :: xs, m => by
  obtain ⟨h1, h2, h3⟩ := fold_min xs (if y < m then y else m)
  simp only [List.foldl_cons]
  generalize xs.foldl (fun m y => if y < m then y else m) (if y < m then y else m) = r at h1 h2 h3
  refine ⟨by split at h1 <;> omega, ?_, ?_⟩
  ·intro x hx
   rcases List.mem_cons.mp hx with rfl | hx
   ·split at h1 <;> omega
   ·exact h2 x hx
  ·rcases h3 with h3 | h3
   ·split at h3
    ·right; rw [h3]; simp
    ·left; exact h3
   ·right; exact List.mem_cons_of_mem _ h3
theorem maxL_spec {xs : List Int} (h : xs ≠ []) : (∀ x ∈ xs, x ≤ maxL xs) ∧ maxL xs ∈ xs := by
 cases xs with
 | nil => exact absurd rfl h
 | cons y xs =>
  have e : maxL (y :: xs) = xs.foldl (fun m y => if y > m then y else m) y := rfl
  rw [e]
  obtain ⟨h1, h2, h3⟩ := fold_max xs y
  refine ⟨fun x hx => ?_, ?_⟩
  ·rcases List.mem_cons.mp hx with rfl | hx
   ·exact h1
   ·exact h2 x hx
  ·rcases h3 with h3 | h3
   ·rw [h3]; simp
   ·exact List.mem_cons_of_mem _ h3
theorem minL_spec {xs : List Int} (h : xs ≠ []) : (∀ x ∈ xs, minL xs ≤ x) ∧ minL xs ∈ xs := by
 cases xs with
 | nil => exact absurd rfl h
 | cons y xs =>
  have e : minL (y :: xs) = xs.foldl (fun m y => if y < m then y else m) y := rfl
  rw [e]
  obtain ⟨h1, h2, h3⟩ := fold_min xs y
  refine ⟨fun x hx => ?_, ?_⟩
  ·rcases List.mem_cons.mp hx with rfl | hx
   ·exact h1
   ·exact h2 x hx
  ·rcases h3 with h3 | h3
   ·rw [h3]; simp
   ·exact List.mem_cons_of_mem _ h3
def okL (xs : List Int) : Bool := !xs.isEmpty && xs.all inD && decide (maxL xs - minL xs < 65536)
theorem okL_iff {xs : List Int} : okL xs = true ↔ xs ≠ [] ∧ (∀ x ∈ xs, inD x = true) ∧ maxL xs - minL xs < 65536 := by
 unfold okL
 simp [and_assoc]
def wordsL (xs : List Int) : List Int := setsD (placeD (minL xs)) xs (zerosD (minL xs) (maxL xs))
theorem zeros_mem (off : Int) (n : Nat) (v : Int) : memW off (List.replicate n 0) v = false := by
 unfold memW
 have : (List.replicate n (0 : Int)).getD ((v - off) / 64).toNat 0 = 0 := by
  rw [List.getD_eq_getElem?_getD, List.getElem?_replicate]
  split <;> rfl
 rw [this, tb_zero, Bool.and_false]
theorem zeros_U (n : Nat) : ∀ w ∈ List.replicate n (0 : Int), U w := by
 intro w hw
 rw [(List.mem_replicate.mp hw).2]
 exact ⟨by decide, by decide⟩
structure OkL (xs : List Int) : Prop where
  lo : -1000000 ≤ minL xs
  hi : maxL xs ≤ 1000000
  le : minL xs ≤ maxL xs
  wide : maxL xs - minL xs < 65536
  pl : placeD (minL xs) = minL xs / 64 * 64
  ph : placeD (maxL xs) = maxL xs / 64 * 64
  len : (zerosD (minL xs) (maxL xs)).length = (maxL xs / 64 - minL xs / 64 + 1).toNat
  fit : ∀ v ∈ xs, placeD (minL xs) ≤ v ∧ (v - placeD (minL xs)) / 64 < (zerosD (minL xs) (maxL xs)).length
theorem okL_ok {xs : List Int} (h : okL xs = true) : OkL xs := by
 obtain ⟨h0, h1, h2⟩ := okL_iff.mp h
 obtain ⟨a1, a2⟩ := maxL_spec h0
 obtain ⟨b1, b2⟩ := minL_spec h0
 have i1 := inD_iff.mp (h1 _ a2)
 have i2 := inD_iff.mp (h1 _ b2)
 have hle := a1 _ b2
 have pl := place_eq i2.1 i2.2
 have ph := place_eq i1.1 i1.2
 have hl : (zerosD (minL xs) (maxL xs)).length = (maxL xs / 64 - minL xs / 64 + 1).toNat := by
  unfold zerosD
  rw [List.length_replicate, pl, ph]
  congr 1
  omega
 refine ⟨i2.1, i1.2, hle, h2, pl, ph, hl, fun v hv => ?_⟩
 have := a1 v hv
 have := b1 v hv
 rw [hl, pl]
 omega
theorem words_spec {xs : List Int} (h : okL xs = true) : (wordsL xs).length = (zerosD (minL xs) (maxL xs)).length ∧ (∀ w ∈ wordsL xs, U w) ∧ ∀ v, memW (placeD (minL xs)) (wordsL xs) v = decide (v ∈ xs) := by
 have ho := okL_ok h
 obtain ⟨h1, h2, h3⟩ := setsD_spec (off := placeD (minL xs)) xs (zerosD (minL xs) (maxL xs)) (zeros_U _) ho.fit
 refine ⟨h1, h2, fun v => ?_⟩
 have := h3 v
 rw [show memW (placeD (minL xs)) (zerosD (minL xs) (maxL xs)) v = false from zeros_mem _ _ _, Bool.false_or] at this
 exact this
def len8tab : ByteArray := ⟨#[0, 1, 2, 2, 3, 3, 3, 3, 4, 4, 4, 4, 4, 4, 4, 4, 5, 5, 5, 5, 5, 5, 5, 5, 5, 5, 5, 5, 5, 5, 5, 5, 6, 6, 6, 6, 6, 6, 6, 6, 6, 6, 6, 6, 6, 6, 6, 6, 6, 6, 6, 6, 6, 6, 6, 6, 6, 6, 6, 6, 6, 6, 6, 6, 7, 7, 7, 7, 7, 7, 7, 7, 7, 7, 7, 7, 7, 7, 7, 7, 7, 7, 7, 7, 7, 7, 7, 7, 7, 7, 7, 7, 7, 7, 7, 7, 7, 7, 7, 7, 7, 7, 7, 7, 7, 7, 7, 7, 7, 7, 7, 7, 7, 7, 7, 7, 7, 7, 7, 7, 7, 7, 7, 7, 7, 7, 7, 7, 8, 8, 8, 8, 8, 8, 8, 8, 8, 8, 8, 8, 8, 8, 8, 8, 8, 8, 8, 8, 8, 8, 8, 8, 8, 8, 8, 8, 8, 8, 8, 8, 8, 8, 8, 8, 8, 8, 8, 8, 8, 8, 8, 8, 8, 8, 8, 8, 8, 8, 8, 8, 8, 8, 8, 8, 8, 8, 8, 8, 8, 8, 8, 8, 8, 8, 8, 8, 8, 8, 8, 8, 8, 8, 8, 8, 8, 8, 8, 8, 8, 8, 8, 8, 8, 8, 8, 8, 8, 8, 8, 8, 8, 8, 8, 8, 8, 8, 8, 8, 8, 8, 8, 8, 8, 8, 8, 8, 8, 8, 8, 8, 8, 8, 8, 8, 8, 8, 8, 8, 8, 8, 8, 8, 8, 8, 8, 8]⟩
def lenA (w : Int) : Int := if w ≥ 4294967296 then shrW .u64 w 32 else w
def lenA' (w : Int) : Int := if w ≥ 4294967296 then 32 else 0
def lenB1 (w : Int) : Int := if w ≥ 65536 then shrW .u64 w 16 else w
def lenB' (w n : Int) : Int := if w ≥ 65536 then IntKind.i64.wrap (n + 16) else n
def lenC (w : Int) : Int := if w ≥ 256 then shrW .u64 w 8 else w
def lenC' (w n : Int) : Int := if w ≥ 256 then IntKind.i64.wrap (n + 8) else n
def lenZ (w n : Int) : Int := IntKind.i64.wrap (n + IntKind.i64.wrap (byteW len8tab (IntKind.u8.wrap w).toNat))
def len64D (w : Int) : Int := lenZ (lenC (lenB1 (lenA w))) (lenC' (lenB1 (lenA w)) (lenB' (lenA w) (lenA' w)))
def lzD (w : Int) : Int := IntKind.i64.wrap (64 - len64D w)
def ones1 (x : Int) : Int := IntKind.u64.wrap (bitsW .and .u64 (shrW .u64 x 1) 6148914691236517205 + bitsW .and .u64 x 6148914691236517205)
def ones2 (x : Int) : Int := IntKind.u64.wrap (bitsW .and .u64 (shrW .u64 x 2) 3689348814741910323 + bitsW .and .u64 x 3689348814741910323)
def ones3 (x : Int) : Int := bitsW .and .u64 (IntKind.u64.wrap (shrW .u64 x 4 + x)) 1085102592571150095
def ones4 (x : Int) : Int := IntKind.u64.wrap (x + shrW .u64 x 8)
def ones5 (x : Int) : Int := IntKind.u64.wrap (x + shrW .u64 x 16)
def ones6 (x : Int) : Int := IntKind.u64.wrap (x + shrW .u64 x 32)
def onesD (x : Int) : Int := bitsW .and .i64 (IntKind.i64.wrap (ones6 (ones5 (ones4 (ones3 (ones2 (ones1 x))))))) 127
def madeGo (off : Int) : Int → Int → Int → Int → List Int → Int × Int × Int
 | _, mn, mx, sz, [] => (mn, mx, sz)
 | i, mn, mx, sz, w :: ws => if w = 0 then madeGo off (i + 1) mn mx sz ws else
  madeGo off (i + 1) (if sz = 0 then IntKind.i64.wrap (IntKind.i64.wrap (off + IntKind.i64.wrap (64 * i)) + tzD w) else mn)
   (IntKind.i64.wrap (IntKind.i64.wrap (IntKind.i64.wrap (IntKind.i64.wrap (off + IntKind.i64.wrap (64 * i)) + 64) - 1) - lzD w)) (IntKind.i64.wrap (sz + onesD w)) ws
def madeD (off : Int) (ws : List Int) : Dom := (off, ws, madeGo off 0 0 0 0 ws)
def listB (d : Dom) : Bool := nearB d.1 && d.2.1.all uB && Nat.ble d.2.1.length 1000000
def ofD (xs : List Int) : Dom × Int := if xs.length = 0 then ((0, [], 0, 0, 0), 4) else if xs.any outD then ((0, [], 0, 0, 0), 3) else if maxL xs - minL xs ≥ 65536 then ((0, [], 0, 0, 0), 5) else
 (madeD (placeD (minL xs)) (wordsL xs), 0)
theorem ofD_ok {xs : List Int} (h : okL xs = true) : ofD xs = (madeD (placeD (minL xs)) (wordsL xs), 0) := by
 obtain ⟨h0, h1, h2⟩ := okL_iff.mp h
 unfold ofD
 have e1 : ¬ xs.length = 0 := by simpa using h0
 have e2 : xs.any outD = false := by
  rw [List.any_eq_false]
  intro x hx
  unfold outD
  rw [h1 x hx]
  simp
 have e3 : ¬ maxL xs - minL xs ≥ 65536 := by omega
 simp [e1, e2, e3]
theorem wf_ofD {xs : List Int} (h : okL xs = true) : Wf (ofD xs).1 := by
 rw [ofD_ok h]
 have ho := okL_ok h
 obtain ⟨h1, h2, h3⟩ := words_spec h
 have h5 := ho.lo
 have h6 := ho.hi
 have h7 := ho.le
 refine ⟨?_, ?_, ?_, h2, ?_⟩
 ·show placeD (minL xs) % 64 = 0
  rw [ho.pl]; omega
 ·show _ ≤ placeD (minL xs)
  rw [ho.pl]; omega
 ·show placeD (minL xs) ≤ _
  rw [ho.pl]; omega
 ·show (wordsL xs).length ≤ 40000
  rw [h1, ho.len]
  omega
theorem list_ofD {xs : List Int} (h : okL xs = true) : (∀ v, v ∈ listD (ofD xs).1 ↔ v ∈ xs) ∧ Rising (listD (ofD xs).1) := by
 obtain ⟨h1, h2⟩ := listD_mem (wf_ofD h)
 refine ⟨fun v => ?_, h2⟩
 rw [h1 v, ofD_ok h]
 show memW (placeD (minL xs)) (wordsL xs) v = true ↔ _
 rw [(words_spec h).2.2]
 simp
theorem listB_wf {d : Dom} (h : Wf d) : listB d = true := by
 unfold listB nearB
 have h1 := h.lo
 have h2 := h.hi
 have h3 := h.len
 simp only [Bool.and_eq_true, decide_eq_true_eq, Nat.ble_eq, List.all_eq_true]
 refine ⟨⟨⟨by omega, by omega⟩, fun w hw => ?_⟩, by omega⟩
 have := h.ws w hw
 unfold U at this
 unfold uB
 simp [this.1, this.2]
end Go.Proofs.YtlfdikofmfhefaaGreatDoor.Ev
set_option linter.unusedVariables false
set_option linter.unusedSimpArgs false
set_option maxRecDepth 10000
namespace Go.Proofs.YtlfdikofmfhefaaGreatDoor.Ev
open Go
abbrev Con := Int × List Int × List Int × List Int × List Int × List Int × Int × List (List Int)
abbrev LI : Ty := .sl (.int .i64)
abbrev ConT : Ty := .pair (.int .i64) (.pair LI (.pair LI (.pair LI (.pair LI (.pair LI (.pair (.int .i64) (.sl LI)))))))
abbrev bC (a : Int) (b c d e f : List Int) (g : Int) (h : List (List Int)) : List AV := [.v (.int .i64) a, .v (.sl (.int .i64)) b, .v (.sl (.int .i64)) c, .v (.sl (.int .i64)) d, .v (.sl (.int .i64)) e, .v (.sl (.int .i64)) f, .v (.int .i64) g, .v (.sl (.sl (.int .i64))) h]
def idx {α : Type} (p : α → Bool) : List α → Int → Int
 | [], _ => -1
 | x :: xs, i => bif p x then i else idx p xs (i + 1)
def idxI (s : ByteArray) (c : Int) : Int := Lib.indexByte s.data.toList c.toNat.toUInt8
def cntI (s : ByteArray) (c : Int) : Int := (Lib.countByte s.data.toList c.toNat.toUInt8 : Nat)
def idxJ (s : ByteArray) (c : Int) : Int := idxI s c
def idx1 (s u : ByteArray) : Int := bif strEq u s then 0 else idxI s (byteW u 0)
def idx2 (s u : ByteArray) : Int := idx1 s u
def has1 (s u : ByteArray) : Bool := decide (idx2 s u ≥ 0)
def cnt1 (s u : ByteArray) : Int := cntI s (byteW u 0)
def shapesL : List ByteArray := [⟨#[]⟩, ⟨#[99, 86, 107]⟩, ⟨#[99, 86, 107]⟩, ⟨#[99, 86, 107]⟩, ⟨#[99, 86, 107, 119]⟩, ⟨#[118, 118, 118]⟩, ⟨#[118, 118, 118]⟩, ⟨#[118, 118, 118]⟩, ⟨#[118, 118]⟩, ⟨#[118, 118, 118]⟩, ⟨#[118, 118, 118]⟩, ⟨#[118, 99, 118]⟩, ⟨#[86, 87]⟩, ⟨#[118, 107, 119]⟩, ⟨#[118, 107, 119]⟩, ⟨#[118, 107, 119]⟩, ⟨#[118, 107, 119]⟩, ⟨#[86]⟩, ⟨#[86, 114]⟩, ⟨#[86, 99, 100, 107]⟩, ⟨#[86]⟩, ⟨#[86, 99, 100, 101]⟩, ⟨#[86, 87]⟩, ⟨#[86, 87]⟩]
def formsL : List (ByteArray × ByteArray) := [(⟨#[108, 105, 110, 95, 101, 113]⟩, ⟨#[99, 86, 107]⟩), (⟨#[108, 105, 110, 95, 108, 101]⟩, ⟨#[99, 86, 107]⟩), (⟨#[108, 105, 110, 95, 110, 101]⟩, ⟨#[99, 86, 107]⟩), (⟨#[108, 105, 110, 95, 114, 101, 105, 102]⟩, ⟨#[99, 86, 107, 119]⟩), (⟨#[116, 105, 109, 101, 115]⟩, ⟨#[118, 118, 118]⟩), (⟨#[100, 105, 118]⟩, ⟨#[118, 118, 118]⟩), (⟨#[109, 111, 100]⟩, ⟨#[118, 118, 118]⟩), (⟨#[97, 98, 115]⟩, ⟨#[118, 118]⟩), (⟨#[109, 105, 110]⟩, ⟨#[118, 118, 118]⟩), (⟨#[109, 97, 120]⟩, ⟨#[118, 118, 118]⟩), (⟨#[101, 108, 101, 109, 101, 110, 116]⟩, ⟨#[118, 99, 118]⟩), (⟨#[99, 108, 97, 117, 115, 101]⟩, ⟨#[86, 87]⟩), (⟨#[101, 113, 95, 114, 101, 105, 102]⟩, ⟨#[118, 107, 119]⟩), (⟨#[108, 101, 95, 114, 101, 105, 102]⟩, ⟨#[118, 107, 119]⟩), (⟨#[101, 113, 95, 105, 109, 112]⟩, ⟨#[118, 107, 119]⟩), (⟨#[108, 101, 95, 105, 109, 112]⟩, ⟨#[118, 107, 119]⟩), (⟨#[97, 108, 108, 95, 100, 105, 102, 102, 101, 114, 101, 110, 116]⟩, ⟨#[86]⟩), (⟨#[116, 97, 98, 108, 101]⟩, ⟨#[86, 114]⟩), (⟨#[99, 117, 109, 117, 108, 97, 116, 105, 118, 101]⟩, ⟨#[86, 99, 100, 107]⟩), (⟨#[99, 105, 114, 99, 117, 105, 116]⟩, ⟨#[86]⟩), (⟨#[103, 99, 99]⟩, ⟨#[86, 99, 100, 101]⟩), (⟨#[108, 101, 120, 95, 108, 101]⟩, ⟨#[86, 87]⟩), (⟨#[105, 110, 118, 101, 114, 115, 101]⟩, ⟨#[86, 87]⟩)]
def inS (k : Int) : Bool := decide (1 ≤ k) && decide (k ≤ 23)
def wordS (k : Int) : ByteArray := bif inS k then (formsL.getD (k - 1).toNat (ByteArray.empty, ByteArray.empty)).1 else ⟨#[]⟩
def shapeS (k : Int) : ByteArray := bif inS k then (formsL.getD (k - 1).toNat (ByteArray.empty, ByteArray.empty)).2 else ⟨#[]⟩
def withinD (n a b : Int) : Bool := decide (n ≥ a) && decide (n ≤ b)
def namedD (n : Int) (s o a : ByteArray) : Bool := bif has1 s a then withinD n 1 64 else decide (n = cnt1 s o)
def varsB (c : Con) : Bool := decide (0 < (c.2.1.length : Int) + c.2.2.1.length) && decide ((c.2.1.length : Int) + c.2.2.1.length ≤ 1000)
def varsD (c : Con) : List Int := c.2.1 ++ c.2.2.1
def concatL (l : List (List Int)) : List Int := l.flatten
def concatB (l : List (List Int)) : Bool := decide (0 < (l.flatten.length : Int)) && decide ((l.flatten.length : Int) ≤ 1000) && decide (l.length = 2)
def growB (n : Int) : Bool := decide (0 < n) && decide (n ≤ 1000000)
def varB (z v : Int) : Bool := decide (v < 0) || decide (v ≥ z)
def numB (z v : Int) : Bool := decide (v < z) || decide (v > 1000000)
def rowN (c : Con) (r : List Int) : Bool := !(decide ((r.length : Int) = (c.2.1.length : Int)))
def boundedD (l : List Int) (m : Int) : Bool := !(List.any l (numB m))
def inL (l : List Int) (lo hi : Int) : Bool := !(List.any l fun v => decide (v < lo) || decide (v > hi))
def hasGo (s : ByteArray) (c : Int) : List Nat → Int → Int
 | [], n => n
 | i :: is, n => hasGo s c is (if byteW s i = c then n + 1 else n)
def hasB (s : ByteArray) (c : Int) : Int := hasGo s c (List.range s.size) 0
def listB1 (n one all : Int) : Bool := bif decide (all > 0) then decide (n ≥ 1) && decide (n ≤ 64) else decide (n = one)
end Go.Proofs.YtlfdikofmfhefaaGreatDoor.Ev
set_option linter.unusedVariables false
set_option linter.unusedSimpArgs false
set_option maxRecDepth 10000
namespace Go.Proofs.YtlfdikofmfhefaaGreatDoor.Ev
open Go
def hasL (l : List Int) (v : Int) : Bool := l.any fun x => decide (x = v)
def insR (v : Int) : List Int → List Int
 | [] => [v]
 | x :: xs => if x > v then v :: x :: xs else x :: insR v xs
def refGo : List Int → List Int → List Int
 | [], out => out
 | v :: xs, out => refGo xs (if hasL out v then out else insR v out)
def refOf (l : List Int) : List Int := refGo l []
def iota (a : Int) (n : Nat) : List Int := (List.range n).map fun (i : Nat) => a + (i : Int)
def localC (c : Con) : Con := (c.1, iota 0 c.2.1.length, iota c.2.1.length c.2.2.1.length, c.2.2.2)
def localB (c : Con) : Bool := Nat.ble c.2.1.length 1000 && Nat.ble c.2.2.1.length 1000
def manyGo (most : Int) : List (List Int) → Int → Bool
 | [], _ => false
 | l :: ds, n => if n * (l.length : Int) > most then true else manyGo most ds (n * (l.length : Int))
def manyL (d : List (List Int)) (most : Int) : Bool := manyGo most d 1
def prodN : List (List Int) → Nat
 | [] => 1
 | l :: ds => l.length * prodN ds
def rowR : List (List Int) → Nat → List Int
 | [], _ => []
 | l :: ds, k => l.getD (k % l.length) 0 :: rowR ds (k / l.length)
def rowOf (d : List (List Int)) (k : Nat) : List Int := (rowR d.reverse k).reverse
def prodL (d : List (List Int)) : List (List Int) := (List.range (prodN d)).map (rowOf d)
def productB (d : List (List Int)) (most : Int) : Bool := decide (0 ≤ most) && decide (most ≤ 100000) && Nat.ble d.length 1000 && d.all fun l => Nat.ble l.length 1000 && Nat.ble 1 l.length
def inB (a : List Int) (v : Int) : Bool := decide (0 ≤ v) && decide (v < a.length)
def rowB (c : Con) (a : List Int) : Bool := decide (c.1 = 18) && Nat.ble c.2.1.length 1000 && Nat.ble c.2.2.2.2.2.2.2.length 10000 && c.2.1.all (inB a) && c.2.2.2.2.2.2.2.all fun r => decide (r.length = c.2.1.length)
def millB (v : Int) : Bool := decide (-1000000 ≤ v) && decide (v ≤ 1000000)
def sumB (c : Con) (a : List Int) : Bool := Nat.ble c.2.1.length 1000 && decide (c.2.2.2.1.length = c.2.1.length) && c.2.1.all (inB a) && c.2.2.2.1.all millB && a.all millB
def linB (c : Con) (a : List Int) : Bool := (decide (1 ≤ c.1) && decide (c.1 ≤ 4)) && sumB c a && (!(decide (c.1 = 4)) || (decide (0 < c.2.2.1.length) && inB a (c.2.2.1.getD 0 0)))
def pairB (c : Con) (a : List Int) : Bool := decide (c.1 = 22) && Nat.ble c.2.1.length 1000 && decide (c.2.2.1.length = c.2.1.length) && c.2.1.all (inB a) && c.2.2.1.all (inB a)
def holdsB (c : Con) (a : List Int) : Bool := linB c a || (false && rowB c a) || (false && pairB c a)
def placesL (l : List Int) (n vars : Int) : List Int := (List.range n.toNat).map fun (i : Nat) => (if i < l.length then IntKind.i64.wrap (l.getD i 0) else (i : Int)).tmod vars
def placesB (l : List Int) (n vars : Int) : Bool := decide (0 ≤ n) && decide (n ≤ 1000) && decide (vars ≠ 0)
def numR (v least wide : Int) : Int := if v.tmod wide < 0 ∧ least ≥ 0 then IntKind.i64.wrap (0 - v.tmod wide) else v.tmod wide
def numbersL (l : List Int) (from_ n least wide : Int) : List Int := (List.range n.toNat).map fun (i : Nat) => numR (if from_ + (i : Int) < l.length then IntKind.i64.wrap (l.getD (from_ + (i : Int)).toNat 0) else 1) least wide
def numbersB (l : List Int) (from_ n least wide : Int) : Bool := decide (0 ≤ from_) && decide (from_ ≤ 100000) && decide (0 ≤ n) && decide (n ≤ 1000) && decide (wide ≠ 0)
abbrev Small := Int × List Int × List Int × List Int × Int × Int
abbrev Case := Small × List (List Int)
end Go.Proofs.YtlfdikofmfhefaaGreatDoor.Ev
set_option linter.unusedVariables false
set_option linter.unusedSimpArgs false
set_option maxRecDepth 100000
namespace Go.Proofs.YtlfdikofmfhefaaGreatDoor.Ev
open Go
def val : List Nat → Nat
 | [] => 0
 | b :: bs => b + 256 * val bs
def msk (k m : Nat) : Nat := val (List.replicate k m)
theorem tb256 (a b i : Nat) (ha : a < 256) : (a + 256 * b).testBit i = if i < 8 then a.testBit i else b.testBit (i - 8) := by
 have e : a + 256 * b = 2 ^ 8 * b + a := by omega
 rw [e]
 exact Nat.testBit_two_pow_mul_add b (by omega) i
theorem and256 (a b c d : Nat) (ha : a < 256) (hc : c < 256) : (a + 256 * b) &&& (c + 256 * d) = (a &&& c) + 256 * (b &&& d) := by
 apply Nat.eq_of_testBit_eq
 intro i
 have hac : a &&& c < 256 := Nat.and_lt_two_pow (n := 8) _ hc
 rw [Nat.testBit_and, tb256 a b i ha, tb256 c d i hc, tb256 _ _ i hac]
 split
 ·rw [Nat.testBit_and]
 ·rw [Nat.testBit_and]
theorem val_add (f g : Nat → Nat) : ∀ bs : List Nat, val (bs.map f) + val (bs.map g) = val (bs.map fun b => f b + g b)
 | [] => rfl
 | b :: bs => by
  simp only [List.map_cons, val]
  rw [← val_add f g bs]
  omega
theorem and_msk (m : Nat) (hm : m < 256) : ∀ bs : List Nat, (∀ b ∈ bs, b < 256) → val bs &&& msk bs.length m = val (bs.map fun b => b &&& m)
 | [], _ => by simp [val]
 | b :: bs, h => by
  have ih := and_msk m hm bs (fun x hx => h x (by simp [hx]))
  unfold msk at ih ⊢
  simp only [List.length_cons, List.replicate_succ, val, List.map_cons]
  rw [and256 _ _ _ _ (h b (by simp)) hm, ih]
theorem half85 : ∀ b, b < 256 → ∀ e, e < 2 → (b / 2 + 128 * e) &&& 85 = (b / 2) &&& 85 := by decide +kernel
theorem quart51 : ∀ b, b < 256 → ∀ e, e < 4 → (b / 4 + 64 * e) &&& 51 = (b / 4) &&& 51 := by decide +kernel
theorem half_msk : ∀ bs : List Nat, (∀ b ∈ bs, b < 256) → val bs / 2 &&& msk bs.length 85 = val (bs.map fun b => (b / 2) &&& 85)
 | [], _ => by simp [val]
 | b :: bs, h => by
  have ih := half_msk bs (fun x hx => h x (by simp [hx]))
  have hb := h b (by simp)
  unfold msk at ih ⊢
  simp only [List.length_cons, List.replicate_succ, val, List.map_cons]
  generalize val bs = v at ih ⊢
  have e : (b + 256 * v) / 2 = (b / 2 + 128 * (v % 2)) + 256 * (v / 2) := by omega
  rw [e, and256 _ _ _ _ (by omega) (by omega), ih, half85 b hb (v % 2) (by omega)]
theorem quart_msk : ∀ bs : List Nat, (∀ b ∈ bs, b < 256) → val bs / 4 &&& msk bs.length 51 = val (bs.map fun b => (b / 4) &&& 51)
 | [], _ => by simp [val]
 | b :: bs, h => by
  have ih := quart_msk bs (fun x hx => h x (by simp [hx]))
  have hb := h b (by simp)
  unfold msk at ih ⊢
  simp only [List.length_cons, List.replicate_succ, val, List.map_cons]
  generalize val bs = v at ih ⊢
  have e : (b + 256 * v) / 4 = (b / 4 + 64 * (v % 4)) + 256 * (v / 4) := by omega
  rw [e, and256 _ _ _ _ (by omega) (by omega), ih, quart51 b hb (v % 4) (by omega)]
theorem sixt_msk : ∀ bs : List Nat, (∀ b ∈ bs, b / 16 ≤ 4 ∧ b % 16 ≤ 4) → (val bs / 16 + val bs) &&& msk bs.length 15 = val (bs.map fun b => (b / 16 + b) % 16) ∧ val bs % 16 ≤ 4
 | [], _ => ⟨by simp [val], by simp [val]⟩
 | b :: bs, h => by
  obtain ⟨ih, hv⟩ := sixt_msk bs (fun x hx => h x (by simp [hx]))
  have hb := h b (by simp)
  refine ⟨?_, by simp only [val]; omega⟩
  unfold msk at ih ⊢
  simp only [List.length_cons, List.replicate_succ, val, List.map_cons]
  generalize val bs = v at ih hv ⊢
  have e : (b + 256 * v) / 16 + (b + 256 * v) = (b / 16 + b + 16 * (v % 16)) + 256 * (v / 16 + v) := by omega
  rw [e, and256 _ _ _ _ (by omega) (by omega), ih]
  congr 1
  have e2 : (15 : Nat) = 2 ^ 4 - 1 := rfl
  rw [e2, Nat.and_two_pow_sub_one_eq_mod]
  omega
def g1 (b : Nat) : Nat := ((b / 2) &&& 85) + (b &&& 85)
def g2 (b : Nat) : Nat := ((b / 4) &&& 51) + (b &&& 51)
def g3 (b : Nat) : Nat := (b / 16 + b) % 16
def g (b : Nat) : Nat := g3 (g2 (g1 b))
theorem g_facts : ∀ b, b < 256 → g1 b < 256 ∧ g2 (g1 b) / 16 ≤ 4 ∧ g2 (g1 b) % 16 ≤ 4 ∧ g b ≤ 8 ∧ (g b = 0 → b = 0) := by decide +kernel
def by8 (n : Nat) : List Nat := [n % 256, n / 256 % 256, n / 65536 % 256, n / 16777216 % 256, n / 4294967296 % 256, n / 1099511627776 % 256, n / 281474976710656 % 256, n / 72057594037927936 % 256]
theorem by8_val {n : Nat} (h : n < 18446744073709551616) : val (by8 n) = n := by
 unfold by8
 simp only [val]
 omega
theorem by8_lt (n : Nat) : ∀ b ∈ by8 n, b < 256 := by
 intro b hb
 unfold by8 at hb
 simp only [List.mem_cons, List.not_mem_nil, or_false] at hb
 rcases hb with h | h | h | h | h | h | h | h <;> omega
theorem shr_nat {w : Int} (hw : U w) (s : Nat) (hs : s ≤ 64) : shrW .u64 w (s : Int) = ((w.toNat / 2 ^ s : Nat) : Int) := by
 unfold U at hw
 have hm : min (s : Int).toNat IntKind.u64.bits = s := by show min (s : Int).toNat 64 = s; omega
 unfold shrW
 rw [hm]
 have e1 : w = (w.toNat : Int) := by omega
 have e2 : ((2 : Int) ^ s) = ((2 ^ s : Nat) : Int) := by rw [Int.natCast_pow]; rfl
 rw [e2, e1, Int.fdiv_eq_ediv_of_nonneg _ (Int.natCast_nonneg _), Int.toNat_natCast]
 exact (Int.natCast_ediv _ _).symm
theorem U_nat {n : Nat} (h : n < 18446744073709551616) : U (n : Int) := ⟨by omega, by omega⟩
theorem and_nat {a b : Nat} (ha : a < 18446744073709551616) (hb : b < 18446744073709551616) : bitsW .and .u64 (a : Int) (b : Int) = ((a &&& b : Nat) : Int) := by
 have := and_u64 (U_nat ha) (U_nat hb)
 rwa [Int.toNat_natCast, Int.toNat_natCast] at this
theorem and_le (a b : Nat) : a &&& b ≤ b := Nat.and_le_right
theorem add_nat {a b : Nat} (h : a + b < 18446744073709551616) : IntKind.u64.wrap ((a : Int) + (b : Int)) = ((a + b : Nat) : Int) := by
 rw [wrap_u ⟨by omega, by omega⟩, Int.natCast_add]
theorem shr_n {n : Nat} (h : n < 18446744073709551616) (s : Nat) (hs : s ≤ 64) : shrW .u64 (n : Int) (s : Int) = ((n / 2 ^ s : Nat) : Int) := by
 have := shr_nat (U_nat h) s hs
 rwa [Int.toNat_natCast] at this
theorem ones1_nat {n : Nat} (h : n < 18446744073709551616) : ones1 (n : Int) = (((n / 2 &&& 6148914691236517205) + (n &&& 6148914691236517205) : Nat) : Int) := by
 unfold ones1
 have e1 : shrW .u64 (n : Int) 1 = ((n / 2 : Nat) : Int) := shr_n h 1 (by omega)
 have e2 := and_nat (a := n / 2) (b := 6148914691236517205) (by omega) (by decide)
 have e3 := and_nat (a := n) (b := 6148914691236517205) h (by decide)
 have l1 := and_le (n / 2) 6148914691236517205
 have l2 := and_le n 6148914691236517205
 rw [e1]
 refine (congrArg IntKind.u64.wrap (congr (congrArg HAdd.hAdd e2) e3)).trans ?_
 exact add_nat (by omega)
theorem ones2_nat {n : Nat} (h : n < 18446744073709551616) : ones2 (n : Int) = (((n / 4 &&& 3689348814741910323) + (n &&& 3689348814741910323) : Nat) : Int) := by
 unfold ones2
 have e1 : shrW .u64 (n : Int) 2 = ((n / 4 : Nat) : Int) := shr_n h 2 (by omega)
 have e2 := and_nat (a := n / 4) (b := 3689348814741910323) (by omega) (by decide)
 have e3 := and_nat (a := n) (b := 3689348814741910323) h (by decide)
 have l1 := and_le (n / 4) 3689348814741910323
 have l2 := and_le n 3689348814741910323
 rw [e1]
 refine (congrArg IntKind.u64.wrap (congr (congrArg HAdd.hAdd e2) e3)).trans ?_
 exact add_nat (by omega)
theorem ones3_nat {n : Nat} (h : n ≤ 4919131752989213764) : ones3 (n : Int) = (((n / 16 + n) &&& 1085102592571150095 : Nat) : Int) := by
 unfold ones3
 have e1 : shrW .u64 (n : Int) 4 = ((n / 16 : Nat) : Int) := shr_n (by omega) 4 (by omega)
 rw [e1, add_nat (by omega)]
 exact and_nat (a := n / 16 + n) (b := 1085102592571150095) (by omega) (by decide)
theorem val_lt : ∀ bs : List Nat, (∀ b ∈ bs, b < 256) → val bs < 256 ^ bs.length
 | [], _ => by simp [val]
 | b :: bs, hh => by
  have := val_lt bs (fun x hx => hh x (by simp [hx]))
  have := hh b (by simp)
  simp only [val, List.length_cons, Nat.pow_succ]
  omega
theorem val_le (m : Nat) (hm : m < 256) : ∀ bs : List Nat, (∀ b ∈ bs, b ≤ m) → val bs * 255 ≤ m * (256 ^ bs.length - 1)
 | [], _ => by simp [val]
 | b :: bs, hh => by
  have h1 := val_le m hm bs (fun x hx => hh x (by simp [hx]))
  have h2 := hh b (by simp)
  have hp : 0 < 256 ^ bs.length := Nat.pow_pos (by omega)
  simp only [val, List.length_cons, Nat.pow_succ]
  have e : m * (256 ^ bs.length * 256 - 1) = 256 * (m * (256 ^ bs.length - 1)) + 255 * m := by
   generalize 256 ^ bs.length = p at hp
   obtain ⟨p, rfl⟩ : ∃ q, p = q + 1 := ⟨p - 1, by omega⟩
   have : (p + 1) * 256 - 1 = 256 * p + 255 := by omega
   rw [this, Nat.mul_add, Nat.add_sub_cancel, Nat.mul_comm 255, Nat.mul_left_comm]
  rw [e]
  omega
theorem steps {n : Nat} (h : n < 18446744073709551616) : ones3 (ones2 (ones1 (n : Int))) = ((val ((by8 n).map g) : Nat) : Int) ∧ val ((by8 n).map g) ≤ 578721382704613384 := by
 have hb := by8_lt n
 have hv := by8_val h
 have m85 : msk 8 85 = 6148914691236517205 := by decide +kernel
 have m51 : msk 8 51 = 3689348814741910323 := by decide +kernel
 have m15 : msk 8 15 = 1085102592571150095 := by decide +kernel
 generalize hbs : by8 n = bs at hb hv
 have k8 : bs.length = 8 := by rw [← hbs]; rfl
 have a1 := half_msk bs hb
 have b1 := and_msk 85 (by omega) bs hb
 rw [k8, m85, hv] at a1 b1
 have e1 : ones1 (n : Int) = ((val (bs.map g1) : Nat) : Int) := by
  rw [ones1_nat h, a1, b1, val_add]
  rfl
 have h1 : ∀ b ∈ bs.map g1, b < 256 := by
  intro b hm
  obtain ⟨x, hx, rfl⟩ := List.mem_map.mp hm
  exact (g_facts x (hb x hx)).1
 have k1 : (bs.map g1).length = 8 := by rw [List.length_map, k8]
 have v1 : val (bs.map g1) < 18446744073709551616 := by
  have := val_lt _ h1
  rw [k1] at this
  exact this
 have a2 := quart_msk (bs.map g1) h1
 have b2 := and_msk 51 (by omega) (bs.map g1) h1
 rw [k1, m51] at a2 b2
 have e2 : ones2 ((val (bs.map g1) : Nat) : Int) = ((val ((bs.map g1).map g2) : Nat) : Int) := by
  rw [ones2_nat v1, a2, b2, val_add]
  rfl
 have h2 : ∀ b ∈ (bs.map g1).map g2, b / 16 ≤ 4 ∧ b % 16 ≤ 4 := by
  intro b hm
  obtain ⟨y, hy, rfl⟩ := List.mem_map.mp hm
  obtain ⟨x, hx, rfl⟩ := List.mem_map.mp hy
  have := g_facts x (hb x hx)
  exact ⟨this.2.1, this.2.2.1⟩
 have k2 : ((bs.map g1).map g2).length = 8 := by rw [List.length_map, k1]
 have v2 : val ((bs.map g1).map g2) ≤ 4919131752989213764 := by
  have := val_le 68 (by omega) _ (fun b hm => by have := h2 b hm; omega : ∀ b ∈ (bs.map g1).map g2, b ≤ 68)
  rw [k2] at this
  have e : (256 : Nat) ^ 8 = 18446744073709551616 := by decide
  rw [e] at this
  omega
 have a3 := (sixt_msk ((bs.map g1).map g2) h2).1
 rw [k2, m15] at a3
 have e3 : ones3 ((val ((bs.map g1).map g2) : Nat) : Int) = ((val (bs.map g) : Nat) : Int) := by
  rw [ones3_nat v2, a3, List.map_map, List.map_map]
  rfl
 refine ⟨by rw [e1, e2, e3], ?_⟩
 have k3 : (bs.map g).length = 8 := by rw [List.length_map, k8]
 have := val_le 8 (by omega) (bs.map g) (fun b hm => by
  obtain ⟨x, hx, rfl⟩ := List.mem_map.mp hm
  exact (g_facts x (hb x hx)).2.2.2.1)
 rw [k3] at this
 have e : (256 : Nat) ^ 8 = 18446744073709551616 := by decide
 rw [e] at this
 omega
end Go.Proofs.YtlfdikofmfhefaaGreatDoor.Ev
set_option linter.unusedVariables false
namespace Go.Proofs.YtlfdikofmfhefaaGreatDoor.Ev
open Go
def smallC (c : Con) : Bool := Nat.ble c.2.1.length 1000 && Nat.ble c.2.2.1.length 1000 && Nat.ble c.2.2.2.1.length 1000 && Nat.ble c.2.2.2.2.1.length 1000 && Nat.ble c.2.2.2.2.2.1.length 1000 && Nat.ble c.2.2.2.2.2.2.2.length 1000
def countedG (c : Con) (s : ByteArray) : Bool :=
 bif decide (c.1 = 12) then withinD ((c.2.1.length : Int) + (c.2.2.1.length : Int)) 1 128 && (decide ((c.2.1.length : Int) ≤ 64) && decide ((c.2.2.1.length : Int) ≤ 64)) && decide ((c.2.2.2.1.length : Int) + (c.2.2.2.2.1.length : Int) + (c.2.2.2.2.2.1.length : Int) + (c.2.2.2.2.2.2.2.length : Int) = 0)
 else (bif has1 s ⟨#[114]⟩ then withinD (c.2.2.2.2.2.2.2.length : Int) 1 1024 else decide ((c.2.2.2.2.2.2.2.length : Int) = 0)) && (namedD (c.2.1.length : Int) s ⟨#[118]⟩ ⟨#[86]⟩ && (namedD (c.2.2.1.length : Int) s ⟨#[119]⟩ ⟨#[87]⟩ &&
  (namedD (c.2.2.2.1.length : Int) s ⟨#[45]⟩ ⟨#[99]⟩ && (namedD (c.2.2.2.2.1.length : Int) s ⟨#[45]⟩ ⟨#[100]⟩ && namedD (c.2.2.2.2.2.1.length : Int) s ⟨#[45]⟩ ⟨#[101]⟩))))
def alikeG (c : Con) : Bool :=
 bif decide (c.1 = 1) then decide ((c.2.2.2.1.length : Int) = (c.2.1.length : Int))
 else bif decide (c.1 = 2) then decide ((c.2.2.2.1.length : Int) = (c.2.1.length : Int))
 else bif decide (c.1 = 3) then decide ((c.2.2.2.1.length : Int) = (c.2.1.length : Int))
 else bif decide (c.1 = 4) then decide ((c.2.2.2.1.length : Int) = (c.2.1.length : Int))
 else bif decide (c.1 = 19) then decide ((c.2.2.2.1.length : Int) = (c.2.1.length : Int)) && decide ((c.2.2.2.2.1.length : Int) = (c.2.1.length : Int))
 else bif decide (c.1 = 21) then decide ((c.2.2.2.2.1.length : Int) = (c.2.2.2.1.length : Int)) && decide ((c.2.2.2.2.2.1.length : Int) = (c.2.2.2.1.length : Int))
 else bif decide (c.1 = 22) then decide ((c.2.2.1.length : Int) = (c.2.1.length : Int))
 else bif decide (c.1 = 23) then decide ((c.2.2.1.length : Int) = (c.2.1.length : Int))
 else bif decide (c.1 = 18) then !(List.any c.2.2.2.2.2.2.2 (rowN c)) else true
def loG (c : Con) : Int := if c.1 = 19 then 0 else -1000000
def seG (c : Con) : Int := if c.1 = 19 then 0 else if c.1 = 21 then 0 else -1000000
def kaG (c : Con) : Int := if c.1 = 19 then 0 else -9999999999
def numbersG (c : Con) : Bool := !(List.any c.2.2.2.2.2.2.2 fun r => !(boundedD r (loG c))) && (boundedD c.2.2.2.1 (loG c) && (boundedD c.2.2.2.2.1 (seG c) && (boundedD c.2.2.2.2.2.1 (seG c) && (decide (c.2.2.2.2.2.2.1 ≥ kaG c) && decide (c.2.2.2.2.2.2.1 ≤ 9999999999)))))
def sortL (l : List Int) : List Int := l.mergeSort fun x y => decide (x ≤ y)
def sortB (l : List Int) : Bool := !(List.isEmpty l) && Nat.ble (List.length l) 1000
def compL (l : List Int) : List Int := Lib.compact l
def cntP (C D E S : List Int) (i : Nat) : Bool := decide (D.getD i 0 > E.getD i 0) || (decide ((i : Int) > 0) && decide (S.getD i 0 = S.getD (i - 1) 0))
def countsG (c : Con) : Bool := bif decide (c.1 = 21) then !((List.range c.2.2.2.1.length).any (cntP c.2.2.2.1 c.2.2.2.2.1 c.2.2.2.2.2.1 (sortL c.2.2.2.1))) else true
def countsB (c : Con) : Bool := !(decide (c.1 = 21)) || (sortB c.2.2.2.1 && decide (c.2.2.2.2.1.length = c.2.2.2.1.length) && decide (c.2.2.2.2.2.1.length = c.2.2.2.1.length))
def rightG (c : Con) (n : Int) : Int :=
 bif strEq (shapeS c.1) ⟨#[]⟩ then 9 else bif !(countedG c (shapeS c.1) && alikeG c && (decide (c.2.2.2.2.2.2.1 = 0) || has1 (shapeS c.1) ⟨#[107]⟩)) then 10 else bif List.any (varsD c) (varB n) then 7 else bif !(numbersG c && countsG c) then 11 else 0
def arityG (c : Con) (s : ByteArray) : Bool :=
 (decide (c.2.2.2.2.2.2.1 = 0) || !(decide (hasB s 107 = 0))) &&
 bif decide (c.1 = 12) then decide ((c.2.1.length : Int) + (c.2.2.1.length : Int) ≥ 1) && (decide ((c.2.1.length : Int) ≤ 64) && (decide ((c.2.2.1.length : Int) ≤ 64) && (decide ((c.2.2.2.1.length : Int) = 0) && (decide ((c.2.2.2.2.1.length : Int) = 0) && (decide ((c.2.2.2.2.2.1.length : Int) = 0) && decide ((c.2.2.2.2.2.2.2.length : Int) = 0))))))
 else listB1 (c.2.1.length : Int) (hasB s 118) (hasB s 86) && (listB1 (c.2.2.1.length : Int) (hasB s 119) (hasB s 87) && (listB1 (c.2.2.2.1.length : Int) 0 (hasB s 99) && (listB1 (c.2.2.2.2.1.length : Int) 0 (hasB s 100) && (listB1 (c.2.2.2.2.2.1.length : Int) 0 (hasB s 101) &&
  (!((decide (hasB s 114 = 0) && decide ((c.2.2.2.2.2.2.2.length : Int) > 0)) || (decide (hasB s 114 > 0) && (decide ((c.2.2.2.2.2.2.2.length : Int) < 1) || decide ((c.2.2.2.2.2.2.2.length : Int) > 1024)))) &&
  (!(decide (c.1 ≤ 4) && !(decide ((c.2.2.2.1.length : Int) = (c.2.1.length : Int)))) &&
  (!((decide (c.1 = 19) && (!(decide ((c.2.2.2.1.length : Int) = (c.2.1.length : Int))) || !(decide ((c.2.2.2.2.1.length : Int) = (c.2.1.length : Int))))) ||
   ((decide (c.1 = 21) && (!(decide ((c.2.2.2.2.1.length : Int) = (c.2.2.2.1.length : Int))) || !(decide ((c.2.2.2.2.2.1.length : Int) = (c.2.2.2.1.length : Int))))) || (decide (c.1 ≥ 22) && !(decide ((c.2.2.1.length : Int) = (c.2.1.length : Int)))))) &&
  !(List.any c.2.2.2.2.2.2.2 (rowN c)))))))))
def arityB (c : Con) (s : ByteArray) : Bool := smallC c && (decide (1 ≤ c.1) && decide (c.1 ≤ 23)) && decide (s = shapesL.getD c.1.toNat ByteArray.empty)
def loY (c : Con) : Int := if c.1 = 19 then 0 else -1000000
def seY (c : Con) : Int := if c.1 = 21 then 0 else if c.1 = 19 then 0 else -1000000
def kaY (c : Con) : Int := if c.1 = 19 then 0 else -9999999999
def twiceY (C : List Int) (i : Nat) : Bool := (List.range i).any fun j => decide (C.getD i 0 = C.getD j 0)
def coefsG (c : Con) : Bool := inL c.2.2.2.1 (loY c) 1000000 && (inL c.2.2.2.2.1 (seY c) 1000000 && (inL c.2.2.2.2.2.1 (seY c) 1000000 && (!(decide (c.2.2.2.2.2.2.1 < kaY c)) && (!(decide (c.2.2.2.2.2.2.1 > 9999999999)) &&
 (!(List.any c.2.2.2.2.2.2.2 fun r => !(inL r (-1000000) 1000000)) && !(decide (c.1 = 21) && (List.range c.2.2.2.1.length).any fun i => decide (c.2.2.2.2.1.getD i 0 > c.2.2.2.2.2.1.getD i 0) || twiceY c.2.2.2.1 i))))))
def coefsB (c : Con) : Bool := !(decide (c.1 = 21)) || (decide (c.2.2.2.2.1.length = c.2.2.2.1.length) && decide (c.2.2.2.2.2.1.length = c.2.2.2.1.length))
def hiY (n : Int) : Int := if n > 0 then n - 1 else -1
def rightD (c : Con) (n : Int) : Int :=
 bif decide (c.1 < 1) || decide (c.1 > 23) then 9 else bif !(arityG c (shapesL.getD c.1.toNat ByteArray.empty)) then 10 else bif !(inL c.2.1 0 (hiY n) && inL c.2.2.1 0 (hiY n)) then 7 else bif !(coefsG c) then 11 else 0
def rightNB (n : Int) : Bool := decide (0 ≤ n) && decide (n ≤ 1000000)
def farB (v : Int) : Bool := decide (v < -1000000) || decide (v > 1000000)
def rowEqB (x r : List Int) : Bool := decide (r = x)
def eqL (a b : List Int) : Bool := decide (a = b)
end Go.Proofs.YtlfdikofmfhefaaGreatDoor.Ev
