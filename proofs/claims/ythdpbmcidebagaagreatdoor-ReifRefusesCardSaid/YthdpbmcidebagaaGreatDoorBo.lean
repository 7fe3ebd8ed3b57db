/-
Seat 'a': a word that isn't 0 has bits: what OnesCount64 answers; a domain that isn't empty has a size.
Conditions: none.
-/
import Derived.Test.YthdpbmcidebagaaGreatDoorAp
set_option linter.unusedVariables false
set_option linter.unusedSimpArgs false
set_option maxRecDepth 100000
namespace Go.Proofs.YthdpbmcidebagaaGreatDoor.Ev
open Go

def val : List Nat → Nat
  | [] => 0
  | b :: bs => b + 256 * val bs
def msk (k m : Nat) : Nat := val (List.replicate k m)
theorem tb256 (a b i : Nat) (ha : a < 256) : (a + 256 * b).testBit i = if i < 8 then a.testBit i else b.testBit (i - 8) := by
  have e : a + 256 * b = 2 ^ 8 * b + a := by omega
  rw [e]
  exact Nat.testBit_two_pow_mul_add b (by omega) i
theorem and256 (a b c d : Nat) (ha : a < 256) (hc : c < 256) : (a + 256 * b) &&& (c + 256 * d) = (a &&& c) + 256 * (b &&& d) := by
  apply Nat.eq_of_testBit_eq
  intro i
  have hac : a &&& c < 256 := Nat.and_lt_two_pow (n := 8) _ hc
  rw [Nat.testBit_and, tb256 a b i ha, tb256 c d i hc, tb256 _ _ i hac]
  split
  · rw [Nat.testBit_and]
  · rw [Nat.testBit_and]
theorem val_add (f g : Nat → Nat) : ∀ bs : List Nat, val (bs.map f) + val (bs.map g) = val (bs.map fun b => f b + g b)
  | [] => rfl
  | b :: bs => by
    simp only [List.map_cons, val]
    rw [← val_add f g bs]
    omega
theorem and_msk (m : Nat) (hm : m < 256) : ∀ bs : List Nat, (∀ b ∈ bs, b < 256) → val bs &&& msk bs.length m = val (bs.map fun b => b &&& m)
  | [], _ => by simp [val]
  | b :: bs, h => by
    have ih := and_msk m hm bs (fun x hx => h x (by simp [hx]))
    unfold msk at ih ⊢
    simp only [List.length_cons, List.replicate_succ, val, List.map_cons]
    rw [and256 _ _ _ _ (h b (by simp)) hm, ih]
theorem half85 : ∀ b, b < 256 → ∀ e, e < 2 → (b / 2 + 128 * e) &&& 85 = (b / 2) &&& 85 := by decide +kernel
theorem quart51 : ∀ b, b < 256 → ∀ e, e < 4 → (b / 4 + 64 * e) &&& 51 = (b / 4) &&& 51 := by decide +kernel
theorem half_msk : ∀ bs : List Nat, (∀ b ∈ bs, b < 256) → val bs / 2 &&& msk bs.length 85 = val (bs.map fun b => (b / 2) &&& 85)
  | [], _ => by simp [val]
  | b :: bs, h => by
    have ih := half_msk bs (fun x hx => h x (by simp [hx]))
    have hb := h b (by simp)
    unfold msk at ih ⊢
    simp only [List.length_cons, List.replicate_succ, val, List.map_cons]
    generalize val bs = v at ih ⊢
    have e : (b + 256 * v) / 2 = (b / 2 + 128 * (v % 2)) + 256 * (v / 2) := by omega
    rw [e, and256 _ _ _ _ (by omega) (by omega), ih, half85 b hb (v % 2) (by omega)]
theorem quart_msk : ∀ bs : List Nat, (∀ b ∈ bs, b < 256) → val bs / 4 &&& msk bs.length 51 = val (bs.map fun b => (b / 4) &&& 51)
  | [], _ => by simp [val]
  | b :: bs, h => by
    have ih := quart_msk bs (fun x hx => h x (by simp [hx]))
    have hb := h b (by simp)
    unfold msk at ih ⊢
    simp only [List.length_cons, List.replicate_succ, val, List.map_cons]
    generalize val bs = v at ih ⊢
    have e : (b + 256 * v) / 4 = (b / 4 + 64 * (v % 4)) + 256 * (v / 4) := by omega
    rw [e, and256 _ _ _ _ (by omega) (by omega), ih, quart51 b hb (v % 4) (by omega)]
theorem sixt_msk : ∀ bs : List Nat, (∀ b ∈ bs, b / 16 ≤ 4 ∧ b % 16 ≤ 4) → (val bs / 16 + val bs) &&& msk bs.length 15 = val (bs.map fun b => (b / 16 + b) % 16) ∧ val bs % 16 ≤ 4
  | [], _ => ⟨by simp [val], by simp [val]⟩
  | b :: bs, h => by
    obtain ⟨ih, hv⟩ := sixt_msk bs (fun x hx => h x (by simp [hx]))
    have hb := h b (by simp)
    refine ⟨?_, by simp only [val]; omega⟩
    unfold msk at ih ⊢
    simp only [List.length_cons, List.replicate_succ, val, List.map_cons]
    generalize val bs = v at ih hv ⊢
    have e : (b + 256 * v) / 16 + (b + 256 * v) = (b / 16 + b + 16 * (v % 16)) + 256 * (v / 16 + v) := by omega
    rw [e, and256 _ _ _ _ (by omega) (by omega), ih]
    congr 1
    have e2 : (15 : Nat) = 2 ^ 4 - 1 := rfl
    rw [e2, Nat.and_two_pow_sub_one_eq_mod]
    omega
def g1 (b : Nat) : Nat := ((b / 2) &&& 85) + (b &&& 85)
def g2 (b : Nat) : Nat := ((b / 4) &&& 51) + (b &&& 51)
def g3 (b : Nat) : Nat := (b / 16 + b) % 16
def g (b : Nat) : Nat := g3 (g2 (g1 b))
theorem g_facts : ∀ b, b < 256 → g1 b < 256 ∧ g2 (g1 b) / 16 ≤ 4 ∧ g2 (g1 b) % 16 ≤ 4 ∧ g b ≤ 8 ∧ (g b = 0 → b = 0) := by decide +kernel
/-- The bytes of a word. -/
def by8 (n : Nat) : List Nat := [n % 256, n / 256 % 256, n / 65536 % 256, n / 16777216 % 256, n / 4294967296 % 256, n / 1099511627776 % 256, n / 281474976710656 % 256, n / 72057594037927936 % 256]
theorem by8_val {n : Nat} (h : n < 18446744073709551616) : val (by8 n) = n := by
  unfold by8
  simp only [val]
  omega
theorem by8_lt (n : Nat) : ∀ b ∈ by8 n, b < 256 := by
  intro b hb
  unfold by8 at hb
  simp only [List.mem_cons, List.not_mem_nil, or_false] at hb
  rcases hb with h | h | h | h | h | h | h | h <;> omega
theorem shr_nat {w : Int} (hw : U w) (s : Nat) (hs : s ≤ 64) : shrW .u64 w (s : Int) = ((w.toNat / 2 ^ s : Nat) : Int) := by
  unfold U at hw
  have hm : min (s : Int).toNat IntKind.u64.bits = s := by show min (s : Int).toNat 64 = s; omega
  unfold shrW
  rw [hm]
  have e1 : w = (w.toNat : Int) := by omega
  have e2 : ((2 : Int) ^ s) = ((2 ^ s : Nat) : Int) := by rw [Int.natCast_pow]; rfl
  rw [e2, e1, Int.fdiv_eq_ediv_of_nonneg _ (Int.natCast_nonneg _), Int.toNat_natCast]
  exact (Int.natCast_ediv _ _).symm
theorem U_nat {n : Nat} (h : n < 18446744073709551616) : U (n : Int) := ⟨by omega, by omega⟩
theorem and_nat {a b : Nat} (ha : a < 18446744073709551616) (hb : b < 18446744073709551616) : bitsW .and .u64 (a : Int) (b : Int) = ((a &&& b : Nat) : Int) := by
  have := and_u64 (U_nat ha) (U_nat hb)
  rwa [Int.toNat_natCast, Int.toNat_natCast] at this
theorem and_le (a b : Nat) : a &&& b ≤ b := Nat.and_le_right
theorem add_nat {a b : Nat} (h : a + b < 18446744073709551616) : IntKind.u64.wrap ((a : Int) + (b : Int)) = ((a + b : Nat) : Int) := by
  rw [wrap_u ⟨by omega, by omega⟩, Int.natCast_add]
theorem shr_n {n : Nat} (h : n < 18446744073709551616) (s : Nat) (hs : s ≤ 64) : shrW .u64 (n : Int) (s : Int) = ((n / 2 ^ s : Nat) : Int) := by
  have := shr_nat (U_nat h) s hs
  rwa [Int.toNat_natCast] at this
theorem ones1_nat {n : Nat} (h : n < 18446744073709551616) : ones1 (n : Int) = (((n / 2 &&& 6148914691236517205) + (n &&& 6148914691236517205) : Nat) : Int) := by
  unfold ones1
  have e1 : shrW .u64 (n : Int) 1 = ((n / 2 : Nat) : Int) := shr_n h 1 (by omega)
  have e2 := and_nat (a := n / 2) (b := 6148914691236517205) (by omega) (by decide)
  have e3 := and_nat (a := n) (b := 6148914691236517205) h (by decide)
  have l1 := and_le (n / 2) 6148914691236517205
  have l2 := and_le n 6148914691236517205
  rw [e1]
  refine (congrArg IntKind.u64.wrap (congr (congrArg HAdd.hAdd e2) e3)).trans ?_
  exact add_nat (by omega)
theorem ones2_nat {n : Nat} (h : n < 18446744073709551616) : ones2 (n : Int) = (((n / 4 &&& 3689348814741910323) + (n &&& 3689348814741910323) : Nat) : Int) := by
  unfold ones2
  have e1 : shrW .u64 (n : Int) 2 = ((n / 4 : Nat) : Int) := shr_n h 2 (by omega)
  have e2 := and_nat (a := n / 4) (b := 3689348814741910323) (by omega) (by decide)
  have e3 := and_nat (a := n) (b := 3689348814741910323) h (by decide)
  have l1 := and_le (n / 4) 3689348814741910323
  have l2 := and_le n 3689348814741910323
  rw [e1]
  refine (congrArg IntKind.u64.wrap (congr (congrArg HAdd.hAdd e2) e3)).trans ?_
  exact add_nat (by omega)
theorem ones3_nat {n : Nat} (h : n ≤ 4919131752989213764) : ones3 (n : Int) = (((n / 16 + n) &&& 1085102592571150095 : Nat) : Int) := by
  unfold ones3
  have e1 : shrW .u64 (n : Int) 4 = ((n / 16 : Nat) : Int) := shr_n (by omega) 4 (by omega)
  rw [e1, add_nat (by omega)]
  exact and_nat (a := n / 16 + n) (b := 1085102592571150095) (by omega) (by decide)
theorem ones4_nat {n : Nat} (h : n ≤ 600000000000000000) : ones4 (n : Int) = ((n + n / 256 : Nat) : Int) := by
  unfold ones4
  have e1 : shrW .u64 (n : Int) 8 = ((n / 256 : Nat) : Int) := shr_n (by omega) 8 (by omega)
  rw [e1, add_nat (by omega)]
theorem ones5_nat {n : Nat} (h : n ≤ 700000000000000000) : ones5 (n : Int) = ((n + n / 65536 : Nat) : Int) := by
  unfold ones5
  have e1 : shrW .u64 (n : Int) 16 = ((n / 65536 : Nat) : Int) := shr_n (by omega) 16 (by omega)
  rw [e1, add_nat (by omega)]
theorem ones6_nat {n : Nat} (h : n ≤ 800000000000000000) : ones6 (n : Int) = ((n + n / 4294967296 : Nat) : Int) := by
  unfold ones6
  have e1 : shrW .u64 (n : Int) 32 = ((n / 4294967296 : Nat) : Int) := shr_n (by omega) 32 (by omega)
  rw [e1, add_nat (by omega)]
theorem last_nat {n : Nat} (h : n ≤ 900000000000000000) : bitsW .and .i64 (IntKind.i64.wrap (n : Int)) 127 = ((n % 128 : Nat) : Int) := by
  rw [wrap_ok (by omega) (by omega)]
  show IntKind.i64.wrap (((BitVec.ofInt 64 (n : Int) &&& BitVec.ofInt 64 127).toNat : Nat) : Int) = _
  have e1 : (BitVec.ofInt 64 (n : Int)).toNat = n := by
    rw [BitVec.ofInt_natCast, BitVec.toNat_ofNat]; exact Nat.mod_eq_of_lt (by omega)
  have e2 : (BitVec.ofInt 64 127).toNat = 127 := by decide
  have e3 : (127 : Nat) = 2 ^ 7 - 1 := rfl
  have e4 : (2 : Nat) ^ 7 = 128 := rfl
  rw [BitVec.toNat_and, e1, e2, e3, Nat.and_two_pow_sub_one_eq_mod, e4, wrap_ok (by omega) (by omega)]
theorem val_lt : ∀ bs : List Nat, (∀ b ∈ bs, b < 256) → val bs < 256 ^ bs.length
  | [], _ => by simp [val]
  | b :: bs, hh => by
    have := val_lt bs (fun x hx => hh x (by simp [hx]))
    have := hh b (by simp)
    simp only [val, List.length_cons, Nat.pow_succ]
    omega
theorem val_le (m : Nat) (hm : m < 256) : ∀ bs : List Nat, (∀ b ∈ bs, b ≤ m) → val bs * 255 ≤ m * (256 ^ bs.length - 1)
  | [], _ => by simp [val]
  | b :: bs, hh => by
    have h1 := val_le m hm bs (fun x hx => hh x (by simp [hx]))
    have h2 := hh b (by simp)
    have hp : 0 < 256 ^ bs.length := Nat.pow_pos (by omega)
    simp only [val, List.length_cons, Nat.pow_succ]
    have e : m * (256 ^ bs.length * 256 - 1) = 256 * (m * (256 ^ bs.length - 1)) + 255 * m := by
      generalize 256 ^ bs.length = p at hp
      obtain ⟨p, rfl⟩ : ∃ q, p = q + 1 := ⟨p - 1, by omega⟩
      have : (p + 1) * 256 - 1 = 256 * p + 255 := by omega
      rw [this, Nat.mul_add, Nat.add_sub_cancel, Nat.mul_comm 255, Nat.mul_left_comm]
    rw [e]
    omega
theorem steps {n : Nat} (h : n < 18446744073709551616) : ones3 (ones2 (ones1 (n : Int))) = ((val ((by8 n).map g) : Nat) : Int) ∧ val ((by8 n).map g) ≤ 578721382704613384 := by
  have hb := by8_lt n
  have hv := by8_val h
  have m85 : msk 8 85 = 6148914691236517205 := by decide +kernel
  have m51 : msk 8 51 = 3689348814741910323 := by decide +kernel
  have m15 : msk 8 15 = 1085102592571150095 := by decide +kernel
  generalize hbs : by8 n = bs at hb hv
  have k8 : bs.length = 8 := by rw [← hbs]; rfl
  have a1 := half_msk bs hb
  have b1 := and_msk 85 (by omega) bs hb
  rw [k8, m85, hv] at a1 b1
  have e1 : ones1 (n : Int) = ((val (bs.map g1) : Nat) : Int) := by
    rw [ones1_nat h, a1, b1, val_add]
    rfl
  have h1 : ∀ b ∈ bs.map g1, b < 256 := by
    intro b hm
    obtain ⟨x, hx, rfl⟩ := List.mem_map.mp hm
    exact (g_facts x (hb x hx)).1
  have k1 : (bs.map g1).length = 8 := by rw [List.length_map, k8]
  have v1 : val (bs.map g1) < 18446744073709551616 := by
    have := val_lt _ h1
    rw [k1] at this
    exact this
  have a2 := quart_msk (bs.map g1) h1
  have b2 := and_msk 51 (by omega) (bs.map g1) h1
  rw [k1, m51] at a2 b2
  have e2 : ones2 ((val (bs.map g1) : Nat) : Int) = ((val ((bs.map g1).map g2) : Nat) : Int) := by
    rw [ones2_nat v1, a2, b2, val_add]
    rfl
  have h2 : ∀ b ∈ (bs.map g1).map g2, b / 16 ≤ 4 ∧ b % 16 ≤ 4 := by
    intro b hm
    obtain ⟨y, hy, rfl⟩ := List.mem_map.mp hm
    obtain ⟨x, hx, rfl⟩ := List.mem_map.mp hy
    have := g_facts x (hb x hx)
    exact ⟨this.2.1, this.2.2.1⟩
  have k2 : ((bs.map g1).map g2).length = 8 := by rw [List.length_map, k1]
  have v2 : val ((bs.map g1).map g2) ≤ 4919131752989213764 := by
    have := val_le 68 (by omega) _ (fun b hm => by have := h2 b hm; omega : ∀ b ∈ (bs.map g1).map g2, b ≤ 68)
    rw [k2] at this
    have e : (256 : Nat) ^ 8 = 18446744073709551616 := by decide
    rw [e] at this
    omega
  have a3 := (sixt_msk ((bs.map g1).map g2) h2).1
  rw [k2, m15] at a3
  have e3 : ones3 ((val ((bs.map g1).map g2) : Nat) : Int) = ((val (bs.map g) : Nat) : Int) := by
    rw [ones3_nat v2, a3, List.map_map, List.map_map]
    rfl
  refine ⟨by rw [e1, e2, e3], ?_⟩
  have k3 : (bs.map g).length = 8 := by rw [List.length_map, k8]
  have := val_le 8 (by omega) (bs.map g) (fun b hm => by
    obtain ⟨x, hx, rfl⟩ := List.mem_map.mp hm
    exact (g_facts x (hb x hx)).2.2.2.1)
  rw [k3] at this
  have e : (256 : Nat) ^ 8 = 18446744073709551616 := by decide
  rw [e] at this
  omega
theorem hsum (c0 c1 c2 c3 c4 c5 c6 c7 a1 a2 a3 a4 a5 a6 q r t u : Nat) (h0 : c0 ≤ 8) (h1 : c1 ≤ 8) (h2 : c2 ≤ 8) (h3 : c3 ≤ 8) (h4 : c4 ≤ 8) (h5 : c5 ≤ 8) (h6 : c6 ≤ 8) (h7 : c7 ≤ 8)
    (e6 : a6 = c6 + 256 * c7) (e5 : a5 = c5 + 256 * a6) (e4 : a4 = c4 + 256 * a5) (e3 : a3 = c3 + 256 * a4) (e2 : a2 = c2 + 256 * a3) (e1 : a1 = c1 + 256 * a2) (e0 : q = c0 + 256 * a1)
    (er : r = q + q / 256) (et : t = r + r / 65536) (eu : u = t + t / 4294967296) : u % 128 = c0 + c1 + c2 + c3 + c4 + c5 + c6 + c7 := by
  have d1 : q / 256 = a1 := by omega
  rw [d1] at er
  have d2 : r = (c0 + c1) + 256 * (c1 + c2) + 65536 * (a2 + a3) := by omega
  have d3 : r / 65536 = a2 + a3 := by omega
  rw [d3] at et
  have d4 : t = (c0 + c1 + c2 + c3) + 256 * (c1 + c2 + c3 + c4) + 65536 * ((c2 + c3 + c4 + c5) + 256 * (c3 + c4 + c5 + c6)) + 4294967296 * (a4 + a5 + a6 + c7) := by omega
  have d5 : t / 4294967296 = a4 + a5 + a6 + c7 := by omega
  rw [d5] at eu
  clear d1 d3 d5 er et d2
  omega
theorem gsum (x0 x1 x2 x3 x4 x5 x6 x7 y0 y1 y2 y3 y4 y5 y6 y7 n : Nat) (z0 : y0 = 0 → x0 = 0) (z1 : y1 = 0 → x1 = 0) (z2 : y2 = 0 → x2 = 0) (z3 : y3 = 0 → x3 = 0) (z4 : y4 = 0 → x4 = 0) (z5 : y5 = 0 → x5 = 0) (z6 : y6 = 0 → x6 = 0) (z7 : y7 = 0 → x7 = 0)
    (h : val [x0, x1, x2, x3, x4, x5, x6, x7] = n) (hn : 0 < n) : 1 ≤ y0 + y1 + y2 + y3 + y4 + y5 + y6 + y7 := by
  simp only [val] at h
  rcases Nat.eq_zero_or_pos (y0 + y1 + y2 + y3 + y4 + y5 + y6 + y7) with hs | hs
  · have hy : y0 = 0 ∧ y1 = 0 ∧ y2 = 0 ∧ y3 = 0 ∧ y4 = 0 ∧ y5 = 0 ∧ y6 = 0 ∧ y7 = 0 := by
      clear z0 z1 z2 z3 z4 z5 z6 z7 h hn
      omega
    have e0 := z0 hy.1
    have e1 := z1 hy.2.1
    have e2 := z2 hy.2.2.1
    have e3 := z3 hy.2.2.2.1
    have e4 := z4 hy.2.2.2.2.1
    have e5 := z5 hy.2.2.2.2.2.1
    have e6 := z6 hy.2.2.2.2.2.2.1
    have e7 := z7 hy.2.2.2.2.2.2.2
    subst e0; subst e1; subst e2; subst e3; subst e4; subst e5; subst e6; subst e7
    clear z0 z1 z2 z3 z4 z5 z6 z7
    omega
  · exact hs
/-- A word that isn't 0 has a bit. -/
theorem onesD_pos {w : Int} (hw : U w) : 0 ≤ onesD w ∧ onesD w ≤ 127 ∧ (w ≠ 0 → 1 ≤ onesD w) := by
  have hw' := hw
  unfold U at hw'
  have e : w = (w.toNat : Int) := by omega
  have hn : w.toNat < 18446744073709551616 := by omega
  obtain ⟨ho, hv⟩ := steps hn
  have hb := by8_lt w.toNat
  have hval := by8_val hn
  have e1 : onesD w = (((((val ((by8 w.toNat).map g)) + (val ((by8 w.toNat).map g)) / 256) + ((val ((by8 w.toNat).map g)) + (val ((by8 w.toNat).map g)) / 256) / 65536) + (((val ((by8 w.toNat).map g)) + (val ((by8 w.toNat).map g)) / 256) + ((val ((by8 w.toNat).map g)) + (val ((by8 w.toNat).map g)) / 256) / 65536) / 4294967296) % 128 : Nat) := by
    have e0 : onesD w = onesD (w.toNat : Int) := by rw [← e]
    rw [e0]
    unfold onesD
    rw [ho]
    generalize val ((by8 w.toNat).map g) = q at hv
    rw [ones4_nat (by omega), ones5_nat (by omega), ones6_nat (by omega), last_nat (by omega)]
  have gf := fun x hx => g_facts x (hb x hx)
  have hsm := hsum (g (w.toNat % 256)) (g (w.toNat / 256 % 256)) (g (w.toNat / 65536 % 256)) (g (w.toNat / 16777216 % 256)) (g (w.toNat / 4294967296 % 256)) (g (w.toNat / 1099511627776 % 256)) (g (w.toNat / 281474976710656 % 256)) (g (w.toNat / 72057594037927936 % 256)) _ _ _ _ _ _ (val ((by8 w.toNat).map g)) _ _ _
    (gf _ (by simp [by8])).2.2.2.1 (gf _ (by simp [by8])).2.2.2.1 (gf _ (by simp [by8])).2.2.2.1 (gf _ (by simp [by8])).2.2.2.1 (gf _ (by simp [by8])).2.2.2.1 (gf _ (by simp [by8])).2.2.2.1 (gf _ (by simp [by8])).2.2.2.1 (gf _ (by simp [by8])).2.2.2.1
    rfl rfl rfl rfl rfl rfl rfl rfl rfl rfl
  rw [e1, hsm]
  refine ⟨Int.natCast_nonneg _, ?_, fun hne => ?_⟩
  · rw [← hsm]
    omega
  · have hpos : 0 < w.toNat := by omega
    have := gsum _ _ _ _ _ _ _ _ _ _ _ _ _ _ _ _ w.toNat (gf (w.toNat % 256) (by simp [by8])).2.2.2.2 (gf (w.toNat / 256 % 256) (by simp [by8])).2.2.2.2 (gf (w.toNat / 65536 % 256) (by simp [by8])).2.2.2.2 (gf (w.toNat / 16777216 % 256) (by simp [by8])).2.2.2.2
      (gf (w.toNat / 4294967296 % 256) (by simp [by8])).2.2.2.2 (gf (w.toNat / 1099511627776 % 256) (by simp [by8])).2.2.2.2 (gf (w.toNat / 281474976710656 % 256) (by simp [by8])).2.2.2.2 (gf (w.toNat / 72057594037927936 % 256) (by simp [by8])).2.2.2.2 hval hpos
    exact Int.ofNat_le.mpr this
/-- How many numbers the words hold: 0 just if all are 0. -/
theorem madeGo_size (off : Int) : ∀ (ws : List Int) (i mn mx sz : Int), (∀ w ∈ ws, U w) → 0 ≤ sz → sz + 127 * ws.length ≤ 100000000 →
    sz ≤ (madeGo off i mn mx sz ws).2.2 ∧ ((∃ w ∈ ws, w ≠ 0) → sz + 1 ≤ (madeGo off i mn mx sz ws).2.2)
  | [], i, mn, mx, sz, _, _, _ => by simp [madeGo]
  | w :: ws, i, mn, mx, sz, hu, h0, h1 => by
    have hw := onesD_pos (hu w (by simp))
    simp only [List.length_cons] at h1
    unfold madeGo
    by_cases hz : w = 0
    · rw [if_pos hz]
      obtain ⟨a, b⟩ := madeGo_size off ws (i + 1) mn mx sz (fun x hx => hu x (by simp [hx])) h0 (by omega)
      refine ⟨a, fun ⟨x, hx, hne⟩ => b ⟨x, ?_, hne⟩⟩
      rcases List.mem_cons.mp hx with rfl | hx
      · exact absurd hz hne
      · exact hx
    · rw [if_neg hz]
      have e : IntKind.i64.wrap (sz + onesD w) = sz + onesD w := wrap_ok (by omega) (by omega)
      rw [e]
      obtain ⟨a, b⟩ := madeGo_size off ws (i + 1) (if sz = 0 then IntKind.i64.wrap (IntKind.i64.wrap (off + IntKind.i64.wrap (64 * i)) + tzD w) else mn) (IntKind.i64.wrap (IntKind.i64.wrap (IntKind.i64.wrap (IntKind.i64.wrap (off + IntKind.i64.wrap (64 * i)) + 64) - 1) - lzD w)) (sz + onesD w) (fun x hx => hu x (by simp [hx])) (by omega) (by omega)
      have := hw.2.2 hz
      exact ⟨by omega, fun _ => by omega⟩
theorem size_ofD {xs : List Int} (h : okL xs = true) : sizeD (ofD xs).1 ≠ 0 := by
  rw [ofD_ok h]
  obtain ⟨w1, w2, w3⟩ := words_spec h
  have ho := okL_ok h
  have hlen : (wordsL xs).length ≤ 1100 := by
    have h1 := ho.wide
    have h2 := ho.le
    rw [w1, ho.len]
    omega
  obtain ⟨_, b⟩ := madeGo_size (placeD (minL xs)) (wordsL xs) 0 0 0 0 w2 (by omega) (by omega)
  have hne := (okL_iff.mp h).1
  have hx := (maxL_spec hne).2
  have hm := w3 (maxL xs)
  rw [decide_eq_true hx] at hm
  have hex : ∃ w ∈ wordsL xs, w ≠ 0 := by
    unfold memW at hm
    rw [Bool.and_eq_true] at hm
    have h2 := hm.2
    rw [List.getD_eq_getElem?_getD] at h2
    cases hg : (wordsL xs)[((maxL xs - placeD (minL xs)) / 64).toNat]? with
    | none => rw [hg] at h2; simp [tb_zero] at h2
    | some w =>
      rw [hg] at h2
      refine ⟨w, List.mem_of_getElem? hg, fun e => ?_⟩
      rw [e] at h2
      simp [tb_zero] at h2
  have := b hex
  show (madeGo (placeD (minL xs)) 0 0 0 0 (wordsL xs)).2.2 ≠ 0
  omega
end Go.Proofs.YthdpbmcidebagaaGreatDoor.Ev
