/-
How many numbers a domain has: OnesCount64 is the number of bits, and a domain's size the length of its list.
Conditions: none.
Linear constraints: what the masks keep; a domain as a list; what is cut of it.
Conditions: none.
-/
import Derived.Test.YtnojoaghcbljfaaGreatDoorLb
import Derived.Test.YtnojoaghcbljfaaGreatDoorNd
set_option linter.unusedVariables false
set_option linter.unusedSimpArgs false
set_option maxRecDepth 100000
namespace Go.Proofs.YtnojoaghcbljfaaGreatDoor.Ev
open Go
def cnt8 (b : Nat) : Nat := (List.range 8).countP fun j => b.testBit j
theorem g_cnt : ∀ b, b < 256 → g b = cnt8 b := by decide +kernel
theorem count_blocks (p : Nat → Bool) : ∀ n, (List.range (8 * n)).countP p = ((List.range n).map fun i => (List.range 8).countP fun j => p (8 * i + j)).sum
 | 0 => rfl
 | n + 1 => by
  rw [List.range_succ (n := n), List.map_append, List.sum_append, ← count_blocks p n, show 8 * (n + 1) = 8 * n + 8 by omega, List.range_add, List.countP_append, List.countP_map]
  simp [Function.comp_def]
theorem byte_bit (n i j : Nat) (hj : j < 8) : (n / 256 ^ i % 256).testBit j = n.testBit (8 * i + j) := by
 rw [show (256 : Nat) = 2 ^ 8 from rfl, Nat.testBit_mod_two_pow, decide_eq_true hj, Bool.true_and, ← Nat.pow_mul, Nat.testBit_div_two_pow, Nat.add_comm j]
theorem ones_bits {w : Int} (hw : U w) : onesD w = (((List.range 64).countP fun j => tb w j : Nat) : Int) := by
 have hw' := hw
 unfold U at hw'
 have e : w = (w.toNat : Int) := by omega
 have hn : w.toNat < 18446744073709551616 := by omega
 obtain ⟨ho, hv⟩ := steps hn
 have hb := by8_lt w.toNat
 have e1 : onesD w = (((((val ((by8 w.toNat).map g)) + (val ((by8 w.toNat).map g)) / 256) + ((val ((by8 w.toNat).map g)) + (val ((by8 w.toNat).map g)) / 256) / 65536) + (((val ((by8 w.toNat).map g)) + (val ((by8 w.toNat).map g)) / 256) + ((val ((by8 w.toNat).map g)) + (val ((by8 w.toNat).map g)) / 256) / 65536) / 4294967296) % 128 : Nat) := by
  have e0 : onesD w = onesD (w.toNat : Int) := by rw [← e]
  rw [e0]
  unfold onesD
  rw [ho]
  generalize val ((by8 w.toNat).map g) = q at hv
  rw [ones4_nat (by omega), ones5_nat (by omega), ones6_nat (by omega), last_nat (by omega)]
 have gf := fun x hx => g_facts x (hb x hx)
 have hsm := hsum (g (w.toNat % 256)) (g (w.toNat / 256 % 256)) (g (w.toNat / 65536 % 256)) (g (w.toNat / 16777216 % 256)) (g (w.toNat / 4294967296 % 256)) (g (w.toNat / 1099511627776 % 256)) (g (w.toNat / 281474976710656 % 256)) (g (w.toNat / 72057594037927936 % 256)) _ _ _ _ _ _ (val ((by8 w.toNat).map g)) _ _ _
  (gf _ (by simp [by8])).2.2.2.1 (gf _ (by simp [by8])).2.2.2.1 (gf _ (by simp [by8])).2.2.2.1 (gf _ (by simp [by8])).2.2.2.1 (gf _ (by simp [by8])).2.2.2.1 (gf _ (by simp [by8])).2.2.2.1 (gf _ (by simp [by8])).2.2.2.1 (gf _ (by simp [by8])).2.2.2.1
  rfl rfl rfl rfl rfl rfl rfl rfl rfl rfl
 rw [e1, hsm]
 congr 1
 have blocks := count_blocks (fun j => tb w j) 8
 have byte : ∀ i, i < 8 → ((List.range 8).countP fun j => tb w (8 * i + j)) = g (w.toNat / 256 ^ i % 256) := fun i hi => by
  rw [g_cnt _ (Nat.mod_lt _ (by decide))]
  unfold cnt8
  refine List.countP_congr fun j hj => ?_
  rw [byte_bit _ _ _ (List.mem_range.mp hj)]
  exact Iff.rfl
 refine Eq.trans ?_ blocks.symm
 have e8 : List.range 8 = [0, 1, 2, 3, 4, 5, 6, 7] := rfl
 conv => rhs; rw [show ((List.range 8).map fun i => (List.range 8).countP fun j => tb w (8 * i + j)) = (List.range 8).map fun i => g (w.toNat / 256 ^ i % 256) from List.map_congr_left fun i hi => byte i (List.mem_range.mp hi)]
 rw [e8]
 simp only [List.map_cons, List.map_nil, List.sum_cons, List.sum_nil]
 rw [show w.toNat / 256 ^ 0 = w.toNat by simp, show (256 : Nat) ^ 1 = 256 from rfl, show (256 : Nat) ^ 2 = 65536 from rfl, show (256 : Nat) ^ 3 = 16777216 from rfl, show (256 : Nat) ^ 4 = 4294967296 from rfl, show (256 : Nat) ^ 5 = 1099511627776 from rfl, show (256 : Nat) ^ 6 = 281474976710656 from rfl, show (256 : Nat) ^ 7 = 72057594037927936 from rfl]
 omega
theorem word_bits {b w : Int} (h : U w) : bitsFrom 64 b w = ((List.range 64).filter fun (j : Nat) => tb w j).map fun (j : Nat) => b + (j : Int) := by
 obtain ⟨a1, a2⟩ := bitsFrom_spec 64 b w h (Nat.le_refl _) (fun j hj => by omega)
 refine rising_ext a2 ?_ fun v => ?_
 ·refine List.pairwise_map.mpr ?_
  refine List.Pairwise.imp (fun {x y} h => ?_) (List.pairwise_lt_range.filter _)
  omega
 ·rw [a1]
  simp only [List.mem_map, List.mem_filter, List.mem_range]
  constructor
  ·rintro ⟨j, h1, h2, rfl⟩; exact ⟨j, ⟨h1, h2⟩, rfl⟩
  ·rintro ⟨j, ⟨h1, h2⟩, rfl⟩; exact ⟨j, h1, h2, rfl⟩
theorem ones_len {b w : Int} (h : U w) : onesD w = ((bitsFrom 64 b w).length : Int) := by
 rw [ones_bits h, word_bits h, List.length_map, List.countP_eq_length_filter]
theorem madeGo_count (off : Int) : ∀ (ws : List Int) (i mn mx sz : Int), (∀ w ∈ ws, U w) → 0 ≤ sz → sz + 127 * ws.length ≤ 100000000 →
  (madeGo off i mn mx sz ws).2.2 = sz + ((listFrom off i ws).length : Int)
 | [], i, mn, mx, sz, _, _, _ => by simp [madeGo, listFrom]
 | w :: ws, i, mn, mx, sz, hu, h0, h1 => by
  have hw := onesD_pos (hu w (by simp))
  have hl := ones_len (b := off + 64 * i) (hu w (by simp))
  simp only [List.length_cons] at h1
  unfold madeGo listFrom
  rw [List.length_append]
  by_cases hz : w = 0
  ·rw [if_pos hz, madeGo_count off ws (i + 1) mn mx sz (fun x hx => hu x (by simp [hx])) h0 (by omega)]
   have e : bitsFrom 64 (off + 64 * i) w = [] := by rw [hz]; exact bitsFrom_zero _ _
   rw [e]
   simp
  ·rw [if_neg hz]
   have e : IntKind.i64.wrap (sz + onesD w) = sz + onesD w := wrap_ok (by omega) (by omega)
   rw [e]
   rw [madeGo_count off ws (i + 1) _ _ (sz + onesD w) (fun x hx => hu x (by simp [hx])) (by omega) (by omega)]
   omega
theorem made_size {d : Dom} (h : Made d) : sizeD d = ((listD d).length : Int) := by
 obtain ⟨off, ws, mn, mx, sz⟩ := d
 obtain ⟨wf, len, eq⟩ := h
 have hu := wf.ws
 simp only at hu len
 have eq : (off, ws, mn, mx, sz) = (off, ws, madeGo off 0 0 0 0 ws) := eq
 have e8 : sz = (madeGo off 0 0 0 0 ws).2.2 := by
  have := congrArg (fun d : Dom => d.2.2.2.2) eq
  exact this
 show sz = ((listFrom off 0 ws).length : Int)
 rw [e8, madeGo_count off ws 0 0 0 0 hu (by omega) (by omega)]
 omega
section
variable {d : Dom} {k : Int → Int → Int} {p : Int → Bool}
theorem cut_list (h : Made d) (hk : Keeps k p) : listD (madeD d.1 (cutW d k)) = (listD d).filter p := by
 refine rising_ext (listD_mem (cut_made h hk).wf).2 ((listD_mem h.wf).2.filter _) fun v => ?_
 rw [cut_mem h hk, List.mem_filter]
theorem filter_len_eq {l : List Int} (h : (l.filter p).length = l.length) : l.filter p = l := (List.filter_sublist (p := p)).eq_of_length h
theorem cut_all (h : Made d) (hk : Keeps k p) :
  listD (cutD d k).1 = (listD d).filter p ∧ (((listD d).filter p ≠ [] ∨ listD d = []) → Made (cutD d k).1) ∧ ((cutD d k).2 = 0 ↔ (listD d).filter p = listD d) ∧ ((cutD d k).2 = 4 ↔ (listD d).filter p = [] ∧ listD d ≠ []) := by
 have s1 := made_size h
 have s2 := made_size (cut_made h hk)
 rw [cut_list h hk] at s2
 have hle : ((listD d).filter p).length ≤ (listD d).length := List.length_filter_le _ _
 have cl := cut_list h hk
 have cm := cut_made h hk
 unfold cutD
 by_cases c1 : sizeD (madeD d.1 (cutW d k)) = sizeD d
 ·rw [if_pos c1]
  have e : (listD d).filter p = listD d := filter_len_eq (by omega)
  refine ⟨e.symm, fun _ => h, ⟨fun _ => e, fun _ => rfl⟩, ⟨fun h4 => (by cases h4), fun ⟨h1, h2⟩ => absurd (e.symm.trans h1) h2⟩⟩
 ·rw [if_neg c1]
  have ne : ¬ (listD d).filter p = listD d := fun e => c1 (by rw [s2, s1, e])
  by_cases c2 : sizeD (madeD d.1 (cutW d k)) = 0
  ·rw [if_pos c2]
   have e : (listD d).filter p = [] := List.length_eq_zero_iff.mp (by omega)
   have dn : listD d ≠ [] := fun h => ne (by rw [e, h])
   exact ⟨e.symm, fun h => (h.elim (fun h => absurd e h) fun h => absurd h dn), ⟨fun h => (by cases h), fun h => absurd h ne⟩, ⟨fun _ => ⟨e, dn⟩, fun _ => rfl⟩⟩
  ·rw [if_neg c2]
   have en : ¬ (listD d).filter p = [] := fun e => c2 (by rw [s2, e]; rfl)
   split
   ·exact ⟨cl, fun _ => cm, ⟨fun h => (by cases h), fun h => absurd h ne⟩, ⟨fun h => (by cases h), fun h => absurd h.1 en⟩⟩
   ·split
    ·exact ⟨cl, fun _ => cm, ⟨fun h => (by cases h), fun h => absurd h ne⟩, ⟨fun h => (by cases h), fun h => absurd h.1 en⟩⟩
    ·split
     ·exact ⟨cl, fun _ => cm, ⟨fun h => (by cases h), fun h => absurd h ne⟩, ⟨fun h => (by cases h), fun h => absurd h.1 en⟩⟩
     ·exact ⟨cl, fun _ => cm, ⟨fun h => (by cases h), fun h => absurd h ne⟩, ⟨fun h => (by cases h), fun h => absurd h.1 en⟩⟩
end
end Go.Proofs.YtnojoaghcbljfaaGreatDoor.Ev
set_option linter.unusedVariables false
set_option linter.unusedSimpArgs false
set_option maxRecDepth 100000
namespace Go.Proofs.YtnojoaghcbljfaaGreatDoor.Ev
open Go
theorem not_u64 {w : Int} (h : U w) : U (bitsW .xor .u64 18446744073709551615 w) ∧ ∀ j, j < 64 → tb (bitsW .xor .u64 18446744073709551615 w) j = !(tb w j) := by
 have hw := h
 unfold U at h
 have e : bitsW .xor .u64 18446744073709551615 w = ((18446744073709551615 ^^^ w.toNat : Nat) : Int) := by
  show IntKind.u64.wrap ((BitVec.ofInt 64 18446744073709551615 ^^^ BitVec.ofInt 64 w).toNat : Int) = _
  have e1 : (BitVec.ofInt 64 18446744073709551615).toNat = 18446744073709551615 := by decide
  have e2 : (BitVec.ofInt 64 w).toNat = w.toNat := by rw [BitVec.toNat_ofInt]; omega
  rw [BitVec.toNat_xor, e1, e2, IntKind.wrap_u64]
  have : 18446744073709551615 ^^^ w.toNat < 2 ^ 64 := Nat.xor_lt_two_pow (by decide) (by show _ < 18446744073709551616; omega)
  have : 18446744073709551615 ^^^ w.toNat < 18446744073709551616 := this
  omega
 rw [e]
 have hl : 18446744073709551615 ^^^ w.toNat < 2 ^ 64 := Nat.xor_lt_two_pow (by decide) (by show _ < 18446744073709551616; omega)
 have hl : 18446744073709551615 ^^^ w.toNat < 18446744073709551616 := hl
 refine ⟨⟨by omega, by omega⟩, fun j hj => ?_⟩
 unfold tb
 rw [Int.toNat_natCast, Nat.testBit_xor, show (18446744073709551615 : Nat) = 2 ^ 64 - 1 from rfl, Nat.testBit_two_pow_sub_one, decide_eq_true hj]
 simp
theorem full_u : U 18446744073709551615 ∧ ∀ j, j < 64 → tb 18446744073709551615 j = true := by
 refine ⟨⟨by omega, by omega⟩, fun j hj => ?_⟩
 unfold tb
 rw [show (18446744073709551615 : Int).toNat = 2 ^ 64 - 1 from rfl, Nat.testBit_two_pow_sub_one, decide_eq_true hj]
theorem shl_full {s : Nat} (hs : s < 64) : U (shlW .u64 18446744073709551615 (s : Int)) ∧ ∀ j, j < 64 → tb (shlW .u64 18446744073709551615 (s : Int)) j = decide (s ≤ j) := by
 have e : shlW .u64 18446744073709551615 (s : Int) = (((18446744073709551615 * 2 ^ s) % 18446744073709551616 : Nat) : Int) := by
  unfold shlW
  rw [Int.toNat_natCast, show min s IntKind.u64.bits = s from Nat.min_eq_left (by show s ≤ 64; omega), IntKind.wrap_u64]
  have : (18446744073709551615 : Int) * 2 ^ s = ((18446744073709551615 * 2 ^ s : Nat) : Int) := by rw [Int.natCast_mul, Int.natCast_pow]; rfl
  rw [this]
  rfl
 rw [e]
 have hl : (18446744073709551615 * 2 ^ s) % 18446744073709551616 < 18446744073709551616 := Nat.mod_lt _ (by decide)
 refine ⟨⟨by omega, by omega⟩, fun j hj => ?_⟩
 unfold tb
 rw [Int.toNat_natCast, show (18446744073709551616 : Nat) = 2 ^ 64 from rfl, Nat.testBit_mod_two_pow, decide_eq_true hj, Bool.true_and, ← Nat.shiftLeft_eq, Nat.testBit_shiftLeft, show (18446744073709551615 : Nat) = 2 ^ 64 - 1 from rfl, Nat.testBit_two_pow_sub_one, decide_eq_true (show j - s < 64 by omega), Bool.and_true]
theorem above_keeps (v : Int) (hv : -1000064 ≤ v ∧ v ≤ 1000064) : ∀ a : Int, a % 64 = 0 → -1000064 ≤ a → a ≤ 2300000 → U (aboveD a v) ∧ ∀ j : Nat, j < 64 → tb (aboveD a v) j = decide (v ≤ a + (j : Int)) := by
 intro a h0 h1 h2
 unfold aboveD
 by_cases c1 : v ≤ a
 ·rw [if_pos c1]
  exact ⟨full_u.1, fun j hj => by rw [full_u.2 j hj, decide_eq_true (by omega)]⟩
 ·rw [if_neg c1]
  by_cases c2 : v - a ≥ 64
  ·rw [if_pos c2]
   exact ⟨⟨by omega, by omega⟩, fun j hj => by rw [tb_zero, decide_eq_false (by omega)]⟩
  ·rw [if_neg c2]
   have e : v - a = (((v - a).toNat : Nat) : Int) := by omega
   have hs : (v - a).toNat < 64 := by omega
   obtain ⟨g1, g2⟩ := shl_full hs
   rw [e]
   refine ⟨g1, fun j hj => ?_⟩
   rw [g2 j hj]
   by_cases c3 : (v - a).toNat ≤ j
   ·rw [decide_eq_true c3, decide_eq_true (by omega)]
   ·rw [decide_eq_false c3, decide_eq_false (by omega)]
theorem keeps_least {v : Int} (hv : -1000064 ≤ v ∧ v ≤ 1000064) : Keeps (leastK v) fun x => decide (v ≤ x) := fun a w h0 h1 h2 => above_keeps v hv a h0 h1 h2
theorem keeps_most {v : Int} (hv : -1000065 ≤ v ∧ v ≤ 1000063) : Keeps (mostK v) fun x => decide (x ≤ v) := fun a w h0 h1 h2 => by
 obtain ⟨g1, g2⟩ := above_keeps (v + 1) (by omega) a h0 h1 h2
 obtain ⟨g3, g4⟩ := not_u64 g1
 refine ⟨g3, fun j hj => ?_⟩
 show tb (bitsW .xor .u64 18446744073709551615 (aboveD a (v + 1))) j = decide (a + (j : Int) ≤ v)
 rw [g4 j hj, g2 j hj]
 by_cases c : v + 1 ≤ a + (j : Int)
 ·rw [decide_eq_true c, decide_eq_false (by omega)]; rfl
 ·rw [decide_eq_false c, decide_eq_true (by omega)]; rfl
theorem keeps_no {v : Int} (hv : bigB v = true) : Keeps (noK v) fun x => !(decide (x = v)) := fun a w h0 h1 h2 => by
 have hp := place_any hv
 show U (noK v a w) ∧ ∀ j : Nat, j < 64 → tb (noK v a w) j = !(decide (a + (j : Int) = v))
 unfold noK
 rw [hp]
 by_cases c : a = v / 64 * 64
 ·rw [if_pos c]
  have e : v - a = (((v - a).toNat : Nat) : Int) := by omega
  have hs : (v - a).toNat < 64 := by omega
  obtain ⟨s1, s2⟩ := shl_one hs
  rw [e, s1]
  obtain ⟨g3, g4⟩ := not_u64 s2
  refine ⟨g3, fun j hj => ?_⟩
  rw [g4 j hj]
  unfold tb
  rw [Int.toNat_natCast, Nat.testBit_two_pow]
  by_cases c2 : (v - a).toNat = j
  ·rw [decide_eq_true c2, decide_eq_true (by omega)]
  ·rw [decide_eq_false c2, decide_eq_false (by omega)]
 ·rw [if_neg c]
  exact ⟨full_u.1, fun j hj => by rw [full_u.2 j hj, decide_eq_false (by omega)]; rfl⟩
structure G (d : Dom) : Prop where
  made : Made d
  ne : listD d ≠ []
  inn : ∀ v ∈ listD d, inD v = true
theorem G.ris {d : Dom} (h : G d) : Rising (listD d) := (listD_mem h.made.wf).2
theorem G.dom {d : Dom} (h : G d) : domB d = true := by
 have h1 := h.made.wf.lo
 have h2 := h.made.wf.hi
 have h3 := h.made.len
 unfold domB wordsB
 rw [decide_eq_true (by omega), decide_eq_true (by omega), Nat.ble_eq_true_of_le (show d.2.1.length ≤ 1000000 by omega)]
 rfl
theorem G.ends {d : Dom} (h : G d) : (minD d ∈ listD d ∧ ∀ v ∈ listD d, minD d ≤ v) ∧ (maxD d ∈ listD d ∧ ∀ v ∈ listD d, v ≤ maxD d) := ((made_ends h.made).2 h.ne).2
theorem inD_mill {v : Int} (h : inD v = true) : millB v = true := h
theorem G.endsB {d : Dom} (h : G d) : Ev.endsB d = true := by
 unfold Ev.endsB
 rw [inD_mill (h.inn _ h.ends.1.1), inD_mill (h.inn _ h.ends.2.1)]
 rfl
theorem G.size {d : Dom} (h : G d) : sizeD d = ((listD d).length : Int) := made_size h.made
theorem G_ofD {x : List Int} (h : okL x = true) : G (ofD x).1 := by
 have a := (list_ofD h).1
 refine ⟨made_ofD h, ?_, fun v hv => ?_⟩
 ·obtain ⟨v, hv⟩ := List.exists_mem_of_ne_nil _ (okL_iff.mp h).1
  exact List.ne_nil_of_mem ((a v).mpr hv)
 ·exact (okL_iff.mp h).2.1 v ((a v).mp hv)
theorem rising_ends : ∀ {l : List Int}, Rising l → l ≠ [] → (∀ v ∈ l, l.getD 0 0 ≤ v) ∧ ∀ v ∈ l, v ≤ l.getD (l.length - 1) 0
 | [], _, h => absurd rfl h
 | [x], _, _ => by simp
 | x :: y :: l, hr, _ => by
  obtain ⟨h1, h2⟩ := List.pairwise_cons.mp hr
  obtain ⟨g1, g2⟩ := rising_ends h2 (by simp)
  have e : (x :: y :: l).getD ((x :: y :: l).length - 1) 0 = (y :: l).getD ((y :: l).length - 1) 0 := by simp
  refine ⟨fun v hv => ?_, fun v hv => ?_⟩
  ·rcases List.mem_cons.mp hv with rfl | hv
   ·simp
   ·have := h1 v hv
    show x ≤ v
    omega
  ·rw [e]
   rcases List.mem_cons.mp hv with rfl | hv
   ·have := h1 y (by simp)
    have := g2 y (by simp)
    omega
   ·exact g2 v hv
theorem G.first {d : Dom} (h : G d) : (listD d).getD 0 0 = minD d := by
 obtain ⟨g1, _⟩ := rising_ends h.ris h.ne
 have hl : 0 < (listD d).length := List.length_pos_iff.mpr h.ne
 have h1 := g1 _ h.ends.1.1
 have h2 := h.ends.1.2 _ (getD_memD hl 0)
 omega
theorem G.last {d : Dom} (h : G d) : (listD d).getD ((listD d).length - 1) 0 = maxD d := by
 obtain ⟨_, g2⟩ := rising_ends h.ris h.ne
 have hl : 0 < (listD d).length := List.length_pos_iff.mpr h.ne
 have h1 := g2 _ h.ends.2.1
 have h2 := h.ends.2.2 _ (getD_memD (show (listD d).length - 1 < (listD d).length by omega) 0)
 omega
theorem G.low {d : Dom} (h : G d) (k : Int) : lowR k (listD d) = leastT k d := by
 unfold lowR leastT
 rw [h.first, h.last]
 split <;> split <;> omega
structure CutOf (r : Dom × Int) (l F : List Int) : Prop where
  four : r.2 = 4 ↔ F = []
  zero : r.2 = 0 ↔ F = l
  out : F ≠ [] → listD r.1 = F ∧ G r.1
theorem cut_G {d : Dom} {k : Int → Int → Int} {p : Int → Bool} (h : G d) (hk : Keeps k p) : CutOf (cutD d k) (listD d) ((listD d).filter p) := by
 obtain ⟨a, b, c, e⟩ := cut_all h.made hk
 refine ⟨?_, c, fun hne => ⟨a, b (.inl hne), by rw [a]; exact hne, fun v hv => ?_⟩⟩
 ·rw [e]
  exact ⟨fun h => h.1, fun h1 => ⟨h1, h.ne⟩⟩
 ·rw [a] at hv
  exact h.inn v (List.mem_filter.mp hv).1
theorem filter_in {l : List Int} {p q : Int → Bool} (h : ∀ v ∈ l, p v = q v) : l.filter p = l.filter q := List.filter_congr h
theorem cutT_G {d : Dom} (h : G d) (k n : Int) : CutOf (cutT k n d) (listD d) ((listD d).filter fun v => decide (k * v ≤ n)) := by
 unfold cutT quoN
 by_cases c1 : k > 0
 ·rw [if_pos c1]
  have hr := hi_range (n / k)
  have e : (listD d).filter (fun v => decide (k * v ≤ n)) = (listD d).filter (fun v => decide (v ≤ hiV (n / k))) := filter_in fun v hv => by
   have hi := inD_iff.mp (h.inn v hv)
   have q : v ≤ n / k ↔ k * v ≤ n := by rw [Int.le_ediv_iff_mul_le c1, Int.mul_comm]
   have q2 : v ≤ hiV (n / k) ↔ v ≤ n / k := by unfold hiV; split <;> split <;> omega
   by_cases c : k * v ≤ n
   ·rw [decide_eq_true c, decide_eq_true (q2.mpr (q.mpr c))]
   ·rw [decide_eq_false c, decide_eq_false fun hh => c (q.mp (q2.mp hh))]
  rw [e]
  exact cut_G h (keeps_most (by omega))
 ·rw [if_neg c1]
  by_cases c2 : k < 0
  ·rw [if_pos c2]
   have hr := lo_range (n / k)
   have e : (listD d).filter (fun v => decide (k * v ≤ n)) = (listD d).filter (fun v => decide (loV (n / k) ≤ v)) := filter_in fun v hv => by
    have hi := inD_iff.mp (h.inn v hv)
    have q : n / k ≤ v ↔ k * v ≤ n := by
     have e1 : n / k = -(n / -k) := by rw [Int.ediv_neg, Int.neg_neg]
     have e2 := Int.le_ediv_iff_mul_le (a := -v) (b := n) (show 0 < -k by omega)
     have e3 : -v * -k = k * v := by rw [Int.neg_mul_neg, Int.mul_comm]
     rw [e3] at e2
     rw [e1, ← e2]
     generalize n / -k = q
     omega
    have q2 : loV (n / k) ≤ v ↔ n / k ≤ v := by unfold loV; split <;> split <;> omega
    by_cases c : k * v ≤ n
    ·rw [decide_eq_true c, decide_eq_true (q2.mpr (q.mpr c))]
    ·rw [decide_eq_false c, decide_eq_false fun hh => c (q.mp (q2.mp hh))]
   rw [e]
   exact cut_G h (keeps_least (by omega))
  ·rw [if_neg c2]
   have hk : k = 0 := by omega
   subst hk
   by_cases c3 : n < 0
   ·rw [if_pos c3]
    have e : (listD d).filter (fun v => decide (0 * v ≤ n)) = [] := by
     rw [List.filter_eq_nil_iff]
     intro v _
     rw [Int.zero_mul, decide_eq_false (by omega)]
     decide
    rw [e]
    exact ⟨⟨fun _ => rfl, fun _ => rfl⟩, ⟨fun h => (by cases h), fun hh => absurd hh.symm h.ne⟩, fun h => absurd rfl h⟩
   ·rw [if_neg c3]
    have e : (listD d).filter (fun v => decide (0 * v ≤ n)) = listD d := by
     rw [List.filter_eq_self]
     intro v _
     rw [Int.zero_mul, decide_eq_true (by omega)]
    rw [e]
    exact ⟨⟨fun h => (by cases h), fun hh => absurd hh h.ne⟩, ⟨fun _ => rfl, fun _ => rfl⟩, fun _ => ⟨rfl, h⟩⟩
theorem without_G {d : Dom} (h : G d) {v : Int} (hv : bigB v = true) : CutOf (withoutD d v) (listD d) ((listD d).filter fun x => !(decide (x = v))) := cut_G h (keeps_no hv)
end Go.Proofs.YtnojoaghcbljfaaGreatDoor.Ev
