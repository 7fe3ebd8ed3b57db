/-
How many numbers a domain has: OnesCount64 is the number of bits, and a domain's size the length of its list.
Conditions: none.
Tasks that share what there is: the program's answer is the document's: it is enough to look at a task's beginning and at others' sure beginnings within its run.
Conditions: the domains are not empty and as Of makes them.
-/
import Derived.Test.YtdihbphkbdelbaaGreatDoorLb
import Derived.Test.YtdihbphkbdelbaaGreatDoorMd
import Derived.Test.YtdihbphkbdelbaaGreatDoorDb
set_option linter.unusedVariables false
set_option linter.unusedSimpArgs false
set_option maxRecDepth 100000
namespace Go.Proofs.YtdihbphkbdelbaaGreatDoor.Ev
open Go
def cnt8 (b : Nat) : Nat := (List.range 8).countP fun j => b.testBit j
theorem g_cnt : ∀ b, b < 256 → g b = cnt8 b := by decide +kernel
theorem count_blocks (p : Nat → Bool) : ∀ n, (List.range (8 * n)).countP p = ((List.range n).map fun i => (List.range 8).countP fun j => p (8 * i + j)).sum
 | 0 => rfl
 | n + 1 => by
  rw [List.range_succ (n := n), List.map_append, List.sum_append, ← count_blocks p n, show 8 * (n + 1) = 8 * n + 8 by omega, List.range_add, List.countP_append, List.countP_map]
  simp [Function.comp_def]
theorem byte_bit (n i j : Nat) (hj : j < 8) : (n / 256 ^ i % 256).testBit j = n.testBit (8 * i + j) := by
 rw [show (256 : Nat) = 2 ^ 8 from rfl, Nat.testBit_mod_two_pow, decide_eq_true hj, Bool.true_and, ← Nat.pow_mul, Nat.testBit_div_two_pow, Nat.add_comm j]
theorem ones_bits {w : Int} (hw : U w) : onesD w = (((List.range 64).countP fun j => tb w j : Nat) : Int) := by
 have hw' := hw
 unfold U at hw'
 have e : w = (w.toNat : Int) := by omega
 have hn : w.toNat < 18446744073709551616 := by omega
 obtain ⟨ho, hv⟩ := steps hn
 have hb := by8_lt w.toNat
 have e1 : onesD w = (((((val ((by8 w.toNat).map g)) + (val ((by8 w.toNat).map g)) / 256) + ((val ((by8 w.toNat).map g)) + (val ((by8 w.toNat).map g)) / 256) / 65536) + (((val ((by8 w.toNat).map g)) + (val ((by8 w.toNat).map g)) / 256) + ((val ((by8 w.toNat).map g)) + (val ((by8 w.toNat).map g)) / 256) / 65536) / 4294967296) % 128 : Nat) := by
  have e0 : onesD w = onesD (w.toNat : Int) := by rw [← e]
  rw [e0]
  unfold onesD
  rw [ho]
  generalize val ((by8 w.toNat).map g) = q at hv
  rw [ones4_nat (by omega), ones5_nat (by omega), ones6_nat (by omega), last_nat (by omega)]
 have gf := fun x hx => g_facts x (hb x hx)
 have hsm := hsum (g (w.toNat % 256)) (g (w.toNat / 256 % 256)) (g (w.toNat / 65536 % 256)) (g (w.toNat / 16777216 % 256)) (g (w.toNat / 4294967296 % 256)) (g (w.toNat / 1099511627776 % 256)) (g (w.toNat / 281474976710656 % 256)) (g (w.toNat / 72057594037927936 % 256)) _ _ _ _ _ _ (val ((by8 w.toNat).map g)) _ _ _
  (gf _ (by simp [by8])).2.2.2.1 (gf _ (by simp [by8])).2.2.2.1 (gf _ (by simp [by8])).2.2.2.1 (gf _ (by simp [by8])).2.2.2.1 (gf _ (by simp [by8])).2.2.2.1 (gf _ (by simp [by8])).2.2.2.1 (gf _ (by simp [by8])).2.2.2.1 (gf _ (by simp [by8])).2.2.2.1
  rfl rfl rfl rfl rfl rfl rfl rfl rfl rfl
 rw [e1, hsm]
 congr 1
 have blocks := count_blocks (fun j => tb w j) 8
 have byte : ∀ i, i < 8 → ((List.range 8).countP fun j => tb w (8 * i + j)) = g (w.toNat / 256 ^ i % 256) := fun i hi => by
  rw [g_cnt _ (Nat.mod_lt _ (by decide))]
  unfold cnt8
  refine List.countP_congr fun j hj => ?_
  rw [byte_bit _ _ _ (List.mem_range.mp hj)]
  exact Iff.rfl
 refine Eq.trans ?_ blocks.symm
 have e8 : List.range 8 = [0, 1, 2, 3, 4, 5, 6, 7] := rfl
 conv => rhs; rw [show ((List.range 8).map fun i => (List.range 8).countP fun j => tb w (8 * i + j)) = (List.range 8).map fun i => g (w.toNat / 256 ^ i % 256) from List.map_congr_left fun i hi => byte i (List.mem_range.mp hi)]
 rw [e8]
 simp only [List.map_cons, List.map_nil, List.sum_cons, List.sum_nil]
 rw [show w.toNat / 256 ^ 0 = w.toNat by simp, show (256 : Nat) ^ 1 = 256 from rfl, show (256 : Nat) ^ 2 = 65536 from rfl, show (256 : Nat) ^ 3 = 16777216 from rfl, show (256 : Nat) ^ 4 = 4294967296 from rfl, show (256 : Nat) ^ 5 = 1099511627776 from rfl, show (256 : Nat) ^ 6 = 281474976710656 from rfl, show (256 : Nat) ^ 7 = 72057594037927936 from rfl]
 omega
theorem word_bits {b w : Int} (h : U w) : bitsFrom 64 b w = ((List.range 64).filter fun (j : Nat) => tb w j).map fun (j : Nat) => b + (j : Int) := by
 obtain ⟨a1, a2⟩ := bitsFrom_spec 64 b w h (Nat.le_refl _) (fun j hj => by omega)
 refine rising_ext a2 ?_ fun v => ?_
 ·refine List.pairwise_map.mpr ?_
  refine List.Pairwise.imp (fun {x y} h => ?_) (List.pairwise_lt_range.filter _)
  omega
 ·rw [a1]
  simp only [List.mem_map, List.mem_filter, List.mem_range]
  constructor
  ·rintro ⟨j, h1, h2, rfl⟩; exact ⟨j, ⟨h1, h2⟩, rfl⟩
  ·rintro ⟨j, ⟨h1, h2⟩, rfl⟩; exact ⟨j, h1, h2, rfl⟩
theorem ones_len {b w : Int} (h : U w) : onesD w = ((bitsFrom 64 b w).length : Int) := by
 rw [ones_bits h, word_bits h, List.length_map, List.countP_eq_length_filter]
theorem madeGo_count (off : Int) : ∀ (ws : List Int) (i mn mx sz : Int), (∀ w ∈ ws, U w) → 0 ≤ sz → sz + 127 * ws.length ≤ 100000000 →
  (madeGo off i mn mx sz ws).2.2 = sz + ((listFrom off i ws).length : Int)
 | [], i, mn, mx, sz, _, _, _ => by simp [madeGo, listFrom]
 | w :: ws, i, mn, mx, sz, hu, h0, h1 => by
  have hw := onesD_pos (hu w (by simp))
  have hl := ones_len (b := off + 64 * i) (hu w (by simp))
  simp only [List.length_cons] at h1
  unfold madeGo listFrom
  rw [List.length_append]
  by_cases hz : w = 0
  ·rw [if_pos hz, madeGo_count off ws (i + 1) mn mx sz (fun x hx => hu x (by simp [hx])) h0 (by omega)]
   have e : bitsFrom 64 (off + 64 * i) w = [] := by rw [hz]; exact bitsFrom_zero _ _
   rw [e]
   simp
  ·rw [if_neg hz]
   have e : IntKind.i64.wrap (sz + onesD w) = sz + onesD w := wrap_ok (by omega) (by omega)
   rw [e]
   rw [madeGo_count off ws (i + 1) _ _ (sz + onesD w) (fun x hx => hu x (by simp [hx])) (by omega) (by omega)]
   omega
theorem made_size {d : Dom} (h : Made d) : sizeD d = ((listD d).length : Int) := by
 obtain ⟨off, ws, mn, mx, sz⟩ := d
 obtain ⟨wf, len, eq⟩ := h
 have hu := wf.ws
 simp only at hu len
 have eq : (off, ws, mn, mx, sz) = (off, ws, madeGo off 0 0 0 0 ws) := eq
 have e8 : sz = (madeGo off 0 0 0 0 ws).2.2 := by
  have := congrArg (fun d : Dom => d.2.2.2.2) eq
  exact this
 show sz = ((listFrom off 0 ws).length : Int)
 rw [e8, madeGo_count off ws 0 0 0 0 hu (by omega) (by omega)]
 omega
section
variable {d : Dom} {k : Int → Int → Int} {p : Int → Bool}
end
end Go.Proofs.YtdihbphkbdelbaaGreatDoor.Ev
set_option linter.unusedVariables false
set_option linter.unusedSimpArgs false
set_option maxRecDepth 100000
namespace Go.Proofs.YtdihbphkbdelbaaGreatDoor.Ev
open Go
theorem rise_ends : ∀ {l : List Int}, Rising l → l ≠ [] → (∀ v ∈ l, l.getD 0 0 ≤ v) ∧ ∀ v ∈ l, v ≤ l.getD (l.length - 1) 0
 | [], _, h => absurd rfl h
 | [x], _, _ => by simp
 | x :: y :: l, hr, _ => by
  obtain ⟨h1, h2⟩ := List.pairwise_cons.mp hr
  obtain ⟨g1, g2⟩ := rise_ends h2 (by simp)
  have e : (x :: y :: l).getD ((x :: y :: l).length - 1) 0 = (y :: l).getD ((y :: l).length - 1) 0 := by simp
  refine ⟨fun v hv => ?_, fun v hv => ?_⟩
  ·rcases List.mem_cons.mp hv with rfl | hv
   ·simp
   ·have := h1 v hv
    show x ≤ v
    omega
  ·rw [e]
   rcases List.mem_cons.mp hv with rfl | hv
   ·have := h1 y (by simp)
    have := g2 y (by simp)
    omega
   ·exact g2 v hv
theorem okL_sub {x y : List Int} (h : okL x = true) (hy : y ≠ []) (hs : ∀ v ∈ y, v ∈ x) : okL y = true := by
 obtain ⟨h0, h1, h2⟩ := okL_iff.mp h
 obtain ⟨a1, a2⟩ := maxL_spec h0
 obtain ⟨b1, b2⟩ := minL_spec h0
 obtain ⟨c1, c2⟩ := maxL_spec hy
 obtain ⟨d1, d2⟩ := minL_spec hy
 have := a1 _ (hs _ c2)
 have := b1 _ (hs _ d2)
 exact okL_iff.mpr ⟨hy, fun v hv => h1 v (hs v hv), by omega⟩
structure GD (d : Dom) : Prop where
  made : Made d
  ok : okL (listD d) = true
theorem GD.ne {d : Dom} (h : GD d) : listD d ≠ [] := (okL_iff.mp h.ok).1
theorem GD.inn {d : Dom} (h : GD d) : ∀ v ∈ listD d, -1000000 ≤ v ∧ v ≤ 1000000 := fun v hv => inD_iff.mp ((okL_iff.mp h.ok).2.1 v hv)
theorem GD.ris {d : Dom} (h : GD d) : Rising (listD d) := (listD_mem h.made.wf).2
theorem GD.ends {d : Dom} (h : GD d) : (minD d ∈ listD d ∧ ∀ v ∈ listD d, minD d ≤ v) ∧ (maxD d ∈ listD d ∧ ∀ v ∈ listD d, v ≤ maxD d) := ((made_ends h.made).2 h.ne).2
theorem GD.size {d : Dom} (h : GD d) : sizeD d = ((listD d).length : Int) := made_size h.made
theorem GD.listB {d : Dom} (h : GD d) : Ev.listB d = true := listB_wf h.made.wf
theorem GD.pos {d : Dom} (h : GD d) : 0 < (listD d).length := List.length_pos_iff.mpr h.ne
theorem GD.first {d : Dom} (h : GD d) : (listD d).getD 0 0 = minD d := by
 obtain ⟨g1, _⟩ := rise_ends h.ris h.ne
 have h1 := g1 _ h.ends.1.1
 have h2 := h.ends.1.2 _ (gD_mem h.pos 0)
 omega
theorem GD.last {d : Dom} (h : GD d) : (listD d).getD ((listD d).length - 1) 0 = maxD d := by
 obtain ⟨_, g1⟩ := rise_ends h.ris h.ne
 have hp := h.pos
 have h1 := g1 _ h.ends.2.1
 have h2 := h.ends.2.2 _ (gD_mem (show (listD d).length - 1 < (listD d).length by omega) 0)
 omega
theorem GD_ofD {x : List Int} (h : okL x = true) (hr : Rising x) : GD (ofD x).1 ∧ listD (ofD x).1 = x := by
 have e := list_rising h hr
 exact ⟨⟨made_ofD h, by rw [e]; exact h⟩, e⟩
theorem listsLen (d : List Dom) : (listsL d).length = d.length := by unfold listsL; simp
theorem listsAt {d : List Dom} {i : Nat} (h : i < d.length) : (listsL d).getD i [] = listD (d.getD i dom0) := by
 unfold listsL
 rw [List.getD_eq_getElem?_getD, List.getD_eq_getElem?_getD, List.getElem?_map, List.getElem?_eq_getElem h]
 rfl
structure Nums (c : Con) (n : Nat) : Prop where
  cl : c.2.2.2.1.length = n
  dl : c.2.2.2.2.1.length = n
  le : n ≤ 1000
  cp : ∀ k ∈ c.2.2.2.1, 0 ≤ k ∧ k ≤ 1000000
  dp : ∀ k ∈ c.2.2.2.2.1, 0 ≤ k ∧ k ≤ 1000000
  K : 0 ≤ c.2.2.2.2.2.2.1 ∧ c.2.2.2.2.2.2.1 ≤ 10000000000
structure Inv (c : Con) (d : List Dom) : Prop where
  num : Nums c d.length
  g : ∀ x ∈ d, GD x
section
variable {c : Con} {d : List Dom} (h : Inv c d)
include h
theorem Inv.cum : Cum c d := ⟨h.num.cl, h.num.dl, h.num.le, h.num.cp, h.num.dp, fun x hx => ⟨(h.g x hx).inn _ (h.g x hx).ends.1.1, (h.g x hx).inn _ (h.g x hx).ends.2.1⟩, h.num.K⟩
theorem Inv.at {k : Nat} (hk : k < d.length) : GD (d.getD k dom0) := h.g _ (gD_mem hk dom0)
theorem Inv.sure {k : Nat} (hk : k < d.length) (t : Int) : sureR c (listsL d) (k : Int) t = (decide (maxD (d.getD k dom0) ≤ t) && decide (t < sureE c d (k : Int))) := by
 unfold sureR sureE
 rw [Int.toNat_natCast, listsAt hk, (h.at hk).first, (h.at hk).last]
theorem Inv.load (i t : Int) : ∀ (n k : Nat), k + n ≤ d.length → runGo c (listsL d) i t n k = loadI c d i t n k
 | 0, _, _ => rfl
 | n + 1, k, hk => by
  unfold runGo loadI
  rw [Inv.load i t n (k + 1) (by omega), h.sure (by omega)]
end
theorem loadI_mono {c : Con} {d : List Dom} (hc : Cum c d) {i t u : Int} : ∀ (n k : Nat), k + n ≤ d.length →
  (∀ j, k ≤ j → j < k + n → (j : Int) ≠ i → maxD (d.getD j dom0) ≤ t → t < sureE c d (j : Int) → maxD (d.getD j dom0) ≤ u ∧ u < sureE c d (j : Int)) → loadI c d i t n k ≤ loadI c d i u n k
 | 0, _, _, _ => Int.le_refl _
 | n + 1, k, hk, hs => by
  have ih := loadI_mono hc (i := i) (t := t) (u := u) n (k + 1) (by omega) fun j h1 h2 => hs j (by omega) (by omega)
  have h0 := hs k (Nat.le_refl _) (by omega)
  have hd := hc.dAt (show k < d.length by omega)
  show loadT c d i t k + loadI c d i t n (k + 1) ≤ loadT c d i u k + loadI c d i u n (k + 1)
  have : loadT c d i t k ≤ loadT c d i u k := by
   unfold loadT
   by_cases h1 : (k : Int) = i
   ·rw [decide_eq_true h1]; exact Int.le_refl _
   ·rw [decide_eq_false h1]
    by_cases h2 : maxD (d.getD k dom0) ≤ t
    ·by_cases h3 : t < sureE c d (k : Int)
     ·obtain ⟨g1, g2⟩ := h0 h1 h2 h3
      rw [decide_eq_true h2, decide_eq_true h3, decide_eq_true g1, decide_eq_true g2]; exact Int.le_refl _
     ·rw [decide_eq_false h3, Bool.and_false, Bool.and_false]
      exact (loadT_range hc i u (show k < d.length by omega)).1 |> fun q => by unfold loadT at q; rw [decide_eq_false h1] at q; exact q
    ·rw [decide_eq_false h2, Bool.false_and, Bool.and_false]
     exact (loadT_range hc i u (show k < d.length by omega)).1 |> fun q => by unfold loadT at q; rw [decide_eq_false h1] at q; exact q
  omega
theorem timesI_mem {c : Con} {d : List Dom} {i s v : Int} : ∀ (n k : Nat), v ∈ timesI c d i s n k ↔ ∃ j, k ≤ j ∧ j < k + n ∧ (j : Int) ≠ i ∧ maxD (d.getD j dom0) < sureE c d (j : Int) ∧ maxD (d.getD j dom0) > s ∧ maxD (d.getD j dom0) < s + c.2.2.2.1.getD i.toNat 0 ∧ v = maxD (d.getD j dom0)
 | 0, k => by simp [timesI]; intro j h1 h2; omega
 | n + 1, k => by
  show v ∈ timesT c d i s k ++ timesI c d i s n (k + 1) ↔ _
  rw [List.mem_append, timesI_mem n (k + 1)]
  have h0 : v ∈ timesT c d i s k ↔ (k : Int) ≠ i ∧ maxD (d.getD k dom0) < sureE c d (k : Int) ∧ maxD (d.getD k dom0) > s ∧ maxD (d.getD k dom0) < s + c.2.2.2.1.getD i.toNat 0 ∧ v = maxD (d.getD k dom0) := by
   unfold timesT
   by_cases h1 : (k : Int) = i
   ·rw [decide_eq_true h1]; simp [h1]
   ·rw [decide_eq_false h1]
    by_cases h2 : maxD (d.getD k dom0) < sureE c d (k : Int)
    ·by_cases h3 : maxD (d.getD k dom0) > s
     ·by_cases h4 : maxD (d.getD k dom0) < s + c.2.2.2.1.getD i.toNat 0
      ·rw [decide_eq_true h2, decide_eq_true h3, decide_eq_true h4]
       show v ∈ [maxD (d.getD k dom0)] ↔ _
       rw [List.mem_singleton]
       exact ⟨fun e => ⟨h1, h2, h3, h4, e⟩, fun e => e.2.2.2.2⟩
      ·rw [decide_eq_false h4, Bool.and_false, Bool.and_false, Bool.and_false]
       exact ⟨fun e => by simp at e, fun e => absurd e.2.2.2.1 h4⟩
     ·rw [decide_eq_false h3, Bool.false_and, Bool.and_false, Bool.and_false]
      exact ⟨fun e => by simp at e, fun e => absurd e.2.2.1 h3⟩
    ·rw [decide_eq_false h2, Bool.false_and, Bool.and_false]
     exact ⟨fun e => by simp at e, fun e => absurd e.2.1 h2⟩
  rw [h0]
  constructor
  ·rintro (⟨g1, g2⟩ | ⟨j, g1, g2, g3⟩)
   ·exact ⟨k, Nat.le_refl _, by omega, g1, g2⟩
   ·exact ⟨j, by omega, by omega, g3⟩
  ·rintro ⟨j, g1, g2, g3⟩
   by_cases e : j = k
   ·subst e; exact .inl g3
   ·exact .inr ⟨j, by omega, by omega, g3⟩
theorem allFrom_iff {p : Nat → Bool} : ∀ (n j : Nat), allFrom p n j = true ↔ ∀ k, j ≤ k → k < j + n → p k = true
 | 0, j => ⟨fun _ k h1 h2 => by omega, fun _ => rfl⟩
 | n + 1, j => by
  show (p j && allFrom p n (j + 1)) = true ↔ _
  rw [Bool.and_eq_true, allFrom_iff n (j + 1)]
  constructor
  ·rintro ⟨h1, h2⟩ k hk1 hk2
   by_cases e : k = j
   ·subst e; exact h1
   ·exact h2 k (by omega) (by omega)
  ·exact fun h => ⟨h j (Nat.le_refl _) (by omega), fun k h1 h2 => h k (by omega) (by omega)⟩
theorem mayR_iff {c : Con} {d : List (List Int)} {i s : Int} (hc : 0 ≤ c.2.2.2.1.getD i.toNat 0) : mayR c d i s = true ↔ ∀ t, s ≤ t → t < s + c.2.2.2.1.getD i.toNat 0 → runR c d i t ≤ c.2.2.2.2.2.2.1 := by
 unfold mayR
 rw [allFrom_iff]
 constructor
 ·intro h t h1 h2
  have := h (t - s).toNat (Nat.zero_le _) (by omega)
  rw [show s + ((t - s).toNat : Int) = t by omega] at this
  simpa using this
 ·intro h k _ hk
  have := h (s + (k : Int)) (by omega) (by omega)
  simpa using this
theorem mayD_iff {c : Con} {d : List Dom} {i s : Int} : mayD c d i s = true ↔ c.2.2.2.1.getD i.toNat 0 = 0 ∨ ∀ t ∈ timesD c d i s, loadD c d i t + c.2.2.2.2.1.getD i.toNat 0 ≤ c.2.2.2.2.2.2.1 := by
 unfold mayD
 by_cases h : c.2.2.2.1.getD i.toNat 0 = 0
 ·rw [decide_eq_true h]; exact ⟨fun _ => .inl h, fun _ => rfl⟩
 ·rw [decide_eq_false h]
  simp only [cond_false, Bool.not_eq_true', h, false_or]
  constructor
  ·intro hn t ht
   have := (List.any_eq_false.mp hn) t ht
   unfold overD at this
   simpa using this
  ·intro hn
   rw [List.any_eq_false]
   intro t ht
   unfold overD
   have := hn t ht
   simpa using this
theorem best_time {c : Con} {d : List Dom} {i s t : Int} (hs : s ≤ t) (ht : t < s + c.2.2.2.1.getD i.toNat 0) : ∀ n, ∃ u, u ∈ timesD c d i s ∧ s ≤ u ∧ u ≤ t ∧ (n ≤ d.length → ∀ j, j < n → (j : Int) ≠ i → maxD (d.getD j dom0) ≤ t → t < sureE c d (j : Int) → maxD (d.getD j dom0) ≤ u)
 | 0 => ⟨s, List.mem_cons_self, Int.le_refl _, hs, fun _ j h => by omega⟩
 | n + 1 => by
  obtain ⟨u, h1, h2, h3, h4⟩ := best_time (c := c) (d := d) (i := i) hs ht n
  by_cases hq : n < d.length ∧ (n : Int) ≠ i ∧ maxD (d.getD n dom0) ≤ t ∧ t < sureE c d (n : Int) ∧ u < maxD (d.getD n dom0)
  ·obtain ⟨q0, q1, q2, q3, q4⟩ := hq
   refine ⟨maxD (d.getD n dom0), List.mem_cons_of_mem _ ((timesI_mem d.length 0).mpr ⟨n, Nat.zero_le _, by omega, q1, by omega, by omega, by omega, rfl⟩), by omega, q2, fun hl j hj a1 a2 a3 => ?_⟩
   by_cases e : j = n
   ·subst e; exact Int.le_refl _
   ·have := h4 (by omega) j (by omega) a1 a2 a3
    omega
  ·refine ⟨u, h1, h2, h3, fun hl j hj a1 a2 a3 => ?_⟩
   by_cases e : j = n
   ·subst e
    apply Classical.byContradiction
    intro hc
    exact hq ⟨by omega, a1, a2, a3, by omega⟩
   ·exact h4 (by omega) j (by omega) a1 a2 a3
theorem may_same {c : Con} {d : List Dom} (h : Inv c d) {i : Nat} (hi : i < d.length) (s : Int) : mayD c d (i : Int) s = mayR c (listsL d) (i : Int) s := by
 have hc := h.cum
 have bC := hc.cAt hi
 have eR : ∀ t, runR c (listsL d) (i : Int) t = loadD c d (i : Int) t + c.2.2.2.2.1.getD i 0 := fun t => by
  unfold runR loadD
  rw [listsLen, h.load (i : Int) t d.length 0 (by omega), Int.toNat_natCast]
  omega
 rw [Bool.eq_iff_iff, mayD_iff, mayR_iff (by rw [Int.toNat_natCast]; exact bC.1)]
 rw [Int.toNat_natCast]
 constructor
 ·rintro (h0 | h1) t ht1 ht2
  ·omega
  ·rw [eR]
   obtain ⟨u, g1, g2, g3, g4⟩ := best_time (c := c) (d := d) (i := (i : Int)) ht1 (by rw [Int.toNat_natCast]; exact ht2) d.length
   have := h1 u g1
   have m := loadI_mono hc (i := (i : Int)) (t := t) (u := u) d.length 0 (by omega) fun j _ hj a1 a2 a3 => ⟨g4 (Nat.le_refl _) j (by omega) a1 a2 a3, by omega⟩
   have m : loadD c d (i : Int) t ≤ loadD c d (i : Int) u := m
   omega
 ·intro h1
  by_cases h0 : c.2.2.2.1.getD i 0 = 0
  ·exact .inl h0
  ·refine .inr fun t ht => ?_
   rw [← eR]
   rcases List.mem_cons.mp ht with rfl | ht
   ·exact h1 t (Int.le_refl _) (by omega)
   ·obtain ⟨j, _, _, _, _, q1, q2, rfl⟩ := (timesI_mem d.length 0).mp ht
    rw [Int.toNat_natCast] at q2
    exact h1 _ (by omega) q2
theorem keep_same {c : Con} {d : List Dom} (h : Inv c d) {i : Nat} (hi : i < d.length) : keepD c d i = keepR c (listsL d) i := by
 unfold keepD keepR
 rw [listsAt hi]
 exact List.filter_congr fun v _ => may_same h hi v
theorem keepR_part (c : Con) (l : List (List Int)) (i : Nat) : (keepR c l i).length ≤ (l.getD i []).length ∧ ((keepR c l i).length = (l.getD i []).length → keepR c l i = l.getD i []) ∧ ∀ v ∈ keepR c l i, v ∈ l.getD i [] := by
 unfold keepR
 refine ⟨List.length_filter_le _ _, fun h => ?_, fun v hv => (List.mem_filter.mp hv).1⟩
 exact List.filter_eq_self.mpr (List.length_filter_eq_length_iff.mp h)
theorem set_self_getD {l : List (List Int)} {i : Nat} (hi : i < l.length) : l.set i (l.getD i []) = l := by
 rw [gD_get hi]
 exact List.set_getElem_self hi
theorem next_inv {c : Con} {d : List Dom} (h : Inv c d) {i : Nat} (hi : i < d.length) (hk : keepD c d i ≠ []) :
  Inv c (nextD c d i) ∧ listsL (nextD c d i) = nextR c (listsL d) i ∧ chgD c d i = chgR c (listsL d) i := by
 have hg := h.at hi
 have ks := keep_same h hi
 obtain ⟨p1, p2, p3⟩ := keepR_part c (listsL d) i
 rw [← ks, listsAt hi] at p1 p2 p3
 have hch : chgD c d i = chgR c (listsL d) i := by
  unfold chgD chgR
  rw [ks, hg.size, listsAt hi]
 have hr : Rising (keepD c d i) := List.Pairwise.sublist List.filter_sublist hg.ris
 have hok : okL (keepD c d i) = true := okL_sub hg.ok hk p3
 obtain ⟨g1, g2⟩ := GD_ofD hok hr
 refine ⟨⟨by rw [nextD_len]; exact h.num, fun x hx => ?_⟩, ?_, hch⟩
 ·unfold nextD at hx
  cases hcd : chgD c d i with
  | false => rw [hcd] at hx; exact h.g x hx
  | true =>
   rw [hcd] at hx
   rcases List.mem_or_eq_of_mem_set (show x ∈ d.set i (ofD (keepD c d i)).1 from hx) with hx | rfl
   ·exact h.g x hx
   ·exact g1
 ·unfold nextD nextR
  cases hcd : chgD c d i with
  | true =>
   show listsL (d.set i (ofD (keepD c d i)).1) = _
   unfold listsL
   rw [List.map_set, g2, ks]
   rfl
  | false =>
   unfold chgD at hcd
   have hcd := of_decide_eq_false hcd
   rw [hg.size] at hcd
   have e := p2 (by omega)
   show listsL d = _
   rw [← ks, e, ← listsAt hi, set_self_getD (by rw [listsLen]; exact hi)]
theorem pass_same {c : Con} : ∀ (n i : Nat) (ch : Bool) (d : List Dom), Inv c d → i + n = d.length →
  listsL (passGo c n i ch d).1 = (roundGo c n i ch (listsL d)).1 ∧ (passGo c n i ch d).2 = (roundGo c n i ch (listsL d)).2 ∧ Inv c (passGo c n i ch d).1 ∧ passOk c n i d = true ∧ roundOk c n i (listsL d) = true
 | 0, _, _, _, h, _ => ⟨rfl, rfl, h, rfl, rfl⟩
 | n + 1, i, ch, d, h, hn => by
  have hi : i < d.length := by omega
  have ks := keep_same h hi
  have hg := h.at hi
  have hst : stepB c d i = true := by
   unfold stepB
   rw [cum_iff.mpr h.cum, hg.listB, Bool.true_and, Bool.true_and, List.all_eq_true]
   exact fun v hv => millIff.mpr (hg.inn v hv)
  have hlb : listsB c (listsL d) = true := lst_iff.mpr ⟨by rw [listsLen]; exact h.num.cl, by rw [listsLen]; exact h.num.dl, by rw [listsLen]; exact h.num.le, h.num.cp, h.num.dp, fun x hx => by
   obtain ⟨y, hy, rfl⟩ := List.mem_map.mp hx
   have gy := h.g y hy
   have := rising_len (listD y) (-1000000) 1000000 (by omega) gy.ris gy.inn
   have hw := (okL_ok gy.ok).wide
   have hmm := rising_len (listD y) (minL (listD y)) (maxL (listD y)) (by have := (okL_ok gy.ok).le; omega) gy.ris fun v hv => ⟨(minL_spec gy.ne).1 v hv, (maxL_spec gy.ne).1 v hv⟩
   exact ⟨gy.pos, by omega, gy.inn⟩, h.num.K⟩
  show listsL (if (keepD c d i).length = 0 then (d, false, false) else passGo c n (i + 1) (ch || chgD c d i) (nextD c d i)).1 = (if (keepR c (listsL d) i).length = 0 then (listsL d, false, false) else roundGo c n (i + 1) (ch || chgR c (listsL d) i) (nextR c (listsL d) i)).1 ∧ (if (keepD c d i).length = 0 then (d, false, false) else passGo c n (i + 1) (ch || chgD c d i) (nextD c d i)).2 = (if (keepR c (listsL d) i).length = 0 then (listsL d, false, false) else roundGo c n (i + 1) (ch || chgR c (listsL d) i) (nextR c (listsL d) i)).2 ∧ Inv c (if (keepD c d i).length = 0 then (d, false, false) else passGo c n (i + 1) (ch || chgD c d i) (nextD c d i)).1 ∧
   (stepB c d i && (decide ((keepD c d i).length = 0) || passOk c n (i + 1) (nextD c d i))) = true ∧ (listsB c (listsL d) && (decide ((keepR c (listsL d) i).length = 0) || roundOk c n (i + 1) (nextR c (listsL d) i))) = true
  rw [← ks, hst, hlb]
  by_cases hk : (keepD c d i).length = 0
  ·rw [if_pos hk, if_pos hk, decide_eq_true hk]
   exact ⟨rfl, rfl, h, rfl, rfl⟩
  ·obtain ⟨i1, i2, i3⟩ := next_inv h hi (fun e => hk (by rw [e]; rfl))
   obtain ⟨q1, q2, q3, q4, q5⟩ := pass_same n (i + 1) (ch || chgD c d i) (nextD c d i) i1 (by rw [nextD_len]; omega)
   rw [if_neg hk, if_neg hk, decide_eq_false hk, ← i3, ← i2]
   exact ⟨q1, q2, q3, by rw [q4]; rfl, by rw [q5]; rfl⟩
end Go.Proofs.YtdihbphkbdelbaaGreatDoor.Ev
