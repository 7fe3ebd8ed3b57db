/-
The least and the greatest of a domain: what 'made' finds.
Conditions: none.
What is left of a domain when only some words' bits are left.
Conditions: none.
Two rows in order: what the functions answer, as plain data.
Conditions: none.
Sorting, and leaving out what is there twice: plain definitions.
Conditions: none.
-/
import Derived.Test.YtnojoaghcbljfaaGreatDoorAp
import Derived.Lib.SlicesCompact
set_option linter.unusedVariables false
set_option linter.unusedSimpArgs false
set_option maxRecDepth 100000
namespace Go.Proofs.YtnojoaghcbljfaaGreatDoor.Ev
open Go
def Bl (n k : Nat) : Prop := n < 2 ^ k ∧ (n ≠ 0 → 0 < k ∧ 2 ^ (k - 1) ≤ n)
theorem bl_byte : ∀ n, n < 256 → ∃ k, k ≤ 8 ∧ byteW len8tab n = ((k : Nat) : Int) ∧ (n < 2 ^ k ∧ (n ≠ 0 → 0 < k ∧ 2 ^ (k - 1) ≤ n)) := by decide +kernel
theorem bl_shift {n k s : Nat} (h : Bl (n / 2 ^ s) k) (hn : 2 ^ s ≤ n) : Bl n (k + s) := by
 obtain ⟨h1, h2⟩ := h
 have h0 : n / 2 ^ s ≠ 0 := by
  have : 0 < n / 2 ^ s := Nat.div_pos hn (Nat.two_pow_pos s)
  omega
 obtain ⟨h3, h4⟩ := h2 h0
 refine ⟨?_, fun _ => ⟨by omega, ?_⟩⟩
 ·rw [Nat.pow_add]
  exact (Nat.div_lt_iff_lt_mul (Nat.two_pow_pos s)).mp h1
 ·have e : k + s - 1 = (k - 1) + s := by omega
  rw [e, Nat.pow_add]
  exact (Nat.le_div_iff_mul_le (Nat.two_pow_pos s)).mp h4
theorem len_bl {w : Int} (h : U w) : ∃ k : Nat, k ≤ 64 ∧ len64D w = (k : Int) ∧ Bl w.toNat k := by
 have hw := h
 unfold U at h
 have e0 : w = ((w.toNat : Nat) : Int) := by omega
 generalize w.toNat = n at e0
 subst e0
 have hn : n < 18446744073709551616 := by omega
 have last : ∀ (m a : Nat), m < 256 → a ≤ 56 → ∃ k : Nat, k ≤ 8 ∧ lenZ (m : Int) (a : Int) = ((k + a : Nat) : Int) ∧ Bl m k := by
  intro m a hm ha
  obtain ⟨k, k8, ke, kb⟩ := bl_byte m hm
  refine ⟨k, k8, ?_, kb⟩
  unfold lenZ
  have e1 : (IntKind.u8.wrap (m : Int)).toNat = m := by rw [IntKind.wrap_u8]; omega
  rw [e1, ke, wrap_ok (x := ((k : Nat) : Int)) (by omega) (by omega), wrap_ok (by omega) (by omega)]
  omega
 have third : ∀ (m a : Nat), m < 65536 → a ≤ 48 → ∃ k : Nat, k ≤ 16 ∧ lenZ (lenC (m : Int)) (lenC' (m : Int) (a : Int)) = ((k + a : Nat) : Int) ∧ Bl m k := by
  intro m a hm ha
  unfold lenC lenC'
  by_cases c : (m : Int) ≥ 256
  ·have es : shrW .u64 (m : Int) (8 : Int) = ((m / 2 ^ 8 : Nat) : Int) := shr_n (by omega) 8 (by omega)
   rw [if_pos c, if_pos c, es, wrap_ok (by omega) (by omega)]
   obtain ⟨k, k1, k2, k3⟩ := last (m / 2 ^ 8) (a + 8) (by omega) (by omega)
   refine ⟨k + 8, by omega, ?_, bl_shift k3 (by show 256 ≤ m; omega)⟩
   have e : ((a + 8 : Nat) : Int) = (a : Int) + 8 := by omega
   rw [e] at k2
   rw [k2]
   omega
  ·rw [if_neg c, if_neg c]
   obtain ⟨k, k1, k2, k3⟩ := last m a (by omega) (by omega)
   exact ⟨k, by omega, k2, k3⟩
 have second : ∀ (m a : Nat), m < 4294967296 → a ≤ 32 → ∃ k : Nat, k ≤ 32 ∧ lenZ (lenC (lenB1 (m : Int))) (lenC' (lenB1 (m : Int)) (lenB' (m : Int) (a : Int))) = ((k + a : Nat) : Int) ∧ Bl m k := by
  intro m a hm ha
  unfold lenB1 lenB'
  by_cases c : (m : Int) ≥ 65536
  ·have es : shrW .u64 (m : Int) (16 : Int) = ((m / 2 ^ 16 : Nat) : Int) := shr_n (by omega) 16 (by omega)
   rw [if_pos c, if_pos c, es, wrap_ok (by omega) (by omega)]
   obtain ⟨k, k1, k2, k3⟩ := third (m / 2 ^ 16) (a + 16) (by omega) (by omega)
   refine ⟨k + 16, by omega, ?_, bl_shift k3 (by show 65536 ≤ m; omega)⟩
   have e : ((a + 16 : Nat) : Int) = (a : Int) + 16 := by omega
   rw [e] at k2
   rw [k2]
   omega
  ·rw [if_neg c, if_neg c]
   obtain ⟨k, k1, k2, k3⟩ := third m a (by omega) (by omega)
   exact ⟨k, by omega, k2, k3⟩
 unfold len64D lenA lenA'
 by_cases c : (n : Int) ≥ 4294967296
 ·have es : shrW .u64 (n : Int) (32 : Int) = ((n / 2 ^ 32 : Nat) : Int) := shr_n hn 32 (by omega)
  rw [if_pos c, if_pos c, es]
  obtain ⟨k, k1, k2, k3⟩ := second (n / 2 ^ 32) 32 (by omega) (by omega)
  exact ⟨k + 32, by omega, by rw [show ((32 : Nat) : Int) = 32 from rfl] at k2; exact k2, bl_shift k3 (by show 4294967296 ≤ n; omega)⟩
 ·rw [if_neg c, if_neg c]
  obtain ⟨k, k1, k2, k3⟩ := second n 0 (by omega) (by omega)
  exact ⟨k, by omega, k2, k3⟩
theorem lz_spec {w : Int} (h : U w) (h0 : w ≠ 0) : ∃ t : Nat, lzD w = 63 - (t : Int) ∧ t < 64 ∧ tb w t = true ∧ ∀ j, tb w j = true → j ≤ t := by
 obtain ⟨k, k1, k2, k3⟩ := len_bl h
 have hn : w.toNat ≠ 0 := by unfold U at h; omega
 obtain ⟨k4, k5⟩ := k3.2 hn
 refine ⟨k - 1, ?_, by omega, ?_, fun j hj => ?_⟩
 ·unfold lzD
  rw [k2, wrap_ok (by omega) (by omega)]
  omega
 ·unfold tb
  rw [Nat.testBit_eq_decide_div_mod_eq]
  have e : w.toNat / 2 ^ (k - 1) = 1 := by
   refine Nat.div_eq_of_lt_le (by omega) ?_
   have : 2 ^ k = 2 * 2 ^ (k - 1) := by rw [← Nat.pow_succ']; congr 1; omega
   have := k3.1
   omega
  rw [e]
  rfl
 ·apply Decidable.byContradiction
  intro hc
  unfold tb at hj
  rw [Nat.testBit_lt_two_pow (Nat.lt_of_lt_of_le k3.1 (Nat.pow_le_pow_right (by decide) (by omega)))] at hj
  cases hj
theorem word_list {b w : Int} (h : U w) (v : Int) : v ∈ bitsFrom 64 b w ↔ ∃ j : Nat, j < 64 ∧ tb w j = true ∧ v = b + j := (bitsFrom_spec 64 b w h (Nat.le_refl _) (by intro j hj; omega)).1 v
theorem madeGo_ends (off : Int) (ho : -1000064 ≤ off ∧ off ≤ 1000064) : ∀ (ws : List Int) (i mn mx sz : Int), (∀ w ∈ ws, U w) → 0 ≤ sz → sz + 127 * ws.length ≤ 100000000 → 0 ≤ i → i + ws.length ≤ 100000 →
  ((∀ w ∈ ws, w = 0) → madeGo off i mn mx sz ws = (mn, mx, sz) ∧ listFrom off i ws = []) ∧
  ((∃ w ∈ ws, w ≠ 0) → ((madeGo off i mn mx sz ws).2.1 ∈ listFrom off i ws ∧ ∀ v ∈ listFrom off i ws, v ≤ (madeGo off i mn mx sz ws).2.1) ∧
   (sz = 0 → (madeGo off i mn mx sz ws).1 ∈ listFrom off i ws ∧ ∀ v ∈ listFrom off i ws, (madeGo off i mn mx sz ws).1 ≤ v)) ∧
  (sz ≠ 0 → (madeGo off i mn mx sz ws).1 = mn)
 | [], i, mn, mx, sz, _, _, _, _, _ => by simp [madeGo, listFrom]
 | w :: ws, i, mn, mx, sz, hu, h0, h1, hi0, hi1 => by
  have hw := hu w (by simp)
  have hws : ∀ x ∈ ws, U x := fun x hx => hu x (by simp [hx])
  have hp := onesD_pos hw
  simp only [List.length_cons] at h1 hi1
  unfold madeGo listFrom
  by_cases hz : w = 0
  ·rw [if_pos hz]
   obtain ⟨a, b, c⟩ := madeGo_ends off ho ws (i + 1) mn mx sz hws h0 (by omega) (by omega) (by omega)
   have e : bitsFrom 64 (off + 64 * i) w = [] := by rw [hz]; exact bitsFrom_zero _ _
   rw [e, List.nil_append]
   refine ⟨fun h => a fun x hx => h x (by simp [hx]), fun ⟨x, hx, hne⟩ => b ⟨x, ?_, hne⟩, c⟩
   rcases List.mem_cons.mp hx with rfl | hx
   ·exact absurd hz hne
   ·exact hx
  ·rw [if_neg hz]
   have e : IntKind.i64.wrap (sz + onesD w) = sz + onesD w := wrap_ok (by omega) (by omega)
   have e1 : IntKind.i64.wrap (64 * i) = 64 * i := wrap_ok (by omega) (by omega)
   have e2 : IntKind.i64.wrap (off + 64 * i) = off + 64 * i := wrap_ok (by omega) (by omega)
   obtain ⟨_, t, t1, t2, t3, t4, _⟩ := lessD_spec hw hz
   obtain ⟨u, u1, u2, u3, u4⟩ := lz_spec hw hz
   have e3 : IntKind.i64.wrap (off + 64 * i + tzD w) = off + 64 * i + t := by rw [t1, wrap_ok (by omega) (by omega)]
   have e4 : IntKind.i64.wrap (IntKind.i64.wrap (IntKind.i64.wrap (off + 64 * i + 64) - 1) - lzD w) = off + 64 * i + u := by
    rw [u1, wrap_ok (x := off + 64 * i + 64) (by omega) (by omega), wrap_ok (x := off + 64 * i + 64 - 1) (by omega) (by omega), wrap_ok (by omega) (by omega)]
    omega
   rw [e, e1, e2, e3, e4]
   have hone := hp.2.2 hz
   have mb : ∀ v, v ∈ bitsFrom 64 (off + 64 * i) w ↔ ∃ j : Nat, j < 64 ∧ tb w j = true ∧ v = off + 64 * i + j := fun v => word_list hw v
   obtain ⟨a, b, c⟩ := madeGo_ends off ho ws (i + 1) (if sz = 0 then off + 64 * i + (t : Int) else mn) (off + 64 * i + (u : Int)) (sz + onesD w) hws (by omega) (by omega) (by omega) (by omega)
   have hc := c (by omega)
   have later : ∀ v ∈ listFrom off (i + 1) ws, off + 64 * i + 64 ≤ v := fun v hv => by
    have := ((listFrom_spec off ws (i + 1) hws).1 v).mp hv
    unfold memW at this
    rw [Bool.and_eq_true, decide_eq_true_eq] at this
    omega
   refine ⟨fun h => absurd (h w (by simp)) hz, fun _ => ⟨?_, fun hs => ?_⟩, fun hs => by rw [hc, if_neg hs]⟩
   ·by_cases hall : ∀ x ∈ ws, x = 0
    ·obtain ⟨a1, a2⟩ := a hall
     rw [a1, a2, List.append_nil]
     refine ⟨(mb _).mpr ⟨u, u2, u3, rfl⟩, fun v hv => ?_⟩
     obtain ⟨j, _, j2, rfl⟩ := (mb v).mp hv
     have := u4 j j2
     show off + 64 * i + (j : Int) ≤ off + 64 * i + (u : Int)
     omega
    ·have hex : ∃ x ∈ ws, x ≠ 0 := by
      apply Decidable.byContradiction
      intro hn
      exact hall fun x hx => Decidable.byContradiction fun hne => hn ⟨x, hx, hne⟩
     obtain ⟨⟨b1, b2⟩, _⟩ := b hex
     refine ⟨List.mem_append_right _ b1, fun v hv => ?_⟩
     rcases List.mem_append.mp hv with hv | hv
     ·obtain ⟨j, j1, _, rfl⟩ := (mb v).mp hv
      have := later _ b1
      omega
     ·exact b2 v hv
   ·rw [hc, if_pos hs]
    refine ⟨List.mem_append_left _ ((mb _).mpr ⟨t, t2, t3, rfl⟩), fun v hv => ?_⟩
    rcases List.mem_append.mp hv with hv | hv
    ·obtain ⟨j, _, j2, rfl⟩ := (mb v).mp hv
     have := t4 j j2
     omega
    ·have := later _ hv
     omega
def minD (d : Dom) : Int := d.2.2.1
def maxD (d : Dom) : Int := d.2.2.2.1
structure Made (d : Dom) : Prop where
  wf : Wf d
  len : d.2.1.length ≤ 20000
  eq : d = madeD d.1 d.2.1
theorem made_ofD {xs : List Int} (h : okL xs = true) : Made (ofD xs).1 := by
 refine ⟨wf_ofD h, ?_, ?_⟩
 ·rw [ofD_ok h]
  obtain ⟨w1, w2, w3⟩ := words_spec h
  have ho := okL_ok h
  show (wordsL xs).length ≤ 20000
  have h1 := ho.wide
  have h2 := ho.le
  rw [w1, ho.len]
  omega
 ·rw [ofD_ok h]
  rfl
theorem made_ends {d : Dom} (h : Made d) : (listD d = [] → sizeD d = 0) ∧ (listD d ≠ [] → 0 < sizeD d ∧ (minD d ∈ listD d ∧ ∀ v ∈ listD d, minD d ≤ v) ∧ (maxD d ∈ listD d ∧ ∀ v ∈ listD d, v ≤ maxD d)) := by
 obtain ⟨off, ws, mn, mx, sz⟩ := d
 obtain ⟨wf, len, eq⟩ := h
 have h1 := wf.lo
 have h2 := wf.hi
 have hu := wf.ws
 simp only at h1 h2 hu len
 have eq : (off, ws, mn, mx, sz) = (off, ws, madeGo off 0 0 0 0 ws) := eq
 have e5 : (mn, mx, sz) = madeGo off 0 0 0 0 ws := by
  have := congrArg (fun d : Dom => d.2.2) eq
  exact this
 have e6 : mn = (madeGo off 0 0 0 0 ws).1 := by rw [← e5]
 have e7 : mx = (madeGo off 0 0 0 0 ws).2.1 := by rw [← e5]
 have e8 : sz = (madeGo off 0 0 0 0 ws).2.2 := by rw [← e5]
 obtain ⟨a, b, _⟩ := madeGo_ends off (by omega) ws 0 0 0 0 hu (by omega) (by omega) (by omega) (by omega)
 have el : listD (off, ws, mn, mx, sz) = listFrom off 0 ws := rfl
 rw [el]
 by_cases hall : ∀ x ∈ ws, x = 0
 ·obtain ⟨a1, a2⟩ := a hall
  rw [a2]
  refine ⟨fun _ => ?_, fun h => absurd rfl h⟩
  show sz = 0
  rw [e8, a1]
 ·have hex : ∃ x ∈ ws, x ≠ 0 := by
   apply Decidable.byContradiction
   intro hn
   exact hall fun x hx => Decidable.byContradiction fun hne => hn ⟨x, hx, hne⟩
  obtain ⟨b1, b2⟩ := b hex
  have b2 := b2 rfl
  refine ⟨fun h => ?_, fun _ => ⟨?_, ?_, ?_⟩⟩
  ·rw [h] at b1
   cases b1.1
  ·have := (madeGo_size off ws 0 0 0 0 hu (by omega) (by omega)).2 hex
   show 0 < sz
   rw [e8]
   omega
  ·show mn ∈ _ ∧ ∀ v ∈ _, mn ≤ v
   rw [e6]
   exact b2
  ·show mx ∈ _ ∧ ∀ v ∈ _, v ≤ mx
   rw [e7]
   exact b1
end Go.Proofs.YtnojoaghcbljfaaGreatDoor.Ev
set_option linter.unusedVariables false
set_option linter.unusedSimpArgs false
set_option maxRecDepth 100000
namespace Go.Proofs.YtnojoaghcbljfaaGreatDoor.Ev
open Go
def cloneB {α : Type} (l : List α) : Bool := !(decide (l.length = 0)) && Nat.ble l.length 1000000
def cutW (d : Dom) (k : Int → Int → Int) : List Int := (List.range d.2.1.length).map fun (i : Nat) => bitsW .and .u64 (d.2.1.getD i 0) (k (d.1 + 64 * (i : Int)) (d.2.1.getD i 0))
def cutD (d : Dom) (k : Int → Int → Int) : Dom × Int :=
 if sizeD (madeD d.1 (cutW d k)) = sizeD d then (d, 0) else
 if sizeD (madeD d.1 (cutW d k)) = 0 then ((0, [], 0, 0, 0), 4) else
 if sizeD (madeD d.1 (cutW d k)) = 1 then (madeD d.1 (cutW d k), 3) else
 if ¬ minD (madeD d.1 (cutW d k)) = minD d then (madeD d.1 (cutW d k), 2) else
 if ¬ maxD (madeD d.1 (cutW d k)) = maxD d then (madeD d.1 (cutW d k), 2) else (madeD d.1 (cutW d k), 1)
def cutB (d : Dom) (kb : Int → Bool) : Bool := nearB d.1 && cloneB d.2.1 && (List.range d.2.1.length).all fun (i : Nat) => kb (d.1 + 64 * (i : Int))
def andK (e : Dom) (a _ : Int) : Int := wordD e a
def andKB (e : Dom) (a : Int) : Bool := wordB e a
def meetD (x y : Dom) : Bool := decide (sizeD (cutD x (andK y)).1 > 0)
def Keeps (k : Int → Int → Int) (p : Int → Bool) : Prop := ∀ a w : Int, a % 64 = 0 → -1000064 ≤ a → a ≤ 2300000 → U (k a w) ∧ ∀ j : Nat, j < 64 → tb (k a w) j = p (a + j)
theorem tb_and {a b : Int} (ha : U a) (hb : U b) (j : Nat) : U (bitsW .and .u64 a b) ∧ tb (bitsW .and .u64 a b) j = (tb a j && tb b j) := by
 rw [and_u64 ha hb]
 have : a.toNat &&& b.toNat ≤ a.toNat := Nat.and_le_left
 unfold U at ha
 refine ⟨⟨by omega, by omega⟩, ?_⟩
 unfold tb
 rw [Int.toNat_natCast, Nat.testBit_and]
section
variable {d : Dom} {k : Int → Int → Int} {p : Int → Bool}
theorem cutW_len : (cutW d k).length = d.2.1.length := by unfold cutW; simp
theorem cutW_get {i : Nat} (hi : i < d.2.1.length) : (cutW d k).getD i 0 = bitsW .and .u64 (d.2.1.getD i 0) (k (d.1 + 64 * (i : Int)) (d.2.1.getD i 0)) := by
 unfold cutW
 rw [List.getD_eq_getElem?_getD, List.getElem?_map, List.getElem?_range hi]
 rfl
theorem cutW_U (h : Made d) (hk : Keeps k p) : ∀ w ∈ cutW d k, U w := by
 intro w hw
 unfold cutW at hw
 obtain ⟨i, hi, rfl⟩ := List.mem_map.mp hw
 have hi := List.mem_range.mp hi
 have h1 := h.wf.off
 have h2 := h.wf.lo
 have h3 := h.wf.hi
 have h4 := h.len
 exact (tb_and (getD_U h.wf.ws i) (hk _ _ (by omega) (by omega) (by omega)).1 0).1
theorem cutW_mem (h : Made d) (hk : Keeps k p) (v : Int) : memW d.1 (cutW d k) v = (memW d.1 d.2.1 v && p v) := by
 unfold memW
 have h1 := h.wf.off
 have h2 := h.wf.lo
 have h3 := h.wf.hi
 have h4 := h.len
 by_cases hv : d.1 ≤ v
 ·rw [decide_eq_true hv, Bool.true_and, Bool.true_and]
  by_cases hi : ((v - d.1) / 64).toNat < d.2.1.length
  ·rw [cutW_get hi]
   obtain ⟨u, hb⟩ := hk (d.1 + 64 * ((((v - d.1) / 64).toNat : Nat) : Int)) (d.2.1.getD ((v - d.1) / 64).toNat 0) (by omega) (by omega) (by omega)
   rw [(tb_and (getD_U h.wf.ws _) u _).2, hb _ (by omega)]
   congr 2
   omega
  ·have e : ∀ l : List Int, l.length = d.2.1.length → l.getD ((v - d.1) / 64).toNat 0 = 0 := fun l hl => by
    rw [List.getD_eq_getElem?_getD, List.getElem?_eq_none (by omega)]
    rfl
   rw [e _ cutW_len, e _ rfl, tb_zero]
   rfl
 ·rw [decide_eq_false hv]
  rfl
theorem cut_made (h : Made d) (hk : Keeps k p) : Made (madeD d.1 (cutW d k)) := by
 refine ⟨⟨h.wf.off, h.wf.lo, h.wf.hi, cutW_U h hk, ?_⟩, ?_, rfl⟩
 ·show (cutW d k).length ≤ 40000
  rw [cutW_len]
  exact h.wf.len
 ·show (cutW d k).length ≤ 20000
  rw [cutW_len]
  exact h.len
theorem cut_mem (h : Made d) (hk : Keeps k p) (v : Int) : v ∈ listD (madeD d.1 (cutW d k)) ↔ v ∈ listD d ∧ p v = true := by
 rw [(listD_mem (cut_made h hk).wf).1, (listD_mem h.wf).1]
 show memW d.1 (cutW d k) v = true ↔ _
 rw [cutW_mem h hk, Bool.and_eq_true]
theorem cut_size (h : Made d) (hk : Keeps k p) (hne : listD d ≠ []) : sizeD (cutD d k).1 > 0 ↔ ∃ v ∈ listD d, p v = true := by
 obtain ⟨a, b⟩ := made_ends (cut_made h hk)
 have hd := ((made_ends h).2 hne).1
 by_cases he : listD (madeD d.1 (cutW d k)) = []
 ·have h0 := a he
  have no : ¬ ∃ v ∈ listD d, p v = true := by
   rintro ⟨v, h1, h2⟩
   have := (cut_mem h hk v).mpr ⟨h1, h2⟩
   rw [he] at this
   cases this
  refine ⟨fun hs => absurd hs ?_, fun h => absurd h no⟩
  unfold cutD
  rw [h0, if_neg (by omega), if_pos rfl]
  decide
 ·have h1 := (b he).1
  have yes : ∃ v ∈ listD d, p v = true := by
   obtain ⟨v, hv⟩ := List.exists_mem_of_ne_nil _ he
   obtain ⟨h1, h2⟩ := (cut_mem h hk v).mp hv
   exact ⟨v, h1, h2⟩
  refine ⟨fun _ => yes, fun _ => ?_⟩
  unfold cutD
  split
  ·exact hd
  ·rw [if_neg (by omega)]
   split
   ·exact h1
   ·split
    ·exact h1
    ·split <;> exact h1
end
theorem keeps_and {e : Dom} (h : Wf e) : Keeps (andK e) fun v => decide (v ∈ listD e) := by
 intro a w h0 h1 h2
 have o := h.off
 have lo := h.lo
 have hi := h.hi
 have lm := (listD_mem h).1
 unfold andK wordD
 refine ⟨?_, fun j hj => ?_⟩
 ·split
  ·exact ⟨by omega, by omega⟩
  ·exact getD_U h.ws _
 ·have e1 : decide (a + (j : Int) ∈ listD e) = memW e.1 e.2.1 (a + j) := by
   rw [Bool.eq_iff_iff, decide_eq_true_eq]
   exact lm _
  refine Eq.trans ?_ e1.symm
  unfold memW
  by_cases hlt : a < e.1
  ·rw [if_pos hlt, tb_zero, decide_eq_false (by omega)]
   rfl
  ·rw [if_neg hlt, decide_eq_true (by omega), Bool.true_and]
   have a1 : ((a + (j : Int) - e.1) / 64).toNat = ((a - e.1) / 64).toNat := by omega
   have a2 : ((a + (j : Int) - e.1) % 64).toNat = j := by omega
   rw [a1, a2]
theorem meet_iff {x y : List Int} (hx : okL x = true) (hy : okL y = true) : meetD (ofD x).1 (ofD y).1 = true ↔ ∃ v, v ∈ x ∧ v ∈ y := by
 unfold meetD
 have a := list_ofD hx
 have b := list_ofD hy
 have hne : listD (ofD x).1 ≠ [] := by
  obtain ⟨v, hv⟩ := List.exists_mem_of_ne_nil _ (okL_iff.mp hx).1
  exact List.ne_nil_of_mem ((a.1 v).mpr hv)
 rw [decide_eq_true_eq, cut_size (made_ofD hx) (keeps_and (wf_ofD hy)) hne]
 constructor
 ·rintro ⟨v, h1, h2⟩
  exact ⟨v, (a.1 v).mp h1, (b.1 v).mp (of_decide_eq_true h2)⟩
 ·rintro ⟨v, h1, h2⟩
  exact ⟨v, (a.1 v).mpr h1, decide_eq_true ((b.1 v).mpr h2)⟩
theorem ends_ofD {x : List Int} (h : okL x = true) : (minD (ofD x).1 ∈ x ∧ ∀ v ∈ x, minD (ofD x).1 ≤ v) ∧ (maxD (ofD x).1 ∈ x ∧ ∀ v ∈ x, v ≤ maxD (ofD x).1) := by
 have a := (list_ofD h).1
 have hne : listD (ofD x).1 ≠ [] := by
  obtain ⟨v, hv⟩ := List.exists_mem_of_ne_nil _ (okL_iff.mp h).1
  exact List.ne_nil_of_mem ((a v).mpr hv)
 obtain ⟨_, ⟨b1, b2⟩, c1, c2⟩ := (made_ends (made_ofD h)).2 hne
 exact ⟨⟨(a _).mp b1, fun v hv => b2 v ((a v).mpr hv)⟩, (a _).mp c1, fun v hv => c2 v ((a v).mpr hv)⟩
end Go.Proofs.YtnojoaghcbljfaaGreatDoor.Ev
set_option linter.unusedVariables false
set_option linter.unusedSimpArgs false
set_option maxRecDepth 10000
namespace Go.Proofs.YtnojoaghcbljfaaGreatDoor.Ev
open Go
abbrev RowsD := List Dom × List Dom × List Bool × List Bool × List Bool
abbrev RowsT : Ty := .pair (.sl DomT) (.pair (.sl DomT) (.pair (.sl .bool) (.pair (.sl .bool) (.sl .bool))))
def evenAt (a b : List Dom) (i : Nat) : Bool := (List.range i).all fun j => meetD (a.getD j dom0) (b.getD j dom0)
def lessAt (a b : List Dom) (j : Nat) : Bool := decide (minD (a.getD j dom0) < maxD (b.getD j dom0))
def belowAt (a b : List Dom) (i : Nat) : Bool := (List.range i).any fun j => evenAt a b j && lessAt a b j
def restGo : List Dom → List Dom → Bool
 | x :: xs, y :: ys => decide (minD x < maxD y) || (meetD x y && restGo xs ys)
 | _, _ => true
def knownR (a b : List Dom) : RowsD :=
 (a, b, (List.range (a.length + 1)).map (evenAt a b), (List.range (a.length + 1)).map (belowAt a b), (List.range (a.length + 1)).map fun i => restGo (a.drop i) (b.drop i))
def knownB (a b : List Dom) : Bool := decide (a.length = b.length) && Nat.ble a.length 1000 && (List.range a.length).all fun i => cutB (a.getD i dom0) (andKB (b.getD i dom0))
def leftR (r : RowsD) (i v : Int) : Bool := r.2.2.2.1.getD i.toNat false || (r.2.2.1.getD i.toNat false && (decide (v < maxD (r.2.1.getD i.toNat dom0)) || (hasD (r.2.1.getD i.toNat dom0) v && r.2.2.2.2.getD (i + 1).toNat false)))
def leftB (r : RowsD) (i : Int) : Bool := decide (0 ≤ i) && decide (i ≤ 1000000) && decide (i < r.2.2.2.1.length) && decide (i < r.2.2.1.length) && decide (i < r.2.1.length) && nearB (r.2.1.getD i.toNat dom0).1 && decide (i + 1 < r.2.2.2.2.length)
def rightR2 (r : RowsD) (i v : Int) : Bool := r.2.2.2.1.getD i.toNat false || (r.2.2.1.getD i.toNat false && (decide (v > minD (r.1.getD i.toNat dom0)) || (hasD (r.1.getD i.toNat dom0) v && r.2.2.2.2.getD (i + 1).toNat false)))
def rightB (r : RowsD) (i : Int) : Bool := decide (0 ≤ i) && decide (i ≤ 1000000) && decide (i < r.2.2.2.1.length) && decide (i < r.2.2.1.length) && decide (i < r.1.length) && nearB (r.1.getD i.toNat dom0).1 && decide (i + 1 < r.2.2.2.2.length)
def keptL (d : Dom) (p : Int → Bool) : List Int := (listD d).filter p
def lexiL (a b : List Dom) : List (List Int) :=
 ((List.range a.length).map fun (i : Nat) => keptL (a.getD i dom0) (leftR (knownR a b) (i : Int))) ++ ((List.range b.length).map fun (i : Nat) => keptL (b.getD i dom0) (rightR2 (knownR a b) (i : Int)))
def lexiF (c : Con) (d : List Dom) : List Dom × Bool := bif fitsD c d 22 22 then madeAll (lexiL (d.take c.2.1.length) (d.drop c.2.1.length)) else ([], false)
def lexR : List Int → List Int → Bool
 | x :: xs, y :: ys => if x = y then lexR xs ys else decide (x < y)
 | _, _ => true
end Go.Proofs.YtnojoaghcbljfaaGreatDoor.Ev
set_option linter.unusedVariables false
namespace Go.Proofs.YtnojoaghcbljfaaGreatDoor.Ev
open Go
def sortL (l : List Int) : List Int := l.mergeSort fun x y => decide (x ≤ y)
def compL (l : List Int) : List Int := Lib.compact l
def risingL (l : List Int) : List Int := compL (sortL (if (l.length : Int) > 0 then (l.take 5).map IntKind.i64.wrap else [3]))
def eqL (a b : List Int) : Bool := decide (a = b)
end Go.Proofs.YtnojoaghcbljfaaGreatDoor.Ev
