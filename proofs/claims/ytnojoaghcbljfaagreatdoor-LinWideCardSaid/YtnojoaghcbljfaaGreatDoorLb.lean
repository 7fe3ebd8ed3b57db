/-
The least and the greatest of a domain: what 'made' finds.
Conditions: none.
What is left of a domain when only some words' bits are left.
Conditions: none.
Linear constraints: what the functions answer, as plain data.
Conditions: none.
-/
import Derived.Test.YtnojoaghcbljfaaGreatDoorAp
set_option linter.unusedVariables false
set_option linter.unusedSimpArgs false
set_option maxRecDepth 100000
namespace Go.Proofs.YtnojoaghcbljfaaGreatDoor.Ev
open Go
def Bl (n k : Nat) : Prop := n < 2 ^ k ∧ (n ≠ 0 → 0 < k ∧ 2 ^ (k - 1) ≤ n)
theorem bl_byte : ∀ n, n < 256 → ∃ k, k ≤ 8 ∧ byteW len8tab n = ((k : Nat) : Int) ∧ (n < 2 ^ k ∧ (n ≠ 0 → 0 < k ∧ 2 ^ (k - 1) ≤ n)) := by decide +kernel
theorem bl_shift {n k s : Nat} (h : Bl (n / 2 ^ s) k) (hn : 2 ^ s ≤ n) : Bl n (k + s) := by
 obtain ⟨h1, h2⟩ := h
 have h0 : n / 2 ^ s ≠ 0 := by
  have : 0 < n / 2 ^ s := Nat.div_pos hn (Nat.two_pow_pos s)
  omega
 obtain ⟨h3, h4⟩ := h2 h0
 refine ⟨?_, fun _ => ⟨by omega, ?_⟩⟩
 ·rw [Nat.pow_add]
  exact (Nat.div_lt_iff_lt_mul (Nat.two_pow_pos s)).mp h1
 ·have e : k + s - 1 = (k - 1) + s := by omega
  rw [e, Nat.pow_add]
  exact (Nat.le_div_iff_mul_le (Nat.two_pow_pos s)).mp h4
theorem len_bl {w : Int} (h : U w) : ∃ k : Nat, k ≤ 64 ∧ len64D w = (k : Int) ∧ Bl w.toNat k := by
 have hw := h
 unfold U at h
 have e0 : w = ((w.toNat : Nat) : Int) := by omega
 generalize w.toNat = n at e0
 subst e0
 have hn : n < 18446744073709551616 := by omega
 have last : ∀ (m a : Nat), m < 256 → a ≤ 56 → ∃ k : Nat, k ≤ 8 ∧ lenZ (m : Int) (a : Int) = ((k + a : Nat) : Int) ∧ Bl m k := by
  intro m a hm ha
  obtain ⟨k, k8, ke, kb⟩ := bl_byte m hm
  refine ⟨k, k8, ?_, kb⟩
  unfold lenZ
  have e1 : (IntKind.u8.wrap (m : Int)).toNat = m := by rw [IntKind.wrap_u8]; omega
  rw [e1, ke, wrap_ok (x := ((k : Nat) : Int)) (by omega) (by omega), wrap_ok (by omega) (by omega)]
  omega
 have third : ∀ (m a : Nat), m < 65536 → a ≤ 48 → ∃ k : Nat, k ≤ 16 ∧ lenZ (lenC (m : Int)) (lenC' (m : Int) (a : Int)) = ((k + a : Nat) : Int) ∧ Bl m k := by
  intro m a hm ha
  unfold lenC lenC'
  by_cases c : (m : Int) ≥ 256
  ·have es : shrW .u64 (m : Int) (8 : Int) = ((m / 2 ^ 8 : Nat) : Int) := shr_n (by omega) 8 (by omega)
   rw [if_pos c, if_pos c, es, wrap_ok (by omega) (by omega)]
   obtain ⟨k, k1, k2, k3⟩ := last (m / 2 ^ 8) (a + 8) (by omega) (by omega)
   refine ⟨k + 8, by omega, ?_, bl_shift k3 (by show 256 ≤ m; omega)⟩
   have e : ((a + 8 : Nat) : Int) = (a : Int) + 8 := by omega
   rw [e] at k2
   rw [k2]
   omega
  ·rw [if_neg c, if_neg c]
   obtain ⟨k, k1, k2, k3⟩ := last m a (by omega) (by omega)
   exact ⟨k, by omega, k2, k3⟩
 have second : ∀ (m a : Nat), m < 4294967296 → a ≤ 32 → ∃ k : Nat, k ≤ 32 ∧ lenZ (lenC (lenB1 (m : Int))) (lenC' (lenB1 (m : Int)) (lenB' (m : Int) (a : Int))) = ((k + a : Nat) : Int) ∧ Bl m k := by
  intro m a hm ha
  unfold lenB1 lenB'
  by_cases c : (m : Int) ≥ 65536
  ·have es : shrW .u64 (m : Int) (16 : Int) = ((m / 2 ^ 16 : Nat) : Int) := shr_n (by omega) 16 (by omega)
   rw [if_pos c, if_pos c, es, wrap_ok (by omega) (by omega)]
   obtain ⟨k, k1, k2, k3⟩ := third (m / 2 ^ 16) (a + 16) (by omega) (by omega)
   refine ⟨k + 16, by omega, ?_, bl_shift k3 (by show 65536 ≤ m; omega)⟩
   have e : ((a + 16 : Nat) : Int) = (a : Int) + 16 := by omega
   rw [e] at k2
   rw [k2]
   omega
  ·rw [if_neg c, if_neg c]
   obtain ⟨k, k1, k2, k3⟩ := third m a (by omega) (by omega)
   exact ⟨k, by omega, k2, k3⟩
 unfold len64D lenA lenA'
 by_cases c : (n : Int) ≥ 4294967296
 ·have es : shrW .u64 (n : Int) (32 : Int) = ((n / 2 ^ 32 : Nat) : Int) := shr_n hn 32 (by omega)
  rw [if_pos c, if_pos c, es]
  obtain ⟨k, k1, k2, k3⟩ := second (n / 2 ^ 32) 32 (by omega) (by omega)
  exact ⟨k + 32, by omega, by rw [show ((32 : Nat) : Int) = 32 from rfl] at k2; exact k2, bl_shift k3 (by show 4294967296 ≤ n; omega)⟩
 ·rw [if_neg c, if_neg c]
  obtain ⟨k, k1, k2, k3⟩ := second n 0 (by omega) (by omega)
  exact ⟨k, by omega, k2, k3⟩
theorem lz_spec {w : Int} (h : U w) (h0 : w ≠ 0) : ∃ t : Nat, lzD w = 63 - (t : Int) ∧ t < 64 ∧ tb w t = true ∧ ∀ j, tb w j = true → j ≤ t := by
 obtain ⟨k, k1, k2, k3⟩ := len_bl h
 have hn : w.toNat ≠ 0 := by unfold U at h; omega
 obtain ⟨k4, k5⟩ := k3.2 hn
 refine ⟨k - 1, ?_, by omega, ?_, fun j hj => ?_⟩
 ·unfold lzD
  rw [k2, wrap_ok (by omega) (by omega)]
  omega
 ·unfold tb
  rw [Nat.testBit_eq_decide_div_mod_eq]
  have e : w.toNat / 2 ^ (k - 1) = 1 := by
   refine Nat.div_eq_of_lt_le (by omega) ?_
   have : 2 ^ k = 2 * 2 ^ (k - 1) := by rw [← Nat.pow_succ']; congr 1; omega
   have := k3.1
   omega
  rw [e]
  rfl
 ·apply Decidable.byContradiction
  intro hc
  unfold tb at hj
  rw [Nat.testBit_lt_two_pow (Nat.lt_of_lt_of_le k3.1 (Nat.pow_le_pow_right (by decide) (by omega)))] at hj
  cases hj
theorem word_list {b w : Int} (h : U w) (v : Int) : v ∈ bitsFrom 64 b w ↔ ∃ j : Nat, j < 64 ∧ tb w j = true ∧ v = b + j := (bitsFrom_spec 64 b w h (Nat.le_refl _) (by intro j hj; omega)).1 v
theorem madeGo_ends (off : Int) (ho : -1000064 ≤ off ∧ off ≤ 1000064) : ∀ (ws : List Int) (i mn mx sz : Int), (∀ w ∈ ws, U w) → 0 ≤ sz → sz + 127 * ws.length ≤ 100000000 → 0 ≤ i → i + ws.length ≤ 100000 →
  ((∀ w ∈ ws, w = 0) → madeGo off i mn mx sz ws = (mn, mx, sz) ∧ listFrom off i ws = []) ∧
  ((∃ w ∈ ws, w ≠ 0) → ((madeGo off i mn mx sz ws).2.1 ∈ listFrom off i ws ∧ ∀ v ∈ listFrom off i ws, v ≤ (madeGo off i mn mx sz ws).2.1) ∧
   (sz = 0 → (madeGo off i mn mx sz ws).1 ∈ listFrom off i ws ∧ ∀ v ∈ listFrom off i ws, (madeGo off i mn mx sz ws).1 ≤ v)) ∧
  (sz ≠ 0 → (madeGo off i mn mx sz ws).1 = mn)
 | [], i, mn, mx, sz, _, _, _, _, _ => by simp [madeGo, listFrom]
 | w :: ws, i, mn, mx, sz, hu, h0, h1, hi0, hi1 => by
  have hw := hu w (by simp)
  have hws : ∀ x ∈ ws, U x := fun x hx => hu x (by simp [hx])
  have hp := onesD_pos hw
  simp only [List.length_cons] at h1 hi1
  unfold madeGo listFrom
  by_cases hz : w = 0
  ·rw [if_pos hz]
   obtain ⟨a, b, c⟩ := madeGo_ends off ho ws (i + 1) mn mx sz hws h0 (by omega) (by omega) (by omega)
   have e : bitsFrom 64 (off + 64 * i) w = [] := by rw [hz]; exact bitsFrom_zero _ _
   rw [e, List.nil_append]
   refine ⟨fun h => a fun x hx => h x (by simp [hx]), fun ⟨x, hx, hne⟩ => b ⟨x, ?_, hne⟩, c⟩
   rcases List.mem_cons.mp hx with rfl | hx
   ·exact absurd hz hne
   ·exact hx
  ·rw [if_neg hz]
   have e : IntKind.i64.wrap (sz + onesD w) = sz + onesD w := wrap_ok (by omega) (by omega)
   have e1 : IntKind.i64.wrap (64 * i) = 64 * i := wrap_ok (by omega) (by omega)
   have e2 : IntKind.i64.wrap (off + 64 * i) = off + 64 * i := wrap_ok (by omega) (by omega)
   obtain ⟨_, t, t1, t2, t3, t4, _⟩ := lessD_spec hw hz
   obtain ⟨u, u1, u2, u3, u4⟩ := lz_spec hw hz
   have e3 : IntKind.i64.wrap (off + 64 * i + tzD w) = off + 64 * i + t := by rw [t1, wrap_ok (by omega) (by omega)]
   have e4 : IntKind.i64.wrap (IntKind.i64.wrap (IntKind.i64.wrap (off + 64 * i + 64) - 1) - lzD w) = off + 64 * i + u := by
    rw [u1, wrap_ok (x := off + 64 * i + 64) (by omega) (by omega), wrap_ok (x := off + 64 * i + 64 - 1) (by omega) (by omega), wrap_ok (by omega) (by omega)]
    omega
   rw [e, e1, e2, e3, e4]
   have hone := hp.2.2 hz
   have mb : ∀ v, v ∈ bitsFrom 64 (off + 64 * i) w ↔ ∃ j : Nat, j < 64 ∧ tb w j = true ∧ v = off + 64 * i + j := fun v => word_list hw v
   obtain ⟨a, b, c⟩ := madeGo_ends off ho ws (i + 1) (if sz = 0 then off + 64 * i + (t : Int) else mn) (off + 64 * i + (u : Int)) (sz + onesD w) hws (by omega) (by omega) (by omega) (by omega)
   have hc := c (by omega)
   have later : ∀ v ∈ listFrom off (i + 1) ws, off + 64 * i + 64 ≤ v := fun v hv => by
    have := ((listFrom_spec off ws (i + 1) hws).1 v).mp hv
    unfold memW at this
    rw [Bool.and_eq_true, decide_eq_true_eq] at this
    omega
   refine ⟨fun h => absurd (h w (by simp)) hz, fun _ => ⟨?_, fun hs => ?_⟩, fun hs => by rw [hc, if_neg hs]⟩
   ·by_cases hall : ∀ x ∈ ws, x = 0
    ·obtain ⟨a1, a2⟩ := a hall
     rw [a1, a2, List.append_nil]
     refine ⟨(mb _).mpr ⟨u, u2, u3, rfl⟩, fun v hv => ?_⟩
     obtain ⟨j, _, j2, rfl⟩ := (mb v).mp hv
     have := u4 j j2
     show off + 64 * i + (j : Int) ≤ off + 64 * i + (u : Int)
     omega
    ·have hex : ∃ x ∈ ws, x ≠ 0 := by
      apply Decidable.byContradiction
      intro hn
      exact hall fun x hx => Decidable.byContradiction fun hne => hn ⟨x, hx, hne⟩
     obtain ⟨⟨b1, b2⟩, _⟩ := b hex
     refine ⟨List.mem_append_right _ b1, fun v hv => ?_⟩
     rcases List.mem_append.mp hv with hv | hv
     ·obtain ⟨j, j1, _, rfl⟩ := (mb v).mp hv
      have := later _ b1
      omega
     ·exact b2 v hv
   ·rw [hc, if_pos hs]
    refine ⟨List.mem_append_left _ ((mb _).mpr ⟨t, t2, t3, rfl⟩), fun v hv => ?_⟩
    rcases List.mem_append.mp hv with hv | hv
    ·obtain ⟨j, _, j2, rfl⟩ := (mb v).mp hv
     have := t4 j j2
     omega
    ·have := later _ hv
     omega
def minD (d : Dom) : Int := d.2.2.1
def maxD (d : Dom) : Int := d.2.2.2.1
structure Made (d : Dom) : Prop where
  wf : Wf d
  len : d.2.1.length ≤ 20000
  eq : d = madeD d.1 d.2.1
theorem made_ofD {xs : List Int} (h : okL xs = true) : Made (ofD xs).1 := by
 refine ⟨wf_ofD h, ?_, ?_⟩
 ·rw [ofD_ok h]
  obtain ⟨w1, w2, w3⟩ := words_spec h
  have ho := okL_ok h
  show (wordsL xs).length ≤ 20000
  have h1 := ho.wide
  have h2 := ho.le
  rw [w1, ho.len]
  omega
 ·rw [ofD_ok h]
  rfl
theorem made_ends {d : Dom} (h : Made d) : (listD d = [] → sizeD d = 0) ∧ (listD d ≠ [] → 0 < sizeD d ∧ (minD d ∈ listD d ∧ ∀ v ∈ listD d, minD d ≤ v) ∧ (maxD d ∈ listD d ∧ ∀ v ∈ listD d, v ≤ maxD d)) := by
 obtain ⟨off, ws, mn, mx, sz⟩ := d
 obtain ⟨wf, len, eq⟩ := h
 have h1 := wf.lo
 have h2 := wf.hi
 have hu := wf.ws
 simp only at h1 h2 hu len
 have eq : (off, ws, mn, mx, sz) = (off, ws, madeGo off 0 0 0 0 ws) := eq
 have e5 : (mn, mx, sz) = madeGo off 0 0 0 0 ws := by
  have := congrArg (fun d : Dom => d.2.2) eq
  exact this
 have e6 : mn = (madeGo off 0 0 0 0 ws).1 := by rw [← e5]
 have e7 : mx = (madeGo off 0 0 0 0 ws).2.1 := by rw [← e5]
 have e8 : sz = (madeGo off 0 0 0 0 ws).2.2 := by rw [← e5]
 obtain ⟨a, b, _⟩ := madeGo_ends off (by omega) ws 0 0 0 0 hu (by omega) (by omega) (by omega) (by omega)
 have el : listD (off, ws, mn, mx, sz) = listFrom off 0 ws := rfl
 rw [el]
 by_cases hall : ∀ x ∈ ws, x = 0
 ·obtain ⟨a1, a2⟩ := a hall
  rw [a2]
  refine ⟨fun _ => ?_, fun h => absurd rfl h⟩
  show sz = 0
  rw [e8, a1]
 ·have hex : ∃ x ∈ ws, x ≠ 0 := by
   apply Decidable.byContradiction
   intro hn
   exact hall fun x hx => Decidable.byContradiction fun hne => hn ⟨x, hx, hne⟩
  obtain ⟨b1, b2⟩ := b hex
  have b2 := b2 rfl
  refine ⟨fun h => ?_, fun _ => ⟨?_, ?_, ?_⟩⟩
  ·rw [h] at b1
   cases b1.1
  ·have := (madeGo_size off ws 0 0 0 0 hu (by omega) (by omega)).2 hex
   show 0 < sz
   rw [e8]
   omega
  ·show mn ∈ _ ∧ ∀ v ∈ _, mn ≤ v
   rw [e6]
   exact b2
  ·show mx ∈ _ ∧ ∀ v ∈ _, v ≤ mx
   rw [e7]
   exact b1
end Go.Proofs.YtnojoaghcbljfaaGreatDoor.Ev
set_option linter.unusedVariables false
set_option linter.unusedSimpArgs false
set_option maxRecDepth 100000
namespace Go.Proofs.YtnojoaghcbljfaaGreatDoor.Ev
open Go
def cloneB {α : Type} (l : List α) : Bool := !(decide (l.length = 0)) && Nat.ble l.length 1000000
def cutW (d : Dom) (k : Int → Int → Int) : List Int := (List.range d.2.1.length).map fun (i : Nat) => bitsW .and .u64 (d.2.1.getD i 0) (k (d.1 + 64 * (i : Int)) (d.2.1.getD i 0))
def cutD (d : Dom) (k : Int → Int → Int) : Dom × Int :=
 if sizeD (madeD d.1 (cutW d k)) = sizeD d then (d, 0) else
 if sizeD (madeD d.1 (cutW d k)) = 0 then ((0, [], 0, 0, 0), 4) else
 if sizeD (madeD d.1 (cutW d k)) = 1 then (madeD d.1 (cutW d k), 3) else
 if ¬ minD (madeD d.1 (cutW d k)) = minD d then (madeD d.1 (cutW d k), 2) else
 if ¬ maxD (madeD d.1 (cutW d k)) = maxD d then (madeD d.1 (cutW d k), 2) else (madeD d.1 (cutW d k), 1)
def wordsB (l : List Int) : Bool := Nat.ble l.length 1000000
def cutB (d : Dom) (kb : Int → Bool) : Bool := nearB d.1 && wordsB d.2.1 && (List.range d.2.1.length).all fun (i : Nat) => kb (d.1 + 64 * (i : Int))
def andK (e : Dom) (a _ : Int) : Int := wordD e a
def andKB (e : Dom) (a : Int) : Bool := wordB e a
def Keeps (k : Int → Int → Int) (p : Int → Bool) : Prop := ∀ a w : Int, a % 64 = 0 → -1000064 ≤ a → a ≤ 2300000 → U (k a w) ∧ ∀ j : Nat, j < 64 → tb (k a w) j = p (a + j)
theorem tb_and {a b : Int} (ha : U a) (hb : U b) (j : Nat) : U (bitsW .and .u64 a b) ∧ tb (bitsW .and .u64 a b) j = (tb a j && tb b j) := by
 rw [and_u64 ha hb]
 have : a.toNat &&& b.toNat ≤ a.toNat := Nat.and_le_left
 unfold U at ha
 refine ⟨⟨by omega, by omega⟩, ?_⟩
 unfold tb
 rw [Int.toNat_natCast, Nat.testBit_and]
section
variable {d : Dom} {k : Int → Int → Int} {p : Int → Bool}
theorem cutW_len : (cutW d k).length = d.2.1.length := by unfold cutW; simp
theorem cutW_get {i : Nat} (hi : i < d.2.1.length) : (cutW d k).getD i 0 = bitsW .and .u64 (d.2.1.getD i 0) (k (d.1 + 64 * (i : Int)) (d.2.1.getD i 0)) := by
 unfold cutW
 rw [List.getD_eq_getElem?_getD, List.getElem?_map, List.getElem?_range hi]
 rfl
theorem cutW_U (h : Made d) (hk : Keeps k p) : ∀ w ∈ cutW d k, U w := by
 intro w hw
 unfold cutW at hw
 obtain ⟨i, hi, rfl⟩ := List.mem_map.mp hw
 have hi := List.mem_range.mp hi
 have h1 := h.wf.off
 have h2 := h.wf.lo
 have h3 := h.wf.hi
 have h4 := h.len
 exact (tb_and (getD_U h.wf.ws i) (hk _ _ (by omega) (by omega) (by omega)).1 0).1
theorem cutW_mem (h : Made d) (hk : Keeps k p) (v : Int) : memW d.1 (cutW d k) v = (memW d.1 d.2.1 v && p v) := by
 unfold memW
 have h1 := h.wf.off
 have h2 := h.wf.lo
 have h3 := h.wf.hi
 have h4 := h.len
 by_cases hv : d.1 ≤ v
 ·rw [decide_eq_true hv, Bool.true_and, Bool.true_and]
  by_cases hi : ((v - d.1) / 64).toNat < d.2.1.length
  ·rw [cutW_get hi]
   obtain ⟨u, hb⟩ := hk (d.1 + 64 * ((((v - d.1) / 64).toNat : Nat) : Int)) (d.2.1.getD ((v - d.1) / 64).toNat 0) (by omega) (by omega) (by omega)
   rw [(tb_and (getD_U h.wf.ws _) u _).2, hb _ (by omega)]
   congr 2
   omega
  ·have e : ∀ l : List Int, l.length = d.2.1.length → l.getD ((v - d.1) / 64).toNat 0 = 0 := fun l hl => by
    rw [List.getD_eq_getElem?_getD, List.getElem?_eq_none (by omega)]
    rfl
   rw [e _ cutW_len, e _ rfl, tb_zero]
   rfl
 ·rw [decide_eq_false hv]
  rfl
theorem cut_made (h : Made d) (hk : Keeps k p) : Made (madeD d.1 (cutW d k)) := by
 refine ⟨⟨h.wf.off, h.wf.lo, h.wf.hi, cutW_U h hk, ?_⟩, ?_, rfl⟩
 ·show (cutW d k).length ≤ 40000
  rw [cutW_len]
  exact h.wf.len
 ·show (cutW d k).length ≤ 20000
  rw [cutW_len]
  exact h.len
theorem cut_mem (h : Made d) (hk : Keeps k p) (v : Int) : v ∈ listD (madeD d.1 (cutW d k)) ↔ v ∈ listD d ∧ p v = true := by
 rw [(listD_mem (cut_made h hk).wf).1, (listD_mem h.wf).1]
 show memW d.1 (cutW d k) v = true ↔ _
 rw [cutW_mem h hk, Bool.and_eq_true]
end
theorem keeps_and {e : Dom} (h : Wf e) : Keeps (andK e) fun v => decide (v ∈ listD e) := by
 intro a w h0 h1 h2
 have o := h.off
 have lo := h.lo
 have hi := h.hi
 have lm := (listD_mem h).1
 unfold andK wordD
 refine ⟨?_, fun j hj => ?_⟩
 ·split
  ·exact ⟨by omega, by omega⟩
  ·exact getD_U h.ws _
 ·have e1 : decide (a + (j : Int) ∈ listD e) = memW e.1 e.2.1 (a + j) := by
   rw [Bool.eq_iff_iff, decide_eq_true_eq]
   exact lm _
  refine Eq.trans ?_ e1.symm
  unfold memW
  by_cases hlt : a < e.1
  ·rw [if_pos hlt, tb_zero, decide_eq_false (by omega)]
   rfl
  ·rw [if_neg hlt, decide_eq_true (by omega), Bool.true_and]
   have a1 : ((a + (j : Int) - e.1) / 64).toNat = ((a - e.1) / 64).toNat := by omega
   have a2 : ((a + (j : Int) - e.1) % 64).toNat = j := by omega
   rw [a1, a2]
end Go.Proofs.YtnojoaghcbljfaaGreatDoor.Ev
set_option linter.unusedVariables false
set_option linter.unusedSimpArgs false
set_option maxRecDepth 10000
namespace Go.Proofs.YtnojoaghcbljfaaGreatDoor.Ev
open Go
def bigB (a : Int) : Bool := decide (-4611686018427387904 ≤ a) && decide (a ≤ 4611686018427387904)
def sumsB (a : Int) : Bool := decide (-1099511627776000 ≤ a) && decide (a ≤ 1099511627776000)
def rightN (a b : Int) : Bool := !(decide (b = 0)) && (!(decide (b = -1)) || !(decide (a = -9223372036854775808)))
def quoN (a b : Int) : Int := a / b
def floorB (a b : Int) : Bool := decide (0 < b) && bigB a
def ceilB (a b : Int) : Bool := decide (b < 0) && bigB a
def aboveD (a v : Int) : Int := if v ≤ a then 18446744073709551615 else if v - a ≥ 64 then 0 else shlW .u64 18446744073709551615 (v - a)
def aboveB (a v : Int) : Bool := nearB a && nearB v
def mostK (v a _w : Int) : Int := bitsW .xor .u64 18446744073709551615 (aboveD a (v + 1))
def mostKB (v a : Int) : Bool := nearB a && (decide (-1000001 ≤ v) && decide (v ≤ 1000001))
def leastK (v a _w : Int) : Int := aboveD a v
def leastKB (v a : Int) : Bool := nearB a && (decide (-1000001 ≤ v) && decide (v ≤ 1000001))
def noK (v a _w : Int) : Int := if a = placeD v then bitsW .xor .u64 18446744073709551615 (shlW .u64 1 (v - a)) else 18446744073709551615
def noKB (v a : Int) : Bool := nearB a && bigB v
def hiV (v : Int) : Int := if -1000001 > (if 1000000 < v then 1000000 else v) then -1000001 else if 1000000 < v then 1000000 else v
def loV (v : Int) : Int := if -1000000 > (if 1000001 < v then 1000001 else v) then -1000000 else if 1000001 < v then 1000001 else v
def atMostD (d : Dom) (v : Int) : Dom × Int := cutD d (mostK (hiV v))
def atLeastD (d : Dom) (v : Int) : Dom × Int := cutD d (leastK (loV v))
def withoutD (d : Dom) (v : Int) : Dom × Int := cutD d (noK v)
def domB (d : Dom) : Bool := (decide (-2000000 ≤ d.1) && decide (d.1 ≤ 2000000)) && wordsB d.2.1
def endsB (d : Dom) : Bool := millB (minD d) && millB (maxD d)
def leastT (k : Int) (d : Dom) : Int := if k * maxD d < k * minD d then k * maxD d else k * minD d
def leastB (k : Int) (d : Dom) : Bool := millB k && endsB d
def lowsD : List Int → List Dom → Int
 | k :: ks, x :: xs => leastT k x + lowsD ks xs
 | _, _ => 0
def lowsB (c : List Int) (d : List Dom) : Bool := decide (c.length ≤ d.length) && Nat.ble c.length 1000 && c.all millB && d.all endsB
def turnedL (c : List Int) : List Int := c.map fun k => -k
def turnedB (c : List Int) : Bool := c.all millB && Nat.ble c.length 1000
def cutT (k n : Int) (d : Dom) : Dom × Int := if k > 0 then atMostD d (quoN n k) else if k < 0 then atLeastD d (quoN n k) else if n < 0 then (dom0, 4) else (d, 0)
def cutTB (k n : Int) (d : Dom) : Bool := bigB n && domB d
def boundGo (all most : Int) : List Int → List Dom → Option (List Dom × Bool)
 | k :: ks, x :: xs => if (cutT k (most - (all - leastT k x)) x).2 = 4 then none else match boundGo all most ks xs with
  | none => none
  | some r => some ((cutT k (most - (all - leastT k x)) x).1 :: r.1, !(decide ((cutT k (most - (all - leastT k x)) x).2 = 0)) || r.2)
 | _, xs => some (xs, false)
def boundD (c : List Int) (most : Int) (d : List Dom) : List Dom × Bool × Bool := match boundGo (lowsD c d) most c d with
 | none => ([], false, false)
 | some r => (r.1, r.2, true)
def boundB (c : List Int) (most : Int) (d : List Dom) : Bool := lowsB c d && sumsB most && d.all domB && cloneB d
abbrev cC (c : Con) : List Int := c.2.2.2.1
abbrev cK (c : Con) : Int := c.2.2.2.2.2.2.1
def equalGo (c : List Int) (K : Int) : Nat → List Dom → List Dom × Bool
 | 0, _ => ([], false)
 | n + 1, d => bif !(boundD c K d).2.2 then ([], false) else bif !(boundD (turnedL c) (-K) (boundD c K d).1).2.2 then ([], false) else
  bif (boundD c K d).2.1 || (boundD (turnedL c) (-K) (boundD c K d).1).2.1 then equalGo c K n (boundD (turnedL c) (-K) (boundD c K d).1).1 else ((boundD (turnedL c) (-K) (boundD c K d).1).1, true)
def equalOk (c : List Int) (K : Int) : Nat → List Dom → Bool
 | 0, _ => false
 | n + 1, d => boundB c K d && turnedB c && (!(boundD c K d).2.2 || (boundB (turnedL c) (-K) (boundD c K d).1 && (!(boundD (turnedL c) (-K) (boundD c K d).1).2.2 ||
  (!((boundD c K d).2.1 || (boundD (turnedL c) (-K) (boundD c K d).1).2.1) || equalOk c K n (boundD (turnedL c) (-K) (boundD c K d).1).1))))
def equalF (c : Con) (d : List Dom) : List Dom × Bool := equalGo (cC c) (cK c) 100000 d
def equalB (c : Con) (d : List Dom) : Bool := equalOk (cC c) (cK c) 100000 d
def openGo : Int → Int → Int → List Int → List Dom → Option (Int × Int)
 | at_, sum, i, k :: ks, x :: xs => if sizeD x = 1 then openGo at_ (sum + k * minD x) (i + 1) ks xs else if at_ ≥ 0 then none else openGo i sum (i + 1) ks xs
 | at_, sum, _, _, _ => some (at_, sum)
def unlikeP (c : Con) (d : List Dom) (p : Int × Int) : List Dom × Bool := if p.1 < 0 then (d, !(decide (p.2 = cK c))) else
  if (cC c).getD p.1.toNat 0 = 0 then (d, !(decide (cK c - p.2 = 0))) else
  if (cK c - p.2).tmod ((cC c).getD p.1.toNat 0) = 0 then (d.set p.1.toNat (withoutD (d.getD p.1.toNat dom0) ((cK c - p.2).tdiv ((cC c).getD p.1.toNat 0))).1, true) else (d, true)
def unlikeF (c : Con) (d : List Dom) : List Dom × Bool := match openGo (-1) 0 0 (cC c) d with
 | none => (d, true)
 | some p => unlikeP c d p
def unlikeB (c : Con) (d : List Dom) : Bool := lowsB (cC c) d && decide (-10000000000 ≤ cK c) && decide (cK c ≤ 10000000000) && d.all domB && cloneB d && decide ((cC c).length ≤ 64)
def truthsD : Dom := (ofD [0, 1]).1
def lastD (c : Con) (d : List Dom) : Dom :=
 let n := c.2.1.length
 let b := (cutD (d.getD n dom0) (andK truthsD)).1
 let b1 := if -(lowsD (turnedL (cC c)) (d.take n)) ≤ cK c then (withoutD b 0).1 else b
 if lowsD (cC c) (d.take n) > cK c then (withoutD b1 1).1 else b1
def reifiedF (c : Con) (d : List Dom) : List Dom × Bool :=
 let n := c.2.1.length
 let b := lastD c d
 if sizeD b > 0 then
  if sizeD b = 1 then
   if minD b = 1 then ((boundD (cC c) (cK c) (d.take n)).1 ++ [b], (boundD (cC c) (cK c) (d.take n)).2.2)
   else ((boundD (turnedL (cC c)) (-(cK c) - 1) (d.take n)).1 ++ [b], (boundD (turnedL (cC c)) (-(cK c) - 1) (d.take n)).2.2)
  else (d.take n ++ [b], true)
 else (d.take n ++ [b], false)
def reifiedB (c : Con) (d : List Dom) : Bool :=
 let n := c.2.1.length
 let b := (cutD (d.getD n dom0) (andK truthsD)).1
 let b1 := if -(lowsD (turnedL (cC c)) (d.take n)) ≤ cK c then (withoutD b 0).1 else b
 decide (n < d.length) && domB (d.getD n dom0) && turnedB (cC c) && lowsB (turnedL (cC c)) (d.take n) && boundB (cC c) (cK c) (d.take n) && boundB (turnedL (cC c)) (-(cK c) - 1) (d.take n) &&
  decide (-10000000000 ≤ cK c) && decide (cK c ≤ 10000000000) &&
  (!(decide (-(lowsD (turnedL (cC c)) (d.take n)) ≤ cK c)) || domB b) && (!(decide (lowsD (cC c) (d.take n) > cK c)) || domB b1)
def linKF (c : Con) (d : List Dom) : List Dom × Bool := if c.1 = 1 then equalF c d else if c.1 = 2 then ((boundD (cC c) (cK c) d).1, (boundD (cC c) (cK c) d).2.2) else if c.1 = 3 then unlikeF c d else reifiedF c d
def linKB (c : Con) (d : List Dom) : Bool := if c.1 = 1 then equalB c d else if c.1 = 2 then boundB (cC c) (cK c) d else if c.1 = 3 then cloneB d && unlikeB c d else reifiedB c d
def linF (c : Con) (d : List Dom) : List Dom × Bool := bif fitsD c d 1 4 then (bif (linKF c d).2 then ((linKF c d).1, true) else ([], false)) else ([], false)
def linFB (c : Con) (d : List Dom) : Bool := fitsB c 1 4 && (!(fitsD c d 1 4) || linKB c d)
def lowR (k : Int) (l : List Int) : Int := if k * l.getD 0 0 < k * l.getD (l.length - 1) 0 then k * l.getD 0 0 else k * l.getD (l.length - 1) 0
def lowRB (k : Int) (l : List Int) : Bool := millB k && decide (0 < l.length) && Nat.ble l.length 1000000 && l.all millB
def othersR (s : Int) : Int → List Int → List (List Int) → Int
 | i, k :: ks, x :: xs => (if i = 0 then 0 else lowR (s * k) x) + othersR s (i - 1) ks xs
 | _, _, _ => 0
def keepR (s most : Int) (c : List Int) (d : List (List Int)) (i : Nat) : List Int := (d.getD i []).filter fun v => decide (s * c.getD i 0 * v + othersR s (i : Int) c d ≤ most)
def byR (c : List Int) (s most : Int) (d : List (List Int)) : List (List Int) × Bool :=
 bif (List.range d.length).all (fun i => !(keepR s most c d i).isEmpty) then ((List.range d.length).map (keepR s most c d), true) else ([], false)
def byRB (c : List Int) (s most : Int) (d : List (List Int)) : Bool := (decide (s = 1) || decide (s = -1)) && decide (c.length = d.length) && Nat.ble d.length 1000 && c.all millB && sumsB most && d.all fun x => decide (0 < x.length) && Nat.ble x.length 100000 && x.all millB
def equalGoR (c : List Int) (K : Int) : Nat → List (List Int) → List (List Int) × Bool
 | 0, _ => ([], false)
 | n + 1, d => bif !(byR c 1 K d).2 then ([], false) else bif !(byR c (-1) (-K) (byR c 1 K d).1).2 then ([], false) else
  bif sameL (byR c (-1) (-K) (byR c 1 K d).1).1 d then ((byR c (-1) (-K) (byR c 1 K d).1).1, true) else equalGoR c K n (byR c (-1) (-K) (byR c 1 K d).1).1
def equalOkR (c : List Int) (K : Int) : Nat → List (List Int) → Bool
 | 0, _ => false
 | n + 1, d => byRB c 1 K d && (!(byR c 1 K d).2 || (byRB c (-1) (-K) (byR c 1 K d).1 && (!(byR c (-1) (-K) (byR c 1 K d).1).2 || ((Nat.ble (byR c (-1) (-K) (byR c 1 K d).1).1.length 1000 && lensB (byR c (-1) (-K) (byR c 1 K d).1).1) &&
  (sameL (byR c (-1) (-K) (byR c 1 K d).1).1 d || equalOkR c K n (byR c (-1) (-K) (byR c 1 K d).1).1)))))
def equalR (c : Con) (d : List (List Int)) : List (List Int) × Bool := equalGoR (cC c) (cK c) 100000 d
def equalRB (c : Con) (d : List (List Int)) : Bool := equalOkR (cC c) (cK c) 100000 d
def openR : Int → Int → Int → Int → List Int → List (List Int) → Int × Int × Int
 | n, at_, sum, i, k :: ks, x :: xs => if (x.length : Int) > 1 then openR (n + 1) i sum (i + 1) ks xs else openR n at_ (sum + k * x.getD 0 0) (i + 1) ks xs
 | n, at_, sum, _, _, _ => (n, at_, sum)
def dropR (at_ sum K : Int) (c : List Int) (d : List (List Int)) (i : Nat) : List Int := (d.getD i []).filter fun v => !(decide ((i : Int) = at_)) || !(decide (sum + c.getD i 0 * v = K))
def unlikeR (c : Con) (d : List (List Int)) : List (List Int) × Bool :=
 let p := openR 0 0 0 0 (cC c) d
 if p.1 > 1 then (d, true) else if p.1 = 0 then (d, !(decide (p.2.2 = cK c))) else
 bif (List.range d.length).all (fun i => !(dropR p.2.1 p.2.2 (cK c) (cC c) d i).isEmpty) then ((List.range d.length).map (dropR p.2.1 p.2.2 (cK c) (cC c) d), true) else ([], false)
def unlikeRB (c : Con) (d : List (List Int)) : Bool := decide ((cC c).length = d.length) && Nat.ble d.length 1000 && (cC c).all millB && sumsB (cK c) && d.all fun x => decide (0 < x.length) && Nat.ble x.length 100000 && x.all millB
def lowsR (s : Int) : List Int → List (List Int) → Int
 | k :: ks, x :: xs => lowR (s * k) x + lowsR s ks xs
 | _, _ => 0
def lastR (c : Con) (d : List (List Int)) : List Int :=
 let n := c.2.1.length
 (if hasL (d.getD n []) 0 && decide (-(lowsR (-1) (cC c) (d.take n)) > cK c) then [0] else []) ++ (if hasL (d.getD n []) 1 && decide (lowsR 1 (cC c) (d.take n) ≤ cK c) then [1] else [])
def reifiedR (c : Con) (d : List (List Int)) : List (List Int) × Bool :=
 let n := c.2.1.length
 let b := lastR c d
 if b.length = 0 then ([], false) else
 if b.length = 1 ∧ b.getD 0 0 = 1 then (bif (byR (cC c) 1 (cK c) (d.take n)).2 then ((byR (cC c) 1 (cK c) (d.take n)).1 ++ [b], true) else ([], false)) else
 if b.length = 1 ∧ b.getD 0 0 = 0 then (bif (byR (cC c) (-1) (-(cK c) - 1) (d.take n)).2 then ((byR (cC c) (-1) (-(cK c) - 1) (d.take n)).1 ++ [b], true) else ([], false)) else
 (d.take n ++ [b], true)
def reifiedRB (c : Con) (d : List (List Int)) : Bool :=
 let n := c.2.1.length
 decide (n < d.length) && byRB (cC c) 1 (cK c) (d.take n) && byRB (cC c) (-1) (-(cK c) - 1) (d.take n) && Nat.ble (d.getD n []).length 1000000 && decide (-10000000000 ≤ cK c) && decide (cK c ≤ 10000000000)
def linKR (c : Con) (d : List (List Int)) : List (List Int) × Bool := if c.1 = 1 then equalR c d else if c.1 = 2 then byR (cC c) 1 (cK c) d else if c.1 = 3 then (bif (unlikeR c d).2 then ((unlikeR c d).1, true) else ([], false)) else reifiedR c d
def linKRB (c : Con) (d : List (List Int)) : Bool := if c.1 = 1 then equalRB c d else if c.1 = 2 then byRB (cC c) 1 (cK c) d else if c.1 = 3 then unlikeRB c d else reifiedRB c d
def linR (c : Con) (d : List (List Int)) : List (List Int) × Bool := bif fitsR c d 1 4 then linKR c d else ([], false)
def linRB (c : Con) (d : List (List Int)) : Bool := fitsB c 1 4 && (!(fitsR c d 1 4) || linKRB c d)
end Go.Proofs.YtnojoaghcbljfaaGreatDoor.Ev
