/-
The least and the greatest of a domain: what 'made' finds.
Conditions: none.
What is left of a domain when only some words' bits are left.
Conditions: none.
Tasks that share what there is: what the functions answer, as plain data.
Conditions: none.
-/
import Derived.Test.YtdihbphkbdelbaaGreatDoorAp
set_option linter.unusedVariables false
set_option linter.unusedSimpArgs false
set_option maxRecDepth 100000
namespace Go.Proofs.YtdihbphkbdelbaaGreatDoor.Ev
open Go
def Bl (n k : Nat) : Prop := n < 2 ^ k ∧ (n ≠ 0 → 0 < k ∧ 2 ^ (k - 1) ≤ n)
theorem bl_byte : ∀ n, n < 256 → ∃ k, k ≤ 8 ∧ byteW len8tab n = ((k : Nat) : Int) ∧ (n < 2 ^ k ∧ (n ≠ 0 → 0 < k ∧ 2 ^ (k - 1) ≤ n)) := by decide +kernel
theorem bl_shift {n k s : Nat} (h : Bl (n / 2 ^ s) k) (hn : 2 ^ s ≤ n) : Bl n (k + s) := by
 obtain ⟨h1, h2⟩ := h
 have h0 : n / 2 ^ s ≠ 0 := by
  have : 0 < n / 2 ^ s := Nat.div_pos hn (Nat.two_pow_pos s)
  omega
 obtain ⟨h3, h4⟩ := h2 h0
 refine ⟨?_, fun _ => ⟨by omega, ?_⟩⟩
 ·rw [Nat.pow_add]
  exact (Nat.div_lt_iff_lt_mul (Nat.two_pow_pos s)).mp h1
 ·have e : k + s - 1 = (k - 1) + s := by omega
  rw [e, Nat.pow_add]
  exact (Nat.le_div_iff_mul_le (Nat.two_pow_pos s)).mp h4
theorem len_bl {w : Int} (h : U w) : ∃ k : Nat, k ≤ 64 ∧ len64D w = (k : Int) ∧ Bl w.toNat k := by
 have hw := h
 unfold U at h
 have e0 : w = ((w.toNat : Nat) : Int) := by omega
 generalize w.toNat = n at e0
 subst e0
 have hn : n < 18446744073709551616 := by omega
 have last : ∀ (m a : Nat), m < 256 → a ≤ 56 → ∃ k : Nat, k ≤ 8 ∧ lenZ (m : Int) (a : Int) = ((k + a : Nat) : Int) ∧ Bl m k := by
  intro m a hm ha
  obtain ⟨k, k8, ke, kb⟩ := bl_byte m hm
  refine ⟨k, k8, ?_, kb⟩
  unfold lenZ
  have e1 : (IntKind.u8.wrap (m : Int)).toNat = m := by rw [IntKind.wrap_u8]; omega
  rw [e1, ke, wrap_ok (x := ((k : Nat) : Int)) (by omega) (by omega), wrap_ok (by omega) (by omega)]
  omega
 have third : ∀ (m a : Nat), m < 65536 → a ≤ 48 → ∃ k : Nat, k ≤ 16 ∧ lenZ (lenC (m : Int)) (lenC' (m : Int) (a : Int)) = ((k + a : Nat) : Int) ∧ Bl m k := by
  intro m a hm ha
  unfold lenC lenC'
  by_cases c : (m : Int) ≥ 256
  ·have es : shrW .u64 (m : Int) (8 : Int) = ((m / 2 ^ 8 : Nat) : Int) := shr_n (by omega) 8 (by omega)
   rw [if_pos c, if_pos c, es, wrap_ok (by omega) (by omega)]
   obtain ⟨k, k1, k2, k3⟩ := last (m / 2 ^ 8) (a + 8) (by omega) (by omega)
   refine ⟨k + 8, by omega, ?_, bl_shift k3 (by show 256 ≤ m; omega)⟩
   have e : ((a + 8 : Nat) : Int) = (a : Int) + 8 := by omega
   rw [e] at k2
   rw [k2]
   omega
  ·rw [if_neg c, if_neg c]
   obtain ⟨k, k1, k2, k3⟩ := last m a (by omega) (by omega)
   exact ⟨k, by omega, k2, k3⟩
 have second : ∀ (m a : Nat), m < 4294967296 → a ≤ 32 → ∃ k : Nat, k ≤ 32 ∧ lenZ (lenC (lenB1 (m : Int))) (lenC' (lenB1 (m : Int)) (lenB' (m : Int) (a : Int))) = ((k + a : Nat) : Int) ∧ Bl m k := by
  intro m a hm ha
  unfold lenB1 lenB'
  by_cases c : (m : Int) ≥ 65536
  ·have es : shrW .u64 (m : Int) (16 : Int) = ((m / 2 ^ 16 : Nat) : Int) := shr_n (by omega) 16 (by omega)
   rw [if_pos c, if_pos c, es, wrap_ok (by omega) (by omega)]
   obtain ⟨k, k1, k2, k3⟩ := third (m / 2 ^ 16) (a + 16) (by omega) (by omega)
   refine ⟨k + 16, by omega, ?_, bl_shift k3 (by show 65536 ≤ m; omega)⟩
   have e : ((a + 16 : Nat) : Int) = (a : Int) + 16 := by omega
   rw [e] at k2
   rw [k2]
   omega
  ·rw [if_neg c, if_neg c]
   obtain ⟨k, k1, k2, k3⟩ := third m a (by omega) (by omega)
   exact ⟨k, by omega, k2, k3⟩
 unfold len64D lenA lenA'
 by_cases c : (n : Int) ≥ 4294967296
 ·have es : shrW .u64 (n : Int) (32 : Int) = ((n / 2 ^ 32 : Nat) : Int) := shr_n hn 32 (by omega)
  rw [if_pos c, if_pos c, es]
  obtain ⟨k, k1, k2, k3⟩ := second (n / 2 ^ 32) 32 (by omega) (by omega)
  exact ⟨k + 32, by omega, by rw [show ((32 : Nat) : Int) = 32 from rfl] at k2; exact k2, bl_shift k3 (by show 4294967296 ≤ n; omega)⟩
 ·rw [if_neg c, if_neg c]
  obtain ⟨k, k1, k2, k3⟩ := second n 0 (by omega) (by omega)
  exact ⟨k, by omega, k2, k3⟩
theorem lz_spec {w : Int} (h : U w) (h0 : w ≠ 0) : ∃ t : Nat, lzD w = 63 - (t : Int) ∧ t < 64 ∧ tb w t = true ∧ ∀ j, tb w j = true → j ≤ t := by
 obtain ⟨k, k1, k2, k3⟩ := len_bl h
 have hn : w.toNat ≠ 0 := by unfold U at h; omega
 obtain ⟨k4, k5⟩ := k3.2 hn
 refine ⟨k - 1, ?_, by omega, ?_, fun j hj => ?_⟩
 ·unfold lzD
  rw [k2, wrap_ok (by omega) (by omega)]
  omega
 ·unfold tb
  rw [Nat.testBit_eq_decide_div_mod_eq]
  have e : w.toNat / 2 ^ (k - 1) = 1 := by
   refine Nat.div_eq_of_lt_le (by omega) ?_
   have : 2 ^ k = 2 * 2 ^ (k - 1) := by rw [← Nat.pow_succ']; congr 1; omega
   have := k3.1
   omega
  rw [e]
  rfl
 ·apply Decidable.byContradiction
  intro hc
  unfold tb at hj
  rw [Nat.testBit_lt_two_pow (Nat.lt_of_lt_of_le k3.1 (Nat.pow_le_pow_right (by decide) (by omega)))] at hj
  cases hj
theorem word_list {b w : Int} (h : U w) (v : Int) : v ∈ bitsFrom 64 b w ↔ ∃ j : Nat, j < 64 ∧ tb w j = true ∧ v = b + j := (bitsFrom_spec 64 b w h (Nat.le_refl _) (by intro j hj; omega)).1 v
theorem madeGo_ends (off : Int) (ho : -1000064 ≤ off ∧ off ≤ 1000064) : ∀ (ws : List Int) (i mn mx sz : Int), (∀ w ∈ ws, U w) → 0 ≤ sz → sz + 127 * ws.length ≤ 100000000 → 0 ≤ i → i + ws.length ≤ 100000 →
  ((∀ w ∈ ws, w = 0) → madeGo off i mn mx sz ws = (mn, mx, sz) ∧ listFrom off i ws = []) ∧
  ((∃ w ∈ ws, w ≠ 0) → ((madeGo off i mn mx sz ws).2.1 ∈ listFrom off i ws ∧ ∀ v ∈ listFrom off i ws, v ≤ (madeGo off i mn mx sz ws).2.1) ∧
   (sz = 0 → (madeGo off i mn mx sz ws).1 ∈ listFrom off i ws ∧ ∀ v ∈ listFrom off i ws, (madeGo off i mn mx sz ws).1 ≤ v)) ∧
  (sz ≠ 0 → (madeGo off i mn mx sz ws).1 = mn)
 | [], i, mn, mx, sz, _, _, _, _, _ => by simp [madeGo, listFrom]
 | w :: ws, i, mn, mx, sz, hu, h0, h1, hi0, hi1 => by
  have hw := hu w (by simp)
  have hws : ∀ x ∈ ws, U x := fun x hx => hu x (by simp [hx])
  have hp := onesD_pos hw
  simp only [List.length_cons] at h1 hi1
  unfold madeGo listFrom
  by_cases hz : w = 0
  ·rw [if_pos hz]
   obtain ⟨a, b, c⟩ := madeGo_ends off ho ws (i + 1) mn mx sz hws h0 (by omega) (by omega) (by omega)
   have e : bitsFrom 64 (off + 64 * i) w = [] := by rw [hz]; exact bitsFrom_zero _ _
   rw [e, List.nil_append]
   refine ⟨fun h => a fun x hx => h x (by simp [hx]), fun ⟨x, hx, hne⟩ => b ⟨x, ?_, hne⟩, c⟩
   rcases List.mem_cons.mp hx with rfl | hx
   ·exact absurd hz hne
   ·exact hx
  ·rw [if_neg hz]
   have e : IntKind.i64.wrap (sz + onesD w) = sz + onesD w := wrap_ok (by omega) (by omega)
   have e1 : IntKind.i64.wrap (64 * i) = 64 * i := wrap_ok (by omega) (by omega)
   have e2 : IntKind.i64.wrap (off + 64 * i) = off + 64 * i := wrap_ok (by omega) (by omega)
   obtain ⟨_, t, t1, t2, t3, t4, _⟩ := lessD_spec hw hz
   obtain ⟨u, u1, u2, u3, u4⟩ := lz_spec hw hz
   have e3 : IntKind.i64.wrap (off + 64 * i + tzD w) = off + 64 * i + t := by rw [t1, wrap_ok (by omega) (by omega)]
   have e4 : IntKind.i64.wrap (IntKind.i64.wrap (IntKind.i64.wrap (off + 64 * i + 64) - 1) - lzD w) = off + 64 * i + u := by
    rw [u1, wrap_ok (x := off + 64 * i + 64) (by omega) (by omega), wrap_ok (x := off + 64 * i + 64 - 1) (by omega) (by omega), wrap_ok (by omega) (by omega)]
    omega
   rw [e, e1, e2, e3, e4]
   have hone := hp.2.2 hz
   have mb : ∀ v, v ∈ bitsFrom 64 (off + 64 * i) w ↔ ∃ j : Nat, j < 64 ∧ tb w j = true ∧ v = off + 64 * i + j := fun v => word_list hw v
   obtain ⟨a, b, c⟩ := madeGo_ends off ho ws (i + 1) (if sz = 0 then off + 64 * i + (t : Int) else mn) (off + 64 * i + (u : Int)) (sz + onesD w) hws (by omega) (by omega) (by omega) (by omega)
   have hc := c (by omega)
   have later : ∀ v ∈ listFrom off (i + 1) ws, off + 64 * i + 64 ≤ v := fun v hv => by
    have := ((listFrom_spec off ws (i + 1) hws).1 v).mp hv
    unfold memW at this
    rw [Bool.and_eq_true, decide_eq_true_eq] at this
    omega
   refine ⟨fun h => absurd (h w (by simp)) hz, fun _ => ⟨?_, fun hs => ?_⟩, fun hs => by rw [hc, if_neg hs]⟩
   ·by_cases hall : ∀ x ∈ ws, x = 0
    ·obtain ⟨a1, a2⟩ := a hall
     rw [a1, a2, List.append_nil]
     refine ⟨(mb _).mpr ⟨u, u2, u3, rfl⟩, fun v hv => ?_⟩
     obtain ⟨j, _, j2, rfl⟩ := (mb v).mp hv
     have := u4 j j2
     show off + 64 * i + (j : Int) ≤ off + 64 * i + (u : Int)
     omega
    ·have hex : ∃ x ∈ ws, x ≠ 0 := by
      apply Decidable.byContradiction
      intro hn
      exact hall fun x hx => Decidable.byContradiction fun hne => hn ⟨x, hx, hne⟩
     obtain ⟨⟨b1, b2⟩, _⟩ := b hex
     refine ⟨List.mem_append_right _ b1, fun v hv => ?_⟩
     rcases List.mem_append.mp hv with hv | hv
     ·obtain ⟨j, j1, _, rfl⟩ := (mb v).mp hv
      have := later _ b1
      omega
     ·exact b2 v hv
   ·rw [hc, if_pos hs]
    refine ⟨List.mem_append_left _ ((mb _).mpr ⟨t, t2, t3, rfl⟩), fun v hv => ?_⟩
    rcases List.mem_append.mp hv with hv | hv
    ·obtain ⟨j, _, j2, rfl⟩ := (mb v).mp hv
     have := t4 j j2
     omega
    ·have := later _ hv
     omega
def minD (d : Dom) : Int := d.2.2.1
def maxD (d : Dom) : Int := d.2.2.2.1
structure Made (d : Dom) : Prop where
  wf : Wf d
  len : d.2.1.length ≤ 20000
  eq : d = madeD d.1 d.2.1
theorem made_ofD {xs : List Int} (h : okL xs = true) : Made (ofD xs).1 := by
 refine ⟨wf_ofD h, ?_, ?_⟩
 ·rw [ofD_ok h]
  obtain ⟨w1, w2, w3⟩ := words_spec h
  have ho := okL_ok h
  show (wordsL xs).length ≤ 20000
  have h1 := ho.wide
  have h2 := ho.le
  rw [w1, ho.len]
  omega
 ·rw [ofD_ok h]
  rfl
theorem made_ends {d : Dom} (h : Made d) : (listD d = [] → sizeD d = 0) ∧ (listD d ≠ [] → 0 < sizeD d ∧ (minD d ∈ listD d ∧ ∀ v ∈ listD d, minD d ≤ v) ∧ (maxD d ∈ listD d ∧ ∀ v ∈ listD d, v ≤ maxD d)) := by
 obtain ⟨off, ws, mn, mx, sz⟩ := d
 obtain ⟨wf, len, eq⟩ := h
 have h1 := wf.lo
 have h2 := wf.hi
 have hu := wf.ws
 simp only at h1 h2 hu len
 have eq : (off, ws, mn, mx, sz) = (off, ws, madeGo off 0 0 0 0 ws) := eq
 have e5 : (mn, mx, sz) = madeGo off 0 0 0 0 ws := by
  have := congrArg (fun d : Dom => d.2.2) eq
  exact this
 have e6 : mn = (madeGo off 0 0 0 0 ws).1 := by rw [← e5]
 have e7 : mx = (madeGo off 0 0 0 0 ws).2.1 := by rw [← e5]
 have e8 : sz = (madeGo off 0 0 0 0 ws).2.2 := by rw [← e5]
 obtain ⟨a, b, _⟩ := madeGo_ends off (by omega) ws 0 0 0 0 hu (by omega) (by omega) (by omega) (by omega)
 have el : listD (off, ws, mn, mx, sz) = listFrom off 0 ws := rfl
 rw [el]
 by_cases hall : ∀ x ∈ ws, x = 0
 ·obtain ⟨a1, a2⟩ := a hall
  rw [a2]
  refine ⟨fun _ => ?_, fun h => absurd rfl h⟩
  show sz = 0
  rw [e8, a1]
 ·have hex : ∃ x ∈ ws, x ≠ 0 := by
   apply Decidable.byContradiction
   intro hn
   exact hall fun x hx => Decidable.byContradiction fun hne => hn ⟨x, hx, hne⟩
  obtain ⟨b1, b2⟩ := b hex
  have b2 := b2 rfl
  refine ⟨fun h => ?_, fun _ => ⟨?_, ?_, ?_⟩⟩
  ·rw [h] at b1
   cases b1.1
  ·have := (madeGo_size off ws 0 0 0 0 hu (by omega) (by omega)).2 hex
   show 0 < sz
   rw [e8]
   omega
  ·show mn ∈ _ ∧ ∀ v ∈ _, mn ≤ v
   rw [e6]
   exact b2
  ·show mx ∈ _ ∧ ∀ v ∈ _, v ≤ mx
   rw [e7]
   exact b1
end Go.Proofs.YtdihbphkbdelbaaGreatDoor.Ev
set_option linter.unusedVariables false
set_option linter.unusedSimpArgs false
set_option maxRecDepth 100000
namespace Go.Proofs.YtdihbphkbdelbaaGreatDoor.Ev
open Go
def cloneB {α : Type} (l : List α) : Bool := !(decide (l.length = 0)) && Nat.ble l.length 1000000
def Keeps (k : Int → Int → Int) (p : Int → Bool) : Prop := ∀ a w : Int, a % 64 = 0 → -1000064 ≤ a → a ≤ 2300000 → U (k a w) ∧ ∀ j : Nat, j < 64 → tb (k a w) j = p (a + j)
section
variable {d : Dom} {k : Int → Int → Int} {p : Int → Bool}
end
end Go.Proofs.YtdihbphkbdelbaaGreatDoor.Ev
set_option linter.unusedVariables false
set_option linter.unusedSimpArgs false
set_option maxRecDepth 10000
namespace Go.Proofs.YtdihbphkbdelbaaGreatDoor.Ev
open Go
abbrev cC (c : Con) : List Int := c.2.2.2.1
abbrev cD (c : Con) : List Int := c.2.2.2.2.1
abbrev cK (c : Con) : Int := c.2.2.2.2.2.2.1
def endsB (d : Dom) : Bool := millB (minD d) && millB (maxD d)
def cumB (c : Con) (d : List Dom) : Bool := decide (c.2.2.2.1.length = d.length) && decide (c.2.2.2.2.1.length = d.length) && Nat.ble d.length 1000 && c.2.2.2.1.all posM && c.2.2.2.2.1.all posM && d.all endsB && (decide (0 ≤ c.2.2.2.2.2.2.1) && decide (c.2.2.2.2.2.2.1 ≤ 10000000000))
def inI (d : List Dom) (i : Int) : Bool := decide (0 ≤ i) && decide (i < (d.length : Int))
def sureE (c : Con) (d : List Dom) (i : Int) : Int := minD (d.getD i.toNat dom0) + c.2.2.2.1.getD i.toNat 0
def loadI (c : Con) (d : List Dom) (i t : Int) : Nat → Nat → Int
 | 0, _ => 0
 | n + 1, k => (bif !(decide ((k : Int) = i)) && (decide (maxD (d.getD k dom0) ≤ t) && decide (t < sureE c d (k : Int))) then c.2.2.2.2.1.getD k 0 else 0) + loadI c d i t n (k + 1)
def loadD (c : Con) (d : List Dom) (i t : Int) : Int := loadI c d i t d.length 0
def timesI (c : Con) (d : List Dom) (i s : Int) : Nat → Nat → List Int
 | 0, _ => []
 | n + 1, k => (bif !(decide ((k : Int) = i)) && (decide (maxD (d.getD k dom0) < sureE c d (k : Int)) && (decide (maxD (d.getD k dom0) > s) && decide (maxD (d.getD k dom0) < s + c.2.2.2.1.getD i.toNat 0))) then [maxD (d.getD k dom0)] else []) ++ timesI c d i s n (k + 1)
def timesD (c : Con) (d : List Dom) (i s : Int) : List Int := s :: timesI c d i s d.length 0
def overD (c : Con) (d : List Dom) (i t : Int) : Bool := decide (loadD c d i t + c.2.2.2.2.1.getD i.toNat 0 > c.2.2.2.2.2.2.1)
def mayD (c : Con) (d : List Dom) (i s : Int) : Bool := bif decide (c.2.2.2.1.getD i.toNat 0 = 0) then true else !(List.any (timesD c d i s) (overD c d i))
def mayB (c : Con) (d : List Dom) (i s : Int) : Bool := cumB c d && inI d i && millB s
def keepD (c : Con) (d : List Dom) (i : Nat) : List Int := (listD (d.getD i dom0)).filter (mayD c d (i : Int))
def chgD (c : Con) (d : List Dom) (i : Nat) : Bool := decide (((keepD c d i).length : Int) < sizeD (d.getD i dom0))
def nextD (c : Con) (d : List Dom) (i : Nat) : List Dom := bif chgD c d i then d.set i (ofD (keepD c d i)).1 else d
def passGo (c : Con) : Nat → Nat → Bool → List Dom → List Dom × Bool × Bool
 | 0, _, ch, d => (d, ch, true)
 | n + 1, i, ch, d => if (keepD c d i).length = 0 then (d, false, false) else passGo c n (i + 1) (ch || chgD c d i) (nextD c d i)
def passD (c : Con) (d : List Dom) : List Dom × Bool × Bool := passGo c d.length 0 false d
def stepB (c : Con) (d : List Dom) (i : Nat) : Bool := cumB c d && listB (d.getD i dom0) && (listD (d.getD i dom0)).all millB
def passOk (c : Con) : Nat → Nat → List Dom → Bool
 | 0, _, _ => true
 | n + 1, i, d => stepB c d i && (decide ((keepD c d i).length = 0) || passOk c n (i + 1) (nextD c d i))
def passB (c : Con) (d : List Dom) : Bool := Nat.ble d.length 1000 && passOk c d.length 0 d
def cumGo (c : Con) : Nat → List Dom → List Dom × Bool
 | 0, _ => ([], false)
 | n + 1, d => bif !(passD c d).2.2 then ([], false) else bif !(passD c d).2.1 then ((passD c d).1, true) else cumGo c n (passD c d).1
def cumOk (c : Con) : Nat → List Dom → Bool
 | 0, _ => false
 | n + 1, d => passB c d && (!(passD c d).2.2 || (!(passD c d).2.1 || cumOk c n (passD c d).1))
def cumFn (n : Nat) (c : Con) (d : List Dom) : List Dom × Bool := bif fitsD c d 19 19 then cumGo c n d else ([], false)
def cumFBn (n : Nat) (c : Con) (d : List Dom) : Bool := fitsB c 19 19 && (!(fitsD c d 19 19) || (cloneB d && cumOk c n d))
def cumF (c : Con) (d : List Dom) : List Dom × Bool := cumFn 100000 c d
def cumFB (c : Con) (d : List Dom) : Bool := cumFBn 100000 c d
def sureR (c : Con) (d : List (List Int)) (i t : Int) : Bool := decide ((d.getD i.toNat []).getD ((d.getD i.toNat []).length - 1) 0 ≤ t) && decide (t < (d.getD i.toNat []).getD 0 0 + c.2.2.2.1.getD i.toNat 0)
def listsB (c : Con) (d : List (List Int)) : Bool := decide (c.2.2.2.1.length = d.length) && decide (c.2.2.2.2.1.length = d.length) && Nat.ble d.length 1000 && c.2.2.2.1.all posM && c.2.2.2.2.1.all posM &&
 (d.all fun x => decide (0 < x.length) && Nat.ble x.length 100000 && x.all millB) && (decide (0 ≤ c.2.2.2.2.2.2.1) && decide (c.2.2.2.2.2.2.1 ≤ 10000000000))
def inL2 (d : List (List Int)) (i : Int) : Bool := decide (0 ≤ i) && decide (i < (d.length : Int))
def tM (t : Int) : Bool := decide (-10000000 ≤ t) && decide (t ≤ 10000000)
def runGo (c : Con) (d : List (List Int)) (i t : Int) : Nat → Nat → Int
 | 0, _ => 0
 | n + 1, k => (bif !(decide ((k : Int) = i)) && sureR c d (k : Int) t then c.2.2.2.2.1.getD k 0 else 0) + runGo c d i t n (k + 1)
def runR (c : Con) (d : List (List Int)) (i t : Int) : Int := c.2.2.2.2.1.getD i.toNat 0 + runGo c d i t d.length 0
def allFrom (p : Nat → Bool) : Nat → Nat → Bool
 | 0, _ => true
 | n + 1, j => p j && allFrom p n (j + 1)
def mayR (c : Con) (d : List (List Int)) (i s : Int) : Bool := allFrom (fun j => !(decide (runR c d i (s + (j : Int)) > c.2.2.2.2.2.2.1))) (c.2.2.2.1.getD i.toNat 0).toNat 0
def mayRB (c : Con) (d : List (List Int)) (i s : Int) : Bool := listsB c d && inL2 d i && millB s
def keepR (c : Con) (d : List (List Int)) (i : Nat) : List Int := (d.getD i []).filter (mayR c d (i : Int))
def chgR (c : Con) (d : List (List Int)) (i : Nat) : Bool := decide (((keepR c d i).length : Int) < ((d.getD i []).length : Int))
def nextR (c : Con) (d : List (List Int)) (i : Nat) : List (List Int) := d.set i (keepR c d i)
def roundGo (c : Con) : Nat → Nat → Bool → List (List Int) → List (List Int) × Bool × Bool
 | 0, _, ch, d => (d, ch, true)
 | n + 1, i, ch, d => if (keepR c d i).length = 0 then (d, false, false) else roundGo c n (i + 1) (ch || chgR c d i) (nextR c d i)
def roundR (c : Con) (d : List (List Int)) : List (List Int) × Bool × Bool := roundGo c d.length 0 false d
def roundOk (c : Con) : Nat → Nat → List (List Int) → Bool
 | 0, _, _ => true
 | n + 1, i, d => listsB c d && (decide ((keepR c d i).length = 0) || roundOk c n (i + 1) (nextR c d i))
def rndGo (c : Con) : Nat → List (List Int) → List (List Int) × Bool
 | 0, _ => ([], false)
 | n + 1, d => bif !(roundR c d).2.2 then ([], false) else bif !(roundR c d).2.1 then ((roundR c d).1, true) else rndGo c n (roundR c d).1
def rndOk (c : Con) : Nat → List (List Int) → Bool
 | 0, _ => false
 | n + 1, d => decide (0 < d.length) && roundOk c d.length 0 d && (!(roundR c d).2.2 || (!(roundR c d).2.1 || rndOk c n (roundR c d).1))
def cumRn (n : Nat) (c : Con) (d : List (List Int)) : List (List Int) × Bool := bif fitsR c d 19 19 then rndGo c n d else ([], false)
def cumRBn (n : Nat) (c : Con) (d : List (List Int)) : Bool := fitsB c 19 19 && (!(fitsR c d 19 19) || rndOk c n d)
def cumR (c : Con) (d : List (List Int)) : List (List Int) × Bool := cumRn 100000 c d
def cumRB (c : Con) (d : List (List Int)) : Bool := cumRBn 100000 c d
def goN {β : Type} (step : Nat → β → β) : Nat → Nat → β → β
 | 0, _, acc => acc
 | n + 1, k, acc => goN step n (k + 1) (step k acc)
theorem idx_loop {β : Type} (L : Nat → Int → β → Option AV) (X : β → Option AV) (N : Nat) (step : Nat → β → β) (P : Nat → β → Prop) (F : Nat)
  (hs : ∀ n k acc, F ≤ n → k < N → P k acc → P (k + 1) (step k acc) ∧ L (n + 1) (k : Int) acc = L n ((k + 1 : Nat) : Int) (step k acc))
  (he : ∀ n acc, F ≤ n → P N acc → L (n + 1) (N : Int) acc = X acc) :
  ∀ (m k n : Nat) (acc : β), k + m = N → m + F < n → P k acc → L n (k : Int) acc = X (goN step m k acc)
 | 0, k, n, acc, h1, h2, h3 => by
  obtain ⟨n', rfl⟩ : ∃ n', n = n' + 1 := ⟨n - 1, by omega⟩
  obtain rfl : k = N := by omega
  exact he n' acc (by omega) h3
 | m + 1, k, n, acc, h1, h2, h3 => by
  obtain ⟨n', rfl⟩ : ∃ n', n = n' + 1 := ⟨n - 1, by omega⟩
  obtain ⟨g1, g2⟩ := hs n' k acc (by omega) (by omega) h3
  exact g2.trans (idx_loop L X N step P F hs he m (k + 1) n' _ (by omega) (by omega) g1)
theorem wrap_succ {i : Nat} (h : i ≤ 1000000000) : IntKind.i64.wrap ((i : Int) + 1) = ((i + 1 : Nat) : Int) := by rw [wrap_ok (by omega) (by omega)]; omega
theorem in_natC {i n : Nat} (h : i < n) : (decide (0 ≤ (i : Int)) && decide ((i : Int) < (n : Int))) = true := by
 rw [decide_eq_true (show (0 : Int) ≤ (i : Int) by omega), decide_eq_true (show (i : Int) < (n : Int) by omega)]; rfl
theorem gD_mem {α : Type} {l : List α} {i : Nat} (h : i < l.length) (d : α) : l.getD i d ∈ l := by
 rw [List.getD_eq_getElem?_getD, List.getElem?_eq_getElem h]; exact List.getElem_mem h
theorem gD_get {α : Type} {l : List α} {i : Nat} (h : i < l.length) (d : α) : l.getD i d = l[i] := by
 rw [List.getD_eq_getElem?_getD, List.getElem?_eq_getElem h]; rfl
theorem millIff {v : Int} : millB v = true ↔ -1000000 ≤ v ∧ v ≤ 1000000 := by unfold millB; simp
theorem posIff {v : Int} : posM v = true ↔ 0 ≤ v ∧ v ≤ 1000000 := by unfold posM; simp
end Go.Proofs.YtdihbphkbdelbaaGreatDoor.Ev
