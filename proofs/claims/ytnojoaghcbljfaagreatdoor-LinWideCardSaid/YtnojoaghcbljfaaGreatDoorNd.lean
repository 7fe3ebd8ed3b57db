/-
Linear constraints: what the functions answer (numbers, masks, cuts).
Conditions: as the handlers ask.
-/
import Derived.Test.YtnojoaghcbljfaaGreatDoorLa
import Derived.Test.YtnojoaghcbljfaaGreatDoorDz
set_option linter.unusedVariables false
set_option linter.unusedSimpArgs false
set_option maxRecDepth 100000
namespace Go.Proofs.YtnojoaghcbljfaaGreatDoor.Ev
open Go
theorem lim_of {n k : Nat} (h : n ≤ 1000000) (hk : k ≤ 1000) : decide ((0 + n) * k ≤ LIM) = true := by
 have : n * k ≤ 1000000 * 1000 := Nat.mul_le_mul h hk
 exact decide_eq_true (show (0 + n) * k ≤ 140737488355328 by rw [Nat.zero_add]; omega)
theorem clone_le {α : Type} {l : List α} (h : cloneB l = true) : (!(decide (l.length = 0))) = true ∧ l.length ≤ 1000000 := by
 unfold cloneB at h
 rw [Bool.and_eq_true, Nat.ble_eq] at h
 exact h
theorem F469.sem (k : Nat) (l : List Int) (h : wordsB l = true) (hne : l ≠ []) : callW F469.E true F469.fn k [.v (.sl (.int .u64)) l] = some (.nw 81 (.int .u64) l) := by
 have h2 : l.length ≤ 1000000 := by unfold wordsB at h; rwa [Nat.ble_eq] at h
 have h1 : (!(decide (l.length = 0))) = true := by rw [decide_eq_false fun e => hne (List.length_eq_zero_iff.mp e)]; rfl
 exact (F469.start_eq k l).trans ((bT' h1).trans (bT' (lim_of h2 (by omega))))
theorem F380.sem (k : Nat) (l : List Dom) (h : cloneB l = true) : callW F380.E true F380.fn k [.v (.sl DomT) l] = some (.nw 47 DomT l) := by
 obtain ⟨h1, h2⟩ := clone_le h
 exact (F380.start_eq k l).trans ((bT' h1).trans (bT' (lim_of h2 (by omega))))
theorem F362.sem (k : Nat) (d : Dom) : callW F362.E false F362.fn k [.agg (explode DomT d)] = some (.v (.int .i64) (minD d)) := F362.start_eq k d
theorem F386.sem (k : Nat) (d : Dom) : callW F386.E false F386.fn k [.agg (explode DomT d)] = some (.v (.int .i64) (maxD d)) := F386.start_eq k d
theorem F465.sem (k : Nat) (a b : Int) : callW F465.E false F465.fn k [.v (.int .i64) a, .v (.int .i64) b] = some (.v .bool (rightN a b)) := by
 refine (F465.start_eq k a b).trans ?_
 unfold rightN
 by_cases h : b = 0
 ·rw [decide_eq_true h]; rfl
 ·rw [decide_eq_false h]
  by_cases h1 : b = -1
  ·rw [decide_eq_true h1]; rfl
  ·rw [decide_eq_false h1]; rfl
theorem tdiv_abs (a b : Int) (h : -4611686018427387904 ≤ a ∧ a ≤ 4611686018427387904) : -4611686018427387904 ≤ a.tdiv b ∧ a.tdiv b ≤ 4611686018427387904 := by
 have h1 : (a.tdiv b).natAbs ≤ a.natAbs := by
  rw [Int.natAbs_tdiv]
  exact Nat.div_le_self _ _
 omega
theorem big_iff {a : Int} (h : bigB a = true) : -4611686018427387904 ≤ a ∧ a ≤ 4611686018427387904 := by
 unfold bigB at h
 simp only [Bool.and_eq_true, decide_eq_true_eq] at h
 exact h
theorem tmod_zero_dvd {a b : Int} : a.tmod b = 0 ↔ b ∣ a := ⟨Int.dvd_of_tmod_eq_zero, Int.tmod_eq_zero_of_dvd⟩
theorem F441.sem (k : Nat) (a b : Int) (h : floorB a b = true) : callW F441.E false F441.fn k [.v (.int .i64) a, .v (.int .i64) b] = some (.tup [.v (.int .i64) (quoN a b), .v .bool true]) := by
 unfold floorB at h
 rw [Bool.and_eq_true, decide_eq_true_eq] at h
 obtain ⟨hb, ha⟩ := h
 have ha := big_iff ha
 have ht := tdiv_abs a b ha
 have hr : (!(rightN a b)) = false := by
  unfold rightN
  rw [decide_eq_false (show ¬ b = 0 by omega), decide_eq_false (show ¬ b = -1 by omega)]
  rfl
 have h0 : (!decide (b = 0)) = true := by rw [decide_eq_false (by omega)]; rfl
 have td := Int.tdiv_eq_ediv (a := a) (b := b)
 rw [Int.sign_eq_one_of_pos hb] at td
 unfold quoN
 refine (F441.start_eq k a b).trans ((bF' hr).trans ((bT' h0).trans ?_))
 have w0 : IntKind.i64.wrap (a.tdiv b) = a.tdiv b := wrap_ok (by omega) (by omega)
 rw [w0]
 have same : (0 ≤ a ∨ b ∣ a) → a.tdiv b = a / b := fun hc => by rw [td, if_pos hc, Int.add_zero]
 by_cases hm : a.tmod b = 0
 ·refine (bF' (by rw [decide_eq_true hm]; rfl)).trans ((bT' h0).trans ?_)
  rw [same (.inr (tmod_zero_dvd.mp hm))]
 ·refine (bT' (by rw [decide_eq_false hm]; rfl)).trans ?_
  by_cases hn : a < 0
  ·have hc : ¬ (0 ≤ a ∨ b ∣ a) := fun h => by
    rcases h with h | h
    ·omega
    ·exact hm (tmod_zero_dvd.mpr h)
   rw [if_neg hc] at td
   refine (bT' (by rw [decide_eq_true hn, decide_eq_false (show ¬ b < 0 by omega)]; rfl)).trans ((bT' h0).trans ?_)
   rw [wrap_ok (by omega) (by omega), show a.tdiv b - 1 = a / b by omega]
  ·refine (bF' (by rw [decide_eq_false hn, decide_eq_false (show ¬ b < 0 by omega)]; rfl)).trans ((bT' h0).trans ?_)
   rw [same (.inl (by omega))]
theorem F443.sem (k : Nat) (a b : Int) (h : ceilB a b = true) : callW F443.E false F443.fn k [.v (.int .i64) a, .v (.int .i64) b] = some (.tup [.v (.int .i64) (quoN a b), .v .bool true]) := by
 unfold ceilB at h
 rw [Bool.and_eq_true, decide_eq_true_eq] at h
 obtain ⟨hb, ha⟩ := h
 have ha := big_iff ha
 have ht := tdiv_abs a b ha
 have hr : (!(rightN a b)) = false := by
  unfold rightN
  rw [decide_eq_false (show ¬ b = 0 by omega), decide_eq_false (show ¬ a = -9223372036854775808 by omega)]
  simp
 have h0 : (!decide (b = 0)) = true := by rw [decide_eq_false (by omega)]; rfl
 have td := Int.tdiv_eq_ediv (a := a) (b := b)
 rw [Int.sign_eq_neg_one_of_neg hb] at td
 unfold quoN
 refine (F443.start_eq k a b).trans ((bF' hr).trans ((bT' h0).trans ?_))
 have w0 : IntKind.i64.wrap (a.tdiv b) = a.tdiv b := wrap_ok (by omega) (by omega)
 rw [w0]
 have same : (0 ≤ a ∨ b ∣ a) → a.tdiv b = a / b := fun hc => by rw [td, if_pos hc, Int.add_zero]
 by_cases hm : a.tmod b = 0
 ·refine (bF' (by rw [decide_eq_true hm]; rfl)).trans ((bT' h0).trans ?_)
  rw [same (.inr (tmod_zero_dvd.mp hm))]
 ·refine (bT' (by rw [decide_eq_false hm]; rfl)).trans ?_
  by_cases hn : a < 0
  ·have hc : ¬ (0 ≤ a ∨ b ∣ a) := fun h => by
    rcases h with h | h
    ·omega
    ·exact hm (tmod_zero_dvd.mpr h)
   rw [if_neg hc] at td
   refine (bT' (by rw [decide_eq_true hn, decide_eq_true (show b < 0 by omega)]; rfl)).trans ((bT' h0).trans ?_)
   rw [wrap_ok (by omega) (by omega), show a.tdiv b + 1 = a / b by omega]
  ·refine (bF' (by rw [decide_eq_false hn, decide_eq_true (show b < 0 by omega)]; rfl)).trans ((bT' h0).trans ?_)
   rw [same (.inl (by omega))]
theorem F467.sem (k : Nat) (a v : Int) (h : aboveB a v = true) : callW F467.E false F467.fn k [.v (.int .i64) a, .v (.int .i64) v] = some (.v (.int .u64) (aboveD a v)) := by
 unfold aboveB nearB at h
 simp only [Bool.and_eq_true, decide_eq_true_eq] at h
 refine (F467.start_eq k a v).trans ?_
 have w : IntKind.i64.wrap (v - a) = v - a := wrap_ok (by omega) (by omega)
 rw [w]
 unfold aboveD
 by_cases c1 : v ≤ a
 ·rw [if_pos c1]; exact bT' (decide_eq_true c1)
 ·rw [if_neg c1]
  refine (bF' (decide_eq_false c1)).trans ?_
  by_cases c2 : v - a ≥ 64
  ·rw [if_pos c2]; exact bT' (decide_eq_true c2)
  ·rw [if_neg c2]
   exact (bF' (decide_eq_false c2)).trans (bT' (decide_eq_true (by omega)))
theorem F468.sem (k : Nat) (a w z : Int) (h : leastKB z a = true) : callW F468.E false F468.fn k [.v (.int .i64) a, .v (.int .u64) w, .rp [.v (.int .i64) z]] = some (.v (.int .u64) (leastK z a w)) := by
 unfold leastKB nearB at h
 simp only [Bool.and_eq_true, decide_eq_true_eq] at h
 refine (F468.start_eq k a w z).trans (bT' ?_)
 unfold aboveB nearB
 simp only [Bool.and_eq_true, decide_eq_true_eq]
 omega
theorem F466.sem (k : Nat) (a w z : Int) (h : mostKB z a = true) : callW F466.E false F466.fn k [.v (.int .i64) a, .v (.int .u64) w, .rp [.v (.int .i64) z]] = some (.v (.int .u64) (mostK z a w)) := by
 unfold mostKB nearB at h
 simp only [Bool.and_eq_true, decide_eq_true_eq] at h
 refine (F466.start_eq k a w z).trans ?_
 rw [wrap_ok (by omega) (by omega)]
 refine bT' ?_
 unfold aboveB nearB
 simp only [Bool.and_eq_true, decide_eq_true_eq]
 omega
theorem place_any {v : Int} (h : bigB v = true) : placeD v = v / 64 * 64 := by
 unfold bigB at h
 simp only [Bool.and_eq_true, decide_eq_true_eq] at h
 unfold placeD
 show IntKind.i64.wrap ((BitVec.ofInt 64 v &&& ~~~ (BitVec.ofInt 64 63)).toNat : Int) = _
 have e : (BitVec.ofInt 64 63 : BitVec 64) = 63#64 := by decide
 rw [e, and_not63, BitVec.toNat_ofInt, IntKind.wrap_i64]
 omega
theorem F446.sem (k : Nat) (a w z : Int) (h : noKB z a = true) : callW F446.E false F446.fn k [.v (.int .i64) a, .v (.int .u64) w, .rp [.v (.int .i64) z]] = some (.v (.int .u64) (noK z a w)) := by
 unfold noKB at h
 rw [Bool.and_eq_true] at h
 have hp := place_any h.2
 unfold nearB bigB at h
 simp only [Bool.and_eq_true, decide_eq_true_eq] at h
 refine (F446.start_eq k a w z).trans ?_
 rw [wrap_ok (by omega) (by omega)]
 unfold noK
 by_cases c : a = placeD z
 ·rw [if_pos c]
  exact (bT' (decide_eq_true c)).trans (bT' (decide_eq_true (by omega)))
 ·rw [if_neg c]
  exact bF' (decide_eq_false c)
def mixL (a b : List Int) (i : Nat) : List Int := a.take i ++ b.drop i
theorem mix_len {a b : List Int} (h : a.length = b.length) (i : Nat) : (mixL a b i).length = b.length := by
 unfold mixL
 rw [List.length_append, List.length_take, List.length_drop]
 omega
theorem getD_get {α : Type} {l : List α} {i : Nat} (h : i < l.length) (d : α) : l.getD i d = l[i] := by
 rw [List.getD_eq_getElem?_getD, List.getElem?_eq_getElem h]
 rfl
theorem mix_get {a b : List Int} (h : a.length = b.length) {i : Nat} (hi : i < b.length) : (mixL a b i).getD i 0 = b.getD i 0 := by
 unfold mixL
 have e : (a.take i).length = i := by rw [List.length_take]; omega
 rw [List.getD_eq_getElem?_getD, List.getElem?_append_right (by omega), e, Nat.sub_self, List.getElem?_drop, Nat.add_zero, ← List.getD_eq_getElem?_getD]
theorem mix_set {a b : List Int} (h : a.length = b.length) {i : Nat} (hi : i < b.length) : (mixL a b i).set i (a.getD i 0) = mixL a b (i + 1) := by
 unfold mixL
 have e : (a.take i).length = i := by rw [List.length_take]; omega
 have h1 : b.drop i = b.getD i 0 :: b.drop (i + 1) := drop_getD hi 0
 have h2 : a.take (i + 1) = a.take i ++ [a.getD i 0] := by
  rw [List.take_add_one, getD_get (by omega) 0, List.getElem?_eq_getElem (by omega)]
  rfl
 rw [List.set_append, if_neg (by omega), e, Nat.sub_self, h1, h2]
 simp
theorem in_natD {i n : Nat} (h : i < n) : (decide (0 ≤ (i : Int)) && decide ((i : Int) < (n : Int))) = true := by
 rw [decide_eq_true (show (0 : Int) ≤ (i : Int) by omega), decide_eq_true (show (i : Int) < (n : Int) by omega)]
 rfl
theorem cut_near {off : Int} {i : Nat} (ho : nearB off = true) (hi : i ≤ 1000000) : IntKind.i64.wrap (off + IntKind.i64.wrap (64 * (i : Int))) = off + 64 * (i : Int) := by
 unfold nearB at ho
 simp only [Bool.and_eq_true, decide_eq_true_eq] at ho
 rw [wrap_ok (x := 64 * (i : Int)) (by omega) (by omega), wrap_ok (by omega) (by omega)]
theorem less_loop {off mn mx sz : Int} {ws : List Int} {k : Int → Int → Int} {kb : Int → Bool} (L : Nat → Int → List Int → Option AV) (X : List Int → Option AV)
  (hs : ∀ n i w, L (n + 1) i w = bif decide (i < (ws.length : Int)) then (bif decide (0 ≤ i) && decide (i < (w.length : Int)) then (bif kb (IntKind.i64.wrap (off + IntKind.i64.wrap (64 * i))) then
   (bif decide (0 ≤ i) && decide (i < (w.length : Int)) then L n (IntKind.i64.wrap (i + 1)) (w.set i.toNat (bitsW .and .u64 (w.getD i.toNat 0) (k (IntKind.i64.wrap (off + IntKind.i64.wrap (64 * i))) (w.getD i.toNat 0)))) else none) else none) else none) else X w)
  (h : cutB (off, ws, mn, mx, sz) kb = true) : L 1000002 0 ws = X (cutW (off, ws, mn, mx, sz) k) := by
 unfold cutB at h
 rw [Bool.and_eq_true, Bool.and_eq_true, List.all_eq_true] at h
 obtain ⟨⟨ho, hc⟩, hk⟩ := h
 have hc2 : ws.length ≤ 1000000 := by
  have hc : wordsB ws = true := hc
  unfold wordsB at hc
  rwa [Nat.ble_eq] at hc
 simp only at ho hk
 have hlen : (cutW (off, ws, mn, mx, sz) k).length = ws.length := cutW_len
 have key : ∀ (m i n : Nat), i + m = ws.length → m < n → L n (i : Int) (mixL (cutW (off, ws, mn, mx, sz) k) ws i) = X (mixL (cutW (off, ws, mn, mx, sz) k) ws ws.length) := by
  intro m
  induction m with
  | zero =>
   intro i n h1 h2
   obtain ⟨n', rfl⟩ : ∃ n', n = n' + 1 := ⟨n - 1, by omega⟩
   obtain rfl : i = ws.length := by omega
   exact (hs n' _ _).trans self_lt'
  | succ m ih =>
   intro i n h1 h2
   obtain ⟨n', rfl⟩ : ∃ n', n = n' + 1 := ⟨n - 1, by omega⟩
   have hi : i < ws.length := by omega
   have w : IntKind.i64.wrap ((i : Int) + 1) = ((i + 1 : Nat) : Int) := by rw [wrap_ok (by omega) (by omega)]; omega
   have hin : (decide (0 ≤ (i : Int)) && decide ((i : Int) < ((mixL (cutW (off, ws, mn, mx, sz) k) ws i).length : Int))) = true := by rw [mix_len hlen]; exact in_natD hi
   refine (hs n' (i : Int) _).trans ?_
   rw [Int.toNat_natCast, w, cut_near ho (by omega), mix_get hlen hi]
   have hb := hk i (List.mem_range.mpr hi)
   refine (bT' (decide_eq_true (by omega))).trans ((bT' hin).trans ((bT' hb).trans ((bT' hin).trans ?_)))
   have e : bitsW .and .u64 (ws.getD i 0) (k (off + 64 * (i : Int)) (ws.getD i 0)) = (cutW (off, ws, mn, mx, sz) k).getD i 0 := (cutW_get (d := (off, ws, mn, mx, sz)) hi).symm
   rw [e, mix_set hlen hi]
   exact ih (i + 1) n' (by omega) (by omega)
 have k0 := key ws.length 0 1000002 (by omega) (by omega)
 have m0 : mixL (cutW (off, ws, mn, mx, sz) k) ws 0 = ws := by unfold mixL; simp
 have m1 : mixL (cutW (off, ws, mn, mx, sz) k) ws ws.length = cutW (off, ws, mn, mx, sz) k := by
  unfold mixL
  rw [← hlen, List.take_length, hlen, List.drop_length, List.append_nil]
 rw [m0, m1] at k0
 exact k0
theorem and_uB (x y : Int) : uB (bitsW .and .u64 x y) = true := by
 have : bitsW .and .u64 x y = IntKind.u64.wrap ((BitVec.ofInt IntKind.u64.bits x &&& BitVec.ofInt IntKind.u64.bits y).toNat : Int) := rfl
 rw [this, IntKind.wrap_u64]
 unfold uB
 simp only [Bool.and_eq_true, decide_eq_true_eq]
 omega
theorem cutW_uB (d : Dom) (k : Int → Int → Int) : (cutW d k).all uB = true := by
 rw [List.all_eq_true]
 intro w hw
 obtain ⟨i, _, rfl⟩ := List.mem_map.mp hw
 exact and_uB _ _
theorem less_end (d : Dom) (k : Int → Int → Int) : ∃ r, (bif (cutW d k).all uB then
   (bif decide (sizeD (madeD d.1 (cutW d k)) = sizeD d) then some (.tup [.agg (explode DomT d), .v (.int .i64) (0 : Int)]) else
   bif decide (sizeD (madeD d.1 (cutW d k)) = 0) then some (.tup [.agg [.v (.int .i64) (0 : Int), .nl, .v (.int .i64) (0 : Int), .v (.int .i64) (0 : Int), .v (.int .i64) (0 : Int)], .v (.int .i64) (4 : Int)]) else
   bif decide (sizeD (madeD d.1 (cutW d k)) = 1) then some (.tup [.agg (explode DomT (madeD d.1 (cutW d k))), .v (.int .i64) (3 : Int)]) else
   bif !(decide (minD (madeD d.1 (cutW d k)) = minD d)) then some (.tup [.agg (explode DomT (madeD d.1 (cutW d k))), .v (.int .i64) (2 : Int)]) else
   bif !(decide (maxD (madeD d.1 (cutW d k)) = maxD d)) then some (.tup [.agg (explode DomT (madeD d.1 (cutW d k))), .v (.int .i64) (2 : Int)]) else
   some (.tup [.agg (explode DomT (madeD d.1 (cutW d k))), .v (.int .i64) (1 : Int)])) else none) = some r ∧ WA r (.tup [.agg (explode DomT (cutD d k).1), .v (.int .i64) (cutD d k).2]) := by
 rw [cutW_uB, cond_true]
 unfold cutD
 by_cases c1 : sizeD (madeD d.1 (cutW d k)) = sizeD d
 ·rw [if_pos c1, decide_eq_true c1]
  exact ⟨_, rfl, WA.refl _⟩
 ·rw [if_neg c1, decide_eq_false c1]
  by_cases c2 : sizeD (madeD d.1 (cutW d k)) = 0
  ·rw [if_pos c2, decide_eq_true c2]
   exact ⟨_, rfl, .tup (.cons (.agg (.cons (.same _) (.cons (.nl _) (.cons (.same _) (.cons (.same _) (.cons (.same _) .nil)))))) (.cons (.one (by simp) (.same _)) .nil))⟩
  ·rw [if_neg c2, decide_eq_false c2]
   by_cases c3 : sizeD (madeD d.1 (cutW d k)) = 1
   ·rw [if_pos c3, decide_eq_true c3]
    exact ⟨_, rfl, WA.refl _⟩
   ·rw [if_neg c3, decide_eq_false c3]
    by_cases c4 : minD (madeD d.1 (cutW d k)) = minD d
    ·rw [if_neg (fun h => h c4), decide_eq_true c4]
     by_cases c5 : maxD (madeD d.1 (cutW d k)) = maxD d
     ·rw [if_neg (fun h => h c5), decide_eq_true c5]
      exact ⟨_, rfl, WA.refl _⟩
     ·rw [if_pos c5, decide_eq_false c5]
      exact ⟨_, rfl, WA.refl _⟩
    ·rw [if_pos c4, decide_eq_false c4]
     exact ⟨_, rfl, WA.refl _⟩
theorem F447.sem (k : Nat) (a w : Int) (z : Dom) (h : andKB z a = true) : callW F447.E false F447.fn k [.v (.int .i64) a, .v (.int .u64) w, .rp (explode DomT z)] = some (.v (.int .u64) (andK z a w)) := (F447.start_eq k a w z).trans (bT' h)
theorem F445g446.sem (d : Dom) (z : Int) (h : cutB d (noKB z) = true) : ∃ r, callW F445g446.E false F445g446.fn 1000002 [.agg (explode DomT d), .fn 146 [] [.rp ([.v (.int .i64) z])]] = some r ∧
  WA r (.tup [.agg (explode DomT (cutD d (noK z)).1), .v (.int .i64) (cutD d (noK z)).2]) := by
 have hc : wordsB d.2.1 = true := by unfold cutB at h; rw [Bool.and_eq_true, Bool.and_eq_true] at h; exact h.1.2
 obtain ⟨r, e1, e2⟩ := less_end d (noK z)
 refine ⟨r, ?_, e2⟩
 refine (F445g446.start_eq 1000002 d z).trans ((bT' hc).trans ?_)
 obtain ⟨off, ws, mn, mx, sz⟩ := d
 refine (less_loop (off := off) (mn := mn) (mx := mx) (sz := sz) (k := noK z) (kb := noKB z) (fun n i w => F445g446.l1_1_0_1_0 n (F445g446.kt 1000002 [1, 1, 0, 1, 0]) z (ws.length : Int) i off ws mn mx sz 0 0 0 0 w) (fun w => exitK (F445g446.kt 1000002 [1, 1, 0, 1, 0]) 0 ⟨slots 70 [(2, .pb 0 0), (4, .pb 1 0), (6, .own 2)], [.box [.v (.int .i64) off, .v (.sl (.int .u64)) ws, .v (.int .i64) mn, .v (.int .i64) mx, .v (.int .i64) sz], .box [.v (.int .i64) (0 : Int), .nl, .v (.int .i64) (0 : Int), .v (.int .i64) (0 : Int), .v (.int .i64) (0 : Int)], .row 81 (.int .u64) w]⟩) (fun n i w => F445g446.l1_1_0_1_0_eq n _ _ _ i off ws mn mx sz 0 0 0 0 w) h).trans ?_
 exact (F445g446.c0 1000002 off ws mn mx sz 0 0 0 0 _).trans e1
theorem F445g447.sem (d z : Dom) (h : cutB d (andKB z) = true) : ∃ r, callW F445g447.E false F445g447.fn 1000002 [.agg (explode DomT d), .fn 147 [] [.rp (explode DomT z)]] = some r ∧
  WA r (.tup [.agg (explode DomT (cutD d (andK z)).1), .v (.int .i64) (cutD d (andK z)).2]) := by
 have hc : wordsB d.2.1 = true := by unfold cutB at h; rw [Bool.and_eq_true, Bool.and_eq_true] at h; exact h.1.2
 obtain ⟨r, e1, e2⟩ := less_end d (andK z)
 refine ⟨r, ?_, e2⟩
 refine (F445g447.start_eq 1000002 d z).trans ((bT' hc).trans ?_)
 obtain ⟨off, ws, mn, mx, sz⟩ := d
 refine (less_loop (off := off) (mn := mn) (mx := mx) (sz := sz) (k := andK z) (kb := andKB z) (fun n i w => F445g447.l1_1_0_1_0 n (F445g447.kt 1000002 [1, 1, 0, 1, 0]) z.1 z.2.1 z.2.2.1 z.2.2.2.1 z.2.2.2.2 (ws.length : Int) i off ws mn mx sz 0 0 0 0 w) (fun w => exitK (F445g447.kt 1000002 [1, 1, 0, 1, 0]) 0 ⟨slots 70 [(2, .pb 0 0), (4, .pb 1 0), (6, .own 2)], [.box [.v (.int .i64) off, .v (.sl (.int .u64)) ws, .v (.int .i64) mn, .v (.int .i64) mx, .v (.int .i64) sz], .box [.v (.int .i64) (0 : Int), .nl, .v (.int .i64) (0 : Int), .v (.int .i64) (0 : Int), .v (.int .i64) (0 : Int)], .row 81 (.int .u64) w]⟩) (fun n i w => F445g447.l1_1_0_1_0_eq n _ _ _ _ _ _ _ i off ws mn mx sz 0 0 0 0 w) h).trans ?_
 exact (F445g447.c0 1000002 off ws mn mx sz 0 0 0 0 _).trans e1
theorem F445g466.sem (d : Dom) (z : Int) (h : cutB d (mostKB z) = true) : ∃ r, callW F445g466.E false F445g466.fn 1000002 [.agg (explode DomT d), .fn 166 [] [.rp ([.v (.int .i64) z])]] = some r ∧
  WA r (.tup [.agg (explode DomT (cutD d (mostK z)).1), .v (.int .i64) (cutD d (mostK z)).2]) := by
 have hc : wordsB d.2.1 = true := by unfold cutB at h; rw [Bool.and_eq_true, Bool.and_eq_true] at h; exact h.1.2
 obtain ⟨r, e1, e2⟩ := less_end d (mostK z)
 refine ⟨r, ?_, e2⟩
 refine (F445g466.start_eq 1000002 d z).trans ((bT' hc).trans ?_)
 obtain ⟨off, ws, mn, mx, sz⟩ := d
 refine (less_loop (off := off) (mn := mn) (mx := mx) (sz := sz) (k := mostK z) (kb := mostKB z) (fun n i w => F445g466.l1_1_0_1_0 n (F445g466.kt 1000002 [1, 1, 0, 1, 0]) z (ws.length : Int) i off ws mn mx sz 0 0 0 0 w) (fun w => exitK (F445g466.kt 1000002 [1, 1, 0, 1, 0]) 0 ⟨slots 70 [(2, .pb 0 0), (4, .pb 1 0), (6, .own 2)], [.box [.v (.int .i64) off, .v (.sl (.int .u64)) ws, .v (.int .i64) mn, .v (.int .i64) mx, .v (.int .i64) sz], .box [.v (.int .i64) (0 : Int), .nl, .v (.int .i64) (0 : Int), .v (.int .i64) (0 : Int), .v (.int .i64) (0 : Int)], .row 81 (.int .u64) w]⟩) (fun n i w => F445g466.l1_1_0_1_0_eq n _ _ _ i off ws mn mx sz 0 0 0 0 w) h).trans ?_
 exact (F445g466.c0 1000002 off ws mn mx sz 0 0 0 0 _).trans e1
theorem F445g468.sem (d : Dom) (z : Int) (h : cutB d (leastKB z) = true) : ∃ r, callW F445g468.E false F445g468.fn 1000002 [.agg (explode DomT d), .fn 168 [] [.rp ([.v (.int .i64) z])]] = some r ∧
  WA r (.tup [.agg (explode DomT (cutD d (leastK z)).1), .v (.int .i64) (cutD d (leastK z)).2]) := by
 have hc : wordsB d.2.1 = true := by unfold cutB at h; rw [Bool.and_eq_true, Bool.and_eq_true] at h; exact h.1.2
 obtain ⟨r, e1, e2⟩ := less_end d (leastK z)
 refine ⟨r, ?_, e2⟩
 refine (F445g468.start_eq 1000002 d z).trans ((bT' hc).trans ?_)
 obtain ⟨off, ws, mn, mx, sz⟩ := d
 refine (less_loop (off := off) (mn := mn) (mx := mx) (sz := sz) (k := leastK z) (kb := leastKB z) (fun n i w => F445g468.l1_1_0_1_0 n (F445g468.kt 1000002 [1, 1, 0, 1, 0]) z (ws.length : Int) i off ws mn mx sz 0 0 0 0 w) (fun w => exitK (F445g468.kt 1000002 [1, 1, 0, 1, 0]) 0 ⟨slots 70 [(2, .pb 0 0), (4, .pb 1 0), (6, .own 2)], [.box [.v (.int .i64) off, .v (.sl (.int .u64)) ws, .v (.int .i64) mn, .v (.int .i64) mx, .v (.int .i64) sz], .box [.v (.int .i64) (0 : Int), .nl, .v (.int .i64) (0 : Int), .v (.int .i64) (0 : Int), .v (.int .i64) (0 : Int)], .row 81 (.int .u64) w]⟩) (fun n i w => F445g468.l1_1_0_1_0_eq n _ _ _ i off ws mn mx sz 0 0 0 0 w) h).trans ?_
 exact (F445g468.c0 1000002 off ws mn mx sz 0 0 0 0 _).trans e1
theorem F412.sem (k : Nat) (d e : Dom) (h : cutB d (andKB e) = true) : callW F412.E false F412.fn k [.agg (explode DomT d), .agg (explode DomT e)] = some (.tup [.agg (explode DomT (cutD d (andK e)).1), .v (.int .i64) (cutD d (andK e)).2]) :=
 (F412.start_eq k d e).trans (bT' h)
theorem dom_cut {d : Dom} (h : domB d = true) {kb : Int → Bool} (hk : ∀ a, nearB a = true → kb a = true) : cutB d kb = true := by
 unfold domB at h
 rw [Bool.and_eq_true, Bool.and_eq_true, decide_eq_true_eq, decide_eq_true_eq] at h
 obtain ⟨⟨h1, h2⟩, h3⟩ := h
 have h4 : d.2.1.length ≤ 1000000 := by have h3 := h3; unfold wordsB at h3; rwa [Nat.ble_eq] at h3
 unfold cutB
 rw [Bool.and_eq_true, Bool.and_eq_true, List.all_eq_true]
 have near : ∀ i, i ≤ d.2.1.length → nearB (d.1 + 64 * (i : Int)) = true := fun i hi => by
  unfold nearB
  simp only [Bool.and_eq_true, decide_eq_true_eq]
  omega
 refine ⟨⟨?_, h3⟩, fun i hi => hk _ (near i ?_)⟩
 ·have := near 0 (by omega)
  simpa using this
 ·have := List.mem_range.mp hi
  omega
theorem hi_range (v : Int) : -1000001 ≤ hiV v ∧ hiV v ≤ 1000000 := by unfold hiV; split <;> split <;> omega
theorem lo_range (v : Int) : -1000000 ≤ loV v ∧ loV v ≤ 1000001 := by unfold loV; split <;> split <;> omega
theorem F442.sem (k : Nat) (d : Dom) (v : Int) (h : domB d = true) : callW F442.E false F442.fn k [.agg (explode DomT d), .v (.int .i64) v] = some (.tup [.agg (explode DomT (atMostD d v).1), .v (.int .i64) (atMostD d v).2]) := by
 refine (F442.start_eq k d v).trans (bT' (dom_cut h fun a ha => ?_))
 have := hi_range v
 show mostKB (hiV v) a = true
 unfold mostKB
 rw [ha, decide_eq_true (by omega), decide_eq_true (by omega)]
 rfl
theorem F444.sem (k : Nat) (d : Dom) (v : Int) (h : domB d = true) : callW F444.E false F444.fn k [.agg (explode DomT d), .v (.int .i64) v] = some (.tup [.agg (explode DomT (atLeastD d v).1), .v (.int .i64) (atLeastD d v).2]) := by
 refine (F444.start_eq k d v).trans (bT' (dom_cut h fun a ha => ?_))
 have := lo_range v
 show leastKB (loV v) a = true
 unfold leastKB
 rw [ha, decide_eq_true (by omega), decide_eq_true (by omega)]
 rfl
theorem F411.sem (k : Nat) (d : Dom) (v : Int) (h : (domB d && bigB v) = true) : callW F411.E false F411.fn k [.agg (explode DomT d), .v (.int .i64) v] = some (.tup [.agg (explode DomT (withoutD d v).1), .v (.int .i64) (withoutD d v).2]) := by
 rw [Bool.and_eq_true] at h
 refine (F411.start_eq k d v).trans (bT' (dom_cut h.1 fun a ha => ?_))
 unfold noKB
 rw [ha, h.2]
 rfl
theorem mill_iff' {v : Int} (h : millB v = true) : -1000000 ≤ v ∧ v ≤ 1000000 := mill_iff.mp h
theorem least_range {k : Int} {d : Dom} (h : leastB k d = true) : -1000000000000 ≤ leastT k d ∧ leastT k d ≤ 1000000000000 := by
 unfold leastB endsB at h
 rw [Bool.and_eq_true, Bool.and_eq_true] at h
 obtain ⟨h1, h2, h3⟩ := h
 have p := mul_mill (mill_iff' h1) (mill_iff' h2)
 have q := mul_mill (mill_iff' h1) (mill_iff' h3)
 unfold leastT
 split <;> omega
theorem F410.sem (n : Nat) (k : Int) (d : Dom) (h : leastB k d = true) : callW F410.E false F410.fn n [.v (.int .i64) k, .agg (explode DomT d)] = some (.v (.int .i64) (leastT k d)) := by
 unfold leastB endsB at h
 rw [Bool.and_eq_true, Bool.and_eq_true] at h
 obtain ⟨h1, h2, h3⟩ := h
 have p := mul_mill (mill_iff' h1) (mill_iff' h2)
 have q := mul_mill (mill_iff' h1) (mill_iff' h3)
 refine (F410.start_eq n k d).trans ?_
 rw [wrap_ok (x := k * maxD d) (by omega) (by omega), wrap_ok (x := k * minD d) (by omega) (by omega)]
 rfl
structure LowsP (c : List Int) (d : List Dom) : Prop where
  len : c.length ≤ d.length
  le : c.length ≤ 1000
  c : ∀ x ∈ c, millB x = true
  d : ∀ x ∈ d, endsB x = true
theorem lowsB_ok {c : List Int} {d : List Dom} (h : lowsB c d = true) : LowsP c d := by
 unfold lowsB at h
 simp only [Bool.and_eq_true, List.all_eq_true, decide_eq_true_eq, Nat.ble_eq] at h
 exact ⟨h.1.1.1, h.1.1.2, h.1.2, h.2⟩
theorem getD_memD {α : Type} {l : List α} {i : Nat} (h : i < l.length) (d : α) : l.getD i d ∈ l := by
 rw [getD_get h]
 exact List.getElem_mem h
theorem LowsP.at {c : List Int} {d : List Dom} (h : LowsP c d) {i : Nat} (hi : i < c.length) : leastB (c.getD i 0) (d.getD i dom0) = true := by
 unfold leastB
 rw [h.c _ (getD_memD hi 0), h.d _ (getD_memD (Nat.lt_of_lt_of_le hi h.len) dom0)]
 rfl
theorem F408.sem (c : List Int) (d : List Dom) (h : lowsB c d = true) : callW F408.E false F408.fn 1002 [.v (.sl (.int .i64)) c, .v (.sl DomT) d] = some (.v (.int .i64) (lowsD c d)) := by
 have P := lowsB_ok h
 have l1 := P.len
 have l2 := P.le
 refine (F408.start_eq 1002 c d).trans ?_
 have key : ∀ (m i n : Nat) (acc : Int), i + m = c.length → m < n → -1000000000000 * (i : Int) ≤ acc → acc ≤ 1000000000000 * (i : Int) →
   F408.l1_1_0_1_0 n (F408.kt 1002 [1, 1, 0, 1, 0]) d acc c (c.length : Int) (i : Int) = some (.v (.int .i64) (acc + lowsD (c.drop i) (d.drop i))) := by
  intro m
  induction m with
  | zero =>
   intro i n acc h1 h2 _ _
   obtain ⟨n', rfl⟩ : ∃ n', n = n' + 1 := ⟨n - 1, by omega⟩
   obtain rfl : i = c.length := by omega
   rw [List.drop_length]
   refine (F408.l1_1_0_1_0_eq n' _ d acc c _ _).trans (self_lt'.trans ((F408.c0 1002 acc).trans ?_))
   have : acc + lowsD [] (d.drop c.length) = acc := by unfold lowsD; omega
   rw [this]
  | succ m ih =>
   intro i n acc h1 h2 l3 l4
   obtain ⟨n', rfl⟩ : ∃ n', n = n' + 1 := ⟨n - 1, by omega⟩
   have hi : i < c.length := by omega
   have hd : i < d.length := by omega
   have hb := P.at hi
   have p := least_range hb
   have w : IntKind.i64.wrap ((i : Int) + 1) = ((i + 1 : Nat) : Int) := by rw [wrap_ok (by omega) (by omega)]; omega
   rw [drop_getD hi 0, drop_getD hd dom0]
   unfold lowsD
   refine (F408.l1_1_0_1_0_eq n' _ d acc c _ _).trans ?_
   rw [Int.toNat_natCast]
   refine (bT' (decide_eq_true (by omega))).trans ((bT' (in_natD hi)).trans ((bT' (in_natD hd)).trans ((bT' hb).trans ?_)))
   rw [w]
   refine Eq.trans ?_ ((ih (i + 1) n' (acc + leastT (c.getD i 0) (d.getD i dom0)) (by omega) (by omega) (by omega) (by omega)).trans ?_)
   ·have e : IntKind.i64.wrap (acc + leastT (c.getD i 0) (d.getD i dom0)) = acc + leastT (c.getD i 0) (d.getD i dom0) := wrap_ok (by omega) (by omega)
    rw [← e]
    rfl
   ·rw [Int.add_assoc]
 have := key c.length 0 1002 0 (by omega) (by omega) (by omega) (by omega)
 rw [Int.zero_add] at this
 exact this
theorem lows_range {c : List Int} {d : List Dom} (P : LowsP c d) : ∀ i, i ≤ c.length → -1000000000000 * ((c.length - i : Nat) : Int) ≤ lowsD (c.drop i) (d.drop i) ∧ lowsD (c.drop i) (d.drop i) ≤ 1000000000000 * ((c.length - i : Nat) : Int) := by
 have l1 := P.len
 have key : ∀ m i, i + m = c.length → -1000000000000 * (m : Int) ≤ lowsD (c.drop i) (d.drop i) ∧ lowsD (c.drop i) (d.drop i) ≤ 1000000000000 * (m : Int) := by
  intro m
  induction m with
  | zero =>
   intro i h
   obtain rfl : i = c.length := by omega
   rw [List.drop_length]
   unfold lowsD
   omega
  | succ m ih =>
   intro i h
   have hi : i < c.length := by omega
   have p := least_range (P.at hi)
   obtain ⟨q1, q2⟩ := ih (i + 1) (by omega)
   rw [drop_getD hi 0, drop_getD (show i < d.length by omega) dom0]
   unfold lowsD
   omega
 intro i hi
 exact key (c.length - i) i (by omega)
theorem lows_abs {c : List Int} {d : List Dom} (h : lowsB c d = true) : -1000000000000000 ≤ lowsD c d ∧ lowsD c d ≤ 1000000000000000 := by
 have P := lowsB_ok h
 have := lows_range P 0 (by omega)
 have l := P.le
 rw [List.drop_zero, List.drop_zero] at this
 omega
theorem F407.sem (c : List Int) (h : turnedB c = true) : callW F407.E false F407.fn 1002 [.v (.sl (.int .i64)) c] = some (.v (.sl (.int .i64)) (turnedL c)) := by
 unfold turnedB at h
 simp only [Bool.and_eq_true, List.all_eq_true, Nat.ble_eq] at h
 obtain ⟨hc, hl⟩ := h
 refine (F407.start_eq 1002 c).trans ?_
 have key : ∀ (m i n : Nat) (acc : List Int), i + m = c.length → m < n → acc.length = i →
   F407.l1_1_0_1_0 n (F407.kt 1002 [1, 1, 0, 1, 0]) c (c.length : Int) (i : Int) acc = some (.v (.sl (.int .i64)) (acc ++ turnedL (c.drop i))) := by
  intro m
  induction m with
  | zero =>
   intro i n acc h1 h2 _
   obtain ⟨n', rfl⟩ : ∃ n', n = n' + 1 := ⟨n - 1, by omega⟩
   obtain rfl : i = c.length := by omega
   rw [List.drop_length]
   refine (F407.l1_1_0_1_0_eq n' _ c _ _ acc).trans (self_lt'.trans ((F407.c0 1002 acc).trans ?_))
   unfold turnedL
   simp
  | succ m ih =>
   intro i n acc h1 h2 h3
   obtain ⟨n', rfl⟩ : ∃ n', n = n' + 1 := ⟨n - 1, by omega⟩
   have hi : i < c.length := by omega
   have p := mill_iff' (hc _ (getD_memD hi 0))
   have w : IntKind.i64.wrap ((i : Int) + 1) = ((i + 1 : Nat) : Int) := by rw [wrap_ok (by omega) (by omega)]; omega
   refine (F407.l1_1_0_1_0_eq n' _ c _ _ acc).trans ?_
   rw [Int.toNat_natCast]
   have lim : decide ((acc.length + [IntKind.i64.wrap (0 - c.getD i 0)].length) * 8 ≤ LIM) = true := decide_eq_true (show (acc.length + 1) * 8 ≤ 140737488355328 by omega)
   refine (bT' (decide_eq_true (by omega))).trans ((bT' (in_natD hi)).trans ((bT' lim).trans ?_))
   have e0 : IntKind.i64.wrap (0 - c.getD i 0) = 0 - c.getD i 0 := wrap_ok (by omega) (by omega)
   have e : IntKind.i64.wrap (0 - c.getD i 0) = -(c.getD i 0) := by omega
   rw [w, e, ih (i + 1) n' _ (by omega) (by omega) (by simp [h3]), drop_getD hi 0]
   unfold turnedL
   simp
 have := key c.length 0 1002 [] (by omega) (by omega) rfl
 rw [List.nil_append, List.drop_zero] at this
 exact this
theorem F409.sem (m : Nat) (k n : Int) (d : Dom) (h : cutTB k n d = true) : ∃ r, callW F409.E false F409.fn m [.v (.int .i64) k, .v (.int .i64) n, .agg (explode DomT d)] = some r ∧ WA r (.tup [.agg (explode DomT (cutT k n d).1), .v (.int .i64) (cutT k n d).2]) := by
 unfold cutTB at h
 rw [Bool.and_eq_true] at h
 obtain ⟨h1, h2⟩ := h
 have st := F409.start_eq m k n d
 unfold cutT
 by_cases c1 : k > 0
 ·rw [if_pos c1]
  refine ⟨_, st.trans ((bT' (decide_eq_true c1)).trans ((bT' ?_).trans (bT' h2))), WA.refl _⟩
  unfold floorB
  rw [decide_eq_true (show 0 < k by omega), h1]
  rfl
 ·rw [if_neg c1]
  have st1 := st.trans (bF' (decide_eq_false c1))
  by_cases c2 : k < 0
  ·rw [if_pos c2]
   refine ⟨_, st1.trans ((bT' (decide_eq_true c2)).trans ((bT' ?_).trans (bT' h2))), WA.refl _⟩
   unfold ceilB
   rw [decide_eq_true c2, h1]
   rfl
  ·rw [if_neg c2]
   have st2 := st1.trans (bF' (decide_eq_false c2))
   by_cases c3 : n < 0
   ·rw [if_pos c3]
    exact ⟨_, st2.trans (bT' (decide_eq_true c3)), .tup (.cons (.agg (.cons (.same _) (.cons (.nl _) (.cons (.same _) (.cons (.same _) (.cons (.same _) .nil)))))) (.cons (.one (by simp) (.same _)) .nil))⟩
   ·rw [if_neg c3]
    exact ⟨_, st2.trans (bF' (decide_eq_false c3)), WA.refl _⟩
end Go.Proofs.YtnojoaghcbljfaaGreatDoor.Ev
