/-
Two rows in order: what the functions answer.
Conditions: as the handlers ask.
-/
import Derived.Test.YtnojoaghcbljfaaGreatDoorLa
import Derived.Test.YtnojoaghcbljfaaGreatDoorLf
import Derived.Test.YtnojoaghcbljfaaGreatDoorCr
set_option linter.unusedVariables false
set_option linter.unusedSimpArgs false
set_option maxRecDepth 100000
namespace Go.Proofs.YtnojoaghcbljfaaGreatDoor.Ev
open Go
theorem filt_loop {α : Type} (L : Nat → Int → List α → Option AV) (xs : List α) (p : α → Bool) (X : List α → Option AV) (m : Nat) (hl : xs.length ≤ 1000000000) (hend : ∀ n acc, L (n + 1) (xs.length : Int) acc = X acc)
  (hstep : ∀ (n i : Nat) (hi : i < xs.length) (acc : List α), m ≤ n → acc.length ≤ i → L (n + 1) (i : Int) acc = L n (IntKind.i64.wrap ((i : Int) + 1)) (bif p xs[i] then acc ++ [xs[i]] else acc)) (n : Nat) (hn : m + xs.length < n) :
  L n 0 [] = X (xs.filter p) := by
 have key : ∀ (d i n : Nat) (acc : List α), i + d = xs.length → m + d < n → acc.length ≤ i → L n (i : Int) acc = X (acc ++ (xs.drop i).filter p) := by
  intro d
  induction d with
  | zero =>
   intro i n acc h1 h2 _
   obtain ⟨n', rfl⟩ : ∃ n', n = n' + 1 := ⟨n - 1, by omega⟩
   obtain rfl : i = xs.length := by omega
   rw [hend, List.drop_length]
   simp
  | succ d ih =>
   intro i n acc h1 h2 h3
   obtain ⟨n', rfl⟩ : ∃ n', n = n' + 1 := ⟨n - 1, by omega⟩
   have hi : i < xs.length := by omega
   have w : IntKind.i64.wrap ((i : Int) + 1) = ((i + 1 : Nat) : Int) := by rw [wrap_ok (by omega) (by omega)]; omega
   rw [hstep n' i hi acc (by omega) h3, w, List.drop_eq_getElem_cons hi]
   cases hp : p xs[i] with
   | true =>
    refine (ih (i + 1) n' _ (by omega) (by omega) (by simp; omega)).trans ?_
    rw [List.filter_cons, hp]
    simp
   | false =>
    refine (ih (i + 1) n' _ (by omega) (by omega) (by show acc.length ≤ i + 1; omega)).trans ?_
    rw [List.filter_cons, hp]
    simp
 have := key xs.length 0 n [] (by omega) (by omega) (Nat.le_refl _)
 simpa using this
theorem getD_get {α : Type} {l : List α} {i : Nat} (h : i < l.length) (d : α) : l.getD i d = l[i] := by
 rw [List.getD_eq_getElem?_getD, List.getElem?_eq_getElem h]
 rfl
theorem lim_of {n k : Nat} (h : n ≤ 1000000) (hk : k ≤ 1000) : decide ((0 + n) * k ≤ LIM) = true := by
 have : n * k ≤ 1000000 * 1000 := Nat.mul_le_mul h hk
 exact decide_eq_true (show (0 + n) * k ≤ 140737488355328 by rw [Nat.zero_add]; omega)
theorem F469.sem (k : Nat) (l : List Int) (h : cloneB l = true) : callW F469.E true F469.fn k [.v (.sl (.int .u64)) l] = some (.nw 81 (.int .u64) l) := by
 unfold cloneB at h
 rw [Bool.and_eq_true, Nat.ble_eq] at h
 exact (F469.start_eq k l).trans ((bT' h.1).trans (bT' (lim_of h.2 (by omega))))
theorem F318.sem (k : Nat) (l : List (List Int)) (h : cloneB l = true) : callW F318.E true F318.fn k [.v (.sl (.sl (.int .i64))) l] = some (.nw 30 (.sl (.int .i64)) l) := by
 unfold cloneB at h
 rw [Bool.and_eq_true, Nat.ble_eq] at h
 exact (F318.start_eq k l).trans ((bT' h.1).trans (bT' (lim_of h.2 (by omega))))
theorem F362.sem (k : Nat) (d : Dom) : callW F362.E false F362.fn k [.agg (explode DomT d)] = some (.v (.int .i64) (minD d)) := F362.start_eq k d
theorem F386.sem (k : Nat) (d : Dom) : callW F386.E false F386.fn k [.agg (explode DomT d)] = some (.v (.int .i64) (maxD d)) := F386.start_eq k d
theorem F447.sem (k : Nat) (a w : Int) (z : Dom) (h : andKB z a = true) : callW F447.E false F447.fn k [.v (.int .i64) a, .v (.int .u64) w, .rp (explode DomT z)] = some (.v (.int .u64) (andK z a w)) := (F447.start_eq k a w z).trans (bT' h)
theorem and_uB (x y : Int) : uB (bitsW .and .u64 x y) = true := by
 have : bitsW .and .u64 x y = IntKind.u64.wrap ((BitVec.ofInt IntKind.u64.bits x &&& BitVec.ofInt IntKind.u64.bits y).toNat : Int) := rfl
 rw [this, IntKind.wrap_u64]
 unfold uB
 simp only [Bool.and_eq_true, decide_eq_true_eq]
 omega
theorem cutW_uB (d : Dom) (k : Int → Int → Int) : (cutW d k).all uB = true := by
 rw [List.all_eq_true]
 intro w hw
 obtain ⟨i, _, rfl⟩ := List.mem_map.mp hw
 exact and_uB _ _
def mixL (a b : List Int) (i : Nat) : List Int := a.take i ++ b.drop i
theorem mix_len {a b : List Int} (h : a.length = b.length) (i : Nat) : (mixL a b i).length = b.length := by
 unfold mixL
 rw [List.length_append, List.length_take, List.length_drop]
 omega
theorem mix_get {a b : List Int} (h : a.length = b.length) {i : Nat} (hi : i < b.length) : (mixL a b i).getD i 0 = b.getD i 0 := by
 unfold mixL
 have e : (a.take i).length = i := by rw [List.length_take]; omega
 rw [List.getD_eq_getElem?_getD, List.getElem?_append_right (by omega), e, Nat.sub_self, List.getElem?_drop, Nat.add_zero, ← List.getD_eq_getElem?_getD]
theorem mix_set {a b : List Int} (h : a.length = b.length) {i : Nat} (hi : i < b.length) : (mixL a b i).set i (a.getD i 0) = mixL a b (i + 1) := by
 unfold mixL
 have e : (a.take i).length = i := by rw [List.length_take]; omega
 have h1 : b.drop i = b.getD i 0 :: b.drop (i + 1) := drop_getD hi 0
 have h2 : a.take (i + 1) = a.take i ++ [a.getD i 0] := by
  rw [List.take_add_one, getD_get (by omega) 0, List.getElem?_eq_getElem (by omega)]
  rfl
 rw [List.set_append, if_neg (by omega), e, Nat.sub_self, h1, h2]
 simp
theorem cut_near {off : Int} {i : Nat} (ho : nearB off = true) (hi : i ≤ 1000000) : IntKind.i64.wrap (off + IntKind.i64.wrap (64 * (i : Int))) = off + 64 * (i : Int) := by
 unfold nearB at ho
 simp only [Bool.and_eq_true, decide_eq_true_eq] at ho
 rw [wrap_ok (x := 64 * (i : Int)) (by omega) (by omega), wrap_ok (by omega) (by omega)]
theorem F445g447.sem (d z : Dom) (h : cutB d (andKB z) = true) : ∃ r, callW F445g447.E false F445g447.fn 1000002 [.agg (explode DomT d), .fn 147 [] [.rp (explode DomT z)]] = some r ∧
  WA r (.tup [.agg (explode DomT (cutD d (andK z)).1), .v (.int .i64) (cutD d (andK z)).2]) := by
 unfold cutB at h
 rw [Bool.and_eq_true, Bool.and_eq_true, List.all_eq_true] at h
 obtain ⟨⟨ho, hc⟩, hk⟩ := h
 have hc2 := hc
 unfold cloneB at hc2
 rw [Bool.and_eq_true, Nat.ble_eq] at hc2
 have st := (F445g447.start_eq 1000002 d z).trans (bT' hc)
 obtain ⟨off, ws, mn, mx, sz⟩ := d
 simp only at ho hk hc2 st
 have hlen : (cutW (off, ws, mn, mx, sz) (andK z)).length = ws.length := cutW_len
 have key : ∀ (m i n : Nat), i + m = ws.length → m < n →
   F445g447.l1_1_0_1_0 n (F445g447.kt 1000002 [1, 1, 0, 1, 0]) z.1 z.2.1 z.2.2.1 z.2.2.2.1 z.2.2.2.2 (ws.length : Int) (i : Int) off ws mn mx sz 0 0 0 0 (mixL (cutW (off, ws, mn, mx, sz) (andK z)) ws i) =
   F445g447.l1_1_0_1_0 (n - m) (F445g447.kt 1000002 [1, 1, 0, 1, 0]) z.1 z.2.1 z.2.2.1 z.2.2.2.1 z.2.2.2.2 (ws.length : Int) (ws.length : Int) off ws mn mx sz 0 0 0 0 (mixL (cutW (off, ws, mn, mx, sz) (andK z)) ws ws.length) := by
  intro m
  induction m with
  | zero =>
   intro i n h1 h2
   obtain rfl : i = ws.length := by omega
   rfl
  | succ m ih =>
   intro i n h1 h2
   obtain ⟨n', rfl⟩ : ∃ n', n = n' + 1 := ⟨n - 1, by omega⟩
   have hi : i < ws.length := by omega
   have w : IntKind.i64.wrap ((i : Int) + 1) = ((i + 1 : Nat) : Int) := by rw [wrap_ok (by omega) (by omega)]; omega
   have hin : (decide (0 ≤ (i : Int)) && decide ((i : Int) < ((mixL (cutW (off, ws, mn, mx, sz) (andK z)) ws i).length : Int))) = true := by rw [mix_len hlen]; exact in_nat hi
   refine (F445g447.l1_1_0_1_0_eq n' _ z.1 z.2.1 z.2.2.1 z.2.2.2.1 z.2.2.2.2 (ws.length : Int) (i : Int) off ws mn mx sz 0 0 0 0 _).trans ?_
   rw [Int.toNat_natCast, w, cut_near ho (by omega), mix_get hlen hi]
   have hb := hk i (List.mem_range.mpr hi)
   refine (bT' (lt_nat hi)).trans ((bT' hin).trans ((bT' hb).trans ((bT' hin).trans ?_)))
   have e : bitsW .and .u64 (ws.getD i 0) (andK (z.1, (z.2.1, (z.2.2.1, (z.2.2.2.1, z.2.2.2.2)))) (off + 64 * (i : Int)) (ws.getD i 0)) = (cutW (off, ws, mn, mx, sz) (andK z)).getD i 0 := (cutW_get (d := (off, ws, mn, mx, sz)) hi).symm
   rw [e, mix_set hlen hi]
   have e2 : n' + 1 - (m + 1) = n' - m := by omega
   rw [e2]
   exact ih (i + 1) n' (by omega) (by omega)
 have k0 := key ws.length 0 1000002 (by omega) (by omega)
 have m0 : mixL (cutW (off, ws, mn, mx, sz) (andK z)) ws 0 = ws := by unfold mixL; simp
 have m1 : mixL (cutW (off, ws, mn, mx, sz) (andK z)) ws ws.length = cutW (off, ws, mn, mx, sz) (andK z) := by
  unfold mixL
  rw [← hlen, List.take_length, hlen, List.drop_length, List.append_nil]
 rw [m0, m1] at k0
 obtain ⟨q, hq⟩ : ∃ q, 1000002 - ws.length = q + 1 := ⟨1000002 - ws.length - 1, by omega⟩
 rw [hq] at k0
 have st2 := (st.trans k0).trans ((F445g447.l1_1_0_1_0_eq q _ z.1 z.2.1 z.2.2.1 z.2.2.2.1 z.2.2.2.2 (ws.length : Int) (ws.length : Int) off ws mn mx sz 0 0 0 0 (cutW (off, ws, mn, mx, sz) (andK z))).trans (self_lt'.trans ((F445g447.c0 1000002 off ws mn mx sz 0 0 0 0 (cutW (off, ws, mn, mx, sz) (andK z))).trans (bT' (cutW_uB _ _)))))
 unfold cutD
 by_cases c1 : sizeD (madeD off (cutW (off, ws, mn, mx, sz) (andK z))) = sizeD (off, ws, mn, mx, sz)
 ·rw [if_pos c1]
  exact ⟨_, st2.trans (bT' (decide_eq_true c1)), WA.refl _⟩
 ·rw [if_neg c1]
  have st3 := st2.trans (bF' (decide_eq_false c1))
  by_cases c2 : sizeD (madeD off (cutW (off, ws, mn, mx, sz) (andK z))) = 0
  ·rw [if_pos c2]
   exact ⟨_, st3.trans (bT' (decide_eq_true c2)), .tup (.cons (.agg (.cons (.same _) (.cons (.nl _) (.cons (.same _) (.cons (.same _) (.cons (.same _) .nil)))))) (.cons (.one (by simp) (.same _)) .nil))⟩
  ·rw [if_neg c2]
   have st4 := st3.trans (bF' (decide_eq_false c2))
   by_cases c3 : sizeD (madeD off (cutW (off, ws, mn, mx, sz) (andK z))) = 1
   ·rw [if_pos c3]
    exact ⟨_, st4.trans (bT' (decide_eq_true c3)), WA.refl _⟩
   ·rw [if_neg c3]
    have st5 := st4.trans (bF' (decide_eq_false c3))
    by_cases c4 : minD (madeD off (cutW (off, ws, mn, mx, sz) (andK z))) = minD (off, ws, mn, mx, sz)
    ·rw [if_neg (fun h => h c4)]
     have st6 := st5.trans (bF' (show (!(decide (minD (madeD off (cutW (off, ws, mn, mx, sz) (andK z))) = minD (off, ws, mn, mx, sz)))) = false by rw [decide_eq_true c4]; rfl))
     by_cases c5 : maxD (madeD off (cutW (off, ws, mn, mx, sz) (andK z))) = maxD (off, ws, mn, mx, sz)
     ·rw [if_neg (fun h => h c5)]
      exact ⟨_, st6.trans (bF' (show (!(decide (maxD (madeD off (cutW (off, ws, mn, mx, sz) (andK z))) = maxD (off, ws, mn, mx, sz)))) = false by rw [decide_eq_true c5]; rfl)), WA.refl _⟩
     ·rw [if_pos c5]
      exact ⟨_, st6.trans (bT' (show (!(decide (maxD (madeD off (cutW (off, ws, mn, mx, sz) (andK z))) = maxD (off, ws, mn, mx, sz)))) = true by rw [decide_eq_false c5]; rfl)), WA.refl _⟩
    ·rw [if_pos c4]
     exact ⟨_, st5.trans (bT' (show (!(decide (minD (madeD off (cutW (off, ws, mn, mx, sz) (andK z))) = minD (off, ws, mn, mx, sz)))) = true by rw [decide_eq_false c4]; rfl)), WA.refl _⟩
theorem F412.sem (k : Nat) (d e : Dom) (h : cutB d (andKB e) = true) : callW F412.E false F412.fn k [.agg (explode DomT d), .agg (explode DomT e)] = some (.tup [.agg (explode DomT (cutD d (andK e)).1), .v (.int .i64) (cutD d (andK e)).2]) :=
 (F412.start_eq k d e).trans (bT' h)
theorem F400.sem (k : Nat) (d e : Dom) (h : cutB d (andKB e) = true) : callW F400.E false F400.fn k [.agg (explode DomT d), .agg (explode DomT e)] = some (.v .bool (meetD d e)) := (F400.start_eq k d e).trans (bT' h)
theorem set_getNe {l : List Bool} {i j : Nat} (h : i ≠ j) (x : Bool) : (l.set i x).getD j false = l.getD j false := by
 rw [List.getD_eq_getElem?_getD, List.getElem?_set_ne h, ← List.getD_eq_getElem?_getD]
theorem set_getEq {l : List Bool} {i : Nat} (h : i < l.length) (x : Bool) : (l.set i x).getD i false = x := by
 rw [List.getD_eq_getElem?_getD, List.getElem?_set_self h]
 rfl
theorem F356.round (n : Nat) (K : Conts) (a b p5 p6 : List Dom) (N : Int) (i : Nat) (hi : i < a.length) (hb : i < b.length) (hl : a.length ≤ 1000) (hc : cutB (a.getD i dom0) (andKB (b.getD i dom0)) = true)
  (ev be rs : List Bool) (he : ev.length = a.length + 1) (hbe : be.length = a.length + 1) :
  F356.l1_1_1_1_0_1_0 (n + 1) K a b N (a.length : Int) (i : Int) p5 p6 ev be rs =
  F356.l1_1_1_1_0_1_0 n K a b N (a.length : Int) ((i + 1 : Nat) : Int) p5 p6 (ev.set (i + 1) (ev.getD i false && meetD (a.getD i dom0) (b.getD i dom0))) (be.set (i + 1) (be.getD i false || (ev.getD i false && lessAt a b i))) rs := by
 have w : IntKind.i64.wrap ((i : Int) + 1) = ((i + 1 : Nat) : Int) := by rw [wrap_ok (by omega) (by omega)]; omega
 refine (F356.l1_1_1_1_0_1_0_eq n K a b N _ _ p5 p6 ev be rs).trans ?_
 rw [w, Int.toNat_natCast, Int.toNat_natCast]
 have i1 : (decide (0 ≤ (i : Int)) && decide ((i : Int) < (ev.length : Int))) = true := in_nat (by omega)
 have i2 : (decide (0 ≤ (i : Int)) && decide ((i : Int) < (a.length : Int))) = true := in_nat hi
 have i3 : (decide (0 ≤ (i : Int)) && decide ((i : Int) < (b.length : Int))) = true := in_nat hb
 have i4 : (decide (0 ≤ ((i + 1 : Nat) : Int)) && decide (((i + 1 : Nat) : Int) < (ev.length : Int))) = true := in_nat (by omega)
 have i5 : (decide (0 ≤ (i : Int)) && decide ((i : Int) < (be.length : Int))) = true := in_nat (by omega)
 have i6 : (decide (0 ≤ ((i + 1 : Nat) : Int)) && decide (((i + 1 : Nat) : Int) < (be.length : Int))) = true := in_nat (by omega)
 have i7 : ∀ x, (decide (0 ≤ (i : Int)) && decide ((i : Int) < ((ev.set (i + 1) x).length : Int))) = true := fun x => by rw [List.length_set]; exact i1
 have hs : ∀ x, (ev.set (i + 1) x).getD i false = ev.getD i false := fun x => set_getNe (by omega) x
 refine (bT' (lt_nat hi)).trans ((bT' i1).trans ?_)
 cases hE : ev.getD i false with
 | true =>
  refine (bT' rfl).trans ((bT' i2).trans ((bT' i3).trans ((bT' hc).trans ((bT' i4).trans ((bT' i5).trans ?_)))))
  cases hB : be.getD i false with
  | true => exact (bT' rfl).trans (bT' i6)
  | false => exact (bF' rfl).trans ((bT' (i7 _)).trans ((bT' ((hs _).trans hE)).trans ((bT' i2).trans ((bT' i3).trans (bT' i6)))))
 | false =>
  refine (bF' rfl).trans ((bT' i4).trans ((bT' i5).trans ?_))
  cases hB : be.getD i false with
  | true => exact (bT' rfl).trans (bT' i6)
  | false => exact (bF' rfl).trans ((bT' (i7 _)).trans ((bF' ((hs _).trans hE)).trans (bT' i6)))
theorem even_next (a b : List Dom) (i : Nat) : evenAt a b (i + 1) = (evenAt a b i && meetD (a.getD i dom0) (b.getD i dom0)) := by
 unfold evenAt
 rw [List.range_succ, List.all_append]
 simp
theorem below_next (a b : List Dom) (i : Nat) : belowAt a b (i + 1) = (belowAt a b i || (evenAt a b i && lessAt a b i)) := by
 unfold belowAt
 rw [List.range_succ, List.any_append]
 simp
def upTo (l : List Bool) (f : Nat → Bool) (i : Nat) : Prop := ∀ j, j ≤ i → l.getD j false = f j
theorem upTo_all {l : List Bool} {f : Nat → Bool} {n : Nat} (h : upTo l f n) (hl : l.length = n + 1) : l = (List.range (n + 1)).map f := by
 apply List.ext_getElem (by simp [hl])
 intro j h1 h2
 have := h j (by omega)
 rw [getD_get h1] at this
 rw [this]
 simp
theorem upTo_set {l : List Bool} {f : Nat → Bool} {i : Nat} (h : upTo l f i) (hl : i + 1 < l.length) : upTo (l.set (i + 1) (f (i + 1))) f (i + 1) := by
 intro j hj
 by_cases e : j = i + 1
 ·subst e
  exact set_getEq hl _
 ·rw [set_getNe (by omega)]
  exact h j (by omega)
theorem F356.first (k : Nat) (a b p5 p6 : List Dom) (N : Int) (hab : a.length = b.length) (hl : a.length ≤ 1000) (hc : ∀ i, i < a.length → cutB (a.getD i dom0) (andKB (b.getD i dom0)) = true) (rs : List Bool) :
  ∀ (d i n : Nat) (ev be : List Bool), i + d = a.length → d < n → ev.length = a.length + 1 → be.length = a.length + 1 → upTo ev (evenAt a b) i → upTo be (belowAt a b) i →
  F356.l1_1_1_1_0_1_0 n (F356.kt k [1, 1, 1, 1, 0, 1, 0]) a b N (a.length : Int) (i : Int) p5 p6 ev be rs =
  F356.l1_1_1_1_1_0_1_0 k (F356.kt k [1, 1, 1, 1, 1, 0, 1, 0]) a b (IntKind.i64.wrap (N - 1)) p5 p6 ((List.range (a.length + 1)).map (evenAt a b)) ((List.range (a.length + 1)).map (belowAt a b)) rs := by
 intro d
 induction d with
 | zero =>
  intro i n ev be h1 h2 h3 h4 h5 h6
  obtain ⟨n', rfl⟩ : ∃ n', n = n' + 1 := ⟨n - 1, by omega⟩
  obtain rfl : i = a.length := by omega
  rw [upTo_all h5 h3, upTo_all h6 h4]
  exact (F356.l1_1_1_1_0_1_0_eq n' _ a b N _ _ p5 p6 _ _ rs).trans (self_lt'.trans (F356.c0 k a b N p5 p6 _ _ rs))
 | succ d ih =>
  intro i n ev be h1 h2 h3 h4 h5 h6
  obtain ⟨n', rfl⟩ : ∃ n', n = n' + 1 := ⟨n - 1, by omega⟩
  have hi : i < a.length := by omega
  rw [F356.round n' _ a b p5 p6 N i hi (by omega) hl (hc i hi) ev be rs h3 h4, h5 i (Nat.le_refl _), h6 i (Nat.le_refl _), ← even_next, ← below_next]
  exact ih (i + 1) n' _ _ (by omega) (by omega) (by rw [List.length_set]; exact h3) (by rw [List.length_set]; exact h4) (upTo_set h5 (by omega)) (upTo_set h6 (by omega))
def fromOn (l : List Bool) (f : Nat → Bool) (i : Nat) : Prop := ∀ j, i ≤ j → j < l.length → l.getD j false = f j
theorem rest_next {a b : List Dom} {i : Nat} (ha : i < a.length) (hb : i < b.length) : restGo (a.drop i) (b.drop i) = (decide (minD (a.getD i dom0) < maxD (b.getD i dom0)) || (meetD (a.getD i dom0) (b.getD i dom0) && restGo (a.drop (i + 1)) (b.drop (i + 1)))) := by
 rw [drop_getD ha dom0, drop_getD hb dom0]
 rfl
theorem fromOn_set {l : List Bool} {f : Nat → Bool} {i : Nat} (h : fromOn l f (i + 1)) (hl : i < l.length) : fromOn (l.set i (f i)) f i := by
 intro j h1 h2
 rw [List.length_set] at h2
 by_cases e : j = i
 ·subst e
  exact set_getEq hl _
 ·rw [set_getNe (by omega)]
  exact h j (by omega) h2
theorem F356.second (k : Nat) (a b p5 p6 : List Dom) (hab : a.length = b.length) (hl : a.length ≤ 1000) (hc : ∀ i, i < a.length → cutB (a.getD i dom0) (andKB (b.getD i dom0)) = true) (ev be R : List Bool) (hR : R = (List.range (a.length + 1)).map fun j => restGo (a.drop j) (b.drop j)) :
  ∀ (i n : Nat) (rs : List Bool), i ≤ a.length → i < n → rs.length = a.length + 1 → fromOn rs (fun j => restGo (a.drop j) (b.drop j)) i →
  F356.l1_1_1_1_1_0_1_0 n (F356.kt k [1, 1, 1, 1, 1, 0, 1, 0]) a b ((i : Int) - 1) p5 p6 ev be rs =
  some (.agg [.v (.sl DomT) p5, .v (.sl DomT) p6, .v (.sl .bool) ev, .v (.sl .bool) be, .v (.sl .bool) R]) := by
 intro i
 induction i with
 | zero =>
  intro n rs h1 h2 h3 h4
  obtain ⟨n', rfl⟩ : ∃ n', n = n' + 1 := ⟨n - 1, by omega⟩
  obtain rfl : rs = R := (upTo_all (fun j hj => h4 j (by omega) (by omega)) h3).trans hR.symm
  exact (F356.l1_1_1_1_1_0_1_0_eq n' _ a b _ p5 p6 ev be _).trans ((bF' (decide_eq_false (show ¬ ((0 : Nat) : Int) - 1 ≥ 0 by omega))).trans (F356.c1 k p5 p6 ev be _))
 | succ i ih =>
  intro n rs h1 h2 h3 h4
  obtain ⟨n', rfl⟩ : ∃ n', n = n' + 1 := ⟨n - 1, by omega⟩
  have hi : i < a.length := by omega
  have e0 : ((i + 1 : Nat) : Int) - 1 = (i : Int) := by omega
  have w : IntKind.i64.wrap ((i : Int) + 1) = ((i + 1 : Nat) : Int) := by rw [wrap_ok (by omega) (by omega)]; omega
  have w2 : IntKind.i64.wrap ((i : Int) - 1) = (i : Int) - 1 := wrap_ok (by omega) (by omega)
  rw [e0]
  refine (F356.l1_1_1_1_1_0_1_0_eq n' _ a b _ p5 p6 ev be rs).trans ?_
  rw [w, w2, Int.toNat_natCast, Int.toNat_natCast]
  have i2 : (decide (0 ≤ (i : Int)) && decide ((i : Int) < (a.length : Int))) = true := in_nat hi
  have i3 : (decide (0 ≤ (i : Int)) && decide ((i : Int) < (b.length : Int))) = true := in_nat (by omega)
  have i4 : (decide (0 ≤ ((i + 1 : Nat) : Int)) && decide (((i + 1 : Nat) : Int) < (rs.length : Int))) = true := in_nat (by omega)
  have i5 : (decide (0 ≤ (i : Int)) && decide ((i : Int) < (rs.length : Int))) = true := in_nat (by omega)
  have nx := rest_next (a := a) (b := b) hi (by omega)
  have hr : rs.getD (i + 1) false = restGo (a.drop (i + 1)) (b.drop (i + 1)) := h4 (i + 1) (Nat.le_refl _) (by omega)
  have fin : ∀ x, x = restGo (a.drop i) (b.drop i) → F356.l1_1_1_1_1_0_1_0 n' (F356.kt k [1, 1, 1, 1, 1, 0, 1, 0]) a b ((i : Int) - 1) p5 p6 ev be (rs.set i x) = some (.agg [.v (.sl DomT) p5, .v (.sl DomT) p6, .v (.sl .bool) ev, .v (.sl .bool) be, .v (.sl .bool) R]) := fun x hx => by
   subst hx
   exact ih n' _ (by omega) (by omega) (by rw [List.length_set]; exact h3) (fromOn_set (f := fun j => restGo (a.drop j) (b.drop j)) h4 (by omega))
  refine (bT' (decide_eq_true (show (i : Int) ≥ 0 by omega))).trans ((bT' i2).trans ((bT' i3).trans ?_))
  by_cases c1 : minD (a.getD i dom0) < maxD (b.getD i dom0)
  ·refine (bT' (decide_eq_true c1)).trans ((bT' i5).trans (fin _ ?_))
   rw [nx, decide_eq_true c1]
   rfl
  ·refine (bF' (decide_eq_false c1)).trans ((bT' i2).trans ((bT' i3).trans ((bT' (hc i hi)).trans ?_)))
   cases hm : meetD (a.getD i dom0) (b.getD i dom0) with
   | true =>
    refine (bT' hm).trans ((bT' i4).trans ((bT' i5).trans (fin _ ?_)))
    rw [nx, decide_eq_false c1, hm, hr]
    rfl
   | false =>
    refine (bF' hm).trans ((bT' i5).trans (fin _ ?_))
    rw [nx, decide_eq_false c1, hm]
    rfl
theorem F356.sem (a b : List Dom) (h : knownB a b = true) : callW F356.E false F356.fn 2000 [.v (.sl DomT) a, .v (.sl DomT) b] = some (.agg (explode RowsT (knownR a b))) := by
 unfold knownB at h
 simp only [Bool.and_eq_true, decide_eq_true_eq, Nat.ble_eq, List.all_eq_true, List.mem_range] at h
 obtain ⟨⟨hab, hl⟩, hc⟩ := h
 have w : IntKind.i64.wrap ((a.length : Int) + 1) = ((a.length + 1 : Nat) : Int) := by rw [wrap_ok (by omega) (by omega)]; omega
 have st := F356.start_eq 2000 a b
 rw [w, Int.toNat_natCast, Int.toNat_natCast] at st
 have q1 : (decide (0 ≤ ((a.length + 1 : Nat) : Int)) && decide ((a.length + 1) * 1 ≤ LIM)) = true := by
  rw [Bool.and_eq_true]
  exact ⟨decide_eq_true (by omega), decide_eq_true (show (a.length + 1) * 1 ≤ 140737488355328 by omega)⟩
 have q2 : decide ((0 : Int) < ((List.replicate (a.length + 1) false).length : Int)) = true := decide_eq_true (by rw [List.length_replicate]; omega)
 have q3 : (decide (0 ≤ (a.length : Int)) && decide ((a.length : Int) < ((List.replicate (a.length + 1) false).length : Int))) = true := by rw [List.length_replicate]; exact in_nat (by omega)
 refine (st.trans ((bT' q1).trans ((bT' q1).trans ((bT' q1).trans ((bT' q2).trans (bT' q3)))))).trans ?_
 refine (F356.first 2000 a b a b _ hab hl hc _ a.length 0 2000 _ _ (by omega) (by omega) (by simp) (by simp) ?_ ?_).trans ?_
 ·intro j hj
  obtain rfl : j = 0 := by omega
  rw [set_getEq (by simp)]
  rfl
 ·intro j hj
  obtain rfl : j = 0 := by omega
  rfl
 ·have w2 : IntKind.i64.wrap ((a.length : Int) - 1) = (a.length : Int) - 1 := wrap_ok (by omega) (by omega)
  rw [w2]
  refine F356.second 2000 a b a b hab hl hc _ _ _ rfl a.length 2000 _ (Nat.le_refl _) (by omega) (by simp) ?_
  intro j h1 h2
  simp only [List.length_set, List.length_replicate] at h2
  obtain rfl : j = a.length := by omega
  rw [set_getEq (by simp)]
  show true = restGo (a.drop a.length) (b.drop a.length)
  rw [List.drop_length]
  unfold restGo
  rfl
end Go.Proofs.YtnojoaghcbljfaaGreatDoor.Ev
