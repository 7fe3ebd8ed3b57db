/-
A model made of plain data: there is one, and it is small. The contracts.
Conditions: kinds of small constraints are bytes.
The functions as the evaluator runs them: printed by a program of mine, each equation by kernel_rfl.
Conditions: none.
ModelChecks: the law.
Conditions: kinds of small constraints are bytes.
-/
import Derived.Test.YtlfdikofmfhefaaGreatDoorIp
import Derived.Test.YtlfdikofmfhefaaGreatDoorGy
import Derived.Sort.OwnSortedInts
import Derived.Test.YtlfdikofmfhefaaGreatDoorIj
import Derived.Test.YtlfdikofmfhefaaGreatDoorIf
set_option linter.unusedVariables false
set_option linter.unusedSimpArgs false
set_option maxRecDepth 100000
namespace Go.Proofs.YtlfdikofmfhefaaGreatDoor.Ev
open Go Go.RowKit Go.Sort
theorem sort_mspec (xs : List Int) (hne : xs ≠ []) (hle : xs.length ≤ 1000) : MSpec Go.Proofs.Tryz.prog inv 32 0 [.un] 3 (.int .i64) xs (sortL xs) (some (.tup [])) := by
 intro w1 w ok us u hI hB hok ha hu hsl hrow hsep
 refine ⟨callFunc_enter Go.Proofs.Tryz.func32 (by kernel_rfl) (by kernel_rfl) _ _, ?_⟩
 obtain ⟨cs, hcs, hl, hown⟩ := hrow
 rcases hown with ⟨_, h0⟩ | ⟨g, cap, cur, rfl, hg, hb, hn, hcap, hcur, htake⟩
 ·exact absurd (List.length_eq_zero_iff.mp h0) hne
 have hn : @List.length Int xs ≤ cap := hn
 cases ha with
 | cons h1 h2 =>
  cases h2
  have hu := Option.some.inj (show some _ = some _ from hu)
  subst hu
  rw [ints_cells hcs] at htake
  have htake : cur.toList.take xs.length = xs.map (Value.int .i64) := by rw [← htake]; exact congrArg (fun k => cur.toList.take k) (Nat.mul_one _).symm
  have hH : Holds (Value.int .i64) w g 0 xs.toArray := holds_of_blockI hb htake
  have hsz : g < w.heap.size := (Array.getElem?_eq_some_iff.1 hb).1
  have C := Any.slices_Sort_int Go.Proofs.Tryz.sortI g 0 cap xs w hH hsz (by omega)
  refine Calls.mono (show Calls Go.Proofs.Tryz.prog 32 _ w _ from C) ?_
  rintro ex w' ⟨rfl, n, os, rfl⟩
  have hlen : (sortL xs).length = xs.length := sortL_lenG xs
  have G := grownBy_sortedI (w := w) (g := g) (n := n) (os := os) (sortL xs).toArray
  have O := ownsRow_sortedI (n := n) (os := os) hlen hg hb hn hcap (by rw [hcur]; rfl)
  refine ⟨_, rfl, below_grown hB hg G, G.size, fun k hk hm => G.block k hk (fun e => hm e.symm), ok, .slice (some ⟨g, 0, none⟩) xs.length cap, (sortL xs).map fun x => [Value.int .i64 x], fun k hk => hk, fun k hk => ⟨.inl hk, Nat.lt_of_lt_of_le (hok k hk) G.size⟩, cells_ints _, ?_, fun k hk => ⟨hsep k hk, .inl hk⟩, hlen, rfl, [], rfl, .nil⟩
  rw [flat_ints]
  show World.ownsRow _ _ _ 1 _ (@List.length Int (sortL xs)) _
  rw [hlen]
  exact O
theorem okM120 : MHandOk Go.Proofs.Tryz.prog inv 32 h_sort := by
 intro args e t xs κ r h
 change h_sortF args e t xs κ = some r at h
 unfold h_sortF at h
 split at h
 case h_2 => simp at h
 split at h
 case h_2 => simp at h
 rename_i xs _ _
 cases hc : Nat.beq e 3 && (!(List.isEmpty xs) && Nat.ble (List.length xs) 1000) with
 | false => simp [hc] at h
 | true =>
  simp only [hc, cond_true] at h
  obtain ⟨he, hp⟩ := (Bool.and_eq_true _ _).mp hc
  obtain ⟨hne, hle⟩ := (Bool.and_eq_true _ _).mp hp
  have he := Nat.eq_of_beq_eq_true he
  subst he
  have hle : xs.length ≤ 1000 := by rwa [Nat.ble_eq] at hle
  refine ⟨_, _, h, ?_⟩
  have hne : (xs : List Int) ≠ [] := fun e => by rw [e] at hne; cases hne
  exact sort_mspec xs hne hle
abbrev ModelT : Ty := .pair (.sl .str) (.pair (.sl (.sl (.int .i64))) (.pair (.sl ConT) (.pair (.int .i64) (.int .i64))))
def OutM (r : Option AV) : Prop := ∃ m : ModelP, r = some (.agg (explode ModelT m)) ∧ modelB m = true
theorem OutM.eq {x y : Option AV} (h : x = y) (hy : OutM y) : OutM x := h ▸ hy
theorem exT {c : Bool} {x y : Option AV} (hc : c = true) (h : OutM x) : OutM (bif c then x else y) := by rw [hc]; exact h
theorem exB {c : Bool} {x y : Option AV} (h1 : c = true → OutM x) (h2 : c = false → OutM y) : OutM (bif c then x else y) := by
 cases c with
 | true => exact h1 rfl
 | false => exact h2 rfl
theorem cap_ok {a n : Int} (ha : 0 ≤ a) (hn : 0 ≤ n) : (decide (0 ≤ (if a < n then a else n)) && decide ((if a < n then a else n) ≤ n)) = true := by
 by_cases h : a < n
 ·rw [if_pos h, decide_eq_true ha, decide_eq_true (Int.le_of_lt h)]; rfl
 ·rw [if_neg h, decide_eq_true hn, decide_eq_true (Int.le_refl _)]; rfl
theorem cap_le (a : Int) (n : Nat) (ha : 0 ≤ a) : (if a < (n : Int) then a else (n : Int)).toNat ≤ a.toNat ∧ (if a < (n : Int) then a else (n : Int)).toNat ≤ n := by
 by_cases h : a < (n : Int)
 ·rw [if_pos h]; omega
 ·rw [if_neg h]; omega
theorem cap_len {α : Type} (a : Int) (l : List α) (ha : 0 ≤ a) : (l.take (if a < (l.length : Int) then a else (l.length : Int)).toNat).length ≤ a.toNat := by
 rw [List.length_take]
 exact Nat.le_trans (Nat.min_le_left _ _) (cap_le a l.length ha).1
theorem ext_size (s : ByteArray) : (s.extract 0 (if (40 : Int) < (s.size : Int) then 40 else (s.size : Int)).toNat).size ≤ 1000 := by
 have h := (cap_le 40 s.size (by decide)).1
 rw [ByteArray.size_extract]
 have e : (40 : Int).toNat = 40 := rfl
 rw [e] at h
 omega
theorem lim1 {n : Nat} (h : n ≤ 2000) (c : Nat) (hc : c ≤ 160) : decide ((n + 1) * c ≤ LIM) = true := decide_eq_true (by
 have h1 : (n + 1) * c ≤ 2001 * 160 := Nat.mul_le_mul (by omega) hc
 have h2 : 2001 * 160 ≤ LIM := by decide
 omega)
theorem inN {i n : Nat} (h : i < n) : (decide (0 ≤ (i : Int)) && decide ((i : Int) < (n : Int))) = true := by
 rw [decide_eq_true (show (0 : Int) ≤ (i : Int) by omega), decide_eq_true (show (i : Int) < (n : Int) by omega)]
 rfl
theorem okS {l : List Int} (h0 : 0 < l.length) (h1 : l.length ≤ 1000) : (!(List.isEmpty l) && Nat.ble (List.length l) 1000) = true := by
 rw [Nat.ble_eq_true_of_le h1]
 cases l with
 | nil => exact absurd h0 (by simp)
 | cons x y => rfl
theorem wrapS {i : Nat} (h : i ≤ 5000) : IntKind.i64.wrap ((i : Int) + 1) = ((i + 1 : Nat) : Int) := by rw [wrap_ok (by omega) (by omega)]; omega
theorem modelB_of {ns : List ByteArray} {ds : List (List Int)} {cs : List Con} {g o : Int} (h1 : ns.length ≤ 2000) (h2 : ds.length ≤ 2000) (h3 : cs.length ≤ 2000) (h4 : ∀ s ∈ ns, s.size ≤ 1000) (h5 : ∀ l ∈ ds, l.length ≤ 1000) (h6 : ∀ c ∈ cs, smallC c = true) : modelB (ns, (ds, (cs, (g, o)))) = true := by
 unfold modelB
 simp only [Bool.and_eq_true, Nat.ble_eq]
 exact ⟨h1, h2, h3, List.all_eq_true.mpr fun s hs => Nat.ble_eq_true_of_le (h4 s hs), List.all_eq_true.mpr fun l hl => Nat.ble_eq_true_of_le (h5 l hl), List.all_eq_true.mpr h6⟩
theorem outM {ns : List ByteArray} {ds : List (List Int)} {cs : List Con} {g o : Int} (h1 : ns.length ≤ 2000) (h2 : ds.length ≤ 2000) (h3 : cs.length ≤ 2000) (h4 : ∀ s ∈ ns, s.size ≤ 1000) (h5 : ∀ l ∈ ds, l.length ≤ 1000) (h6 : ∀ c ∈ cs, smallC c = true) :
  OutM (some (.agg [.v (.sl .str) ns, .v (.sl (.sl (.int .i64))) ds, .v (.sl ConT) cs, .v (.int .i64) g, .v (.int .i64) o])) := ⟨(ns, (ds, (cs, (g, o)))), rfl, modelB_of h1 h2 h3 h4 h5 h6⟩
theorem all_snoc {α : Type} {P : α → Prop} {l : List α} {x : α} (h : ∀ y ∈ l, P y) (hx : P x) : ∀ y ∈ l ++ [x], P y := fun y hy => by
 rcases List.mem_append.mp hy with hy | hy
 ·exact h y hy
 ·rw [List.mem_singleton.mp hy]; exact hx
theorem take_le {α : Type} (n : Nat) (l : List α) : (l.take n).length ≤ n := by rw [List.length_take]; exact Nat.min_le_left _ _
theorem cut_small (c : Con) : smallC (cutM c 6) = true := by
 have h : ∀ l : List Int, (l.take (Int.toNat 6)).length ≤ 1000 := fun l => Nat.le_trans (take_le _ l) (by decide)
 exact small_of (h _) (h _) (h _) (h _) (h _) (by
  show ((c.2.2.2.2.2.2.2.take (Int.toNat 6)).map _).length ≤ 1000
  rw [List.length_map]
  exact Nat.le_trans (take_le _ _) (by decide))
theorem take_min {α : Type} (l : List α) {z : Int} (h : 0 ≤ z) : l.take (if z < (l.length : Int) then z else (l.length : Int)).toNat = l.take z.toNat := by
 by_cases hz : z < (l.length : Int)
 ·rw [if_pos hz]
 ·rw [if_neg hz, List.take_of_length_le (by omega), List.take_of_length_le (by omega)]
theorem F614.sem (k : Nat) (l : List Int) (z : Int) (h : ge0 z = true) : callW F614.E false F614.fn k [.v (.sl (.int .i64)) l, .rp [.v (.int .i64) z]] = some (.v (.sl (.int .i64)) (List.take (Int.toNat z) l)) := by
 have hz : 0 ≤ z := of_decide_eq_true h
 refine (F614.start_eq k l z).trans ((bT' (cap_ok hz (Int.natCast_nonneg _))).trans ?_)
 exact congrArg (fun t => some (AV.v (.sl (.int .i64)) t)) (take_min l hz)
theorem F556.loop (k : Nat) (rs : List (List Int)) (N : Nat) (hr : rs.length = N) (z a b kk m : Int) (hz : ge0 z = true) (hz2 : z ≤ 2000) (l1 l2 l3 l4 l5 : List Int) (hNz : (N : Int) ≤ z) : ∀ d i n xs, i + d = N → d < n → xs = (rs.take i).map (List.take z.toNat) →
  F556.l1_1_1_0_1_0 n (F556.kt k [1, 1, 1, 0, 1, 0]) rs (N : Int) ((i : Int)) a b z kk l1 l2 l3 l4 l5 m xs = some (.agg [.v (.int .i64) kk, .v (.sl (.int .i64)) l1, .v (.sl (.int .i64)) l2, .v (.sl (.int .i64)) l3, .v (.sl (.int .i64)) l4, .v (.sl (.int .i64)) l5, .v (.int .i64) m, .v (.sl (.sl (.int .i64))) (rs.map (List.take z.toNat))]) := by
 intro d
 induction d with
 | zero =>
  intro i n xs h1 h2 hx
  obtain ⟨n, rfl⟩ : ∃ n', n = n' + 1 := ⟨n - 1, by omega⟩
  obtain rfl : i = N := by omega
  refine (F556.l1_1_1_0_1_0_eq ..).trans (self_lt'.trans ((F556.c0 ..).trans ?_))
  rw [hx, List.take_of_length_le (Nat.le_of_eq hr)]
  rfl
 | succ d ih =>
  intro i n xs h1 h2 hx
  obtain ⟨n, rfl⟩ : ∃ n', n = n' + 1 := ⟨n - 1, by omega⟩
  have hi : i < rs.length := by omega
  have hl : xs.length ≤ 2000 := by rw [hx, List.length_map, List.length_take]; omega
  refine (F556.l1_1_1_0_1_0_eq ..).trans ((bT' (lt_natG (show i < N by omega))).trans ((bT' (inN hi)).trans ((bT' hz).trans ((bT' (lim1 hl 24 (by decide))).trans ?_))))
  rw [wrapS (show i ≤ 5000 by omega)]
  refine ih (i + 1) n _ (by omega) (by omega) ?_
  rw [hx, List.take_add_one, List.map_append, List.getD_eq_getElem?_getD, show (i : Int).toNat = i from rfl, List.getElem?_eq_getElem hi]
  rfl
theorem F556.sem (c : Con) (z : Int) (hz : ge0 z = true) (hz2 : z ≤ 1000) : callW F556.E false F556.fn 4000 [.agg (explode ConT c), .v (.int .i64) z] = some (.agg (explode ConT (cutM c z))) := by
 have h0 : 0 ≤ z := of_decide_eq_true hz
 obtain ⟨kk, c⟩ := c
 refine (F556.start_eq 4000 kk c z).trans ((bT' hz).trans ((bT' hz).trans ((bT' hz).trans ((bT' hz).trans ((bT' hz).trans ((bT' (cap_ok h0 (Int.natCast_nonneg _))).trans ?_))))))
 rw [take_min _ h0]
 obtain ⟨N, hN⟩ : ∃ N, (c.2.2.2.2.2.2.take z.toNat).length = N := ⟨_, rfl⟩
 have hNz : (N : Int) ≤ z := by have := take_le z.toNat c.2.2.2.2.2.2; omega
 rw [hN]
 exact F556.loop 4000 _ N hN z 0 0 kk c.2.2.2.2.2.1 hz (by omega) _ _ _ _ _ hNz N 0 4000 [] (by omega) (by omega) rfl
theorem F515.third (k : Nat) (q3 : List ByteArray) (q4 : List (List Int)) (q5 : List Small) (q6 q7 q8 q9 : Int) (q10 q11 q12 q13 q14 : List Int) (q15 : Int) (q16 : List (List Int)) (q17 : List Int) (q18 q19 g o : Int) (ns : List ByteArray) (ds : List (List Int)) (cs : List Con) (hn : ns.length ≤ 6) (hd : ds.length ≤ 6) (hc : cs.length ≤ 6) (h4 : ∀ s ∈ ns, s.size ≤ 1000) (h5 : ∀ l ∈ ds, l.length ≤ 1000) (h6 : ∀ c ∈ cs, smallC c = true) :
  OutM (exitK (F515.kt k [1, 1, 1, 0, 1, 0]) 4 ⟨slots 198 [(1, .pb 0 0), (2, .pb 1 0), (3, .pb 2 0)], [.box [.v (.sl .str) q3, .v (.sl (.sl (.int .i8))) q4, .v (.sl (.pair (.int .u8) (.pair (.sl (.int .u8)) (.pair (.sl (.int .u8)) (.pair (.sl (.int .i8)) (.pair (.int .i16) (.int .u8))))))) q5, .v (.int .i64) q6, .v (.int .i64) q7, .v (.int .u8) q8, .v (.int .i64) q9, .v (.sl (.int .i64)) q10, .v (.sl (.int .i64)) q11, .v (.sl (.int .i64)) q12, .v (.sl (.int .i64)) q13, .v (.sl (.int .i64)) q14, .v (.int .i64) q15, .v (.sl (.sl (.int .i64))) q16, .v (.sl (.int .i64)) q17], .box [.nl, .nl, .nl, .v (.int .i64) q18, .v (.int .i64) q19], .box [.own 3, .own 4, .own 5, .v (.int .i64) g, .v (.int .i64) o], .row 9 .str ns, .row 29 (.sl (.int .i64)) ds, .row 31 (.pair (.int .i64) (.pair (.sl (.int .i64)) (.pair (.sl (.int .i64)) (.pair (.sl (.int .i64)) (.pair (.sl (.int .i64)) (.pair (.sl (.int .i64)) (.pair (.int .i64) (.sl (.sl (.int .i64)))))))))) cs]⟩) := by
 have c6 : ∀ l : List Int, (decide (0 ≤ (if (6 : Int) < (l.length : Int) then (6 : Int) else (l.length : Int))) && decide ((if (6 : Int) < (l.length : Int) then (6 : Int) else (l.length : Int)) ≤ (l.length : Int))) = true := fun l => cap_ok (by decide) (Int.natCast_nonneg _)
 have t6 : ∀ l : List Int, (l.take (if (6 : Int) < (l.length : Int) then (6 : Int) else (l.length : Int)).toNat).length ≤ 1000 := fun l => Nat.le_trans (cap_len 6 l (by decide)) (by decide)
 have lz : (⟨#[122]⟩ : ByteArray).size ≤ 1000 := by decide
 have ap : ∀ {α : Type} (l : List α) (x : α), l.length ≤ 6 → (l ++ [x]).length ≤ 2000 := fun l x h => by rw [List.length_append]; show l.length + 1 ≤ 2000; omega
 refine OutM.eq (F515.c2 ..) ?_
 refine exB (fun _ => exB (fun hp => exT ?_ ?_) (fun _ => ?_)) (fun _ => ?_)
 ·have : ¬ (ns.length : Int) = 0 := by have := of_decide_eq_true hp; omega
  rw [decide_eq_false this]
  rfl
 all_goals
  refine exB (fun _ => exT rfl (exT (lim1 (show cs.length ≤ 2000 by omega) 160 (by decide)) (outM (by omega) (by omega) (ap _ _ hc) h4 h5 (all_snoc h6 (cut_small _))))) (fun _ => ?_)
  refine exB (fun _ => exT (c6 _) (exT (lim1 (show ds.length ≤ 2000 by omega) 24 (by decide)) (outM (by omega) (ap _ _ hd) (by omega) h4 (all_snoc h5 (t6 _)) h6))) (fun _ => ?_)
  refine exB (fun _ => outM (by omega) (by omega) (by omega) h4 h5 h6) (fun _ => ?_)
  refine exB (fun _ => exT (lim1 (show ns.length ≤ 2000 by omega) 16 (by decide)) (exT (c6 _) (exT (lim1 (show ds.length ≤ 2000 by omega) 24 (by decide)) (outM (ap _ _ hn) (ap _ _ hd) (by omega) (all_snoc h4 lz) (all_snoc h5 (t6 _)) h6)))) (fun _ => ?_)
  exact outM (by omega) (by omega) (by omega) h4 h5 h6
theorem F515.second (k : Nat) (p0 : List Small) (q3 : List ByteArray) (q4 : List (List Int)) (q5 : List Small) (q6 q7 q8 q9 : Int) (q10 q11 q12 q13 q14 : List Int) (q15 : Int) (q16 : List (List Int)) (q17 : List Int) (q18 q19 g o : Int) (ns : List ByteArray) (ds : List (List Int)) (hn : ns.length ≤ 6) (hd : ds.length ≤ 6) (h4 : ∀ s ∈ ns, s.size ≤ 1000) (h5 : ∀ l ∈ ds, l.length ≤ 1000) (N : Nat) (hN : N ≤ 5) (hp : p0.length = N) (hs : ∀ s ∈ p0, small8B s = true) :
  ∀ d i n (cs : List Con), i + d = N → d < n → cs.length ≤ i → (∀ c ∈ cs, smallC c = true) → OutM (F515.l1_1_1_0_1_0 n (F515.kt k [1, 1, 1, 0, 1, 0]) p0 (N : Int) ((i : Int)) q3 q4 q5 q6 q7 q8 q9 q10 q11 q12 q13 q14 q15 q16 q17 q18 q19 g o ns ds cs) := by
 intro d
 induction d with
 | zero =>
  intro i n cs h1 h2 h3 h6
  obtain ⟨n, rfl⟩ : ∃ n', n = n' + 1 := ⟨n - 1, by omega⟩
  obtain rfl : i = N := by omega
  exact OutM.eq (F515.l1_1_1_0_1_0_eq ..) (OutM.eq self_lt' (F515.third k q3 q4 q5 q6 q7 q8 q9 q10 q11 q12 q13 q14 q15 q16 q17 q18 q19 g o ns ds cs hn hd (by omega) h4 h5 h6))
 | succ d ih =>
  intro i n cs h1 h2 h3 h6
  obtain ⟨n, rfl⟩ : ∃ n', n = n' + 1 := ⟨n - 1, by omega⟩
  have hi : i < p0.length := by omega
  refine OutM.eq (F515.l1_1_1_0_1_0_eq ..) (exT (lt_natG (show i < N by omega)) (exT (inN hi) (exB (fun hq => ?_) (fun _ => ?_))))
  ·have h8 : ∀ x, x = (p0.getD (i : Int).toNat ((0 : Int), ([], ([], ([], ((0 : Int), (0 : Int))))))) → conAB x (ns.length : Int) = true := fun x hx => by
    have hm : x ∈ p0 := by
     rw [hx, List.getD_eq_getElem?_getD, show (i : Int).toNat = i from rfl, List.getElem?_eq_getElem hi]
     exact List.getElem_mem _
    have := hs x hm
    unfold small8B at this
    unfold conAB
    rw [this, decide_eq_true (show (ns.length : Int) ≠ 0 by have := of_decide_eq_true hq; omega)]
    rfl
   have h8 := h8 _ rfl
   refine exT h8 (exT (lim1 (show cs.length ≤ 2000 by omega) 160 (by decide)) ?_)
   rw [wrapS (show i ≤ 5000 by omega)]
   exact ih (i + 1) n _ (by omega) (by omega) (by rw [List.length_append]; show cs.length + 1 ≤ i + 1; omega) (all_snoc h6 (conA_spec h8).2.2.2.2.2.1)
  ·rw [wrapS (show i ≤ 5000 by omega)]
   exact ih (i + 1) n cs (by omega) (by omega) (by omega) h6
theorem F515.inn (n0 : Nat) (K : Conts) (p0 : List ByteArray) (N i : Int) (q3 : List ByteArray) (q4 : List (List Int)) (q5 : List Small) (q6 q7 q8 q9 : Int) (q10 q11 q12 q13 q14 : List Int) (q15 : Int) (q16 : List (List Int)) (q17 : List Int) (q18 q19 g o : Int) (ns : List ByteArray) (ds : List (List Int)) (hd : ds.length ≤ 6) (l : List Int) (M : Nat) (hM : M ≤ 6) (hM0 : 0 < M) (hl : l.length = M)
  (hc : ∀ ys : List Int, ys.length = M → OutM (F515.l1_1_0_1_0 n0 K p0 N (IntKind.i64.wrap (i + 1)) q3 q4 q5 q6 q7 q8 q9 q10 q11 q12 q13 q14 q15 q16 q17 q18 q19 g o ns (ds ++ [compL (sortL ys)]))) :
  ∀ d j n (xs : List Int), j + d = M → d < n → xs.length = j → OutM (F515.l1_1_0_1_0_0_1_1_0_0_1_1_1_1_0_1_0_1_0_1_0 n (F515.k_l1_1_0_1_0 n0 K [1, 1, 0, 0, 1, 1, 1, 1, 0, 1, 0, 1, 0, 1, 0]) p0 N i l (M : Int) ((j : Int)) q3 q4 q5 q6 q7 q8 q9 q10 q11 q12 q13 q14 q15 q16 q17 q18 q19 g o xs ns ds) := by
 intro d
 induction d with
 | zero =>
  intro j n xs h1 h2 h3
  obtain ⟨n, rfl⟩ : ∃ n', n = n' + 1 := ⟨n - 1, by omega⟩
  obtain rfl : j = M := by omega
  refine OutM.eq (F515.l1_1_0_1_0_0_1_1_0_0_1_1_1_1_0_1_0_1_0_1_0_eq ..) (OutM.eq self_lt' (OutM.eq (F515.c1 ..) ?_))
  have hs := sortL_lenG xs
  exact exT (okS (by omega) (by omega)) (exT (okS (by omega) (by omega)) (exT (lim1 (show ds.length ≤ 2000 by omega) 24 (by decide)) (hc xs h3)))
 | succ d ih =>
  intro j n xs h1 h2 h3
  obtain ⟨n, rfl⟩ : ∃ n', n = n' + 1 := ⟨n - 1, by omega⟩
  refine OutM.eq (F515.l1_1_0_1_0_0_1_1_0_0_1_1_1_1_0_1_0_1_0_1_0_eq ..) (exT (lt_natG (show j < M by omega)) (exT (inN (show j < l.length by omega)) (exT (lim1 (show xs.length ≤ 2000 by omega) 8 (by decide)) ?_)))
  rw [wrapS (show j ≤ 5000 by omega)]
  exact ih (j + 1) n _ (by omega) (by omega) (by rw [List.length_append]; show xs.length + 1 = j + 1; omega)
theorem F515.first (k : Nat) (hk : 20 ≤ k) (p0 q3 : List ByteArray) (q4 : List (List Int)) (q5 : List Small) (q6 q7 q8 q9 : Int) (q10 q11 q12 q13 q14 : List Int) (q15 : Int) (q16 : List (List Int)) (q17 : List Int) (q18 q19 g o : Int) (N : Nat) (hN : N ≤ 6) (hp : p0.length = N) (hz : ∀ s ∈ q5, small8B s = true) :
  ∀ d i n (ns : List ByteArray) (ds : List (List Int)), i + d = N → d + 10 < n → ns.length = i → ds.length = i → (∀ s ∈ ns, s.size ≤ 1000) → (∀ l ∈ ds, l.length ≤ 1000) →
  OutM (F515.l1_1_0_1_0 n (F515.kt k [1, 1, 0, 1, 0]) p0 (N : Int) ((i : Int)) q3 q4 q5 q6 q7 q8 q9 q10 q11 q12 q13 q14 q15 q16 q17 q18 q19 g o ns ds) := by
 intro d
 induction d with
 | zero =>
  intro i n ns ds h1 h2 h3 h3' h4 h5
  obtain ⟨n, rfl⟩ : ∃ n', n = n' + 1 := ⟨n - 1, by omega⟩
  obtain rfl : i = N := by omega
  refine OutM.eq (F515.l1_1_0_1_0_eq ..) (OutM.eq self_lt' (OutM.eq (F515.c0 ..) (exT (cap_ok (by decide) (Int.natCast_nonneg _)) ?_)))
  have hl := cap_len 5 q5 (by decide)
  exact F515.second k _ q3 q4 q5 q6 q7 q8 q9 q10 q11 q12 q13 q14 q15 q16 q17 q18 q19 g o ns ds (by omega) (by omega) h4 h5 _ hl rfl (fun s hs => hz s (List.mem_of_mem_take hs)) _ 0 k [] (Nat.zero_add _) (by have : (5 : Int).toNat = 5 := rfl; omega) (Nat.le_refl _) (fun c hc => by cases hc)
 | succ d ih =>
  intro i n ns ds h1 h2 h3 h3' h4 h5
  obtain ⟨n, rfl⟩ : ∃ n', n = n' + 1 := ⟨n - 1, by omega⟩
  refine OutM.eq (F515.l1_1_0_1_0_eq ..) (exT (lt_natG (show i < N by omega)) (exT (inN (show i < p0.length by omega)) (exB (fun _ => ?_) (fun _ => ?_))))
  all_goals
   refine exT (cap_ok (by decide) (Int.natCast_nonneg _)) (exT (lim1 (show ns.length ≤ 2000 by omega) 16 (by decide)) ?_)
   have nx : ∀ (s : ByteArray) (l : List Int), s.size ≤ 1000 → l.length ≤ 1000 → OutM (F515.l1_1_0_1_0 n (F515.kt k [1, 1, 0, 1, 0]) p0 (N : Int) (IntKind.i64.wrap ((i : Int) + 1)) q3 q4 q5 q6 q7 q8 q9 q10 q11 q12 q13 q14 q15 q16 q17 q18 q19 g o (ns ++ [s]) (ds ++ [l])) := fun s l hs hl => by
    rw [wrapS (show i ≤ 5000 by omega)]
    exact ih (i + 1) n _ _ (by omega) (by omega) (by rw [List.length_append]; show ns.length + 1 = i + 1; omega) (by rw [List.length_append]; show ds.length + 1 = i + 1; omega) (all_snoc h4 hs) (all_snoc h5 hl)
   have l24 := lim1 (show ds.length ≤ 2000 by omega) 24 (by decide)
   refine exB (fun hq => ?_) (fun _ => exT l24 (nx _ _ (ext_size _) (show 1 ≤ 1000 by decide)))
   have hi : i < q4.length := by have := of_decide_eq_true hq; omega
   refine exT (inN hi) (exB (fun hq2 => exT (inN hi) (exT (inN hi) (exT (cap_ok (by decide) (Int.natCast_nonneg _)) ?_))) (fun _ => exT l24 (nx _ _ (ext_size _) (show 1 ≤ 1000 by decide))))
   have hpos : 0 < (q4.getD (i : Int).toNat []).length := by have := of_decide_eq_true hq2; omega
   have hcl := cap_len 6 (q4.getD (i : Int).toNat []) (by decide)
   have e6 : (6 : Int).toNat = 6 := rfl
   refine F515.inn n _ p0 (N : Int) ((i : Int)) q3 q4 q5 q6 q7 q8 q9 q10 q11 q12 q13 q14 q15 q16 q17 q18 q19 g o _ ds (by omega) _ _ (by rw [← e6]; exact hcl) ?_ rfl (fun ys hy => nx _ _ (ext_size _) ?_) _ 0 n [] (Nat.zero_add _) ?_ rfl
   ·rw [List.length_take]
    by_cases hq3 : (6 : Int) < ((q4.getD (i : Int).toNat []).length : Int)
    ·rw [if_pos hq3]; omega
    ·rw [if_neg hq3]; omega
   ·have h9 : (compL (sortL ys)).length ≤ (sortL ys).length := Lib.compact_length_le (sortL ys)
    have := sortL_lenG ys
    omega
   ·omega
theorem F515.sem (z : RawP) (hz : rawB z = true) : OutM (callW F515.E false F515.fn 100 [.agg (explode RawT z)]) := by
 refine OutM.eq (F515.start_eq 100 z) (exT (cap_ok (by decide) (Int.natCast_nonneg _)) ?_)
 have hl := cap_len 6 z.1 (by decide)
 have e6 : (6 : Int).toNat = 6 := rfl
 refine F515.first 100 (by decide) _ z.1 z.2.1 z.2.2.1 z.2.2.2.1 z.2.2.2.2.1 z.2.2.2.2.2.1 z.2.2.2.2.2.2.1.1 z.2.2.2.2.2.2.1.2.1 z.2.2.2.2.2.2.1.2.2.1 z.2.2.2.2.2.2.1.2.2.2.1 z.2.2.2.2.2.2.1.2.2.2.2.1 z.2.2.2.2.2.2.1.2.2.2.2.2.1 z.2.2.2.2.2.2.1.2.2.2.2.2.2.1 z.2.2.2.2.2.2.1.2.2.2.2.2.2.2 z.2.2.2.2.2.2.2 0 0 _ 0 _ (by rw [← e6]; exact hl) rfl (List.all_eq_true.mp hz) _ 0 100 [] [] (Nat.zero_add _) (by omega) rfl rfl (fun s hs => by cases hs) (fun s hs => by cases hs)
theorem ofX_ex (z : RawP) : ∃ m : ModelP, rawB z = true → callW F515.E false F515.fn 100 [.agg (explode RawT z)] = some (.agg (explode ModelT m)) ∧ modelB m = true := by
 cases h : rawB z with
 | false => exact ⟨([], [], [], 0, 0), fun h => by cases h⟩
 | true =>
  obtain ⟨m, h1, h2⟩ := F515.sem z h
  exact ⟨m, fun _ => ⟨h1, h2⟩⟩
noncomputable def ofX (z : RawP) : ModelP := Classical.choose (ofX_ex z)
theorem ofX_spec {z : RawP} (h : rawB z = true) : callW F515.E false F515.fn 100 [.agg (explode RawT z)] = some (.agg (explode ModelT (ofX z))) ∧ modelB (ofX z) = true := Classical.choose_spec (ofX_ex z) h
noncomputable def h_ofX : Hand := handN [(.pair (.sl .str) (.pair (.sl (.sl (.int .i8))) (.pair (.sl (.pair (.int .u8) (.pair (.sl (.int .u8)) (.pair (.sl (.int .u8)) (.pair (.sl (.int .i8)) (.pair (.int .i16) (.int .u8))))))) (.pair (.int .i64) (.pair (.int .i64) (.pair (.int .u8) (.pair (.pair (.int .i64) (.pair (.sl (.int .i64)) (.pair (.sl (.int .i64)) (.pair (.sl (.int .i64)) (.pair (.sl (.int .i64)) (.pair (.sl (.int .i64)) (.pair (.int .i64) (.sl (.sl (.int .i64)))))))))) (.sl (.int .i64)))))))))] fun xs κ => bif rawB xs.1 then κ (.agg [.v (.sl .str) ((ofX xs.1).1), .v (.sl (.sl (.int .i64))) (((ofX xs.1).2).1), .v (.sl (.pair (.int .i64) (.pair (.sl (.int .i64)) (.pair (.sl (.int .i64)) (.pair (.sl (.int .i64)) (.pair (.sl (.int .i64)) (.pair (.sl (.int .i64)) (.pair (.int .i64) (.sl (.sl (.int .i64))))))))))) ((((ofX xs.1).2).2).1), .v (.int .i64) (((((ofX xs.1).2).2).2).1), .v (.int .i64) (((((ofX xs.1).2).2).2).2)]) else none
theorem cutNB_of {z : Int} (h : cutNB z = true) : ge0 z = true ∧ z ≤ 1000 := by
 have hh := (Bool.and_eq_true _ _).mp h
 exact ⟨hh.1, of_decide_eq_true hh.2⟩
theorem F614.eok : EOk Go.Proofs.Tryz.prog F614.E := eo calls_nil
theorem ok614 : HandOk Go.Proofs.Tryz.prog inv 74 h_shortC := by
 intro args κ r h
 unfold h_shortC at h
 split at h
 case h_2 => simp at h
 rename_i x0 cs
 cases hp : pullA (.sl (.int .i64)) x0 with
 | none => simp [hp] at h
 | some l =>
  cases hq : pullC (.int .i64) cs with
  | none => simp [hp, hq] at h
  | some z =>
   simp only [hp, hq] at h
   cases hc : ge0 z with
   | false => simp [hc] at h
   | true =>
    simp only [hc, cond_true] at h
    refine ⟨_, h, spec_args (args' := [.v (.sl (.int .i64)) l, .rp [.v (.int .i64) z]]) (fun w okk us hf => ?_) (callW_ok (own := false) (k := 1) F614.eok mixed Go.Proofs.Tryz.func74 (by kernel_rfl) (show Go.Proofs.Tryz.f74.body = some (bodyOf Go.Proofs.Tryz.f74) by kernel_rfl) (F614.sem 1 l z hc))⟩
    cases hf with
    | cons a b =>
     cases b with
     | cons b c => exact .cons (pullA_rel hp a) (.cons (rp_rel hq b) c)
theorem F556.eok : EOk Go.Proofs.Tryz.prog F556.E := eo (calls_cons ok614 calls_nil)
theorem ok556 : HandOk Go.Proofs.Tryz.prog inv 35 h_cutM := hand_if fun xs hc => by
 obtain ⟨c, z, u⟩ := xs
 have hh := cutNB_of hc
 exact callW_ok (own := false) (k := 4000) F556.eok mixed Go.Proofs.Tryz.func35 (by kernel_rfl) (show Go.Proofs.Tryz.f35.body = some (bodyOf Go.Proofs.Tryz.f35) by kernel_rfl) (F556.sem c z hh.1 hh.2)
theorem F515.eok : EOk Go.Proofs.Tryz.prog F515.E := ⟨tyOk_of tt_ok, (calls_cons ok26A (calls_cons ok556 calls_nil)), keep_inv, mcalls_cons okM120 (mcalls_cons okM345 mcalls_nil)⟩
theorem ok515 : HandOk Go.Proofs.Tryz.prog inv 10 h_ofX := hand_if fun xs hc => callW_ok (own := false) (k := 100) F515.eok mixed Go.Proofs.Tryz.func10 (by kernel_rfl) (show Go.Proofs.Tryz.f10.body = some (bodyOf Go.Proofs.Tryz.f10) by kernel_rfl) ((ofX_spec hc).1)
end Go.Proofs.YtlfdikofmfhefaaGreatDoor.Ev
set_option linter.unusedVariables false
set_option linter.unusedSimpArgs false
set_option maxRecDepth 100000
namespace Go.Proofs.YtlfdikofmfhefaaGreatDoor.Ev
open Go
noncomputable def F504.fn : Func := Go.Proofs.Tryz.f4
noncomputable def F504.E : Env := ⟨tt, [(7, h_checkX), (8, h_checkY), (9, h_wakes514), (10, h_ofX)], [(1, [1]), (2, [3]), (3, [3, 4, 5]), (4, [4, 5, 6, 7])], [], some [2], inv, []⟩
theorem F504.start_eq (k : Nat) (a0 : (List ByteArray) × ((List (List Int)) × ((List (Int × ((List Int) × ((List Int) × ((List Int) × (Int × Int)))))) × (Int × (Int × (Int × (Con × (List Int)))))))) : callW F504.E false F504.fn k [.agg [.v (.sl .str) a0.1, .v (.sl (.sl (.int .i8))) a0.2.1, .v (.sl (.pair (.int .u8) (.pair (.sl (.int .u8)) (.pair (.sl (.int .u8)) (.pair (.sl (.int .i8)) (.pair (.int .i16) (.int .u8))))))) a0.2.2.1, .v (.int .i64) a0.2.2.2.1, .v (.int .i64) a0.2.2.2.2.1, .v (.int .u8) a0.2.2.2.2.2.1, .v (.int .i64) a0.2.2.2.2.2.2.1.1, .v (.sl (.int .i64)) a0.2.2.2.2.2.2.1.2.1, .v (.sl (.int .i64)) a0.2.2.2.2.2.2.1.2.2.1, .v (.sl (.int .i64)) a0.2.2.2.2.2.2.1.2.2.2.1, .v (.sl (.int .i64)) a0.2.2.2.2.2.2.1.2.2.2.2.1, .v (.sl (.int .i64)) a0.2.2.2.2.2.2.1.2.2.2.2.2.1, .v (.int .i64) a0.2.2.2.2.2.2.1.2.2.2.2.2.2.1, .v (.sl (.sl (.int .i64))) a0.2.2.2.2.2.2.1.2.2.2.2.2.2.2, .v (.sl (.int .i64)) a0.2.2.2.2.2.2.2]] =
 bif rawB a0 then
 bif modelB (ofX a0) then
 bif modelB (ofX a0) then
 bif decide (((checkX (ofX a0)).1) = ((checkY (ofX a0)).1)) then some (.v .bool (decide (((checkX (ofX a0)).2) = ((checkY (ofX a0)).2)))) else some (.v .bool false)
 else
 none
 else
 none
 else
 none := by kernel_rfl
end Go.Proofs.YtlfdikofmfhefaaGreatDoor.Ev
set_option linter.unusedVariables false
set_option maxRecDepth 100000
namespace Go.Proofs.YtlfdikofmfhefaaGreatDoor.Ev
open Go Go.RowKit
theorem F504.sem (z : RawP) (hz : rawB z = true) : callW F504.E false F504.fn 1 [.agg (explode RawT z)] = some (.v .bool true) := by
 have hm := (ofX_spec hz).2
 refine (F504.start_eq 1 z).trans ((bT' hz).trans ((bT' hm).trans ((bT' hm).trans ?_)))
 rw [check_same]
 exact (bT' (decide_eq_true rfl)).trans (congrArg (fun b => some (AV.v .bool b)) (decide_eq_true rfl))
theorem F504.eok : EOk Go.Proofs.Tryz.prog F504.E := eo (calls_cons ok512 (calls_cons ok513 (calls_cons ok514 (calls_cons ok515 calls_nil))))
theorem law504 (z : RawP) (hz : rawB z = true) : CallSpec Go.Proofs.Tryz.prog inv 4 [.agg (explode RawT z)] (.v .bool true) := callW_ok (own := false) (k := 1) F504.eok mixed Go.Proofs.Tryz.func4 (by kernel_rfl) (show Go.Proofs.Tryz.f4.body = some (bodyOf Go.Proofs.Tryz.f4) by kernel_rfl) (F504.sem z hz)
theorem rds_str {P : Program} {t : TypeId} (ht : P.underlying t = some .string) : Rds P t .str T := fun enc w base spare held fuel cs x hx => by
 obtain ⟨s, rfl, _⟩ := DataW.trod_string ht hx
 exact ⟨s, trivial, rfl⟩
theorem rds_strs : Rds Go.Proofs.Tryz.prog 23 (.sl .str) T := rds_weak (rds_slice Go.Proofs.Tryz.underlying23 (of_decide_eq_true (by kernel_rfl)) (rds_str Go.Proofs.Tryz.underlying9)) fun _ _ => trivial
theorem rds_i8ss : Rds Go.Proofs.Tryz.prog 39 (.sl (.sl (.int .i8))) T := rds_weak (rds_slice Go.Proofs.Tryz.underlying39 (of_decide_eq_true (by kernel_rfl)) rds_i8s) fun _ _ => trivial
theorem small8_of (s : Small) (h : 0 ≤ s.1 ∧ s.1 < 256) : small8B s = true := by
 unfold small8B
 rw [decide_eq_true h.1, decide_eq_true (by omega)]
 rfl
theorem rds_smalls : Rds Go.Proofs.Tryz.prog 40 (.sl SmallT) (fun (l : List Small) => l.all small8B = true) := rds_weak (rds_slice Go.Proofs.Tryz.underlying40 (of_decide_eq_true (by kernel_rfl)) rds_small) fun (l : List Small) h => List.all_eq_true.mpr fun s hs => small8_of s (h s hs).1
theorem rds_raw : Rds Go.Proofs.Tryz.prog 42 RawT (fun (z : RawP) => rawB z = true) := rds_weak
 (rds_struct (total := 15) Go.Proofs.Tryz.underlying42 (by kernel_rfl) (rdsF_cons (by kernel_rfl) rds_strs (rdsF_cons (by kernel_rfl) rds_i8ss (rdsF_cons (by kernel_rfl) rds_smalls (rdsF_cons (by kernel_rfl) rds_i64 (rdsF_cons (by kernel_rfl) rds_i64 (rdsF_cons (by kernel_rfl) rds_u8 (rdsF_cons (by kernel_rfl) rds_con (rdsF_last (by kernel_rfl) rds_i64s)))))))))
 fun (z : RawP) h => h.2.2.1
end Go.Proofs.YtlfdikofmfhefaaGreatDoor.Ev
