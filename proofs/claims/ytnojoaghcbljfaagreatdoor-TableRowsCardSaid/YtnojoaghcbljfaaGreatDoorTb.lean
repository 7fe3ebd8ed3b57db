/-
TableRows: what its function answers.
Conditions: none.
-/
import Derived.Test.YtnojoaghcbljfaaGreatDoorDa
import Derived.Test.YtnojoaghcbljfaaGreatDoorTa
import Derived.Test.YtnojoaghcbljfaaGreatDoorCr
set_option linter.unusedVariables false
set_option linter.unusedSimpArgs false
set_option maxRecDepth 100000
namespace Go.Proofs.YtnojoaghcbljfaaGreatDoor.Ev
open Go

/-- The value at a place of the row. -/
def rowV (a : List Int) (i : Nat) : Int := if i < a.length then IntKind.i64.wrap (a.getD i 0) else 1
def rowN1 (a : List Int) (N : Nat) : List Int := (List.range N).map (rowV a)
theorem lim8r {n : Nat} (h : n ≤ 1000000) : decide ((n + 1) * 8 ≤ LIM) = true := decide_eq_true (show (n + 1) * 8 ≤ 140737488355328 by omega)
theorem F303.step (n : Nat) (K : Conts) (a : List Int) (b : Bool) (N i : Nat) (hi : i < N) (hN : N ≤ 1000) (c : Con) (l : List (List Int)) (hl : i < l.length) (acc : List Int) (hacc : acc.length ≤ 1000) :
    F303.l1_1_1_1_0_1_0 (n + 1) K a b (N : Int) (i : Int) c.1 c.2.1 c.2.2.1 c.2.2.2.1 c.2.2.2.2.1 c.2.2.2.2.2.1 c.2.2.2.2.2.2.1 c.2.2.2.2.2.2.2 l acc =
    F303.l1_1_1_1_0_1_0 n K a (b && containsL (l.getD i []) (rowV a i)) (N : Int) ((i + 1 : Nat) : Int) c.1 c.2.1 c.2.2.1 c.2.2.2.1 c.2.2.2.2.1 c.2.2.2.2.2.1 c.2.2.2.2.2.2.1 c.2.2.2.2.2.2.2 l (acc ++ [rowV a i]) := by
  have w : IntKind.i64.wrap ((i : Int) + 1) = ((i + 1 : Nat) : Int) := by rw [wrap_ok (by omega) (by omega)]; omega
  refine (F303.l1_1_1_1_0_1_0_eq n K a b _ _ c.1 c.2.1 c.2.2.1 c.2.2.2.1 c.2.2.2.2.1 c.2.2.2.2.2.1 c.2.2.2.2.2.2.1 c.2.2.2.2.2.2.2 l acc).trans ?_
  rw [w, Int.toNat_natCast]
  have lim := lim8r (n := acc.length) (by omega)
  refine (bT' (lt_nat hi)).trans ?_
  unfold rowV
  by_cases ha : i < a.length
  · rw [if_pos ha]
    refine (bT' (lt_nat ha)).trans ((bT' (in_nat ha)).trans ((bT' lim).trans ?_))
    cases b with
    | true => exact (bT' rfl).trans (bT' (in_nat hl))
    | false => exact bF' rfl
  · rw [if_neg ha]
    refine (bF' (decide_eq_false (show ¬ (i : Int) < (a.length : Int) by omega))).trans ((bT' lim).trans ?_)
    cases b with
    | true => exact (bT' rfl).trans (bT' (in_nat hl))
    | false => exact bF' rfl
theorem F303.first (k : Nat) (a : List Int) (N : Nat) (hN : N ≤ 1000) (c : Con) (l : List (List Int)) (hl : l.length = N) :
    ∀ (d i n : Nat), i + d = N → d < n →
    F303.l1_1_1_1_0_1_0 n (F303.kt k [1, 1, 1, 1, 0, 1, 0]) a ((List.range i).all fun j => containsL (l.getD j []) (rowV a j)) (N : Int) (i : Int) c.1 c.2.1 c.2.2.1 c.2.2.2.1 c.2.2.2.2.1 c.2.2.2.2.2.1 c.2.2.2.2.2.2.1 c.2.2.2.2.2.2.2 l (rowN1 a i) =
    F303.l1_1_1_1_0_1_0 (n - d) (F303.kt k [1, 1, 1, 1, 0, 1, 0]) a ((List.range N).all fun j => containsL (l.getD j []) (rowV a j)) (N : Int) (N : Int) c.1 c.2.1 c.2.2.1 c.2.2.2.1 c.2.2.2.2.1 c.2.2.2.2.2.1 c.2.2.2.2.2.2.1 c.2.2.2.2.2.2.2 l (rowN1 a N) := by
  intro d
  induction d with
  | zero =>
    intro i n h1 h2
    obtain rfl : i = N := by omega
    rfl
  | succ d ih =>
    intro i n h1 h2
    obtain ⟨n', rfl⟩ : ∃ n', n = n' + 1 := ⟨n - 1, by omega⟩
    have e1 : (((List.range i).all fun j => containsL (l.getD j []) (rowV a j)) && containsL (l.getD i []) (rowV a i)) = (List.range (i + 1)).all fun j => containsL (l.getD j []) (rowV a j) := by
      rw [List.range_succ, List.all_append]
      simp
    have e2 : rowN1 a i ++ [rowV a i] = rowN1 a (i + 1) := by
      unfold rowN1
      rw [List.range_succ, List.map_append]
      rfl
    rw [F303.step n' _ a _ N i (by omega) hN c l (by omega) _ (by unfold rowN1; simp; omega), e1, e2]
    have e3 : n' + 1 - (d + 1) = n' - d := by omega
    rw [e3]
    exact ih (i + 1) n' (by omega) (by omega)
theorem F303.inner (n : Nat) (K : Conts) (d : List Dom) (b : Bool) (e : List Dom) (i : Nat) (hi : i < e.length) (ne : nearB (e.getD i dom0).1 = true) (ls : List Int) (hl : ls.length ≤ 1000000) (hh : ∀ v ∈ ls, hasD (e.getD i dom0) v = true) (len : Int) (r : List Int) (m : Nat) (hm : ls.length < m) :
    F303.l1_1_1_1_1_1_1_1_1_1_1_0_1_0_0_1_1_0_0_1_1_1_0_1_0 m (F303.k_l1_1_1_1_1_1_1_1_1_1_1_0_1_0 n K [1, 1, 0, 0, 1, 1, 1, 0, 1, 0]) d b e (i : Int) len (i : Int) ls (ls.length : Int) 0 r =
    F303.l1_1_1_1_1_1_1_1_1_1_1_0_1_0 n K d b e len (IntKind.i64.wrap ((i : Int) + 1)) r := by
  refine pass_loop (fun m j => F303.l1_1_1_1_1_1_1_1_1_1_1_0_1_0_0_1_1_0_0_1_1_1_0_1_0 m (F303.k_l1_1_1_1_1_1_1_1_1_1_1_0_1_0 n K [1, 1, 0, 0, 1, 1, 1, 0, 1, 0]) d b e (i : Int) len (i : Int) ls (ls.length : Int) j r) ls.length 0 _ (by omega) (fun m => ?_) (fun m j _ hj => ?_) m (by omega)
  · exact (F303.l1_1_1_1_1_1_1_1_1_1_1_0_1_0_0_1_1_0_0_1_1_1_0_1_0_eq m _ d b e _ len _ ls _ _ r).trans (self_lt.trans (F303.c4 n K d b e len (i : Int) r))
  · refine (F303.l1_1_1_1_1_1_1_1_1_1_1_0_1_0_0_1_1_0_0_1_1_1_0_1_0_eq m _ d b e _ len _ ls _ _ r).trans ((bT' (lt_nat hj)).trans ((bT' (in_nat hj)).trans ((bT' (in_nat hi)).trans ?_)))
    rw [Int.toNat_natCast, Int.toNat_natCast]
    refine (bT' ne).trans (bF' ?_)
    have : hasD (e.getD i dom0) (ls.getD j 0) = true := hh _ (getD_mem hj 0)
    show (!(hasD (e.getD i dom0) (ls.getD j 0))) = false
    rw [this]
    rfl
theorem F303.outer (k : Nat) (hk : 1001002 < k) (d : List Dom) (b : Bool) (e : List Dom) (r : List Int) (hr : r.length ≤ 1000) (he : e.length = r.length) (ne : ∀ x ∈ e, nearB x.1 = true) (hh : ∀ i, i < r.length → hasD (e.getD i dom0) (r.getD i 0) = true)
    (hd : b = true → d.length = r.length ∧ (∀ x ∈ d, listB x = true ∧ (listD x).length ≤ 1000000) ∧ ∀ i v, i < r.length → v ∈ listD (d.getD i dom0) → hasD (e.getD i dom0) v = true) :
    F303.l1_1_1_1_1_1_1_1_1_1_1_0_1_0 k (F303.kt k [1, 1, 1, 1, 1, 1, 1, 1, 1, 1, 1, 0, 1, 0]) d b e (r.length : Int) 0 r = some (.v .bool true) := by
  refine pass_loop (fun m i => F303.l1_1_1_1_1_1_1_1_1_1_1_0_1_0 m (F303.kt k [1, 1, 1, 1, 1, 1, 1, 1, 1, 1, 1, 0, 1, 0]) d b e (r.length : Int) i r) r.length 1000001 _ (by omega) (fun m => ?_) (fun m i hm hi => ?_) k (by omega)
  · exact (F303.l1_1_1_1_1_1_1_1_1_1_1_0_1_0_eq m _ d b e _ _ r).trans (self_lt.trans (F303.c2 k))
  · have hie : i < e.length := by omega
    have n1 := ne _ (getD_mem hie dom0)
    refine (F303.l1_1_1_1_1_1_1_1_1_1_1_0_1_0_eq m _ d b e _ _ r).trans ((bT' (lt_nat hi)).trans ((bT' (in_nat hi)).trans ((bT' (in_nat hie)).trans ?_)))
    rw [Int.toNat_natCast]
    refine (bT' n1).trans ((bF' (show (!(hasD (e.getD i dom0) (r.getD i 0))) = false by rw [hh i hi]; rfl)).trans ?_)
    cases b with
    | false => exact bF' rfl
    | true =>
      obtain ⟨h1, h2, h3⟩ := hd rfl
      have hid : i < d.length := by omega
      obtain ⟨g1, g2⟩ := h2 _ (getD_mem hid dom0)
      refine (bT' rfl).trans ((bT' (in_nat hid)).trans ((bT' g1).trans ?_))
      exact F303.inner m _ d true e i hie n1 (listD (d.getD i dom0)) g2 (fun v hv => h3 i v hi hv) _ r m (by omega)
theorem rows_flag {a : List Int} {l : List (List Int)} : ((List.range l.length).all fun j => containsL (l.getD j []) (rowV a j)) = true ↔ InP (rowN1 a l.length) l := by
  have hlen : (rowN1 a l.length).length = l.length := by unfold rowN1; simp
  have hget : ∀ i, i < l.length → (rowN1 a l.length).getD i 0 = rowV a i := fun i hi => by
    unfold rowN1
    rw [List.getD_eq_getElem?_getD, List.getElem?_map, List.getElem?_range hi]
    rfl
  rw [List.all_eq_true]
  constructor
  · intro h
    refine F2.ofD 0 [] hlen fun i hi => ?_
    rw [hlen] at hi
    have := h i (List.mem_range.mpr hi)
    rw [contains_mem] at this
    rw [hget i hi]
    exact of_decide_eq_true this
  · intro h i hi
    have hi := List.mem_range.mp hi
    rw [contains_mem, ← hget i hi]
    exact decide_eq_true (h.getD (by rw [hlen]; exact hi) 0 [])
theorem F303.sem (k : Nat) (hk : 1002003 < k) (z : Case) (a : List Int) (hm : makeAB z 18 5 = true) (hb : (makeAC z 18).2.2.1 = []) (hN : (makeAL z 18 5).length = (makeAC z 18).2.1.length) (hN2 : (makeAC z 18).2.1.length ≤ 1000)
    (hr1 : 1 ≤ (makeAC z 18).2.2.2.2.2.2.2.length) (hr2 : (makeAC z 18).2.2.2.2.2.2.2.length ≤ 1000) (g : RowsN (makeAC z 18) (rowN1 a (makeAL z 18 5).length) (makeAL z 18 5)) :
    callW F303.E false F303.fn k [.agg (explode CaseT z), .v (.sl (.int .i8)) a] = some (.v .bool true) := by
  have st := (F303.start_eq k z a).trans (bT' hm)
  generalize makeAC z 18 = c at st hb hN hN2 hr1 hr2 g
  generalize makeAL z 18 5 = l at st hN g
  have f := F303.first k a c.2.1.length hN2 c l hN c.2.1.length 0 k (by omega) (by omega)
  have st2 := st.trans f
  obtain ⟨q, hq⟩ : ∃ q, k - c.2.1.length = q + 1 := ⟨k - c.2.1.length - 1, by omega⟩
  rw [hq] at st2
  refine (st2.trans ((F303.l1_1_1_1_0_1_0_eq q _ a _ _ _ c.1 c.2.1 c.2.2.1 c.2.2.2.1 c.2.2.2.2.1 c.2.2.2.2.2.1 c.2.2.2.2.2.2.1 c.2.2.2.2.2.2.2 l _).trans (self_lt'.trans (F303.c0 k _ c.1 c.2.1 c.2.2.1 c.2.2.2.1 c.2.2.2.2.1 c.2.2.2.2.2.1 c.2.2.2.2.2.2.1 c.2.2.2.2.2.2.2 l _)))).trans ?_
  have cl : cloneB c.2.2.2.2.2.2.2 = true := by
    unfold cloneB
    rw [Bool.and_eq_true, Nat.ble_eq, decide_eq_false (by omega)]
    exact ⟨rfl, by omega⟩
  have lim : decide ((c.2.2.2.2.2.2.2.length + 2) * 24 ≤ LIM) = true := decide_eq_true (show (c.2.2.2.2.2.2.2.length + 2) * 24 ≤ 140737488355328 by omega)
  have flag := rows_flag (a := a) (l := l)
  rw [← hN]
  generalize hfl : ((List.range l.length).all fun j => containsL (l.getD j []) (rowV a j)) = fl at flag
  have hrl : (rowN1 a l.length).length = l.length := by unfold rowN1; simp
  generalize rowN1 a l.length = r at g flag hrl ⊢
  refine (bT' g.le).trans ((bT' g.f1).trans ((bT' cl).trans ((bT' (decide_eq_true (show (0 : Int) < (c.2.2.2.2.2.2.2.length : Int) by omega))).trans ((bT' lim).trans ((bT' g.le).trans ((bT' g.f2).trans ?_))))))
  cases fl with
  | false =>
    have hn : ¬ InP r l := fun h => by have := flag.mpr h; cases this
    obtain ⟨h1, h2⟩ := g.no hn
    have e1 : ((tableF c (domsL l)).2 == (tableF (moreC c r) (domsL l)).2) = true := by rw [h1]; cases (tableF (moreC c r) (domsL l)).2 <;> rfl
    refine (bT' rfl).trans ((bT' e1).trans ((bT' g.b1).trans ((bT' g.b2).trans ((bT' g.b3).trans ?_))))
    have e2 : sameL (listsL (tableF c (domsL l)).1) (listsL (tableF (moreC c r) (domsL l)).1) = true := by
      rw [h2]
      unfold sameL
      exact decide_eq_true rfl
    exact congrArg (fun x => some (AV.v .bool x)) e2
  | true =>
    have hi : InP r l := flag.mp rfl
    obtain ⟨h1, h2⟩ := g.len hi
    refine (bF' rfl).trans ((bF' (show (!((tableF (moreC c r) (domsL l)).2)) = false by rw [h1]; rfl)).trans ((bF' (show (!(decide (((tableF (moreC c r) (domsL l)).1.length : Int) = (l.length : Int)))) = false by rw [h2, decide_eq_true rfl]; rfl)).trans ?_))
    have lb := g.b1
    rw [Bool.and_eq_true, List.all_eq_true] at lb
    refine F303.outer k (by omega) _ _ _ r (by omega) (by rw [hrl]; exact h2) g.near (fun i hi2 => g.has hi i (by omega)) fun hb2 => ⟨by rw [hrl]; exact g.len1 hb2, fun x hx => ⟨lb.2 x hx, g.small x hx⟩, fun i v hi2 hv => g.sub hi hb2 i v (by omega) hv⟩
end Go.Proofs.YtnojoaghcbljfaaGreatDoor.Ev
