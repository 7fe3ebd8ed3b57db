/-
The laws of linear constraints: values that are fixed; what is kept.
Conditions: none.
The laws of linear constraints.
Conditions: none.
-/
import Derived.Test.YtnojoaghcbljfaaGreatDoorNq
import Derived.Test.YtnojoaghcbljfaaGreatDoorNi
import Derived.Test.YtnojoaghcbljfaaGreatDoorCg
set_option linter.unusedVariables false
set_option linter.unusedSimpArgs false
set_option maxRecDepth 100000
namespace Go.Proofs.YtnojoaghcbljfaaGreatDoor.Ev
open Go Go.RowKit
def fixU (a : List Int) (i : Int) : Int := if i < a.length then IntKind.i64.wrap (a.getD i.toNat 0) else 1
theorem fix_loopU (L : Nat → Int → List (List Int) → List Int → Option AV) (a : List Int) (N : Nat) (hN : N ≤ 1000) (X : List (List Int) → List Int → Option AV)
  (hL : ∀ n i l v, L (n + 1) i l v = bif decide (i < (N : Int)) then
   bif decide (i < (a.length : Int)) then
    bif decide (0 ≤ i) && decide (i < (a.length : Int)) then
     bif decide ((l.length + [[IntKind.i64.wrap (a.getD i.toNat (0 : Int))]].length) * 24 ≤ LIM) then
      bif decide ((v.length + [IntKind.i64.wrap (a.getD i.toNat (0 : Int))].length) * 8 ≤ LIM) then
       L n (IntKind.i64.wrap (i + 1)) (l ++ [[IntKind.i64.wrap (a.getD i.toNat (0 : Int))]]) (v ++ [IntKind.i64.wrap (a.getD i.toNat (0 : Int))])
      else none
     else none
    else none
   else
    bif decide ((l.length + [[1]].length) * 24 ≤ LIM) then
     bif decide ((v.length + [1].length) * 8 ≤ LIM) then
      L n (IntKind.i64.wrap (i + 1)) (l ++ [[1]]) (v ++ [1])
     else none
    else none
   else X l v) (n : Nat) (hn : N < n) : L n 0 [] [] = X (ones ((List.range N).map fun (i : Nat) => fixU a i)) ((List.range N).map fun (i : Nat) => fixU a i) := by
 have step : ∀ (n i : Nat) (l : List (List Int)) (v : List Int), i < N → l.length ≤ 1000 → v.length ≤ 1000 → L (n + 1) (i : Int) l v = L n ((i + 1 : Nat) : Int) (l ++ [[fixU a (i : Int)]]) (v ++ [fixU a (i : Int)]) := by
  intro n i l v hi hl hv
  have w : IntKind.i64.wrap ((i : Int) + 1) = ((i + 1 : Nat) : Int) := by rw [wrap_ok (by omega) (by omega)]; omega
  have c1 : decide ((i : Int) < (N : Int)) = true := decide_eq_true (by omega)
  have l1 : ∀ y : List Int, decide ((l.length + [y].length) * 24 ≤ LIM) = true := fun y => decide_eq_true (show (l.length + 1) * 24 ≤ 140737488355328 by omega)
  have l2 : ∀ y : Int, decide ((v.length + [y].length) * 8 ≤ LIM) = true := fun y => decide_eq_true (show (v.length + 1) * 8 ≤ 140737488355328 by omega)
  have l3 : decide ((l.length + [[(1 : Nat)]].length) * 24 ≤ LIM) = true := decide_eq_true (show (l.length + 1) * 24 ≤ 140737488355328 by omega)
  have l4 : decide ((v.length + [(1 : Nat)].length) * 8 ≤ LIM) = true := decide_eq_true (show (v.length + 1) * 8 ≤ 140737488355328 by omega)
  rw [hL, c1, w]
  unfold fixU
  by_cases ha : (i : Int) < (a.length : Int)
  ·rw [decide_eq_true ha, l1, l2, if_pos ha, decide_eq_true (show (0 : Int) ≤ (i : Int) by omega)]
   rfl
  ·rw [decide_eq_false ha, l3, l4, if_neg ha]
   rfl
 have key : ∀ (d i n : Nat), i + d = N → d < n → L n (i : Int) (ones ((List.range i).map fun (i : Nat) => fixU a i)) ((List.range i).map fun (i : Nat) => fixU a i) = X (ones ((List.range N).map fun (i : Nat) => fixU a i)) ((List.range N).map fun (i : Nat) => fixU a i) := by
  intro d
  induction d with
  | zero =>
   intro i n h1 h2
   obtain ⟨n', rfl⟩ : ∃ n', n = n' + 1 := ⟨n - 1, by omega⟩
   obtain rfl : i = N := by omega
   rw [hL]
   exact self_lt
  | succ d ih =>
   intro i n h1 h2
   obtain ⟨n', rfl⟩ : ∃ n', n = n' + 1 := ⟨n - 1, by omega⟩
   rw [step n' i _ _ (by omega) (by simp; omega) (by simp; omega)]
   have e2 : ((List.range i).map fun (i : Nat) => fixU a i) ++ [fixU a (i : Int)] = (List.range (i + 1)).map fun (i : Nat) => fixU a i := by
    rw [List.range_succ, List.map_append]
    rfl
   have e3 : ones ((List.range i).map fun (i : Nat) => fixU a i) ++ [[fixU a (i : Int)]] = ones ((List.range (i + 1)).map fun (i : Nat) => fixU a i) := by
    rw [← e2]
    unfold ones
    rw [List.map_append]
    rfl
   rw [e2, e3]
   exact ih (i + 1) n' (by omega) (by omega)
 exact key N 0 n (by omega) hn
theorem fix_nearU {a : List Int} (h : I8s a) (N : Nat) : ∀ x ∈ (List.range N).map fun (i : Nat) => fixU a i, -1000 ≤ x ∧ x ≤ 1000 := by
 intro x hx
 obtain ⟨i, hi, rfl⟩ := List.mem_map.mp hx
 unfold fixU
 split
 ·rename_i h1
  have hm : a.getD (i : Int).toNat 0 ∈ a := getD_memD (by omega) 0
  have := h _ hm
  rw [wrap_ok (by omega) (by omega)]
  omega
 ·omega
structure FixL (c : Con) (v : List Int) : Prop where
  f1 : linFB c (domsL (ones v)) = true
  hb : holdsB (localC c) v = true
  ok : (linF c (domsL (ones v))).2 = holdsC (localC c) v
  lb : (Nat.ble (linF c (domsL (ones v))).1.length 1000 && (linF c (domsL (ones v))).1.all listB) = true
  ll : (Nat.ble (listsL (linF c (domsL (ones v))).1).length 1000 && lensB (listsL (linF c (domsL (ones v))).1)) = true
  same : (linF c (domsL (ones v))).2 = true → listsL (linF c (domsL (ones v))).1 = ones v
theorem onesl_len (v : List Int) : (ones v).length = v.length := by unfold ones; simp
theorem ones_one (v : List Int) : One (ones v) := fun x hx => by
 obtain ⟨y, _, rfl⟩ := List.mem_map.mp hx
 rfl
theorem fix_ok {c : Con} (h : MadeL c) {v : List Int} (hl : v.length = c.2.1.length + c.2.2.1.length) (hv : ∀ x ∈ v, -1000 ≤ x ∧ x ≤ 1000) : FixL c v := by
 have h5 := h.few
 have ok : ∀ x ∈ ones v, okL x = true ∧ Rising x := fun x hx => ⟨(ones_ok hv x hx).1, (ones_ok hv x hx).2.1⟩
 have hf : fitsD c (domsL (ones v)) 1 4 = true := fits_made h (by rw [onesl_len]; exact hl) fun x hx => (ok x hx).1
 have ht : tot (ones v) < 100000 := by
  have := tot_small (m := 1) (l := ones v) fun x hx => Nat.le_of_eq (ones_one v x hx)
  rw [onesl_len] at this
  omega
 obtain ⟨g, yes, L, F, _⟩ := lf_fits hf ok (by rw [onesl_len]; omega) ht
 obtain ⟨hB, hC⟩ := holds_lin F hl fun x hx => by
  have := hv x hx
  rw [mill_iff]
  omega
 have hin : InP v (ones v) := ones_in.mpr rfl
 refine ⟨g.f1, hB, ?_, g.lb, g.ll, fun h2 => ?_⟩
 ·rw [g.ok]
  cases hq : (linR c (ones v)).2 with
  | true => exact (hC.mpr (L.one hq (ones_one v) v hin)).symm
  | false =>
   cases hc : holdsC (localC c) v with
   | false => rfl
   | true => exact absurd (hC.mp hc) (L.no hq v hin)
 ·rw [g.ok] at h2
  obtain ⟨y1, y2⟩ := yes h2
  rw [y2]
  have e := L.len h2
  have kp := L.keep h2 v hin (L.one h2 (ones_one v) v hin)
  have hr := y1.rs
  rw [y2] at hr
  refine List.ext_getElem e fun i h1 h3 => ?_
  have hi : i < (ones v).length := h3
  have hiv : i < v.length := by rw [onesl_len] at hi; exact hi
  have e1 := getD_get (d := ([] : List Int)) h1
  have e2 := getD_get (d := ([] : List Int)) h3
  rw [← e1, ← e2]
  have r1 := (hr _ (getD_memD h1 [])).2
  refine rising_ext r1 (ok _ (getD_memD h3 [])).2 fun x => ⟨L.sub h2 i x hi, fun hx => ?_⟩
  rw [ones_get hiv] at hx
  rw [List.mem_singleton.mp hx]
  exact kp.getD hiv 0 []
theorem F311.fixed (n : Nat) (a : List Int) (c : Con) (N : Nat) (hN : N ≤ 1000) (hn : N < n) (g : FixL c ((List.range N).map fun (i : Nat) => fixU a i)) :
  F311.l1_1_1_1_1_1_0_1_0 n (F311.kt n [1, 1, 1, 1, 1, 1, 0, 1, 0]) a (N : Int) 0 c.1 c.2.1 c.2.2.1 c.2.2.2.1 c.2.2.2.2.1 c.2.2.2.2.2.1 c.2.2.2.2.2.2.1 c.2.2.2.2.2.2.2 (localC c).1 (localC c).2.1 (localC c).2.2.1 (localC c).2.2.2.1 (localC c).2.2.2.2.1 (localC c).2.2.2.2.2.1 (localC c).2.2.2.2.2.2.1 (localC c).2.2.2.2.2.2.2 [] [] = some (.v .bool true) := by
 refine (fix_loopU (fun m i l v => F311.l1_1_1_1_1_1_0_1_0 m (F311.kt n [1, 1, 1, 1, 1, 1, 0, 1, 0]) a (N : Int) i c.1 c.2.1 c.2.2.1 c.2.2.2.1 c.2.2.2.2.1 c.2.2.2.2.2.1 c.2.2.2.2.2.2.1 c.2.2.2.2.2.2.2 (localC c).1 (localC c).2.1 (localC c).2.2.1 (localC c).2.2.2.1 (localC c).2.2.2.2.1 (localC c).2.2.2.2.2.1 (localC c).2.2.2.2.2.2.1 (localC c).2.2.2.2.2.2.2 l v) a N hN _ (fun m i l v => F311.l1_1_1_1_1_1_0_1_0_eq m _ a (N : Int) i _ _ _ _ _ _ _ _ _ _ _ _ _ _ _ _ l v) n hn).trans ?_
 have hlv : ((List.range N).map fun (i : Nat) => fixU a i).length ≤ 1000 := by simp; exact hN
 generalize ((List.range N).map fun (i : Nat) => fixU a i) = v at g hlv ⊢
 refine (F311.c0 n _ _ _ _ _ _ _ _ _ _ _ _ _ _ _ _ (ones v) v).trans ?_
 have ee : (c.1, (c.2.1, (c.2.2.1, (c.2.2.2.1, (c.2.2.2.2.1, (c.2.2.2.2.2.1, (c.2.2.2.2.2.2.1, c.2.2.2.2.2.2.2))))))) = c := rfl
 have el : ((localC c).1, ((localC c).2.1, ((localC c).2.2.1, ((localC c).2.2.2.1, ((localC c).2.2.2.2.1, ((localC c).2.2.2.2.2.1, ((localC c).2.2.2.2.2.2.1, (localC c).2.2.2.2.2.2.2))))))) = localC c := rfl
 rw [ee, el]
 refine bfix (by rw [Nat.ble_eq, onesl_len]; exact hlv) g.f1 g.hb ?_ fun ht => ⟨g.lb, g.ll, ?_⟩
 ·rw [g.ok]
  cases holdsC (localC c) v <;> rfl
 ·rw [g.same ht]
  unfold sameL
  rw [decide_eq_true rfl]
theorem F311.sem (k : Nat) (hk : 1001 < k) (z : Small) (n : Int) (a : List Int) (h0 : 0 ≤ n) (hz : U8s z.2.1 ∧ U8s z.2.2.1) (ha : I8s a) :
  callW F311.E false F311.fn k [.agg (explode SmallT z), .v (.int .u8) n, .v (.sl (.int .i8)) a] = some (.v .bool true) := by
 refine (F311.start_eq k z n a).trans ?_
 have m0 : 0 ≤ n.tmod 4 := Int.tmod_nonneg _ h0
 have m1 : n.tmod 4 ≤ 3 := by have := Int.tmod_lt_of_pos n (show (0 : Int) < 4 by omega); omega
 have hc := con_ab4 (z := z.2) m0 m1
 have hm := fix_lin m0 m1 hz
 generalize conA (n.tmod 4, z.2) 4 = c at hm ⊢
 have h5 := hm.few
 refine (bT hc).trans ((bT (local_lin hm)).trans ?_)
 have hlen : IntKind.i64.wrap ((c.2.1.length : Int) + (c.2.2.1.length : Int)) = ((c.2.1.length + c.2.2.1.length : Nat) : Int) := by
  rw [wrap_ok (by omega) (by omega)]
  omega
 rw [hlen]
 exact F311.fixed k a c _ (by omega) (by omega) (fix_ok hm (by simp) (fix_nearU ha _))
def oneAt (l : List (List Int)) (i : Nat) : Bool := (l.take i).all fun x => decide ((x.length : Int) = 1)
theorem oneAt_succ {l : List (List Int)} {i : Nat} (h : i < l.length) : oneAt l (i + 1) = (oneAt l i && decide (((l.getD i []).length : Int) = 1)) := by
 unfold oneAt
 rw [List.take_add_one, List.all_append, List.getD_eq_getElem?_getD, List.getElem?_eq_getElem h]
 simp
theorem oneAt_all (l : List (List Int)) : oneAt l l.length = true → One l := fun h => by
 unfold oneAt at h
 rw [List.take_length, List.all_eq_true] at h
 intro x hx
 have := of_decide_eq_true (h x hx)
 omega
theorem F312.inner1 (n : Nat) (K : Conts) (rows : List (List Int)) (d : List Dom) (one : Bool) (x : List Int) (len i : Int) (ls : List Int) (c : Con) (l : List (List Int)) (hl : ls.length ≤ 1000000) (h : ∀ v ∈ ls, v ∈ x) (m : Nat) (hm : ls.length < m) :
  F312.l1_1_1_1_1_1_1_1_0_1_0_0_1_1_0_0_1_1_1_0 m (F312.k_l1_1_1_1_1_1_1_1_0_1_0 n K [1, 1, 0, 0, 1, 1, 1, 0]) rows d one x len i ls (ls.length : Int) 0 c.1 c.2.1 c.2.2.1 c.2.2.2.1 c.2.2.2.2.1 c.2.2.2.2.2.1 c.2.2.2.2.2.2.1 c.2.2.2.2.2.2.2 l = F312.l1_1_1_1_1_1_1_1_0_1_0 n K rows d one len (IntKind.i64.wrap (i + 1)) c.1 c.2.1 c.2.2.1 c.2.2.2.1 c.2.2.2.2.1 c.2.2.2.2.2.1 c.2.2.2.2.2.2.1 c.2.2.2.2.2.2.2 l := by
 refine pass_loop (fun m j => F312.l1_1_1_1_1_1_1_1_0_1_0_0_1_1_0_0_1_1_1_0 m (F312.k_l1_1_1_1_1_1_1_1_0_1_0 n K [1, 1, 0, 0, 1, 1, 1, 0]) rows d one x len i ls (ls.length : Int) j c.1 c.2.1 c.2.2.1 c.2.2.2.1 c.2.2.2.2.1 c.2.2.2.2.2.1 c.2.2.2.2.2.2.1 c.2.2.2.2.2.2.2 l) ls.length 0 _ (by omega) (fun m => ?_) (fun m j _ hj => ?_) m (by omega)
 ·exact (F312.l1_1_1_1_1_1_1_1_0_1_0_0_1_1_0_0_1_1_1_0_eq m _ rows d one x len i ls _ _ _ _ _ _ _ _ _ _ _).trans (self_lt.trans (F312.c2 n K rows d one len i _ _ _ _ _ _ _ _ l))
 ·refine (F312.l1_1_1_1_1_1_1_1_0_1_0_0_1_1_0_0_1_1_1_0_eq m _ rows d one x len i ls _ _ _ _ _ _ _ _ _ _ _).trans (bst3 (lt_nat hj) (in_nat hj) ?_)
  rw [contains_mem, Int.toNat_natCast]
  exact decide_eq_true (h _ (getD_mem hj 0))
theorem F312.outer1 (k : Nat) (hk : 2000000 ≤ k) (rows : List (List Int)) (c : Con) (d : List Dom) (l : List (List Int)) (hl : l.length ≤ 1000) (hd : d.length = l.length) (lb : ∀ x ∈ d, listB x = true ∧ (listD x).length ≤ 1000000) (sub : ∀ i v, i < l.length → v ∈ listD (d.getD i dom0) → v ∈ l.getD i []) :
  F312.l1_1_1_1_1_1_1_1_0_1_0 k (F312.kt k [1, 1, 1, 1, 1, 1, 1, 1, 0, 1, 0]) rows d true (l.length : Int) 0 c.1 c.2.1 c.2.2.1 c.2.2.2.1 c.2.2.2.2.1 c.2.2.2.2.2.1 c.2.2.2.2.2.2.1 c.2.2.2.2.2.2.2 l = F312.l1_1_1_1_1_1_1_1_1_0_1_0 k (F312.kt k [1, 1, 1, 1, 1, 1, 1, 1, 1, 0, 1, 0]) rows d (oneAt l l.length) rows (rows.length : Int) 0 c.1 c.2.1 c.2.2.1 c.2.2.2.1 c.2.2.2.2.1 c.2.2.2.2.2.1 c.2.2.2.2.2.2.1 c.2.2.2.2.2.2.2 := by
 refine pass_loop (fun m i => F312.l1_1_1_1_1_1_1_1_0_1_0 m (F312.kt k [1, 1, 1, 1, 1, 1, 1, 1, 0, 1, 0]) rows d (oneAt l i.toNat) (l.length : Int) i c.1 c.2.1 c.2.2.1 c.2.2.2.1 c.2.2.2.2.1 c.2.2.2.2.2.1 c.2.2.2.2.2.2.1 c.2.2.2.2.2.2.2 l) l.length 1000001 _ (by omega) (fun m => ?_) (fun m i hm hi => ?_) k (by omega)
 ·rw [Int.toNat_natCast]
  exact (F312.l1_1_1_1_1_1_1_1_0_1_0_eq m _ rows _ _ _ _ _ _ _ _ _ _ _ _ _).trans (self_lt.trans (F312.c0 k rows _ _ _ _ _ _ _ _ _ _))
 ·have hid : i < d.length := by omega
  have hmem : d.getD i dom0 ∈ d := getD_mem hid dom0
  obtain ⟨h1, h2⟩ := lb _ hmem
  have ew : (IntKind.i64.wrap ((i : Int) + 1)).toNat = i + 1 := by rw [wrap_ok (by omega) (by omega)]; omega
  have inn := fun (one : Bool) => F312.inner1 m (F312.kt k [1, 1, 1, 1, 1, 1, 1, 1, 0, 1, 0]) rows d one (l.getD i []) (l.length : Int) (i : Int) (listD (d.getD i dom0)) c l h2 (fun v hv => sub i v hi hv) m (by omega)
  show _ = F312.l1_1_1_1_1_1_1_1_0_1_0 m _ rows d (oneAt l (IntKind.i64.wrap ((i : Int) + 1)).toNat) _ _ _ _ _ _ _ _ _ _ l
  rw [ew, oneAt_succ hi, Int.toNat_natCast]
  refine (F312.l1_1_1_1_1_1_1_1_0_1_0_eq m _ rows _ _ _ _ _ _ _ _ _ _ _ _ _).trans ((bT (lt_nat hi)).trans ((bT (in_nat hi)).trans ?_))
  cases oneAt l i with
  | true =>
   refine (bT rfl).trans ((bT (in_nat hid)).trans ((bT (by rw [Int.toNat_natCast]; exact h1)).trans ?_))
   rw [Int.toNat_natCast]
   exact inn _
  | false =>
   refine (bF rfl).trans ((bT (in_nat hid)).trans ((bT (by rw [Int.toNat_natCast]; exact h1)).trans ?_))
   rw [Int.toNat_natCast]
   exact inn _
theorem F312.inner2 (n : Nat) (K : Conts) (all : List (List Int)) (d : List Dom) (one : Bool) (rows : List (List Int)) (len i : Int) (r : List Int) (hr : r.length ≤ d.length) (hl : r.length ≤ 1000) (nb : ∀ x ∈ d, listB x = true) (has : ∀ i, i < r.length → hasD (d.getD i dom0) (r.getD i 0) = true) (c : Con) (m : Nat) (hm : 1001 < m) :
  F312.l1_1_1_1_1_1_1_1_1_0_1_0_0_1_1_0_0_1_1_0 m (F312.k_l1_1_1_1_1_1_1_1_1_0_1_0 n K [1, 1, 0, 0, 1, 1, 0]) all d one rows len i r (r.length : Int) 0 c.1 c.2.1 c.2.2.1 c.2.2.2.1 c.2.2.2.2.1 c.2.2.2.2.2.1 c.2.2.2.2.2.2.1 c.2.2.2.2.2.2.2 = F312.l1_1_1_1_1_1_1_1_1_0_1_0 n K all d one rows len (IntKind.i64.wrap (i + 1)) c.1 c.2.1 c.2.2.1 c.2.2.2.1 c.2.2.2.2.1 c.2.2.2.2.2.1 c.2.2.2.2.2.2.1 c.2.2.2.2.2.2.2 := by
 refine pass_loop (fun m j => F312.l1_1_1_1_1_1_1_1_1_0_1_0_0_1_1_0_0_1_1_0 m (F312.k_l1_1_1_1_1_1_1_1_1_0_1_0 n K [1, 1, 0, 0, 1, 1, 0]) all d one rows len i r (r.length : Int) j c.1 c.2.1 c.2.2.1 c.2.2.2.1 c.2.2.2.2.1 c.2.2.2.2.2.1 c.2.2.2.2.2.2.1 c.2.2.2.2.2.2.2) r.length 0 _ (by omega) (fun m => ?_) (fun m j _ hj => ?_) m (by omega)
 ·exact (F312.l1_1_1_1_1_1_1_1_1_0_1_0_0_1_1_0_0_1_1_0_eq m _ all d one rows len i r _ _ _ _ _ _ _ _ _ _).trans (self_lt.trans (F312.c6 n K all d one rows len i _ _ _ _ _ _ _ _))
 ·have hjd : j < d.length := by omega
  refine (F312.l1_1_1_1_1_1_1_1_1_0_1_0_0_1_1_0_0_1_1_0_eq m _ all d one rows len i r _ _ _ _ _ _ _ _ _ _).trans (bst5' (lt_nat hj) (in_nat hj) (in_nat hjd) ?_ ?_)
  ·rw [Int.toNat_natCast]
   exact listB_near (nb _ (getD_mem hjd dom0))
  ·rw [Int.toNat_natCast]
   exact has j hj
theorem F312.outer2 (k : Nat) (hk : 2000000 ≤ k) (c : Con) (d : List Dom) (one : Bool) (rows : List (List Int)) (hl : rows.length ≤ 100000) (nb : ∀ x ∈ d, listB x = true) (hr : ∀ r ∈ rows, r.length ≤ d.length ∧ r.length ≤ 1000 ∧ ∀ i, i < r.length → hasD (d.getD i dom0) (r.getD i 0) = true)
  (h1 : one = true → rows.length = 1) (hX : (bif linFB c d then bif (linF c d).2 then bif Nat.ble ((linF c d).1).length 1000 && ((linF c d).1).all listB then bif Nat.ble d.length 1000 && d.all listB then bif Nat.ble (listsL ((linF c d).1)).length 1000 && lensB (listsL ((linF c d).1)) then some (AV.v .bool (sameL (listsL ((linF c d).1)) (listsL d))) else none else none else none else some (AV.v .bool false) else none) = some (AV.v .bool true)) :
  F312.l1_1_1_1_1_1_1_1_1_0_1_0 k (F312.kt k [1, 1, 1, 1, 1, 1, 1, 1, 1, 0, 1, 0]) rows d one rows (rows.length : Int) 0 c.1 c.2.1 c.2.2.1 c.2.2.2.1 c.2.2.2.2.1 c.2.2.2.2.2.1 c.2.2.2.2.2.2.1 c.2.2.2.2.2.2.2 = some (.v .bool true) := by
 refine pass_loop (fun m i => F312.l1_1_1_1_1_1_1_1_1_0_1_0 m (F312.kt k [1, 1, 1, 1, 1, 1, 1, 1, 1, 0, 1, 0]) rows d one rows (rows.length : Int) i c.1 c.2.1 c.2.2.1 c.2.2.2.1 c.2.2.2.2.1 c.2.2.2.2.2.1 c.2.2.2.2.2.2.1 c.2.2.2.2.2.2.2) rows.length 1002 _ (by omega) (fun m => ?_) (fun m i hm hi => ?_) k (by omega)
 ·refine (F312.l1_1_1_1_1_1_1_1_1_0_1_0_eq m _ _ _ _ rows _ _ _ _ _ _ _ _ _ _).trans (self_lt.trans ((F312.c4 k rows d one c.1 c.2.1 c.2.2.1 c.2.2.2.1 c.2.2.2.2.1 c.2.2.2.2.2.1 c.2.2.2.2.2.2.1 c.2.2.2.2.2.2.2).trans ?_))
  cases one with
  | true =>
   have := h1 rfl
   exact (bT rfl).trans ((bF (by rw [decide_eq_true (show (rows.length : Int) = 1 by omega)]; rfl)).trans hX)
  | false => exact (bF rfl).trans hX
 ·refine (F312.l1_1_1_1_1_1_1_1_1_0_1_0_eq m _ _ _ _ rows _ _ _ _ _ _ _ _ _ _).trans ((bst2 (lt_nat hi) (in_nat hi)).trans ?_)
  rw [Int.toNat_natCast]
  obtain ⟨h1, h2, h3⟩ := hr _ (getD_mem hi [])
  exact F312.inner2 m _ rows d one rows _ _ (rows.getD i []) h1 h2 nb h3 c m (by omega)
theorem G.has {d : Dom} (h : G d) {v : Int} (hv : v ∈ listD d) : hasD d v = true := by
 rw [hasD_mem h.made.wf, h.inn v hv, ((listD_mem h.made.wf).1 v).mp hv]
 rfl
theorem prodN_one : ∀ {l : List (List Int)}, One l → prodN l = 1
 | [], _ => rfl
 | x :: l, h => by
  have h1 := h x List.mem_cons_self
  have h2 := prodN_one (l := l) fun y hy => h y (List.mem_cons_of_mem _ hy)
  show x.length * prodN l = 1
  rw [h1, h2]
theorem F312.sem (k : Nat) (hk : 2000000 ≤ k) (z : Case) (n : Int) (h0 : 0 ≤ n) (hz : U8s z.1.2.1 ∧ U8s z.1.2.2.1) : callW F312.E false F312.fn k [.agg (explode CaseT z), .v (.int .u8) n] = some (.v .bool true) := by
 obtain ⟨q1, q2⟩ := kindL_range h0
 have hm : makeAB z (kindL n) 9 = true := make_ab q1 (by omega) (by omega) (by omega)
 have hD := makeA_doms (z := z) q1 (by omega) 9 (by omega)
 have hM := make_lin z hz q1 q2
 have hall := makeA_all z (kindL n) 9
 refine (F312.start_eq k z n).trans ?_
 rw [show IntKind.i64.wrap (1 + IntKind.i64.wrap (n.tmod 4)) = kindL n from rfl]
 refine (bT hm).trans ?_
 generalize makeAC z (kindL n) = c at hM hall ⊢
 generalize makeAL z (kindL n) 9 = l at hD hall ⊢
 have ok : ∀ x ∈ l, okL x = true ∧ Rising x := fun x hx => ⟨hD.ok (by omega) x hx, (hD.dom x hx).ris⟩
 have hne := hD.ne
 have hlen := hD.len
 have hf := fits_made hM hall fun x hx => (ok x hx).1
 have ht : tot l < 100000 := by
  have := tot_small (m := 6) fun x hx => (hD.dom x hx).len
  omega
 obtain ⟨g, yes, L, F, _⟩ := lf_fits hf ok (by omega) ht
 have hol : ∀ r, InP r l → holdsB (localC c) r = true ∧ (holdsC (localC c) r = true ↔ linS c r) := fun r hr => holds_lin F (by rw [hr.len, hall]) fun x hx => by
  obtain ⟨i, hi, rfl⟩ := getD_of_mem hx 0
  have hil : i < l.length := by rw [← hr.len]; exact hi
  have := (hD.dom _ (getD_memD hil [])).abs _ (hr.getD hi 0 [])
  rw [mill_iff]
  omega
 have few := sol_ok hD (local_lin hM) fun r hr => (hol r hr).1
 refine (bT few).trans ((bT g.le).trans ((bT g.f1).trans ?_))
 cases hs : (solL c l 4000).2 with
 | false => exact bT rfl
 | true =>
  have hmem := sol_mem hne hs
  have hrows := sol_lenN hne hs
  refine (bF rfl).trans ?_
  cases hq : (linF c (domsL l)).2 with
  | false =>
   refine (bT rfl).trans ?_
   rw [g.ok] at hq
   have : (solL c l 4000).1 = [] := List.eq_nil_iff_forall_not_mem.mpr fun r hr => by
    obtain ⟨a1, a2⟩ := (hmem r).mp hr
    exact L.no hq r a1 ((hol r a1).2.mp a2)
   rw [this]
   rfl
  | true =>
   refine (bF rfl).trans ?_
   rw [g.ok] at hq
   obtain ⟨y1, y2⟩ := yes hq
   have e2 := L.len hq
   have hdl : (linF c (domsL l)).1.length = l.length := by rw [← lists_len, y2, e2]
   have lf2 : fitsD c (linF c (domsL l)).1 1 4 = true := (fits_other hf y1 (by rw [hdl, doms_len])).1
   have sub : ∀ i v, i < l.length → v ∈ listD ((linF c (domsL l)).1.getD i dom0) → v ∈ l.getD i [] := fun i v hi hv => by
    rw [← lists_at (by omega), y2] at hv
    exact L.sub hq i v hi hv
   have lens : ∀ x ∈ listsL (linF c (domsL l)).1, x.length ≤ 2001 := fun x hx => by
    obtain ⟨i, hi, rfl⟩ := getD_of_mem hx []
    rw [lists_len] at hi
    rw [lists_at hi]
    have := rising_len _ (-1000) 1000 (by omega) (y1 _ (getD_memD hi dom0)).ris fun v hv => by
     have := (hD.dom _ (getD_memD (show i < l.length by omega) [])).abs v (sub i v (by omega) hv)
     omega
    omega
   have ht2 : tot (listsL (linF c (domsL l)).1) < 100000 := by
    have := tot_small lens
    rw [lists_len] at this
    omega
   have hone : oneAt l l.length = true → (solL c l 4000).1.length = 1 := fun ho => by
    have hO := oneAt_all l ho
    rw [(sol_few hs).2, List.filter_eq_self.mpr fun r hr => ?_, prod_len, prodN_one hO]
    have hr := (prod_mem hne r).mp hr
    exact (hol r hr).2.mpr (L.one hq hO r hr)
   have kept : ∀ r ∈ (solL c l 4000).1, r.length = l.length ∧ ∀ i, i < l.length → hasD ((linF c (domsL l)).1.getD i dom0) (r.getD i 0) = true := fun r hr => by
    obtain ⟨a1, a2⟩ := (hmem r).mp hr
    refine ⟨a1.len, fun i hi => ?_⟩
    have kp := L.keep hq r a1 ((hol r a1).2.mp a2)
    have := kp.getD (show i < r.length by rw [a1.len]; exact hi) 0 []
    rw [← y2, lists_at (by omega)] at this
    exact (y1 _ (getD_memD (by omega) dom0)).has this
   obtain ⟨f2, _, S⟩ := lin_same lf2 y1 ht2
   have ag := L.again hq
   rw [y2, ag] at S
   obtain ⟨z1, z2⟩ := S.lists rfl
   have hok2 : (linF c (linF c (domsL l)).1).2 = true := S.ok
   have z1 : listsL (linF c (linF c (domsL l)).1).1 = listsL (linF c (domsL l)).1 := by rw [y2]; exact z1
   generalize (solL c l 4000).1 = rows at hrows hone kept ⊢
   generalize (linF c (domsL l)).1 = d at hdl sub lens ht2 kept f2 y1 z1 z2 hok2 ⊢
   have lb : ∀ x ∈ d, listB x = true ∧ (listD x).length ≤ 1000000 := fun x hx => ⟨listB_wf (y1 x hx).made.wf, by
    have := lens (listD x) (List.mem_map_of_mem hx)
    omega⟩
   refine (bF (by rw [decide_eq_true (show (d.length : Int) = (l.length : Int) by rw [hdl])]; rfl)).trans ?_
   have hdl2 : (linF c d).1.length = d.length := by rw [← lists_len, z1, lists_len]
   obtain ⟨b1, b2⟩ := z2.bounds (by omega) (by rw [z1]; omega)
   obtain ⟨b3, _⟩ := y1.bounds (by omega) (by omega)
   refine (F312.outer1 k hk rows c d l (by omega) hdl lb sub).trans (F312.outer2 k hk c d _ rows (by omega) (fun x hx => (lb x hx).1) (fun r hr => ?_) hone ?_)
   ·obtain ⟨h1, h2⟩ := kept r hr
    exact ⟨by omega, by omega, fun i hi => h2 i (by omega)⟩
   ·refine (bT f2).trans ((bT hok2).trans ((bT b1).trans ((bT b3).trans ((bT b2).trans ?_))))
    rw [z1]
    unfold sameL
    rw [decide_eq_true rfl]
end Go.Proofs.YtnojoaghcbljfaaGreatDoor.Ev
set_option linter.unusedVariables false
set_option linter.unusedSimpArgs false
set_option maxRecDepth 100000
namespace Go.Proofs.YtnojoaghcbljfaaGreatDoor.Ev
open Go Go.RowKit
theorem F311.eok : EOk Go.Proofs.Tryz.prog F311.E := eo (calls_cons ok22 (calls_cons ok26A (calls_cons ok27 (calls_cons ok28 (calls_cons ok339 (calls_cons ok340 (calls_cons ok342 (calls_cons ok343 calls_nil))))))))
theorem law311 (z : Small) (n : Int) (a : List Int) (h0 : 0 ≤ n) (hz : U8s z.2.1 ∧ U8s z.2.2.1) (ha : I8s a) : CallSpec Go.Proofs.Tryz.prog inv 11 [.agg (explode SmallT z), .v (.int .u8) n, .v (.sl (.int .i8)) a] (.v .bool true) := callW_ok (own := false) (k := 2000) F311.eok mixed Go.Proofs.Tryz.func11 (by kernel_rfl) (show Go.Proofs.Tryz.f11.body = some (bodyOf Go.Proofs.Tryz.f11) by kernel_rfl) (F311.sem 2000 (by omega) z n a h0 hz ha)
theorem F312.eok : EOk Go.Proofs.Tryz.prog F312.E := eo (calls_cons ok15A (calls_cons ok30 (calls_cons ok22 (calls_cons ok31 (calls_cons ok29 (calls_cons ok17 (calls_cons ok339 (calls_cons ok340 (calls_cons ok342 (calls_cons ok343 calls_nil))))))))))
theorem law312 (z : Case) (n : Int) (h0 : 0 ≤ n) (hz : U8s z.1.2.1 ∧ U8s z.1.2.2.1) : CallSpec Go.Proofs.Tryz.prog inv 12 [.agg (explode CaseT z), .v (.int .u8) n] (.v .bool true) := callW_ok (own := false) (k := 2000000) F312.eok mixed Go.Proofs.Tryz.func12 (by kernel_rfl) (show Go.Proofs.Tryz.f12.body = some (bodyOf Go.Proofs.Tryz.f12) by kernel_rfl) (F312.sem 2000000 (Nat.le_refl _) z n h0 hz)
end Go.Proofs.YtnojoaghcbljfaaGreatDoor.Ev
