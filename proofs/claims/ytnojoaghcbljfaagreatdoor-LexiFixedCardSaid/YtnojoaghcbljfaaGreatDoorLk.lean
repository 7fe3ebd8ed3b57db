/-
The laws of two rows in order: what their functions answer.
Conditions: none.
-/
import Derived.Test.YtnojoaghcbljfaaGreatDoorLi
import Derived.Test.YtnojoaghcbljfaaGreatDoorLj
import Derived.Test.YtnojoaghcbljfaaGreatDoorLz
set_option linter.unusedVariables false
set_option linter.unusedSimpArgs false
set_option maxRecDepth 100000
namespace Go.Proofs.YtnojoaghcbljfaaGreatDoor.Ev
open Go Go.RowKit
theorem F304.sem (k : Nat) (z : Case) (n : Int) (hn : kindX n = 22) (hm : makeAB z 22 6 = true) (g : FiltN lexiF 22 22 (makeAC z 22) (makeAL z 22 6)) (hr : refX (makeAC z 22) (makeAL z 22 6) = (listsL (lexiF (makeAC z 22) (domsL (makeAL z 22 6))).1, (lexiF (makeAC z 22) (domsL (makeAL z 22 6))).2)) (hrb : refXB (makeAC z 22) (makeAL z 22 6) = true) : callW F304.E false F304.fn k [.agg (explode CaseT z), .v (.int .u8) n] = some (.v .bool true) := by
  refine (F304.start_eq k z n).trans ?_
  rw [hn]
  generalize makeAC z 22 = c at g hr hrb ⊢
  generalize makeAL z 22 6 = l at g hr hrb ⊢
  rw [hr]
  have e1 : (!((lexiF c (domsL l)).2 == (lexiF c (domsL l)).2)) = false := by cases (lexiF c (domsL l)).2 <;> rfl
  have e2 : (!(sameL (listsL (lexiF c (domsL l)).1) (listsL (lexiF c (domsL l)).1))) = false := by unfold sameL; rw [decide_eq_true rfl]; rfl
  refine (bT hm).trans ((bT g.le).trans ((bT g.f1).trans ((bT hrb).trans ((bF e1).trans ((bT g.lb).trans ((bT g.ll).trans ((bF e2).trans ((bT g.few).trans ?_))))))))
  cases hs : (solL c l 4000).2 with
  | false => exact bT rfl
  | true =>
    have e3 : (((lexiF c (domsL l)).2) == ((exactL c l 4000).2)) = true := by rw [g.ok hs]; cases (exactL c l 4000).2 <;> rfl
    refine (bF rfl).trans ((bT g.few).trans ((bT e3).trans ((bT g.ll).trans ?_)))
    rw [g.same hs]
    unfold sameL
    rw [decide_eq_true rfl]
theorem F307.inner1 (n : Nat) (K : Conts) (rows : List (List Int)) (d : List Dom) (x : List Int) (len i : Int) (ls : List Int) (c : Con) (l : List (List Int)) (hl : ls.length ≤ 1000000) (h : ∀ v ∈ ls, v ∈ x) (m : Nat) (hm : ls.length < m) :
    F307.l1_1_1_1_1_1_1_0_1_0_0_1_1_0_0_1_1_0 m (F307.k_l1_1_1_1_1_1_1_0_1_0 n K [1, 1, 0, 0, 1, 1, 0]) rows d x len i ls (ls.length : Int) 0 c.1 c.2.1 c.2.2.1 c.2.2.2.1 c.2.2.2.2.1 c.2.2.2.2.2.1 c.2.2.2.2.2.2.1 c.2.2.2.2.2.2.2 l = F307.l1_1_1_1_1_1_1_0_1_0 n K rows d len (IntKind.i64.wrap (i + 1)) c.1 c.2.1 c.2.2.1 c.2.2.2.1 c.2.2.2.2.1 c.2.2.2.2.2.1 c.2.2.2.2.2.2.1 c.2.2.2.2.2.2.2 l := by
  refine pass_loop (fun m j => F307.l1_1_1_1_1_1_1_0_1_0_0_1_1_0_0_1_1_0 m (F307.k_l1_1_1_1_1_1_1_0_1_0 n K [1, 1, 0, 0, 1, 1, 0]) rows d x len i ls (ls.length : Int) j c.1 c.2.1 c.2.2.1 c.2.2.2.1 c.2.2.2.2.1 c.2.2.2.2.2.1 c.2.2.2.2.2.2.1 c.2.2.2.2.2.2.2 l) ls.length 0 _ (by omega) (fun m => ?_) (fun m j _ hj => ?_) m (by omega)
  · exact (F307.l1_1_1_1_1_1_1_0_1_0_0_1_1_0_0_1_1_0_eq m _ rows d x len i ls _ _ _ _ _ _ _ _ _ _ _).trans (self_lt.trans (F307.c2 n K rows d len i _ _ _ _ _ _ _ _ l))
  · refine (F307.l1_1_1_1_1_1_1_0_1_0_0_1_1_0_0_1_1_0_eq m _ rows d x len i ls _ _ _ _ _ _ _ _ _ _ _).trans (bst3 (lt_nat hj) (in_nat hj) ?_)
    rw [contains_mem, Int.toNat_natCast]
    exact decide_eq_true (h _ (getD_mem hj 0))
theorem F307.outer1 (k : Nat) (hk : 2000000 ≤ k) (rows : List (List Int)) (c : Con) (d : List Dom) (l : List (List Int)) (hl : l.length ≤ 1000) (hd : d.length = l.length) (lb : ∀ x ∈ d, listB x = true ∧ (listD x).length ≤ 1000000) (sub : ∀ i v, i < l.length → v ∈ listD (d.getD i dom0) → v ∈ l.getD i []) :
    F307.l1_1_1_1_1_1_1_0_1_0 k (F307.kt k [1, 1, 1, 1, 1, 1, 1, 0, 1, 0]) rows d (l.length : Int) 0 c.1 c.2.1 c.2.2.1 c.2.2.2.1 c.2.2.2.2.1 c.2.2.2.2.2.1 c.2.2.2.2.2.2.1 c.2.2.2.2.2.2.2 l = F307.l1_1_1_1_1_1_1_1_0_1_0 k (F307.kt k [1, 1, 1, 1, 1, 1, 1, 1, 0, 1, 0]) d rows (rows.length : Int) 0 c.1 c.2.1 c.2.2.1 c.2.2.2.1 c.2.2.2.2.1 c.2.2.2.2.2.1 c.2.2.2.2.2.2.1 c.2.2.2.2.2.2.2 := by
  refine pass_loop (fun m i => F307.l1_1_1_1_1_1_1_0_1_0 m (F307.kt k [1, 1, 1, 1, 1, 1, 1, 0, 1, 0]) rows d (l.length : Int) i c.1 c.2.1 c.2.2.1 c.2.2.2.1 c.2.2.2.2.1 c.2.2.2.2.2.1 c.2.2.2.2.2.2.1 c.2.2.2.2.2.2.2 l) l.length 1000001 _ (by omega) (fun m => ?_) (fun m i hm hi => ?_) k (by omega)
  · exact (F307.l1_1_1_1_1_1_1_0_1_0_eq m _ rows _ _ _ _ _ _ _ _ _ _ _ _).trans (self_lt.trans (F307.c0 k rows _ _ _ _ _ _ _ _ _))
  · have hid : i < d.length := by omega
    have hmem : d.getD i dom0 ∈ d := getD_mem hid dom0
    obtain ⟨h1, h2⟩ := lb _ hmem
    refine (F307.l1_1_1_1_1_1_1_0_1_0_eq m _ rows _ _ _ _ _ _ _ _ _ _ _ _).trans ((bst4 (lt_nat hi) (in_nat hi) (in_nat hid) (by rw [Int.toNat_natCast]; exact h1)).trans ?_)
    rw [Int.toNat_natCast]
    exact F307.inner1 m _ rows d (l.getD i []) _ _ (listD (d.getD i dom0)) c l h2 (fun v hv => sub i v hi hv) m (by omega)
theorem F307.inner2 (n : Nat) (K : Conts) (d : List Dom) (rows : List (List Int)) (len i : Int) (r : List Int) (hr : r.length ≤ d.length) (hl : r.length ≤ 1000) (nb : ∀ x ∈ d, listB x = true) (has : ∀ i, i < r.length → hasD (d.getD i dom0) (r.getD i 0) = true) (c : Con) (m : Nat) (hm : 1001 < m) :
    F307.l1_1_1_1_1_1_1_1_0_1_0_0_1_1_0_0_1_1_0 m (F307.k_l1_1_1_1_1_1_1_1_0_1_0 n K [1, 1, 0, 0, 1, 1, 0]) d rows len i r (r.length : Int) 0 c.1 c.2.1 c.2.2.1 c.2.2.2.1 c.2.2.2.2.1 c.2.2.2.2.2.1 c.2.2.2.2.2.2.1 c.2.2.2.2.2.2.2 = F307.l1_1_1_1_1_1_1_1_0_1_0 n K d rows len (IntKind.i64.wrap (i + 1)) c.1 c.2.1 c.2.2.1 c.2.2.2.1 c.2.2.2.2.1 c.2.2.2.2.2.1 c.2.2.2.2.2.2.1 c.2.2.2.2.2.2.2 := by
  refine pass_loop (fun m j => F307.l1_1_1_1_1_1_1_1_0_1_0_0_1_1_0_0_1_1_0 m (F307.k_l1_1_1_1_1_1_1_1_0_1_0 n K [1, 1, 0, 0, 1, 1, 0]) d rows len i r (r.length : Int) j c.1 c.2.1 c.2.2.1 c.2.2.2.1 c.2.2.2.2.1 c.2.2.2.2.2.1 c.2.2.2.2.2.2.1 c.2.2.2.2.2.2.2) r.length 0 _ (by omega) (fun m => ?_) (fun m j _ hj => ?_) m (by omega)
  · exact (F307.l1_1_1_1_1_1_1_1_0_1_0_0_1_1_0_0_1_1_0_eq m _ d rows len i r _ _ _ _ _ _ _ _ _ _).trans (self_lt.trans (F307.c6 n K d rows len i _ _ _ _ _ _ _ _))
  · have hjd : j < d.length := by omega
    refine (F307.l1_1_1_1_1_1_1_1_0_1_0_0_1_1_0_0_1_1_0_eq m _ d rows len i r _ _ _ _ _ _ _ _ _ _).trans (bst5' (lt_nat hj) (in_nat hj) (in_nat hjd) ?_ ?_)
    · rw [Int.toNat_natCast]
      exact listB_near (nb _ (getD_mem hjd dom0))
    · rw [Int.toNat_natCast]
      exact has j hj
theorem F307.outer2 (k : Nat) (hk : 2000000 ≤ k) (c : Con) (d : List Dom) (rows : List (List Int)) (hl : rows.length ≤ 100000) (nb : ∀ x ∈ d, listB x = true) (hr : ∀ r ∈ rows, r.length ≤ d.length ∧ r.length ≤ 1000 ∧ ∀ i, i < r.length → hasD (d.getD i dom0) (r.getD i 0) = true) {v : Option AV}
    (hX : (bif filtB 22 22 c d then bif (lexiF c d).2 then bif Nat.ble ((lexiF c d).1).length 1000 && ((lexiF c d).1).all listB then bif Nat.ble d.length 1000 && d.all listB then bif Nat.ble (listsL ((lexiF c d).1)).length 1000 && lensB (listsL ((lexiF c d).1)) then some (.v .bool (sameL (listsL ((lexiF c d).1)) (listsL d))) else none else none else none else some (.v .bool false) else none) = v) :
    F307.l1_1_1_1_1_1_1_1_0_1_0 k (F307.kt k [1, 1, 1, 1, 1, 1, 1, 1, 0, 1, 0]) d rows (rows.length : Int) 0 c.1 c.2.1 c.2.2.1 c.2.2.2.1 c.2.2.2.2.1 c.2.2.2.2.2.1 c.2.2.2.2.2.2.1 c.2.2.2.2.2.2.2 = v := by
  refine pass_loop (fun m i => F307.l1_1_1_1_1_1_1_1_0_1_0 m (F307.kt k [1, 1, 1, 1, 1, 1, 1, 1, 0, 1, 0]) d rows (rows.length : Int) i c.1 c.2.1 c.2.2.1 c.2.2.2.1 c.2.2.2.2.1 c.2.2.2.2.2.1 c.2.2.2.2.2.2.1 c.2.2.2.2.2.2.2) rows.length 1002 _ (by omega) (fun m => ?_) (fun m i hm hi => ?_) k (by omega)
  · exact (F307.l1_1_1_1_1_1_1_1_0_1_0_eq m _ _ rows _ _ _ _ _ _ _ _ _ _).trans (self_lt.trans ((F307.c4 k d c.1 c.2.1 c.2.2.1 c.2.2.2.1 c.2.2.2.2.1 c.2.2.2.2.2.1 c.2.2.2.2.2.2.1 c.2.2.2.2.2.2.2).trans hX))
  · refine (F307.l1_1_1_1_1_1_1_1_0_1_0_eq m _ _ rows _ _ _ _ _ _ _ _ _ _).trans ((bst2 (lt_nat hi) (in_nat hi)).trans ?_)
    rw [Int.toNat_natCast]
    obtain ⟨h1, h2, h3⟩ := hr _ (getD_mem hi [])
    exact F307.inner2 m _ d rows _ _ (rows.getD i []) h1 h2 nb h3 c m (by omega)
theorem F307.sem (k : Nat) (hk : 2000000 ≤ k) (z : Case) (n : Int) (hn : kindX n = 22) (hm : makeAB z 22 6 = true) (g : KeptN lexiF 22 22 (makeAC z 22) (makeAL z 22 6)) : callW F307.E false F307.fn k [.agg (explode CaseT z), .v (.int .u8) n] = some (.v .bool true) := by
  refine (F307.start_eq k z n).trans ?_
  rw [hn]
  generalize makeAC z 22 = c at g ⊢
  generalize makeAL z 22 6 = l at g ⊢
  refine (bT hm).trans ((bT g.few).trans ((bT g.le).trans ((bT g.f1).trans ?_)))
  cases hs : (solL c l 4000).2 with
  | false => exact bT rfl
  | true =>
    refine (bF rfl).trans ?_
    cases hf : (lexiF c (domsL l)).2 with
    | false =>
      refine (bT rfl).trans ?_
      rw [g.no hs hf]
      rfl
    | true =>
      refine (bF rfl).trans ?_
      have hle := g.le
      rw [Nat.ble_eq] at hle
      have hlen := g.len hf
      refine (bF (by rw [decide_eq_true (show ((lexiF c (domsL l)).1.length : Int) = (l.length : Int) by rw [hlen])]; rfl)).trans ?_
      have hrows := g.rows hs
      have hlb := g.lb hf
      have hsub := g.sub hf
      have hkeep := g.keep hs hf
      obtain ⟨a1, a2, a3⟩ := g.again hf
      have hf2 := g.f2 hf
      generalize (solL c l 4000).1 = rows at hrows hkeep ⊢
      generalize (lexiF c (domsL l)).1 = d at hlen hlb hsub hkeep a1 a2 a3 hf2 ⊢
      refine (F307.outer1 k hk rows c d l hle hlen hlb hsub).trans (F307.outer2 k hk c d rows hrows (fun x hx => (hlb x hx).1) (fun r hr => ?_) ?_)
      · obtain ⟨h1, h2⟩ := hkeep r hr
        exact ⟨by omega, by omega, fun i hi => h2 i (by omega)⟩
      · have e3 : ((listsL (lexiF c d).1).length : Int) = d.length := by rw [a3]; simp [listsL]
        have e4 : (lexiF c d).1.length = d.length := by
          have : (listsL (lexiF c d).1).length = (lexiF c d).1.length := by simp [listsL]
          omega
        have g1 : (Nat.ble ((lexiF c d).1).length 1000 && ((lexiF c d).1).all listB) = true := by
          rw [a2, Bool.and_true, Nat.ble_eq]
          omega
        have g2 : (Nat.ble d.length 1000 && d.all listB) = true := by
          rw [Bool.and_eq_true, Nat.ble_eq, List.all_eq_true]
          exact ⟨by omega, fun x hx => (hlb x hx).1⟩
        have g3 : (Nat.ble (listsL ((lexiF c d).1)).length 1000 && lensB (listsL ((lexiF c d).1))) = true := by
          rw [a3, Bool.and_eq_true, Nat.ble_eq]
          refine ⟨by simp [listsL]; omega, ?_⟩
          unfold lensB listsL
          rw [List.all_eq_true]
          intro y hy
          obtain ⟨x, hx, rfl⟩ := List.mem_map.mp hy
          rw [Nat.ble_eq]
          exact (hlb x hx).2
        refine (bT hf2).trans ((bT a1).trans ((bT g1).trans ((bT g2).trans ((bT g3).trans ?_))))
        rw [a3]
        unfold sameL
        rw [decide_eq_true rfl]
theorem F306.fixed (n : Nat) (a : List Int) (c : Con) (N : Nat) (hN : N ≤ 1000) (hn : N < n) (g : FixN lexiF 22 22 c ((List.range N).map fun (i : Nat) => fixV a i)) :
    F306.l1_1_1_1_1_1_0_1_0 n (F306.kt n [1, 1, 1, 1, 1, 1, 0, 1, 0]) a (N : Int) 0 c.1 c.2.1 c.2.2.1 c.2.2.2.1 c.2.2.2.2.1 c.2.2.2.2.2.1 c.2.2.2.2.2.2.1 c.2.2.2.2.2.2.2 (localC c).1 (localC c).2.1 (localC c).2.2.1 (localC c).2.2.2.1 (localC c).2.2.2.2.1 (localC c).2.2.2.2.2.1 (localC c).2.2.2.2.2.2.1 (localC c).2.2.2.2.2.2.2 [] [] = some (.v .bool true) := by
  refine (fix_loopN (fun m i l v => F306.l1_1_1_1_1_1_0_1_0 m (F306.kt n [1, 1, 1, 1, 1, 1, 0, 1, 0]) a (N : Int) i c.1 c.2.1 c.2.2.1 c.2.2.2.1 c.2.2.2.2.1 c.2.2.2.2.2.1 c.2.2.2.2.2.2.1 c.2.2.2.2.2.2.2 (localC c).1 (localC c).2.1 (localC c).2.2.1 (localC c).2.2.2.1 (localC c).2.2.2.2.1 (localC c).2.2.2.2.2.1 (localC c).2.2.2.2.2.2.1 (localC c).2.2.2.2.2.2.2 l v) a N hN _ (fun m i l v => F306.l1_1_1_1_1_1_0_1_0_eq m _ a (N : Int) i _ _ _ _ _ _ _ _ _ _ _ _ _ _ _ _ l v) n hn).trans ?_
  have hlv : ((List.range N).map fun (i : Nat) => fixV a i).length ≤ 1000 := by simp; exact hN
  generalize ((List.range N).map fun (i : Nat) => fixV a i) = v at g hlv ⊢
  refine (F306.c0 n _ _ _ _ _ _ _ _ _ _ _ _ _ _ _ _ (ones v) v).trans ?_
  have ee : (c.1, (c.2.1, (c.2.2.1, (c.2.2.2.1, (c.2.2.2.2.1, (c.2.2.2.2.2.1, (c.2.2.2.2.2.2.1, c.2.2.2.2.2.2.2))))))) = c := rfl
  have el : ((localC c).1, ((localC c).2.1, ((localC c).2.2.1, ((localC c).2.2.2.1, ((localC c).2.2.2.2.1, ((localC c).2.2.2.2.2.1, ((localC c).2.2.2.2.2.2.1, (localC c).2.2.2.2.2.2.2))))))) = localC c := rfl
  rw [ee, el]
  refine bfix (by rw [Nat.ble_eq]; simp; exact hlv) g.f1 g.hb ?_ fun ht => ⟨g.lb ht, ?_, ?_⟩
  · rw [g.ok]
    cases holdsC (localC c) v <;> rfl
  · rw [g.same ht, Bool.and_eq_true, Nat.ble_eq]
    refine ⟨by simp; exact hlv, ?_⟩
    unfold lensB
    rw [List.all_eq_true]
    intro y hy
    obtain ⟨x, _, rfl⟩ := List.mem_map.mp hy
    rfl
  · rw [g.same ht]
    unfold sameL
    rw [decide_eq_true rfl]
theorem F306.sem (k : Nat) (hk : 1001 < k) (z : Small) (n : Int) (a : List Int) (hn : kindX n = 22) (hc : conAB (22 - 1, z.2) 4 = true) (hloc : localB (conA (22 - 1, z.2) 4) = true)
    (g : FixN lexiF 22 22 (conA (22 - 1, z.2) 4) ((List.range ((conA (22 - 1, z.2) 4).2.1.length + (conA (22 - 1, z.2) 4).2.2.1.length)).map fun (i : Nat) => fixV a i)) :
    callW F306.E false F306.fn k [.agg (explode SmallT z), .v (.int .u8) n, .v (.sl (.int .i8)) a] = some (.v .bool true) := by
  refine (F306.start_eq k z n a).trans ?_
  rw [hn]
  have e0 : IntKind.u8.wrap (IntKind.i64.wrap ((22 : Int) - 1)) = 22 - 1 := rfl
  rw [e0]
  have hl := conA_spec hc
  generalize conA (22 - 1, z.2) 4 = c at g hloc hl ⊢
  have h1 : c.2.1.length ≤ 4 := hl.2.2.2.1
  have h2 : c.2.2.1.length ≤ 4 := hl.2.2.2.2.1
  refine (bT hc).trans ((bT hloc).trans ?_)
  have hlen : IntKind.i64.wrap ((c.2.1.length : Int) + (c.2.2.1.length : Int)) = ((c.2.1.length + c.2.2.1.length : Nat) : Int) := by
    rw [wrap_ok (by omega) (by omega)]
    omega
  rw [hlen]
  exact F306.fixed k a c _ (by omega) (by omega) g
theorem lexi_refuser : Refuser 22 22 lexiF where
  kind := fun c => by
    unfold fitsB
    by_cases h : c.1 = 22
    · have : kindB c = true := by unfold kindB; simp [h]
      rw [this]; simp
    · have : (decide (22 ≤ c.1) && decide (c.1 ≤ 22)) = false := by
        by_cases h1 : 22 ≤ c.1
        · have : ¬ c.1 ≤ 22 := by omega
          simp [this]
        · simp [h1]
      rw [this]; rfl
  no := fun c d h => by unfold lexiF; rw [h]; rfl
  len := fun c d h h2 => by
    have hk : fitsB c 22 22 = true := by
      unfold fitsD at h
      simp only [Bool.and_eq_true, decide_eq_true_eq] at h
      have : c.1 = 22 := by omega
      unfold fitsB kindB
      simp [this]
    obtain ⟨_, hd, _⟩ := fits_lex h hk
    unfold lexiF at h2 ⊢
    rw [h] at h2 ⊢
    have h2 : (madeAll (lexiL (d.take c.2.1.length) (d.drop c.2.1.length))).2 = true := h2
    show (madeAll (lexiL (d.take c.2.1.length) (d.drop c.2.1.length))).1.length = _
    rw [made_len h2]
    unfold lexiL
    rw [List.length_append, List.length_map, List.length_map, List.length_range, List.length_range, List.length_take, List.length_drop]
    omega
theorem F305.r1 (k : Nat) (d : Con) (m : List (List Int)) (hm : Good m) (hn : m.length ≤ 1000) : F305.n1_1_1 k (F305.kt k [1, 1, 1]) m d.1 d.2.1 d.2.2.1 d.2.2.2.1 d.2.2.2.2.1 d.2.2.2.2.2.1 d.2.2.2.2.2.2.1 d.2.2.2.2.2.2.2 = some (.v .bool true) :=
    (F305.n1_1_1_eq k _ m _ _ _ _ _ _ _ _).trans ((ref_body lexi_refuser (c := d) hm hn fun b => (F305.kt k [1, 1, 1]).ret ⟨slots 100 [(6, .v .bool b)], []⟩).trans (F305.c0 k))
theorem F305.r2 (k : Nat) (d : Con) (m : List (List Int)) (hm : Good m) (hn : m.length ≤ 1000) : F305.n1_1_1b k (F305.kt k [1, 1, 1]) d.1 d.2.1 d.2.2.1 d.2.2.2.1 d.2.2.2.2.1 d.2.2.2.2.2.1 d.2.2.2.2.2.2.1 d.2.2.2.2.2.2.2 m = some (.v .bool true) :=
    (F305.n1_1_1b_eq k _ _ _ _ _ _ _ _ _ m).trans ((ref_body lexi_refuser (c := d) hm hn fun b => (F305.kt k [1, 1, 1]).ret ⟨slots 100 [(6, .v .bool b)], []⟩).trans (F305.c0 k))
theorem F305.r3 (k : Nat) (a : Int) (b1 b2 b3 b4 b5 : List Int) (e : Int) (m : List (List Int)) (hm : Good m) (hn : m.length ≤ 1000) : F305.n1_1_1c k (F305.kt k [1, 1, 1]) a b1 b2 b3 b4 b5 e m = some (.v .bool true) :=
    (F305.n1_1_1c_eq k _ _ _ _ _ _ _ _ m).trans ((ref_body lexi_refuser (c := (a, b1, b2, b3, b4, b5, e, [])) hm hn fun b => (F305.kt k [1, 1, 1]).ret ⟨slots 100 [(6, .v .bool b)], []⟩).trans (F305.c0 k))
theorem F305.sem (k : Nat) (z : Case) (r : Con) (n : Int) (h0 : 0 ≤ n) (h1 : n < 256) : callW F305.E false F305.fn k [.agg (explode CaseT z), .agg (explode ConT r), .v (.int .u8) n] = some (.v .bool true) := by
  refine (F305.start_eq k z r n).trans ?_
  obtain ⟨k1, k2⟩ := kindOf_range h0 h1
  have hm : makeAB z (kindOf n) 6 = true := by
    unfold makeAB
    simp only [Bool.and_eq_true, decide_eq_true_eq]
    refine ⟨⟨⟨k1, k2⟩, ?_⟩, ?_⟩ <;> omega
  have ek : IntKind.i64.wrap (1 + ((IntKind.i64.wrap (shrW .u8 n 3)).tmod 23)) = kindOf n := rfl
  rw [ek, hm]
  obtain ⟨l1, l2⟩ := makeA_len (z := z) (w := 6) k1 k2
  have hg := good_dom (makeA_dom (z := z) (k := kindOf n) (w := 6) (by omega))
  generalize makeAL z (kindOf n) 6 = l at l1 l2 hg ⊢
  generalize makeAC z (kindOf n) = c
  simp only [cond_true]
  have ew : IntKind.i64.wrap ((l.length : Int) - 1) = (l.length : Int) - 1 := wrap_ok (by omega) (by omega)
  have q0 : 0 ≤ (l.length : Int) - 1 := by omega
  have q1 : (l.length : Int) - 1 ≤ l.length := by omega
  have q2 : (0 : Int) < l.length := by omega
  have q3 : (l.length + [[(1 : Nat)]].length) * 24 ≤ LIM := lim24 (by simp; omega)
  rw [ew]
  by_cases c0 : n.tmod 5 = 0
  · exact (bT (decide_eq_true c0)).trans ((bT (bAnd q0 q1)).trans (F305.r1 k c _ (good_take hg _) (by rw [List.length_take]; omega)))
  · refine (bF (decide_eq_false c0)).trans ?_
    by_cases c1 : n.tmod 5 = 1
    · exact (bT (decide_eq_true c1)).trans ((bT (decide_eq_true q2)).trans (F305.r2 k c _ (good_set hg 0) (by rw [List.length_set]; omega)))
    · refine (bF (decide_eq_false c1)).trans ?_
      by_cases c2 : n.tmod 5 = 2
      · exact (bT (decide_eq_true c2)).trans ((bT (decide_eq_true q3)).trans (F305.r2 k c _ (good_app hg) (by rw [List.length_append]; simp; omega)))
      · refine (bF (decide_eq_false c2)).trans ?_
        by_cases c3 : n.tmod 5 = 3
        · exact (bT (decide_eq_true c3)).trans (F305.r3 k _ _ _ _ _ _ _ _ hg (by omega))
        · exact (bF (decide_eq_false c3)).trans (F305.r2 k c _ hg (by omega))
theorem makeA_doms {z : Case} {k : Int} (hk1 : 1 ≤ k) (hk2 : k ≤ 23) (w : Int) (hw : 1 ≤ w) : DomsOk w (makeAL z k w) := ⟨makeA_dom hw, (makeA_len hk1 hk2).2, (makeA_len hk1 hk2).1⟩
theorem makeA_all (z : Case) (k w : Int) : (makeAL z k w).length = (makeAC z k).2.1.length + (makeAC z k).2.2.1.length := by unfold makeAL; simp
theorem make_ab {z : Case} {k w : Int} (hk1 : 1 ≤ k) (hk2 : k ≤ 23) (h1 : 1 ≤ w) (h2 : w ≤ 1000) : makeAB z k w = true := by
  unfold makeAB
  simp only [Bool.and_eq_true, decide_eq_true_eq]
  exact ⟨⟨⟨hk1, hk2⟩, h1⟩, h2⟩
theorem make_lex (z : Case) (hz : U8s z.1.2.1 ∧ U8s z.1.2.2.1) : LexC (makeAC z 22) := by
  have h := (conA_spec (conAB_of (k := 22) (z := z.1.2) (by omega) (by omega))).2.2.2.2.2 (by unfold isK; omega)
  have e : makeAC z 22 = con22 z.1.2 5 := h
  rw [e]
  exact lex_con22 _ _ hz.1 hz.2 (by omega) (by omega)
theorem fix_lex (z : Small) (hz : U8s z.2.1 ∧ U8s z.2.2.1) : LexC (conA (22 - 1, z.2) 4) := by
  have h := (conA_spec (z := (22 - 1, z.2)) (v := 4) (by unfold conAB; rfl)).2.2.2.2.2 (by unfold isK; omega)
  have e : conA (22 - 1, z.2) 4 = con22 z.2 4 := h
  rw [e]
  exact lex_con22 _ _ hz.1 hz.2 (by omega) (by omega)
theorem lex_len {c : Con} (h : LexC c) : c.2.1.length + c.2.2.1.length = c.2.1.length + c.2.1.length := by rw [h.ab]
theorem F304.eok : EOk Go.Proofs.Tryz.prog F304.E := eo (calls_cons ok15A (calls_cons ok22 (calls_cons ok324 (calls_cons ok325 (calls_cons ok326 (calls_cons ok327 (calls_cons ok328 (calls_cons ok329 (calls_cons ok17 (calls_cons ok21 calls_nil))))))))))
theorem law304 (z : Case) (n : Int) (hz : U8s z.1.2.1 ∧ U8s z.1.2.2.1) : CallSpec Go.Proofs.Tryz.prog inv 4 [.agg (explode CaseT z), .v (.int .u8) n] (.v .bool true) := callW_ok (own := false) (k := 1) F304.eok mixed Go.Proofs.Tryz.func4 (by kernel_rfl) (show Go.Proofs.Tryz.f4.body = some (bodyOf Go.Proofs.Tryz.f4) by kernel_rfl) (F304.sem 1 z n (kindX_eq n) (make_ab (by omega) (by omega) (by omega) (by omega)) (ex_filters (lex_exact (make_lex z hz)) (makeA_doms (by omega) (by omega) 6 (by omega)) (by rw [makeA_all, lex_len (make_lex z hz)])) (ref_lex (make_lex z hz) (makeA_doms (by omega) (by omega) 6 (by omega)) (by rw [makeA_all, lex_len (make_lex z hz)])) (refXB_ok (make_lex z hz) (makeA_doms (by omega) (by omega) 6 (by omega))))
theorem F307.eok : EOk Go.Proofs.Tryz.prog F307.E := eo (calls_cons ok15A (calls_cons ok30 (calls_cons ok22 (calls_cons ok31 (calls_cons ok29 (calls_cons ok324 (calls_cons ok325 (calls_cons ok326 (calls_cons ok328 (calls_cons ok329 (calls_cons ok17 calls_nil)))))))))))
theorem law307 (z : Case) (n : Int) (hz : U8s z.1.2.1 ∧ U8s z.1.2.2.1) : CallSpec Go.Proofs.Tryz.prog inv 7 [.agg (explode CaseT z), .v (.int .u8) n] (.v .bool true) := callW_ok (own := false) (k := 2000000) F307.eok mixed Go.Proofs.Tryz.func7 (by kernel_rfl) (show Go.Proofs.Tryz.f7.body = some (bodyOf Go.Proofs.Tryz.f7) by kernel_rfl) (F307.sem 2000000 (Nat.le_refl _) z n (kindX_eq n) (make_ab (by omega) (by omega) (by omega) (by omega)) (ex_keeps (lex_exact (make_lex z hz)) (makeA_doms (by omega) (by omega) 6 (by omega)) (by rw [makeA_all, lex_len (make_lex z hz)])))
theorem F305.eok : EOk Go.Proofs.Tryz.prog F305.E := eo (calls_cons ok15A (calls_cons ok325 (calls_cons ok326 (calls_cons ok328 (calls_cons ok332 (calls_cons ok25 calls_nil))))))
theorem law305 (z : Case) (r : Con) (n : Int) (h0 : 0 ≤ n) (h1 : n < 256) : CallSpec Go.Proofs.Tryz.prog inv 5 [.agg (explode CaseT z), .agg (explode ConT r), .v (.int .u8) n] (.v .bool true) := callW_ok (own := false) (k := 1) F305.eok mixed Go.Proofs.Tryz.func5 (by kernel_rfl) (show Go.Proofs.Tryz.f5.body = some (bodyOf Go.Proofs.Tryz.f5) by kernel_rfl) (F305.sem 1 z r n h0 h1)
theorem fix_llen (z : Small) (hz : U8s z.2.1 ∧ U8s z.2.2.1) : (conA (22 - 1, z.2) 4).2.1.length + (conA (22 - 1, z.2) 4).2.2.1.length ≤ 500 := by
  have h1 := (fix_lex z hz).a4
  have h2 := (fix_lex z hz).ab
  omega
theorem F306.eok : EOk Go.Proofs.Tryz.prog F306.E := eo (calls_cons ok22 (calls_cons ok324 (calls_cons ok325 (calls_cons ok326 (calls_cons ok328 (calls_cons ok329 (calls_cons ok26A (calls_cons ok27 (calls_cons ok28 calls_nil)))))))))
theorem law306 (z : Small) (n : Int) (a : List Int) (hz : U8s z.2.1 ∧ U8s z.2.2.1) (ha : I8s a) : CallSpec Go.Proofs.Tryz.prog inv 6 [.agg (explode SmallT z), .v (.int .u8) n, .v (.sl (.int .i8)) a] (.v .bool true) := callW_ok (own := false) (k := 2000) F306.eok mixed Go.Proofs.Tryz.func6 (by kernel_rfl) (show Go.Proofs.Tryz.f6.body = some (bodyOf Go.Proofs.Tryz.f6) by kernel_rfl) (F306.sem 2000 (by omega) z n a (kindX_eq n) (by unfold conAB; rfl) (local_lex (fix_lex z hz)) (ex_fixed (lex_exact (fix_lex z hz)) (by rw [List.length_map, List.length_range, lex_len (fix_lex z hz)]) (fix_nearN ha _ (fix_llen z hz))))
end Go.Proofs.YtnojoaghcbljfaaGreatDoor.Ev
