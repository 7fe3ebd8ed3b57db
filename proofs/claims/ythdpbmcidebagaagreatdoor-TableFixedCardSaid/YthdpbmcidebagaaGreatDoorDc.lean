/-
The laws Filters, Keeps, Fixed of Table: what their functions answer, if the filter does what it must.
Conditions: none.
-/
import Derived.Test.YthdpbmcidebagaaGreatDoorDa
import Derived.Test.YthdpbmcidebagaaGreatDoorDb
import Derived.Test.YthdpbmcidebagaaGreatDoorCr
set_option linter.unusedVariables false
set_option linter.unusedSimpArgs false
set_option maxRecDepth 100000
namespace Go.Proofs.YthdpbmcidebagaaGreatDoor.Ev
open Go
theorem F10.sem (k : Nat) (z : Case) (n : Int) (hn : kindT n = 18) (hm : makeAB z 18 6 = true) (g : FiltN tableF 18 18 (makeAC z 18) (makeAL z 18 6)) : callW F10.E false F10.fn k [.agg (explode CaseT z), .v (.int .u8) n] = some (.v .bool true) := by
  refine (F10.start_eq k z n).trans ?_
  rw [hn]
  generalize makeAC z 18 = c at g ⊢
  generalize makeAL z 18 6 = l at g ⊢
  refine (bT hm).trans ((bT g.few).trans ?_)
  cases hs : (solL c l 4000).2 with
  | false => exact bT rfl
  | true =>
    have e1 : (((tableF c (domsL l)).2) == ((exactL c l 4000).2)) = true := by rw [g.ok hs]; cases (exactL c l 4000).2 <;> rfl
    refine (bF rfl).trans ((bT g.le).trans ((bT g.f1).trans ((bT g.few).trans ((bT e1).trans ((bT g.lb).trans ((bT g.ll).trans ?_))))))
    rw [g.same hs]
    unfold sameL
    rw [decide_eq_true rfl]
theorem F12.inner1 (n : Nat) (K : Conts) (rows : List (List Int)) (d : List Dom) (x : List Int) (len i : Int) (ls : List Int) (c : Con) (l : List (List Int)) (hl : ls.length ≤ 1000000) (h : ∀ v ∈ ls, v ∈ x) (m : Nat) (hm : ls.length < m) :
    F12.l1_1_1_1_1_1_1_0_1_0_0_1_1_0_0_1_1_0 m (F12.k_l1_1_1_1_1_1_1_0_1_0 n K [1, 1, 0, 0, 1, 1, 0]) rows d x len i ls (ls.length : Int) 0 c.1 c.2.1 c.2.2.1 c.2.2.2.1 c.2.2.2.2.1 c.2.2.2.2.2.1 c.2.2.2.2.2.2.1 c.2.2.2.2.2.2.2 l = F12.l1_1_1_1_1_1_1_0_1_0 n K rows d len (IntKind.i64.wrap (i + 1)) c.1 c.2.1 c.2.2.1 c.2.2.2.1 c.2.2.2.2.1 c.2.2.2.2.2.1 c.2.2.2.2.2.2.1 c.2.2.2.2.2.2.2 l := by
  refine pass_loop (fun m j => F12.l1_1_1_1_1_1_1_0_1_0_0_1_1_0_0_1_1_0 m (F12.k_l1_1_1_1_1_1_1_0_1_0 n K [1, 1, 0, 0, 1, 1, 0]) rows d x len i ls (ls.length : Int) j c.1 c.2.1 c.2.2.1 c.2.2.2.1 c.2.2.2.2.1 c.2.2.2.2.2.1 c.2.2.2.2.2.2.1 c.2.2.2.2.2.2.2 l) ls.length 0 _ (by omega) (fun m => ?_) (fun m j _ hj => ?_) m (by omega)
  · exact (F12.l1_1_1_1_1_1_1_0_1_0_0_1_1_0_0_1_1_0_eq m _ rows d x len i ls _ _ _ _ _ _ _ _ _ _ _).trans (self_lt.trans (F12.c2 n K rows d len i _ _ _ _ _ _ _ _ l))
  · refine (F12.l1_1_1_1_1_1_1_0_1_0_0_1_1_0_0_1_1_0_eq m _ rows d x len i ls _ _ _ _ _ _ _ _ _ _ _).trans (bst3 (lt_nat hj) (in_nat hj) ?_)
    rw [contains_mem, Int.toNat_natCast]
    exact decide_eq_true (h _ (getD_mem hj 0))
theorem F12.outer1 (k : Nat) (hk : 2000000 ≤ k) (rows : List (List Int)) (c : Con) (d : List Dom) (l : List (List Int)) (hl : l.length ≤ 1000) (hd : d.length = l.length) (lb : ∀ x ∈ d, listB x = true ∧ (listD x).length ≤ 1000000) (sub : ∀ i v, i < l.length → v ∈ listD (d.getD i dom0) → v ∈ l.getD i []) :
    F12.l1_1_1_1_1_1_1_0_1_0 k (F12.kt k [1, 1, 1, 1, 1, 1, 1, 0, 1, 0]) rows d (l.length : Int) 0 c.1 c.2.1 c.2.2.1 c.2.2.2.1 c.2.2.2.2.1 c.2.2.2.2.2.1 c.2.2.2.2.2.2.1 c.2.2.2.2.2.2.2 l = F12.l1_1_1_1_1_1_1_1_0_1_0 k (F12.kt k [1, 1, 1, 1, 1, 1, 1, 1, 0, 1, 0]) d rows (rows.length : Int) 0 c.1 c.2.1 c.2.2.1 c.2.2.2.1 c.2.2.2.2.1 c.2.2.2.2.2.1 c.2.2.2.2.2.2.1 c.2.2.2.2.2.2.2 := by
  refine pass_loop (fun m i => F12.l1_1_1_1_1_1_1_0_1_0 m (F12.kt k [1, 1, 1, 1, 1, 1, 1, 0, 1, 0]) rows d (l.length : Int) i c.1 c.2.1 c.2.2.1 c.2.2.2.1 c.2.2.2.2.1 c.2.2.2.2.2.1 c.2.2.2.2.2.2.1 c.2.2.2.2.2.2.2 l) l.length 1000001 _ (by omega) (fun m => ?_) (fun m i hm hi => ?_) k (by omega)
  · exact (F12.l1_1_1_1_1_1_1_0_1_0_eq m _ rows _ _ _ _ _ _ _ _ _ _ _ _).trans (self_lt.trans (F12.c0 k rows _ _ _ _ _ _ _ _ _))
  · have hid : i < d.length := by omega
    have hmem : d.getD i dom0 ∈ d := getD_mem hid dom0
    obtain ⟨h1, h2⟩ := lb _ hmem
    refine (F12.l1_1_1_1_1_1_1_0_1_0_eq m _ rows _ _ _ _ _ _ _ _ _ _ _ _).trans ((bst4 (lt_nat hi) (in_nat hi) (in_nat hid) (by rw [Int.toNat_natCast]; exact h1)).trans ?_)
    rw [Int.toNat_natCast]
    exact F12.inner1 m _ rows d (l.getD i []) _ _ (listD (d.getD i dom0)) c l h2 (fun v hv => sub i v hi hv) m (by omega)
theorem F12.inner2 (n : Nat) (K : Conts) (d : List Dom) (rows : List (List Int)) (len i : Int) (r : List Int) (hr : r.length ≤ d.length) (hl : r.length ≤ 1000) (nb : ∀ x ∈ d, listB x = true) (has : ∀ i, i < r.length → hasD (d.getD i dom0) (r.getD i 0) = true) (c : Con) (m : Nat) (hm : 1001 < m) :
    F12.l1_1_1_1_1_1_1_1_0_1_0_0_1_1_0_0_1_1_0 m (F12.k_l1_1_1_1_1_1_1_1_0_1_0 n K [1, 1, 0, 0, 1, 1, 0]) d rows len i r (r.length : Int) 0 c.1 c.2.1 c.2.2.1 c.2.2.2.1 c.2.2.2.2.1 c.2.2.2.2.2.1 c.2.2.2.2.2.2.1 c.2.2.2.2.2.2.2 = F12.l1_1_1_1_1_1_1_1_0_1_0 n K d rows len (IntKind.i64.wrap (i + 1)) c.1 c.2.1 c.2.2.1 c.2.2.2.1 c.2.2.2.2.1 c.2.2.2.2.2.1 c.2.2.2.2.2.2.1 c.2.2.2.2.2.2.2 := by
  refine pass_loop (fun m j => F12.l1_1_1_1_1_1_1_1_0_1_0_0_1_1_0_0_1_1_0 m (F12.k_l1_1_1_1_1_1_1_1_0_1_0 n K [1, 1, 0, 0, 1, 1, 0]) d rows len i r (r.length : Int) j c.1 c.2.1 c.2.2.1 c.2.2.2.1 c.2.2.2.2.1 c.2.2.2.2.2.1 c.2.2.2.2.2.2.1 c.2.2.2.2.2.2.2) r.length 0 _ (by omega) (fun m => ?_) (fun m j _ hj => ?_) m (by omega)
  · exact (F12.l1_1_1_1_1_1_1_1_0_1_0_0_1_1_0_0_1_1_0_eq m _ d rows len i r _ _ _ _ _ _ _ _ _ _).trans (self_lt.trans (F12.c6 n K d rows len i _ _ _ _ _ _ _ _))
  · have hjd : j < d.length := by omega
    refine (F12.l1_1_1_1_1_1_1_1_0_1_0_0_1_1_0_0_1_1_0_eq m _ d rows len i r _ _ _ _ _ _ _ _ _ _).trans (bst5' (lt_nat hj) (in_nat hj) (in_nat hjd) ?_ ?_)
    · rw [Int.toNat_natCast]
      exact listB_near (nb _ (getD_mem hjd dom0))
    · rw [Int.toNat_natCast]
      exact has j hj
theorem F12.outer2 (k : Nat) (hk : 2000000 ≤ k) (c : Con) (d : List Dom) (rows : List (List Int)) (hl : rows.length ≤ 100000) (nb : ∀ x ∈ d, listB x = true) (hr : ∀ r ∈ rows, r.length ≤ d.length ∧ r.length ≤ 1000 ∧ ∀ i, i < r.length → hasD (d.getD i dom0) (r.getD i 0) = true) {v : Option AV}
    (hX : (bif filtB 18 18 c d then bif (tableF c d).2 then bif Nat.ble ((tableF c d).1).length 1000 && ((tableF c d).1).all listB then bif Nat.ble d.length 1000 && d.all listB then bif Nat.ble (listsL ((tableF c d).1)).length 1000 && lensB (listsL ((tableF c d).1)) then some (.v .bool (sameL (listsL ((tableF c d).1)) (listsL d))) else none else none else none else some (.v .bool false) else none) = v) :
    F12.l1_1_1_1_1_1_1_1_0_1_0 k (F12.kt k [1, 1, 1, 1, 1, 1, 1, 1, 0, 1, 0]) d rows (rows.length : Int) 0 c.1 c.2.1 c.2.2.1 c.2.2.2.1 c.2.2.2.2.1 c.2.2.2.2.2.1 c.2.2.2.2.2.2.1 c.2.2.2.2.2.2.2 = v := by
  refine pass_loop (fun m i => F12.l1_1_1_1_1_1_1_1_0_1_0 m (F12.kt k [1, 1, 1, 1, 1, 1, 1, 1, 0, 1, 0]) d rows (rows.length : Int) i c.1 c.2.1 c.2.2.1 c.2.2.2.1 c.2.2.2.2.1 c.2.2.2.2.2.1 c.2.2.2.2.2.2.1 c.2.2.2.2.2.2.2) rows.length 1002 _ (by omega) (fun m => ?_) (fun m i hm hi => ?_) k (by omega)
  · exact (F12.l1_1_1_1_1_1_1_1_0_1_0_eq m _ _ rows _ _ _ _ _ _ _ _ _ _).trans (self_lt.trans ((F12.c4 k d c.1 c.2.1 c.2.2.1 c.2.2.2.1 c.2.2.2.2.1 c.2.2.2.2.2.1 c.2.2.2.2.2.2.1 c.2.2.2.2.2.2.2).trans hX))
  · refine (F12.l1_1_1_1_1_1_1_1_0_1_0_eq m _ _ rows _ _ _ _ _ _ _ _ _ _).trans ((bst2 (lt_nat hi) (in_nat hi)).trans ?_)
    rw [Int.toNat_natCast]
    obtain ⟨h1, h2, h3⟩ := hr _ (getD_mem hi [])
    exact F12.inner2 m _ d rows _ _ (rows.getD i []) h1 h2 nb h3 c m (by omega)
theorem F12.sem (k : Nat) (hk : 2000000 ≤ k) (z : Case) (n : Int) (hn : kindT n = 18) (hm : makeAB z 18 6 = true) (g : KeptN tableF 18 18 (makeAC z 18) (makeAL z 18 6)) : callW F12.E false F12.fn k [.agg (explode CaseT z), .v (.int .u8) n] = some (.v .bool true) := by
  refine (F12.start_eq k z n).trans ?_
  rw [hn]
  generalize makeAC z 18 = c at g ⊢
  generalize makeAL z 18 6 = l at g ⊢
  refine (bT hm).trans ((bT g.few).trans ((bT g.le).trans ((bT g.f1).trans ?_)))
  cases hs : (solL c l 4000).2 with
  | false => exact bT rfl
  | true =>
    refine (bF rfl).trans ?_
    cases hf : (tableF c (domsL l)).2 with
    | false =>
      refine (bT rfl).trans ?_
      rw [g.no hs hf]
      rfl
    | true =>
      refine (bF rfl).trans ?_
      have hle := g.le
      rw [Nat.ble_eq] at hle
      have hlen := g.len hf
      refine (bF (by rw [decide_eq_true (show ((tableF c (domsL l)).1.length : Int) = (l.length : Int) by rw [hlen])]; rfl)).trans ?_
      have hrows := g.rows hs
      have hlb := g.lb hf
      have hsub := g.sub hf
      have hkeep := g.keep hs hf
      obtain ⟨a1, a2, a3⟩ := g.again hf
      have hf2 := g.f2 hf
      generalize (solL c l 4000).1 = rows at hrows hkeep ⊢
      generalize (tableF c (domsL l)).1 = d at hlen hlb hsub hkeep a1 a2 a3 hf2 ⊢
      refine (F12.outer1 k hk rows c d l hle hlen hlb hsub).trans (F12.outer2 k hk c d rows hrows (fun x hx => (hlb x hx).1) (fun r hr => ?_) ?_)
      · obtain ⟨h1, h2⟩ := hkeep r hr
        exact ⟨by omega, by omega, fun i hi => h2 i (by omega)⟩
      · have e3 : ((listsL (tableF c d).1).length : Int) = d.length := by rw [a3]; simp [listsL]
        have e4 : (tableF c d).1.length = d.length := by
          have : (listsL (tableF c d).1).length = (tableF c d).1.length := by simp [listsL]
          omega
        have g1 : (Nat.ble ((tableF c d).1).length 1000 && ((tableF c d).1).all listB) = true := by
          rw [a2, Bool.and_true, Nat.ble_eq]
          omega
        have g2 : (Nat.ble d.length 1000 && d.all listB) = true := by
          rw [Bool.and_eq_true, Nat.ble_eq, List.all_eq_true]
          exact ⟨by omega, fun x hx => (hlb x hx).1⟩
        have g3 : (Nat.ble (listsL ((tableF c d).1)).length 1000 && lensB (listsL ((tableF c d).1))) = true := by
          rw [a3, Bool.and_eq_true, Nat.ble_eq]
          refine ⟨by simp [listsL]; omega, ?_⟩
          unfold lensB listsL
          rw [List.all_eq_true]
          intro y hy
          obtain ⟨x, hx, rfl⟩ := List.mem_map.mp hy
          rw [Nat.ble_eq]
          exact (hlb x hx).2
        refine (bT hf2).trans ((bT a1).trans ((bT g1).trans ((bT g2).trans ((bT g3).trans ?_))))
        rw [a3]
        unfold sameL
        rw [decide_eq_true rfl]
theorem F13.fixed (n : Nat) (a : List Int) (c : Con) (N : Nat) (hN : N ≤ 1000) (hn : N < n) (g : FixN tableF 18 18 c ((List.range N).map fun (i : Nat) => fixV a i)) :
    F13.l1_1_1_1_1_1_0_1_0 n (F13.kt n [1, 1, 1, 1, 1, 1, 0, 1, 0]) a (N : Int) 0 c.1 c.2.1 c.2.2.1 c.2.2.2.1 c.2.2.2.2.1 c.2.2.2.2.2.1 c.2.2.2.2.2.2.1 c.2.2.2.2.2.2.2 (localC c).1 (localC c).2.1 (localC c).2.2.1 (localC c).2.2.2.1 (localC c).2.2.2.2.1 (localC c).2.2.2.2.2.1 (localC c).2.2.2.2.2.2.1 (localC c).2.2.2.2.2.2.2 [] [] = some (.v .bool true) := by
  refine (fix_loopN (fun m i l v => F13.l1_1_1_1_1_1_0_1_0 m (F13.kt n [1, 1, 1, 1, 1, 1, 0, 1, 0]) a (N : Int) i c.1 c.2.1 c.2.2.1 c.2.2.2.1 c.2.2.2.2.1 c.2.2.2.2.2.1 c.2.2.2.2.2.2.1 c.2.2.2.2.2.2.2 (localC c).1 (localC c).2.1 (localC c).2.2.1 (localC c).2.2.2.1 (localC c).2.2.2.2.1 (localC c).2.2.2.2.2.1 (localC c).2.2.2.2.2.2.1 (localC c).2.2.2.2.2.2.2 l v) a N hN _ (fun m i l v => F13.l1_1_1_1_1_1_0_1_0_eq m _ a (N : Int) i _ _ _ _ _ _ _ _ _ _ _ _ _ _ _ _ l v) n hn).trans ?_
  have hlv : ((List.range N).map fun (i : Nat) => fixV a i).length ≤ 1000 := by simp; exact hN
  generalize ((List.range N).map fun (i : Nat) => fixV a i) = v at g hlv ⊢
  refine (F13.c0 n _ _ _ _ _ _ _ _ _ _ _ _ _ _ _ _ (ones v) v).trans ?_
  have ee : (c.1, (c.2.1, (c.2.2.1, (c.2.2.2.1, (c.2.2.2.2.1, (c.2.2.2.2.2.1, (c.2.2.2.2.2.2.1, c.2.2.2.2.2.2.2))))))) = c := rfl
  have el : ((localC c).1, ((localC c).2.1, ((localC c).2.2.1, ((localC c).2.2.2.1, ((localC c).2.2.2.2.1, ((localC c).2.2.2.2.2.1, ((localC c).2.2.2.2.2.2.1, (localC c).2.2.2.2.2.2.2))))))) = localC c := rfl
  rw [ee, el]
  refine bfix (by rw [Nat.ble_eq]; simp; exact hlv) g.f1 g.hb ?_ fun ht => ⟨g.lb ht, ?_, ?_⟩
  · rw [g.ok]
    cases holdsC (localC c) v <;> rfl
  · rw [g.same ht, Bool.and_eq_true, Nat.ble_eq]
    refine ⟨by simp; exact hlv, ?_⟩
    unfold lensB
    rw [List.all_eq_true]
    intro y hy
    obtain ⟨x, _, rfl⟩ := List.mem_map.mp hy
    rfl
  · rw [g.same ht]
    unfold sameL
    rw [decide_eq_true rfl]
theorem F13.sem (k : Nat) (hk : 1001 < k) (z : Small) (n : Int) (a : List Int) (hn : kindT n = 18) (hc : conAB (18 - 1, z.2) 4 = true) (hloc : localB (conA (18 - 1, z.2) 4) = true)
    (g : FixN tableF 18 18 (conA (18 - 1, z.2) 4) ((List.range ((conA (18 - 1, z.2) 4).2.1.length + (conA (18 - 1, z.2) 4).2.2.1.length)).map fun (i : Nat) => fixV a i)) :
    callW F13.E false F13.fn k [.agg (explode SmallT z), .v (.int .u8) n, .v (.sl (.int .i8)) a] = some (.v .bool true) := by
  refine (F13.start_eq k z n a).trans ?_
  rw [hn]
  have e0 : IntKind.u8.wrap (IntKind.i64.wrap ((18 : Int) - 1)) = 18 - 1 := rfl
  rw [e0]
  have hl := conA_spec hc
  generalize conA (18 - 1, z.2) 4 = c at g hloc hl ⊢
  have h1 : c.2.1.length ≤ 4 := hl.2.2.2.1
  have h2 : c.2.2.1.length ≤ 4 := hl.2.2.2.2.1
  refine (bT hc).trans ((bT hloc).trans ?_)
  have hlen : IntKind.i64.wrap ((c.2.1.length : Int) + (c.2.2.1.length : Int)) = ((c.2.1.length + c.2.2.1.length : Nat) : Int) := by
    rw [wrap_ok (by omega) (by omega)]
    omega
  rw [hlen]
  exact F13.fixed k a c _ (by omega) (by omega) g
end Go.Proofs.YthdpbmcidebagaaGreatDoor.Ev
