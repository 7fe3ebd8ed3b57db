/-
Seat 'a': the laws Keeps and Fixed of Element and of what is reified: what their functions answer.
Conditions: numbers are of 8 bits.
-/
import Derived.Test.YthdpbmcidebagaaGreatDoorBh
set_option linter.unusedVariables false
set_option linter.unusedSimpArgs false
set_option maxRecDepth 100000
namespace Go.Proofs.YthdpbmcidebagaaGreatDoor.Ev
open Go

theorem bst2 {α : Type} {c1 c2 : Bool} {u w z : α} (h1 : c1 = true) (h2 : c2 = true) : (bif c1 then bif c2 then u else w else z) = u := by subst h1; subst h2; rfl
theorem bst3 {α : Type} {c1 c2 c3 : Bool} {u v w z : α} (h1 : c1 = true) (h2 : c2 = true) (h3 : c3 = true) : (bif c1 then bif c2 then bif !c3 then u else v else w else z) = v := by subst h1; subst h2; subst h3; rfl
theorem bst4 {α : Type} {c1 c2 c3 c4 : Bool} {u v w z : α} (h1 : c1 = true) (h2 : c2 = true) (h3 : c3 = true) (h4 : c4 = true) : (bif c1 then bif c2 then bif c3 then bif c4 then u else v else v else w else z) = u := by subst h1; subst h2; subst h3; subst h4; rfl
theorem bst5' {α : Type} {c1 c2 c3 c4 c5 : Bool} {u v w w2 z y : α} (h1 : c1 = true) (h2 : c2 = true) (h3 : c3 = true) (h4 : c4 = true) (h5 : c5 = true) : (bif c1 then bif c2 then bif c3 then bif c4 then bif !c5 then y else u else v else w2 else w else z) = u := by subst h1; subst h2; subst h3; subst h4; subst h5; rfl
theorem bst7 {α : Type} {c5 c6 c7 : Bool} {v1 v2 v3 x w1 w2 w3 w4 : α} (h5 : c5 = true) (h6 : c6 = true) (h7 : c7 = true) : (bif true then bif true then bif true then bif true then bif !c5 then v1 else bif !c6 then v2 else bif !c7 then v3 else x else w4 else w3 else w2 else w1) = x := by subst h5; subst h6; subst h7; rfl
theorem self_lt {α : Type} {a : Int} {x y : α} : (bif decide (a < a) then x else y) = y := by
  have : decide (a < a) = false := decide_eq_false (by omega)
  rw [this]
  rfl
theorem lt_nat {i n : Nat} (h : i < n) : decide ((i : Int) < (n : Int)) = true := decide_eq_true (by omega)
theorem in_nat {i n : Nat} (h : i < n) : (decide (0 ≤ (i : Int)) && decide ((i : Int) < (n : Int))) = true := by
  rw [decide_eq_true (show (0 : Int) ≤ (i : Int) by omega), decide_eq_true (show (i : Int) < (n : Int) by omega)]
  rfl
/-- A loop over places that goes on at each of them. -/
theorem pass_loop (L : Nat → Int → Option AV) (len m : Nat) (X : Option AV) (hl : len ≤ 1000000000) (hend : ∀ n, L (n + 1) (len : Int) = X)
    (hstep : ∀ (n i : Nat), m ≤ n → i < len → L (n + 1) (i : Int) = L n (IntKind.i64.wrap ((i : Int) + 1))) (n : Nat) (hn : m + len < n) : L n 0 = X := by
  have key : ∀ (d i n : Nat), i + d = len → m + d < n → L n (i : Int) = X := by
    intro d
    induction d with
    | zero =>
      intro i n h1 h2
      obtain ⟨n', rfl⟩ : ∃ n', n = n' + 1 := ⟨n - 1, by omega⟩
      obtain rfl : i = len := by omega
      exact hend n'
    | succ d ih =>
      intro i n h1 h2
      obtain ⟨n', rfl⟩ : ∃ n', n = n' + 1 := ⟨n - 1, by omega⟩
      rw [hstep n' i (by omega) (by omega), wrap_ok (by omega) (by omega)]
      have : (i : Int) + 1 = ((i + 1 : Nat) : Int) := by omega
      rw [this]
      exact ih (i + 1) n' (by omega) (by omega)
  exact key len 0 n (by omega) (by omega)
theorem contains_mem (xs : List Int) (v : Int) : containsL xs v = decide (v ∈ xs) := by
  unfold containsL indexL
  rw [idx_any _ _ _ (by omega), Bool.eq_iff_iff, List.any_eq_true, decide_eq_true_iff]
  constructor
  · rintro ⟨x, hx, e⟩
    have : v = x := of_decide_eq_true e
    rwa [this]
  · intro h
    exact ⟨v, h, decide_eq_true rfl⟩
theorem getD_mem {α : Type} {l : List α} {i : Nat} (h : i < l.length) (d : α) : l.getD i d ∈ l := by
  rw [List.getD_eq_getElem?_getD, List.getElem?_eq_getElem h]
  exact List.getElem_mem _
theorem rows_len {c : Con} {a b : List Int} (la : a.length ≤ 6) (lb : b.length ≤ 6) : (rowsE c a b).length ≤ 36 := by
  unfold rowsE
  refine Nat.le_trans (List.length_filter_le _ _) ?_
  unfold prodL
  rw [List.length_map, List.length_range]
  have : prodN [a, b] = a.length * b.length := by simp [prodN]
  rw [this]
  exact Nat.le_trans (Nat.mul_le_mul la lb) (by decide)
/-- What is left, filtered again: all is left. -/
structure KeptG (F : Con → List Dom → List Dom × Bool) (c : Con) (a b : List Int) (p q : List Int) : Prop where
  op : okL p = true
  oq : okL q = true
  np : near3 p
  nq : near3 q
  f : F c [(ofD a).1, (ofD b).1] = ([(ofD p).1, (ofD q).1], true)
  sp : ∀ x, x ∈ p → x ∈ a
  sq : ∀ x, x ∈ q → x ∈ b
  rows : ∀ r ∈ rowsE c a b, ∃ x y, r = [x, y] ∧ x ∈ p ∧ y ∈ q
  again : ∃ p2 q2, okL p2 = true ∧ okL q2 = true ∧ F c [(ofD p).1, (ofD q).1] = ([(ofD p2).1, (ofD q2).1], true) ∧ listD (ofD p2).1 = listD (ofD p).1 ∧ listD (ofD q2).1 = listD (ofD q).1
theorem two_keeps {c : Con} {lo hi : Int} {F : Con → List Dom → List Dom × Bool} {R : Int → Int → Prop} (h : TwoC c lo hi F R) {a b : List Int} (ha : okL a = true) (hb : okL b = true) (na : near3 a) (nb : near3 b) :
    (rowsE c a b = [] ∧ F c [(ofD a).1, (ofD b).1] = ([], false)) ∨ ∃ p q, KeptG F c a b p q := by
  have ea := (okL_iff.mp ha).1
  have eb := (okL_iff.mp hb).1
  rcases two_out h ha hb na nb with ⟨he, e⟩ | ⟨p, q, he, o1, o2, n1, n2, hp, hq, e⟩
  · left
    refine ⟨List.eq_nil_iff_forall_not_mem.mpr fun r hr => ?_, e⟩
    obtain ⟨x, y, hx, hy, _, g⟩ := (two_rows h ea eb r).mp hr
    exact he x y hx hy g
  · right
    refine ⟨p, q, o1, o2, n1, n2, e, fun x hx => ((hp x).mp hx).1, fun x hx => ((hq x).mp hx).1, fun r hr => ?_, ?_⟩
    · obtain ⟨x, y, hx, hy, rfl, g⟩ := (two_rows h ea eb r).mp hr
      exact ⟨x, y, rfl, (hp x).mpr ⟨hx, y, hy, g⟩, (hq y).mpr ⟨hy, x, hx, g⟩⟩
    · have back : ∀ x, x ∈ p → ∃ y, y ∈ q ∧ R x y := fun x hx => by
        obtain ⟨g1, y, g2, g3⟩ := (hp x).mp hx
        exact ⟨y, (hq y).mpr ⟨g2, x, g1, g3⟩, g3⟩
      have back2 : ∀ y, y ∈ q → ∃ x, x ∈ p ∧ R x y := fun y hy => by
        obtain ⟨g1, x, g2, g3⟩ := (hq y).mp hy
        exact ⟨x, (hp x).mpr ⟨g2, y, g1, g3⟩, g3⟩
      rcases two_out h o1 o2 n1 n2 with ⟨he2, _⟩ | ⟨p2, q2, _, o3, o4, _, _, hp2, hq2, e2⟩
      · exfalso
        obtain ⟨x, hx⟩ := List.exists_mem_of_ne_nil p he
        obtain ⟨y, hy, g⟩ := back x hx
        exact he2 x y hx hy g
      · refine ⟨p2, q2, o3, o4, e2, ?_, ?_⟩
        · refine rising_ext (list_ofD o3).2 (list_ofD o1).2 fun v => ?_
          rw [(list_ofD o3).1, (list_ofD o1).1, hp2]
          exact ⟨fun h => h.1, fun h => ⟨h, back v h⟩⟩
        · refine rising_ext (list_ofD o4).2 (list_ofD o2).2 fun v => ?_
          rw [(list_ofD o4).1, (list_ofD o2).1, hq2]
          exact ⟨fun h => h.1, fun h => ⟨h, back2 v h⟩⟩
theorem rising_len : ∀ (l : List Int) (m M : Int), m ≤ M + 1 → Rising l → (∀ x ∈ l, m ≤ x ∧ x ≤ M) → (l.length : Int) ≤ M - m + 1
  | [], m, M, h, _, _ => by simp only [List.length_nil]; omega
  | x :: xs, m, M, h, hr, hx => by
    have h0 := hx x (by simp)
    obtain ⟨h1, h2⟩ := List.pairwise_cons.mp hr
    have := rising_len xs (x + 1) M (by omega) h2 fun y hy => by
      have g1 := h1 y hy
      have g2 := hx y (List.mem_cons_of_mem _ hy)
      omega
    simp only [List.length_cons]
    omega
theorem list_len {p : List Int} (hp : okL p = true) (np : near3 p) : (listD (ofD p).1).length ≤ 2001 := by
  have := rising_len (listD (ofD p).1) (-1000) 1000 (by omega) (list_ofD hp).2 fun x hx => np x (((list_ofD hp).1 x).mp hx)
  omega
theorem lens_near {p q : List Int} (hp : (listD (ofD p).1).length ≤ 2001) (hq : (listD (ofD q).1).length ≤ 2001) : (Nat.ble (listsL [(ofD p).1, (ofD q).1]).length 1000 && lensB (listsL [(ofD p).1, (ofD q).1])) = true := by
  have h1 : Nat.ble (listD (ofD p).1).length 1000000 = true := by rw [Nat.ble_eq]; omega
  have h2 : Nat.ble (listD (ofD q).1).length 1000000 = true := by rw [Nat.ble_eq]; omega
  unfold lensB listsL
  simp only [List.map_cons, List.map_nil, List.all_cons, List.all_nil, h1, h2]
  rfl
theorem all_two {p q : List Int} (hp : okL p = true) (hq : okL q = true) : (Nat.ble [(ofD p).1, (ofD q).1].length 1000 && [(ofD p).1, (ofD q).1].all listB) = true := by
  simp only [List.all_cons, List.all_nil, listB_of hp, listB_of hq]
  rfl

/-! ### F6 -/
theorem F6.inner1 (n : Nat) (K : Conts) (rows : List (List Int)) (d : List Dom) (x : List Int) (len i : Int) (ls : List Int) (c : Con) (l : List (List Int)) (hl : ls.length ≤ 1000000) (h : ∀ v ∈ ls, v ∈ x) (m : Nat) (hm : ls.length < m) :
    F6.l1_1_1_1_1_1_1_0_1_0_0_1_1_0_0_1_1_0 m (F6.k_l1_1_1_1_1_1_1_0_1_0 n K [1, 1, 0, 0, 1, 1, 0]) rows d x len i ls (ls.length : Int) 0 c.1 c.2.1 c.2.2.1 c.2.2.2.1 c.2.2.2.2.1 c.2.2.2.2.2.1 c.2.2.2.2.2.2.1 c.2.2.2.2.2.2.2 l =
    F6.l1_1_1_1_1_1_1_0_1_0 n K rows d len (IntKind.i64.wrap (i + 1)) c.1 c.2.1 c.2.2.1 c.2.2.2.1 c.2.2.2.2.1 c.2.2.2.2.2.1 c.2.2.2.2.2.2.1 c.2.2.2.2.2.2.2 l := by
  refine pass_loop (fun m j => F6.l1_1_1_1_1_1_1_0_1_0_0_1_1_0_0_1_1_0 m (F6.k_l1_1_1_1_1_1_1_0_1_0 n K [1, 1, 0, 0, 1, 1, 0]) rows d x len i ls (ls.length : Int) j c.1 c.2.1 c.2.2.1 c.2.2.2.1 c.2.2.2.2.1 c.2.2.2.2.2.1 c.2.2.2.2.2.2.1 c.2.2.2.2.2.2.2 l) ls.length 0 _ (by omega) (fun m => ?_) (fun m j _ hj => ?_) m (by omega)
  · exact (F6.l1_1_1_1_1_1_1_0_1_0_0_1_1_0_0_1_1_0_eq m _ rows d x len i ls _ _ _ _ _ _ _ _ _ _ _).trans (self_lt.trans (F6.c2 n K rows d len i _ _ _ _ _ _ _ _ l))
  · refine (F6.l1_1_1_1_1_1_1_0_1_0_0_1_1_0_0_1_1_0_eq m _ rows d x len i ls _ _ _ _ _ _ _ _ _ _ _).trans (bst3 (lt_nat hj) (in_nat hj) ?_)
    rw [contains_mem, Int.toNat_natCast]
    exact decide_eq_true (h _ (getD_mem hj 0))
theorem F6.outer1 (k : Nat) (hk : 10000 ≤ k) (rows : List (List Int)) (c : Con) (a b p q : List Int) (hp : okL p = true) (hq : okL q = true) (lp : (listD (ofD p).1).length ≤ 2001) (lq : (listD (ofD q).1).length ≤ 2001) (sp : ∀ x, x ∈ p → x ∈ a) (sq : ∀ x, x ∈ q → x ∈ b) :
    F6.l1_1_1_1_1_1_1_0_1_0 k (F6.kt k [1, 1, 1, 1, 1, 1, 1, 0, 1, 0]) rows [(ofD p).1, (ofD q).1] ([a, b].length : Int) 0 c.1 c.2.1 c.2.2.1 c.2.2.2.1 c.2.2.2.2.1 c.2.2.2.2.2.1 c.2.2.2.2.2.2.1 c.2.2.2.2.2.2.2 [a, b] =
    F6.l1_1_1_1_1_1_1_1_0_1_0 k (F6.kt k [1, 1, 1, 1, 1, 1, 1, 1, 0, 1, 0]) [(ofD p).1, (ofD q).1] rows (rows.length : Int) 0 c.1 c.2.1 c.2.2.1 c.2.2.2.1 c.2.2.2.2.1 c.2.2.2.2.2.1 c.2.2.2.2.2.2.1 c.2.2.2.2.2.2.2 := by
  refine pass_loop (fun m i => F6.l1_1_1_1_1_1_1_0_1_0 m (F6.kt k [1, 1, 1, 1, 1, 1, 1, 0, 1, 0]) rows [(ofD p).1, (ofD q).1] ([a, b].length : Int) i c.1 c.2.1 c.2.2.1 c.2.2.2.1 c.2.2.2.2.1 c.2.2.2.2.2.1 c.2.2.2.2.2.2.1 c.2.2.2.2.2.2.2 [a, b]) [a, b].length 3000 _ (Nat.le_trans (show 2 ≤ 1000000 by omega) (by omega)) (fun m => ?_) (fun m i hm hi => ?_) k (show 3000 + 2 < k by omega)
  · exact (F6.l1_1_1_1_1_1_1_0_1_0_eq m _ rows _ _ _ _ _ _ _ _ _ _ _ _).trans (self_lt.trans (F6.c0 k rows _ _ _ _ _ _ _ _ _))
  · have hi2 : i = 0 ∨ i = 1 := by
      have : i < 2 := hi
      omega
    have both : ∀ y : Dom, y = (ofD p).1 ∨ y = (ofD q).1 → listB y = true := fun y hy => by
      rcases hy with rfl | rfl
      · exact listB_of hp
      · exact listB_of hq
    have hb : listB ([(ofD p).1, (ofD q).1].getD (i : Int).toNat ((0 : Int), ([], ((0 : Int), ((0 : Int), (0 : Int)))))) = true := by
      rcases hi2 with rfl | rfl
      · exact listB_of hp
      · exact listB_of hq
    refine (F6.l1_1_1_1_1_1_1_0_1_0_eq m _ rows _ _ _ _ _ _ _ _ _ _ _ _).trans ((bst4 (lt_nat hi) (in_nat hi) (in_nat (show i < [(ofD p).1, (ofD q).1].length from hi)) hb).trans ?_)
    rcases hi2 with rfl | rfl
    · exact F6.inner1 m _ rows _ a _ _ (listD (ofD p).1) c [a, b] (by omega) (fun v hv => sp v (((list_ofD hp).1 v).mp hv)) m (by omega)
    · exact F6.inner1 m _ rows _ b _ _ (listD (ofD q).1) c [a, b] (by omega) (fun v hv => sq v (((list_ofD hq).1 v).mp hv)) m (by omega)
theorem F6.inner2 (n : Nat) (K : Conts) (p q : List Int) (hp : okL p = true) (hq : okL q = true) (rows : List (List Int)) (len i x y : Int) (hx : x ∈ p) (hy : y ∈ q) (c : Con) (m : Nat) (hm : 3 < m) :
    F6.l1_1_1_1_1_1_1_1_0_1_0_0_1_1_0_0_1_1_0 m (F6.k_l1_1_1_1_1_1_1_1_0_1_0 n K [1, 1, 0, 0, 1, 1, 0]) [(ofD p).1, (ofD q).1] rows len i [x, y] ([x, y].length : Int) 0 c.1 c.2.1 c.2.2.1 c.2.2.2.1 c.2.2.2.2.1 c.2.2.2.2.2.1 c.2.2.2.2.2.2.1 c.2.2.2.2.2.2.2 =
    F6.l1_1_1_1_1_1_1_1_0_1_0 n K [(ofD p).1, (ofD q).1] rows len (IntKind.i64.wrap (i + 1)) c.1 c.2.1 c.2.2.1 c.2.2.2.1 c.2.2.2.2.1 c.2.2.2.2.2.1 c.2.2.2.2.2.2.1 c.2.2.2.2.2.2.2 := by
  refine pass_loop (fun m j => F6.l1_1_1_1_1_1_1_1_0_1_0_0_1_1_0_0_1_1_0 m (F6.k_l1_1_1_1_1_1_1_1_0_1_0 n K [1, 1, 0, 0, 1, 1, 0]) [(ofD p).1, (ofD q).1] rows len i [x, y] ([x, y].length : Int) j c.1 c.2.1 c.2.2.1 c.2.2.2.1 c.2.2.2.2.1 c.2.2.2.2.2.1 c.2.2.2.2.2.2.1 c.2.2.2.2.2.2.2) [x, y].length 0 _ (Nat.le_trans (show 2 ≤ 1000000 by omega) (by omega)) (fun m => ?_) (fun m j _ hj => ?_) m (show 0 + 2 < m by omega)
  · exact (F6.l1_1_1_1_1_1_1_1_0_1_0_0_1_1_0_0_1_1_0_eq m _ _ rows len i _ _ _ _ _ _ _ _ _ _ _).trans (self_lt.trans (F6.c6 n K _ rows len i _ _ _ _ _ _ _ _))
  · have hj2 : j = 0 ∨ j = 1 := by
      have : j < 2 := hj
      omega
    refine (F6.l1_1_1_1_1_1_1_1_0_1_0_0_1_1_0_0_1_1_0_eq m _ _ rows len i _ _ _ _ _ _ _ _ _ _ _).trans (bst5' (lt_nat hj) (in_nat hj) (in_nat (show j < [(ofD p).1, (ofD q).1].length from hj)) ?_ ?_)
    · rcases hj2 with rfl | rfl
      · exact nearB_wf (wf_ofD hp)
      · exact nearB_wf (wf_ofD hq)
    · rcases hj2 with rfl | rfl
      · exact (has_ofD hp x).trans (decide_eq_true hx)
      · exact (has_ofD hq y).trans (decide_eq_true hy)
theorem F6.outer2 (k : Nat) (hk : 10000 ≤ k) (c : Con) (p q : List Int) (hp : okL p = true) (hq : okL q = true) (rows : List (List Int)) (hl : rows.length ≤ 1000) (hr : ∀ r ∈ rows, ∃ x y, r = [x, y] ∧ x ∈ p ∧ y ∈ q) {v : Option AV}
    (hX : exitK (F6.kt k [1, 1, 1, 1, 1, 1, 1, 1, 0, 1, 0]) 4 ⟨slots 119 [(5, .pb 0 0), (9, .v (.sl (.pair (.int .i64) (.pair (.sl (.int .u64)) (.pair (.int .i64) (.pair (.int .i64) (.int .i64)))))) [(ofD p).1, (ofD q).1])], [.box [.v (.int .i64) c.1, .v (.sl (.int .i64)) c.2.1, .v (.sl (.int .i64)) c.2.2.1, .v (.sl (.int .i64)) c.2.2.2.1, .v (.sl (.int .i64)) c.2.2.2.2.1, .v (.sl (.int .i64)) c.2.2.2.2.2.1, .v (.int .i64) c.2.2.2.2.2.2.1, .v (.sl (.sl (.int .i64))) c.2.2.2.2.2.2.2]]⟩ = v) :
    F6.l1_1_1_1_1_1_1_1_0_1_0 k (F6.kt k [1, 1, 1, 1, 1, 1, 1, 1, 0, 1, 0]) [(ofD p).1, (ofD q).1] rows (rows.length : Int) 0 c.1 c.2.1 c.2.2.1 c.2.2.2.1 c.2.2.2.2.1 c.2.2.2.2.2.1 c.2.2.2.2.2.2.1 c.2.2.2.2.2.2.2 = v := by
  refine pass_loop (fun m i => F6.l1_1_1_1_1_1_1_1_0_1_0 m (F6.kt k [1, 1, 1, 1, 1, 1, 1, 1, 0, 1, 0]) [(ofD p).1, (ofD q).1] rows (rows.length : Int) i c.1 c.2.1 c.2.2.1 c.2.2.2.1 c.2.2.2.2.1 c.2.2.2.2.2.1 c.2.2.2.2.2.2.1 c.2.2.2.2.2.2.2) rows.length 10 _ (by omega) (fun m => ?_) (fun m i hm hi => ?_) k (by omega)
  · exact (F6.l1_1_1_1_1_1_1_1_0_1_0_eq m _ _ rows _ _ _ _ _ _ _ _ _ _).trans (self_lt.trans hX)
  · refine (F6.l1_1_1_1_1_1_1_1_0_1_0_eq m _ _ rows _ _ _ _ _ _ _ _ _ _).trans ((bst2 (lt_nat hi) (in_nat hi)).trans ?_)
    rw [Int.toNat_natCast]
    obtain ⟨x, y, e, hx, hy⟩ := hr _ (getD_mem hi [])
    rw [e]
    exact F6.inner2 m _ p q hp hq rows _ _ x y hx hy c m (by omega)
theorem F6.sem (k : Nat) (hk : 10000 ≤ k) (z : Case) (n : Int) (hz : U8s z.1.2.1) (hz2 : U8s z.1.2.2.1) (hn : 0 ≤ n) : callW F6.E false F6.fn k [.agg (explode CaseT z), .v (.int .u8) n] = some (.v .bool true) := by
  have st := F6.start_eq k z n
  obtain ⟨hm, hc, a, b, e, sa, sb⟩ := makeE z hz
  have hkE := kindE_eq n
  rw [hkE] at st
  rw [hm, e] at st
  generalize makeC z 11 = c at st hc
  have ht := elem_two hc
  obtain ⟨h1, h2⟩ := two_sol ht sa.len sb.len sa.ne sb.ne
  have ha := smallDom_ok sa (by omega)
  have hb := smallDom_ok sb (by omega)
  have na : near3 a := fun x hx => by have := sa.abs x hx; omega
  have nb : near3 b := fun x hx => by have := sb.abs x hx; omega
  have ed : domsL [a, b] = [(ofD a).1, (ofD b).1] := rfl
  have hf := ht.fits a b ha hb
  have e1 : Nat.ble [a, b].length 1000 = true := rfl
  rw [h1, h2, ed, hf, e1] at st
  rcases two_keeps ht ha hb na nb with ⟨hr, e2⟩ | ⟨p, q, kp⟩
  · rw [e2, hr] at st
    exact st
  · rw [kp.f] at st
    have st := st.trans (bst7 (c5 := true) (c6 := true) (c7 := decide ((([(ofD p).1, (ofD q).1] : List Dom).length : Int) = (([a, b] : List (List Int)).length : Int))) rfl rfl rfl)
    obtain ⟨p2, q2, o3, o4, f2, s1, s2⟩ := kp.again
    have lp := list_len kp.op kp.np
    have lq := list_len kp.oq kp.nq
    have lr := rows_len (c := c) sa.len sb.len
    refine (st.trans (F6.outer1 k hk (rowsE c a b) c a b p q kp.op kp.oq lp lq kp.sp kp.sq)).trans (F6.outer2 k hk c p q kp.op kp.oq (rowsE c a b) (by omega) kp.rows ?_)
    refine (F6.c4 k [(ofD p).1, (ofD q).1] c.1 c.2.1 c.2.2.1 c.2.2.2.1 c.2.2.2.2.1 c.2.2.2.2.2.1 c.2.2.2.2.2.2.1 c.2.2.2.2.2.2.2).trans ?_
    have ee : (c.1, (c.2.1, (c.2.2.1, (c.2.2.2.1, (c.2.2.2.2.1, (c.2.2.2.2.2.1, (c.2.2.2.2.2.2.1, c.2.2.2.2.2.2.2))))))) = c := rfl
    rw [ee, ht.fits p q kp.op kp.oq, f2]
    have g3 := lens_near (p := p2) (q := q2) (by rw [s1]; exact lp) (by rw [s2]; exact lq)
    have g4 : sameL (listsL [(ofD p2).1, (ofD q2).1]) (listsL [(ofD p).1, (ofD q).1]) = true := by
      unfold sameL listsL
      exact decide_eq_true (by simp only [List.map_cons, List.map_nil, s1, s2])
    have g1 := all_two o3 o4
    have g2 := all_two kp.op kp.oq
    show (bif (Nat.ble [(ofD p2).1, (ofD q2).1].length 1000 && [(ofD p2).1, (ofD q2).1].all listB) then bif (Nat.ble [(ofD p).1, (ofD q).1].length 1000 && [(ofD p).1, (ofD q).1].all listB) then bif (Nat.ble (listsL [(ofD p2).1, (ofD q2).1]).length 1000 && lensB (listsL [(ofD p2).1, (ofD q2).1])) then some (AV.v .bool (sameL (listsL [(ofD p2).1, (ofD q2).1]) (listsL [(ofD p).1, (ofD q).1]))) else none else none else none) = _
    rw [g1, g2, g3, g4]
    rfl

/-! ### F14 -/
theorem F14.inner1 (n : Nat) (K : Conts) (rows : List (List Int)) (d : List Dom) (x : List Int) (len i : Int) (ls : List Int) (c : Con) (l : List (List Int)) (hl : ls.length ≤ 1000000) (h : ∀ v ∈ ls, v ∈ x) (m : Nat) (hm : ls.length < m) :
    F14.l1_1_1_1_1_1_1_0_1_0_0_1_1_0_0_1_1_0 m (F14.k_l1_1_1_1_1_1_1_0_1_0 n K [1, 1, 0, 0, 1, 1, 0]) rows d x len i ls (ls.length : Int) 0 c.1 c.2.1 c.2.2.1 c.2.2.2.1 c.2.2.2.2.1 c.2.2.2.2.2.1 c.2.2.2.2.2.2.1 c.2.2.2.2.2.2.2 l =
    F14.l1_1_1_1_1_1_1_0_1_0 n K rows d len (IntKind.i64.wrap (i + 1)) c.1 c.2.1 c.2.2.1 c.2.2.2.1 c.2.2.2.2.1 c.2.2.2.2.2.1 c.2.2.2.2.2.2.1 c.2.2.2.2.2.2.2 l := by
  refine pass_loop (fun m j => F14.l1_1_1_1_1_1_1_0_1_0_0_1_1_0_0_1_1_0 m (F14.k_l1_1_1_1_1_1_1_0_1_0 n K [1, 1, 0, 0, 1, 1, 0]) rows d x len i ls (ls.length : Int) j c.1 c.2.1 c.2.2.1 c.2.2.2.1 c.2.2.2.2.1 c.2.2.2.2.2.1 c.2.2.2.2.2.2.1 c.2.2.2.2.2.2.2 l) ls.length 0 _ (by omega) (fun m => ?_) (fun m j _ hj => ?_) m (by omega)
  · exact (F14.l1_1_1_1_1_1_1_0_1_0_0_1_1_0_0_1_1_0_eq m _ rows d x len i ls _ _ _ _ _ _ _ _ _ _ _).trans (self_lt.trans (F14.c2 n K rows d len i _ _ _ _ _ _ _ _ l))
  · refine (F14.l1_1_1_1_1_1_1_0_1_0_0_1_1_0_0_1_1_0_eq m _ rows d x len i ls _ _ _ _ _ _ _ _ _ _ _).trans (bst3 (lt_nat hj) (in_nat hj) ?_)
    rw [contains_mem, Int.toNat_natCast]
    exact decide_eq_true (h _ (getD_mem hj 0))
theorem F14.outer1 (k : Nat) (hk : 10000 ≤ k) (rows : List (List Int)) (c : Con) (a b p q : List Int) (hp : okL p = true) (hq : okL q = true) (lp : (listD (ofD p).1).length ≤ 2001) (lq : (listD (ofD q).1).length ≤ 2001) (sp : ∀ x, x ∈ p → x ∈ a) (sq : ∀ x, x ∈ q → x ∈ b) :
    F14.l1_1_1_1_1_1_1_0_1_0 k (F14.kt k [1, 1, 1, 1, 1, 1, 1, 0, 1, 0]) rows [(ofD p).1, (ofD q).1] ([a, b].length : Int) 0 c.1 c.2.1 c.2.2.1 c.2.2.2.1 c.2.2.2.2.1 c.2.2.2.2.2.1 c.2.2.2.2.2.2.1 c.2.2.2.2.2.2.2 [a, b] =
    F14.l1_1_1_1_1_1_1_1_0_1_0 k (F14.kt k [1, 1, 1, 1, 1, 1, 1, 1, 0, 1, 0]) [(ofD p).1, (ofD q).1] rows (rows.length : Int) 0 c.1 c.2.1 c.2.2.1 c.2.2.2.1 c.2.2.2.2.1 c.2.2.2.2.2.1 c.2.2.2.2.2.2.1 c.2.2.2.2.2.2.2 := by
  refine pass_loop (fun m i => F14.l1_1_1_1_1_1_1_0_1_0 m (F14.kt k [1, 1, 1, 1, 1, 1, 1, 0, 1, 0]) rows [(ofD p).1, (ofD q).1] ([a, b].length : Int) i c.1 c.2.1 c.2.2.1 c.2.2.2.1 c.2.2.2.2.1 c.2.2.2.2.2.1 c.2.2.2.2.2.2.1 c.2.2.2.2.2.2.2 [a, b]) [a, b].length 3000 _ (Nat.le_trans (show 2 ≤ 1000000 by omega) (by omega)) (fun m => ?_) (fun m i hm hi => ?_) k (show 3000 + 2 < k by omega)
  · exact (F14.l1_1_1_1_1_1_1_0_1_0_eq m _ rows _ _ _ _ _ _ _ _ _ _ _ _).trans (self_lt.trans (F14.c0 k rows _ _ _ _ _ _ _ _ _))
  · have hi2 : i = 0 ∨ i = 1 := by
      have : i < 2 := hi
      omega
    have both : ∀ y : Dom, y = (ofD p).1 ∨ y = (ofD q).1 → listB y = true := fun y hy => by
      rcases hy with rfl | rfl
      · exact listB_of hp
      · exact listB_of hq
    have hb : listB ([(ofD p).1, (ofD q).1].getD (i : Int).toNat ((0 : Int), ([], ((0 : Int), ((0 : Int), (0 : Int)))))) = true := by
      rcases hi2 with rfl | rfl
      · exact listB_of hp
      · exact listB_of hq
    refine (F14.l1_1_1_1_1_1_1_0_1_0_eq m _ rows _ _ _ _ _ _ _ _ _ _ _ _).trans ((bst4 (lt_nat hi) (in_nat hi) (in_nat (show i < [(ofD p).1, (ofD q).1].length from hi)) hb).trans ?_)
    rcases hi2 with rfl | rfl
    · exact F14.inner1 m _ rows _ a _ _ (listD (ofD p).1) c [a, b] (by omega) (fun v hv => sp v (((list_ofD hp).1 v).mp hv)) m (by omega)
    · exact F14.inner1 m _ rows _ b _ _ (listD (ofD q).1) c [a, b] (by omega) (fun v hv => sq v (((list_ofD hq).1 v).mp hv)) m (by omega)
theorem F14.inner2 (n : Nat) (K : Conts) (p q : List Int) (hp : okL p = true) (hq : okL q = true) (rows : List (List Int)) (len i x y : Int) (hx : x ∈ p) (hy : y ∈ q) (c : Con) (m : Nat) (hm : 3 < m) :
    F14.l1_1_1_1_1_1_1_1_0_1_0_0_1_1_0_0_1_1_0 m (F14.k_l1_1_1_1_1_1_1_1_0_1_0 n K [1, 1, 0, 0, 1, 1, 0]) [(ofD p).1, (ofD q).1] rows len i [x, y] ([x, y].length : Int) 0 c.1 c.2.1 c.2.2.1 c.2.2.2.1 c.2.2.2.2.1 c.2.2.2.2.2.1 c.2.2.2.2.2.2.1 c.2.2.2.2.2.2.2 =
    F14.l1_1_1_1_1_1_1_1_0_1_0 n K [(ofD p).1, (ofD q).1] rows len (IntKind.i64.wrap (i + 1)) c.1 c.2.1 c.2.2.1 c.2.2.2.1 c.2.2.2.2.1 c.2.2.2.2.2.1 c.2.2.2.2.2.2.1 c.2.2.2.2.2.2.2 := by
  refine pass_loop (fun m j => F14.l1_1_1_1_1_1_1_1_0_1_0_0_1_1_0_0_1_1_0 m (F14.k_l1_1_1_1_1_1_1_1_0_1_0 n K [1, 1, 0, 0, 1, 1, 0]) [(ofD p).1, (ofD q).1] rows len i [x, y] ([x, y].length : Int) j c.1 c.2.1 c.2.2.1 c.2.2.2.1 c.2.2.2.2.1 c.2.2.2.2.2.1 c.2.2.2.2.2.2.1 c.2.2.2.2.2.2.2) [x, y].length 0 _ (Nat.le_trans (show 2 ≤ 1000000 by omega) (by omega)) (fun m => ?_) (fun m j _ hj => ?_) m (show 0 + 2 < m by omega)
  · exact (F14.l1_1_1_1_1_1_1_1_0_1_0_0_1_1_0_0_1_1_0_eq m _ _ rows len i _ _ _ _ _ _ _ _ _ _ _).trans (self_lt.trans (F14.c6 n K _ rows len i _ _ _ _ _ _ _ _))
  · have hj2 : j = 0 ∨ j = 1 := by
      have : j < 2 := hj
      omega
    refine (F14.l1_1_1_1_1_1_1_1_0_1_0_0_1_1_0_0_1_1_0_eq m _ _ rows len i _ _ _ _ _ _ _ _ _ _ _).trans (bst5' (lt_nat hj) (in_nat hj) (in_nat (show j < [(ofD p).1, (ofD q).1].length from hj)) ?_ ?_)
    · rcases hj2 with rfl | rfl
      · exact nearB_wf (wf_ofD hp)
      · exact nearB_wf (wf_ofD hq)
    · rcases hj2 with rfl | rfl
      · exact (has_ofD hp x).trans (decide_eq_true hx)
      · exact (has_ofD hq y).trans (decide_eq_true hy)
theorem F14.outer2 (k : Nat) (hk : 10000 ≤ k) (c : Con) (p q : List Int) (hp : okL p = true) (hq : okL q = true) (rows : List (List Int)) (hl : rows.length ≤ 1000) (hr : ∀ r ∈ rows, ∃ x y, r = [x, y] ∧ x ∈ p ∧ y ∈ q) {v : Option AV}
    (hX : exitK (F14.kt k [1, 1, 1, 1, 1, 1, 1, 1, 0, 1, 0]) 4 ⟨slots 119 [(5, .pb 0 0), (9, .v (.sl (.pair (.int .i64) (.pair (.sl (.int .u64)) (.pair (.int .i64) (.pair (.int .i64) (.int .i64)))))) [(ofD p).1, (ofD q).1])], [.box [.v (.int .i64) c.1, .v (.sl (.int .i64)) c.2.1, .v (.sl (.int .i64)) c.2.2.1, .v (.sl (.int .i64)) c.2.2.2.1, .v (.sl (.int .i64)) c.2.2.2.2.1, .v (.sl (.int .i64)) c.2.2.2.2.2.1, .v (.int .i64) c.2.2.2.2.2.2.1, .v (.sl (.sl (.int .i64))) c.2.2.2.2.2.2.2]]⟩ = v) :
    F14.l1_1_1_1_1_1_1_1_0_1_0 k (F14.kt k [1, 1, 1, 1, 1, 1, 1, 1, 0, 1, 0]) [(ofD p).1, (ofD q).1] rows (rows.length : Int) 0 c.1 c.2.1 c.2.2.1 c.2.2.2.1 c.2.2.2.2.1 c.2.2.2.2.2.1 c.2.2.2.2.2.2.1 c.2.2.2.2.2.2.2 = v := by
  refine pass_loop (fun m i => F14.l1_1_1_1_1_1_1_1_0_1_0 m (F14.kt k [1, 1, 1, 1, 1, 1, 1, 1, 0, 1, 0]) [(ofD p).1, (ofD q).1] rows (rows.length : Int) i c.1 c.2.1 c.2.2.1 c.2.2.2.1 c.2.2.2.2.1 c.2.2.2.2.2.1 c.2.2.2.2.2.2.1 c.2.2.2.2.2.2.2) rows.length 10 _ (by omega) (fun m => ?_) (fun m i hm hi => ?_) k (by omega)
  · exact (F14.l1_1_1_1_1_1_1_1_0_1_0_eq m _ _ rows _ _ _ _ _ _ _ _ _ _).trans (self_lt.trans hX)
  · refine (F14.l1_1_1_1_1_1_1_1_0_1_0_eq m _ _ rows _ _ _ _ _ _ _ _ _ _).trans ((bst2 (lt_nat hi) (in_nat hi)).trans ?_)
    rw [Int.toNat_natCast]
    obtain ⟨x, y, e, hx, hy⟩ := hr _ (getD_mem hi [])
    rw [e]
    exact F14.inner2 m _ p q hp hq rows _ _ x y hx hy c m (by omega)
theorem F14.sem (k : Nat) (hk : 10000 ≤ k) (z : Case) (n : Int) (hz : U8s z.1.2.1) (hz2 : U8s z.1.2.2.1) (hn : 0 ≤ n) : callW F14.E false F14.fn k [.agg (explode CaseT z), .v (.int .u8) n] = some (.v .bool true) := by
  have st := F14.start_eq k z n
  obtain ⟨hm, hc, a, b, e, sa, sb⟩ := makeR z (kindR n) (kindR_cases hn) hz hz2
  generalize kindR n = kk at st hm hc e
  rw [hm, e] at st
  generalize makeC z kk = c at st hc
  have ht := reif_two hc
  obtain ⟨h1, h2⟩ := two_sol ht sa.len sb.len sa.ne sb.ne
  have ha := smallDom_ok sa (by omega)
  have hb := smallDom_ok sb (by omega)
  have na : near3 a := fun x hx => by have := sa.abs x hx; omega
  have nb : near3 b := fun x hx => by have := sb.abs x hx; omega
  have ed : domsL [a, b] = [(ofD a).1, (ofD b).1] := rfl
  have hf := ht.fits a b ha hb
  have e1 : Nat.ble [a, b].length 1000 = true := rfl
  rw [h1, h2, ed, hf, e1] at st
  rcases two_keeps ht ha hb na nb with ⟨hr, e2⟩ | ⟨p, q, kp⟩
  · rw [e2, hr] at st
    exact st
  · rw [kp.f] at st
    have st := st.trans (bst7 (c5 := true) (c6 := true) (c7 := decide ((([(ofD p).1, (ofD q).1] : List Dom).length : Int) = (([a, b] : List (List Int)).length : Int))) rfl rfl rfl)
    obtain ⟨p2, q2, o3, o4, f2, s1, s2⟩ := kp.again
    have lp := list_len kp.op kp.np
    have lq := list_len kp.oq kp.nq
    have lr := rows_len (c := c) sa.len sb.len
    refine (st.trans (F14.outer1 k hk (rowsE c a b) c a b p q kp.op kp.oq lp lq kp.sp kp.sq)).trans (F14.outer2 k hk c p q kp.op kp.oq (rowsE c a b) (by omega) kp.rows ?_)
    refine (F14.c4 k [(ofD p).1, (ofD q).1] c.1 c.2.1 c.2.2.1 c.2.2.2.1 c.2.2.2.2.1 c.2.2.2.2.2.1 c.2.2.2.2.2.2.1 c.2.2.2.2.2.2.2).trans ?_
    have ee : (c.1, (c.2.1, (c.2.2.1, (c.2.2.2.1, (c.2.2.2.2.1, (c.2.2.2.2.2.1, (c.2.2.2.2.2.2.1, c.2.2.2.2.2.2.2))))))) = c := rfl
    rw [ee, ht.fits p q kp.op kp.oq, f2]
    have g3 := lens_near (p := p2) (q := q2) (by rw [s1]; exact lp) (by rw [s2]; exact lq)
    have g4 : sameL (listsL [(ofD p2).1, (ofD q2).1]) (listsL [(ofD p).1, (ofD q).1]) = true := by
      unfold sameL listsL
      exact decide_eq_true (by simp only [List.map_cons, List.map_nil, s1, s2])
    have g1 := all_two o3 o4
    have g2 := all_two kp.op kp.oq
    show (bif (Nat.ble [(ofD p2).1, (ofD q2).1].length 1000 && [(ofD p2).1, (ofD q2).1].all listB) then bif (Nat.ble [(ofD p).1, (ofD q).1].length 1000 && [(ofD p).1, (ofD q).1].all listB) then bif (Nat.ble (listsL [(ofD p2).1, (ofD q2).1]).length 1000 && lensB (listsL [(ofD p2).1, (ofD q2).1])) then some (AV.v .bool (sameL (listsL [(ofD p2).1, (ofD q2).1]) (listsL [(ofD p).1, (ofD q).1]))) else none else none else none) = _
    rw [g1, g2, g3, g4]
    rfl

/-! ### values that are fixed -/
def I8s (l : List Int) : Prop := ∀ x ∈ l, -128 ≤ x ∧ x ≤ 127
def fixV (a : List Int) (i : Int) : Int := if i < a.length then IntKind.i64.wrap (a.getD i.toNat 0) else IntKind.i64.wrap (1 + i)
theorem fix_loop (L : Nat → Int → List (List Int) → List Int → Option AV) (a : List Int) (X : List (List Int) → List Int → Option AV)
    (hL : ∀ n i l v, L (n + 1) i l v = bif decide (i < 2) then
      bif decide (i < (a.length : Int)) then
        bif decide (0 ≤ i) && decide (i < (a.length : Int)) then
          bif decide ((l.length + [[IntKind.i64.wrap (a.getD i.toNat (0 : Int))]].length) * 24 ≤ LIM) then
            bif decide ((v.length + [IntKind.i64.wrap (a.getD i.toNat (0 : Int))].length) * 8 ≤ LIM) then
              L n (IntKind.i64.wrap (i + 1)) (l ++ [[IntKind.i64.wrap (a.getD i.toNat (0 : Int))]]) (v ++ [IntKind.i64.wrap (a.getD i.toNat (0 : Int))])
            else none
          else none
        else none
      else
        bif decide ((l.length + [[IntKind.i64.wrap (1 + i)]].length) * 24 ≤ LIM) then
          bif decide ((v.length + [IntKind.i64.wrap (1 + i)].length) * 8 ≤ LIM) then
            L n (IntKind.i64.wrap (i + 1)) (l ++ [[IntKind.i64.wrap (1 + i)]]) (v ++ [IntKind.i64.wrap (1 + i)])
          else none
        else none
      else X l v) (n : Nat) : L (n + 3) 0 [] [] = X [[fixV a 0], [fixV a 1]] [fixV a 0, fixV a 1] := by
  have step : ∀ (n i : Nat) (l : List (List Int)) (v : List Int), i < 2 → l.length ≤ 2 → v.length ≤ 2 → L (n + 1) (i : Int) l v = L n ((i + 1 : Nat) : Int) (l ++ [[fixV a (i : Int)]]) (v ++ [fixV a (i : Int)]) := by
    intro n i l v hi hl hv
    have w : IntKind.i64.wrap ((i : Int) + 1) = ((i + 1 : Nat) : Int) := by rw [wrap_ok (by omega) (by omega)]; omega
    have c1 : decide ((i : Int) < 2) = true := decide_eq_true (by omega)
    have l1 : ∀ y : List Int, decide ((l.length + [y].length) * 24 ≤ LIM) = true := fun y => decide_eq_true (show (l.length + 1) * 24 ≤ 140737488355328 by omega)
    have l2 : ∀ y : Int, decide ((v.length + [y].length) * 8 ≤ LIM) = true := fun y => decide_eq_true (show (v.length + 1) * 8 ≤ 140737488355328 by omega)
    rw [hL, c1, w]
    unfold fixV
    by_cases ha : (i : Int) < (a.length : Int)
    · rw [decide_eq_true ha, l1, l2, if_pos ha, decide_eq_true (show (0 : Int) ≤ (i : Int) by omega)]
      rfl
    · rw [decide_eq_false ha, l1 [IntKind.i64.wrap (1 + (i : Int))], l2 (IntKind.i64.wrap (1 + (i : Int))), if_neg ha]
      rfl
  have s0 := step (n + 2) 0 [] [] (by omega) (by simp) (by simp)
  have s1 := step (n + 1) 1 [[fixV a 0]] [fixV a 0] (by omega) (by simp) (by simp)
  have s2 := hL n 2 [[fixV a 0], [fixV a 1]] [fixV a 0, fixV a 1]
  exact (s0.trans s1).trans s2
theorem fix_near {a : List Int} (h : I8s a) (i : Int) (h0 : 0 ≤ i) (h1 : i ≤ 1) : -1000 ≤ fixV a i ∧ fixV a i ≤ 1000 := by
  unfold fixV
  split
  · rename_i hi
    have := h _ (getD_mem (show i.toNat < a.length by omega) 0)
    rw [wrap_ok (by omega) (by omega)]
    omega
  · rw [wrap_ok (by omega) (by omega)]
    omega
structure FixG (F : Con → List Dom → List Dom × Bool) (c : Con) (x y : Int) : Prop where
  hb : holdsB (localC c) [x, y] = true
  ok : (F c [(ofD [x]).1, (ofD [y]).1]).2 = holdsC (localC c) [x, y]
  yes : (F c [(ofD [x]).1, (ofD [y]).1]).2 = true → (Nat.ble (F c [(ofD [x]).1, (ofD [y]).1]).1.length 1000 && (F c [(ofD [x]).1, (ofD [y]).1]).1.all listB) = true ∧
    (Nat.ble (listsL (F c [(ofD [x]).1, (ofD [y]).1]).1).length 1000 && lensB (listsL (F c [(ofD [x]).1, (ofD [y]).1]).1)) = true ∧ sameL (listsL (F c [(ofD [x]).1, (ofD [y]).1]).1) [[x], [y]] = true
theorem one_ok {x : Int} (h : -1000 ≤ x ∧ x ≤ 1000) : okL [x] = true := okL_small (by simp) fun v hv => by
  obtain rfl := List.mem_singleton.mp hv
  exact h
theorem two_fixed {c : Con} {lo hi : Int} {F : Con → List Dom → List Dom × Bool} {R : Int → Int → Prop} (h : TwoC c lo hi F R) {x y : Int} (hx : -1000 ≤ x ∧ x ≤ 1000) (hy : -1000 ≤ y ∧ y ≤ 1000) : FixG F c x y := by
  have one : ∀ v : Int, -1000 ≤ v ∧ v ≤ 1000 → near3 [v] := fun v hv u hu => by
    obtain rfl := List.mem_singleton.mp hu
    exact hv
  obtain ⟨g1, g2⟩ := h.holds x y
  rcases two_out h (one_ok hx) (one_ok hy) (one x hx) (one y hy) with ⟨he, e⟩ | ⟨p, q, he, o1, o2, n1, n2, hp, hq, e⟩
  · have : holdsC (localC c) [x, y] = false := by
      rw [Bool.eq_false_iff]
      intro ht
      exact he x y (by simp) (by simp) (g2.mp ht)
    exact ⟨g1, by rw [e, this], fun ht => by rw [e] at ht; simp at ht⟩
  · obtain ⟨u, hu⟩ := List.exists_mem_of_ne_nil p he
    obtain ⟨hu1, w, hw1, hr⟩ := (hp u).mp hu
    obtain rfl := List.mem_singleton.mp hu1
    obtain rfl := List.mem_singleton.mp hw1
    have q1 : listD (ofD p).1 = [u] := rising_ext (list_ofD o1).2 (List.pairwise_singleton _ _) fun v => by
      rw [(list_ofD o1).1, hp]
      exact ⟨fun h => h.1, fun h => by obtain rfl := List.mem_singleton.mp h; exact ⟨h, w, by simp, hr⟩⟩
    have q2 : listD (ofD q).1 = [w] := rising_ext (list_ofD o2).2 (List.pairwise_singleton _ _) fun v => by
      rw [(list_ofD o2).1, hq]
      exact ⟨fun h => h.1, fun h => by obtain rfl := List.mem_singleton.mp h; exact ⟨h, u, by simp, hr⟩⟩
    refine ⟨g1, by rw [e, g2.mpr hr], fun _ => ?_⟩
    rw [e]
    refine ⟨all_two o1 o2, lens_near (by rw [q1]; simp) (by rw [q2]; simp), ?_⟩
    unfold sameL listsL
    exact decide_eq_true (by simp only [List.map_cons, List.map_nil, q1, q2])
theorem bfix {α : Type} {c1 c2 c3 c4 c5 c6 c7 : Bool} {v u w1 w2 w3 w4 w5 w6 : α} (h1 : c1 = true) (h2 : c2 = true) (h3 : c3 = true) (h4 : c4 = true) (h5 : c5 = true → c6 = true ∧ c7 = true ∧ u = v) :
    (bif c1 then bif c2 then bif c3 then bif c4 then bif !c5 then v else bif c6 then bif c7 then u else w6 else w5 else w4 else w3 else w2 else w1) = v := by
  subst h1; subst h2; subst h3; subst h4
  cases c5 with
  | false => rfl
  | true =>
    obtain ⟨rfl, rfl, rfl⟩ := h5 rfl
    rfl

/-! ### F5 -/
theorem F5.fixed (n : Nat) (a : List Int) (c : Con) (hc : TwoC c 11 11 elemF (RE c)) (ha : I8s a) (len : Int) (hlen : len = 2) :
    F5.l1_1_1_1_1_1_0_1_0 (n + 3) (F5.kt (n + 3) [1, 1, 1, 1, 1, 1, 0, 1, 0]) a len 0 c.1 c.2.1 c.2.2.1 c.2.2.2.1 c.2.2.2.2.1 c.2.2.2.2.2.1 c.2.2.2.2.2.2.1 c.2.2.2.2.2.2.2
      (localC c).1 (localC c).2.1 (localC c).2.2.1 (localC c).2.2.2.1 (localC c).2.2.2.2.1 (localC c).2.2.2.2.2.1 (localC c).2.2.2.2.2.2.1 (localC c).2.2.2.2.2.2.2 [] [] = some (.v .bool true) := by
  subst hlen
  have hx := fix_near ha 0 (by omega) (by omega)
  have hy := fix_near ha 1 (by omega) (by omega)
  refine (fix_loop (fun m i l v => F5.l1_1_1_1_1_1_0_1_0 m (F5.kt (n + 3) [1, 1, 1, 1, 1, 1, 0, 1, 0]) a 2 i c.1 c.2.1 c.2.2.1 c.2.2.2.1 c.2.2.2.2.1 c.2.2.2.2.2.1 c.2.2.2.2.2.2.1 c.2.2.2.2.2.2.2
      (localC c).1 (localC c).2.1 (localC c).2.2.1 (localC c).2.2.2.1 (localC c).2.2.2.2.1 (localC c).2.2.2.2.2.1 (localC c).2.2.2.2.2.2.1 (localC c).2.2.2.2.2.2.2 l v) a _ (fun m i l v => F5.l1_1_1_1_1_1_0_1_0_eq m _ a 2 i _ _ _ _ _ _ _ _ _ _ _ _ _ _ _ _ l v) n).trans ?_
  generalize fixV a 0 = x at hx
  generalize fixV a 1 = y at hy
  refine (F5.c0 (n + 3) _ _ _ _ _ _ _ _ _ _ _ _ _ _ _ _ [[x], [y]] [x, y]).trans ?_
  have ee : (c.1, (c.2.1, (c.2.2.1, (c.2.2.2.1, (c.2.2.2.2.1, (c.2.2.2.2.2.1, (c.2.2.2.2.2.2.1, c.2.2.2.2.2.2.2))))))) = c := rfl
  have el : ((localC c).1, ((localC c).2.1, ((localC c).2.2.1, ((localC c).2.2.2.1, ((localC c).2.2.2.2.1, ((localC c).2.2.2.2.2.1, ((localC c).2.2.2.2.2.2.1, (localC c).2.2.2.2.2.2.2))))))) = localC c := rfl
  have ed : domsL [[x], [y]] = [(ofD [x]).1, (ofD [y]).1] := rfl
  rw [ee, el, ed]
  have fx := two_fixed hc hx hy
  refine bfix rfl (hc.fits _ _ (one_ok hx) (one_ok hy)) fx.hb ?_ fun ht => ?_
  · rw [fx.ok]
    cases holdsC (localC c) [x, y] <;> rfl
  · obtain ⟨g1, g2, g3⟩ := fx.yes ht
    exact ⟨g1, g2, by rw [g3]⟩
theorem F5.sem (k : Nat) (z : Small) (n : Int) (a : List Int) (hz : U8s z.2.1) (hz2 : U8s z.2.2.1) (hn : 0 ≤ n) (ha : I8s a) : callW F5.E false F5.fn (k + 3) [.agg (explode SmallT z), .v (.int .u8) n, .v (.sl (.int .i8)) a] = some (.v .bool true) := by
  have st := F5.start_eq (k + 3) z n a
  have hkE := kindE_eq n
  rw [hkE] at st
  have e0 : IntKind.u8.wrap (IntKind.i64.wrap ((11 : Int) - 1)) = 10 := rfl
  rw [e0] at st
  have hm : conB (10, z.2) 4 = true := rfl
  have hc := elem_conC z.2 4 hz (by omega) (by omega)
  generalize conC (10, z.2) 4 = c at st hc
  have ht := elem_two hc
  rw [hm, ht.loc] at st
  have hlen : IntKind.i64.wrap ((c.2.1.length : Int) + (c.2.2.1.length : Int)) = 2 := by
    have := ht.two
    rw [wrap_ok (by omega) (by omega)]
    omega
  exact st.trans (F5.fixed k a c ht ha _ hlen)

/-! ### F9 -/
theorem F9.fixed (n : Nat) (a : List Int) (c : Con) (hc : TwoC c 13 16 reifF (RR c)) (ha : I8s a) (len : Int) (hlen : len = 2) :
    F9.l1_1_1_1_1_1_0_1_0 (n + 3) (F9.kt (n + 3) [1, 1, 1, 1, 1, 1, 0, 1, 0]) a len 0 c.1 c.2.1 c.2.2.1 c.2.2.2.1 c.2.2.2.2.1 c.2.2.2.2.2.1 c.2.2.2.2.2.2.1 c.2.2.2.2.2.2.2
      (localC c).1 (localC c).2.1 (localC c).2.2.1 (localC c).2.2.2.1 (localC c).2.2.2.2.1 (localC c).2.2.2.2.2.1 (localC c).2.2.2.2.2.2.1 (localC c).2.2.2.2.2.2.2 [] [] = some (.v .bool true) := by
  subst hlen
  have hx := fix_near ha 0 (by omega) (by omega)
  have hy := fix_near ha 1 (by omega) (by omega)
  refine (fix_loop (fun m i l v => F9.l1_1_1_1_1_1_0_1_0 m (F9.kt (n + 3) [1, 1, 1, 1, 1, 1, 0, 1, 0]) a 2 i c.1 c.2.1 c.2.2.1 c.2.2.2.1 c.2.2.2.2.1 c.2.2.2.2.2.1 c.2.2.2.2.2.2.1 c.2.2.2.2.2.2.2
      (localC c).1 (localC c).2.1 (localC c).2.2.1 (localC c).2.2.2.1 (localC c).2.2.2.2.1 (localC c).2.2.2.2.2.1 (localC c).2.2.2.2.2.2.1 (localC c).2.2.2.2.2.2.2 l v) a _ (fun m i l v => F9.l1_1_1_1_1_1_0_1_0_eq m _ a 2 i _ _ _ _ _ _ _ _ _ _ _ _ _ _ _ _ l v) n).trans ?_
  generalize fixV a 0 = x at hx
  generalize fixV a 1 = y at hy
  refine (F9.c0 (n + 3) _ _ _ _ _ _ _ _ _ _ _ _ _ _ _ _ [[x], [y]] [x, y]).trans ?_
  have ee : (c.1, (c.2.1, (c.2.2.1, (c.2.2.2.1, (c.2.2.2.2.1, (c.2.2.2.2.2.1, (c.2.2.2.2.2.2.1, c.2.2.2.2.2.2.2))))))) = c := rfl
  have el : ((localC c).1, ((localC c).2.1, ((localC c).2.2.1, ((localC c).2.2.2.1, ((localC c).2.2.2.2.1, ((localC c).2.2.2.2.2.1, ((localC c).2.2.2.2.2.2.1, (localC c).2.2.2.2.2.2.2))))))) = localC c := rfl
  have ed : domsL [[x], [y]] = [(ofD [x]).1, (ofD [y]).1] := rfl
  rw [ee, el, ed]
  have fx := two_fixed hc hx hy
  refine bfix rfl (hc.fits _ _ (one_ok hx) (one_ok hy)) fx.hb ?_ fun ht => ?_
  · rw [fx.ok]
    cases holdsC (localC c) [x, y] <;> rfl
  · obtain ⟨g1, g2, g3⟩ := fx.yes ht
    exact ⟨g1, g2, by rw [g3]⟩
theorem F9.sem (k : Nat) (z : Small) (n : Int) (a : List Int) (hz : U8s z.2.1) (hz2 : U8s z.2.2.1) (hn : 0 ≤ n) (ha : I8s a) : callW F9.E false F9.fn (k + 3) [.agg (explode SmallT z), .v (.int .u8) n, .v (.sl (.int .i8)) a] = some (.v .bool true) := by
  have st := F9.start_eq (k + 3) z n a
  obtain ⟨m, hm0, e0⟩ : ∃ m : Int, (m = 12 ∨ m = 13 ∨ m = 14 ∨ m = 15) ∧ IntKind.u8.wrap (IntKind.i64.wrap (kindR n - 1)) = m := by
    rcases kindR_cases hn with e | e | e | e <;> rw [e]
    · exact ⟨12, by omega, rfl⟩
    · exact ⟨13, by omega, rfl⟩
    · exact ⟨14, by omega, rfl⟩
    · exact ⟨15, by omega, rfl⟩
  rw [e0] at st
  have hm : conB (m, z.2) 4 = true := by
    unfold conB
    rcases hm0 with rfl | rfl | rfl | rfl <;> rfl
  have hc := reif_conC m hm0 z.2 4 hz hz2 (by omega) (by omega)
  generalize conC (m, z.2) 4 = c at st hc
  have ht := reif_two hc
  rw [hm, ht.loc] at st
  have hlen : IntKind.i64.wrap ((c.2.1.length : Int) + (c.2.2.1.length : Int)) = 2 := by
    have := ht.two
    rw [wrap_ok (by omega) (by omega)]
    omega
  exact st.trans (F9.fixed k a c ht ha _ hlen)
end Go.Proofs.YthdpbmcidebagaaGreatDoor.Ev
