/-
Two rows in order: the filter, and the document's: what they answer.
Conditions: as the handlers ask.
-/
import Derived.Test.YtnojoaghcbljfaaGreatDoorLg
set_option linter.unusedVariables false
set_option linter.unusedSimpArgs false
set_option maxRecDepth 100000
namespace Go.Proofs.YtnojoaghcbljfaaGreatDoor.Ev
open Go

theorem in_int {i : Int} {n : Nat} (h0 : 0 ≤ i) (h1 : i < (n : Int)) : (decide (0 ≤ i) && decide (i < (n : Int))) = true := by
  rw [decide_eq_true h0, decide_eq_true h1]
  rfl
theorem F358.sem (k : Nat) (r : RowsD) (i v : Int) (h : leftB r i = true) : callW F358.E false F358.fn k [.agg (explode RowsT r), .v (.int .i64) i, .v (.int .i64) v] = some (.v .bool (leftR r i v)) := by
  unfold leftB at h
  simp only [Bool.and_eq_true, decide_eq_true_eq] at h
  obtain ⟨⟨⟨⟨⟨⟨h0, hm⟩, h1⟩, h2⟩, h3⟩, h4⟩, h5⟩ := h
  have st := F358.start_eq k r i v
  have w : IntKind.i64.wrap (i + 1) = i + 1 := wrap_ok (by omega) (by omega)
  rw [w] at st
  have i5 : (decide (0 ≤ i + 1) && decide (i + 1 < (r.2.2.2.2.length : Int))) = true := in_int (by omega) h5
  unfold leftR
  refine (st.trans (bT' (in_int h0 h1))).trans ?_
  cases e1 : r.2.2.2.1.getD i.toNat false with
  | true => exact bT' rfl
  | false =>
    refine (bF' rfl).trans ((bT' (in_int h0 h2)).trans ?_)
    cases e2 : r.2.2.1.getD i.toNat false with
    | false => exact bF' rfl
    | true =>
      refine (bT' rfl).trans ((bT' (in_int h0 h3)).trans ?_)
      by_cases e3 : v < maxD (r.2.1.getD i.toNat dom0)
      · refine (bT' (decide_eq_true e3)).trans ?_
        rw [decide_eq_true e3]
        rfl
      · refine (bF' (decide_eq_false e3)).trans ((bT' (in_int h0 h3)).trans ((bT' h4).trans ?_))
        rw [decide_eq_false e3]
        cases e4 : hasD (r.2.1.getD i.toNat dom0) v with
        | true => exact (bT' e4).trans (bT' i5)
        | false => exact bF' e4
theorem F359.sem (k : Nat) (r : RowsD) (i v : Int) (h : rightB r i = true) : callW F359.E false F359.fn k [.agg (explode RowsT r), .v (.int .i64) i, .v (.int .i64) v] = some (.v .bool (rightR2 r i v)) := by
  unfold rightB at h
  simp only [Bool.and_eq_true, decide_eq_true_eq] at h
  obtain ⟨⟨⟨⟨⟨⟨h0, hm⟩, h1⟩, h2⟩, h3⟩, h4⟩, h5⟩ := h
  have st := F359.start_eq k r i v
  have w : IntKind.i64.wrap (i + 1) = i + 1 := wrap_ok (by omega) (by omega)
  rw [w] at st
  have i5 : (decide (0 ≤ i + 1) && decide (i + 1 < (r.2.2.2.2.length : Int))) = true := in_int (by omega) h5
  unfold rightR2
  refine (st.trans (bT' (in_int h0 h1))).trans ?_
  cases e1 : r.2.2.2.1.getD i.toNat false with
  | true => exact bT' rfl
  | false =>
    refine (bF' rfl).trans ((bT' (in_int h0 h2)).trans ?_)
    cases e2 : r.2.2.1.getD i.toNat false with
    | false => exact bF' rfl
    | true =>
      refine (bT' rfl).trans ((bT' (in_int h0 h3)).trans ?_)
      by_cases e3 : v > minD (r.1.getD i.toNat dom0)
      · refine (bT' (decide_eq_true e3)).trans ?_
        rw [decide_eq_true e3]
        rfl
      · refine (bF' (decide_eq_false e3)).trans ((bT' (in_int h0 h3)).trans ((bT' h4).trans ?_))
        rw [decide_eq_false e3]
        cases e4 : hasD (r.1.getD i.toNat dom0) v with
        | true => exact (bT' e4).trans (bT' i5)
        | false => exact bF' e4
theorem lim8n {n : Nat} (h : n ≤ 1000000000) : decide ((n + 1) * 8 ≤ LIM) = true := decide_eq_true (show (n + 1) * 8 ≤ 140737488355328 by omega)
theorem lim24n {n : Nat} (h : n ≤ 1000000000) : decide ((n + 1) * 24 ≤ LIM) = true := decide_eq_true (show (n + 1) * 24 ≤ 140737488355328 by omega)
theorem listD_len {d : Dom} (h : listB d = true) : (listD d).length ≤ 64000000 := by
  unfold listB at h
  rw [Bool.and_eq_true, Nat.ble_eq] at h
  have key : ∀ (ws : List Int) (i : Int), (listFrom d.1 i ws).length ≤ 64 * ws.length := by
    intro ws
    induction ws with
    | nil => intro i; simp [listFrom]
    | cons w ws ih =>
      intro i
      unfold listFrom
      have := bitsFrom_length 64 (d.1 + 64 * i) w
      have := ih (i + 1)
      rw [List.length_append, List.length_cons]
      omega
  have := key d.2.1 0
  unfold listD
  omega
theorem F357g358.sem (d : Dom) (i : Int) (z : RowsD) (h : (listB d && leftB z i) = true) : callW F357g358.E false F357g358.fn 64001000 [.agg (explode DomT d), .v (.int .i64) i, .fn 58 [.agg (explode RowsT z)] []] = some (.v (.sl (.int .i64)) (keptL d (leftR z i))) := by
  rw [Bool.and_eq_true] at h
  refine ((F357g358.start_eq 64001000 d i z).trans (bT' h.1)).trans ?_
  have e : keptL d (leftR z i) = (listD d).filter (leftR z i) := rfl
  rw [e]
  refine (filt_loop (fun n j acc => F357g358.l1_1_0_1_0 n (F357g358.kt 64001000 [1, 1, 0, 1, 0]) i z.1 z.2.1 z.2.2.1 z.2.2.2.1 z.2.2.2.2 (listD d) ((listD d).length : Int) j acc) (listD d) (leftR z i) (fun acc => some (.v (.sl (.int .i64)) acc)) 0 (by have := listD_len h.1; omega) (fun n acc => ?_) (fun n j hj acc _ ha => ?_) 64001000 (by have := listD_len h.1; omega)).trans rfl
  · exact (F357g358.l1_1_0_1_0_eq n _ i z.1 z.2.1 z.2.2.1 z.2.2.2.1 z.2.2.2.2 (listD d) _ _ acc).trans (self_lt'.trans (F357g358.c0 _ acc))
  · refine (F357g358.l1_1_0_1_0_eq n _ i z.1 z.2.1 z.2.2.1 z.2.2.2.1 z.2.2.2.2 (listD d) _ _ acc).trans ((bT' (lt_nat hj)).trans ((bT' (in_nat hj)).trans ((bT' h.2).trans ?_)))
    rw [Int.toNat_natCast, getD_get hj]
    have lim : decide ((acc.length + 1) * 8 ≤ LIM) = true := lim8n (by have := listD_len h.1; omega)
    cases hp : leftR z i (listD d)[j] with
    | true => exact (bT' rfl).trans (bT' lim)
    | false => exact bF' rfl
theorem F357g359.sem (d : Dom) (i : Int) (z : RowsD) (h : (listB d && rightB z i) = true) : callW F357g359.E false F357g359.fn 64001000 [.agg (explode DomT d), .v (.int .i64) i, .fn 59 [.agg (explode RowsT z)] []] = some (.v (.sl (.int .i64)) (keptL d (rightR2 z i))) := by
  rw [Bool.and_eq_true] at h
  refine ((F357g359.start_eq 64001000 d i z).trans (bT' h.1)).trans ?_
  have e : keptL d (rightR2 z i) = (listD d).filter (rightR2 z i) := rfl
  rw [e]
  refine (filt_loop (fun n j acc => F357g359.l1_1_0_1_0 n (F357g359.kt 64001000 [1, 1, 0, 1, 0]) i z.1 z.2.1 z.2.2.1 z.2.2.2.1 z.2.2.2.2 (listD d) ((listD d).length : Int) j acc) (listD d) (rightR2 z i) (fun acc => some (.v (.sl (.int .i64)) acc)) 0 (by have := listD_len h.1; omega) (fun n acc => ?_) (fun n j hj acc _ ha => ?_) 64001000 (by have := listD_len h.1; omega)).trans rfl
  · exact (F357g359.l1_1_0_1_0_eq n _ i z.1 z.2.1 z.2.2.1 z.2.2.2.1 z.2.2.2.2 (listD d) _ _ acc).trans (self_lt'.trans (F357g359.c0 _ acc))
  · refine (F357g359.l1_1_0_1_0_eq n _ i z.1 z.2.1 z.2.2.1 z.2.2.2.1 z.2.2.2.2 (listD d) _ _ acc).trans ((bT' (lt_nat hj)).trans ((bT' (in_nat hj)).trans ((bT' h.2).trans ?_)))
    rw [Int.toNat_natCast, getD_get hj]
    have lim : decide ((acc.length + 1) * 8 ≤ LIM) = true := lim8n (by have := listD_len h.1; omega)
    cases hp : rightR2 z i (listD d)[j] with
    | true => exact (bT' rfl).trans (bT' lim)
    | false => exact bF' rfl
/-! ### the filter -/
theorem fits_lex {c : Con} {d : List Dom} (h : fitsD c d 22 22 = true) (hb : fitsB c 22 22 = true) : c.2.2.1.length = c.2.1.length ∧ d.length = c.2.1.length + c.2.1.length ∧ 1 ≤ c.2.1.length ∧ c.2.1.length ≤ 64 := by
  obtain ⟨h1, h2, h3, h4, h5⟩ := fits_len h hb
  have hk : c.1 = 22 := by omega
  have h6 : alikeD c = true := by
    unfold fitsD at h
    simp only [Bool.and_eq_true, decide_eq_true_eq] at h
    have hr := h.1.1.2
    unfold rightM at hr
    cases ha : alikeD c with
    | true => rfl
    | false => rw [ha] at hr; simp at hr
  unfold countedD at h2
  simp [hk, noneL, -List.length_eq_zero_iff] at h2
  unfold alikeD at h6
  simp [hk] at h6
  omega
theorem known_ok {a b : List Dom} (hab : a.length = b.length) (hl : a.length ≤ 1000) (la : ∀ x ∈ a, listB x = true ∧ fullB x = true) (lb : ∀ x ∈ b, listB x = true) : knownB a b = true := by
  unfold knownB
  simp only [Bool.and_eq_true, decide_eq_true_eq, Nat.ble_eq, List.all_eq_true, List.mem_range]
  refine ⟨⟨hab, hl⟩, fun i hi => ?_⟩
  obtain ⟨h1, h2⟩ := la _ (getD_mem hi dom0)
  have h3 := lb _ (getD_mem (show i < b.length by omega) dom0)
  generalize a.getD i dom0 = x at h1 h2
  generalize b.getD i dom0 = y at h3
  unfold listB at h1 h3
  unfold fullB at h2
  simp only [Bool.and_eq_true, Nat.ble_eq] at h1 h3
  rw [Bool.and_eq_true, Bool.and_eq_true, decide_eq_true_eq, decide_eq_true_eq] at h2
  obtain ⟨h4, h5, h6⟩ := h2
  unfold cutB cloneB andKB wordB
  rw [h1.1.1, h4, h3.1.1]
  simp only [Bool.and_eq_true, Nat.ble_eq, List.all_eq_true, List.mem_range, true_and]
  refine ⟨h1.2, fun j hj => ?_⟩
  unfold nearB
  simp only [Bool.and_eq_true, decide_eq_true_eq]
  omega
theorem left_ok {a b : List Dom} (hab : a.length = b.length) (hl : a.length ≤ 1000) (lb : ∀ x ∈ b, listB x = true) {i : Nat} (hi : i < a.length) : leftB (knownR a b) (i : Int) = true := by
  unfold leftB knownR
  have hn := listB_near (lb _ (getD_mem (show i < b.length by omega) dom0))
  simp only [Bool.and_eq_true, decide_eq_true_eq]
  refine ⟨⟨⟨⟨⟨⟨?_, ?_⟩, ?_⟩, ?_⟩, ?_⟩, ?_⟩, ?_⟩
  · omega
  · omega
  · show (i : Int) < (((List.range (a.length + 1)).map (belowAt a b)).length : Int)
    rw [List.length_map, List.length_range]
    omega
  · show (i : Int) < (((List.range (a.length + 1)).map (evenAt a b)).length : Int)
    rw [List.length_map, List.length_range]
    omega
  · show (i : Int) < (b.length : Int)
    omega
  · rw [Int.toNat_natCast]
    exact hn
  · show (i : Int) + 1 < (((List.range (a.length + 1)).map fun i => restGo (a.drop i) (b.drop i)).length : Int)
    rw [List.length_map, List.length_range]
    omega
theorem right_ok {a b : List Dom} (hab : a.length = b.length) (hl : a.length ≤ 1000) (la : ∀ x ∈ a, listB x = true) {i : Nat} (hi : i < a.length) : rightB (knownR a b) (i : Int) = true := by
  unfold rightB knownR
  have hn := listB_near (la _ (getD_mem hi dom0))
  simp only [Bool.and_eq_true, decide_eq_true_eq]
  refine ⟨⟨⟨⟨⟨⟨?_, ?_⟩, ?_⟩, ?_⟩, ?_⟩, ?_⟩, ?_⟩
  · omega
  · omega
  · show (i : Int) < (((List.range (a.length + 1)).map (belowAt a b)).length : Int)
    rw [List.length_map, List.length_range]
    omega
  · show (i : Int) < (((List.range (a.length + 1)).map (evenAt a b)).length : Int)
    rw [List.length_map, List.length_range]
    omega
  · show (i : Int) < (a.length : Int)
    omega
  · rw [Int.toNat_natCast]
    exact hn
  · show (i : Int) + 1 < (((List.range (a.length + 1)).map fun i => restGo (a.drop i) (b.drop i)).length : Int)
    rw [List.length_map, List.length_range]
    omega
/-- A loop that appends a value of each place. -/
theorem app_loop {α : Type} (L : Nat → Int → List α → Option AV) (f : Nat → α) (N : Nat) (acc0 : List α) (X : List α → Option AV) (hN : N ≤ 1000000) (hend : ∀ n acc, L (n + 1) (N : Int) acc = X acc)
    (hstep : ∀ (n i : Nat) (acc : List α), i < N → acc.length ≤ acc0.length + i → L (n + 1) (i : Int) acc = L n (IntKind.i64.wrap ((i : Int) + 1)) (acc ++ [f i])) (n : Nat) (hn : N < n) : L n 0 acc0 = X (acc0 ++ (List.range N).map f) := by
  have key : ∀ (d i n : Nat), i + d = N → d < n → L n (i : Int) (acc0 ++ (List.range i).map f) = X (acc0 ++ (List.range N).map f) := by
    intro d
    induction d with
    | zero =>
      intro i n h1 h2
      obtain ⟨n', rfl⟩ : ∃ n', n = n' + 1 := ⟨n - 1, by omega⟩
      obtain rfl : i = N := by omega
      exact hend n' _
    | succ d ih =>
      intro i n h1 h2
      obtain ⟨n', rfl⟩ : ∃ n', n = n' + 1 := ⟨n - 1, by omega⟩
      have w : IntKind.i64.wrap ((i : Int) + 1) = ((i + 1 : Nat) : Int) := by rw [wrap_ok (by omega) (by omega)]; omega
      rw [hstep n' i _ (by omega) (by simp), w, List.append_assoc]
      have e2 : (List.range i).map f ++ [f i] = (List.range (i + 1)).map f := by
        rw [List.range_succ, List.map_append]
        rfl
      rw [e2]
      exact ih (i + 1) n' (by omega) (by omega)
  have := key N 0 n (by omega) hn
  rw [List.range_zero, List.map_nil, List.append_nil] at this
  exact this
theorem F325.sem (c : Con) (d : List Dom) (h : filtB 22 22 c d = true) : ∃ r, callW F325.E false F325.fn 2000 [.agg (explode ConT c), .v (.sl DomT) d] = some r ∧ WA r (.tup [.v (.sl DomT) (lexiF c d).1, .v .bool (lexiF c d).2]) := by
  unfold filtB at h
  rw [Bool.and_eq_true, Bool.and_eq_true, List.all_eq_true] at h
  obtain ⟨⟨hb, hl⟩, hf2⟩ := h
  have st := (F325.start_eq 2000 c d).trans (bT' hb)
  unfold lexiF
  cases hf : fitsD c d 22 22 with
  | false =>
    rw [hf] at st
    exact ⟨_, st.trans (bT' rfl), .tup (.cons (.one (by simp) (.nl _)) (.cons (.one (by simp) (.same _)) .nil))⟩
  | true =>
    rw [hf] at st hf2
    have hf2 : d.all fullB = true := hf2
    rw [List.all_eq_true] at hf2
    obtain ⟨h1, h2, h3, h4⟩ := fits_lex hf hb
    have i1 : (decide (0 ≤ (c.2.1.length : Int)) && decide ((c.2.1.length : Int) ≤ (d.length : Int))) = true := by
      rw [decide_eq_true (show (0 : Int) ≤ (c.2.1.length : Int) by omega), decide_eq_true (show (c.2.1.length : Int) ≤ (d.length : Int) by omega)]
      rfl
    have st2 := (st.trans (bF' rfl)).trans ((bT' i1).trans (bT' i1))
    rw [Int.toNat_natCast] at st2
    generalize c.2.1.length = m at st2 h1 h2 h3 h4 i1 ⊢
    have la : ∀ x ∈ d.take m, listB x = true ∧ fullB x = true := fun x hx => ⟨hl x (List.mem_of_mem_take hx), hf2 x (List.mem_of_mem_take hx)⟩
    have lb : ∀ x ∈ d.drop m, listB x = true := fun x hx => hl x (List.mem_of_mem_drop hx)
    have l1 : (d.take m).length = m := by rw [List.length_take]; omega
    have l2 : (d.drop m).length = m := by rw [List.length_drop]; omega
    generalize d.take m = a at st2 la l1 ⊢
    generalize d.drop m = b at st2 lb l2 ⊢
    have hk := known_ok (by omega) (by omega) la lb
    have st3 := st2.trans (bT' hk)
    have ea : (knownR a b).1 = a := rfl
    have eb : (knownR a b).2.1 = b := rfl
    have p1 := app_loop (fun n i acc => F325.l1_1_1_1_1_0_1_0 n (F325.kt 2000 [1, 1, 1, 1, 1, 0, 1, 0]) a (a.length : Int) i (knownR a b).1 (knownR a b).2.1 (knownR a b).2.2.1 (knownR a b).2.2.2.1 (knownR a b).2.2.2.2 acc)
      (fun i => keptL (a.getD i dom0) (leftR (knownR a b) (i : Int))) a.length [] (fun acc => F325.l1_1_1_1_1_1_0_1_0 2000 (F325.kt 2000 [1, 1, 1, 1, 1, 1, 0, 1, 0]) b (b.length : Int) 0 (knownR a b).1 (knownR a b).2.1 (knownR a b).2.2.1 (knownR a b).2.2.2.1 (knownR a b).2.2.2.2 acc) (by omega)
      (fun n acc => (F325.l1_1_1_1_1_0_1_0_eq n _ a _ _ (knownR a b).1 (knownR a b).2.1 (knownR a b).2.2.1 (knownR a b).2.2.2.1 (knownR a b).2.2.2.2 acc).trans (self_lt'.trans (F325.c0 2000 _ _ _ _ _ acc)))
      (fun n i acc hi ha => by
        refine (F325.l1_1_1_1_1_0_1_0_eq n _ a _ _ (knownR a b).1 (knownR a b).2.1 (knownR a b).2.2.1 (knownR a b).2.2.2.1 (knownR a b).2.2.2.2 acc).trans ((bT' (lt_nat hi)).trans ((bT' (in_nat hi)).trans ?_))
        rw [Int.toNat_natCast]
        have hc : (listB (a.getD i dom0) && leftB (knownR a b) (i : Int)) = true := by rw [(la _ (getD_mem hi dom0)).1, left_ok (by omega) (by omega) lb hi]; rfl
        exact (bT' hc).trans (bT' (lim24n (by simp at ha; omega)))) 2000 (by omega)
    have p2 := fun acc0 : List (List Int) => fun ha0 : acc0.length ≤ 1000 => app_loop (fun n i acc => F325.l1_1_1_1_1_1_0_1_0 n (F325.kt 2000 [1, 1, 1, 1, 1, 1, 0, 1, 0]) b (b.length : Int) i (knownR a b).1 (knownR a b).2.1 (knownR a b).2.2.1 (knownR a b).2.2.2.1 (knownR a b).2.2.2.2 acc)
      (fun i => keptL (b.getD i dom0) (rightR2 (knownR a b) (i : Int))) b.length acc0 (fun acc => bif Nat.ble acc.length 1000 then some (.tup [.v (.sl DomT) (madeAll acc).1, .v .bool (madeAll acc).2]) else none) (by omega)
      (fun n acc => (F325.l1_1_1_1_1_1_0_1_0_eq n _ b _ _ (knownR a b).1 (knownR a b).2.1 (knownR a b).2.2.1 (knownR a b).2.2.2.1 (knownR a b).2.2.2.2 acc).trans (self_lt'.trans (F325.c1 2000 acc)))
      (fun n i acc hi ha => by
        refine (F325.l1_1_1_1_1_1_0_1_0_eq n _ b _ _ (knownR a b).1 (knownR a b).2.1 (knownR a b).2.2.1 (knownR a b).2.2.2.1 (knownR a b).2.2.2.2 acc).trans ((bT' (lt_nat hi)).trans ((bT' (in_nat hi)).trans ?_))
        rw [Int.toNat_natCast]
        have hc : (listB (b.getD i dom0) && rightB (knownR a b) (i : Int)) = true := by rw [lb _ (getD_mem hi dom0), right_ok (by omega) (by omega) (fun x hx => (la x hx).1) (show i < a.length by omega)]; rfl
        exact (bT' hc).trans (bT' (lim24n (by omega)))) 2000 (by omega)
    refine ⟨_, (st3.trans p1).trans ((p2 _ (by simp; omega)).trans (bT' (by rw [Nat.ble_eq]; simp; omega))), WA.refl _⟩
/-! ### the document's answer -/
theorem F360.sem (d : List (List Int)) (a v : Int) (h : Nat.ble d.length 1000 = true) : callW F360.E false F360.fn 1001 [.v (.sl (.sl (.int .i64))) d, .v (.int .i64) a, .v (.int .i64) v] = some (.v (.sl (.sl (.int .i64))) (fixL d a v)) := by
  rw [Nat.ble_eq] at h
  refine (F360.start_eq 1001 d a v).trans ?_
  refine (app_loop (fun n i acc => F360.l1_1_0_1_0 n (F360.kt 1001 [1, 1, 0, 1, 0]) d a v i acc) (fun (j : Nat) => if (j : Int) = a then [v] else d.getD j []) d.length [] (fun acc => some (.v (.sl (.sl (.int .i64))) acc)) (by omega)
    (fun n acc => (F360.l1_1_0_1_0_eq n _ d a v _ acc).trans (self_lt'.trans (F360.c0 1001 acc))) (fun n i acc hi ha => ?_) 1001 (by omega)).trans ?_
  · refine (F360.l1_1_0_1_0_eq n _ d a v _ acc).trans ((bT' (lt_nat hi)).trans ?_)
    simp only [List.length_nil, Nat.zero_add] at ha
    by_cases e : (i : Int) = a
    · rw [if_pos e]
      exact (bT' (decide_eq_true e)).trans (bT' (lim24n (by omega)))
    · rw [if_neg e]
      refine (bF' (decide_eq_false e)).trans ((bT' (in_nat hi)).trans ?_)
      rw [Int.toNat_natCast]
      exact bT' (lim24n (by omega))
  · rw [List.nil_append]
    rfl
theorem F361.sem (a b : List (List Int)) (h : canB a b = true) : callW F361.E false F361.fn 1001 [.v (.sl (.sl (.int .i64))) a, .v (.sl (.sl (.int .i64))) b] = some (.v .bool (canL a b)) := by
  unfold canB at h
  simp only [Bool.and_eq_true, decide_eq_true_eq, Nat.ble_eq, List.all_eq_true] at h
  obtain ⟨⟨⟨hab, hl⟩, ha⟩, hb⟩ := h
  refine (F361.start_eq 1001 a b).trans ?_
  have key : ∀ (d i n : Nat), i + d = a.length → d < n → F361.l1_0_1_0 n (F361.kt 1001 [1, 0, 1, 0]) a b (i : Int) = some (.v .bool (canL (a.drop i) (b.drop i))) := by
    intro d
    induction d with
    | zero =>
      intro i n h1 h2
      obtain ⟨n', rfl⟩ : ∃ n', n = n' + 1 := ⟨n - 1, by omega⟩
      obtain rfl : i = a.length := by omega
      rw [List.drop_length]
      refine (F361.l1_0_1_0_eq n' _ a b _).trans (self_lt'.trans ((F361.c2 1001).trans ?_))
      cases b.drop a.length <;> rfl
    | succ d ih =>
      intro i n h1 h2
      obtain ⟨n', rfl⟩ : ∃ n', n = n' + 1 := ⟨n - 1, by omega⟩
      have hi : i < a.length := by omega
      have hib : i < b.length := by omega
      have w : IntKind.i64.wrap ((i : Int) + 1) = ((i + 1 : Nat) : Int) := by rw [wrap_ok (by omega) (by omega)]; omega
      have x1 := ha _ (getD_mem hi [])
      have y1 := hb _ (getD_mem hib [])
      refine (F361.l1_0_1_0_eq n' _ a b _).trans ?_
      rw [drop_getD hi [], drop_getD hib [], w, Int.toNat_natCast]
      unfold canL
      generalize a.getD i [] = x at x1
      generalize b.getD i [] = y at y1
      have w2 : IntKind.i64.wrap ((y.length : Int) - 1) = ((y.length - 1 : Nat) : Int) := by rw [wrap_ok (by omega) (by omega)]; omega
      rw [w2, Int.toNat_natCast]
      refine (bT' (lt_nat hi)).trans ((bT' (in_nat hi)).trans ((bT' (decide_eq_true (show (0 : Int) < (x.length : Int) by omega))).trans ((bT' (in_nat hib)).trans ((bT' (in_nat hib)).trans ((bT' (in_nat (show y.length - 1 < y.length by omega))).trans ?_)))))
      by_cases c1 : x.getD 0 0 < y.getD (y.length - 1) 0
      · rw [if_pos c1]
        exact (bT' (decide_eq_true c1)).trans (F361.c0 1001)
      · rw [if_neg c1]
        by_cases c2 : x.getD 0 0 > y.getD (y.length - 1) 0
        · rw [if_pos c2]
          exact (bF' (decide_eq_false c1)).trans ((bT' (decide_eq_true c2)).trans (F361.c1 1001))
        · rw [if_neg c2]
          exact (bF' (decide_eq_false c1)).trans ((bF' (decide_eq_false c2)).trans (ih (i + 1) n' (by omega) (by omega)))
  exact key a.length 0 1001 (by omega) (by omega)
theorem lex_fitsR {c : Con} {d : List (List Int)} (h : fitsR c d 22 22 = true) (hb : fitsB c 22 22 = true) : d.length = c.2.1.length + c.2.1.length ∧ 1 ≤ c.2.1.length ∧ c.2.1.length ≤ 64 ∧ ∀ x ∈ d, x ≠ [] := by
  unfold fitsR lenCB at h
  simp only [Bool.and_eq_true, decide_eq_true_eq, List.all_eq_true] at h
  obtain ⟨⟨⟨⟨h1, h2⟩, h3⟩, h4⟩, h5⟩ := h
  have hk : c.1 = 22 := by omega
  rw [← right_same c 256 (by omega)] at h3
  have h6 : alikeD c = true := by
    unfold rightM at h3
    cases ha : alikeD c with
    | true => rfl
    | false => rw [ha] at h3; simp at h3
  have h7 : countedD c ⟨#[]⟩ = true := by
    unfold rightM at h3
    cases ha : countedD c ⟨#[]⟩ with
    | true => rfl
    | false => rw [ha] at h3; simp at h3
  unfold countedD at h7
  simp [hk, noneL, -List.length_eq_zero_iff] at h7
  unfold alikeD at h6
  simp [hk] at h6
  refine ⟨by omega, by omega, by omega, fun x hx e => h5 x hx (by rw [e]; rfl)⟩
theorem F327.inner (K : Conts) (d : List (List Int)) (m i : Nat) (acc : List (List Int)) (hi : i < d.length) (hd : d.length = m + m) (hm : m ≤ 64) (hne : ∀ x ∈ d, x ≠ []) (hl : ∀ x ∈ d, x.length ≤ 1000000) (hacc : acc.length ≤ 1000) (n : Nat) (hn : 1000001 < n) (k : Nat) :
    F327.l1_1_1_1_1_0_1_0_0_1_0_0_1_0_1_0 n (F327.k_l1_1_1_1_1_0_1_0 k K [1, 0, 0, 1, 0, 1, 0]) d (m : Int) (i : Int) 0 acc [] =
    bif decide (((refL m d i).length : Int) = 0) then K.ret ⟨slots 73 [(4, .nl), (5, .v .bool false)], []⟩ else F327.l1_1_1_1_1_0_1_0 k K d (m : Int) (IntKind.i64.wrap ((i : Int) + 1)) (acc ++ [refL m d i]) := by
  have hx := hl _ (getD_mem hi [])
  refine (filt_loop (fun n j ls => F327.l1_1_1_1_1_0_1_0_0_1_0_0_1_0_1_0 n (F327.k_l1_1_1_1_1_0_1_0 k K [1, 0, 0, 1, 0, 1, 0]) d (m : Int) (i : Int) j acc ls) (d.getD i []) (fun v => canL ((fixL d (i : Int) v).take m) ((fixL d (i : Int) v).drop m))
    (fun ls => bif decide ((ls.length : Int) = 0) then K.ret ⟨slots 73 [(4, .nl), (5, .v .bool false)], []⟩ else F327.l1_1_1_1_1_0_1_0 k K d (m : Int) (IntKind.i64.wrap ((i : Int) + 1)) (acc ++ [ls])) 0 (by omega) (fun n ls => ?_) (fun n j hj ls _ hls => ?_) n (by omega)).trans rfl
  · refine (F327.l1_1_1_1_1_0_1_0_0_1_0_0_1_0_1_0_eq n _ d (m : Int) (i : Int) _ acc ls).trans ((bT' (in_nat hi)).trans ?_)
    rw [Int.toNat_natCast]
    refine self_lt'.trans ((F327.c1 k K d (m : Int) (i : Int) acc ls).trans ?_)
    have lim : decide ((acc.length + 1) * 24 ≤ LIM) = true := lim24n (by omega)
    by_cases h0 : (ls.length : Int) = 0
    · exact (bT' (decide_eq_true h0)).trans (bT' (decide_eq_true h0)).symm
    · exact (bF' (decide_eq_false h0)).trans ((bT' lim).trans (bF' (decide_eq_false h0)).symm)
  · refine (F327.l1_1_1_1_1_0_1_0_0_1_0_0_1_0_1_0_eq n _ d (m : Int) (i : Int) _ acc ls).trans ((bT' (in_nat hi)).trans ?_)
    rw [Int.toNat_natCast, Int.toNat_natCast, Int.toNat_natCast]
    have hv : (d.getD i []).getD j 0 = (d.getD i [])[j] := getD_get hj 0
    rw [hv]
    generalize (d.getD i [])[j] = v
    have lf : (fixL d (i : Int) v).length = d.length := by unfold fixL; simp
    have q1 : Nat.ble d.length 1000 = true := by rw [Nat.ble_eq]; omega
    have q2 : (decide (0 ≤ (m : Int)) && decide ((m : Int) ≤ ((fixL d (i : Int) v).length : Int))) = true := by
      rw [lf, decide_eq_true (show (0 : Int) ≤ (m : Int) by omega), decide_eq_true (show (m : Int) ≤ (d.length : Int) by omega)]
      rfl
    have fm : ∀ x ∈ fixL d (i : Int) v, 1 ≤ x.length ∧ x.length ≤ 1000000 := fun x hx => by
      rw [fixL_eq] at hx
      rcases List.mem_or_eq_of_mem_set hx with hx | rfl
      · exact ⟨List.length_pos_iff.mpr (hne x hx), hl x hx⟩
      · exact ⟨by simp, by simp⟩
    have q3 : canB ((fixL d (i : Int) v).take m) ((fixL d (i : Int) v).drop m) = true := by
      unfold canB
      simp only [Bool.and_eq_true, decide_eq_true_eq, Nat.ble_eq, List.all_eq_true]
      rw [List.length_take, List.length_drop, lf]
      exact ⟨⟨⟨by omega, by omega⟩, fun x hx => (fm x (List.mem_of_mem_take hx)).1⟩, fun x hx => fm x (List.mem_of_mem_drop hx)⟩
    refine (bT' (lt_nat hj)).trans ((bT' (in_nat hi)).trans ((bT' (in_nat hj)).trans ((bT' q1).trans ((bT' q2).trans ((bT' q2).trans ((bT' q3).trans ?_))))))
    cases hc : canL ((fixL d (i : Int) v).take m) ((fixL d (i : Int) v).drop m) with
    | true => exact (bT' rfl).trans ((bT' (in_nat hi)).trans ((bT' (in_nat hj)).trans (bT' (lim8n (show ls.length ≤ 1000000000 by omega)))))
    | false => exact bF' rfl
theorem F327.sem (c : Con) (d : List (List Int)) (h : refXB c d = true) : ∃ r, callW F327.E false F327.fn 2000000 [.agg (explode ConT c), .v (.sl (.sl (.int .i64))) d] = some r ∧ WA r (.tup [.v (.sl (.sl (.int .i64))) (refX c d).1, .v .bool (refX c d).2]) := by
  unfold refXB at h
  simp only [Bool.and_eq_true, List.all_eq_true, Nat.ble_eq] at h
  obtain ⟨⟨hb, hd⟩, hl⟩ := h
  have st := (F327.start_eq 2000000 c d).trans (bT' hb)
  have no : WA (.tup [.nl, .v .bool false]) (.tup [.v (.sl (.sl (.int .i64))) ([] : List (List Int)), .v .bool false]) := .tup (.cons (.one (by simp) (.nl _)) (.cons (.one (by simp) (.same _)) .nil))
  unfold refX
  cases hf : fitsR c d 22 22 with
  | false =>
    rw [hf] at st
    exact ⟨_, st.trans (bT' rfl), no⟩
  | true =>
    rw [hf] at st
    obtain ⟨h1, h2, h3, hne⟩ := lex_fitsR hf hb
    have st2 := st.trans (bF' rfl)
    generalize c.2.1.length = m at st2 h1 h2 h3 ⊢
    have key : ∀ (k i n : Nat), i + k = d.length → 1000010 + k < n → (∀ j, j < i → refL m d j ≠ []) →
        F327.l1_1_1_1_1_0_1_0 n (F327.kt 2000000 [1, 1, 1, 1, 1, 0, 1, 0]) d (m : Int) (i : Int) ((List.range i).map (refL m d)) =
        bif (List.range d.length).all (fun i => !(refL m d i).isEmpty) then some (.tup [.v (.sl (.sl (.int .i64))) ((List.range d.length).map (refL m d)), .v .bool true]) else some (.tup [.nl, .v .bool false]) := by
      intro k
      induction k with
      | zero =>
        intro i n g1 g2 g3
        obtain ⟨n', rfl⟩ : ∃ n', n = n' + 1 := ⟨n - 1, by omega⟩
        obtain rfl : i = d.length := by omega
        have : (List.range d.length).all (fun i => !(refL m d i).isEmpty) = true := by
          rw [List.all_eq_true]
          intro j hj
          have := g3 j (List.mem_range.mp hj)
          cases hc : refL m d j with
          | nil => exact absurd hc this
          | cons x xs => rfl
        rw [this]
        exact (F327.l1_1_1_1_1_0_1_0_eq n' _ d _ _ _).trans (self_lt'.trans (F327.c0 2000000 _))
      | succ k ih =>
        intro i n g1 g2 g3
        obtain ⟨n', rfl⟩ : ∃ n', n = n' + 1 := ⟨n - 1, by omega⟩
        have hi : i < d.length := by omega
        have w : IntKind.i64.wrap ((i : Int) + 1) = ((i + 1 : Nat) : Int) := by rw [wrap_ok (by omega) (by omega)]; omega
        refine (F327.l1_1_1_1_1_0_1_0_eq n' _ d _ _ _).trans ((bT' (lt_nat hi)).trans ((F327.inner _ d m i _ hi h1 h3 hne (fun x hx => hl x hx) (by simp; omega) n' (by omega) n').trans ?_))
        by_cases h0 : refL m d i = []
        · have : (List.range d.length).all (fun i => !(refL m d i).isEmpty) = false := by
            rw [List.all_eq_false]
            exact ⟨i, List.mem_range.mpr hi, by rw [h0]; simp⟩
          rw [this]
          exact (bT' (decide_eq_true (by rw [h0]; rfl))).trans (F327.c2 2000000)
        · have hp := List.length_pos_iff.mpr h0
          refine (bF' (decide_eq_false (by omega))).trans ?_
          rw [w]
          have e : (List.range i).map (refL m d) ++ [refL m d i] = (List.range (i + 1)).map (refL m d) := by
            rw [List.range_succ, List.map_append]
            rfl
          rw [e]
          refine ih (i + 1) n' (by omega) (by omega) fun j hj => ?_
          by_cases hji : j = i
          · rw [hji]; exact h0
          · exact g3 j (by omega)
    have k0 := key d.length 0 2000000 (by omega) (by omega) (fun j hj => by omega)
    have st3 := st2.trans k0
    cases hall : (List.range d.length).all (fun i => !(refL m d i).isEmpty) with
    | true =>
      rw [hall] at st3
      exact ⟨_, st3, WA.refl _⟩
    | false =>
      rw [hall] at st3
      exact ⟨_, st3, no⟩
end Go.Proofs.YtnojoaghcbljfaaGreatDoor.Ev
