/-
Two rows in order: the filter, and the document's: what they answer.
Conditions: as the handlers ask.
-/
import Derived.Test.YtnojoaghcbljfaaGreatDoorLg
set_option linter.unusedVariables false
set_option linter.unusedSimpArgs false
set_option maxRecDepth 100000
namespace Go.Proofs.YtnojoaghcbljfaaGreatDoor.Ev
open Go
theorem in_int {i : Int} {n : Nat} (h0 : 0 ≤ i) (h1 : i < (n : Int)) : (decide (0 ≤ i) && decide (i < (n : Int))) = true := by
 rw [decide_eq_true h0, decide_eq_true h1]
 rfl
theorem F358.sem (k : Nat) (r : RowsD) (i v : Int) (h : leftB r i = true) : callW F358.E false F358.fn k [.agg (explode RowsT r), .v (.int .i64) i, .v (.int .i64) v] = some (.v .bool (leftR r i v)) := by
 unfold leftB at h
 simp only [Bool.and_eq_true, decide_eq_true_eq] at h
 obtain ⟨⟨⟨⟨⟨⟨h0, hm⟩, h1⟩, h2⟩, h3⟩, h4⟩, h5⟩ := h
 have st := F358.start_eq k r i v
 have w : IntKind.i64.wrap (i + 1) = i + 1 := wrap_ok (by omega) (by omega)
 rw [w] at st
 have i5 : (decide (0 ≤ i + 1) && decide (i + 1 < (r.2.2.2.2.length : Int))) = true := in_int (by omega) h5
 unfold leftR
 refine (st.trans (bT' (in_int h0 h1))).trans ?_
 cases e1 : r.2.2.2.1.getD i.toNat false with
 | true => exact bT' rfl
 | false =>
  refine (bF' rfl).trans ((bT' (in_int h0 h2)).trans ?_)
  cases e2 : r.2.2.1.getD i.toNat false with
  | false => exact bF' rfl
  | true =>
   refine (bT' rfl).trans ((bT' (in_int h0 h3)).trans ?_)
   by_cases e3 : v < maxD (r.2.1.getD i.toNat dom0)
   ·refine (bT' (decide_eq_true e3)).trans ?_
    rw [decide_eq_true e3]
    rfl
   ·refine (bF' (decide_eq_false e3)).trans ((bT' (in_int h0 h3)).trans ((bT' h4).trans ?_))
    rw [decide_eq_false e3]
    cases e4 : hasD (r.2.1.getD i.toNat dom0) v with
    | true => exact (bT' e4).trans (bT' i5)
    | false => exact bF' e4
theorem F359.sem (k : Nat) (r : RowsD) (i v : Int) (h : rightB r i = true) : callW F359.E false F359.fn k [.agg (explode RowsT r), .v (.int .i64) i, .v (.int .i64) v] = some (.v .bool (rightR2 r i v)) := by
 unfold rightB at h
 simp only [Bool.and_eq_true, decide_eq_true_eq] at h
 obtain ⟨⟨⟨⟨⟨⟨h0, hm⟩, h1⟩, h2⟩, h3⟩, h4⟩, h5⟩ := h
 have st := F359.start_eq k r i v
 have w : IntKind.i64.wrap (i + 1) = i + 1 := wrap_ok (by omega) (by omega)
 rw [w] at st
 have i5 : (decide (0 ≤ i + 1) && decide (i + 1 < (r.2.2.2.2.length : Int))) = true := in_int (by omega) h5
 unfold rightR2
 refine (st.trans (bT' (in_int h0 h1))).trans ?_
 cases e1 : r.2.2.2.1.getD i.toNat false with
 | true => exact bT' rfl
 | false =>
  refine (bF' rfl).trans ((bT' (in_int h0 h2)).trans ?_)
  cases e2 : r.2.2.1.getD i.toNat false with
  | false => exact bF' rfl
  | true =>
   refine (bT' rfl).trans ((bT' (in_int h0 h3)).trans ?_)
   by_cases e3 : v > minD (r.1.getD i.toNat dom0)
   ·refine (bT' (decide_eq_true e3)).trans ?_
    rw [decide_eq_true e3]
    rfl
   ·refine (bF' (decide_eq_false e3)).trans ((bT' (in_int h0 h3)).trans ((bT' h4).trans ?_))
    rw [decide_eq_false e3]
    cases e4 : hasD (r.1.getD i.toNat dom0) v with
    | true => exact (bT' e4).trans (bT' i5)
    | false => exact bF' e4
theorem lim8n {n : Nat} (h : n ≤ 1000000000) : decide ((n + 1) * 8 ≤ LIM) = true := decide_eq_true (show (n + 1) * 8 ≤ 140737488355328 by omega)
theorem lim24n {n : Nat} (h : n ≤ 1000000000) : decide ((n + 1) * 24 ≤ LIM) = true := decide_eq_true (show (n + 1) * 24 ≤ 140737488355328 by omega)
theorem listD_len {d : Dom} (h : listB d = true) : (listD d).length ≤ 64000000 := by
 unfold listB at h
 rw [Bool.and_eq_true, Nat.ble_eq] at h
 have key : ∀ (ws : List Int) (i : Int), (listFrom d.1 i ws).length ≤ 64 * ws.length := by
  intro ws
  induction ws with
  | nil => intro i; simp [listFrom]
  | cons w ws ih =>
   intro i
   unfold listFrom
   have := bitsFrom_length 64 (d.1 + 64 * i) w
   have := ih (i + 1)
   rw [List.length_append, List.length_cons]
   omega
 have := key d.2.1 0
 unfold listD
 omega
theorem F357g358.sem (d : Dom) (i : Int) (z : RowsD) (h : (listB d && leftB z i) = true) : callW F357g358.E false F357g358.fn 64001000 [.agg (explode DomT d), .v (.int .i64) i, .fn 58 [.agg (explode RowsT z)] []] = some (.v (.sl (.int .i64)) (keptL d (leftR z i))) := by
 rw [Bool.and_eq_true] at h
 refine ((F357g358.start_eq 64001000 d i z).trans (bT' h.1)).trans ?_
 have e : keptL d (leftR z i) = (listD d).filter (leftR z i) := rfl
 rw [e]
 refine (filt_loop (fun n j acc => F357g358.l1_1_0_1_0 n (F357g358.kt 64001000 [1, 1, 0, 1, 0]) i z.1 z.2.1 z.2.2.1 z.2.2.2.1 z.2.2.2.2 (listD d) ((listD d).length : Int) j acc) (listD d) (leftR z i) (fun acc => some (.v (.sl (.int .i64)) acc)) 0 (by have := listD_len h.1; omega) (fun n acc => ?_) (fun n j hj acc _ ha => ?_) 64001000 (by have := listD_len h.1; omega)).trans rfl
 ·exact (F357g358.l1_1_0_1_0_eq n _ i z.1 z.2.1 z.2.2.1 z.2.2.2.1 z.2.2.2.2 (listD d) _ _ acc).trans (self_lt'.trans (F357g358.c0 _ acc))
 ·refine (F357g358.l1_1_0_1_0_eq n _ i z.1 z.2.1 z.2.2.1 z.2.2.2.1 z.2.2.2.2 (listD d) _ _ acc).trans ((bT' (lt_nat hj)).trans ((bT' (in_nat hj)).trans ((bT' h.2).trans ?_)))
  rw [Int.toNat_natCast, getD_get hj]
  have lim : decide ((acc.length + 1) * 8 ≤ LIM) = true := lim8n (by have := listD_len h.1; omega)
  cases hp : leftR z i (listD d)[j] with
  | true => exact (bT' rfl).trans (bT' lim)
  | false => exact bF' rfl
theorem F357g359.sem (d : Dom) (i : Int) (z : RowsD) (h : (listB d && rightB z i) = true) : callW F357g359.E false F357g359.fn 64001000 [.agg (explode DomT d), .v (.int .i64) i, .fn 59 [.agg (explode RowsT z)] []] = some (.v (.sl (.int .i64)) (keptL d (rightR2 z i))) := by
 rw [Bool.and_eq_true] at h
 refine ((F357g359.start_eq 64001000 d i z).trans (bT' h.1)).trans ?_
 have e : keptL d (rightR2 z i) = (listD d).filter (rightR2 z i) := rfl
 rw [e]
 refine (filt_loop (fun n j acc => F357g359.l1_1_0_1_0 n (F357g359.kt 64001000 [1, 1, 0, 1, 0]) i z.1 z.2.1 z.2.2.1 z.2.2.2.1 z.2.2.2.2 (listD d) ((listD d).length : Int) j acc) (listD d) (rightR2 z i) (fun acc => some (.v (.sl (.int .i64)) acc)) 0 (by have := listD_len h.1; omega) (fun n acc => ?_) (fun n j hj acc _ ha => ?_) 64001000 (by have := listD_len h.1; omega)).trans rfl
 ·exact (F357g359.l1_1_0_1_0_eq n _ i z.1 z.2.1 z.2.2.1 z.2.2.2.1 z.2.2.2.2 (listD d) _ _ acc).trans (self_lt'.trans (F357g359.c0 _ acc))
 ·refine (F357g359.l1_1_0_1_0_eq n _ i z.1 z.2.1 z.2.2.1 z.2.2.2.1 z.2.2.2.2 (listD d) _ _ acc).trans ((bT' (lt_nat hj)).trans ((bT' (in_nat hj)).trans ((bT' h.2).trans ?_)))
  rw [Int.toNat_natCast, getD_get hj]
  have lim : decide ((acc.length + 1) * 8 ≤ LIM) = true := lim8n (by have := listD_len h.1; omega)
  cases hp : rightR2 z i (listD d)[j] with
  | true => exact (bT' rfl).trans (bT' lim)
  | false => exact bF' rfl
theorem fits_lex {c : Con} {d : List Dom} (h : fitsD c d 22 22 = true) (hb : fitsB c 22 22 = true) : c.2.2.1.length = c.2.1.length ∧ d.length = c.2.1.length + c.2.1.length ∧ 1 ≤ c.2.1.length ∧ c.2.1.length ≤ 64 := by
 obtain ⟨h1, h2, h3, h4, h5⟩ := fits_len h hb
 have hk : c.1 = 22 := by omega
 have h6 : alikeD c = true := by
  unfold fitsD at h
  simp only [Bool.and_eq_true, decide_eq_true_eq] at h
  have hr := h.1.1.2
  unfold rightM at hr
  cases ha : alikeD c with
  | true => rfl
  | false => rw [ha] at hr; simp at hr
 unfold countedD at h2
 simp [hk, noneL, -List.length_eq_zero_iff] at h2
 unfold alikeD at h6
 simp [hk] at h6
 omega
theorem known_ok {a b : List Dom} (hab : a.length = b.length) (hl : a.length ≤ 1000) (la : ∀ x ∈ a, listB x = true ∧ fullB x = true) (lb : ∀ x ∈ b, listB x = true) : knownB a b = true := by
 unfold knownB
 simp only [Bool.and_eq_true, decide_eq_true_eq, Nat.ble_eq, List.all_eq_true, List.mem_range]
 refine ⟨⟨hab, hl⟩, fun i hi => ?_⟩
 obtain ⟨h1, h2⟩ := la _ (getD_mem hi dom0)
 have h3 := lb _ (getD_mem (show i < b.length by omega) dom0)
 generalize a.getD i dom0 = x at h1 h2
 generalize b.getD i dom0 = y at h3
 unfold listB at h1 h3
 unfold fullB at h2
 simp only [Bool.and_eq_true, Nat.ble_eq] at h1 h3
 rw [Bool.and_eq_true, Bool.and_eq_true, decide_eq_true_eq, decide_eq_true_eq] at h2
 obtain ⟨h4, h5, h6⟩ := h2
 unfold cutB cloneB andKB wordB
 rw [h1.1.1, h4, h3.1.1]
 simp only [Bool.and_eq_true, Nat.ble_eq, List.all_eq_true, List.mem_range, true_and]
 refine ⟨h1.2, fun j hj => ?_⟩
 unfold nearB
 simp only [Bool.and_eq_true, decide_eq_true_eq]
 omega
theorem left_ok {a b : List Dom} (hab : a.length = b.length) (hl : a.length ≤ 1000) (lb : ∀ x ∈ b, listB x = true) {i : Nat} (hi : i < a.length) : leftB (knownR a b) (i : Int) = true := by
 unfold leftB knownR
 have hn := listB_near (lb _ (getD_mem (show i < b.length by omega) dom0))
 simp only [Bool.and_eq_true, decide_eq_true_eq]
 refine ⟨⟨⟨⟨⟨⟨?_, ?_⟩, ?_⟩, ?_⟩, ?_⟩, ?_⟩, ?_⟩
 ·omega
 ·omega
 ·show (i : Int) < (((List.range (a.length + 1)).map (belowAt a b)).length : Int)
  rw [List.length_map, List.length_range]
  omega
 ·show (i : Int) < (((List.range (a.length + 1)).map (evenAt a b)).length : Int)
  rw [List.length_map, List.length_range]
  omega
 ·show (i : Int) < (b.length : Int)
  omega
 ·rw [Int.toNat_natCast]
  exact hn
 ·show (i : Int) + 1 < (((List.range (a.length + 1)).map fun i => restGo (a.drop i) (b.drop i)).length : Int)
  rw [List.length_map, List.length_range]
  omega
theorem right_ok {a b : List Dom} (hab : a.length = b.length) (hl : a.length ≤ 1000) (la : ∀ x ∈ a, listB x = true) {i : Nat} (hi : i < a.length) : rightB (knownR a b) (i : Int) = true := by
 unfold rightB knownR
 have hn := listB_near (la _ (getD_mem hi dom0))
 simp only [Bool.and_eq_true, decide_eq_true_eq]
 refine ⟨⟨⟨⟨⟨⟨?_, ?_⟩, ?_⟩, ?_⟩, ?_⟩, ?_⟩, ?_⟩
 ·omega
 ·omega
 ·show (i : Int) < (((List.range (a.length + 1)).map (belowAt a b)).length : Int)
  rw [List.length_map, List.length_range]
  omega
 ·show (i : Int) < (((List.range (a.length + 1)).map (evenAt a b)).length : Int)
  rw [List.length_map, List.length_range]
  omega
 ·show (i : Int) < (a.length : Int)
  omega
 ·rw [Int.toNat_natCast]
  exact hn
 ·show (i : Int) + 1 < (((List.range (a.length + 1)).map fun i => restGo (a.drop i) (b.drop i)).length : Int)
  rw [List.length_map, List.length_range]
  omega
theorem app_loop {α : Type} (L : Nat → Int → List α → Option AV) (f : Nat → α) (N : Nat) (acc0 : List α) (X : List α → Option AV) (hN : N ≤ 1000000) (hend : ∀ n acc, L (n + 1) (N : Int) acc = X acc)
  (hstep : ∀ (n i : Nat) (acc : List α), i < N → acc.length ≤ acc0.length + i → L (n + 1) (i : Int) acc = L n (IntKind.i64.wrap ((i : Int) + 1)) (acc ++ [f i])) (n : Nat) (hn : N < n) : L n 0 acc0 = X (acc0 ++ (List.range N).map f) := by
 have key : ∀ (d i n : Nat), i + d = N → d < n → L n (i : Int) (acc0 ++ (List.range i).map f) = X (acc0 ++ (List.range N).map f) := by
  intro d
  induction d with
  | zero =>
   intro i n h1 h2
   obtain ⟨n', rfl⟩ : ∃ n', n = n' + 1 := ⟨n - 1, by omega⟩
   obtain rfl : i = N := by omega
   exact hend n' _
  | succ d ih =>
   intro i n h1 h2
   obtain ⟨n', rfl⟩ : ∃ n', n = n' + 1 := ⟨n - 1, by omega⟩
   have w : IntKind.i64.wrap ((i : Int) + 1) = ((i + 1 : Nat) : Int) := by rw [wrap_ok (by omega) (by omega)]; omega
   rw [hstep n' i _ (by omega) (by simp), w, List.append_assoc]
   have e2 : (List.range i).map f ++ [f i] = (List.range (i + 1)).map f := by
    rw [List.range_succ, List.map_append]
    rfl
   rw [e2]
   exact ih (i + 1) n' (by omega) (by omega)
 have := key N 0 n (by omega) hn
 rw [List.range_zero, List.map_nil, List.append_nil] at this
 exact this
theorem F325.sem (c : Con) (d : List Dom) (h : filtB 22 22 c d = true) : ∃ r, callW F325.E false F325.fn 2000 [.agg (explode ConT c), .v (.sl DomT) d] = some r ∧ WA r (.tup [.v (.sl DomT) (lexiF c d).1, .v .bool (lexiF c d).2]) := by
 unfold filtB at h
 rw [Bool.and_eq_true, Bool.and_eq_true, List.all_eq_true] at h
 obtain ⟨⟨hb, hl⟩, hf2⟩ := h
 have st := (F325.start_eq 2000 c d).trans (bT' hb)
 unfold lexiF
 cases hf : fitsD c d 22 22 with
 | false =>
  rw [hf] at st
  exact ⟨_, st.trans (bT' rfl), .tup (.cons (.one (by simp) (.nl _)) (.cons (.one (by simp) (.same _)) .nil))⟩
 | true =>
  rw [hf] at st hf2
  have hf2 : d.all fullB = true := hf2
  rw [List.all_eq_true] at hf2
  obtain ⟨h1, h2, h3, h4⟩ := fits_lex hf hb
  have i1 : (decide (0 ≤ (c.2.1.length : Int)) && decide ((c.2.1.length : Int) ≤ (d.length : Int))) = true := by
   rw [decide_eq_true (show (0 : Int) ≤ (c.2.1.length : Int) by omega), decide_eq_true (show (c.2.1.length : Int) ≤ (d.length : Int) by omega)]
   rfl
  have st2 := (st.trans (bF' rfl)).trans ((bT' i1).trans (bT' i1))
  rw [Int.toNat_natCast] at st2
  generalize c.2.1.length = m at st2 h1 h2 h3 h4 i1 ⊢
  have la : ∀ x ∈ d.take m, listB x = true ∧ fullB x = true := fun x hx => ⟨hl x (List.mem_of_mem_take hx), hf2 x (List.mem_of_mem_take hx)⟩
  have lb : ∀ x ∈ d.drop m, listB x = true := fun x hx => hl x (List.mem_of_mem_drop hx)
  have l1 : (d.take m).length = m := by rw [List.length_take]; omega
  have l2 : (d.drop m).length = m := by rw [List.length_drop]; omega
  generalize d.take m = a at st2 la l1 ⊢
  generalize d.drop m = b at st2 lb l2 ⊢
  have hk := known_ok (by omega) (by omega) la lb
  have st3 := st2.trans (bT' hk)
  have ea : (knownR a b).1 = a := rfl
  have eb : (knownR a b).2.1 = b := rfl
  have p1 := app_loop (fun n i acc => F325.l1_1_1_1_1_0_1_0 n (F325.kt 2000 [1, 1, 1, 1, 1, 0, 1, 0]) a (a.length : Int) i (knownR a b).1 (knownR a b).2.1 (knownR a b).2.2.1 (knownR a b).2.2.2.1 (knownR a b).2.2.2.2 acc)
   (fun i => keptL (a.getD i dom0) (leftR (knownR a b) (i : Int))) a.length [] (fun acc => F325.l1_1_1_1_1_1_0_1_0 2000 (F325.kt 2000 [1, 1, 1, 1, 1, 1, 0, 1, 0]) b (b.length : Int) 0 (knownR a b).1 (knownR a b).2.1 (knownR a b).2.2.1 (knownR a b).2.2.2.1 (knownR a b).2.2.2.2 acc) (by omega)
   (fun n acc => (F325.l1_1_1_1_1_0_1_0_eq n _ a _ _ (knownR a b).1 (knownR a b).2.1 (knownR a b).2.2.1 (knownR a b).2.2.2.1 (knownR a b).2.2.2.2 acc).trans (self_lt'.trans (F325.c0 2000 _ _ _ _ _ acc)))
   (fun n i acc hi ha => by
    refine (F325.l1_1_1_1_1_0_1_0_eq n _ a _ _ (knownR a b).1 (knownR a b).2.1 (knownR a b).2.2.1 (knownR a b).2.2.2.1 (knownR a b).2.2.2.2 acc).trans ((bT' (lt_nat hi)).trans ((bT' (in_nat hi)).trans ?_))
    rw [Int.toNat_natCast]
    have hc : (listB (a.getD i dom0) && leftB (knownR a b) (i : Int)) = true := by rw [(la _ (getD_mem hi dom0)).1, left_ok (by omega) (by omega) lb hi]; rfl
    exact (bT' hc).trans (bT' (lim24n (by simp at ha; omega)))) 2000 (by omega)
  have p2 := fun acc0 : List (List Int) => fun ha0 : acc0.length ≤ 1000 => app_loop (fun n i acc => F325.l1_1_1_1_1_1_0_1_0 n (F325.kt 2000 [1, 1, 1, 1, 1, 1, 0, 1, 0]) b (b.length : Int) i (knownR a b).1 (knownR a b).2.1 (knownR a b).2.2.1 (knownR a b).2.2.2.1 (knownR a b).2.2.2.2 acc)
   (fun i => keptL (b.getD i dom0) (rightR2 (knownR a b) (i : Int))) b.length acc0 (fun acc => bif Nat.ble acc.length 1000 then some (.tup [.v (.sl DomT) (madeAll acc).1, .v .bool (madeAll acc).2]) else none) (by omega)
   (fun n acc => (F325.l1_1_1_1_1_1_0_1_0_eq n _ b _ _ (knownR a b).1 (knownR a b).2.1 (knownR a b).2.2.1 (knownR a b).2.2.2.1 (knownR a b).2.2.2.2 acc).trans (self_lt'.trans (F325.c1 2000 acc)))
   (fun n i acc hi ha => by
    refine (F325.l1_1_1_1_1_1_0_1_0_eq n _ b _ _ (knownR a b).1 (knownR a b).2.1 (knownR a b).2.2.1 (knownR a b).2.2.2.1 (knownR a b).2.2.2.2 acc).trans ((bT' (lt_nat hi)).trans ((bT' (in_nat hi)).trans ?_))
    rw [Int.toNat_natCast]
    have hc : (listB (b.getD i dom0) && rightB (knownR a b) (i : Int)) = true := by rw [lb _ (getD_mem hi dom0), right_ok (by omega) (by omega) (fun x hx => (la x hx).1) (show i < a.length by omega)]; rfl
    exact (bT' hc).trans (bT' (lim24n (by omega)))) 2000 (by omega)
  refine ⟨_, (st3.trans p1).trans ((p2 _ (by simp; omega)).trans (bT' (by rw [Nat.ble_eq]; simp; omega))), WA.refl _⟩
end Go.Proofs.YtnojoaghcbljfaaGreatDoor.Ev
