/-
Seat 'a': lists: what the functions answer.
Conditions: lists are short, numbers those of domains.
Seat 'a': lists: what the functions answer: the second half.
Conditions: lists are short.
-/
import Derived.Test.YtlfdikofmfhefaaGreatDoorAe
import Derived.Test.YtlfdikofmfhefaaGreatDoorAg
import Derived.Test.YtlfdikofmfhefaaGreatDoorAi
set_option linter.unusedVariables false
set_option linter.unusedSimpArgs false
set_option maxRecDepth 100000
namespace Go.Proofs.YtlfdikofmfhefaaGreatDoor.Ev
open Go
theorem F87.sem (xs : List Int) (v : Int) (hl : xs.length ≤ maxLen) : callW F87.E false F87.fn (xs.length + 1) [.v (.sl (.int .i64)) xs, .v (.int .i64) v] = some (.v .bool (hasL xs v)) := by
 rw [F87.start_eq, search_loop (fun n i => F87.l1_0_1_0 n _ xs v i) xs 0 (fun x => decide (x = v)) (fun _ => (F87.kt (xs.length + 1) [1, 0, 1, 0]).ret ⟨slots 18 [(4, .v .bool true)], []⟩) _ hl (fun n i => F87.l1_0_1_0_eq n _ xs v i) _ 0 (by omega) (by omega) (by omega)]
 simp only [F87.c0, F87.c1]
 have e : (xs.drop (Int.toNat 0)) = xs := rfl
 rw [e]
 unfold hasL
 cases xs.any fun x => decide (x = v) <;> rfl
theorem lim8 {n : Nat} (h : n ≤ 1000000000) : n * 8 ≤ LIM := by unfold LIM; omega
theorem lim24 {n : Nat} (h : n ≤ 1000000000) : n * 24 ≤ LIM := by unfold LIM; omega
theorem getD_in {α : Type} {xs : List α} {i : Int} {d : α} (h0 : 0 ≤ i) (h1 : i < xs.length) : xs.getD i.toNat d ∈ xs := by
 rw [List.getD_eq_getElem?_getD, List.getElem?_eq_getElem (by omega)]
 exact List.getElem_mem _
def insG (v : Int) : Bool × List Int → List Int → Bool × List Int
 | s, [] => s
 | s, x :: xs => insG v (if x > v ∧ s.1 = false then (true, s.2 ++ [v] ++ [x]) else (s.1, s.2 ++ [x])) xs
theorem insG_spec (v : Int) : ∀ (xs : List Int) (s : Bool × List Int), (insG v s xs).2 ++ (if (insG v s xs).1 then [] else [v]) = s.2 ++ (if s.1 then xs else insR v xs)
 | [], s => by cases h : s.1 <;> simp [insG, insR, h]
 | x :: xs, s => by
  unfold insG
  rw [insG_spec v xs]
  cases h : s.1 with
  | true => simp [h]
  | false =>
   by_cases hx : x > v
   ·simp [hx, insR]
   ·simp [hx, insR, h]
theorem insG_len (v : Int) : ∀ (xs : List Int) (s : Bool × List Int), (insG v s xs).2.length ≤ s.2.length + xs.length + (if s.1 then 0 else 1)
 | [], s => by simp [insG]
 | x :: xs, s => by
  unfold insG
  have := insG_len v xs (if x > v ∧ s.1 = false then (true, s.2 ++ [v] ++ [x]) else (s.1, s.2 ++ [x]))
  refine Nat.le_trans this ?_
  by_cases hc : x > v ∧ s.1 = false
  ·simp [hc]; omega
  ·simp only [hc, if_false]
   cases h : s.1 <;> simp <;> omega
theorem goFold_insG (v : Int) : ∀ (xs : List Int) (i : Int) (s : Bool × List Int), goFold (fun _ (s : Bool × List Int) x => if x > v ∧ s.1 = false then (true, s.2 ++ [v] ++ [x]) else (s.1, s.2 ++ [x])) i s xs = insG v s xs
 | [], i, s => rfl
 | x :: xs, i, s => by
  simp only [goFold, insG]
  exact goFold_insG v xs (i + 1) _
theorem insR_len (v : Int) : ∀ xs : List Int, (insR v xs).length = xs.length + 1
 | [] => rfl
 | x :: xs => by
  unfold insR
  split
  ·simp
  ·simp [insR_len v xs]
theorem F70.inner (K : Conts) (xs : List Int) (i : Int) (out : List Int) (h0 : 0 ≤ i) (h1 : i < xs.length) (ho : out.length ≤ 1000) : ∀ (n : Nat), out.length < n →
  F70.l1_1_1_1_1_1_1_0_1_0_0_1_0_0_1_1_1_1_0_1_0 n K xs i false 0 out [] =
  exitK K 4 ⟨slots 121 [(0, .v (.sl (.int .i64)) xs), (8, .v (.int .i64) i), (10, .own 0), (11, .v .bool (insG (xs.getD i.toNat 0) (false, []) out).1)], [.row 3 (.int .i64) (insG (xs.getD i.toNat 0) (false, []) out).2]⟩ := by
 intro n hn
 generalize hv : xs.getD i.toNat 0 = v
 have := range_loop (fun n k (s : Bool × List Int) => F70.l1_1_1_1_1_1_1_0_1_0_0_1_0_0_1_1_1_1_0_1_0 n K xs i s.1 k out s.2) out 0
  (fun _ s x => if x > v ∧ s.1 = false then (true, s.2 ++ [v] ++ [x]) else (s.1, s.2 ++ [x]))
  (fun s => exitK K 4 ⟨slots 121 [(0, .v (.sl (.int .i64)) xs), (8, .v (.int .i64) i), (10, .own 0), (11, .v .bool s.1)], [.row 3 (.int .i64) s.2]⟩)
  (fun k s => s.2.length ≤ k.toNat + (if s.1 then 1 else 0)) (by
   intro n k s hI hk0 hk1
   have hs : s.2.length ≤ 1001 := by
    have : (if s.1 = true then 1 else 0) ≤ 1 := by split <;> omega
    omega
   have l1 : (s.2.length + [v].length) * 8 ≤ LIM := lim8 (by simp; omega)
   have l2 : ∀ x : Int, ((s.2 ++ [v]).length + [x].length) * 8 ≤ LIM := fun x => lim8 (by simp; omega)
   have l3 : ∀ x : Int, (s.2.length + [x].length) * 8 ≤ LIM := fun x => lim8 (by simp; omega)
   refine ⟨(F70.l1_1_1_1_1_1_1_0_1_0_0_1_0_0_1_1_1_1_0_1_0_eq n K xs i s.1 k out s.2).trans ?_, ?_⟩
   ·rw [wrap_ok (x := k + 1) (by omega) (by omega), hv]
    simp only [h0, h1, hk0, hk1, decide_true, Bool.and_true, cond_true, l1, l2, l3]
    generalize out.getD k.toNat 0 = y
    by_cases hx : y > v
    ·cases hd : s.1 with
     | true => simp [hx]
     | false => simp [hx]
    ·cases hd : s.1 with
     | true => simp [hx]
     | false => simp [hx]
   ·by_cases hc : out.getD k.toNat 0 > v ∧ s.1 = false
    ·simp only [hc, and_self, if_true]
     have : (if s.1 = true then 1 else 0) = 0 := by rw [hc.2]; rfl
     simp only [List.length_append, List.length_cons, List.length_nil]
     omega
    ·simp only [hc, if_false]
     simp only [List.length_append, List.length_cons, List.length_nil]
     omega) (by
   intro n k s hI hk
   refine (F70.l1_1_1_1_1_1_1_0_1_0_0_1_0_0_1_1_1_1_0_1_0_eq n K xs i s.1 k out s.2).trans ?_
   have : ¬ k < out.length := by omega
   simp only [this, decide_false, cond_false]) n 0 (false, []) (by simp) (by omega) (by omega) (by omega)
 refine (show _ = _ from this).trans ?_
 have e : out.drop (Int.toNat 0) = out := rfl
 rw [e, goFold_insG]
theorem refGo_fold : ∀ (xs : List Int) (i : Int) (out : List Int), goFold (fun _ (out : List Int) v => if hasL out v then out else insR v out) i out xs = refGo xs out
 | [], i, out => rfl
 | v :: xs, i, out => by
  simp only [goFold, refGo]
  exact refGo_fold xs (i + 1) _
theorem ins_round (v : Int) (out : List Int) : (insG v (false, []) out).2 ++ (if (insG v (false, []) out).1 then [] else [v]) = insR v out := by
 have := insG_spec v out (false, [])
 simpa using this
theorem F70.second (K : Conts) (xs : List Int) (hl : xs.length ≤ 1000) : ∀ (n : Nat), xs.length + 1001 < n →
  F70.l1_1_1_1_1_1_1_0_1_0 n K xs 0 [] = exitK K 2 ⟨slots 121 [(7, .own 0)], [.row 3 (.int .i64) (refOf xs)]⟩ := by
 intro n hn
 have := range_loopN (fun n i (out : List Int) => F70.l1_1_1_1_1_1_1_0_1_0 n K xs i out) xs 0 (fun _ out v => if hasL out v then out else insR v out)
  (fun out => exitK K 2 ⟨slots 121 [(7, .own 0)], [.row 3 (.int .i64) out]⟩) (fun i out => out.length ≤ i.toNat) 1001 (by
   intro n i out hN hI h0 h1
   have hlen : (insR (xs.getD i.toNat 0) out).length = out.length + 1 := insR_len _ _
   refine ⟨(F70.l1_1_1_1_1_1_1_0_1_0_eq n K xs i out).trans ?_, ?_⟩
   ·simp only [h0, h1, decide_true, Bool.and_true, cond_true]
    cases hh : hasL out (xs.getD i.toNat 0) with
    | true =>
     simp only [cond_true, if_true]
     rw [wrap_ok (by omega) (by omega)]
    | false =>
     simp only [cond_false, Bool.false_eq_true, if_false]
     rw [F70.inner _ xs i out h0 h1 (by omega) n (by omega), F70.c3]
     have hr := ins_round (xs.getD i.toNat 0) out
     have hg := insG_len (xs.getD i.toNat 0) out (false, [])
     simp only [List.length_nil, Bool.false_eq_true, if_false] at hg
     generalize insG (xs.getD i.toNat 0) (false, []) out = g at hr hg
     rw [wrap_ok (by omega) (by omega)]
     cases hd : g.1 with
     | true =>
      rw [hd] at hr
      simp only [Bool.not_true, cond_false]
      simp only [if_true, List.append_nil] at hr
      rw [hr]
     | false =>
      rw [hd] at hr
      have l1 : (g.2.length + [xs.getD i.toNat 0].length) * 8 ≤ LIM := lim8 (by simp; omega)
      simp only [Bool.not_false, cond_true, h0, h1, decide_true, Bool.and_true, l1]
      simp only [Bool.false_eq_true, if_false] at hr
      rw [hr]
   ·cases hh : hasL out (xs.getD i.toNat 0) with
    | true => simp only [if_true]; omega
    | false => simp only [Bool.false_eq_true, if_false]; omega) (by
   intro n i out hN hI hi
   refine (F70.l1_1_1_1_1_1_1_0_1_0_eq n K xs i out).trans ?_
   have : ¬ i < xs.length := by omega
   simp only [this, decide_false, cond_false]) n 0 [] (by simp) (by omega) (by omega) (by omega)
 refine (show _ = _ from this).trans ?_
 rw [refGo_fold]
 rfl
theorem F70.first (K : Conts) (xs : List Int) (hl : xs.length ≤ 1000) (hv : ∀ v ∈ xs, inD v = true) (a : Int) (ha : a ∈ xs) : ∀ (n : Nat), xs.length < n →
  ∃ lo hi, lo ∈ xs ∧ hi ∈ xs ∧ F70.l1_1_1_1_0_1_0 n K xs a a 0 = exitK K 0 ⟨slots 121 [(0, .v (.sl (.int .i64)) xs), (4, .v (.int .i64) lo), (5, .v (.int .i64) hi)], []⟩ := by
 intro n hn
 let stp : Int → Int × Int → Int → Int × Int := fun _ s x => (if x < s.1 then x else s.1, if x > s.2 then x else s.2)
 have := range_loop (fun n i (s : Int × Int) => F70.l1_1_1_1_0_1_0 n K xs s.1 s.2 i) xs 0 stp
  (fun s => exitK K 0 ⟨slots 121 [(0, .v (.sl (.int .i64)) xs), (4, .v (.int .i64) s.1), (5, .v (.int .i64) s.2)], []⟩) (fun i s => s.1 ∈ xs ∧ s.2 ∈ xs) (by
   intro n i s hI h0 h1
   have hx := getD_in (d := (0 : Int)) h0 h1
   have hr := inD_iff.mp (hv _ hx)
   refine ⟨(F70.l1_1_1_1_0_1_0_eq n K xs s.1 s.2 i).trans ?_, ?_⟩
   ·have c1 : ¬ xs.getD i.toNat 0 < -1000000 := by omega
    have c2 : ¬ xs.getD i.toNat 0 > 1000000 := by omega
    rw [wrap_ok (by omega) (by omega)]
    simp only [h0, h1, c1, c2, decide_true, decide_false, Bool.and_true, cond_true, cond_false]
    show _ = F70.l1_1_1_1_0_1_0 n K xs (if xs.getD i.toNat 0 < s.1 then xs.getD i.toNat 0 else s.1) (if xs.getD i.toNat 0 > s.2 then xs.getD i.toNat 0 else s.2) (i + 1)
    generalize xs.getD i.toNat 0 = y
    by_cases d1 : y < s.1 <;> by_cases d2 : y > s.2 <;> simp [d1, d2]
   ·show (if xs.getD i.toNat 0 < s.1 then xs.getD i.toNat 0 else s.1) ∈ xs ∧ (if xs.getD i.toNat 0 > s.2 then xs.getD i.toNat 0 else s.2) ∈ xs
    constructor
    ·split
     ·exact hx
     ·exact hI.1
    ·split
     ·exact hx
     ·exact hI.2) (by
   intro n i s hI hi
   refine (F70.l1_1_1_1_0_1_0_eq n K xs s.1 s.2 i).trans ?_
   have : ¬ i < xs.length := by omega
   simp only [this, decide_false, cond_false]) n 0 (a, a) ⟨ha, ha⟩ (by omega) (by omega) (by omega)
 have key : ∀ (ys : List Int) (i : Int) (s : Int × Int), (∀ y ∈ ys, y ∈ xs) → s.1 ∈ xs → s.2 ∈ xs → (goFold stp i s ys).1 ∈ xs ∧ (goFold stp i s ys).2 ∈ xs := by
  intro ys
  induction ys with
  | nil => intro i s _ h1 h2; exact ⟨h1, h2⟩
  | cons y ys ih =>
   intro i s hy h1 h2
   refine ih (i + 1) _ (fun z hz => hy z (by simp [hz])) ?_ ?_
   ·show (if y < s.1 then y else s.1) ∈ xs
    split
    ·exact hy y (by simp)
    ·exact h1
   ·show (if y > s.2 then y else s.2) ∈ xs
    split
    ·exact hy y (by simp)
    ·exact h2
 obtain ⟨k1, k2⟩ := key xs 0 (a, a) (fun y hy => hy) ha ha
 exact ⟨_, _, k1, k2, this⟩
theorem F70.sem (xs : List Int) (h : okL xs = true) (hl : xs.length ≤ 1000) : callW F70.E false F70.fn (xs.length + 2000) [.v (.sl (.int .i64)) xs] = some (.tup [.v (.sl (.int .i64)) (refOf xs), .v (.int .i64) (0 : Int)]) := by
 obtain ⟨hne, hin, hw⟩ := okL_iff.mp h
 have hpos : 0 < xs.length := List.length_pos_iff.mpr hne
 have h0 : ¬ (xs.length : Int) = 0 := by omega
 have h1 : (0 : Int) < xs.length := by omega
 rw [F70.start_eq]
 simp only [h0, h1, decide_true, decide_false, cond_true, cond_false]
 have ha : xs.getD 0 0 ∈ xs := getD_in (i := 0) (by omega) (by omega)
 obtain ⟨lo, hi, hlo, hhi, e⟩ := F70.first (F70.kt (xs.length + 2000) [1, 1, 1, 1, 0, 1, 0]) xs hl hin _ ha (xs.length + 2000) (by omega)
 rw [e, F70.c1]
 have m1 := (maxL_spec hne).1 _ hhi
 have m2 := (minL_spec hne).1 _ hlo
 have r1 := inD_iff.mp (hin _ hlo)
 have r2 := inD_iff.mp (hin _ hhi)
 rw [wrap_ok (x := hi - lo) (by omega) (by omega)]
 have : ¬ hi - lo ≥ 65536 := by omega
 simp only [this, decide_false, cond_false]
 rw [F70.second _ xs hl _ (by omega), F70.c2]
end Go.Proofs.YtlfdikofmfhefaaGreatDoor.Ev
set_option linter.unusedVariables false
set_option linter.unusedSimpArgs false
set_option maxRecDepth 100000
namespace Go.Proofs.YtlfdikofmfhefaaGreatDoor.Ev
open Go
theorem goFold_idx {α β : Type} (f : Int → β) : ∀ (xs : List α) (i : Int) (acc : List β), goFold (fun i (a : List β) (_ : α) => a ++ [f i]) i acc xs = acc ++ (List.range xs.length).map fun (k : Nat) => f (i + (k : Int))
 | [], i, acc => by simp [goFold]
 | x :: xs, i, acc => by
  simp only [goFold, List.length_cons]
  rw [goFold_idx f xs (i + 1), List.range_succ_eq_map, List.map_cons, List.map_map]
  have e : ((fun (k : Nat) => f (i + (k : Int))) ∘ Nat.succ) = fun (k : Nat) => f (i + 1 + (k : Int)) := by
   funext k
   show f (i + ((k + 1 : Nat) : Int)) = _
   congr 1
   omega
  rw [e, List.append_assoc, List.singleton_append]
  simp
theorem F54.sem (l : List Int) (n vars : Int) (h : placesB l n vars = true) : callW F54.E false F54.fn 2000 [.v (.sl (.int .u8)) l, .v (.int .i64) n, .v (.int .i64) vars] = some (.v (.sl (.int .i64)) (placesL l n vars)) := by
 unfold placesB at h
 simp only [Bool.and_eq_true, decide_eq_true_eq] at h
 obtain ⟨⟨h1, h2⟩, h3⟩ := h
 have hlen : (List.range n.toNat).length = n.toNat := List.length_range
 refine (F54.start_eq _ l n vars).trans ?_
 have := range_loop (fun m i (acc : List Int) => F54.l1_1_0_1_0 m (F54.kt 2000 [1, 1, 0, 1, 0]) l n vars i acc) (List.range n.toNat) 0 (fun i acc _ => acc ++ [(if i < l.length then IntKind.i64.wrap (l.getD i.toNat 0) else i).tmod vars]) _ (fun i acc => acc.length ≤ i.toNat) (by
   intro m i acc hI h0 hi
   rw [hlen] at hi
   have lim : ∀ x : Int, (acc.length + [x].length) * 8 ≤ LIM := fun x => lim8 (by simp; omega)
   refine ⟨(F54.l1_1_0_1_0_eq m _ l n vars i acc).trans ?_, by simp; omega⟩
   have hn : i < n := by omega
   rw [wrap_ok (x := i + 1) (by omega) (by omega)]
   by_cases hc : i < l.length
   ·simp only [hn, hc, h0, h3, lim, decide_true, decide_false, Bool.not_false, Bool.and_true, cond_true, if_true]
   ·simp only [hn, hc, h0, h3, lim, decide_true, decide_false, Bool.not_false, Bool.and_true, cond_true, cond_false, if_false]) (by
   intro m i acc hI hi
   rw [hlen] at hi
   refine (F54.l1_1_0_1_0_eq m _ l n vars i acc).trans ?_
   have : ¬ i < n := by omega
   simp only [this, decide_false, cond_false]
   exact F54.c0 _ acc) 2000 0 [] (by simp) (by omega) (by omega) (by omega)
 refine (show _ = _ from this).trans ?_
 rw [goFold_idx (fun i => (if i < l.length then IntKind.i64.wrap (l.getD i.toNat 0) else i).tmod vars)]
 unfold placesL
 simp
theorem F55.sem (l : List Int) (fr n least wide : Int) (h : numbersB l fr n least wide = true) : callW F55.E false F55.fn 2000 [.v (.sl (.int .i8)) l, .v (.int .i64) fr, .v (.int .i64) n, .v (.int .i64) least, .v (.int .i64) wide] = some (.v (.sl (.int .i64)) (numbersL l fr n least wide)) := by
 unfold numbersB at h
 simp only [Bool.and_eq_true, decide_eq_true_eq] at h
 obtain ⟨⟨⟨⟨h1, h2⟩, h3⟩, h4⟩, h5⟩ := h
 have hlen : (List.range n.toNat).length = n.toNat := List.length_range
 refine (F55.start_eq _ l fr n least wide).trans ?_
 have := range_loop (fun m i (acc : List Int) => F55.l1_1_0_1_0 m (F55.kt 2000 [1, 1, 0, 1, 0]) l fr n least wide i acc) (List.range n.toNat) 0 (fun i acc _ => acc ++ [numR (if fr + i < l.length then IntKind.i64.wrap (l.getD (fr + i).toNat 0) else 1) least wide]) _ (fun i acc => acc.length ≤ i.toNat) (by
   intro m i acc hI h0 hi
   rw [hlen] at hi
   have lim : ∀ x : Int, (acc.length + [x].length) * 8 ≤ LIM := fun x => lim8 (by simp; omega)
   refine ⟨(F55.l1_1_0_1_0_eq m _ l fr n least wide i acc).trans ?_, by simp; omega⟩
   have hn : i < n := by omega
   have hf : 0 ≤ fr + i := by omega
   rw [wrap_ok (x := i + 1) (by omega) (by omega), wrap_ok (x := fr + i) (by omega) (by omega)]
   unfold numR
   by_cases hc : fr + i < l.length
   ·simp only [hn, hc, hf, h5, lim, decide_true, decide_false, Bool.not_false, Bool.and_true, cond_true, if_true]
    generalize IntKind.i64.wrap (l.getD (fr + i).toNat 0) = v
    by_cases hv : v.tmod wide < 0 <;> by_cases hw : least ≥ 0 <;> simp [hv, hw]
   ·simp only [hn, hc, hf, h5, lim, decide_true, decide_false, Bool.not_false, Bool.and_true, cond_true, cond_false, if_false]
    by_cases hv : (1 : Int).tmod wide < 0 <;> by_cases hw : least ≥ 0 <;> simp [hv, hw]) (by
   intro m i acc hI hi
   rw [hlen] at hi
   refine (F55.l1_1_0_1_0_eq m _ l fr n least wide i acc).trans ?_
   have : ¬ i < n := by omega
   simp only [this, decide_false, cond_false]
   exact F55.c0 _ acc) 2000 0 [] (by simp) (by omega) (by omega) (by omega)
 refine (show _ = _ from this).trans ?_
 rw [goFold_idx (fun i => numR (if fr + i < l.length then IntKind.i64.wrap (l.getD (fr + i).toNat 0) else 1) least wide)]
 unfold numbersL
 simp
end Go.Proofs.YtlfdikofmfhefaaGreatDoor.Ev
