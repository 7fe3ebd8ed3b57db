/-
Seat 'a': solutions among domains; the values that are in one: what the functions answer.
Conditions: lists are short; each row is as long as it must be.
-/
import Derived.Test.YtnojoaghcbljfaaGreatDoorAw
set_option linter.unusedVariables false
set_option linter.unusedSimpArgs false
set_option maxRecDepth 100000
namespace Go.Proofs.YtnojoaghcbljfaaGreatDoor.Ev
open Go

/-- Those of a list that stand at a place in some row. -/
def keepV (rows : List (List Int)) (i : Nat) (l : List Int) : List Int := l.filter fun v => rows.any fun r => decide (r.getD i 0 = v)
theorem goFold_filter {α : Type} (p : α → Bool) : ∀ (xs : List α) (i : Int) (acc : List α), goFold (fun _ (a : List α) x => if p x then a ++ [x] else a) i acc xs = acc ++ xs.filter p
  | [], i, acc => by simp [goFold]
  | x :: xs, i, acc => by
    simp only [goFold]
    rw [goFold_filter p xs (i + 1)]
    cases h : p x <;> simp [h]
theorem goFold_or {α : Type} (p : α → Bool) : ∀ (xs : List α) (i : Int) (b : Bool), goFold (fun _ (b : Bool) x => b || p x) i b xs = (b || xs.any p)
  | [], i, b => by simp [goFold]
  | x :: xs, i, b => by
    simp only [goFold, List.any_cons]
    rw [goFold_or p xs (i + 1), Bool.or_assoc]
theorem prodL_length (d : List (List Int)) : (prodL d).length = prodN d := by unfold prodL; simp
theorem rowR_length : ∀ (d : List (List Int)) (k : Nat), (rowR d k).length = d.length
  | [], k => rfl
  | x :: d, k => by simp [rowR, rowR_length d]
theorem rowOf_length (d : List (List Int)) (k : Nat) : (rowOf d k).length = d.length := by unfold rowOf; simp [rowR_length]
theorem prodL_row {d : List (List Int)} {r : List Int} (h : r ∈ prodL d) : r.length = d.length := by
  unfold prodL at h
  obtain ⟨k, _, rfl⟩ := List.mem_map.mp h
  exact rowOf_length d k
structure SB (c : Con) (d : List (List Int)) (most : Int) : Prop where
  loc : localB c = true
  pb : productB d most = true
  all : manyL d most = false → ∀ r ∈ prodL d, holdsB (localC c) r = true
theorem solB_ok {c : Con} {d : List (List Int)} {most : Int} (h : solB c d most = true) : SB c d most := by
  unfold solB at h
  simp only [Bool.and_eq_true, Bool.or_eq_true, List.all_eq_true] at h
  refine ⟨h.1.1, h.1.2, fun hm r hr => ?_⟩
  rcases h.2 with h2 | h2
  · rw [hm] at h2; simp at h2
  · exact h2 r hr
theorem F17.sem (c : Con) (d : List (List Int)) (most : Int) (h : solB c d most = true) : ∃ r, callW F17.E false F17.fn 102000 [.agg (explode ConT c), .v (.sl (.sl (.int .i64))) d, .v (.int .i64) most] = some r ∧
    WA r (.tup [.v (.sl (.sl (.int .i64))) (solL c d most).1, .v .bool (solL c d most).2]) := by
  have hs := solB_ok h
  have hp := productB_ok hs.pb
  have st := F17.start_eq 102000 c d most
  rw [many_loop (L := fun n m i => F17.l1_1_0_1_0 n (F17.kt 102000 [1, 1, 0, 1, 0]) d most m i c.1 c.2.1 c.2.2.1 c.2.2.2.1 c.2.2.2.2.1 c.2.2.2.2.2.1 c.2.2.2.2.2.2.1 c.2.2.2.2.2.2.2) hp.lo hp.hi hp.len (fun x hx => (hp.each x hx).1) (fun n m i => F17.l1_1_0_1_0_eq n _ d most m i _ _ _ _ _ _ _ _) 102000 1 0 (by omega) (by omega) (by have := hp.len; omega) (by omega) (by omega)] at st
  have e0 : d.drop (Int.toNat 0) = d := rfl
  have em : manyGo most d 1 = manyL d most := rfl
  rw [e0, em] at st
  unfold solL
  cases hm : manyL d most with
  | true =>
    rw [hm] at st
    exact ⟨_, st.trans (F17.c0 _), .tup (.cons (.one (by simp) (.nl _)) (.cons (.one (by simp) (.same _)) .nil))⟩
  | false =>
    rw [hm] at st
    simp only [cond_false] at st
    rw [F17.c1] at st
    have el : localB (c.1, c.2.1, c.2.2.1, c.2.2.2.1, c.2.2.2.2.1, c.2.2.2.2.2.1, c.2.2.2.2.2.2.1, c.2.2.2.2.2.2.2) = true := hs.loc
    rw [el, hs.pb] at st
    simp only [cond_true] at st
    have epr : productL d most = prodL d := by unfold productL; rw [hm]; rfl
    rw [epr] at st
    have hN := prod_le hp hm
    have hlen := prodL_length d
    have hall := hs.all hm
    generalize hx : localC (c.1, c.2.1, c.2.2.1, c.2.2.2.1, c.2.2.2.2.1, c.2.2.2.2.2.1, c.2.2.2.2.2.2.1, c.2.2.2.2.2.2.2) = x at st
    have ex : localC c = x := hx
    rw [ex] at hall
    have := range_loop (fun n i (acc : List (List Int)) => F17.l1_1_1_1_1_1_0_1_0 n (F17.kt 102000 [1, 1, 1, 1, 1, 1, 0, 1, 0]) (prodL d) i x.1 x.2.1 x.2.2.1 x.2.2.2.1 x.2.2.2.2.1 x.2.2.2.2.2.1 x.2.2.2.2.2.2.1 x.2.2.2.2.2.2.2 acc) (prodL d) [] (fun _ acc r => if holdsC x r then acc ++ [r] else acc)
      (fun acc => exitK (F17.kt 102000 [1, 1, 1, 1, 1, 1, 0, 1, 0]) 2 ⟨slots 57 [(12, .own 0)], [.row 30 (.sl (.int .i64)) acc]⟩) (fun i acc => acc.length ≤ i.toNat) (by
        intro n i acc hI h0 h1
        have hr := hall _ (getD_in (d := []) h0 h1)
        have lim : ∀ y : List Int, (acc.length + [y].length) * 24 ≤ LIM := fun y => lim24 (by simp; omega)
        refine ⟨(F17.l1_1_1_1_1_1_0_1_0_eq n _ (prodL d) i _ _ _ _ _ _ _ _ acc).trans ?_, ?_⟩
        · have er : holdsB (x.1, x.2.1, x.2.2.1, x.2.2.2.1, x.2.2.2.2.1, x.2.2.2.2.2.1, x.2.2.2.2.2.2.1, x.2.2.2.2.2.2.2) ((prodL d).getD i.toNat []) = true := hr
          have ec : holdsC (x.1, x.2.1, x.2.2.1, x.2.2.2.1, x.2.2.2.2.1, x.2.2.2.2.2.1, x.2.2.2.2.2.2.1, x.2.2.2.2.2.2.2) ((prodL d).getD i.toNat []) = holdsC x ((prodL d).getD i.toNat []) := rfl
          rw [er, ec, wrap_ok (by omega) (by omega)]
          simp only [h0, h1, lim, decide_true, Bool.and_true, cond_true]
          cases holdsC x ((prodL d).getD i.toNat []) <;> rfl
        · cases holdsC x ((prodL d).getD i.toNat []) <;> simp <;> omega) (by
        intro n i acc hI hi
        refine (F17.l1_1_1_1_1_1_0_1_0_eq n _ (prodL d) i _ _ _ _ _ _ _ _ acc).trans ?_
        have : ¬ i < (prodL d).length := by omega
        simp only [this, decide_false, cond_false]) 102000 0 [] (by simp) (by omega) (by omega) (by omega)
    refine ⟨_, (st.trans (show _ = _ from this)).trans (F17.c2 _ _), ?_⟩
    rw [goFold_filter]
    exact WA.refl _
theorem sol_row {c : Con} {d : List (List Int)} {most : Int} {r : List Int} (h : r ∈ (solL c d most).1) : r.length = d.length := by
  unfold solL at h
  cases hm : manyL d most with
  | true => rw [hm] at h; simp at h
  | false =>
    rw [hm] at h
    exact prodL_row (List.mem_filter.mp h).1
theorem sol_len {c : Con} {d : List (List Int)} {most : Int} (hp : PB d most) : (solL c d most).1.length ≤ 100000 := by
  unfold solL
  cases hm : manyL d most with
  | true => simp
  | false =>
    simp only [cond_false]
    have := List.length_filter_le (holdsC (localC c)) (prodL d)
    rw [prodL_length] at this
    have := prod_le hp hm
    omega
theorem F21.rows (K : Conts) (d rows : List (List Int)) (i k : Int) (out : List (List Int)) (l : List Int) (hi0 : 0 ≤ i) (hi1 : i < d.length) (hk0 : 0 ≤ k) (hk1 : k < (d.getD i.toNat []).length) (hr : ∀ r ∈ rows, r.length = d.length) (hl : rows.length ≤ 100000) :
    ∀ n : Nat, rows.length < n → F21.l1_1_1_0_1_0_0_1_0_0_1_0_1_0_0_1_0_0_1_0_1_0 n K d rows i k false 0 out l =
      exitK K 4 ⟨slots 81 [(1, .v (.sl (.sl (.int .i64))) d), (8, .v (.sl (.sl (.int .i64))) rows), (10, .own 0), (11, .v (.int .i64) i), (12, .own 1), (13, .v (.int .i64) k), (14, .v .bool (rows.any fun r => decide (r.getD i.toNat 0 = (d.getD i.toNat []).getD k.toNat 0)))], [.row 30 (.sl (.int .i64)) out, .row 3 (.int .i64) l]⟩ := by
  intro n hn
  have := range_loop (fun n j (b : Bool) => F21.l1_1_1_0_1_0_0_1_0_0_1_0_1_0_0_1_0_0_1_0_1_0 n K d rows i k b j out l) rows [] (fun _ b r => b || decide (r.getD i.toNat 0 = (d.getD i.toNat []).getD k.toNat 0))
    (fun b => exitK K 4 ⟨slots 81 [(1, .v (.sl (.sl (.int .i64))) d), (8, .v (.sl (.sl (.int .i64))) rows), (10, .own 0), (11, .v (.int .i64) i), (12, .own 1), (13, .v (.int .i64) k), (14, .v .bool b)], [.row 30 (.sl (.int .i64)) out, .row 3 (.int .i64) l]⟩) (fun _ _ => True) (by
      intro n j b _ h0 h1
      refine ⟨(F21.l1_1_1_0_1_0_0_1_0_0_1_0_1_0_0_1_0_0_1_0_1_0_eq n K d rows i k b j out l).trans ?_, trivial⟩
      have hrj := hr _ (getD_in (d := []) h0 h1)
      have a1 : i < (rows.getD j.toNat []).length := by omega
      rw [wrap_ok (by omega) (by omega)]
      simp only [h0, h1, hi0, hi1, hk0, hk1, a1, decide_true, Bool.and_true, cond_true]
      cases b <;> rfl) (by
      intro n j b _ hj
      refine (F21.l1_1_1_0_1_0_0_1_0_0_1_0_1_0_0_1_0_0_1_0_1_0_eq n K d rows i k b j out l).trans ?_
      have : ¬ j < rows.length := by omega
      simp only [this, decide_false, cond_false]) n 0 false trivial (by omega) (by omega) (by omega)
  refine (show _ = _ from this).trans ?_
  rw [goFold_or]
  rfl
theorem F21.vals (K : Conts) (d rows : List (List Int)) (i : Int) (out : List (List Int)) (hi0 : 0 ≤ i) (hi1 : i < d.length) (hd : (d.getD i.toNat []).length ≤ 1000) (hr : ∀ r ∈ rows, r.length = d.length) (hl : rows.length ≤ 100000) :
    ∀ n : Nat, 101002 < n → F21.l1_1_1_0_1_0_0_1_0_0_1_0_1_0 n K d rows i 0 out [] =
      exitK K 2 ⟨slots 81 [(1, .v (.sl (.sl (.int .i64))) d), (8, .v (.sl (.sl (.int .i64))) rows), (10, .own 0), (11, .v (.int .i64) i), (12, .own 1)], [.row 30 (.sl (.int .i64)) out, .row 3 (.int .i64) (keepV rows i.toNat (d.getD i.toNat []))]⟩ := by
  intro n hn
  have := range_loopN (fun n k (l : List Int) => F21.l1_1_1_0_1_0_0_1_0_0_1_0_1_0 n K d rows i k out l) (d.getD i.toNat []) 0 (fun _ l v => if (rows.any fun r => decide (r.getD i.toNat 0 = v)) then l ++ [v] else l)
    (fun l => exitK K 2 ⟨slots 81 [(1, .v (.sl (.sl (.int .i64))) d), (8, .v (.sl (.sl (.int .i64))) rows), (10, .own 0), (11, .v (.int .i64) i), (12, .own 1)], [.row 30 (.sl (.int .i64)) out, .row 3 (.int .i64) l]⟩) (fun k l => l.length ≤ k.toNat) 100001 (by
      intro n k l hN hI h0 h1
      have lim : ∀ y : Int, (l.length + [y].length) * 8 ≤ LIM := fun y => lim8 (by simp; omega)
      refine ⟨(F21.l1_1_1_0_1_0_0_1_0_0_1_0_1_0_eq n K d rows i k out l).trans ?_, ?_⟩
      · simp only [hi0, hi1, h1, decide_true, Bool.and_true, cond_true]
        rw [F21.rows _ d rows i k out l hi0 hi1 h0 h1 hr hl n (by omega), F21.c2, wrap_ok (by omega) (by omega)]
        simp only [hi0, hi1, h0, h1, lim, decide_true, Bool.and_true, cond_true]
        cases (rows.any fun r => decide (r.getD i.toNat 0 = (d.getD i.toNat []).getD k.toNat 0)) <;> rfl
      · cases (rows.any fun r => decide (r.getD i.toNat 0 = (d.getD i.toNat []).getD k.toNat 0)) <;> simp <;> omega) (by
      intro n k l hN hI hk
      refine (F21.l1_1_1_0_1_0_0_1_0_0_1_0_1_0_eq n K d rows i k out l).trans ?_
      have : ¬ k < (d.getD i.toNat []).length := by omega
      simp only [hi0, hi1, this, decide_true, decide_false, Bool.and_true, cond_true, cond_false]) n 0 [] (by simp) (by omega) (by omega) (by omega)
  refine (show _ = _ from this).trans ?_
  rw [goFold_filter (fun v => rows.any fun r => decide (r.getD i.toNat 0 = v))]
  rfl
theorem F21.sem (c : Con) (d : List (List Int)) (most : Int) (h : solB c d most = true) : ∃ r, callW F21.E false F21.fn 200000 [.agg (explode ConT c), .v (.sl (.sl (.int .i64))) d, .v (.int .i64) most] = some r ∧
    WA r (.tup [.v (.sl (.sl (.int .i64))) (exactL c d most).1, .v .bool (exactL c d most).2]) := by
  have hs := solB_ok h
  have hp := productB_ok hs.pb
  have st := F21.start_eq 200000 c d most
  rw [h] at st
  simp only [cond_true] at st
  have hrow : ∀ r ∈ (solL c d most).1, r.length = d.length := fun r hr => sol_row hr
  have hlen := sol_len (c := c) hp
  unfold exactL
  generalize (solL c d most).1 = rows at st hrow hlen
  have := range_loopN (fun n i (out : List (List Int)) => F21.l1_1_1_0_1_0 n (F21.kt 200000 [1, 1, 1, 0, 1, 0]) d rows i out) d [] (fun i out x => out ++ [keepV rows i.toNat (d.getD i.toNat [])])
    (fun out => exitK (F21.kt 200000 [1, 1, 1, 0, 1, 0]) 0 ⟨slots 81 [(8, .v (.sl (.sl (.int .i64))) rows), (10, .own 0)], [.row 30 (.sl (.int .i64)) out]⟩) (fun i out => out.length ≤ i.toNat) 101003 (by
      intro n i out hN hI h0 h1
      have hl := hp.len
      have lim : ∀ y : List Int, (out.length + [y].length) * 24 ≤ LIM := fun y => lim24 (by simp; omega)
      refine ⟨(F21.l1_1_1_0_1_0_eq n _ d rows i out).trans ?_, by simp; omega⟩
      simp only [h1, decide_true, cond_true]
      rw [F21.vals _ d rows i out h0 h1 (hp.each _ (getD_in (d := []) h0 h1)).1 hrow hlen n (by omega), F21.c1, wrap_ok (by omega) (by omega)]
      simp only [lim, decide_true, cond_true]) (by
      intro n i out hN hI hi
      refine (F21.l1_1_1_0_1_0_eq n _ d rows i out).trans ?_
      have : ¬ i < d.length := by omega
      simp only [this, decide_false, cond_false]) 200000 0 [] (by simp) (by omega) (by omega) (by have := hp.len; omega)
  have st2 := (st.trans (show _ = _ from this)).trans (F21.c0 _ _ _)
  rw [goFold_idx (fun i => keepV rows i.toNat (d.getD i.toNat []))] at st2
  by_cases hz : rows.length = 0
  · have hz' : (rows.length : Int) = 0 := by omega
    rw [if_pos hz]
    simp only [hz', decide_true, cond_true] at st2
    exact ⟨_, st2, .tup (.cons (.one (by simp) (.nl _)) (.cons (.one (by simp) (.same _)) .nil))⟩
  · have hz' : ¬ (rows.length : Int) = 0 := by omega
    rw [if_neg hz]
    simp only [hz', decide_false, cond_false] at st2
    refine ⟨_, st2, ?_⟩
    have e : ([] : List (List Int)) ++ ((List.range (d.drop (Int.toNat 0)).length).map fun (k : Nat) => keepV rows (0 + (k : Int)).toNat (d.getD (0 + (k : Int)).toNat [])) = exactGo rows d := by
      unfold exactGo keepV
      simp
    rw [e]
    exact WA.refl _
end Go.Proofs.YtnojoaghcbljfaaGreatDoor.Ev
