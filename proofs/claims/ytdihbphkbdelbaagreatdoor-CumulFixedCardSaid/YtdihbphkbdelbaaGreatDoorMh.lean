/-
The laws of tasks that share what there is: what their functions answer: the first two.
Conditions: none.
The laws of tasks that share what there is: values that are fixed; what is kept.
Conditions: none.
The laws of tasks that share what there is: a filter keeps what is allowed.
Conditions: none.
-/
import Derived.Test.YtdihbphkbdelbaaGreatDoorMg
import Derived.Test.YtdihbphkbdelbaaGreatDoorLz
import Derived.Test.YtdihbphkbdelbaaGreatDoorCr
set_option linter.unusedVariables false
set_option linter.unusedSimpArgs false
set_option maxRecDepth 100000
namespace Go.Proofs.YtdihbphkbdelbaaGreatDoor.Ev
open Go Go.RowKit
theorem fitsB_cum (c : Con) : fitsB c 19 19 = true := by
 unfold fitsB kindB
 by_cases h : c.1 = 19
 ·rw [decide_eq_true h, Bool.or_true]
 ·by_cases h1 : 19 ≤ c.1
  ·rw [decide_eq_false (show ¬ c.1 ≤ 19 by omega), Bool.and_false]; rfl
  ·rw [decide_eq_false h1]; rfl
theorem bounded_nums {l : List Int} (h : boundedD l 0 = true) : ∀ v ∈ l, 0 ≤ v ∧ v ≤ 1000000 := by
 unfold boundedD at h
 rw [Bool.not_eq_true', List.any_eq_false] at h
 intro v hv
 have := h v hv
 unfold numB at this
 simp only [Bool.or_eq_true, decide_eq_true_eq, not_or] at this
 omega
structure FitC (c : Con) (n : Nat) : Prop where
  k : c.1 = 19
  num : Nums c n
  al : c.2.1.length = n
  b0 : c.2.2.1 = []
  n1 : 1 ≤ n
  n64 : n ≤ 64
theorem fit_parts {c : Con} {n : Nat} (hk : c.1 = 19) (hr : rightM c 256 = 0) (hn : n = c.2.1.length + c.2.2.1.length) : FitC c n := by
 unfold rightM at hr
 cases h1 : countedD c ⟨#[]⟩ with
 | false => rw [h1] at hr; simp at hr
 | true =>
  cases h2 : alikeD c with
  | false => rw [h1, h2] at hr; simp at hr
  | true =>
   cases h3 : kB c with
   | false => rw [h1, h2, h3] at hr; simp at hr
   | true =>
    cases h4 : List.any (varsD c) (varB 256) with
    | true => rw [h1, h2, h3, h4] at hr; simp at hr
    | false =>
     cases h5 : numbersD c with
     | false => rw [h1, h2, h3, h4, h5] at hr; simp at hr
     | true =>
      unfold countedD at h1
      rw [decide_eq_true hk] at h1
      simp only [cond_true, Bool.and_eq_true, decide_eq_true_eq] at h1
      unfold alikeD at h2
      rw [decide_eq_true hk] at h2
      simp only [cond_true, Bool.and_eq_true, decide_eq_true_eq] at h2
      unfold numbersD at h5
      simp only [Bool.and_eq_true, decide_eq_true_eq] at h5
      have hb : c.2.2.1.length = 0 := by omega
      exact ⟨hk, ⟨by omega, by omega, by omega, bounded_nums h5.1.1.1.1.2, bounded_nums h5.1.1.1.2, by omega⟩, by omega, List.length_eq_zero_iff.mp hb, by omega, by omega⟩
theorem fit_of {c : Con} {d : List Dom} (hf : fitsD c d 19 19 = true) : FitC c d.length := by
 unfold fitsD lenCB at hf
 simp only [Bool.and_eq_true, decide_eq_true_eq] at hf
 exact fit_parts (by omega) hf.1.1.2 hf.1.2
theorem fits_other {c : Con} {d e : List Dom} (hf : fitsD c d 19 19 = true) (he : ∀ x ∈ e, GD x) (hl : e.length = d.length) : fitsD c e 19 19 = true := by
 unfold fitsD lenCB at hf ⊢
 simp only [Bool.and_eq_true, decide_eq_true_eq] at hf
 have e1 : List.any e emptyD = false := not_any fun x hx => by
  have g := he x hx
  have := g.pos
  unfold emptyD
  rw [g.size]
  exact decide_eq_false (by omega)
 rw [decide_eq_true hf.1.1.1.1, decide_eq_true hf.1.1.1.2, decide_eq_true hf.1.1.2, hl, decide_eq_true hf.1.2, e1]
 rfl
theorem inv_bounds {c : Con} {d : List Dom} (h : Inv c d) : (Nat.ble d.length 1000 && d.all listB) = true ∧ (Nat.ble (listsL d).length 1000 && lensB (listsL d)) = true ∧ ∀ x ∈ listsL d, x.length ≤ 100000 := by
 have hlen : ∀ x ∈ listsL d, x.length ≤ 100000 := fun x hx => by
  obtain ⟨y, hy, rfl⟩ := List.mem_map.mp hx
  have gy := h.g y hy
  have hw := (okL_ok gy.ok).wide
  have hmm := rising_len (listD y) (minL (listD y)) (maxL (listD y)) (by have := (okL_ok gy.ok).le; omega) gy.ris fun v hv => ⟨(minL_spec gy.ne).1 v hv, (maxL_spec gy.ne).1 v hv⟩
  omega
 refine ⟨?_, ?_, hlen⟩
 ·rw [Nat.ble_eq_true_of_le h.num.le, Bool.true_and, List.all_eq_true]
  exact fun x hx => (h.g x hx).listB
 ·rw [listsLen, Nat.ble_eq_true_of_le h.num.le, Bool.true_and]
  unfold lensB
  rw [List.all_eq_true]
  intro x hx
  have := hlen x hx
  exact Nat.ble_eq_true_of_le (by omega)
structure CF (c : Con) (l : List (List Int)) : Prop where
  le : Nat.ble l.length 1000 = true
  f1 : cumFB c (domsL l) = true
  r1 : cumRB c l = true
  ok : (cumF c (domsL l)).2 = (cumR c l).2
  lb : (Nat.ble (cumF c (domsL l)).1.length 1000 && (cumF c (domsL l)).1.all listB) = true
  ll : (Nat.ble (listsL (cumF c (domsL l)).1).length 1000 && lensB (listsL (cumF c (domsL l)).1)) = true
  same : sameL (listsL (cumF c (domsL l)).1) (cumR c l).1 = true
theorem inv_doms {c : Con} {l : List (List Int)} (hN : Nums c l.length) (ok : ∀ x ∈ l, okL x = true ∧ Rising x) : Inv c (domsL l) := ⟨by rw [doms_len]; exact hN, fun d hd => by
 obtain ⟨x, hx, rfl⟩ := List.mem_map.mp hd
 exact (GD_ofD (ok x hx).1 (ok x hx).2).1⟩
theorem cf_n {c : Con} {d : List Dom} (N : Nat) (hf : fitsD c d 19 19 = true) (hi : Inv c d) (ht : tot (listsL d) < N) :
  cumFBn N c d = true ∧ cumFn N c d = cumGo c N d := by
 have F := fit_of hf
 obtain ⟨a1, a2, a3, a4, a5⟩ := cum_same c N d hi F.n1 ht
 refine ⟨?_, by unfold cumFn; rw [hf]; rfl⟩
 unfold cumFBn cloneB
 have n1 := F.n1
 have n64 := F.n64
 rw [fitsB_cum, a1, decide_eq_false (show ¬ d.length = 0 by omega), Nat.ble_eq_true_of_le (show d.length ≤ 1000000 by omega)]
 simp
theorem cf_fits {c : Con} {l : List (List Int)} (hf : fitsD c (domsL l) 19 19 = true) (ok : ∀ x ∈ l, okL x = true ∧ Rising x) (ht : tot l < 100000) :
  CF c l ∧ Inv c (domsL l) ∧ ((cumF c (domsL l)).2 = true → Res c (domsL l) (cumF c (domsL l)).1) := by
 have F := fit_of hf
 have hN := F.num
 rw [doms_len] at hN
 have hi := inv_doms hN ok
 have el := lists_doms ok
 have hfr : fitsR c l 19 19 = true := by rw [← fits_same (fun x hx => .inl (ok x hx).1)]; exact hf
 obtain ⟨a1, a2, a3, a4, a5⟩ := cum_same c 100000 (domsL l) hi F.n1 (by rw [el]; exact ht)
 obtain ⟨b1, b2⟩ := cf_n 100000 hf hi (by rw [el]; exact ht)
 rw [el] at a2 a3 a4
 have e1 : cumF c (domsL l) = cumGo c 100000 (domsL l) := b2
 have e2 : cumR c l = rndGo c 100000 l := by unfold cumR cumRn; rw [hfr]; rfl
 have hle := hN.le
 have no : (cumGo c 100000 (domsL l)).2 = false → (cumGo c 100000 (domsL l)).1 = [] := fun h => by rw [cumGo_no c _ _ h]
 have r1 : cumRB c l = true := by
  unfold cumRB cumRBn
  rw [fitsB_cum, a2, hfr]
  rfl
 generalize hG : cumGo c 100000 (domsL l) = G at e1 a3 a4 a5 no
 generalize hG' : rndGo c 100000 l = G' at e2 a3 a4
 refine ⟨⟨Nat.ble_eq_true_of_le hle, b1, r1, by rw [e1, e2]; exact a4, ?_, ?_, ?_⟩, hi, by rw [e1]; exact a5⟩
 ·rw [e1]
  cases h2 : G.2 with
  | true => exact (inv_bounds (a5 h2).inv).1
  | false => rw [no h2]; rfl
 ·rw [e1]
  cases h2 : G.2 with
  | true => exact (inv_bounds (a5 h2).inv).2.1
  | false => rw [no h2]; rfl
 ·rw [e1, e2, a3]
  unfold sameL
  rw [decide_eq_true rfl]
theorem cum_no {c : Con} {l : List (List Int)} (h : fitsR c l 19 19 = false) : cumR c l = ([], false) := by
 unfold cumR cumRn
 rw [h]
 rfl
theorem cf_any {c : Con} {l : List (List Int)} (hg : ∀ x ∈ l, (okL x = true ∧ Rising x) ∨ x = []) (hl : l.length ≤ 1000) (ht : tot l < 100000) : CF c l := by
 have hG : Good l := fun x hx => (hg x hx).imp (fun h => h.1) id
 cases hf : fitsD c (domsL l) 19 19 with
 | true =>
  have ne : ∀ x ∈ l, x ≠ [] := fun x hx hx0 => by
   unfold fitsD at hf
   rw [Bool.and_eq_true, empty_doms hG] at hf
   have h2 := hf.2
   rw [Bool.not_not, List.all_eq_true] at h2
   have := h2 x hx
   rw [hx0] at this
   simp at this
  exact (cf_fits hf (fun x hx => (hg x hx).resolve_right (ne x hx)) ht).1
 | false =>
  have hr : fitsR c l 19 19 = false := by rw [← fits_same hG]; exact hf
  have e1 : cumF c (domsL l) = ([], false) := by unfold cumF cumFn; rw [hf]; rfl
  have e2 := cum_no hr
  refine ⟨Nat.ble_eq_true_of_le hl, ?_, ?_, ?_, ?_, ?_, ?_⟩
  ·unfold cumFB cumFBn; rw [fitsB_cum, hf]; rfl
  ·unfold cumRB cumRBn; rw [fitsB_cum, hr]; rfl
  ·rw [e1, e2]
  ·rw [e1]; rfl
  ·rw [e1]; rfl
  ·rw [e1, e2]; rfl
theorem cf_body {c : Con} {l : List (List Int)} (g : CF c l) (R : Bool → Option AV) :
  (bif Nat.ble l.length 1000 then bif cumFB c (domsL l) then bif cumRB c l then bif (cumF c (domsL l)).2 == (cumR c l).2 then
   bif Nat.ble (cumF c (domsL l)).1.length 1000 && (cumF c (domsL l)).1.all listB then bif Nat.ble (listsL (cumF c (domsL l)).1).length 1000 && lensB (listsL (cumF c (domsL l)).1) then
    R (sameL (listsL (cumF c (domsL l)).1) (cumR c l).1) else none else none else R false else none else none else none) = R true := by
 have e3 : ((cumF c (domsL l)).2 == (cumR c l).2) = true := by rw [g.ok]; cases (cumR c l).2 <;> rfl
 exact (bT g.le).trans ((bT g.f1).trans ((bT g.r1).trans ((bT e3).trans ((bT g.lb).trans ((bT g.ll).trans (congrArg R g.same))))))
theorem makeA_doms {z : Case} {k : Int} (hk1 : 1 ≤ k) (hk2 : k ≤ 23) (w : Int) (hw : 1 ≤ w) : DomsOk w (makeAL z k w) := ⟨makeA_dom hw, (makeA_len hk1 hk2).2, (makeA_len hk1 hk2).1⟩
theorem makeA_all (z : Case) (k w : Int) : (makeAL z k w).length = (makeAC z k).2.1.length + (makeAC z k).2.2.1.length := by unfold makeAL; simp
theorem make_ab {z : Case} {k w : Int} (hk1 : 1 ≤ k) (hk2 : k ≤ 23) (h1 : 1 ≤ w) (h2 : w ≤ 1000) : makeAB z k w = true := by
 unfold makeAB
 simp only [Bool.and_eq_true, decide_eq_true_eq]
 exact ⟨⟨⟨hk1, hk2⟩, h1⟩, h2⟩
theorem kindC_eq (n : Int) : kindC n = 19 := by
 unfold kindC
 rw [Int.zero_mul]
 rfl
theorem doms_cf {w : Int} (hw : w ≤ 1000) {l : List (List Int)} (h : DomsOk w l) (c : Con) : CF c l := by
 refine cf_any (fun x hx => .inl ⟨h.ok hw x hx, (h.dom x hx).ris⟩) (by have := h.len; omega) ?_
 have := tot_small (m := 6) fun x hx => (h.dom x hx).len
 have := h.len
 omega
theorem F507.sem (k : Nat) (z : Case) (n : Int) : callW F507.E false F507.fn k [.agg (explode CaseT z), .v (.int .u8) n] = some (.v .bool true) := by
 refine (F507.start_eq k z n).trans ?_
 rw [kindC_eq]
 have hm : makeAB z 19 9 = true := make_ab (by omega) (by omega) (by omega) (by omega)
 have g := doms_cf (by omega) (makeA_doms (z := z) (k := 19) (by omega) (by omega) 9 (by omega)) (makeAC z 19)
 generalize makeAC z 19 = c at g ⊢
 generalize makeAL z 19 9 = l at g ⊢
 exact (bT hm).trans (cf_body g fun b => some (.v .bool b))
structure Gd (l : List (List Int)) : Prop where
  ok : ∀ x ∈ l, ((okL x = true ∧ Rising x) ∨ x = []) ∧ x.length ≤ 6
  len : l.length ≤ 1000
theorem Gd.tot {l : List (List Int)} (h : Gd l) : Ev.tot l < 100000 := by
 have := tot_small (m := 6) fun x hx => (h.ok x hx).2
 have := h.len
 omega
theorem cref_body {c : Con} {l : List (List Int)} (hg : Gd l) (R : Bool → Option AV) :
  (bif Nat.ble l.length 1000 then bif cumFB c (domsL l) then bif fitsB c 19 19 then bif fitsR c l 19 19 then
    bif !(cumF c (domsL l)).2 then R true else R (decide (((cumF c (domsL l)).1.length : Int) = (l.length : Int)))
   else bif !(cumF c (domsL l)).2 then R (decide (((cumF c (domsL l)).1.length : Int) = 0)) else R false else none else none else none) = R true := by
 have hG : Good l := fun x hx => (hg.ok x hx).1.imp (fun h => h.1) id
 have g : CF c l := cf_any (fun x hx => (hg.ok x hx).1) hg.len hg.tot
 refine (bT g.le).trans ((bT g.f1).trans ((bT (fitsB_cum c)).trans ?_))
 cases hr : fitsR c l 19 19 with
 | false =>
  have hf : fitsD c (domsL l) 19 19 = false := by rw [fits_same hG]; exact hr
  have e1 : cumF c (domsL l) = ([], false) := by unfold cumF cumFn; rw [hf]; rfl
  rw [e1]
  rfl
 | true =>
  have hf : fitsD c (domsL l) 19 19 = true := by rw [fits_same hG]; exact hr
  have ne : ∀ x ∈ l, x ≠ [] := fun x hx hx0 => by
   unfold fitsD at hf
   rw [Bool.and_eq_true, empty_doms hG] at hf
   have h2 := hf.2
   rw [Bool.not_not, List.all_eq_true] at h2
   have := h2 x hx
   rw [hx0] at this
   simp at this
  obtain ⟨_, _, Rz⟩ := cf_fits hf (fun x hx => (hg.ok x hx).1.resolve_right (ne x hx)) hg.tot
  refine (bT rfl).trans ?_
  cases h2 : (cumF c (domsL l)).2 with
  | false => rfl
  | true =>
   have hl := (Rz h2).len
   rw [doms_len] at hl
   refine (bF rfl).trans ?_
   rw [decide_eq_true (by omega)]
theorem F508.r1 (k : Nat) (d : Con) (m : List (List Int)) (hm : Gd m) : F508.n1_1_1 k (F508.kt k [1, 1, 1]) m d.1 d.2.1 d.2.2.1 d.2.2.2.1 d.2.2.2.2.1 d.2.2.2.2.2.1 d.2.2.2.2.2.2.1 d.2.2.2.2.2.2.2 = some (.v .bool true) :=
 (F508.n1_1_1_eq k _ m _ _ _ _ _ _ _ _).trans ((cref_body (c := d) hm fun b => (F508.kt k [1, 1, 1]).ret ⟨slots 100 [(6, .v .bool b)], []⟩).trans (F508.c0 k))
theorem F508.r2 (k : Nat) (d : Con) (m : List (List Int)) (hm : Gd m) : F508.n1_1_1b k (F508.kt k [1, 1, 1]) d.1 d.2.1 d.2.2.1 d.2.2.2.1 d.2.2.2.2.1 d.2.2.2.2.2.1 d.2.2.2.2.2.2.1 d.2.2.2.2.2.2.2 m = some (.v .bool true) :=
 (F508.n1_1_1b_eq k _ _ _ _ _ _ _ _ _ m).trans ((cref_body (c := d) hm fun b => (F508.kt k [1, 1, 1]).ret ⟨slots 100 [(6, .v .bool b)], []⟩).trans (F508.c0 k))
theorem F508.r3 (k : Nat) (a : Int) (b1 b2 b3 b4 b5 : List Int) (e : Int) (m : List (List Int)) (hm : Gd m) : F508.n1_1_1c k (F508.kt k [1, 1, 1]) a b1 b2 b3 b4 b5 e m = some (.v .bool true) :=
 (F508.n1_1_1c_eq k _ _ _ _ _ _ _ _ m).trans ((cref_body (c := (a, b1, b2, b3, b4, b5, e, [])) hm fun b => (F508.kt k [1, 1, 1]).ret ⟨slots 100 [(6, .v .bool b)], []⟩).trans (F508.c0 k))
theorem F508.sem (k : Nat) (z : Case) (r : Con) (n : Int) (h0 : 0 ≤ n) (h1 : n < 256) : callW F508.E false F508.fn k [.agg (explode CaseT z), .agg (explode ConT r), .v (.int .u8) n] = some (.v .bool true) := by
 refine (F508.start_eq k z r n).trans ?_
 obtain ⟨k1, k2⟩ := kindOf_range h0 h1
 have hm : makeAB z (kindOf n) 6 = true := make_ab k1 k2 (by omega) (by omega)
 have ek : IntKind.i64.wrap (1 + ((IntKind.i64.wrap (shrW .u8 n 3)).tmod 23)) = kindOf n := rfl
 rw [ek]
 refine (bT hm).trans ?_
 have hD := makeA_doms (z := z) k1 k2 6 (by omega)
 have l1 := hD.one
 have l2 := hD.len
 have hg : ∀ x ∈ makeAL z (kindOf n) 6, ((okL x = true ∧ Rising x) ∨ x = []) ∧ x.length ≤ 6 := fun x hx => ⟨.inl ⟨hD.ok (by omega) x hx, (hD.dom x hx).ris⟩, (hD.dom x hx).len⟩
 generalize makeAL z (kindOf n) 6 = l at l1 l2 hg ⊢
 generalize makeAC z (kindOf n) = c
 have ew : IntKind.i64.wrap ((l.length : Int) - 1) = (l.length : Int) - 1 := wrap_ok (by omega) (by omega)
 have q0 : 0 ≤ (l.length : Int) - 1 := by omega
 have q1 : (l.length : Int) - 1 ≤ l.length := by omega
 have q2 : (0 : Int) < l.length := by omega
 have q3 : (l.length + [[(1 : Nat)]].length) * 24 ≤ LIM := lim24 (by simp; omega)
 rw [ew]
 by_cases c0 : n.tmod 5 = 0
 ·exact (bT (decide_eq_true c0)).trans ((bT (bAnd q0 q1)).trans (F508.r1 k c _ ⟨fun x hx => hg x (List.mem_of_mem_take hx), by rw [List.length_take]; omega⟩))
 ·refine (bF (decide_eq_false c0)).trans ?_
  by_cases c1 : n.tmod 5 = 1
  ·exact (bT (decide_eq_true c1)).trans ((bT (decide_eq_true q2)).trans (F508.r2 k c _ ⟨fun x hx => by
    rcases List.mem_or_eq_of_mem_set hx with h | rfl
    ·exact hg x h
    ·exact ⟨.inr rfl, Nat.zero_le _⟩, by rw [List.length_set]; omega⟩))
  ·refine (bF (decide_eq_false c1)).trans ?_
   by_cases c2 : n.tmod 5 = 2
   ·exact (bT (decide_eq_true c2)).trans ((bT (decide_eq_true q3)).trans (F508.r2 k c _ ⟨fun x hx => by
     rcases List.mem_append.mp hx with h | h
     ·exact hg x h
     ·obtain rfl := List.mem_singleton.mp h
      exact ⟨.inl ⟨rfl, by simp⟩, by simp⟩, by rw [List.length_append]; simp; omega⟩))
   ·refine (bF (decide_eq_false c2)).trans ?_
    by_cases c3 : n.tmod 5 = 3
    ·exact (bT (decide_eq_true c3)).trans (F508.r3 k _ _ _ _ _ _ _ _ ⟨hg, by omega⟩)
    ·exact (bF (decide_eq_false c3)).trans (F508.r2 k c _ ⟨hg, by omega⟩)
end Go.Proofs.YtdihbphkbdelbaaGreatDoor.Ev
set_option linter.unusedVariables false
set_option linter.unusedSimpArgs false
set_option maxRecDepth 100000
namespace Go.Proofs.YtdihbphkbdelbaaGreatDoor.Ev
open Go Go.RowKit
theorem numbers_pos {l : List Int} {f n wide : Int} (hw : 0 < wide) (hw1 : wide ≤ 1000) : ∀ x ∈ numbersL l f n 0 wide, 0 ≤ x ∧ x < wide := by
 intro x hx
 unfold numbersL at hx
 obtain ⟨i, _, rfl⟩ := List.mem_map.mp hx
 unfold numR
 have key : ∀ v : Int, 0 ≤ (if v.tmod wide < 0 ∧ (0 : Int) ≥ 0 then IntKind.i64.wrap (0 - v.tmod wide) else v.tmod wide) ∧ (if v.tmod wide < 0 ∧ (0 : Int) ≥ 0 then IntKind.i64.wrap (0 - v.tmod wide) else v.tmod wide) < wide := fun v => by
  obtain ⟨t1, t2⟩ := tmod_abs (v := v) hw
  split
  ·rw [wrap_ok (by omega) (by omega)]
   omega
  ·omega
 exact key _
theorem absK_range (m : Int) : 0 ≤ absK (m.tmod 12) ∧ absK (m.tmod 12) ≤ 11 := by
 have t1 := Int.tmod_lt_of_pos m (show (0 : Int) < 12 by omega)
 have t2 : -12 < m.tmod 12 := Int.lt_tmod_of_pos m (by omega)
 unfold absK
 by_cases h : m.tmod 12 < 0
 ·rw [decide_eq_true h]
  show 0 ≤ IntKind.i64.wrap (0 - m.tmod 12) ∧ IntKind.i64.wrap (0 - m.tmod 12) ≤ 11
  rw [wrap_ok (by omega) (by omega)]
  omega
 ·rw [decide_eq_false h]
  show 0 ≤ m.tmod 12 ∧ m.tmod 12 ≤ 11
  omega
structure MadeC (c : Con) : Prop where
  k : c.1 = 19
  a1 : 1 ≤ c.2.1.length
  a4 : c.2.1.length ≤ 4
  b0 : c.2.2.1 = []
  va : ∀ x ∈ c.2.1, 0 ≤ x ∧ x < 256
  cl : c.2.2.2.1.length = c.2.1.length
  dl : c.2.2.2.2.1.length = c.2.1.length
  cb : ∀ x ∈ c.2.2.2.1, 0 ≤ x ∧ x ≤ 1000000
  db : ∀ x ∈ c.2.2.2.2.1, 0 ≤ x ∧ x ≤ 1000000
  e0 : c.2.2.2.2.2.1 = []
  K : 0 ≤ c.2.2.2.2.2.2.1 ∧ c.2.2.2.2.2.2.1 ≤ 9999999999
  r0 : c.2.2.2.2.2.2.2 = []
theorem made_con19 (z : ZRest) (v : Int) (hv : 0 < v) (hv1 : v ≤ 256) (hz : U8s z.1) : MadeC (con19 z v) := by
 have hn := nA_range z.1
 have hl : (placesL z.1 (nA z.1) v).length = (nA z.1).toNat := places_length _ _ _
 have h1 : (numbersL z.2.2.1 0 (nA z.1) 0 4).length = (nA z.1).toNat := numbers_length _ _ _ _ _
 have h2 : (numbersL z.2.2.1 (nA z.1) (nA z.1) 0 4).length = (nA z.1).toNat := numbers_length _ _ _ _ _
 refine ⟨rfl, ?_, ?_, rfl, fun x hx => ?_, ?_, ?_, fun x hx => ?_, fun x hx => ?_, rfl, ?_, rfl⟩
 ·show 1 ≤ (placesL z.1 (nA z.1) v).length
  omega
 ·show (placesL z.1 (nA z.1) v).length ≤ 4
  omega
 ·have := places_range hz hv x hx
  omega
 ·show (numbersL z.2.2.1 0 (nA z.1) 0 4).length = (placesL z.1 (nA z.1) v).length
  omega
 ·show (numbersL z.2.2.1 (nA z.1) (nA z.1) 0 4).length = (placesL z.1 (nA z.1) v).length
  omega
 ·have := numbers_pos (show (0 : Int) < 4 by omega) (by omega) x hx
  omega
 ·have := numbers_pos (show (0 : Int) < 4 by omega) (by omega) x hx
  omega
 ·have := absK_range (IntKind.i64.wrap z.2.2.2.1)
  show 0 ≤ absK ((IntKind.i64.wrap z.2.2.2.1).tmod 12) ∧ absK ((IntKind.i64.wrap z.2.2.2.1).tmod 12) ≤ 9999999999
  omega
theorem bounded_zero {l : List Int} (h : ∀ x ∈ l, 0 ≤ x ∧ x ≤ 1000000) : boundedD l 0 = true := by
 unfold boundedD
 rw [not_any (fun x hx => ?_)]
 ·rfl
 ·have := h x hx
  unfold numB
  simp only [Bool.or_eq_false_iff, decide_eq_false_iff_not]
  omega
theorem right_cum {c : Con} (h : MadeC c) : rightM c 256 = 0 := by
 obtain ⟨k, A, B, C, D, E, M, R⟩ := c
 obtain ⟨h1, h2, h3, h4, h5, h6, h7, h8, h9, h10, h11, h12⟩ := h
 simp only at h1 h2 h3 h4 h5 h6 h7 h8 h9 h10 h11 h12
 subst h1 h4 h10 h12
 have e5 : List.any (varsD (19, A, [], C, D, [], M, [])) (varB 256) = false := vars_ok fun x hx => by
  rcases List.mem_append.mp (show x ∈ A ++ [] from hx) with hm | hm
  ·exact h5 x hm
  ·cases hm
 have e6 : numbersD (19, A, [], C, D, [], M, []) = true := by
  unfold numbersD
  have a1 : boundedD C 0 = true := bounded_zero h8
  have a2 : boundedD D 0 = true := bounded_zero h9
  show (([] : List (List Int)).all (fun r => boundedD r 0) && boundedD C 0 && boundedD D 0 && boundedD [] 0 && decide (M ≥ 0) && decide (M ≤ 9999999999)) = true
  rw [a1, a2, decide_eq_true (show M ≥ 0 from h11.1), decide_eq_true h11.2]
  rfl
 have e2 : countedD (19, A, [], C, D, [], M, []) ⟨#[]⟩ = true := by
  simp [countedD, -List.length_eq_zero_iff]; omega
 have e3 : alikeD (19, A, [], C, D, [], M, []) = true := by
  simp [alikeD, h6, h7]
 have e4 : kB (19, A, [], C, D, [], M, []) = true := by
  simp [kB, hasK]
 unfold rightM
 rw [e2, e3, e4, e5, e6]
 rfl
theorem fits_made {c : Con} (h : MadeC c) {l : List (List Int)} (hl : l.length = c.2.1.length + c.2.2.1.length) (ok : ∀ x ∈ l, okL x = true) : fitsD c (domsL l) 19 19 = true := by
 unfold fitsD lenCB
 have e1 : List.any (domsL l) emptyD = false := not_any fun d hd => by
  obtain ⟨x, hx, rfl⟩ := List.mem_map.mp hd
  unfold emptyD
  simp [size_ofD (ok x hx)]
 have hk := h.k
 rw [right_cum h, e1, doms_len, hl, decide_eq_true (show (19 : Int) ≤ c.1 by omega), decide_eq_true (show c.1 ≤ (19 : Int) by omega), decide_eq_true rfl, decide_eq_true rfl]
 rfl
theorem make_cum (z : Case) (hz : U8s z.1.2.1) : MadeC (makeAC z 19) := by
 have h := (conA_spec (conAB_of (k := 19) (z := z.1.2) (by omega) (by omega))).2.2.2.2.2 (show (19 : Int) - 1 = 18 by omega)
 have e : makeAC z 19 = conX ((19 : Int) - 1) z.1.2 5 := h
 rw [e]
 exact made_con19 _ _ (by omega) (by omega) hz
theorem con_ab4 {z : ZRest} : conAB (18, z) 4 = true := by
 unfold conAB
 rfl
theorem fix_cum {z : ZRest} (hz : U8s z.1) : MadeC (conA (18, z) 4) := by
 have h := (conA_spec (z := (18, z)) (v := 4) con_ab4).2.2.2.2.2 rfl
 rw [h]
 exact made_con19 _ _ (by omega) (by omega) hz
theorem local_cum {c : Con} (h : MadeC c) : localB c = true := by
 have h1 := h.a4
 unfold localB
 rw [h.b0, Nat.ble_eq_true_of_le (show c.2.1.length ≤ 1000 by omega)]
 rfl
theorem iota_get {n k : Nat} (hk : k < n) : (iota 0 n).getD k 0 = (k : Int) := by
 unfold iota
 rw [List.getD_eq_getElem?_getD, List.getElem?_map, List.getElem?_range hk]
 show (0 : Int) + (k : Int) = _
 omega
theorem iota_len (a : Int) (n : Nat) : (iota a n).length = n := by unfold iota; simp
theorem runs_local {c : Con} {r : List Int} {N : Nat} (hA : c.2.1.length = N) (t : Int) : ∀ (n k : Nat), k + n ≤ N → runsI (localC c) r t n k = sumI (rT c r t) n k
 | 0, _, _ => rfl
 | n + 1, k, h => by
  have ih := runs_local (c := c) (r := r) hA t n (k + 1) (by omega)
  show (bif decide (r.getD ((iota 0 c.2.1.length).getD k 0).toNat 0 ≤ t) && decide (t - r.getD ((iota 0 c.2.1.length).getD k 0).toNat 0 < c.2.2.2.1.getD k 0) then c.2.2.2.2.1.getD k 0 else 0) + runsI (localC c) r t n (k + 1) = rT c r t k + sumI (rT c r t) n (k + 1)
  rw [iota_get (by omega), Int.toNat_natCast, ih]
  rfl
theorem holds_cum {c : Con} {N : Nat} (F : FitC c N) {r : List Int} (hr : r.length = N) (hm : ∀ x ∈ r, -1000000 ≤ x ∧ x ≤ 1000000) :
  holdsB (localC c) r = true ∧ (holdsC (localC c) r = true ↔ ∀ t, runsL c r N t ≤ c.2.2.2.2.2.2.1) := by
 have hA := F.al
 have n64 := F.n64
 refine ⟨hold_iff.mpr ⟨F.k, ?_, ?_, ?_, ?_, F.num.cp, F.num.dp, hm⟩, ?_⟩
 ·show (iota 0 c.2.1.length).length ≤ 1000
  rw [iota_len]; omega
 ·show c.2.2.2.1.length = (iota 0 c.2.1.length).length
  rw [iota_len, hA]; exact F.num.cl
 ·show c.2.2.2.2.1.length = (iota 0 c.2.1.length).length
  rw [iota_len, hA]; exact F.num.dl
 ·intro x hx
  obtain ⟨i, hi, rfl⟩ := List.mem_map.mp (show x ∈ (List.range c.2.1.length).map fun (i : Nat) => 0 + (i : Int) from hx)
  have hi := List.mem_range.mp hi
  omega
 ·have hrun : ∀ t, runsC (localC c) r t = runsL c r N t := fun t => by
   show runsI (localC c) r t (iota 0 c.2.1.length).length 0 = sumI (rT c r t) N 0
   rw [iota_len, hA]
   exact runs_local hA t N 0 (by omega)
  have hC : holdsC (localC c) r = true ↔ ∀ k, k < N → runsL c r N (r.getD k 0) ≤ c.2.2.2.2.2.2.1 := by
   show (!((iota 0 c.2.1.length).any fun x => decide (runsC (localC c) r (r.getD x.toNat 0) > c.2.2.2.2.2.2.1))) = true ↔ _
   rw [Bool.not_eq_true', List.any_eq_false]
   constructor
   ·intro h k hk
    have := h (k : Int) (List.mem_map.mpr ⟨k, List.mem_range.mpr (by omega), by omega⟩)
    rw [Int.toNat_natCast, hrun] at this
    simpa using this
   ·intro h x hx
    obtain ⟨i, hi, rfl⟩ := List.mem_map.mp (show x ∈ (List.range c.2.1.length).map fun (i : Nat) => 0 + (i : Int) from hx)
    have hi := List.mem_range.mp hi
    rw [show (0 + (i : Int)).toNat = i by omega, hrun]
    have := h i (by omega)
    simpa using this
  rw [hC]
  exact ⟨fun h t => all_times F.num h t, fun h k _ => h _⟩
def fixW (a : List Int) (i : Int) : Int := if i < a.length then IntKind.i64.wrap (a.getD i.toNat 0) else IntKind.i64.wrap (1 + i)
theorem fix_loopW (L : Nat → Int → List (List Int) → List Int → Option AV) (a : List Int) (N : Nat) (hN : N ≤ 1000) (X : List (List Int) → List Int → Option AV)
  (hL : ∀ n i l v, L (n + 1) i l v = bif decide (i < (N : Int)) then
   bif decide (i < (a.length : Int)) then
    bif decide (0 ≤ i) && decide (i < (a.length : Int)) then
     bif decide ((l.length + [[IntKind.i64.wrap (a.getD i.toNat (0 : Int))]].length) * 24 ≤ LIM) then
      bif decide ((v.length + [IntKind.i64.wrap (a.getD i.toNat (0 : Int))].length) * 8 ≤ LIM) then
       L n (IntKind.i64.wrap (i + 1)) (l ++ [[IntKind.i64.wrap (a.getD i.toNat (0 : Int))]]) (v ++ [IntKind.i64.wrap (a.getD i.toNat (0 : Int))])
      else none
     else none
    else none
   else
    bif decide ((l.length + [[IntKind.i64.wrap (1 + i)]].length) * 24 ≤ LIM) then
     bif decide ((v.length + [IntKind.i64.wrap (1 + i)].length) * 8 ≤ LIM) then
      L n (IntKind.i64.wrap (i + 1)) (l ++ [[IntKind.i64.wrap (1 + i)]]) (v ++ [IntKind.i64.wrap (1 + i)])
     else none
    else none
   else X l v) (n : Nat) (hn : N < n) : L n 0 [] [] = X (ones ((List.range N).map fun (i : Nat) => fixW a i)) ((List.range N).map fun (i : Nat) => fixW a i) := by
 have step : ∀ (n i : Nat) (l : List (List Int)) (v : List Int), i < N → l.length ≤ 1000 → v.length ≤ 1000 → L (n + 1) (i : Int) l v = L n ((i + 1 : Nat) : Int) (l ++ [[fixW a (i : Int)]]) (v ++ [fixW a (i : Int)]) := by
  intro n i l v hi hl hv
  have w : IntKind.i64.wrap ((i : Int) + 1) = ((i + 1 : Nat) : Int) := by rw [wrap_ok (by omega) (by omega)]; omega
  have c1 : decide ((i : Int) < (N : Int)) = true := decide_eq_true (by omega)
  have l1 : ∀ y : List Int, decide ((l.length + [y].length) * 24 ≤ LIM) = true := fun y => decide_eq_true (show (l.length + 1) * 24 ≤ 140737488355328 by omega)
  have l2 : ∀ y : Int, decide ((v.length + [y].length) * 8 ≤ LIM) = true := fun y => decide_eq_true (show (v.length + 1) * 8 ≤ 140737488355328 by omega)
  rw [hL, c1, w]
  unfold fixW
  by_cases ha : (i : Int) < (a.length : Int)
  ·rw [decide_eq_true ha, l1, l2, if_pos ha, decide_eq_true (show (0 : Int) ≤ (i : Int) by omega)]
   rfl
  ·rw [decide_eq_false ha, l1 [IntKind.i64.wrap (1 + (i : Int))], l2 (IntKind.i64.wrap (1 + (i : Int))), if_neg ha]
   rfl
 have key : ∀ (d i n : Nat), i + d = N → d < n → L n (i : Int) (ones ((List.range i).map fun (i : Nat) => fixW a i)) ((List.range i).map fun (i : Nat) => fixW a i) = X (ones ((List.range N).map fun (i : Nat) => fixW a i)) ((List.range N).map fun (i : Nat) => fixW a i) := by
  intro d
  induction d with
  | zero =>
   intro i n h1 h2
   obtain ⟨n', rfl⟩ : ∃ n', n = n' + 1 := ⟨n - 1, by omega⟩
   obtain rfl : i = N := by omega
   rw [hL]
   exact self_lt
  | succ d ih =>
   intro i n h1 h2
   obtain ⟨n', rfl⟩ : ∃ n', n = n' + 1 := ⟨n - 1, by omega⟩
   rw [step n' i _ _ (by omega) (by simp; omega) (by simp; omega)]
   have e2 : ((List.range i).map fun (i : Nat) => fixW a i) ++ [fixW a (i : Int)] = (List.range (i + 1)).map fun (i : Nat) => fixW a i := by
    rw [List.range_succ, List.map_append]
    rfl
   have e3 : ones ((List.range i).map fun (i : Nat) => fixW a i) ++ [[fixW a (i : Int)]] = ones ((List.range (i + 1)).map fun (i : Nat) => fixW a i) := by
    rw [← e2]
    unfold ones
    rw [List.map_append]
    rfl
   rw [e2, e3]
   exact ih (i + 1) n' (by omega) (by omega)
 exact key N 0 n (by omega) hn
theorem fix_nearW {a : List Int} (h : I8s a) (N : Nat) (hN : N ≤ 500) : ∀ x ∈ (List.range N).map fun (i : Nat) => fixW a i, -1000 ≤ x ∧ x ≤ 1000 := by
 intro x hx
 obtain ⟨i, hi, rfl⟩ := List.mem_map.mp hx
 have hi := List.mem_range.mp hi
 unfold fixW
 split
 ·rename_i h1
  have hm : a.getD (i : Int).toNat 0 ∈ a := gD_mem (by omega) 0
  have := h _ hm
  rw [wrap_ok (by omega) (by omega)]
  omega
 ·rw [wrap_ok (by omega) (by omega)]
  omega
structure FixC (c : Con) (v : List Int) : Prop where
  f1 : cumFB c (domsL (ones v)) = true
  hb : holdsB (localC c) v = true
  ok : (cumF c (domsL (ones v))).2 = holdsC (localC c) v
  lb : (Nat.ble (cumF c (domsL (ones v))).1.length 1000 && (cumF c (domsL (ones v))).1.all listB) = true
  ll : (Nat.ble (listsL (cumF c (domsL (ones v))).1).length 1000 && lensB (listsL (cumF c (domsL (ones v))).1)) = true
  same : (cumF c (domsL (ones v))).2 = true → listsL (cumF c (domsL (ones v))).1 = ones v
theorem onesl_len (v : List Int) : (ones v).length = v.length := by unfold ones; simp
theorem fix_ok {c : Con} (h : MadeC c) {v : List Int} (hl : v.length = c.2.1.length + c.2.2.1.length) (hv : ∀ x ∈ v, -1000 ≤ x ∧ x ≤ 1000) : FixC c v := by
 have ok : ∀ x ∈ ones v, okL x = true ∧ Rising x := fun x hx => ⟨(ones_ok hv x hx).1, (ones_ok hv x hx).2.1⟩
 have hf : fitsD c (domsL (ones v)) 19 19 = true := fits_made h (by rw [onesl_len]; exact hl) fun x hx => (ok x hx).1
 have F := fit_of hf
 rw [doms_len, onesl_len] at F
 have n64 := F.n64
 have n1 := F.n1
 have ht : tot (ones v) < 100000 := by
  have := tot_small (m := 1) (l := ones v) fun x hx => by
   obtain ⟨y, _, rfl⟩ := List.mem_map.mp hx
   exact Nat.le_refl 1
  rw [onesl_len] at this
  omega
 obtain ⟨g, hI, Rz⟩ := cf_fits hf ok ht
 obtain ⟨hB, hC⟩ := holds_cum F rfl fun x hx => by have := hv x hx; omega
 have el : listsL (domsL (ones v)) = ones v := lists_doms ok
 have dl : (domsL (ones v)).length = v.length := by rw [doms_len, onesl_len]
 have at1 : ∀ k, k < v.length → listD ((domsL (ones v)).getD k dom0) = [v.getD k 0] := fun k hk => by
  rw [← listsAt (by rw [dl]; exact hk), el, ones_get hk]
 have hin : InP v (listsL (domsL (ones v))) := by rw [el]; exact ones_in.mpr rfl
 have e1 : cumF c (domsL (ones v)) = cumGo c 100000 (domsL (ones v)) := (cf_n 100000 hf hI (by rw [el]; exact ht)).2
 refine ⟨g.f1, hB, ?_, g.lb, g.ll, fun h2 => ?_⟩
 ·rw [Bool.eq_iff_iff, hC]
  constructor
  ·intro h2
   rw [e1] at h2
   -- the first pass has left all
   have hp : (passD c (domsL (ones v))).2.2 = true := by
    revert h2
    show (bif !(passD c (domsL (ones v))).2.2 then ([], false) else bif !(passD c (domsL (ones v))).2.1 then ((passD c (domsL (ones v))).1, true) else cumGo c 99999 (passD c (domsL (ones v))).1).2 = true → _
    cases (passD c (domsL (ones v))).2.2 with
    | false => exact fun h => by cases h
    | true => exact fun _ => rfl
   have all1 := pass_one (c := c) (domsL (ones v)).length 0 false (domsL (ones v)) hI (fun k hk => by rw [at1 k (by omega)]; rfl) (by omega) hp
   refine all_times F.num fun k hk => ?_
   have hN := F.num
   rcases top_time hN v (v.getD k 0) with h0 | ⟨j, hj, hj1, hj2, hj3⟩
   ·unfold runsL
    rw [sumI_zero v.length 0 fun i _ hi => h0 i (by omega)]
    exact hN.K.1
   ·refine Int.le_trans hj3 ?_
    have hjd : j < (domsL (ones v)).length := by omega
    have kj := all1 j (Nat.zero_le _) hjd
    have mj : mayD c (domsL (ones v)) (j : Int) (v.getD j 0) = true := by
     have : v.getD j 0 ∈ keepD c (domsL (ones v)) j := by rw [kj, at1 j hj]; exact List.mem_singleton.mpr rfl
     unfold keepD at this
     exact (List.mem_filter.mp this).2
    have bC := hI.num.cAt hjd
    rw [may_same hI hjd, mayR_iff (by rw [Int.toNat_natCast]; exact bC.1)] at mj
    rw [Int.toNat_natCast] at mj
    have := mj (v.getD j 0) (Int.le_refl _) (by omega)
    refine Int.le_trans ?_ this
    unfold runR
    rw [listsLen, hI.load (j : Int) (v.getD j 0) (domsL (ones v)).length 0 (by omega), Int.toNat_natCast, load_sum, dl]
    have hs := sumI_one' (f := loadT c (domsL (ones v)) (j : Int) (v.getD j 0)) (g := rT c v (v.getD j 0)) (i := j) (x := c.2.2.2.2.1.getD j 0) v.length 0 (Nat.zero_le _) (by omega) (fun i _ hi hne => ?_) ?_
    ·show sumI (rT c v (v.getD j 0)) v.length 0 ≤ _
     omega
    ·have hi' : i < v.length := by omega
     by_cases hq : v.getD i 0 ≤ v.getD j 0 ∧ v.getD j 0 - v.getD i 0 < c.2.2.2.1.getD i 0
     ·have gi := hI.at (show i < (domsL (ones v)).length by omega)
      have e := gi.ends
      rw [at1 i hi'] at e
      have m1 := List.mem_singleton.mp e.1.1
      have m2 := List.mem_singleton.mp e.2.1
      rw [rT_yes hq.1 hq.2]
      unfold loadT sureE
      rw [decide_eq_false (show ¬ (i : Int) = (j : Int) by omega), Int.toNat_natCast, m1, m2, decide_eq_true hq.1, decide_eq_true (show v.getD j 0 < v.getD i 0 + c.2.2.2.1.getD i 0 by omega)]
      exact Int.le_refl _
     ·rw [rT_no hq]
      exact (loadT_range hI.cum (j : Int) (v.getD j 0) (show i < (domsL (ones v)).length by omega)).1
    ·have e0 : loadT c (domsL (ones v)) (j : Int) (v.getD j 0) j = 0 := by
      unfold loadT
      rw [decide_eq_true rfl]
      rfl
     rw [e0]
     unfold rT
     have := (F.num.dAt hj).1
     cases decide (v.getD j 0 ≤ v.getD j 0) && decide (v.getD j 0 - v.getD j 0 < c.2.2.2.1.getD j 0) with
     | true => show c.2.2.2.2.1.getD j 0 ≤ 0 + c.2.2.2.2.1.getD j 0; omega
     | false => show (0 : Int) ≤ 0 + c.2.2.2.2.1.getD j 0; omega
  ·intro h2
   rw [e1]
   exact (cum_sound 100000 (domsL (ones v)) hI (by omega) (by rw [el]; exact ht) hin (by rw [dl]; exact h2)).1
 ·have R := Rz h2
  have hl2 : (cumF c (domsL (ones v))).1.length = v.length := by rw [R.len, dl]
  refine List.ext_getElem (by rw [listsLen, hl2, onesl_len]) fun i h1 h3 => ?_
  have hi : i < v.length := by rw [onesl_len] at h3; exact h3
  have e1 := gD_get (d := ([] : List Int)) h1
  have e2 := gD_get (d := ([] : List Int)) h3
  rw [← e1, ← e2, ones_get hi, listsAt (by omega)]
  have gi := R.inv.at (show i < (cumF c (domsL (ones v))).1.length by omega)
  have sub : ∀ x ∈ listD ((cumF c (domsL (ones v))).1.getD i dom0), x = v.getD i 0 := fun x hx => by
   have := R.sub i x (by omega) hx
   rw [at1 i hi] at this
   exact List.mem_singleton.mp this
  refine rising_ext gi.ris (List.pairwise_singleton _ _) fun x => ⟨fun hx => by rw [sub x hx]; exact List.mem_singleton.mpr rfl, fun hx => ?_⟩
  rw [List.mem_singleton.mp hx]
  obtain ⟨y, hy⟩ := List.exists_mem_of_ne_nil _ gi.ne
  rw [← sub y hy]
  exact hy
theorem F509.fixed (n : Nat) (a : List Int) (c : Con) (N : Nat) (hN : N ≤ 1000) (hn : N < n) (g : FixC c ((List.range N).map fun (i : Nat) => fixW a i)) :
  F509.l1_1_1_1_1_1_0_1_0 n (F509.kt n [1, 1, 1, 1, 1, 1, 0, 1, 0]) a (N : Int) 0 c.1 c.2.1 c.2.2.1 c.2.2.2.1 c.2.2.2.2.1 c.2.2.2.2.2.1 c.2.2.2.2.2.2.1 c.2.2.2.2.2.2.2 (localC c).1 (localC c).2.1 (localC c).2.2.1 (localC c).2.2.2.1 (localC c).2.2.2.2.1 (localC c).2.2.2.2.2.1 (localC c).2.2.2.2.2.2.1 (localC c).2.2.2.2.2.2.2 [] [] = some (.v .bool true) := by
 refine (fix_loopW (fun m i l v => F509.l1_1_1_1_1_1_0_1_0 m (F509.kt n [1, 1, 1, 1, 1, 1, 0, 1, 0]) a (N : Int) i c.1 c.2.1 c.2.2.1 c.2.2.2.1 c.2.2.2.2.1 c.2.2.2.2.2.1 c.2.2.2.2.2.2.1 c.2.2.2.2.2.2.2 (localC c).1 (localC c).2.1 (localC c).2.2.1 (localC c).2.2.2.1 (localC c).2.2.2.2.1 (localC c).2.2.2.2.2.1 (localC c).2.2.2.2.2.2.1 (localC c).2.2.2.2.2.2.2 l v) a N hN _ (fun m i l v => F509.l1_1_1_1_1_1_0_1_0_eq m _ a (N : Int) i _ _ _ _ _ _ _ _ _ _ _ _ _ _ _ _ l v) n hn).trans ?_
 have hlv : ((List.range N).map fun (i : Nat) => fixW a i).length ≤ 1000 := by simp; exact hN
 generalize ((List.range N).map fun (i : Nat) => fixW a i) = v at g hlv ⊢
 refine (F509.c0 n _ _ _ _ _ _ _ _ _ _ _ _ _ _ _ _ (ones v) v).trans ?_
 have ee : (c.1, (c.2.1, (c.2.2.1, (c.2.2.2.1, (c.2.2.2.2.1, (c.2.2.2.2.2.1, (c.2.2.2.2.2.2.1, c.2.2.2.2.2.2.2))))))) = c := rfl
 have el : ((localC c).1, ((localC c).2.1, ((localC c).2.2.1, ((localC c).2.2.2.1, ((localC c).2.2.2.2.1, ((localC c).2.2.2.2.2.1, ((localC c).2.2.2.2.2.2.1, (localC c).2.2.2.2.2.2.2))))))) = localC c := rfl
 rw [ee, el]
 refine bfix (by rw [Nat.ble_eq, onesl_len]; exact hlv) g.f1 g.hb ?_ fun ht => ⟨g.lb, g.ll, ?_⟩
 ·rw [g.ok]
  cases holdsC (localC c) v <;> rfl
 ·rw [g.same ht]
  unfold sameL
  rw [decide_eq_true rfl]
theorem F509.sem (k : Nat) (hk : 1001 < k) (z : Small) (n : Int) (a : List Int) (hz : U8s z.2.1) (ha : I8s a) :
  callW F509.E false F509.fn k [.agg (explode SmallT z), .v (.int .u8) n, .v (.sl (.int .i8)) a] = some (.v .bool true) := by
 refine (F509.start_eq k z n a).trans ?_
 have e18 : IntKind.u8.wrap (IntKind.i64.wrap (kindC n - 1)) = 18 := by rw [kindC_eq]; decide
 rw [e18]
 have hm := fix_cum (z := z.2) hz
 generalize conA (18, z.2) 4 = c at hm ⊢
 have a4 := hm.a4
 have hb0 : c.2.2.1.length = 0 := by rw [hm.b0]; rfl
 refine (bT con_ab4).trans ((bT (local_cum hm)).trans ?_)
 have hlen : IntKind.i64.wrap ((c.2.1.length : Int) + (c.2.2.1.length : Int)) = ((c.2.1.length + c.2.2.1.length : Nat) : Int) := by
  rw [wrap_ok (by omega) (by omega)]
  omega
 rw [hlen]
 exact F509.fixed k a c _ (by omega) (by omega) (fix_ok hm (by simp) (fix_nearW ha _ (by omega)))
end Go.Proofs.YtdihbphkbdelbaaGreatDoor.Ev
set_option linter.unusedVariables false
set_option linter.unusedSimpArgs false
set_option maxRecDepth 100000
namespace Go.Proofs.YtdihbphkbdelbaaGreatDoor.Ev
open Go Go.RowKit
theorem GD.has {d : Dom} (h : GD d) {v : Int} (hv : v ∈ listD d) : hasD d v = true := by
 rw [hasD_mem h.made.wf, (okL_iff.mp h.ok).2.1 v hv, ((listD_mem h.made.wf).1 v).mp hv]
 rfl
theorem GD.near {d : Dom} (h : GD d) : nearB d.1 = true := listB_near h.listB
theorem F510.inner1 (n : Nat) (K : Conts) (rows : List (List Int)) (d : List Dom) (x : List Int) (len i : Int) (ls : List Int) (c : Con) (l : List (List Int)) (hl : ls.length ≤ 1000000) (h : ∀ v ∈ ls, v ∈ x) (m : Nat) (hm : ls.length < m) :
  F510.l1_1_1_1_1_1_1_0_1_0_0_1_1_0_0_1_1_0 m (F510.k_l1_1_1_1_1_1_1_0_1_0 n K [1, 1, 0, 0, 1, 1, 0]) rows d x len i ls (ls.length : Int) 0 c.1 c.2.1 c.2.2.1 c.2.2.2.1 c.2.2.2.2.1 c.2.2.2.2.2.1 c.2.2.2.2.2.2.1 c.2.2.2.2.2.2.2 l = F510.l1_1_1_1_1_1_1_0_1_0 n K rows d len (IntKind.i64.wrap (i + 1)) c.1 c.2.1 c.2.2.1 c.2.2.2.1 c.2.2.2.2.1 c.2.2.2.2.2.1 c.2.2.2.2.2.2.1 c.2.2.2.2.2.2.2 l := by
 refine pass_loop (fun m j => F510.l1_1_1_1_1_1_1_0_1_0_0_1_1_0_0_1_1_0 m (F510.k_l1_1_1_1_1_1_1_0_1_0 n K [1, 1, 0, 0, 1, 1, 0]) rows d x len i ls (ls.length : Int) j c.1 c.2.1 c.2.2.1 c.2.2.2.1 c.2.2.2.2.1 c.2.2.2.2.2.1 c.2.2.2.2.2.2.1 c.2.2.2.2.2.2.2 l) ls.length 0 _ (by omega) (fun m => ?_) (fun m j _ hj => ?_) m (by omega)
 ·exact (F510.l1_1_1_1_1_1_1_0_1_0_0_1_1_0_0_1_1_0_eq m _ rows d x len i ls _ _ _ _ _ _ _ _ _ _ _).trans (self_lt.trans (F510.c2 n K rows d len i _ _ _ _ _ _ _ _ l))
 ·refine (F510.l1_1_1_1_1_1_1_0_1_0_0_1_1_0_0_1_1_0_eq m _ rows d x len i ls _ _ _ _ _ _ _ _ _ _ _).trans (bst3 (lt_nat hj) (in_nat hj) ?_)
  rw [contains_mem, Int.toNat_natCast]
  exact decide_eq_true (h _ (gD_mem hj 0))
theorem F510.outer1 (k : Nat) (hk : 2000000 ≤ k) (rows : List (List Int)) (c : Con) (d : List Dom) (l : List (List Int)) (hl : l.length ≤ 1000) (hd : d.length = l.length) (lb : ∀ x ∈ d, listB x = true ∧ (listD x).length ≤ 1000000) (sub : ∀ i v, i < l.length → v ∈ listD (d.getD i dom0) → v ∈ l.getD i []) :
  F510.l1_1_1_1_1_1_1_0_1_0 k (F510.kt k [1, 1, 1, 1, 1, 1, 1, 0, 1, 0]) rows d (l.length : Int) 0 c.1 c.2.1 c.2.2.1 c.2.2.2.1 c.2.2.2.2.1 c.2.2.2.2.2.1 c.2.2.2.2.2.2.1 c.2.2.2.2.2.2.2 l = F510.l1_1_1_1_1_1_1_1_0_1_0 k (F510.kt k [1, 1, 1, 1, 1, 1, 1, 1, 0, 1, 0]) d rows (rows.length : Int) 0 c.1 c.2.1 c.2.2.1 c.2.2.2.1 c.2.2.2.2.1 c.2.2.2.2.2.1 c.2.2.2.2.2.2.1 c.2.2.2.2.2.2.2 := by
 refine pass_loop (fun m i => F510.l1_1_1_1_1_1_1_0_1_0 m (F510.kt k [1, 1, 1, 1, 1, 1, 1, 0, 1, 0]) rows d (l.length : Int) i c.1 c.2.1 c.2.2.1 c.2.2.2.1 c.2.2.2.2.1 c.2.2.2.2.2.1 c.2.2.2.2.2.2.1 c.2.2.2.2.2.2.2 l) l.length 1000001 _ (by omega) (fun m => ?_) (fun m i hm hi => ?_) k (by omega)
 ·exact (F510.l1_1_1_1_1_1_1_0_1_0_eq m _ rows _ _ _ _ _ _ _ _ _ _ _ _).trans (self_lt.trans (F510.c0 k rows _ _ _ _ _ _ _ _ _))
 ·have hid : i < d.length := by omega
  have hmem : d.getD i dom0 ∈ d := gD_mem hid dom0
  obtain ⟨h1, h2⟩ := lb _ hmem
  have inn := F510.inner1 m (F510.kt k [1, 1, 1, 1, 1, 1, 1, 0, 1, 0]) rows d (l.getD i []) (l.length : Int) (i : Int) (listD (d.getD i dom0)) c l h2 (fun v hv => sub i v hi hv) m (by omega)
  refine (F510.l1_1_1_1_1_1_1_0_1_0_eq m _ rows _ _ _ _ _ _ _ _ _ _ _ _).trans ((bT (lt_nat hi)).trans ((bT (in_nat hi)).trans ((bT (in_nat hid)).trans ((bT (by rw [Int.toNat_natCast]; exact h1)).trans ?_))))
  rw [Int.toNat_natCast]
  exact inn
theorem F510.inner2 (n : Nat) (K : Conts) (d : List Dom) (rows : List (List Int)) (len i : Int) (r : List Int) (hr : r.length ≤ d.length) (hl : r.length ≤ 1000) (nb : ∀ x ∈ d, nearB x.1 = true) (has : ∀ i, i < r.length → hasD (d.getD i dom0) (r.getD i 0) = true) (c : Con) (m : Nat) (hm : 1001 < m) :
  F510.l1_1_1_1_1_1_1_1_0_1_0_0_1_1_0_0_1_1_0 m (F510.k_l1_1_1_1_1_1_1_1_0_1_0 n K [1, 1, 0, 0, 1, 1, 0]) d rows len i r (r.length : Int) 0 c.1 c.2.1 c.2.2.1 c.2.2.2.1 c.2.2.2.2.1 c.2.2.2.2.2.1 c.2.2.2.2.2.2.1 c.2.2.2.2.2.2.2 = F510.l1_1_1_1_1_1_1_1_0_1_0 n K d rows len (IntKind.i64.wrap (i + 1)) c.1 c.2.1 c.2.2.1 c.2.2.2.1 c.2.2.2.2.1 c.2.2.2.2.2.1 c.2.2.2.2.2.2.1 c.2.2.2.2.2.2.2 := by
 refine pass_loop (fun m j => F510.l1_1_1_1_1_1_1_1_0_1_0_0_1_1_0_0_1_1_0 m (F510.k_l1_1_1_1_1_1_1_1_0_1_0 n K [1, 1, 0, 0, 1, 1, 0]) d rows len i r (r.length : Int) j c.1 c.2.1 c.2.2.1 c.2.2.2.1 c.2.2.2.2.1 c.2.2.2.2.2.1 c.2.2.2.2.2.2.1 c.2.2.2.2.2.2.2) r.length 0 _ (by omega) (fun m => ?_) (fun m j _ hj => ?_) m (by omega)
 ·exact (F510.l1_1_1_1_1_1_1_1_0_1_0_0_1_1_0_0_1_1_0_eq m _ d rows len i r _ _ _ _ _ _ _ _ _ _).trans (self_lt.trans (F510.c6 n K d rows len i _ _ _ _ _ _ _ _))
 ·have hjd : j < d.length := by omega
  refine (F510.l1_1_1_1_1_1_1_1_0_1_0_0_1_1_0_0_1_1_0_eq m _ d rows len i r _ _ _ _ _ _ _ _ _ _).trans (bst5' (lt_nat hj) (in_nat hj) (in_nat hjd) ?_ ?_)
  ·rw [Int.toNat_natCast]
   exact nb _ (gD_mem hjd dom0)
  ·rw [Int.toNat_natCast]
   exact has j hj
theorem F510.outer2 (k : Nat) (hk : 2000000 ≤ k) (c : Con) (d : List Dom) (rows : List (List Int)) (hl : rows.length ≤ 100000) (nb : ∀ x ∈ d, nearB x.1 = true) (hr : ∀ r ∈ rows, r.length ≤ d.length ∧ r.length ≤ 1000 ∧ ∀ i, i < r.length → hasD (d.getD i dom0) (r.getD i 0) = true)
  (hX : (bif cumFB c d then bif (cumF c d).2 then bif Nat.ble ((cumF c d).1).length 1000 && ((cumF c d).1).all listB then bif Nat.ble d.length 1000 && d.all listB then bif Nat.ble (listsL ((cumF c d).1)).length 1000 && lensB (listsL ((cumF c d).1)) then some (AV.v .bool (sameL (listsL ((cumF c d).1)) (listsL d))) else none else none else none else some (AV.v .bool false) else none) = some (AV.v .bool true)) :
  F510.l1_1_1_1_1_1_1_1_0_1_0 k (F510.kt k [1, 1, 1, 1, 1, 1, 1, 1, 0, 1, 0]) d rows (rows.length : Int) 0 c.1 c.2.1 c.2.2.1 c.2.2.2.1 c.2.2.2.2.1 c.2.2.2.2.2.1 c.2.2.2.2.2.2.1 c.2.2.2.2.2.2.2 = some (.v .bool true) := by
 refine pass_loop (fun m i => F510.l1_1_1_1_1_1_1_1_0_1_0 m (F510.kt k [1, 1, 1, 1, 1, 1, 1, 1, 0, 1, 0]) d rows (rows.length : Int) i c.1 c.2.1 c.2.2.1 c.2.2.2.1 c.2.2.2.2.1 c.2.2.2.2.2.1 c.2.2.2.2.2.2.1 c.2.2.2.2.2.2.2) rows.length 1002 _ (by omega) (fun m => ?_) (fun m i hm hi => ?_) k (by omega)
 ·exact (F510.l1_1_1_1_1_1_1_1_0_1_0_eq m _ _ rows _ _ _ _ _ _ _ _ _ _).trans (self_lt.trans ((F510.c4 k d c.1 c.2.1 c.2.2.1 c.2.2.2.1 c.2.2.2.2.1 c.2.2.2.2.2.1 c.2.2.2.2.2.2.1 c.2.2.2.2.2.2.2).trans hX))
 ·refine (F510.l1_1_1_1_1_1_1_1_0_1_0_eq m _ _ rows _ _ _ _ _ _ _ _ _ _).trans ((bst2 (lt_nat hi) (in_nat hi)).trans ?_)
  rw [Int.toNat_natCast]
  obtain ⟨h1, h2, h3⟩ := hr _ (gD_mem hi [])
  exact F510.inner2 m _ d rows _ _ (rows.getD i []) h1 h2 nb h3 c m (by omega)
theorem F510.sem (k : Nat) (hk : 2000000 ≤ k) (z : Case) (n : Int) (hz : U8s z.1.2.1) : callW F510.E false F510.fn k [.agg (explode CaseT z), .v (.int .u8) n] = some (.v .bool true) := by
 refine (F510.start_eq k z n).trans ?_
 rw [kindC_eq]
 have hm : makeAB z 19 9 = true := make_ab (by omega) (by omega) (by omega) (by omega)
 have hD := makeA_doms (z := z) (k := 19) (by omega) (by omega) 9 (by omega)
 have hM := make_cum z hz
 have hall := makeA_all z 19 9
 refine (bT hm).trans ?_
 generalize makeAC z 19 = c at hM hall ⊢
 generalize makeAL z 19 9 = l at hD hall ⊢
 have ok : ∀ x ∈ l, okL x = true ∧ Rising x := fun x hx => ⟨hD.ok (by omega) x hx, (hD.dom x hx).ris⟩
 have hne := hD.ne
 have hlen := hD.len
 have hf := fits_made hM hall fun x hx => (ok x hx).1
 have ht : tot l < 100000 := by
  have := tot_small (m := 6) fun x hx => (hD.dom x hx).len
  omega
 have F := fit_of hf
 rw [doms_len] at F
 have n1 := F.n1
 have el : listsL (domsL l) = l := lists_doms ok
 obtain ⟨g, hI, Rz⟩ := cf_fits hf ok ht
 have hol : ∀ r, InP r l → holdsB (localC c) r = true ∧ (holdsC (localC c) r = true ↔ ∀ t, runsL c r l.length t ≤ c.2.2.2.2.2.2.1) := fun r hr => holds_cum F hr.len fun x hx => by
  obtain ⟨i, hi, rfl⟩ := getD_of_mem hx 0
  have hil : i < l.length := by rw [← hr.len]; exact hi
  have := (hD.dom _ (gD_mem hil [])).abs _ (hr.getD hi 0 [])
  omega
 have few := sol_ok hD (local_cum hM) fun r hr => (hol r hr).1
 refine (bT few).trans ((bT g.le).trans ((bT g.f1).trans ?_))
 cases hs : (solL c l 4000).2 with
 | false => exact bT rfl
 | true =>
  have hmem := sol_mem hne hs
  have hrows := sol_lenN hne hs
  have e1 : cumF c (domsL l) = cumGo c 100000 (domsL l) := (cf_n 100000 hf hI (by rw [el]; exact ht)).2
  have snd : ∀ r ∈ (solL c l 4000).1, (cumF c (domsL l)).2 = true ∧ r.length = l.length ∧ InP r (listsL (cumF c (domsL l)).1) := fun r hr => by
   obtain ⟨a1, a2⟩ := (hmem r).mp hr
   have := cum_sound (c := c) (r := r) 100000 (domsL l) hI (by rw [doms_len]; omega) (by rw [el]; exact ht) (by rw [el]; exact a1) (by rw [doms_len]; exact (hol r a1).2.mp a2)
   rw [← e1] at this
   exact ⟨this.1, a1.len, this.2⟩
  refine (bF rfl).trans ?_
  cases hq : (cumF c (domsL l)).2 with
  | false =>
   refine (bT rfl).trans ?_
   have : (solL c l 4000).1 = [] := List.eq_nil_iff_forall_not_mem.mpr fun r hr => by
    have := (snd r hr).1
    rw [hq] at this
    cases this
   rw [this]
   rfl
  | true =>
   refine (bF rfl).trans ?_
   have R := Rz hq
   have hdl : (cumF c (domsL l)).1.length = l.length := by rw [R.len, doms_len]
   have ib := inv_bounds R.inv
   have sub : ∀ i v, i < l.length → v ∈ listD ((cumF c (domsL l)).1.getD i dom0) → v ∈ l.getD i [] := fun i v hi hv => by
    have hi' : i < (domsL l).length := by rw [doms_len]; exact hi
    have := R.sub i v hi' hv
    rw [← listsAt hi', el] at this
    exact this
   have lens : ∀ x ∈ listsL (cumF c (domsL l)).1, x.length ≤ 2001 := fun x hx => by
    obtain ⟨i, hi, rfl⟩ := getD_of_mem hx []
    rw [listsLen] at hi
    rw [listsAt hi]
    have := rising_len _ (-1000) 1000 (by omega) (R.inv.at hi).ris fun v hv => by
     have := (hD.dom _ (gD_mem (show i < l.length by omega) [])).abs v (sub i v (by omega) hv)
     omega
    omega
   have ht2 : tot (listsL (cumF c (domsL l)).1) < 1000000 := by
    have := tot_small lens
    rw [listsLen] at this
    omega
   have kept : ∀ r ∈ (solL c l 4000).1, r.length = l.length ∧ ∀ i, i < l.length → hasD ((cumF c (domsL l)).1.getD i dom0) (r.getD i 0) = true := fun r hr => by
    obtain ⟨_, b2, b3⟩ := snd r hr
    refine ⟨b2, fun i hi => ?_⟩
    have := b3.getD (show i < r.length by omega) 0 []
    rw [listsAt (by omega)] at this
    exact (R.inv.at (by omega)).has this
   have he := R.inv.g
   have lf2 : fitsD c (cumF c (domsL l)).1 19 19 = true := fits_other hf he (by rw [hdl, doms_len])
   have again : cumFB c (cumF c (domsL l)).1 = true ∧ cumF c (cumF c (domsL l)).1 = ((cumF c (domsL l)).1, true) := by
    have ht3 : tot (listsL (cumF c (domsL l)).1) < 100000 := by
     have h1 := tot_small lens
     rw [listsLen, hdl] at h1
     have := hM.a4
     rw [hM.b0] at hall
     have : ([] : List Int).length = 0 := rfl
     omega
    obtain ⟨c1, c2⟩ := cf_n 100000 lf2 R.inv ht3
    refine ⟨c1, ?_⟩
    have c2 : cumF c (cumF c (domsL l)).1 = cumGo c 100000 (cumF c (domsL l)).1 := c2
    rw [c2]
    show (bif !(passD c (cumF c (domsL l)).1).2.2 then ([], false) else bif !(passD c (cumF c (domsL l)).1).2.1 then ((passD c (cumF c (domsL l)).1).1, true) else cumGo c 99999 (passD c (cumF c (domsL l)).1).1) = _
    rw [R.fix]
    rfl
   have hI2 := R.inv
   generalize (solL c l 4000).1 = rows at hrows kept ⊢
   generalize (cumF c (domsL l)).1 = d at hdl sub lens kept again hI2 ib ⊢
   have lb : ∀ x ∈ d, listB x = true ∧ (listD x).length ≤ 1000000 := fun x hx => ⟨(hI2.g x hx).listB, by
    have := lens (listD x) (List.mem_map_of_mem hx)
    omega⟩
   refine (bF (by rw [decide_eq_true (show (d.length : Int) = (l.length : Int) by rw [hdl])]; rfl)).trans ?_
   refine (F510.outer1 k hk rows c d l (by omega) hdl lb sub).trans (F510.outer2 k hk c d rows (by omega) (fun x hx => (hI2.g x hx).near) (fun r hr => ?_) ?_)
   ·obtain ⟨h1, h2⟩ := kept r hr
    exact ⟨by omega, by omega, fun i hi => h2 i (by omega)⟩
   ·refine (bT again.1).trans ?_
    rw [again.2]
    refine (bT rfl).trans ((bT ib.1).trans ((bT ib.1).trans ((bT ib.2.1).trans ?_)))
    unfold sameL
    rw [decide_eq_true rfl]
end Go.Proofs.YtdihbphkbdelbaaGreatDoor.Ev
