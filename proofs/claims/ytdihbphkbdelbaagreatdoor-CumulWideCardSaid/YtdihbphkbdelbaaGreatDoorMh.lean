/-
The laws of tasks that share what there is: what their functions answer: the first two.
Conditions: none.
The laws of tasks that share what there is: values that are fixed; what is kept.
Conditions: none.
The laws of tasks that share what there is: a filter keeps what is allowed.
Conditions: none.
-/
import Derived.Test.YtdihbphkbdelbaaGreatDoorMg
import Derived.Test.YtdihbphkbdelbaaGreatDoorLz
import Derived.Test.YtdihbphkbdelbaaGreatDoorCr
set_option linter.unusedVariables false
set_option linter.unusedSimpArgs false
set_option maxRecDepth 100000
namespace Go.Proofs.YtdihbphkbdelbaaGreatDoor.Ev
open Go Go.RowKit
theorem fitsB_cum (c : Con) : fitsB c 19 19 = true := by
 unfold fitsB kindB
 by_cases h : c.1 = 19
 ·rw [decide_eq_true h, Bool.or_true]
 ·by_cases h1 : 19 ≤ c.1
  ·rw [decide_eq_false (show ¬ c.1 ≤ 19 by omega), Bool.and_false]; rfl
  ·rw [decide_eq_false h1]; rfl
theorem bounded_nums {l : List Int} (h : boundedD l 0 = true) : ∀ v ∈ l, 0 ≤ v ∧ v ≤ 1000000 := by
 unfold boundedD at h
 rw [Bool.not_eq_true', List.any_eq_false] at h
 intro v hv
 have := h v hv
 unfold numB at this
 simp only [Bool.or_eq_true, decide_eq_true_eq, not_or] at this
 omega
structure FitC (c : Con) (n : Nat) : Prop where
  k : c.1 = 19
  num : Nums c n
  al : c.2.1.length = n
  b0 : c.2.2.1 = []
  n1 : 1 ≤ n
  n64 : n ≤ 64
theorem fit_parts {c : Con} {n : Nat} (hk : c.1 = 19) (hr : rightM c 256 = 0) (hn : n = c.2.1.length + c.2.2.1.length) : FitC c n := by
 unfold rightM at hr
 cases h1 : countedD c ⟨#[]⟩ with
 | false => rw [h1] at hr; simp at hr
 | true =>
  cases h2 : alikeD c with
  | false => rw [h1, h2] at hr; simp at hr
  | true =>
   cases h3 : kB c with
   | false => rw [h1, h2, h3] at hr; simp at hr
   | true =>
    cases h4 : List.any (varsD c) (varB 256) with
    | true => rw [h1, h2, h3, h4] at hr; simp at hr
    | false =>
     cases h5 : numbersD c with
     | false => rw [h1, h2, h3, h4, h5] at hr; simp at hr
     | true =>
      unfold countedD at h1
      rw [decide_eq_true hk] at h1
      simp only [cond_true, Bool.and_eq_true, decide_eq_true_eq] at h1
      unfold alikeD at h2
      rw [decide_eq_true hk] at h2
      simp only [cond_true, Bool.and_eq_true, decide_eq_true_eq] at h2
      unfold numbersD at h5
      simp only [Bool.and_eq_true, decide_eq_true_eq] at h5
      have hb : c.2.2.1.length = 0 := by omega
      exact ⟨hk, ⟨by omega, by omega, by omega, bounded_nums h5.1.1.1.1.2, bounded_nums h5.1.1.1.2, by omega⟩, by omega, List.length_eq_zero_iff.mp hb, by omega, by omega⟩
theorem fit_of {c : Con} {d : List Dom} (hf : fitsD c d 19 19 = true) : FitC c d.length := by
 unfold fitsD lenCB at hf
 simp only [Bool.and_eq_true, decide_eq_true_eq] at hf
 exact fit_parts (by omega) hf.1.1.2 hf.1.2
theorem inv_bounds {c : Con} {d : List Dom} (h : Inv c d) : (Nat.ble d.length 1000 && d.all listB) = true ∧ (Nat.ble (listsL d).length 1000 && lensB (listsL d)) = true ∧ ∀ x ∈ listsL d, x.length ≤ 100000 := by
 have hlen : ∀ x ∈ listsL d, x.length ≤ 100000 := fun x hx => by
  obtain ⟨y, hy, rfl⟩ := List.mem_map.mp hx
  have gy := h.g y hy
  have hw := (okL_ok gy.ok).wide
  have hmm := rising_len (listD y) (minL (listD y)) (maxL (listD y)) (by have := (okL_ok gy.ok).le; omega) gy.ris fun v hv => ⟨(minL_spec gy.ne).1 v hv, (maxL_spec gy.ne).1 v hv⟩
  omega
 refine ⟨?_, ?_, hlen⟩
 ·rw [Nat.ble_eq_true_of_le h.num.le, Bool.true_and, List.all_eq_true]
  exact fun x hx => (h.g x hx).listB
 ·rw [listsLen, Nat.ble_eq_true_of_le h.num.le, Bool.true_and]
  unfold lensB
  rw [List.all_eq_true]
  intro x hx
  have := hlen x hx
  exact Nat.ble_eq_true_of_le (by omega)
structure CF (c : Con) (l : List (List Int)) : Prop where
  le : Nat.ble l.length 1000 = true
  f1 : cumFB c (domsL l) = true
  r1 : cumRB c l = true
  ok : (cumF c (domsL l)).2 = (cumR c l).2
  lb : (Nat.ble (cumF c (domsL l)).1.length 1000 && (cumF c (domsL l)).1.all listB) = true
  ll : (Nat.ble (listsL (cumF c (domsL l)).1).length 1000 && lensB (listsL (cumF c (domsL l)).1)) = true
  same : sameL (listsL (cumF c (domsL l)).1) (cumR c l).1 = true
theorem inv_doms {c : Con} {l : List (List Int)} (hN : Nums c l.length) (ok : ∀ x ∈ l, okL x = true ∧ Rising x) : Inv c (domsL l) := ⟨by rw [doms_len]; exact hN, fun d hd => by
 obtain ⟨x, hx, rfl⟩ := List.mem_map.mp hd
 exact (GD_ofD (ok x hx).1 (ok x hx).2).1⟩
theorem cf_n {c : Con} {d : List Dom} (N : Nat) (hf : fitsD c d 19 19 = true) (hi : Inv c d) (ht : tot (listsL d) < N) :
  cumFBn N c d = true ∧ cumFn N c d = cumGo c N d := by
 have F := fit_of hf
 obtain ⟨a1, a2, a3, a4, a5⟩ := cum_same c N d hi F.n1 ht
 refine ⟨?_, by unfold cumFn; rw [hf]; rfl⟩
 unfold cumFBn cloneB
 have n1 := F.n1
 have n64 := F.n64
 rw [fitsB_cum, a1, decide_eq_false (show ¬ d.length = 0 by omega), Nat.ble_eq_true_of_le (show d.length ≤ 1000000 by omega)]
 simp
theorem cf_fits {c : Con} {l : List (List Int)} (hf : fitsD c (domsL l) 19 19 = true) (ok : ∀ x ∈ l, okL x = true ∧ Rising x) (ht : tot l < 100000) :
  CF c l ∧ Inv c (domsL l) ∧ ((cumF c (domsL l)).2 = true → Res c (domsL l) (cumF c (domsL l)).1) := by
 have F := fit_of hf
 have hN := F.num
 rw [doms_len] at hN
 have hi := inv_doms hN ok
 have el := lists_doms ok
 have hfr : fitsR c l 19 19 = true := by rw [← fits_same (fun x hx => .inl (ok x hx).1)]; exact hf
 obtain ⟨a1, a2, a3, a4, a5⟩ := cum_same c 100000 (domsL l) hi F.n1 (by rw [el]; exact ht)
 obtain ⟨b1, b2⟩ := cf_n 100000 hf hi (by rw [el]; exact ht)
 rw [el] at a2 a3 a4
 have e1 : cumF c (domsL l) = cumGo c 100000 (domsL l) := b2
 have e2 : cumR c l = rndGo c 100000 l := by unfold cumR cumRn; rw [hfr]; rfl
 have hle := hN.le
 have no : (cumGo c 100000 (domsL l)).2 = false → (cumGo c 100000 (domsL l)).1 = [] := fun h => by rw [cumGo_no c _ _ h]
 have r1 : cumRB c l = true := by
  unfold cumRB cumRBn
  rw [fitsB_cum, a2, hfr]
  rfl
 generalize hG : cumGo c 100000 (domsL l) = G at e1 a3 a4 a5 no
 generalize hG' : rndGo c 100000 l = G' at e2 a3 a4
 refine ⟨⟨Nat.ble_eq_true_of_le hle, b1, r1, by rw [e1, e2]; exact a4, ?_, ?_, ?_⟩, hi, by rw [e1]; exact a5⟩
 ·rw [e1]
  cases h2 : G.2 with
  | true => exact (inv_bounds (a5 h2).inv).1
  | false => rw [no h2]; rfl
 ·rw [e1]
  cases h2 : G.2 with
  | true => exact (inv_bounds (a5 h2).inv).2.1
  | false => rw [no h2]; rfl
 ·rw [e1, e2, a3]
  unfold sameL
  rw [decide_eq_true rfl]
theorem cum_no {c : Con} {l : List (List Int)} (h : fitsR c l 19 19 = false) : cumR c l = ([], false) := by
 unfold cumR cumRn
 rw [h]
 rfl
theorem cf_any {c : Con} {l : List (List Int)} (hg : ∀ x ∈ l, (okL x = true ∧ Rising x) ∨ x = []) (hl : l.length ≤ 1000) (ht : tot l < 100000) : CF c l := by
 have hG : Good l := fun x hx => (hg x hx).imp (fun h => h.1) id
 cases hf : fitsD c (domsL l) 19 19 with
 | true =>
  have ne : ∀ x ∈ l, x ≠ [] := fun x hx hx0 => by
   unfold fitsD at hf
   rw [Bool.and_eq_true, empty_doms hG] at hf
   have h2 := hf.2
   rw [Bool.not_not, List.all_eq_true] at h2
   have := h2 x hx
   rw [hx0] at this
   simp at this
  exact (cf_fits hf (fun x hx => (hg x hx).resolve_right (ne x hx)) ht).1
 | false =>
  have hr : fitsR c l 19 19 = false := by rw [← fits_same hG]; exact hf
  have e1 : cumF c (domsL l) = ([], false) := by unfold cumF cumFn; rw [hf]; rfl
  have e2 := cum_no hr
  refine ⟨Nat.ble_eq_true_of_le hl, ?_, ?_, ?_, ?_, ?_, ?_⟩
  ·unfold cumFB cumFBn; rw [fitsB_cum, hf]; rfl
  ·unfold cumRB cumRBn; rw [fitsB_cum, hr]; rfl
  ·rw [e1, e2]
  ·rw [e1]; rfl
  ·rw [e1]; rfl
  ·rw [e1, e2]; rfl
theorem cf_body {c : Con} {l : List (List Int)} (g : CF c l) (R : Bool → Option AV) :
  (bif Nat.ble l.length 1000 then bif cumFB c (domsL l) then bif cumRB c l then bif (cumF c (domsL l)).2 == (cumR c l).2 then
   bif Nat.ble (cumF c (domsL l)).1.length 1000 && (cumF c (domsL l)).1.all listB then bif Nat.ble (listsL (cumF c (domsL l)).1).length 1000 && lensB (listsL (cumF c (domsL l)).1) then
    R (sameL (listsL (cumF c (domsL l)).1) (cumR c l).1) else none else none else R false else none else none else none) = R true := by
 have e3 : ((cumF c (domsL l)).2 == (cumR c l).2) = true := by rw [g.ok]; cases (cumR c l).2 <;> rfl
 exact (bT g.le).trans ((bT g.f1).trans ((bT g.r1).trans ((bT e3).trans ((bT g.lb).trans ((bT g.ll).trans (congrArg R g.same))))))
structure Gd (l : List (List Int)) : Prop where
  ok : ∀ x ∈ l, ((okL x = true ∧ Rising x) ∨ x = []) ∧ x.length ≤ 6
  len : l.length ≤ 1000
end Go.Proofs.YtdihbphkbdelbaaGreatDoor.Ev
set_option linter.unusedVariables false
set_option linter.unusedSimpArgs false
set_option maxRecDepth 100000
namespace Go.Proofs.YtdihbphkbdelbaaGreatDoor.Ev
open Go Go.RowKit
structure MadeC (c : Con) : Prop where
  k : c.1 = 19
  a1 : 1 ≤ c.2.1.length
  a4 : c.2.1.length ≤ 4
  b0 : c.2.2.1 = []
  va : ∀ x ∈ c.2.1, 0 ≤ x ∧ x < 256
  cl : c.2.2.2.1.length = c.2.1.length
  dl : c.2.2.2.2.1.length = c.2.1.length
  cb : ∀ x ∈ c.2.2.2.1, 0 ≤ x ∧ x ≤ 1000000
  db : ∀ x ∈ c.2.2.2.2.1, 0 ≤ x ∧ x ≤ 1000000
  e0 : c.2.2.2.2.2.1 = []
  K : 0 ≤ c.2.2.2.2.2.2.1 ∧ c.2.2.2.2.2.2.1 ≤ 9999999999
  r0 : c.2.2.2.2.2.2.2 = []
structure FixC (c : Con) (v : List Int) : Prop where
  f1 : cumFB c (domsL (ones v)) = true
  hb : holdsB (localC c) v = true
  ok : (cumF c (domsL (ones v))).2 = holdsC (localC c) v
  lb : (Nat.ble (cumF c (domsL (ones v))).1.length 1000 && (cumF c (domsL (ones v))).1.all listB) = true
  ll : (Nat.ble (listsL (cumF c (domsL (ones v))).1).length 1000 && lensB (listsL (cumF c (domsL (ones v))).1)) = true
  same : (cumF c (domsL (ones v))).2 = true → listsL (cumF c (domsL (ones v))).1 = ones v
end Go.Proofs.YtdihbphkbdelbaaGreatDoor.Ev
set_option linter.unusedVariables false
set_option linter.unusedSimpArgs false
set_option maxRecDepth 100000
namespace Go.Proofs.YtdihbphkbdelbaaGreatDoor.Ev
open Go Go.RowKit
theorem GD.has {d : Dom} (h : GD d) {v : Int} (hv : v ∈ listD d) : hasD d v = true := by
 rw [hasD_mem h.made.wf, (okL_iff.mp h.ok).2.1 v hv, ((listD_mem h.made.wf).1 v).mp hv]
 rfl
end Go.Proofs.YtdihbphkbdelbaaGreatDoor.Ev
