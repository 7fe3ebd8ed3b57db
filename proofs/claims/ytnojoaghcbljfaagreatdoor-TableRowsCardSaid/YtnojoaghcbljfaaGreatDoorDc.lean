/-
The laws Filters, Keeps, Fixed of Table: what their functions answer, if the filter does what it must.
Conditions: none.
table.Filter: what it answers.
Conditions: the constraint and the domains are as the filter's handler asks.
-/
import Derived.Test.YtnojoaghcbljfaaGreatDoorDa
import Derived.Test.YtnojoaghcbljfaaGreatDoorDb
import Derived.Test.YtnojoaghcbljfaaGreatDoorCr
set_option linter.unusedVariables false
set_option linter.unusedSimpArgs false
set_option maxRecDepth 100000
namespace Go.Proofs.YtnojoaghcbljfaaGreatDoor.Ev
open Go
end Go.Proofs.YtnojoaghcbljfaaGreatDoor.Ev

set_option linter.unusedVariables false
set_option linter.unusedSimpArgs false
set_option maxRecDepth 100000
namespace Go.Proofs.YtnojoaghcbljfaaGreatDoor.Ev
open Go

/-- A loop over a list that goes on from what it has. -/
theorem fold_loop {α β : Type} (L : Nat → Int → β → Option AV) (xs : List α) (f : Nat → β → α → β) (Inv : Nat → β → Prop) (X : β → Option AV) (m : Nat) (hl : xs.length ≤ 1000000000) (hend : ∀ n b, Inv xs.length b → L (n + 1) (xs.length : Int) b = X b)
    (hstep : ∀ (n i : Nat) b (hi : i < xs.length), m ≤ n → Inv i b → L (n + 1) (i : Int) b = L n (IntKind.i64.wrap ((i : Int) + 1)) (f i b xs[i]) ∧ Inv (i + 1) (f i b xs[i])) :
    ∀ (d i n : Nat) (b : β), i + d = xs.length → m + d < n → Inv i b → ∃ b', Inv xs.length b' ∧ L n (i : Int) b = X b' ∧ b' = ((xs.drop i).zipIdx i).foldl (fun b p => f p.2 b p.1) b := by
  intro d
  induction d with
  | zero =>
    intro i n b h1 h2 hI
    obtain ⟨n', rfl⟩ : ∃ n', n = n' + 1 := ⟨n - 1, by omega⟩
    obtain rfl : i = xs.length := by omega
    exact ⟨b, hI, hend n' b hI, by simp⟩
  | succ d ih =>
    intro i n b h1 h2 hI
    obtain ⟨n', rfl⟩ : ∃ n', n = n' + 1 := ⟨n - 1, by omega⟩
    have w : IntKind.i64.wrap ((i : Int) + 1) = ((i + 1 : Nat) : Int) := by rw [wrap_ok (by omega) (by omega)]; omega
    obtain ⟨e, hI'⟩ := hstep n' i b (by omega) (by omega) hI
    obtain ⟨b', g1, g2, g3⟩ := ih (i + 1) n' _ (by omega) (by omega) hI'
    refine ⟨b', g1, by rw [e, w, g2], ?_⟩
    rw [g3, List.drop_eq_getElem_cons (show i < xs.length by omega), List.zipIdx_cons, List.foldl_cons]
def put1 (l : List Int) (v : Int) : List Int := if v ∈ l then l else l ++ [v]
theorem tabPut_len : ∀ (l : List (List Int)) (r : List Int), (tabPut l r).length = l.length
  | [], _ => by unfold tabPut; rfl
  | _ :: _, [] => by unfold tabPut; rfl
  | l :: ls, v :: vs => by
    unfold tabPut
    simp [tabPut_len ls vs]
theorem tabPut_get : ∀ (l : List (List Int)) (r : List Int) (i : Nat), i < l.length → i < r.length → (tabPut l r).getD i [] = put1 (l.getD i []) (r.getD i 0)
  | [], _, i, h, _ => by simp at h
  | _ :: _, [], i, _, h => by simp at h
  | l :: ls, v :: vs, 0, _, _ => rfl
  | l :: ls, v :: vs, i + 1, h1, h2 => by
    have := tabPut_get ls vs i (by simpa using h1) (by simpa using h2)
    exact this
theorem set_selfD {α : Type} (l : List α) (i : Nat) (d : α) : l.set i (l.getD i d) = l := by
  by_cases h : i < l.length
  · rw [List.getD_eq_getElem?_getD, List.getElem?_eq_getElem h]
    apply List.ext_getElem (by simp)
    intro j h1 h2
    rw [List.getElem_set]
    split
    · rename_i e; subst e; rfl
    · rfl
  · exact List.set_eq_of_length_le (by omega)
/-- Behind so many places. -/
def putTo (left : List (List Int)) (r : List Int) (left' : List (List Int)) (j : Nat) : Prop :=
  left'.length = left.length ∧ ∀ p, p < left.length → left'.getD p [] = if p < j then put1 (left.getD p []) (r.getD p 0) else left.getD p []
theorem putTo_all {left left' : List (List Int)} {r : List Int} (h : putTo left r left' left.length) (hl : left.length = r.length) : left' = tabPut left r := by
  apply List.ext_getElem (by rw [h.1, tabPut_len])
  intro i h1 h2
  have hi : i < left.length := by rw [← h.1]; exact h1
  have := h.2 i hi
  rw [if_pos hi, ← tabPut_get left r i hi (by omega), List.getD_eq_getElem?_getD, List.getD_eq_getElem?_getD, List.getElem?_eq_getElem h1, List.getElem?_eq_getElem h2] at this
  simpa using this
theorem put1_len (l : List Int) (v : Int) : (put1 l v).length ≤ l.length + 1 := by
  unfold put1
  split <;> simp

theorem F40.inner1 (n : Nat) (K : Conts) (d : List Dom) (r : List Int) (rows : List (List Int)) (len i : Int) (left : List (List Int)) (hr : r.length = d.length) (hl : r.length ≤ 1000) (nb : ∀ x ∈ d, nearB x.1 = true) (m : Nat) (hm : 1001 < m) :
    F40.l1_0_1_1_1_0_1_0_0_1_1_0_0_1_0_1_0 m (F40.k_l1_0_1_1_1_0_1_0 n K [1, 1, 0, 0, 1, 0, 1, 0]) d r rows len i r (r.length : Int) 0 left =
    bif !(tabIn d r) then F40.l1_0_1_1_1_0_1_0 n K d rows len (IntKind.i64.wrap (i + 1)) left else F40.l1_0_1_1_1_0_1_0_0_1_1_0_0_1_1_1_0 n (F40.k_l1_0_1_1_1_0_1_0 n K [1, 1, 0, 0, 1, 1, 1, 0]) d rows len i r (r.length : Int) 0 left := by
  have e := any_loop (fun m j => F40.l1_0_1_1_1_0_1_0_0_1_1_0_0_1_0_1_0 m (F40.k_l1_0_1_1_1_0_1_0 n K [1, 1, 0, 0, 1, 0, 1, 0]) d r rows len i r (r.length : Int) j left) (List.range r.length) (fun j => !(hasD (d.getD j dom0) (r.getD j 0))) (F40.l1_0_1_1_1_0_1_0 n K d rows len (IntKind.i64.wrap (i + 1)) left)
    (F40.l1_0_1_1_1_0_1_0_0_1_1_0_0_1_1_1_0 n (F40.k_l1_0_1_1_1_0_1_0 n K [1, 1, 0, 0, 1, 1, 1, 0]) d rows len i r (r.length : Int) 0 left) 0 (by simp; omega) (fun m => ?_) (fun m j hj _ => ?_) m (by simp; omega)
  · rw [e]
    congr 1
    unfold tabIn
    generalize List.range r.length = js
    induction js with
    | nil => rfl
    | cons j js ih => simp only [List.any_cons, List.all_cons, ih]; cases hasD (d.getD j dom0) (r.getD j 0) <;> rfl
  · rw [List.length_range]
    exact (F40.l1_0_1_1_1_0_1_0_0_1_1_0_0_1_0_1_0_eq m _ d r rows len i r _ _ left).trans (self_lt.trans (F40.c2 n K d r rows len i left))
  · have hj : j < r.length := by simpa using hj
    have hjd : j < d.length := by omega
    refine (F40.l1_0_1_1_1_0_1_0_0_1_1_0_0_1_0_1_0_eq m _ d r rows len i r _ _ left).trans ((bT' (lt_nat hj)).trans ((bT' (in_nat hj)).trans ((bT' (in_nat hjd)).trans ((bT' ?_).trans ?_))))
    · rw [Int.toNat_natCast]
      exact nb _ (getD_mem hjd dom0)
    · rw [List.getElem_range, Int.toNat_natCast]
      have := F40.c1 n K d rows len i left
      show (bif !(hasD (d.getD j dom0) (r.getD j 0)) then _ else _) = _
      rw [this]
theorem F40.inner2 (n : Nat) (K : Conts) (d : List Dom) (rows : List (List Int)) (len i : Int) (r : List Int) (left : List (List Int)) (hr : r.length = left.length) (hl : r.length ≤ 1000) (hb : ∀ x ∈ left, x.length ≤ 100000) (m : Nat) (hm : 1001 < m) :
    F40.l1_0_1_1_1_0_1_0_0_1_1_0_0_1_1_1_0 m (F40.k_l1_0_1_1_1_0_1_0 n K [1, 1, 0, 0, 1, 1, 1, 0]) d rows len i r (r.length : Int) 0 left = F40.l1_0_1_1_1_0_1_0 n K d rows len (IntKind.i64.wrap (i + 1)) (tabPut left r) := by
  refine (fold_loop (fun m j l => F40.l1_0_1_1_1_0_1_0_0_1_1_0_0_1_1_1_0 m (F40.k_l1_0_1_1_1_0_1_0 n K [1, 1, 0, 0, 1, 1, 1, 0]) d rows len i r (r.length : Int) j l) r (fun j l v => l.set j (put1 (l.getD j []) v)) (fun j l => putTo left r l j)
    (fun l => F40.l1_0_1_1_1_0_1_0 n K d rows len (IntKind.i64.wrap (i + 1)) l) 0 (by omega) (fun m l _ => ?_) (fun m j l hj _ hI => ?_) r.length 0 m left (by omega) (by omega) ⟨rfl, fun p _ => by simp⟩).elim fun b' hh => ?_
  · exact (F40.l1_0_1_1_1_0_1_0_0_1_1_0_0_1_1_1_0_eq m _ d rows len i r _ _ l).trans (self_lt.trans (F40.c3 n K d rows len i l))
  · have hjl : j < l.length := by rw [hI.1]; omega
    have hjf : j < left.length := by omega
    have hlj : l.getD j [] = left.getD j [] := by rw [hI.2 j hjf, if_neg (Nat.lt_irrefl _)]
    have hlen : (l.getD j []).length ≤ 100000 := by rw [hlj]; exact hb _ (getD_mem hjf [])
    have hv : r.getD j 0 = r[j] := by rw [List.getD_eq_getElem?_getD, List.getElem?_eq_getElem hj]; rfl
    have hss := set_selfD l j []
    refine ⟨(F40.l1_0_1_1_1_0_1_0_0_1_1_0_0_1_1_1_0_eq m _ d rows len i r _ _ l).trans ((bT' (lt_nat hj)).trans ((bT' (in_nat hj)).trans ((bT' (in_nat hjl)).trans ?_))), by rw [List.length_set]; exact hI.1, fun p hp => ?_⟩
    · rw [Int.toNat_natCast, hss, contains_mem, hv]
      unfold put1
      by_cases hm : r[j] ∈ l.getD j []
      · rw [if_pos hm, decide_eq_true hm, hss]
        exact bF' rfl
      · rw [if_neg hm, decide_eq_false hm]
        refine (bT' rfl).trans ((bT' (in_nat hjl)).trans ((bT' ?_).trans ((bT' (in_nat hjl)).trans ((bT' (by rw [Nat.beq_eq]))))))
        exact decide_eq_true (show ((l.getD j []).length + 1) * 8 ≤ 140737488355328 by omega)
    · by_cases hpj : p = j
      · subst hpj
        rw [if_pos (Nat.lt_succ_self _), List.getD_eq_getElem?_getD, List.getElem?_set_self hjl, hlj, hv]
        rfl
      · rw [List.getD_eq_getElem?_getD, List.getElem?_set_ne (Ne.symm hpj), ← List.getD_eq_getElem?_getD, hI.2 p hp]
        by_cases h2 : p < j
        · rw [if_pos h2, if_pos (by omega)]
        · rw [if_neg h2, if_neg (by omega)]
  · obtain ⟨hI, e, _⟩ := hh
    have hI : putTo left r b' r.length := hI
    rw [hr] at hI
    have hb' := putTo_all hI hr.symm
    rw [← hb']
    exact e
theorem tabPut_bound {left : List (List Int)} {r : List Int} {B : Nat} (hb : ∀ x ∈ left, x.length ≤ B) : ∀ x ∈ tabPut left r, x.length ≤ B + 1 := by
  induction left generalizing r with
  | nil => intro x hx; unfold tabPut at hx; simp at hx
  | cons l ls ih =>
    intro x hx
    cases r with
    | nil => unfold tabPut at hx; have := hb x hx; omega
    | cons v vs =>
      unfold tabPut at hx
      rcases List.mem_cons.mp hx with rfl | hx
      · have h1 := put1_len l v
        have h2 := hb l List.mem_cons_self
        unfold put1 at h1
        omega
      · exact ih (fun y hy => hb y (List.mem_cons_of_mem _ hy)) x hx
theorem F40.loop (K : Conts) (d : List Dom) (rows : List (List Int)) (hr : ∀ r ∈ rows, r.length = d.length) (hd : d.length ≤ 1000) (hR : rows.length ≤ 10000) (nb : ∀ x ∈ d, nearB x.1 = true) (n : Nat) (hn : 12000 ≤ n) :
    ∃ left, left.length = d.length ∧ left = tabGo d (List.replicate d.length []) rows ∧ F40.l1_0_1_1_1_0_1_0 n K d rows (rows.length : Int) 0 (List.replicate d.length []) = exitK K 0 ⟨slots 72 [(6, .own 0)], [.rows 30 3 (.int .i64) left]⟩ := by
  refine (fold_loop (fun m i l => F40.l1_0_1_1_1_0_1_0 m K d rows (rows.length : Int) i l) rows (fun _ l r => if tabIn d r then tabPut l r else l) (fun i l => l.length = d.length ∧ ∀ x ∈ l, x.length ≤ i)
    (fun l => exitK K 0 ⟨slots 72 [(6, .own 0)], [.rows 30 3 (.int .i64) l]⟩) 1002 (by omega) (fun m l _ => ?_) (fun m i l hi hm hI => ?_) rows.length 0 n (List.replicate d.length []) (by omega) (by omega) ⟨by simp, fun x hx => by rw [List.eq_of_mem_replicate hx]; simp⟩).elim fun b' hh => ?_
  · exact (F40.l1_0_1_1_1_0_1_0_eq m K d rows _ _ l).trans self_lt
  · have hrl : rows[i].length = d.length := hr _ (List.getElem_mem hi)
    have hg : rows.getD (i : Int).toNat [] = rows[i] := by rw [Int.toNat_natCast, List.getD_eq_getElem?_getD, List.getElem?_eq_getElem hi]; rfl
    have h0 := (F40.l1_0_1_1_1_0_1_0_eq m K d rows (rows.length : Int) (i : Int) l).trans ((bT' (lt_nat hi)).trans (bT' (in_nat hi)))
    rw [hg] at h0
    have h1 := h0.trans (F40.inner1 m K d rows[i] rows (rows.length : Int) (i : Int) l hrl (by omega) nb m (by omega))
    cases ht : tabIn d rows[i] with
    | false =>
      rw [ht] at h1
      rw [if_neg (by simp)]
      exact ⟨h1.trans (bT' rfl), hI.1, fun x hx => by have := hI.2 x hx; omega⟩
    | true =>
      rw [ht] at h1
      rw [if_pos rfl]
      refine ⟨(h1.trans (bF' rfl)).trans (F40.inner2 m K d rows (rows.length : Int) (i : Int) rows[i] l (by rw [hI.1]; exact hrl) (by omega) (fun x hx => by have := hI.2 x hx; omega) m (by omega)), by rw [tabPut_len]; exact hI.1, tabPut_bound hI.2⟩
  · obtain ⟨hI, e, he⟩ := hh
    refine ⟨b', hI.1, ?_, e⟩
    rw [he, List.drop_zero]
    unfold tabGo
    have : ∀ (rs : List (List Int)) (i : Nat) (l : List (List Int)), (rs.zipIdx i).foldl (fun b (p : List Int × Nat) => if tabIn d p.1 then tabPut b p.1 else b) l = rs.foldl (fun left r => if tabIn d r then tabPut left r else left) l := by
      intro rs
      induction rs with
      | nil => intro i l; rfl
      | cons r rs ih => intro i l; rw [List.zipIdx_cons, List.foldl_cons, List.foldl_cons]; exact ih _ _
    exact this rows 0 _
theorem fits_rows {c : Con} {d : List Dom} (h : fitsD c d 18 18 = true) (hb : fitsB c 18 18 = true) : (∀ r ∈ c.2.2.2.2.2.2.2, r.length = d.length) ∧ d.length ≤ 64 ∧ c.2.2.2.2.2.2.2.length ≤ 1024 := by
  obtain ⟨h1, h2, h3, h4, h5⟩ := fits_len h hb
  have hk : c.1 = 18 := by omega
  have h6 : alikeD c = true := by
    unfold fitsD at h
    simp only [Bool.and_eq_true, decide_eq_true_eq] at h
    have hr := h.1.1.2
    unfold rightM at hr
    cases ha : alikeD c with
    | true => rfl
    | false => rw [ha] at hr; simp at hr
  unfold countedD at h2
  simp [hk, noneL, -List.length_eq_zero_iff] at h2
  refine ⟨fun r hr => ?_, by omega, by omega⟩
  unfold alikeD at h6
  simp [hk] at h6
  have := h6 r hr
  unfold rowN at this
  simp at this
  omega
theorem F40.sem (c : Con) (d : List Dom) (h : filtB 18 18 c d = true) : ∃ r, callW F40.E false F40.fn 12000 [.agg (explode ConT c), .v (.sl DomT) d] = some r ∧ WA r (.tup [.v (.sl DomT) (tableF c d).1, .v .bool (tableF c d).2]) := by
  unfold filtB at h
  rw [Bool.and_eq_true, Bool.and_eq_true, List.all_eq_true] at h
  obtain ⟨⟨hb, hl⟩, _⟩ := h
  have st := (F40.start_eq 12000 c d).trans (bT' hb)
  unfold tableF
  cases hf : fitsD c d 18 18 with
  | false =>
    rw [hf] at st
    exact ⟨_, st.trans (bT' rfl), .tup (.cons (.one (by simp) (.nl _)) (.cons (.one (by simp) (.same _)) .nil))⟩
  | true =>
    rw [hf] at st
    obtain ⟨h1, h2, h3⟩ := fits_rows hf hb
    have st2 := (st.trans (bF' rfl)).trans (bT' (by
      rw [Bool.and_eq_true]
      exact ⟨decide_eq_true (by omega), decide_eq_true (show (d.length : Int).toNat * 24 ≤ 140737488355328 by omega)⟩))
    rw [Int.toNat_natCast] at st2
    obtain ⟨left, g1, g2, g3⟩ := F40.loop (F40.kt 12000 [1, 0, 1, 1, 1, 0, 1, 0]) d c.2.2.2.2.2.2.2 h1 (by omega) (by omega) (fun x hx => listB_near (hl x hx)) 12000 (Nat.le_refl _)
    refine ⟨_, (st2.trans (g3.trans (F40.c0 12000 left))).trans (bT' (by rw [Nat.ble_eq, g1]; omega)), ?_⟩
    rw [← g2]
    exact WA.refl _
end Go.Proofs.YtnojoaghcbljfaaGreatDoor.Ev
