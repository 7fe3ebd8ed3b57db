/-
Tasks that share what there is: one pass over all tasks, the filter: what they answer.
Conditions: the constraint's lists are as long as there are domains; all numbers are small.
Tasks that share what there is, by the document: what its functions answer.
Conditions: the constraint's lists are as long as there are domains, none of which is empty; all numbers are small.
-/
import Derived.Test.YtdihbphkbdelbaaGreatDoorMc
set_option linter.unusedVariables false
set_option linter.unusedSimpArgs false
set_option maxRecDepth 100000
namespace Go.Proofs.YtdihbphkbdelbaaGreatDoor.Ev
open Go
theorem goN_filter (p : Int → Bool) (x : List Int) : ∀ (n k : Nat) (acc : List Int), k + n = x.length → goN (fun k acc => bif p (x.getD k 0) then acc ++ [x.getD k 0] else acc) n k acc = acc ++ (x.drop k).filter p
 | 0, k, acc, h => by rw [List.drop_eq_nil_of_le (by omega)]; simp [goN]
 | n + 1, k, acc, h => by
  have hk : k < x.length := by omega
  show goN _ n (k + 1) (bif p (x.getD k 0) then acc ++ [x.getD k 0] else acc) = _
  rw [goN_filter p x n (k + 1) _ (by omega), List.drop_eq_getElem_cons hk, List.filter_cons, gD_get hk]
  cases p x[k] <;> simp
theorem flt_loop (L : Nat → Int → List Int → Option AV) (x : List Int) (p : Int → Bool) (X : List Int → Option AV) (hl : x.length ≤ 100000000)
  (hs : ∀ n (j : Nat) acc, j < x.length → acc.length ≤ j → L (n + 1) (j : Int) acc = bif p (x.getD j 0) then L n (IntKind.i64.wrap ((j : Int) + 1)) (acc ++ [x.getD j 0]) else L n (IntKind.i64.wrap ((j : Int) + 1)) acc)
  (he : ∀ n acc, acc.length ≤ x.length → L (n + 1) (x.length : Int) acc = X acc) (n : Nat) (hn : x.length < n) : L n 0 [] = X (x.filter p) := by
 have := idx_loop L X x.length (fun k acc => bif p (x.getD k 0) then acc ++ [x.getD k 0] else acc) (fun k acc => acc.length ≤ k) 0
  (fun n k acc _ hk ha => by
   refine ⟨?_, ?_⟩
   ·cases p (x.getD k 0)
    ·show acc.length ≤ k + 1
     omega
    ·show (acc ++ [x.getD k 0]).length ≤ k + 1
     rw [List.length_append]
     show acc.length + 1 ≤ k + 1
     omega
   ·rw [hs n k acc hk ha, wrap_succ (by omega)]
    cases p (x.getD k 0) <;> rfl)
  (fun n acc _ ha => he n acc ha) x.length 0 n [] (by omega) (by omega) (Nat.le_refl _)
 rw [goN_filter p x x.length 0 [] (by omega)] at this
 exact this
theorem rnd_loop {β : Type} (R : Nat → Int → Bool → List β → Option AV) (keep : List β → Nat → List Int) (next : List β → Nat → List β) (chg : List β → Nat → Bool) (ok : Nat → Nat → List β → Prop) (N B : Nat) (XE : Bool → List β → Option AV) (XF : List β → Option AV)
  (G : Nat → Nat → Bool → List β → List β × Bool × Bool) (g0 : ∀ i ch d, G 0 i ch d = (d, ch, true))
  (g1 : ∀ n i ch d, G (n + 1) i ch d = if (keep d i).length = 0 then (d, false, false) else G n (i + 1) (ch || chg d i) (next d i))
  (hs : ∀ n m i ch d, B ≤ n → i + (m + 1) = N → ok (m + 1) i d → R (n + 1) (i : Int) ch d = if (keep d i).length = 0 then XF d else R n ((i + 1 : Nat) : Int) (ch || chg d i) (next d i))
  (hok : ∀ m i d, ok (m + 1) i d → (keep d i).length ≠ 0 → ok m (i + 1) (next d i))
  (he : ∀ n ch d, ok 0 N d → R (n + 1) (N : Int) ch d = XE ch d) :
  ∀ (m i n : Nat) (ch : Bool) (d : List β), i + m = N → m + B < n → ok m i d → R n (i : Int) ch d = bif (G m i ch d).2.2 then XE (G m i ch d).2.1 (G m i ch d).1 else XF (G m i ch d).1
 | 0, i, n, ch, d, h1, h2, h3 => by
  obtain ⟨n', rfl⟩ : ∃ n', n = n' + 1 := ⟨n - 1, by omega⟩
  obtain rfl : i = N := by omega
  rw [g0]
  exact he n' ch d h3
 | m + 1, i, n, ch, d, h1, h2, h3 => by
  obtain ⟨n', rfl⟩ : ∃ n', n = n' + 1 := ⟨n - 1, by omega⟩
  rw [g1, hs n' m i ch d (by omega) h1 h3]
  by_cases hk : (keep d i).length = 0
  ·rw [if_pos hk, if_pos hk]; rfl
  ·rw [if_neg hk, if_neg hk]
   exact rnd_loop R keep next chg ok N B XE XF G g0 g1 hs hok he m (i + 1) n' _ _ (by omega) (by omega) (hok m i d h3 hk)
theorem nextD_len (c : Con) (d : List Dom) (i : Nat) : (nextD c d i).length = d.length := by
 unfold nextD
 cases chgD c d i <;> simp
theorem passGo_len (c : Con) : ∀ (n i : Nat) (ch : Bool) (d : List Dom), (passGo c n i ch d).1.length = d.length
 | 0, _, _, _ => rfl
 | n + 1, i, ch, d => by
  show (if (keepD c d i).length = 0 then (d, false, false) else passGo c n (i + 1) (ch || chgD c d i) (nextD c d i)).1.length = _
  split
  ·rfl
  ·rw [passGo_len c n, nextD_len]
structure PassSt (c : Con) (N m i : Nat) (d : List Dom) : Prop where
  len : d.length = N
  ok : passOk c m i d = true
theorem step_parts {c : Con} {d : List Dom} {i : Nat} (h : stepB c d i = true) : cumB c d = true ∧ listB (d.getD i dom0) = true ∧ ∀ v ∈ listD (d.getD i dom0), millB v = true := by
 unfold stepB at h
 rw [Bool.and_eq_true, Bool.and_eq_true, List.all_eq_true] at h
 exact ⟨h.1.1, h.1.2, h.2⟩
theorem F572.sem (n0 : Nat) (hn : 64002001 ≤ n0) (c : Con) (d : List Dom) (h : passB c d = true) (K : Conts) (F O : Nat → Prop) (W : World) (V : Value) :
  runC F572.E (loopF F572.E n0) F572.body K (startM F572.fn 1 [.agg (explode ConT c), .un] 88 DomT d F O W V) = K.ret ⟨slots 57 [(4, .v .bool (passD c d).2.1), (5, .v .bool (passD c d).2.2)], [.gst F O W V, .row 88 DomT (passD c d).1]⟩ := by
 unfold passB at h
 rw [Bool.and_eq_true, Nat.ble_eq] at h
 obtain ⟨hl, hok⟩ := h
 refine (F572.start_eq n0 K c d F O W V).trans ?_
 have lp := rnd_loop (fun n i ch d' => F572.l1_1_0_1_0 n (F572.kt n0 K [1, 1, 0, 1, 0]) ch (d.length : Int) i F O W V d' c.1 c.2.1 c.2.2.1 c.2.2.2.1 c.2.2.2.2.1 c.2.2.2.2.2.1 c.2.2.2.2.2.2.1 c.2.2.2.2.2.2.2) (keepD c) (nextD c) (chgD c) (PassSt c d.length) d.length 64001000
  (fun ch d' => K.ret ⟨slots 57 [(4, .v .bool ch), (5, .v .bool true)], [.gst F O W V, .row 88 DomT d']⟩) (fun d' => K.ret ⟨slots 57 [(4, .v .bool false), (5, .v .bool false)], [.gst F O W V, .row 88 DomT d']⟩) (passGo c) (fun _ _ _ => rfl) (fun _ _ _ _ => rfl)
  (fun n' m i ch d' hB hi hst => by
   have hlen := hst.len
   have ho := hst.ok
   unfold passOk at ho
   rw [Bool.and_eq_true] at ho
   obtain ⟨s1, s2, s3⟩ := step_parts ho.1
   have hid : i < d'.length := by omega
   have hll := listD_length s2
   refine (F572.l1_1_0_1_0_eq n' _ ch _ (i : Int) F O W V d' _ _ _ _ _ _ _ _).trans ((bT' (decide_eq_true (by omega))).trans ((bT' (in_natC hid)).trans ((bT' (by rw [Int.toNat_natCast]; exact s2)).trans ?_)))
   rw [Int.toNat_natCast]
   refine (flt_loop (fun n j acc => F572.l1_1_0_1_0_0_1_1_0_0_1_1_0_1_0 n (F572.k_l1_1_0_1_0 n' (F572.kt n0 K [1, 1, 0, 1, 0]) [1, 1, 0, 0, 1, 1, 0, 1, 0]) ch (i : Int) (d.length : Int) (i : Int) (listD (d'.getD i dom0)) ((listD (d'.getD i dom0)).length : Int) j F O W V d' c.1 c.2.1 c.2.2.1 c.2.2.2.1 c.2.2.2.2.1 c.2.2.2.2.2.1 c.2.2.2.2.2.2.1 c.2.2.2.2.2.2.2 acc) (listD (d'.getD i dom0)) (mayD c d' (i : Int))
    (fun acc => bif decide ((acc.length : Int) = 0) then K.ret ⟨slots 57 [(4, .v .bool false), (5, .v .bool false)], [.gst F O W V, .row 88 DomT d']⟩ else bif decide ((acc.length : Int) < sizeD (d'.getD i dom0)) then F572.l1_1_0_1_0 n' (F572.kt n0 K [1, 1, 0, 1, 0]) true (d.length : Int) ((i + 1 : Nat) : Int) F O W V (d'.set i (ofD acc).1) c.1 c.2.1 c.2.2.1 c.2.2.2.1 c.2.2.2.2.1 c.2.2.2.2.2.1 c.2.2.2.2.2.2.1 c.2.2.2.2.2.2.2 else F572.l1_1_0_1_0 n' (F572.kt n0 K [1, 1, 0, 1, 0]) ch (d.length : Int) ((i + 1 : Nat) : Int) F O W V d' c.1 c.2.1 c.2.2.1 c.2.2.2.1 c.2.2.2.2.1 c.2.2.2.2.2.1 c.2.2.2.2.2.2.1 c.2.2.2.2.2.2.2)
    (by omega) (fun n j acc hj ha => ?_) (fun n acc ha => ?_) n' (by omega)).trans ?_
   ·have hm : mayB c d' (i : Int) ((listD (d'.getD i dom0)).getD j 0) = true := by
     unfold mayB
     rw [s1, inI_nat hid, s3 _ (gD_mem hj 0)]
     rfl
    have lim : ∀ x : Int, decide ((acc.length + [x].length) * 8 ≤ LIM) = true := fun x => decide_eq_true (show (acc.length + 1) * 8 ≤ 140737488355328 by omega)
    refine (F572.l1_1_0_1_0_0_1_1_0_0_1_1_0_1_0_eq n _ ch _ _ _ _ _ (j : Int) F O W V d' _ _ _ _ _ _ _ _ acc).trans ((bT' (decide_eq_true (by omega))).trans ((bT' (in_natC hj)).trans ((bT' (by rw [Int.toNat_natCast]; exact hm)).trans ?_)))
    rw [Int.toNat_natCast]
    show (bif mayD c d' (i : Int) ((listD (d'.getD i dom0)).getD j 0) then _ else _) = _
    cases mayD c d' (i : Int) ((listD (d'.getD i dom0)).getD j 0) with
    | true => exact bT' (lim _)
    | false => rfl
   ·refine (F572.l1_1_0_1_0_0_1_1_0_0_1_1_0_1_0_eq n _ ch _ _ _ _ _ _ F O W V d' _ _ _ _ _ _ _ _ acc).trans (self_lt'.trans ((F572.c1 n' _ ch _ _ _ F O W V d' _ _ _ _ _ _ _ _ acc).trans ?_))
    rw [wrap_succ (by omega), Int.toNat_natCast, F572.c2]
    cases decide ((acc.length : Int) = 0) with
    | true => rfl
    | false =>
     simp only [cond_false]
     refine (bT' (in_natC hid)).trans ?_
     show (bif decide ((acc.length : Int) < sizeD (d'.getD i dom0)) then _ else _) = _
     cases decide ((acc.length : Int) < sizeD (d'.getD i dom0)) with
     | true => exact bT' (in_natC hid)
     | false => rfl
   ·show (bif decide (((keepD c d' i).length : Int) = 0) then _ else bif chgD c d' i then F572.l1_1_0_1_0 n' _ true _ _ F O W V (d'.set i (ofD (keepD c d' i)).1) _ _ _ _ _ _ _ _ else _) = _
    by_cases hk : (keepD c d' i).length = 0
    ·rw [if_pos hk, decide_eq_true (by omega)]; rfl
    ·rw [if_neg hk, decide_eq_false (by omega)]
     unfold nextD
     cases chgD c d' i with
     | true => rw [Bool.or_true]; rfl
     | false => rw [Bool.or_false]; rfl)
  (fun m i d' hst hk => by
   have ho := hst.ok
   unfold passOk at ho
   rw [Bool.and_eq_true, decide_eq_false hk, Bool.false_or] at ho
   exact ⟨by rw [nextD_len]; exact hst.len, ho.2⟩)
  (fun n ch d' hst => (F572.l1_1_0_1_0_eq n _ ch _ _ F O W V d' _ _ _ _ _ _ _ _).trans (self_lt'.trans (F572.c0 n0 K ch F O W V d')))
  d.length 0 n0 false d (by omega) (by omega) ⟨rfl, hok⟩
 refine lp.trans ?_
 show (bif (passD c d).2.2 then _ else _) = _
 have hfail : ∀ (m i : Nat) (ch : Bool) (d : List Dom), (passGo c m i ch d).2.2 = false → (passGo c m i ch d).2.1 = false := by
  intro m
  induction m with
  | zero => intro i ch d h; simp [passGo] at h
  | succ m ih =>
   intro i ch d
   show (if (keepD c d i).length = 0 then (d, false, false) else passGo c m (i + 1) (ch || chgD c d i) (nextD c d i)).2.2 = false → (if (keepD c d i).length = 0 then (d, false, false) else passGo c m (i + 1) (ch || chgD c d i) (nextD c d i)).2.1 = false
   split
   ·exact fun _ => rfl
   ·exact ih _ _ _
 cases hq : (passD c d).2.2 with
 | true => rfl
 | false =>
  have h2 : (passD c d).2.1 = false := hfail _ _ _ _ hq
  rw [h2]
  rfl
theorem cumGo_no (c : Con) : ∀ (n : Nat) (d : List Dom), (cumGo c n d).2 = false → cumGo c n d = ([], false)
 | 0, d, _ => rfl
 | n + 1, d, h => by
  revert h
  show (bif !(passD c d).2.2 then ([], false) else bif !(passD c d).2.1 then ((passD c d).1, true) else cumGo c n (passD c d).1).2 = false → (bif !(passD c d).2.2 then ([], false) else bif !(passD c d).2.1 then ((passD c d).1, true) else cumGo c n (passD c d).1) = ([], false)
  cases (passD c d).2.2 with
  | false => exact fun _ => rfl
  | true =>
   cases (passD c d).2.1 with
   | false => exact fun h => by simp at h
   | true => exact fun h => cumGo_no c n _ h
theorem F529.loop (c : Con) (K : Conts) : ∀ (n : Nat) (d : List Dom), cumOk c n d = true → F529.l1_1_1_0 n K c.1 c.2.1 c.2.2.1 c.2.2.2.1 c.2.2.2.2.1 c.2.2.2.2.2.1 c.2.2.2.2.2.2.1 c.2.2.2.2.2.2.2 d =
   bif (cumGo c n d).2 then K.ret ⟨slots 26 [(4, .own 0), (5, .v .bool true)], [.row 88 DomT (cumGo c n d).1]⟩ else K.ret ⟨slots 26 [(4, .nl), (5, .v .bool false)], []⟩
 | 0, d, h => by simp [cumOk] at h
 | n + 1, d, h => by
  unfold cumOk at h
  rw [Bool.and_eq_true] at h
  refine (F529.l1_1_1_0_eq n K _ _ _ _ _ _ _ _ d).trans ((bT' h.1).trans ?_)
  have h2 := h.2
  show (bif !(passD c d).2.2 then _ else bif !(passD c d).2.1 then K.ret ⟨slots 26 [(4, .own 0), (5, .v .bool true)], [.row 88 DomT (passD c d).1]⟩ else F529.l1_1_1_0 n K _ _ _ _ _ _ _ _ (passD c d).1) = (bif (bif !(passD c d).2.2 then ([], false) else bif !(passD c d).2.1 then ((passD c d).1, true) else cumGo c n (passD c d).1).2 then K.ret ⟨slots 26 [(4, .own 0), (5, .v .bool true)], [.row 88 DomT (bif !(passD c d).2.2 then ([], false) else bif !(passD c d).2.1 then ((passD c d).1, true) else cumGo c n (passD c d).1).1]⟩ else _)
  cases hq : (passD c d).2.2 with
  | false => rfl
  | true =>
   cases hp : (passD c d).2.1 with
   | false => rfl
   | true =>
    rw [hq, hp] at h2
    exact F529.loop c K n _ h2
theorem F529.semN (n : Nat) (c : Con) (d : List Dom) (h : cumFBn n c d = true) : ∃ r, callW F529.E false F529.fn n [.agg (explode ConT c), .v (.sl DomT) d] = some r ∧ WA r (.tup [.v (.sl DomT) (cumFn n c d).1, .v .bool (cumFn n c d).2]) := by
 unfold cumFBn at h
 rw [Bool.and_eq_true] at h
 have no : WA (.tup [.nl, .v .bool false]) (.tup [.v (.sl DomT) ([] : List Dom), .v .bool false]) := .tup (.cons (.one (by simp) (.nl DomT)) (.cons (.one (by simp) (.same _)) .nil))
 unfold cumFn
 have st := (F529.start_eq n c d).trans (bT' h.1)
 have h2 := h.2
 cases hf : fitsD c d 19 19 with
 | false => exact ⟨_, st.trans (by rw [hf]; rfl), no⟩
 | true =>
  rw [hf] at st h2
  simp only [Bool.not_true, Bool.false_or, Bool.and_eq_true] at h2
  have st := st.trans ((bT' h2.1).trans (F529.loop c _ n d h2.2))
  cases hq : (cumGo c n d).2 with
  | true =>
   rw [hq] at st
   refine ⟨_, st.trans (F529.c1 n _), ?_⟩
   show WA _ (.tup [.v (.sl DomT) (cumGo c n d).1, .v .bool (cumGo c n d).2])
   rw [hq]
   exact WA.refl _
  | false =>
   rw [hq] at st
   refine ⟨_, st.trans (F529.c0 n), ?_⟩
   show WA _ (.tup [.v (.sl DomT) (cumGo c n d).1, .v .bool (cumGo c n d).2])
   rw [cumGo_no c n d hq]
   exact no
end Go.Proofs.YtdihbphkbdelbaaGreatDoor.Ev
set_option linter.unusedVariables false
set_option linter.unusedSimpArgs false
set_option maxRecDepth 100000
namespace Go.Proofs.YtdihbphkbdelbaaGreatDoor.Ev
open Go
structure Lst (c : Con) (d : List (List Int)) : Prop where
  cl : c.2.2.2.1.length = d.length
  dl : c.2.2.2.2.1.length = d.length
  le : d.length ≤ 1000
  cp : ∀ k ∈ c.2.2.2.1, 0 ≤ k ∧ k ≤ 1000000
  dp : ∀ k ∈ c.2.2.2.2.1, 0 ≤ k ∧ k ≤ 1000000
  en : ∀ x ∈ d, 0 < x.length ∧ x.length ≤ 100000 ∧ ∀ v ∈ x, -1000000 ≤ v ∧ v ≤ 1000000
  K : 0 ≤ c.2.2.2.2.2.2.1 ∧ c.2.2.2.2.2.2.1 ≤ 10000000000
theorem lst_iff {c : Con} {d : List (List Int)} : listsB c d = true ↔ Lst c d := by
 unfold listsB
 simp only [Bool.and_eq_true, decide_eq_true_eq, List.all_eq_true, posIff, Nat.ble_eq, millIff]
 constructor
 ·rintro ⟨⟨⟨⟨⟨⟨h1, h2⟩, h3⟩, h4⟩, h5⟩, h6⟩, h7⟩
  exact ⟨h1, h2, h3, h4, h5, fun x hx => ⟨(h6 x hx).1.1, (h6 x hx).1.2, (h6 x hx).2⟩, h7⟩
 ·rintro ⟨h1, h2, h3, h4, h5, h6, h7⟩
  exact ⟨⟨⟨⟨⟨⟨h1, h2⟩, h3⟩, h4⟩, h5⟩, fun x hx => ⟨⟨(h6 x hx).1, (h6 x hx).2.1⟩, (h6 x hx).2.2⟩⟩, h7⟩
theorem inL2_iff {d : List (List Int)} {i : Int} : inL2 d i = true ↔ 0 ≤ i ∧ i < d.length := by unfold inL2; simp
theorem inL2_nat {d : List (List Int)} {k : Nat} (h : k < d.length) : inL2 d (k : Int) = true := in_natC h
theorem tM_iff {t : Int} : tM t = true ↔ -10000000 ≤ t ∧ t ≤ 10000000 := by unfold tM; simp
section
variable {c : Con} {d : List (List Int)} (h : Lst c d)
include h
theorem Lst.cAt {k : Nat} (hk : k < d.length) : 0 ≤ c.2.2.2.1.getD k 0 ∧ c.2.2.2.1.getD k 0 ≤ 1000000 := h.cp _ (gD_mem (by rw [h.cl]; exact hk) 0)
theorem Lst.dAt {k : Nat} (hk : k < d.length) : 0 ≤ c.2.2.2.2.1.getD k 0 ∧ c.2.2.2.2.1.getD k 0 ≤ 1000000 := h.dp _ (gD_mem (by rw [h.dl]; exact hk) 0)
theorem Lst.eAt {k : Nat} (hk : k < d.length) : 0 < (d.getD k []).length ∧ (d.getD k []).length ≤ 100000 ∧ ∀ v ∈ d.getD k [], -1000000 ≤ v ∧ v ≤ 1000000 := h.en _ (gD_mem hk [])
end
theorem F637.sem (k : Nat) (c : Con) (d : List (List Int)) (i t : Int) (h : (listsB c d && inL2 d i && tM t) = true) : callW F637.E false F637.fn k [.agg (explode ConT c), .v (.sl (.sl (.int .i64))) d, .v (.int .i64) i, .v (.int .i64) t] = some (.v .bool (sureR c d i t)) := by
 rw [Bool.and_eq_true, Bool.and_eq_true, lst_iff, inL2_iff] at h
 obtain ⟨⟨hc, h0, h1⟩, _⟩ := h
 have hk : i.toNat < d.length := by omega
 obtain ⟨e1, e2, e3⟩ := hc.eAt hk
 have b1 := hc.cAt hk
 have hcl := hc.cl
 have ir : (decide (0 ≤ i) && decide (i < (d.length : Int))) = true := by simp [h0, h1]
 have ic : (decide (0 ≤ i) && decide (i < (c.2.2.2.1.length : Int))) = true := by
  simp only [h0, decide_true, Bool.true_and, decide_eq_true_eq]
  omega
 refine (F637.start_eq k c d i t).trans ?_
 have w1 : IntKind.i64.wrap (((d.getD i.toNat []).length : Int) - 1) = ((d.getD i.toNat []).length : Int) - 1 := wrap_ok (by omega) (by omega)
 have il : (decide (0 ≤ ((d.getD i.toNat []).length : Int) - 1) && decide (((d.getD i.toNat []).length : Int) - 1 < ((d.getD i.toNat []).length : Int))) = true := by
  rw [decide_eq_true (by omega), decide_eq_true (by omega)]; rfl
 have t1 : (((d.getD i.toNat []).length : Int) - 1).toNat = (d.getD i.toNat []).length - 1 := by omega
 have m0 := e3 _ (gD_mem e1 0)
 have w2 : IntKind.i64.wrap ((d.getD i.toNat []).getD 0 0 + c.2.2.2.1.getD i.toNat 0) = (d.getD i.toNat []).getD 0 0 + c.2.2.2.1.getD i.toNat 0 := wrap_ok (by omega) (by omega)
 rw [w1, w2, ir, il, ic, t1, decide_eq_true (show (0 : Int) < ((d.getD i.toNat []).length : Int) by omega)]
 simp only [cond_true]
 unfold sureR
 cases decide ((d.getD i.toNat []).getD ((d.getD i.toNat []).length - 1) 0 ≤ t) <;> rfl
def runT (c : Con) (d : List (List Int)) (i t : Int) (k : Nat) : Int := bif !(decide ((k : Int) = i)) && sureR c d (k : Int) t then c.2.2.2.2.1.getD k 0 else 0
theorem goN_run (c : Con) (d : List (List Int)) (i t : Int) : ∀ (n k : Nat) (acc : Int), goN (fun k acc => acc + runT c d i t k) n k acc = acc + runGo c d i t n k
 | 0, _, acc => by simp [goN, runGo]
 | n + 1, k, acc => by
  show goN _ n (k + 1) (acc + runT c d i t k) = _
  rw [goN_run c d i t n (k + 1)]
  show acc + runT c d i t k + runGo c d i t n (k + 1) = acc + (runT c d i t k + runGo c d i t n (k + 1))
  omega
theorem runT_range {c : Con} {d : List (List Int)} (h : Lst c d) (i t : Int) {k : Nat} (hk : k < d.length) : 0 ≤ runT c d i t k ∧ runT c d i t k ≤ 1000000 := by
 have := h.dAt hk
 unfold runT
 cases !(decide ((k : Int) = i)) && sureR c d (k : Int) t with
 | true => exact this
 | false => exact ⟨Int.le_refl _, (by decide : (0 : Int) ≤ 1000000)⟩
theorem all_loop (L : Nat → Int → Option AV) (s : Int) (N B : Nat) (p : Nat → Bool) (XT XF : Option AV) (hs : ∀ n j, B ≤ n → j < N → L (n + 1) (s + (j : Int)) = bif p j then L n (s + ((j + 1 : Nat) : Int)) else XF) (he : ∀ n, L (n + 1) (s + (N : Int)) = XT) :
  ∀ (m j n : Nat), j + m = N → m + B < n → L n (s + (j : Int)) = bif allFrom p m j then XT else XF
 | 0, j, n, h1, h2 => by
  obtain ⟨n', rfl⟩ : ∃ n', n = n' + 1 := ⟨n - 1, by omega⟩
  obtain rfl : j = N := by omega
  exact he n'
 | m + 1, j, n, h1, h2 => by
  obtain ⟨n', rfl⟩ : ∃ n', n = n' + 1 := ⟨n - 1, by omega⟩
  rw [hs n' j (by omega) (by omega), all_loop L s N B p XT XF hs he m (j + 1) n' (by omega) (by omega)]
  show _ = bif p j && allFrom p m (j + 1) then XT else XF
  cases p j <;> rfl
theorem F574.sem (n0 : Nat) (hn : 1002002 ≤ n0) (c : Con) (d : List (List Int)) (i s : Int) (h : mayRB c d i s = true) : callW F574.E false F574.fn n0 [.agg (explode ConT c), .v (.sl (.sl (.int .i64))) d, .v (.int .i64) i, .v (.int .i64) s] = some (.v .bool (mayR c d i s)) := by
 unfold mayRB at h
 rw [Bool.and_eq_true, Bool.and_eq_true, inL2_iff, millIff] at h
 obtain ⟨⟨hb, h0, h1⟩, s0, s1⟩ := h
 have hc := lst_iff.mp hb
 have hle := hc.le
 have hcl := hc.cl
 have hdl := hc.dl
 have hk : i.toNat < d.length := by omega
 have b1 := hc.cAt hk
 have bD := hc.dAt hk
 have ic : (decide (0 ≤ i) && decide (i < (c.2.2.2.1.length : Int))) = true := by
  simp only [h0, decide_true, Bool.true_and, decide_eq_true_eq]
  omega
 have id : (decide (0 ≤ i) && decide (i < (c.2.2.2.2.1.length : Int))) = true := by
  simp only [h0, decide_true, Bool.true_and, decide_eq_true_eq]
  omega
 have we : IntKind.i64.wrap (s + c.2.2.2.1.getD i.toNat 0) = s + c.2.2.2.1.getD i.toNat 0 := wrap_ok (by omega) (by omega)
 have eN : ((c.2.2.2.1.getD i.toNat 0).toNat : Int) = c.2.2.2.1.getD i.toNat 0 := by omega
 refine (F574.start_eq n0 c d i s).trans ?_
 have lp := all_loop (fun n t => F574.l1_0_1_0 n (F574.kt n0 [1, 0, 1, 0]) d i s t c.1 c.2.1 c.2.2.1 c.2.2.2.1 c.2.2.2.2.1 c.2.2.2.2.2.1 c.2.2.2.2.2.2.1 c.2.2.2.2.2.2.2) s (c.2.2.2.1.getD i.toNat 0).toNat 2000 (fun j => !(decide (runR c d i (s + (j : Int)) > c.2.2.2.2.2.2.1))) (some (.v .bool true)) (some (.v .bool false))
  (fun n' j hB hj => by
   refine (F574.l1_0_1_0_eq n' _ d i s _ _ _ _ _ _ _ _ _).trans ((bT' ic).trans ((bT' (by rw [we]; exact decide_eq_true (by omega))).trans ((bT' id).trans ?_)))
   have tb : tM (s + (j : Int)) = true := tM_iff.mpr (by omega)
   have lp2 := idx_loop (fun n k acc => F574.l1_0_1_0_0_1_0_0_1_0_1_0 n (F574.k_l1_0_1_0 n' (F574.kt n0 [1, 0, 1, 0]) [1, 0, 0, 1, 0, 1, 0]) d i s (s + (j : Int)) acc k c.1 c.2.1 c.2.2.1 c.2.2.2.1 c.2.2.2.2.1 c.2.2.2.2.2.1 c.2.2.2.2.2.2.1 c.2.2.2.2.2.2.2) (fun acc => bif decide (acc > c.2.2.2.2.2.2.1) then some (.v .bool false) else F574.l1_0_1_0 n' (F574.kt n0 [1, 0, 1, 0]) d i s (s + ((j + 1 : Nat) : Int)) c.1 c.2.1 c.2.2.1 c.2.2.2.1 c.2.2.2.2.1 c.2.2.2.2.2.1 c.2.2.2.2.2.2.1 c.2.2.2.2.2.2.2) d.length (fun k acc => acc + runT c d i (s + (j : Int)) k) (fun k acc => 0 ≤ acc ∧ acc ≤ 1000000 * ((k : Int) + 1)) 0
    (fun n k acc _ hk ha => by
     have b := runT_range hc i (s + (j : Int)) hk
     refine ⟨⟨by omega, by omega⟩, ?_⟩
     refine (F574.l1_0_1_0_0_1_0_0_1_0_1_0_eq n _ d i s _ acc (k : Int) _ _ _ _ _ _ _ _).trans ((bT' (decide_eq_true (by omega))).trans ((bT' (by
      show (listsB c d && inL2 d (k : Int) && tM (s + (j : Int))) = true
      rw [hb, inL2_nat hk, tb]; rfl)).trans ?_))
     rw [wrap_succ (by omega)]
     have e0 : acc + 0 = acc := by omega
     show (bif !(decide ((k : Int) = i)) then (bif sureR c d (k : Int) (s + (j : Int)) then _ else _) else _) = F574.l1_0_1_0_0_1_0_0_1_0_1_0 n _ d i s _ (acc + runT c d i (s + (j : Int)) k) _ _ _ _ _ _ _ _ _
     unfold runT at b ⊢
     cases !(decide ((k : Int) = i)) with
     | false => simp only [Bool.false_and, cond_false, e0]
     | true =>
      cases sureR c d (k : Int) (s + (j : Int)) with
      | false => simp only [Bool.true_and, cond_true, cond_false, e0]
      | true =>
       simp only [Bool.true_and, cond_true] at b ⊢
       refine (bT' (in_natC (by rw [hdl]; exact hk))).trans ?_
       rw [Int.toNat_natCast, wrap_ok (by have := hc.dAt hk; omega) (by have := hc.dAt hk; omega)])
    (fun n acc _ ha => (F574.l1_0_1_0_0_1_0_0_1_0_1_0_eq n _ d i s _ acc _ _ _ _ _ _ _ _ _).trans (self_lt'.trans ((F574.c1 n' _ d i s _ acc _ _ _ _ _ _ _ _).trans (by
     have w : IntKind.i64.wrap (s + (j : Int) + 1) = s + ((j + 1 : Nat) : Int) := by rw [wrap_ok (by omega) (by omega)]; omega
     rw [w, F574.c2]))))
    d.length 0 n' (c.2.2.2.2.1.getD i.toNat 0) (by omega) (by omega) ⟨by omega, by omega⟩
   refine lp2.trans ?_
   rw [goN_run]
   show (bif decide (runR c d i (s + (j : Int)) > c.2.2.2.2.2.2.1) then _ else _) = _
   cases decide (runR c d i (s + (j : Int)) > c.2.2.2.2.2.2.1) <;> rfl)
  (fun n => (F574.l1_0_1_0_eq n _ d i s _ _ _ _ _ _ _ _ _).trans ((bT' ic).trans ((bF' (by rw [we]; exact decide_eq_false (by omega))).trans (F574.c0 n0))))
  (c.2.2.2.1.getD i.toNat 0).toNat 0 n0 (by omega) (by omega)
 have e1 : s + ((0 : Nat) : Int) = s := by omega
 rw [e1] at lp
 refine lp.trans ?_
 unfold mayR
 cases allFrom (fun j => !(decide (runR c d i (s + (j : Int)) > c.2.2.2.2.2.2.1))) (c.2.2.2.1.getD i.toNat 0).toNat 0 <;> rfl
theorem goN_set (d : List (List Int)) (i : Nat) (l : List Int) : ∀ (n k : Nat) (acc : List (List Int)), k + n = d.length → goN (fun k acc => acc ++ [if k = i then l else d.getD k []]) n k acc = acc ++ (d.set i l).drop k
 | 0, k, acc, h => by rw [List.drop_eq_nil_of_le (by rw [List.length_set]; omega)]; simp [goN]
 | n + 1, k, acc, h => by
  have hk : k < (d.set i l).length := by rw [List.length_set]; omega
  have hk' : k < d.length := by omega
  show goN _ n (k + 1) (acc ++ [if k = i then l else d.getD k []]) = _
  rw [goN_set d i l n (k + 1) _ (by omega), List.drop_eq_getElem_cons hk, List.append_assoc]
  congr 1
  show [if k = i then l else d.getD k []] ++ _ = _
  rw [List.getElem_set]
  by_cases hki : i = k
  ·rw [if_pos hki, if_pos hki.symm]; rfl
  ·rw [if_neg hki, if_neg (fun e => hki e.symm), gD_get hk']; rfl
theorem set_loop (La Lb : Nat → Int → List (List Int) → Option AV) (d : List (List Int)) (i : Nat) (l : List Int) (X : List (List Int) → Option AV) (hi : i < d.length) (hd : d.length ≤ 1000)
  (ha : ∀ n (k : Nat) acc, k < d.length → acc.length ≤ k → La (n + 1) (k : Int) acc = if k = i then Lb n (IntKind.i64.wrap ((k : Int) + 1)) (acc ++ [l]) else La n (IntKind.i64.wrap ((k : Int) + 1)) (acc ++ [d.getD k []]))
  (hb : ∀ n (k : Nat) acc, k < d.length → acc.length ≤ k → Lb (n + 1) (k : Int) acc = if k = i then Lb n (IntKind.i64.wrap ((k : Int) + 1)) (acc ++ [l]) else Lb n (IntKind.i64.wrap ((k : Int) + 1)) (acc ++ [d.getD k []]))
  (he : ∀ n acc, Lb (n + 1) (d.length : Int) acc = X acc) (n : Nat) (hn : d.length < n) : La n 0 [] = X (d.set i l) := by
 have := idx_loop (fun n k acc => if k ≤ (i : Int) then La n k acc else Lb n k acc) X d.length (fun k acc => acc ++ [if k = i then l else d.getD k []]) (fun k acc => acc.length ≤ k) 0
  (fun n k acc _ hk hl => by
   refine ⟨by rw [List.length_append]; show acc.length + 1 ≤ k + 1; omega, ?_⟩
   by_cases h1 : k = i
   ·rw [if_pos (show (k : Int) ≤ (i : Int) by omega), if_neg (show ¬ ((k + 1 : Nat) : Int) ≤ (i : Int) by omega), ha n k acc hk hl, if_pos h1, if_pos h1, wrap_succ (by omega)]
   ·by_cases h2 : k < i
    ·rw [if_pos (show (k : Int) ≤ (i : Int) by omega), if_pos (show ((k + 1 : Nat) : Int) ≤ (i : Int) by omega), ha n k acc hk hl, if_neg h1, if_neg h1, wrap_succ (by omega)]
    ·rw [if_neg (show ¬ (k : Int) ≤ (i : Int) by omega), if_neg (show ¬ ((k + 1 : Nat) : Int) ≤ (i : Int) by omega), hb n k acc hk hl, if_neg h1, if_neg h1, wrap_succ (by omega)])
  (fun n acc _ _ => by rw [if_neg (show ¬ (d.length : Int) ≤ (i : Int) by omega)]; exact he n acc)
  d.length 0 n [] (by omega) (by omega) (Nat.le_refl _)
 rw [goN_set d i l d.length 0 [] (by omega)] at this
 rw [if_pos (show ((0 : Nat) : Int) ≤ (i : Int) by omega)] at this
 simpa using this
end Go.Proofs.YtdihbphkbdelbaaGreatDoor.Ev
