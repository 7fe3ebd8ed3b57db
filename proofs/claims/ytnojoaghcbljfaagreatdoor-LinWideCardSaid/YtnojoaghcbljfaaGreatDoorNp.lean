/-
Linear constraints: what the laws are about: what the filter answers for lists, what holds.
Conditions: none.
-/
import Derived.Test.YtnojoaghcbljfaaGreatDoorNo
set_option linter.unusedVariables false
set_option linter.unusedSimpArgs false
set_option maxRecDepth 100000
namespace Go.Proofs.YtnojoaghcbljfaaGreatDoor.Ev
open Go
theorem equal_keeps {C : List Int} {K : Int} : ∀ (n : Nat) (l : List (List Int)), C.length = l.length → Rs l → tot l < n → ∀ r, InP r l → dot C r = K → (equalGoR C K n l).2 = true ∧ InP r (equalGoR C K n l).1
 | 0, l, _, _, h, _, _, _ => by omega
 | n + 1, l, hl, hR, ht, r, hr, hd => by
  obtain ⟨a1, a2⟩ := by_keeps (s := 1) (most := K) hl hR hr (by rw [sc_one]; omega)
  have b1 := by_rs hR a1
  have b2 := by_len' a1
  obtain ⟨c1, c2⟩ := by_keeps (C := C) (s := -1) (most := -K) (l := (byR C 1 K l).1) (by omega) b1 a2 (by rw [sc_neg_dot]; omega)
  have d1 := by_rs b1 c1
  have d2 := by_len' c1
  have p := (by_part c1).trans (by_part a1)
  unfold equalGoR
  rw [a1, c1]
  cases hs : sameL (byR C (-1) (-K) (byR C 1 K l).1).1 l with
  | true => exact ⟨rfl, c2⟩
  | false =>
   have hne : ¬ (byR C (-1) (-K) (byR C 1 K l).1).1 = l := of_decide_eq_false hs
   have ht2 : tot (byR C (-1) (-K) (byR C 1 K l).1).1 ≠ tot l := fun e => hne (p.ext e)
   have := p.tot
   exact equal_keeps n _ (by omega) d1 (by omega) r c2 hd
theorem equal_sub {C : List Int} {K : Int} : ∀ (n : Nat) (l : List (List Int)), (equalGoR C K n l).2 = true → (equalGoR C K n l).1.length = l.length ∧ ∀ i v, i < l.length → v ∈ (equalGoR C K n l).1.getD i [] → v ∈ l.getD i []
 | 0, l, h => by cases h
 | n + 1, l, h => by
  unfold equalGoR at h ⊢
  cases a1 : (byR C 1 K l).2 with
  | false => rw [a1] at h; cases h
  | true =>
   rw [a1] at h
   cases c1 : (byR C (-1) (-K) (byR C 1 K l).1).2 with
   | false => rw [c1] at h; cases h
   | true =>
    rw [c1] at h
    have l1 := by_len' a1
    have l2 := by_len' c1
    have sub : ∀ i v, i < l.length → v ∈ (byR C (-1) (-K) (byR C 1 K l).1).1.getD i [] → v ∈ l.getD i [] := fun i v hi hv => by_sub a1 hi (by_sub c1 (by omega) hv)
    cases hs : sameL (byR C (-1) (-K) (byR C 1 K l).1).1 l with
    | true => exact ⟨l2.trans l1, sub⟩
    | false =>
     rw [hs] at h
     obtain ⟨e1, e2⟩ := equal_sub n _ h
     exact ⟨e1.trans (l2.trans l1), fun i v hi hv => sub i v hi (e2 i v (by omega) hv)⟩
theorem equal_no {C : List Int} {K : Int} : ∀ (n : Nat) (l : List (List Int)), (equalGoR C K n l).2 = false → (equalGoR C K n l).1 = []
 | 0, l, _ => rfl
 | n + 1, l, h => by
  unfold equalGoR at h ⊢
  cases a1 : (byR C 1 K l).2 with
  | false => rfl
  | true =>
   rw [a1] at h
   cases c1 : (byR C (-1) (-K) (byR C 1 K l).1).2 with
   | false => rfl
   | true =>
    rw [c1] at h
    cases hs : sameL (byR C (-1) (-K) (byR C 1 K l).1).1 l with
    | true => rw [hs] at h; cases h
    | false =>
     rw [hs] at h
     exact equal_no n _ h
theorem by_no {C : List Int} {s most : Int} {l : List (List Int)} (h : (byR C s most l).2 = false) : (byR C s most l).1 = [] := by
 unfold byR at h ⊢
 cases hall : (List.range l.length).all (fun i => !(keepR s most C l i).isEmpty) with
 | true => rw [hall] at h; cases h
 | false => rfl
theorem re_no {c : Con} {l : List (List Int)} (h : (reifiedR c l).2 = false) : (reifiedR c l).1 = [] := by
 rw [reifiedR_eq] at h ⊢
 rcases lastR_cases c l with hb | hb | hb | hb
 ·rw [hb]; rfl
 ·rw [hb, reR_single, if_neg (show ¬ (0 : Int) = 1 by decide)] at h ⊢
  cases hq : (byR (cC c) (-1) (-(cK c) - 1) (l.take c.2.1.length)).2 with
  | true => rw [hq] at h; cases h
  | false => rfl
 ·rw [hb, reR_single, if_pos (show (1 : Int) = 1 from rfl)] at h ⊢
  cases hq : (byR (cC c) 1 (cK c) (l.take c.2.1.length)).2 with
  | true => rw [hq] at h; cases h
  | false => rfl
 ·rw [hb] at h
  cases h
theorem linKR_no {c : Con} {l : List (List Int)} (h : (linKR c l).2 = false) : (linKR c l).1 = [] := by
 unfold linKR at h ⊢
 by_cases c1 : c.1 = 1
 ·rw [if_pos c1] at h ⊢; exact equal_no _ _ h
 ·rw [if_neg c1] at h ⊢
  by_cases c2 : c.1 = 2
  ·rw [if_pos c2] at h ⊢; exact by_no h
  ·rw [if_neg c2] at h ⊢
   by_cases c3 : c.1 = 3
   ·rw [if_pos c3] at h ⊢
    cases hu : (unlikeR c l).2 with
    | true => rw [hu] at h; cases h
    | false => rfl
   ·rw [if_neg c3] at h ⊢
    exact re_no h
def linS (c : Con) (r : List Int) : Prop := if c.1 = 1 then dot (cC c) r = cK c else if c.1 = 2 then dot (cC c) r ≤ cK c else if c.1 = 3 then dot (cC c) r ≠ cK c else
 (r.getD c.2.1.length 0 = 1 ∧ dot (cC c) r ≤ cK c) ∨ (r.getD c.2.1.length 0 = 0 ∧ dot (cC c) r > cK c)
theorem AllG.rs {d : List Dom} (h : AllG d) : Rs (listsL d) := fun x hx => by
 obtain ⟨y, hy, rfl⟩ := List.mem_map.mp hx
 exact ⟨(h y hy).ne, (h y hy).ris⟩
theorem one_row {l : List (List Int)} (hO : One l) {r s : List Int} (hr : InP r l) (hs : InP s l) : r = s := by
 apply List.ext_getElem (by rw [hr.len, hs.len])
 intro i h1 h2
 have hi : i < l.length := by rw [← hr.len]; exact h1
 have a := hr.getD h1 0 []
 have b := hs.getD h2 0 []
 have h3 : (l.getD i []).length = 1 := hO _ (getD_memD hi [])
 obtain ⟨y, hy⟩ := List.length_eq_one_iff.mp h3
 rw [hy] at a b
 have := (List.mem_singleton.mp a).trans (List.mem_singleton.mp b).symm
 rwa [getD_get h1, getD_get h2] at this
theorem part_one {q l : List (List Int)} (hlen : q.length = l.length) (hsub : ∀ i v, i < l.length → v ∈ q.getD i [] → v ∈ l.getD i []) {r : List Int} (hr : InP r q) : InP r l := F2.ofD 0 [] (by rw [hr.len, hlen]) fun i hi => by
 rw [hr.len, hlen] at hi
 exact hsub i _ hi (hr.getD (by rw [hr.len, hlen]; exact hi) 0 [])
theorem equalGoR_succ (C : List Int) (K : Int) (n : Nat) (q : List (List Int)) : equalGoR C K (n + 1) q = bif !(byR C 1 K q).2 then ([], false) else bif !(byR C (-1) (-K) (byR C 1 K q).1).2 then ([], false) else
  bif sameL (byR C (-1) (-K) (byR C 1 K q).1).1 q then ((byR C (-1) (-K) (byR C 1 K q).1).1, true) else equalGoR C K n (byR C (-1) (-K) (byR C 1 K q).1).1 := rfl
theorem equal_law {C : List Int} {K : Int} {N : Nat} (h : LinC C K N) {d : List Dom} (hG : AllG d) (hl : d.length = N) (n : Nat) (ht : tot (listsL d) < n + 1) (hn : n + 1 ≤ 100000) : LawL (fun l => equalGoR C K (n + 1) l) (listsL d) (fun r => dot C r = K) := by
 have hR := hG.rs
 have hlen := h.len
 have n1 := h.n1
 have hCl : C.length = (listsL d).length := by rw [lists_len]; omega
 obtain ⟨S, _, _, fix⟩ := equal_same h (n + 1) d hG hl ht hn
 have kp := equal_keeps (C := C) (K := K) (n + 1) (listsL d) hCl hR ht
 refine ⟨fun _ r hr hs => (kp r hr hs).2, fun hn r hr hs => ?_, fun hk => (equal_sub _ _ hk).1, fun hk => (equal_sub _ _ hk).2, fun hk => ?_, fun hk hO r hr => ?_⟩
 ·have hn : (equalGoR C K (n + 1) (listsL d)).2 = false := hn
  have := (kp r hr hs).1
  rw [hn] at this
  cases this
 ·have hk : (equalGoR C K (n + 1) (listsL d)).2 = true := hk
  obtain ⟨_, f1, f2⟩ := fix hk
  show equalGoR C K (n + 1) (equalGoR C K (n + 1) (listsL d)).1 = ((equalGoR C K (n + 1) (listsL d)).1, true)
  generalize (equalGoR C K (n + 1) (listsL d)).1 = q at f1 f2
  rw [equalGoR_succ, f1]
  show (bif !(byR C (-1) (-K) q).2 then _ else _) = _
  rw [f2]
  show (bif sameL q q then _ else _) = _
  rw [show sameL q q = true from decide_eq_true rfl]
  rfl
 ·have hk : (equalGoR C K (n + 1) (listsL d)).2 = true := hk
  obtain ⟨p, f1, f2⟩ := fix hk
  obtain ⟨e1, e2⟩ := equal_sub _ _ hk
  have hok := S.ok
  obtain ⟨l1, g1⟩ := S.lists hk
  have hRq : Rs (equalGoR C K (n + 1) (listsL d)).1 := by rw [← l1]; exact AllG.rs g1
  obtain ⟨s, hs⟩ := some_rowN (l := (equalGoR C K (n + 1) (listsL d)).1) fun x hx => (hRq x hx).1
  have hsl := part_one e1 e2 hs
  have := one_row hO hr hsl
  subst this
  have hOq : One (equalGoR C K (n + 1) (listsL d)).1 := fun x hx => by
   obtain ⟨i, hi, rfl⟩ := getD_of_mem hx []
   have a := p.le i hi
   have b := hO _ (getD_memD (show i < (listsL d).length by omega) [])
   have := List.length_pos_iff.mpr (hRq _ hx).1
   omega
  have k1 := by_one (C := C) (s := 1) (most := K) (by omega) (by omega) hRq (by rw [f1]) hOq hs
  have k2 := by_one (C := C) (s := -1) (most := -K) (by omega) (by omega) hRq (by rw [f2]) hOq hs
  rw [sc_one] at k1
  rw [sc_neg_dot] at k2
  show dot C r = K
  omega
theorem linK_law {c : Con} (h : LinF c) {d : List Dom} (hG : AllG d) (hl : d.length = c.2.1.length + c.2.2.1.length) (ht : tot (listsL d) < 100000) : LawL (linKR c) (listsL d) (linS c) := by
 have h1 := h.k
 have hb := h.b
 have hlen := h.lin.len
 have hR := hG.rs
 by_cases c1 : c.1 = 1
 ·rw [if_neg (by omega)] at hb
  have eF : linKR c = fun l => equalGoR (cC c) (cK c) 100000 l := by funext l; unfold linKR; rw [if_pos c1]; rfl
  have eS : linS c = fun r => dot (cC c) r = cK c := by funext r; unfold linS; rw [if_pos c1]
  rw [eF, eS]
  exact equal_law h.lin hG (by omega) 99999 ht (Nat.le_refl _)
 ·by_cases c2 : c.1 = 2
  ·rw [if_neg (by omega)] at hb
   have eF : linKR c = fun l => byR (cC c) 1 (cK c) l := by funext l; unfold linKR; rw [if_neg c1, if_pos c2]
   have eS : linS c = fun r => dot (cC c) r ≤ cK c := by funext r; unfold linS; rw [if_neg c1, if_pos c2]
   rw [eF, eS]
   have hCl : (cC c).length = (listsL d).length := by rw [lists_len]; omega
   have kp : ∀ r, InP r (listsL d) → dot (cC c) r ≤ cK c → (byR (cC c) 1 (cK c) (listsL d)).2 = true ∧ InP r (byR (cC c) 1 (cK c) (listsL d)).1 := fun r hr hs => by_keeps hCl hR hr (by rw [sc_one]; exact hs)
   refine ⟨fun _ r hr hs => (kp r hr hs).2, fun hn r hr hs => ?_, fun hk => by_len' hk, fun hk i v hi hv => by_sub hk hi hv, fun hk => (by_again hCl hR hk).1, fun hk hO r hr => ?_⟩
   ·have hn : (byR (cC c) 1 (cK c) (listsL d)).2 = false := hn
    have := (kp r hr hs).1
    rw [hn] at this
    cases this
   ·have n1 := h.lin.n1
    have := by_one hCl (by rw [lists_len]; omega) hR hk hO hr
    rw [sc_one] at this
    exact this
  ·by_cases c3 : c.1 = 3
   ·rw [if_neg (by omega)] at hb
    have eF : linKR c = fun l => bif (unR (cC c) (cK c) l (openR 0 0 0 0 (cC c) l)).2 then ((unR (cC c) (cK c) l (openR 0 0 0 0 (cC c) l)).1, true) else ([], false) := by funext l; unfold linKR; rw [if_neg c1, if_neg c2, if_pos c3, unlikeR_eq]
    have eS : linS c = fun r => dot (cC c) r ≠ cK c := by funext r; unfold linS; rw [if_neg c1, if_neg c2, if_pos c3]
    rw [eF, eS]
    have hCl : (cC c).length = (listsL d).length := by rw [lists_len]; omega
    have L := un_law (C := cC c) (K := cK c) hCl (fun x hx => (hR x hx).1)
    generalize hF : (fun l => unR (cC c) (cK c) l (openR 0 0 0 0 (cC c) l)) = F at L
    have eq : ∀ l, unR (cC c) (cK c) l (openR 0 0 0 0 (cC c) l) = F l := fun l => by rw [← hF]
    have tr : ∀ l, (F l).2 = true → (bif (F l).2 then ((F l).1, true) else (([], false) : List (List Int) × Bool)) = F l := fun l h => by
     rw [h]
     exact Prod.ext rfl h.symm
    have two : ∀ l, (bif (F l).2 then ((F l).1, true) else (([], false) : List (List Int) × Bool)).2 = (F l).2 := fun l => by cases (F l).2 <;> rfl
    have eF2 : (fun l => bif (unR (cC c) (cK c) l (openR 0 0 0 0 (cC c) l)).2 then ((unR (cC c) (cK c) l (openR 0 0 0 0 (cC c) l)).1, true) else (([], false) : List (List Int) × Bool)) = fun l => bif (F l).2 then ((F l).1, true) else ([], false) := by funext l; rw [eq]
    rw [eF2]
    refine ⟨fun hk r hr hs => ?_, fun hn r hr hs => ?_, fun hk => ?_, fun hk i v hi hv => ?_, fun hk => ?_, fun hk hO r hr => ?_⟩
    all_goals simp only [two] at *
    ·rw [tr _ hk]; exact L.keep hk r hr hs
    ·exact L.no hn r hr hs
    ·rw [tr _ hk]; exact L.len hk
    ·rw [tr _ hk] at hv; exact L.sub hk i v hi hv
    ·rw [tr _ hk]
     have := L.again hk
     rw [this]
     rfl
    ·exact L.one hk hO r hr
   ·rw [if_pos (by omega)] at hb
    have eF : linKR c = fun l => reifiedR c l := by funext l; unfold linKR; rw [if_neg c1, if_neg c2, if_neg c3]
    have eS : linS c = fun r => (r.getD c.2.1.length 0 = 1 ∧ dot (cC c) r ≤ cK c) ∨ (r.getD c.2.1.length 0 = 0 ∧ dot (cC c) r > cK c) := by funext r; unfold linS; rw [if_neg c1, if_neg c2, if_neg c3]
    rw [eF, eS]
    exact re_law rfl h.lin.n1 hlen (by rw [lists_len]; omega) hR
structure LF (c : Con) (l : List (List Int)) : Prop where
  le : Nat.ble l.length 1000 = true
  f1 : linFB c (domsL l) = true
  r1 : linRB c l = true
  ok : (linF c (domsL l)).2 = (linR c l).2
  lb : (Nat.ble (linF c (domsL l)).1.length 1000 && (linF c (domsL l)).1.all listB) = true
  ll : (Nat.ble (listsL (linF c (domsL l)).1).length 1000 && lensB (listsL (linF c (domsL l)).1)) = true
  same : sameL (listsL (linF c (domsL l)).1) (linR c l).1 = true
theorem AllG.bounds {d : List Dom} (h : AllG d) (hl : d.length ≤ 1000) (ht : tot (listsL d) ≤ 1000000) : (Nat.ble d.length 1000 && d.all listB) = true ∧ (Nat.ble (listsL d).length 1000 && lensB (listsL d)) = true := by
 rw [lists_len, Nat.ble_eq_true_of_le hl]
 refine ⟨?_, ?_⟩
 ·show d.all listB = true
  rw [List.all_eq_true]
  intro x hx
  exact listB_wf (h x hx).made.wf
 ·show lensB (listsL d) = true
  unfold lensB
  rw [List.all_eq_true]
  intro x hx
  have := tot_mem hx
  exact Nat.ble_eq_true_of_le (by omega)
theorem allG_doms {l : List (List Int)} (ok : ∀ x ∈ l, okL x = true) : AllG (domsL l) := fun d hd => by
 obtain ⟨x, hx, rfl⟩ := List.mem_map.mp hd
 exact G_ofD (ok x hx)
theorem lin_no {c : Con} {l : List (List Int)} (hf : fitsR c l 1 4 = false) : linR c l = ([], false) := by unfold linR; rw [hf]; rfl
theorem lf_fits {c : Con} {l : List (List Int)} (hf : fitsD c (domsL l) 1 4 = true) (ok : ∀ x ∈ l, okL x = true ∧ Rising x) (hl : l.length ≤ 1000) (ht : tot l < 100000) :
  LF c l ∧ ((linR c l).2 = true → AllG (linF c (domsL l)).1 ∧ listsL (linF c (domsL l)).1 = (linR c l).1) ∧ LawL (linR c) l (linS c) ∧ LinF c ∧ l.length = c.2.1.length + c.2.2.1.length := by
 have hG := allG_doms fun x hx => (ok x hx).1
 have el : listsL (domsL l) = l := lists_doms ok
 obtain ⟨a1, a2, S⟩ := lin_same hf hG (by rw [el]; exact ht)
 obtain ⟨F, hlen⟩ := fits_lin hf
 rw [el] at a2 S
 have L := linK_law F hG hlen (by rw [el]; exact ht)
 rw [el] at L
 rw [doms_len] at hlen
 have hfr : fitsR c l 1 4 = true := by have := (fits_other hf hG rfl).2; rwa [el] at this
 have eR : linR c l = linKR c l := by unfold linR; rw [hfr]; rfl
 have nil : (linR c l).2 = false → (linF c (domsL l)).1 = [] ∧ (linR c l).1 = [] := fun h => by
  refine ⟨?_, by rw [eR] at h ⊢; exact linKR_no h⟩
  have := S.ok
  rw [h] at this
  unfold linF at this ⊢
  rw [hf] at this ⊢
  cases hq : (linKF c (domsL l)).2 with
  | true => rw [hq] at this; cases this
  | false => rfl
 have yes : (linR c l).2 = true → AllG (linF c (domsL l)).1 ∧ listsL (linF c (domsL l)).1 = (linR c l).1 := fun h => ⟨(S.lists h).2, (S.lists h).1⟩
 have bd : (Nat.ble (linF c (domsL l)).1.length 1000 && (linF c (domsL l)).1.all listB) = true ∧ (Nat.ble (listsL (linF c (domsL l)).1).length 1000 && lensB (listsL (linF c (domsL l)).1)) = true ∧ sameL (listsL (linF c (domsL l)).1) (linR c l).1 = true := by
  cases hq : (linR c l).2 with
  | false =>
   obtain ⟨n1, n2⟩ := nil hq
   rw [n1, n2]
   exact ⟨rfl, rfl, rfl⟩
  | true =>
   obtain ⟨y1, y2⟩ := yes hq
   have hk : (linKR c l).2 = true := by rw [← eR]; exact hq
   have hl2 : (linF c (domsL l)).1.length = l.length := by rw [← lists_len, y2, eR, L.len hk]
   have ht2 : tot (linR c l).1 ≤ tot l := by
    rw [eR]
    refine (tot_le (L.len hk) fun i hi => ?_).1
    rw [L.len hk] at hi
    have hrq : Rising ((linKR c l).1.getD i []) := by
     rw [← eR, ← y2]
     exact (y1.rs _ (getD_memD (by rw [lists_len, hl2]; exact hi) [])).2
    have hrl : Rising (l.getD i []) := (ok _ (getD_memD hi [])).2
    have hsub := fun v => L.sub hk i v hi
    generalize (linKR c l).1.getD i [] = a at hrq hsub
    generalize l.getD i [] = b at hrl hsub
    have e : a = b.filter fun v => decide (v ∈ a) := rising_ext hrq (hrl.filter _) fun v => by
     rw [List.mem_filter, decide_eq_true_eq]
     exact ⟨fun h => ⟨hsub v h, h⟩, fun h => h.2⟩
    rw [e]
    exact List.length_filter_le _ _
   obtain ⟨b1, b2⟩ := y1.bounds (by omega) (by rw [y2]; omega)
   exact ⟨b1, b2, decide_eq_true y2⟩
 refine ⟨⟨Nat.ble_eq_true_of_le hl, a1, a2, S.ok, bd.1, bd.2.1, bd.2.2⟩, yes, ?_, F, hlen⟩
 refine ⟨fun h => ?_, fun h => ?_, fun h => ?_, fun h => ?_, fun h => ?_, fun h => ?_⟩
 all_goals rw [eR] at h
 ·rw [eR]; exact L.keep h
 ·exact L.no h
 ·rw [eR]; exact L.len h
 ·rw [eR]; exact L.sub h
 ·have hq : (linR c l).2 = true := by rw [eR]; exact h
  obtain ⟨y1, y2⟩ := yes hq
  have f2 := (fits_other hf y1 (by rw [← lists_len, y2, eR, L.len h, doms_len])).2
  rw [y2] at f2
  have key : ∀ m, fitsR c m 1 4 = true → linR c m = linKR c m := fun m h => by unfold linR; rw [h]; rfl
  rw [key _ f2, eR]
  exact L.again h
 ·exact L.one h
end Go.Proofs.YtnojoaghcbljfaaGreatDoor.Ev
