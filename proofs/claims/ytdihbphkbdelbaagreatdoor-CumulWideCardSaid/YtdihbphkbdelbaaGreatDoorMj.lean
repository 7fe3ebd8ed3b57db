/-
Tasks that share what there is, by the document: the filter's answer.
Conditions: in each round the constraint's lists are as long as there are domains, none of which is empty; all numbers are small.
-/
import Derived.Test.YtdihbphkbdelbaaGreatDoorMd
set_option linter.unusedVariables false
set_option linter.unusedSimpArgs false
set_option maxRecDepth 100000
namespace Go.Proofs.YtdihbphkbdelbaaGreatDoor.Ev
open Go
abbrev BoxC (c : Con) : Row := .box [.v (.int .i64) c.1, .v (.sl (.int .i64)) c.2.1, .v (.sl (.int .i64)) c.2.2.1, .v (.sl (.int .i64)) c.2.2.2.1, .v (.sl (.int .i64)) c.2.2.2.2.1, .v (.sl (.int .i64)) c.2.2.2.2.2.1, .v (.int .i64) c.2.2.2.2.2.2.1, .v (.sl (.sl (.int .i64))) c.2.2.2.2.2.2.2]
structure RSt (c : Con) (N m i : Nat) (d : List (List Int)) : Prop where
  len : d.length = N
  ok : roundOk c m i d = true
theorem nextR_len (c : Con) (d : List (List Int)) (i : Nat) : (nextR c d i).length = d.length := by unfold nextR; simp
theorem RSt.next {c : Con} {N m i : Nat} {d : List (List Int)} (h : RSt c N (m + 1) i d) (hk : (keepR c d i).length ≠ 0) : RSt c N m (i + 1) (nextR c d i) := by
 have ho := h.ok
 unfold roundOk at ho
 rw [Bool.and_eq_true, decide_eq_false hk, Bool.false_or] at ho
 exact ⟨by rw [nextR_len]; exact h.len, ho.2⟩
theorem RSt.lst {c : Con} {N m i : Nat} {d : List (List Int)} (h : RSt c N (m + 1) i d) : listsB c d = true := by
 have ho := h.ok
 unfold roundOk at ho
 rw [Bool.and_eq_true] at ho
 exact ho.1
theorem F531.stepb (K : Conts) (rd : Int) (c : Con) (N : Nat) (n' m i : Nat) (ch : Bool) (d : List (List Int)) (hB : 101000 ≤ n') (hi : i + (m + 1) = N) (hst : RSt c N (m + 1) i d) :
  F531.l1_1_1_0_1_0_0_1_0_0_1_0_1_0b (n' + 1) K rd ch (i : Int) d c.1 c.2.1 c.2.2.1 c.2.2.2.1 c.2.2.2.2.1 c.2.2.2.2.2.1 c.2.2.2.2.2.2.1 c.2.2.2.2.2.2.2 =
   if (keepR c d i).length = 0 then K.ret ⟨slots 99 [(4, .nl), (5, .v .bool false)], []⟩ else F531.l1_1_1_0_1_0_0_1_0_0_1_0_1_0b n' K rd (ch || chgR c d i) ((i + 1 : Nat) : Int) (nextR c d i) c.1 c.2.1 c.2.2.1 c.2.2.2.1 c.2.2.2.2.1 c.2.2.2.2.2.1 c.2.2.2.2.2.2.1 c.2.2.2.2.2.2.2 := by
 have hb := hst.lst
 have hc := lst_iff.mp hb
 have hlen := hst.len
 have hid : i < d.length := by omega
 have hle := hc.le
 obtain ⟨e1, e2, e3⟩ := hc.eAt hid
 refine (F531.l1_1_1_0_1_0_0_1_0_0_1_0_1_0b_eq n' K rd ch (i : Int) d _ _ _ _ _ _ _ _).trans ((bT' (decide_eq_true (by omega))).trans ?_)
 refine (flt_loop (fun n j acc => F531.l1_1_1_0_1_0_0_1_0_0_1_0_1_0_0_1_0_0_1_0_1_0b n (F531.k_l1_1_1_0_1_0_0_1_0_0_1_0_1_0b n' K [1, 0, 0, 1, 0, 1, 0]) rd ch (i : Int) j d c.1 c.2.1 c.2.2.1 c.2.2.2.1 c.2.2.2.2.1 c.2.2.2.2.2.1 c.2.2.2.2.2.2.1 c.2.2.2.2.2.2.2 acc) (d.getD i []) (mayR c d (i : Int))
  (fun acc => if acc.length = 0 then K.ret ⟨slots 99 [(4, .nl), (5, .v .bool false)], []⟩ else F531.l1_1_1_0_1_0_0_1_0_0_1_0_1_0b n' K rd (ch || decide ((acc.length : Int) < ((d.getD i []).length : Int))) ((i + 1 : Nat) : Int) (d.set i acc) c.1 c.2.1 c.2.2.1 c.2.2.2.1 c.2.2.2.2.1 c.2.2.2.2.2.1 c.2.2.2.2.2.2.1 c.2.2.2.2.2.2.2)
  (by omega) (fun n j acc hj ha => ?_) (fun n acc ha => ?_) n' (by omega)).trans rfl
 ·have hm : mayRB c d (i : Int) ((d.getD i []).getD j 0) = true := by
   unfold mayRB
   rw [hb, inL2_nat hid, millIff.mpr (e3 _ (gD_mem hj 0))]
   rfl
  have lim : ∀ x : Int, decide ((acc.length + [x].length) * 8 ≤ LIM) = true := fun x => decide_eq_true (show (acc.length + 1) * 8 ≤ 140737488355328 by omega)
  refine (F531.l1_1_1_0_1_0_0_1_0_0_1_0_1_0_0_1_0_0_1_0_1_0b_eq n _ rd ch (i : Int) (j : Int) d _ _ _ _ _ _ _ _ acc).trans ((bT' (in_natC hid)).trans ?_)
  rw [Int.toNat_natCast, Int.toNat_natCast]
  refine (bT' (decide_eq_true (by omega))).trans ((bT' (in_natC hid)).trans ((bT' (in_natC hj)).trans ((bT' hm).trans ?_)))
  show (bif mayR c d (i : Int) ((d.getD i []).getD j 0) then _ else _) = _
  cases mayR c d (i : Int) ((d.getD i []).getD j 0) with
  | true => exact (bT' (in_natC hid)).trans ((bT' (in_natC hj)).trans (bT' (lim _)))
  | false => rfl
 ·refine (F531.l1_1_1_0_1_0_0_1_0_0_1_0_1_0_0_1_0_0_1_0_1_0b_eq n _ rd ch (i : Int) _ d _ _ _ _ _ _ _ _ acc).trans ((bT' (in_natC hid)).trans ?_)
  rw [Int.toNat_natCast]
  refine self_lt'.trans ((F531.c10 n' K rd ch (i : Int) d _ _ _ _ _ _ _ _ acc).trans ?_)
  by_cases hk : acc.length = 0
  ·rw [if_pos hk, decide_eq_true (show (acc.length : Int) = 0 by omega)]
   rfl
  ·rw [if_neg hk, decide_eq_false (show ¬ (acc.length : Int) = 0 by omega)]
   simp only [cond_false]
   have nx : ∀ ch' : Bool, F531.l1_1_1_0_1_0_0_1_0_0_1_0_1_0_0_1_0_0_1_1_1_1_1_0_1_0c n' (F531.k_l1_1_1_0_1_0_0_1_0_0_1_0_1_0b n' K [1, 0, 0, 1, 1, 1, 1, 1, 0, 1, 0]) rd ch' (i : Int) 0 d c.1 c.2.1 c.2.2.1 c.2.2.2.1 c.2.2.2.2.1 c.2.2.2.2.2.1 c.2.2.2.2.2.2.1 c.2.2.2.2.2.2.2 acc [] = F531.l1_1_1_0_1_0_0_1_0_0_1_0_1_0b n' K rd ch' ((i + 1 : Nat) : Int) (d.set i acc) c.1 c.2.1 c.2.2.1 c.2.2.2.1 c.2.2.2.2.1 c.2.2.2.2.2.1 c.2.2.2.2.2.2.1 c.2.2.2.2.2.2.2 := fun ch' => by
    refine set_loop (fun n k acc' => F531.l1_1_1_0_1_0_0_1_0_0_1_0_1_0_0_1_0_0_1_1_1_1_1_0_1_0c n (F531.k_l1_1_1_0_1_0_0_1_0_0_1_0_1_0b n' K [1, 0, 0, 1, 1, 1, 1, 1, 0, 1, 0]) rd ch' (i : Int) k d c.1 c.2.1 c.2.2.1 c.2.2.2.1 c.2.2.2.2.1 c.2.2.2.2.2.1 c.2.2.2.2.2.2.1 c.2.2.2.2.2.2.2 acc acc') (fun n k acc' => F531.l1_1_1_0_1_0_0_1_0_0_1_0_1_0_0_1_0_0_1_1_1_1_1_0_1_0d n (F531.k_l1_1_1_0_1_0_0_1_0_0_1_0_1_0b n' K [1, 0, 0, 1, 1, 1, 1, 1, 0, 1, 0]) rd ch' (i : Int) k d c.1 c.2.1 c.2.2.1 c.2.2.2.1 c.2.2.2.2.1 c.2.2.2.2.2.1 c.2.2.2.2.2.2.1 c.2.2.2.2.2.2.2 acc acc') d i acc
     (fun z => F531.l1_1_1_0_1_0_0_1_0_0_1_0_1_0b n' K rd ch' ((i + 1 : Nat) : Int) z c.1 c.2.1 c.2.2.1 c.2.2.2.1 c.2.2.2.2.1 c.2.2.2.2.2.1 c.2.2.2.2.2.2.1 c.2.2.2.2.2.2.2) hid hle
     (fun n k acc' hk hl => ?_) (fun n k acc' hk hl => ?_) (fun n acc' => ?_) n' (by omega)
    ·have lim : ∀ x : List Int, decide ((acc'.length + [x].length) * 24 ≤ LIM) = true := fun x => decide_eq_true (show (acc'.length + 1) * 24 ≤ 140737488355328 by omega)
     refine (F531.l1_1_1_0_1_0_0_1_0_0_1_0_1_0_0_1_0_0_1_1_1_1_1_0_1_0c_eq n _ rd ch' (i : Int) (k : Int) d _ _ _ _ _ _ _ _ acc acc').trans ((bT' (decide_eq_true (by omega))).trans ?_)
     by_cases e : k = i
     ·rw [if_pos e, decide_eq_true (show (k : Int) = (i : Int) by omega)]
      exact bT' (lim _)
     ·rw [if_neg e, decide_eq_false (show ¬ (k : Int) = (i : Int) by omega)]
      refine (bT' (in_natC hk)).trans ((bT' (lim _)).trans ?_)
      rw [Int.toNat_natCast]
    ·have lim : ∀ x : List Int, decide ((acc'.length + [x].length) * 24 ≤ LIM) = true := fun x => decide_eq_true (show (acc'.length + 1) * 24 ≤ 140737488355328 by omega)
     refine (F531.l1_1_1_0_1_0_0_1_0_0_1_0_1_0_0_1_0_0_1_1_1_1_1_0_1_0d_eq n _ rd ch' (i : Int) (k : Int) d _ _ _ _ _ _ _ _ acc acc').trans ((bT' (decide_eq_true (by omega))).trans ?_)
     by_cases e : k = i
     ·rw [if_pos e, decide_eq_true (show (k : Int) = (i : Int) by omega)]
      exact bT' (lim _)
     ·rw [if_neg e, decide_eq_false (show ¬ (k : Int) = (i : Int) by omega)]
      refine (bT' (in_natC hk)).trans ((bT' (lim _)).trans ?_)
      rw [Int.toNat_natCast]
    ·refine (F531.l1_1_1_0_1_0_0_1_0_0_1_0_1_0_0_1_0_0_1_1_1_1_1_0_1_0d_eq n _ rd ch' (i : Int) _ d _ _ _ _ _ _ _ _ acc acc').trans (self_lt'.trans ((F531.c13 n' K rd ch' (i : Int) _ _ _ _ _ _ _ _ acc').trans ?_))
     rw [wrap_succ (by omega)]
   cases ch with
   | true => exact nx true
   | false => exact (bT' (in_natC hid)).trans (by rw [Int.toNat_natCast]; exact nx _)
theorem F531.stepa (K : Conts) (rd : Int) (c : Con) (N : Nat) (n' m : Nat) (d : List (List Int)) (hB : 101000 ≤ n') (hi : m + 1 = N) (hst : RSt c N (m + 1) 0 d) :
  F531.l1_1_1_0_1_0_0_1_0_0_1_0_1_0 (n' + 1) K d rd false 0 c.1 c.2.1 c.2.2.1 c.2.2.2.1 c.2.2.2.2.1 c.2.2.2.2.2.1 c.2.2.2.2.2.2.1 c.2.2.2.2.2.2.2 =
   if (keepR c d 0).length = 0 then K.ret ⟨slots 99 [(4, .nl), (5, .v .bool false)], []⟩ else F531.l1_1_1_0_1_0_0_1_0_0_1_0_1_0b n' K rd (chgR c d 0) ((1 : Nat) : Int) (nextR c d 0) c.1 c.2.1 c.2.2.1 c.2.2.2.1 c.2.2.2.2.1 c.2.2.2.2.2.1 c.2.2.2.2.2.2.1 c.2.2.2.2.2.2.2 := by
 have hb := hst.lst
 have hc := lst_iff.mp hb
 have hlen := hst.len
 have hid : 0 < d.length := by omega
 have hle := hc.le
 obtain ⟨e1, e2, e3⟩ := hc.eAt hid
 have in0 : (decide ((0 : Int) ≤ 0) && decide ((0 : Int) < (d.length : Int))) = true := in_natC hid
 refine (F531.l1_1_1_0_1_0_0_1_0_0_1_0_1_0_eq n' K d rd false 0 _ _ _ _ _ _ _ _).trans ((bT' (decide_eq_true (by omega))).trans ?_)
 refine (flt_loop (fun n j acc => F531.l1_1_1_0_1_0_0_1_0_0_1_0_1_0_0_1_0_0_1_0_1_0 n (F531.k_l1_1_1_0_1_0_0_1_0_0_1_0_1_0 n' K [1, 0, 0, 1, 0, 1, 0]) d rd false 0 j c.1 c.2.1 c.2.2.1 c.2.2.2.1 c.2.2.2.2.1 c.2.2.2.2.2.1 c.2.2.2.2.2.2.1 c.2.2.2.2.2.2.2 acc) (d.getD 0 []) (mayR c d ((0 : Nat) : Int))
  (fun acc => if acc.length = 0 then K.ret ⟨slots 99 [(4, .nl), (5, .v .bool false)], []⟩ else F531.l1_1_1_0_1_0_0_1_0_0_1_0_1_0b n' K rd (decide ((acc.length : Int) < ((d.getD 0 []).length : Int))) ((1 : Nat) : Int) (d.set 0 acc) c.1 c.2.1 c.2.2.1 c.2.2.2.1 c.2.2.2.2.1 c.2.2.2.2.2.1 c.2.2.2.2.2.2.1 c.2.2.2.2.2.2.2)
  (by omega) (fun n j acc hj ha => ?_) (fun n acc ha => ?_) n' (by omega)).trans rfl
 ·have hm : mayRB c d 0 ((d.getD 0 []).getD j 0) = true := by
   unfold mayRB
   rw [hb, show inL2 d 0 = true from inL2_nat hid, millIff.mpr (e3 _ (gD_mem hj 0))]
   rfl
  have lim : ∀ x : Int, decide ((acc.length + [x].length) * 8 ≤ LIM) = true := fun x => decide_eq_true (show (acc.length + 1) * 8 ≤ 140737488355328 by omega)
  refine (F531.l1_1_1_0_1_0_0_1_0_0_1_0_1_0_0_1_0_0_1_0_1_0_eq n _ d rd false 0 (j : Int) _ _ _ _ _ _ _ _ acc).trans ((bT' in0).trans ?_)
  rw [Int.toNat_natCast]
  refine (bT' (decide_eq_true (by show (j : Int) < ((d.getD 0 []).length : Int); omega))).trans ((bT' in0).trans ((bT' (in_natC hj)).trans ((bT' hm).trans ?_)))
  show (bif mayR c d ((0 : Nat) : Int) ((d.getD 0 []).getD j 0) then _ else _) = _
  cases mayR c d ((0 : Nat) : Int) ((d.getD 0 []).getD j 0) with
  | true => exact (bT' in0).trans ((bT' (in_natC hj)).trans (bT' (lim _)))
  | false => rfl
 ·refine (F531.l1_1_1_0_1_0_0_1_0_0_1_0_1_0_0_1_0_0_1_0_1_0_eq n _ d rd false 0 _ _ _ _ _ _ _ _ _ acc).trans ((bT' in0).trans ?_)
  refine self_lt'.trans ((F531.c2 n' K d rd false 0 _ _ _ _ _ _ _ _ acc).trans ?_)
  by_cases hk : acc.length = 0
  ·rw [if_pos hk, decide_eq_true (show (acc.length : Int) = 0 by omega)]
   rfl
  ·rw [if_neg hk, decide_eq_false (show ¬ (acc.length : Int) = 0 by omega)]
   simp only [cond_false]
   refine (bT' in0).trans ?_
   refine set_loop (fun n k acc' => F531.l1_1_1_0_1_0_0_1_0_0_1_0_1_0_0_1_0_0_1_1_1_1_1_0_1_0 n (F531.k_l1_1_1_0_1_0_0_1_0_0_1_0_1_0 n' K [1, 0, 0, 1, 1, 1, 1, 1, 0, 1, 0]) d rd (decide ((acc.length : Int) < ((d.getD 0 []).length : Int))) 0 k c.1 c.2.1 c.2.2.1 c.2.2.2.1 c.2.2.2.2.1 c.2.2.2.2.2.1 c.2.2.2.2.2.2.1 c.2.2.2.2.2.2.2 acc acc') (fun n k acc' => F531.l1_1_1_0_1_0_0_1_0_0_1_0_1_0_0_1_0_0_1_1_1_1_1_0_1_0b n (F531.k_l1_1_1_0_1_0_0_1_0_0_1_0_1_0 n' K [1, 0, 0, 1, 1, 1, 1, 1, 0, 1, 0]) d rd (decide ((acc.length : Int) < ((d.getD 0 []).length : Int))) 0 k c.1 c.2.1 c.2.2.1 c.2.2.2.1 c.2.2.2.2.1 c.2.2.2.2.2.1 c.2.2.2.2.2.2.1 c.2.2.2.2.2.2.2 acc acc') d 0 acc
    (fun z => F531.l1_1_1_0_1_0_0_1_0_0_1_0_1_0b n' K rd (decide ((acc.length : Int) < ((d.getD 0 []).length : Int))) ((1 : Nat) : Int) z c.1 c.2.1 c.2.2.1 c.2.2.2.1 c.2.2.2.2.1 c.2.2.2.2.2.1 c.2.2.2.2.2.2.1 c.2.2.2.2.2.2.2) hid hle
    (fun n k acc' hk hl => ?_) (fun n k acc' hk hl => ?_) (fun n acc' => ?_) n' (by omega)
   ·have lim : ∀ x : List Int, decide ((acc'.length + [x].length) * 24 ≤ LIM) = true := fun x => decide_eq_true (show (acc'.length + 1) * 24 ≤ 140737488355328 by omega)
    refine (F531.l1_1_1_0_1_0_0_1_0_0_1_0_1_0_0_1_0_0_1_1_1_1_1_0_1_0_eq n _ d rd _ 0 (k : Int) _ _ _ _ _ _ _ _ acc acc').trans ((bT' (decide_eq_true (by omega))).trans ?_)
    by_cases e : k = 0
    ·rw [if_pos e, decide_eq_true (show (k : Int) = 0 by omega)]
     exact bT' (lim _)
    ·rw [if_neg e, decide_eq_false (show ¬ (k : Int) = 0 by omega)]
     refine (bT' (in_natC hk)).trans ((bT' (lim _)).trans ?_)
     rw [Int.toNat_natCast]
   ·have lim : ∀ x : List Int, decide ((acc'.length + [x].length) * 24 ≤ LIM) = true := fun x => decide_eq_true (show (acc'.length + 1) * 24 ≤ 140737488355328 by omega)
    refine (F531.l1_1_1_0_1_0_0_1_0_0_1_0_1_0_0_1_0_0_1_1_1_1_1_0_1_0b_eq n _ d rd _ 0 (k : Int) _ _ _ _ _ _ _ _ acc acc').trans ((bT' (decide_eq_true (by omega))).trans ?_)
    by_cases e : k = 0
    ·rw [if_pos e, decide_eq_true (show (k : Int) = 0 by omega)]
     exact bT' (lim _)
    ·rw [if_neg e, decide_eq_false (show ¬ (k : Int) = 0 by omega)]
     refine (bT' (in_natC hk)).trans ((bT' (lim _)).trans ?_)
     rw [Int.toNat_natCast]
   ·exact (F531.l1_1_1_0_1_0_0_1_0_0_1_0_1_0_0_1_0_0_1_1_1_1_1_0_1_0b_eq n _ d rd _ 0 _ _ _ _ _ _ _ _ _ acc acc').trans (self_lt'.trans (F531.c5 n' K rd _ 0 _ _ _ _ _ _ _ _ acc'))
theorem F531.rounds (K : Conts) (rd : Int) (c : Con) (N : Nat) : ∀ (m i n : Nat) (ch : Bool) (d : List (List Int)), i + m = N → m + 101000 < n → RSt c N m i d →
  F531.l1_1_1_0_1_0_0_1_0_0_1_0_1_0b n K rd ch (i : Int) d c.1 c.2.1 c.2.2.1 c.2.2.2.1 c.2.2.2.2.1 c.2.2.2.2.2.1 c.2.2.2.2.2.2.1 c.2.2.2.2.2.2.2 =
   bif (roundGo c m i ch d).2.2 then exitK K 2 ⟨slots 99 [(1, .own 0), (2, .pb 1 0), (7, .v (.int .i64) rd), (8, .v .bool (roundGo c m i ch d).2.1)], [.row 29 (.sl (.int .i64)) (roundGo c m i ch d).1, BoxC c]⟩ else K.ret ⟨slots 99 [(4, .nl), (5, .v .bool false)], []⟩ :=
 rnd_loop (fun n i ch d => F531.l1_1_1_0_1_0_0_1_0_0_1_0_1_0b n K rd ch i d c.1 c.2.1 c.2.2.1 c.2.2.2.1 c.2.2.2.2.1 c.2.2.2.2.2.1 c.2.2.2.2.2.2.1 c.2.2.2.2.2.2.2) (keepR c) (nextR c) (chgR c) (RSt c N) N 101000
  (fun ch d => exitK K 2 ⟨slots 99 [(1, .own 0), (2, .pb 1 0), (7, .v (.int .i64) rd), (8, .v .bool ch)], [.row 29 (.sl (.int .i64)) d, BoxC c]⟩) (fun _ => K.ret ⟨slots 99 [(4, .nl), (5, .v .bool false)], []⟩) (roundGo c) (fun _ _ _ => rfl) (fun _ _ _ _ => rfl)
  (fun n m i ch d hB hi hst => F531.stepb K rd c N n m i ch d hB hi hst) (fun m i d hst hk => hst.next hk)
  (fun n ch d hst => by
   have hl := hst.len
   refine (F531.l1_1_1_0_1_0_0_1_0_0_1_0_1_0b_eq n K rd ch _ d _ _ _ _ _ _ _ _).trans ?_
   rw [hl]
   exact self_lt')
theorem F531.outb (K : Conts) (c : Con) : ∀ (n : Nat) (d : List (List Int)) (rd : Int), rndOk c n d = true → 0 ≤ rd → rd + n ≤ 1000000 →
  F531.l1_1_1_0_1_0b (n + 110000) K rd d c.1 c.2.1 c.2.2.1 c.2.2.2.1 c.2.2.2.2.1 c.2.2.2.2.2.1 c.2.2.2.2.2.2.1 c.2.2.2.2.2.2.2 =
   bif (rndGo c n d).2 then K.ret ⟨slots 99 [(4, .own 0), (5, .v .bool true)], [.row 29 (.sl (.int .i64)) (rndGo c n d).1]⟩ else K.ret ⟨slots 99 [(4, .nl), (5, .v .bool false)], []⟩
 | 0, d, rd, h, _, _ => by simp [rndOk] at h
 | n + 1, d, rd, h, h0, h1 => by
  unfold rndOk at h
  rw [Bool.and_eq_true, Bool.and_eq_true] at h
  obtain ⟨⟨hp, hr⟩, h2⟩ := h
  have hp := of_decide_eq_true hp
  have hN : d.length ≤ 1000 := by
   obtain ⟨m, hm⟩ : ∃ m, d.length = m + 1 := ⟨d.length - 1, by omega⟩
   rw [hm] at hr
   exact (lst_iff.mp (RSt.lst (N := d.length) (m := m) (i := 0) ⟨rfl, hr⟩)).le
  rw [show n + 1 + 110000 = (n + 110000) + 1 by omega]
  refine (F531.l1_1_1_0_1_0b_eq (n + 110000) K rd d _ _ _ _ _ _ _ _).trans ((bT' (decide_eq_true (by omega))).trans ?_)
  refine (F531.rounds _ rd c d.length d.length 0 (n + 110000) false d (by omega) (by omega) ⟨rfl, hr⟩).trans ?_
  show (bif (roundR c d).2.2 then exitK _ 2 ⟨slots 99 [(1, .own 0), (2, .pb 1 0), (7, .v (.int .i64) rd), (8, .v .bool (roundR c d).2.1)], [.row 29 (.sl (.int .i64)) (roundR c d).1, BoxC c]⟩ else _) = (bif (bif !(roundR c d).2.2 then ([], false) else bif !(roundR c d).2.1 then ((roundR c d).1, true) else rndGo c n (roundR c d).1).2 then K.ret ⟨slots 99 [(4, .own 0), (5, .v .bool true)], [.row 29 (.sl (.int .i64)) (bif !(roundR c d).2.2 then ([], false) else bif !(roundR c d).2.1 then ((roundR c d).1, true) else rndGo c n (roundR c d).1).1]⟩ else _)
  cases hq : (roundR c d).2.2 with
  | false => exact F531.c16 (n + 110000) K
  | true =>
   rw [hq] at h2
   simp only [cond_true, cond_false, Bool.not_true]
   refine (F531.c17 (n + 110000) K rd _ _ _ _ _ _ _ _ _ _).trans ?_
   cases hp2 : (roundR c d).2.1 with
   | false => rfl
   | true =>
    rw [hp2] at h2
    simp only [cond_false, Bool.not_true]
    rw [wrap_ok (by omega) (by omega)]
    exact F531.outb K c n _ (rd + 1) h2 (by omega) (by omega)
theorem rndGo_no (c : Con) : ∀ (n : Nat) (d : List (List Int)), (rndGo c n d).2 = false → rndGo c n d = ([], false)
 | 0, d, _ => rfl
 | n + 1, d, h => by
  revert h
  show (bif !(roundR c d).2.2 then ([], false) else bif !(roundR c d).2.1 then ((roundR c d).1, true) else rndGo c n (roundR c d).1).2 = false → (bif !(roundR c d).2.2 then ([], false) else bif !(roundR c d).2.1 then ((roundR c d).1, true) else rndGo c n (roundR c d).1) = ([], false)
  cases (roundR c d).2.2 with
  | false => exact fun _ => rfl
  | true =>
   cases (roundR c d).2.1 with
   | false => exact fun h => by simp at h
   | true => exact fun h => rndGo_no c n _ h
theorem F531.outa (K : Conts) (c : Con) (n : Nat) (d : List (List Int)) (h : rndOk c n d = true) (hn : n ≤ 1000000) :
  F531.l1_1_1_0_1_0 (n + 110000) K d 0 c.1 c.2.1 c.2.2.1 c.2.2.2.1 c.2.2.2.2.1 c.2.2.2.2.2.1 c.2.2.2.2.2.2.1 c.2.2.2.2.2.2.2 =
   bif (rndGo c n d).2 then K.ret ⟨slots 99 [(4, .own 0), (5, .v .bool true)], [.row 29 (.sl (.int .i64)) (rndGo c n d).1]⟩ else K.ret ⟨slots 99 [(4, .nl), (5, .v .bool false)], []⟩ := by
 cases n with
 | zero => simp [rndOk] at h
 | succ n =>
  unfold rndOk at h
  rw [Bool.and_eq_true, Bool.and_eq_true] at h
  obtain ⟨⟨hp, hr⟩, h2⟩ := h
  have hp := of_decide_eq_true hp
  obtain ⟨m, hm⟩ : ∃ m, d.length = m + 1 := ⟨d.length - 1, by omega⟩
  have hr' := hr
  rw [hm] at hr'
  have hst : RSt c d.length (m + 1) 0 d := ⟨rfl, hr'⟩
  have hN := (lst_iff.mp hst.lst).le
  rw [show n + 1 + 110000 = (n + 109999 + 1) + 1 by omega]
  refine (F531.l1_1_1_0_1_0_eq (n + 109999 + 1) K d 0 _ _ _ _ _ _ _ _).trans ((bT' rfl).trans ?_)
  refine (F531.stepa _ 0 c d.length (n + 109999) m d (by omega) (by omega) hst).trans ?_
  have hgo : roundR c d = if (keepR c d 0).length = 0 then (d, false, false) else roundGo c m 1 (chgR c d 0) (nextR c d 0) := by
   unfold roundR
   rw [hm]
   show (if (keepR c d 0).length = 0 then (d, false, false) else roundGo c m 1 (false || chgR c d 0) (nextR c d 0)) = _
   rw [Bool.false_or]
  show _ = (bif (bif !(roundR c d).2.2 then ([], false) else bif !(roundR c d).2.1 then ((roundR c d).1, true) else rndGo c n (roundR c d).1).2 then K.ret ⟨slots 99 [(4, .own 0), (5, .v .bool true)], [.row 29 (.sl (.int .i64)) (bif !(roundR c d).2.2 then ([], false) else bif !(roundR c d).2.1 then ((roundR c d).1, true) else rndGo c n (roundR c d).1).1]⟩ else _)
  by_cases hk : (keepR c d 0).length = 0
  ·rw [if_pos hk] at hgo ⊢
   rw [hgo]
   exact F531.c4 (n + 109999 + 1) K
  ·rw [if_neg hk] at hgo ⊢
   refine (F531.rounds _ 0 c d.length m 1 (n + 109999) (chgR c d 0) (nextR c d 0) (by omega) (by omega) (hst.next hk)).trans ?_
   rw [← hgo]
   cases hq : (roundR c d).2.2 with
   | false => exact F531.c4 (n + 109999 + 1) K
   | true =>
    rw [hq] at h2
    simp only [cond_true, cond_false, Bool.not_true]
    refine (F531.c7 (n + 109999 + 1) K 0 _ _ _ _ _ _ _ _ _ _).trans ?_
    have w : IntKind.i64.wrap ((0 : Int) + 1) = 1 := by decide
    rw [w]
    generalize hm9 : n + 109999 + 1 = m9
    have hm9 : m9 = n + 110000 := by omega
    cases hp2 : (roundR c d).2.1 with
    | false => simp only [Bool.not_false, cond_true]
    | true =>
     rw [hp2] at h2
     simp only [cond_false, Bool.not_true]
     rw [hm9]
     exact F531.outb K c n (roundR c d).1 1 h2 (by omega) (by omega)
theorem F531.semN (n : Nat) (hn : n ≤ 1000000) (c : Con) (d : List (List Int)) (h : cumRBn n c d = true) : ∃ r, callW F531.E false F531.fn (n + 110000) [.agg (explode ConT c), .v (.sl (.sl (.int .i64))) d] = some r ∧ WA r (.tup [.v (.sl (.sl (.int .i64))) (cumRn n c d).1, .v .bool (cumRn n c d).2]) := by
 unfold cumRBn at h
 rw [Bool.and_eq_true] at h
 have no : WA (.tup [.nl, .v .bool false]) (.tup [.v (.sl (.sl (.int .i64))) ([] : List (List Int)), .v .bool false]) := .tup (.cons (.one (by simp) (.nl (.sl (.int .i64)))) (.cons (.one (by simp) (.same _)) .nil))
 unfold cumRn
 have st := (F531.start_eq (n + 110000) c d).trans (bT' h.1)
 have h2 := h.2
 cases hf : fitsR c d 19 19 with
 | false => exact ⟨_, st.trans (by rw [hf]; rfl), no⟩
 | true =>
  rw [hf] at h2
  have h2 : rndOk c n d = true := by simpa using h2
  have st := st.trans ((bF' (by rw [hf]; rfl)).trans (F531.outa _ c n d h2 hn))
  cases hq : (rndGo c n d).2 with
  | true =>
   rw [hq] at st
   refine ⟨_, st.trans (F531.c11 _ _), ?_⟩
   show WA _ (.tup [.v (.sl (.sl (.int .i64))) (rndGo c n d).1, .v .bool (rndGo c n d).2])
   rw [hq]
   exact WA.refl _
  | false =>
   rw [hq] at st
   refine ⟨_, st.trans (F531.c6 _), ?_⟩
   show WA _ (.tup [.v (.sl (.sl (.int .i64))) (rndGo c n d).1, .v .bool (rndGo c n d).2])
   rw [rndGo_no c n d hq]
   exact no
end Go.Proofs.YtdihbphkbdelbaaGreatDoor.Ev
