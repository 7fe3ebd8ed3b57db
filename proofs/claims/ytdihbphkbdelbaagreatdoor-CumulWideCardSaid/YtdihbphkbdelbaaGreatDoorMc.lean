/-
Tasks that share what there is: what the functions answer: what runs for sure, the load, the times, whether a task may begin.
Conditions: the constraint's lists are as long as there are domains; all numbers are small.
-/
import Derived.Test.YtdihbphkbdelbaaGreatDoorMb
import Derived.Test.YtdihbphkbdelbaaGreatDoorDz
import Derived.Test.YtdihbphkbdelbaaGreatDoorAz
set_option linter.unusedVariables false
set_option linter.unusedSimpArgs false
set_option maxRecDepth 100000
namespace Go.Proofs.YtdihbphkbdelbaaGreatDoor.Ev
open Go
structure Cum (c : Con) (d : List Dom) : Prop where
  cl : c.2.2.2.1.length = d.length
  dl : c.2.2.2.2.1.length = d.length
  le : d.length ≤ 1000
  cp : ∀ k ∈ c.2.2.2.1, 0 ≤ k ∧ k ≤ 1000000
  dp : ∀ k ∈ c.2.2.2.2.1, 0 ≤ k ∧ k ≤ 1000000
  en : ∀ x ∈ d, (-1000000 ≤ minD x ∧ minD x ≤ 1000000) ∧ (-1000000 ≤ maxD x ∧ maxD x ≤ 1000000)
  K : 0 ≤ c.2.2.2.2.2.2.1 ∧ c.2.2.2.2.2.2.1 ≤ 10000000000
theorem cum_iff {c : Con} {d : List Dom} : cumB c d = true ↔ Cum c d := by
 unfold cumB
 simp only [Bool.and_eq_true, decide_eq_true_eq, List.all_eq_true, posIff, Nat.ble_eq, endsB, millIff]
 constructor
 ·rintro ⟨⟨⟨⟨⟨⟨h1, h2⟩, h3⟩, h4⟩, h5⟩, h6⟩, h7⟩
  exact ⟨h1, h2, h3, h4, h5, h6, h7⟩
 ·rintro ⟨h1, h2, h3, h4, h5, h6, h7⟩
  exact ⟨⟨⟨⟨⟨⟨h1, h2⟩, h3⟩, h4⟩, h5⟩, h6⟩, h7⟩
theorem inI_nat {d : List Dom} {k : Nat} (h : k < d.length) : inI d (k : Int) = true := in_natC h
theorem inI_iff {d : List Dom} {i : Int} : inI d i = true ↔ 0 ≤ i ∧ i < d.length := by unfold inI; simp
section
variable {c : Con} {d : List Dom} (h : Cum c d)
include h
theorem Cum.cAt {k : Nat} (hk : k < d.length) : 0 ≤ c.2.2.2.1.getD k 0 ∧ c.2.2.2.1.getD k 0 ≤ 1000000 := h.cp _ (gD_mem (by rw [h.cl]; exact hk) 0)
theorem Cum.dAt {k : Nat} (hk : k < d.length) : 0 ≤ c.2.2.2.2.1.getD k 0 ∧ c.2.2.2.2.1.getD k 0 ≤ 1000000 := h.dp _ (gD_mem (by rw [h.dl]; exact hk) 0)
theorem Cum.eAt {k : Nat} (hk : k < d.length) : (-1000000 ≤ minD (d.getD k dom0) ∧ minD (d.getD k dom0) ≤ 1000000) ∧ (-1000000 ≤ maxD (d.getD k dom0) ∧ maxD (d.getD k dom0) ≤ 1000000) := h.en _ (gD_mem hk dom0)
theorem Cum.sure {k : Nat} (hk : k < d.length) : -1000000 ≤ sureE c d (k : Int) ∧ sureE c d (k : Int) ≤ 2000000 := by
 have h1 := h.cAt hk
 have h2 := h.eAt hk
 unfold sureE
 rw [Int.toNat_natCast]
 omega
end
theorem F690.sem (k : Nat) (c : Con) (d : List Dom) (i : Int) (h : (cumB c d && inI d i) = true) : callW F690.E false F690.fn k [.agg (explode ConT c), .v (.sl DomT) d, .v (.int .i64) i] = some (.tup [.v (.int .i64) (maxD (d.getD i.toNat dom0)), .v (.int .i64) (sureE c d i)]) := by
 rw [Bool.and_eq_true, cum_iff, inI_iff] at h
 obtain ⟨hc, h0, h1⟩ := h
 refine (F690.start_eq k c d i).trans ?_
 have e1 : (decide (0 ≤ i) && decide (i < (d.length : Int))) = true := by simp [h0, h1]
 have e2 : (decide (0 ≤ i) && decide (i < (c.2.2.2.1.length : Int))) = true := by
  have := hc.cl
  simp only [h0, decide_true, Bool.true_and, decide_eq_true_eq]
  omega
 rw [e1, e2]
 simp only [cond_true]
 have hk : i.toNat < d.length := by omega
 have b1 := hc.cAt hk
 have b2 := hc.eAt hk
 have e3 : IntKind.i64.wrap (minD (d.getD i.toNat dom0) + c.2.2.2.1.getD i.toNat 0) = sureE c d i := wrap_ok (by omega) (by omega)
 exact congrArg (fun x => some (AV.tup [.v (.int .i64) (maxD (d.getD i.toNat dom0)), .v (.int .i64) x])) e3
def loadT (c : Con) (d : List Dom) (i t : Int) (k : Nat) : Int := bif !(decide ((k : Int) = i)) && (decide (maxD (d.getD k dom0) ≤ t) && decide (t < sureE c d (k : Int))) then c.2.2.2.2.1.getD k 0 else 0
theorem goN_load (c : Con) (d : List Dom) (i t : Int) : ∀ (n k : Nat) (acc : Int), goN (fun k acc => acc + loadT c d i t k) n k acc = acc + loadI c d i t n k
 | 0, _, acc => by simp [goN, loadI]
 | n + 1, k, acc => by
  show goN _ n (k + 1) (acc + loadT c d i t k) = _
  rw [goN_load c d i t n (k + 1)]
  show acc + loadT c d i t k + loadI c d i t n (k + 1) = acc + (loadT c d i t k + loadI c d i t n (k + 1))
  omega
theorem loadT_range {c : Con} {d : List Dom} (h : Cum c d) (i t : Int) {k : Nat} (hk : k < d.length) : 0 ≤ loadT c d i t k ∧ loadT c d i t k ≤ 1000000 := by
 have := h.dAt hk
 unfold loadT
 cases !(decide ((k : Int) = i)) && (decide (maxD (d.getD k dom0) ≤ t) && decide (t < sureE c d (k : Int))) with
 | true => exact this
 | false => exact ⟨Int.le_refl _, (by decide : (0 : Int) ≤ 1000000)⟩
theorem loadI_range {c : Con} {d : List Dom} (h : Cum c d) (i t : Int) : ∀ (n k : Nat), k + n ≤ d.length → 0 ≤ loadI c d i t n k ∧ loadI c d i t n k ≤ 1000000 * n
 | 0, _, _ => ⟨Int.le_refl _, by show (0 : Int) ≤ _; omega⟩
 | n + 1, k, hk => by
  have h1 := loadT_range h i t (k := k) (by omega)
  have h2 := loadI_range h i t n (k + 1) (by omega)
  show 0 ≤ loadT c d i t k + loadI c d i t n (k + 1) ∧ loadT c d i t k + loadI c d i t n (k + 1) ≤ _
  omega
theorem loadD_range {c : Con} {d : List Dom} (h : Cum c d) (i t : Int) : 0 ≤ loadD c d i t ∧ loadD c d i t ≤ 1000000000 := by
 have h1 := loadI_range h i t d.length 0 (by omega)
 have h2 := h.le
 unfold loadD
 omega
theorem F673.sem (c : Con) (d : List Dom) (i t : Int) (h : cumB c d = true) : callW F673.E false F673.fn 1002 [.agg (explode ConT c), .v (.sl DomT) d, .v (.int .i64) i, .v (.int .i64) t] = some (.v (.int .i64) (loadD c d i t)) := by
 have hc := cum_iff.mp h
 have hle := hc.le
 have hdl := hc.dl
 refine (F673.start_eq 1002 c d i t).trans ?_
 have lp := idx_loop (fun n k acc => F673.l1_1_0_1_0 n (F673.kt 1002 [1, 1, 0, 1, 0]) d i t acc (d.length : Int) k c.1 c.2.1 c.2.2.1 c.2.2.2.1 c.2.2.2.2.1 c.2.2.2.2.2.1 c.2.2.2.2.2.2.1 c.2.2.2.2.2.2.2) (fun acc => some (.v (.int .i64) acc)) d.length (fun k acc => acc + loadT c d i t k) (fun k acc => 0 ≤ acc ∧ acc ≤ 1000000 * (k : Int)) 0
  (fun n k acc _ hk ha => by
   have b := loadT_range hc i t hk
   refine ⟨⟨by omega, by omega⟩, ?_⟩
   refine (F673.l1_1_0_1_0_eq n _ d i t acc _ (k : Int) _ _ _ _ _ _ _ _).trans ((bT' (decide_eq_true (by omega))).trans ((bT' (by
    show (cumB c d && inI d (k : Int)) = true
    rw [h, inI_nat hk]; rfl)).trans ?_))
   have ws := wrap_succ (i := k) (by omega)
   rw [ws]
   have e0 : acc + 0 = acc := by omega
   show (bif !(decide ((k : Int) = i)) then (bif decide (maxD (d.getD (k : Int).toNat dom0) ≤ t) then (bif decide (t < sureE c d (k : Int)) then _ else _) else _) else _) = F673.l1_1_0_1_0 n _ d i t (acc + loadT c d i t k) _ _ _ _ _ _ _ _ _ _
   rw [Int.toNat_natCast]
   unfold loadT at b ⊢
   cases !(decide ((k : Int) = i)) with
   | false => simp only [Bool.false_and, cond_false, e0]
   | true =>
    cases decide (maxD (d.getD k dom0) ≤ t) with
    | false => simp only [Bool.true_and, Bool.false_and, cond_true, cond_false, e0]
    | true =>
     cases decide (t < sureE c d (k : Int)) with
     | false => simp only [Bool.true_and, cond_true, cond_false, e0]
     | true =>
      simp only [Bool.true_and, cond_true] at b ⊢
      refine (bT' (in_natC (by rw [hdl]; exact hk))).trans ?_
      rw [wrap_ok (by have := hc.dAt hk; omega) (by have := hc.dAt hk; omega)])
  (fun n acc _ _ => (F673.l1_1_0_1_0_eq n _ d i t acc _ _ _ _ _ _ _ _ _ _).trans (self_lt'.trans (F673.c0 1002 acc)))
  d.length 0 1002 0 (by omega) (by omega) ⟨by omega, by omega⟩
 refine lp.trans ?_
 rw [goN_load]
 exact congrArg (fun (x : Int) => some (AV.v (.int .i64) x)) (Int.zero_add (loadD c d i t))
def timesT (c : Con) (d : List Dom) (i s : Int) (k : Nat) : List Int := bif !(decide ((k : Int) = i)) && (decide (maxD (d.getD k dom0) < sureE c d (k : Int)) && (decide (maxD (d.getD k dom0) > s) && decide (maxD (d.getD k dom0) < s + c.2.2.2.1.getD i.toNat 0))) then [maxD (d.getD k dom0)] else []
theorem goN_times (c : Con) (d : List Dom) (i s : Int) : ∀ (n k : Nat) (acc : List Int), goN (fun k acc => acc ++ timesT c d i s k) n k acc = acc ++ timesI c d i s n k
 | 0, _, acc => by simp [goN, timesI]
 | n + 1, k, acc => by
  show goN _ n (k + 1) (acc ++ timesT c d i s k) = _
  rw [goN_times c d i s n (k + 1), List.append_assoc]
  rfl
theorem timesT_len (c : Con) (d : List Dom) (i s : Int) (k : Nat) : (timesT c d i s k).length ≤ 1 := by
 unfold timesT
 cases !(decide ((k : Int) = i)) && (decide (maxD (d.getD k dom0) < sureE c d (k : Int)) && (decide (maxD (d.getD k dom0) > s) && decide (maxD (d.getD k dom0) < s + c.2.2.2.1.getD i.toNat 0))) <;> simp
theorem F671.sem (c : Con) (d : List Dom) (i s : Int) (h : mayB c d i s = true) : callW F671.E false F671.fn 1002 [.agg (explode ConT c), .v (.sl DomT) d, .v (.int .i64) i, .v (.int .i64) s] = some (.v (.sl (.int .i64)) (timesD c d i s)) := by
 unfold mayB at h
 rw [Bool.and_eq_true, Bool.and_eq_true, inI_iff, millIff] at h
 obtain ⟨⟨h, hi0, hi1⟩, hs0, hs1⟩ := h
 have hc := cum_iff.mp h
 have hle := hc.le
 have hcl := hc.cl
 have hi : i.toNat < d.length := by omega
 have bi := hc.cAt hi
 have wi : IntKind.i64.wrap (s + c.2.2.2.1.getD i.toNat 0) = s + c.2.2.2.1.getD i.toNat 0 := wrap_ok (by omega) (by omega)
 have ei : (decide (0 ≤ i) && decide (i < (c.2.2.2.1.length : Int))) = true := by
  simp only [hi0, decide_true, Bool.true_and, decide_eq_true_eq]
  omega
 refine (F671.start_eq 1002 c d i s).trans ?_
 have lp := idx_loop (fun n k acc => F671.l1_1_0_1_0 n (F671.kt 1002 [1, 1, 0, 1, 0]) d i s (d.length : Int) k c.1 c.2.1 c.2.2.1 c.2.2.2.1 c.2.2.2.2.1 c.2.2.2.2.2.1 c.2.2.2.2.2.2.1 c.2.2.2.2.2.2.2 acc) (fun acc => some (.v (.sl (.int .i64)) acc)) d.length (fun k acc => acc ++ timesT c d i s k) (fun k acc => acc.length ≤ k + 1) 0
  (fun n k acc _ hk ha => by
   have b := timesT_len c d i s k
   refine ⟨by rw [List.length_append]; omega, ?_⟩
   refine (F671.l1_1_0_1_0_eq n _ d i s _ (k : Int) _ _ _ _ _ _ _ _ acc).trans ((bT' (decide_eq_true (by omega))).trans ((bT' (by
    show (cumB c d && inI d (k : Int)) = true
    rw [h, inI_nat hk]; rfl)).trans ?_))
   have ws := wrap_succ (i := k) (by omega)
   rw [ws, wi]
   have e0 : acc ++ [] = acc := List.append_nil acc
   have lim : ∀ x : Int, decide ((acc.length + [x].length) * 8 ≤ LIM) = true := fun x => decide_eq_true (show (acc.length + 1) * 8 ≤ 140737488355328 by omega)
   show (bif !(decide ((k : Int) = i)) then (bif decide (maxD (d.getD (k : Int).toNat dom0) < sureE c d (k : Int)) then (bif decide (maxD (d.getD (k : Int).toNat dom0) > s) then _ else _) else _) else _) = F671.l1_1_0_1_0 n _ d i s _ _ _ _ _ _ _ _ _ _ (acc ++ timesT c d i s k)
   rw [Int.toNat_natCast]
   unfold timesT
   cases !(decide ((k : Int) = i)) with
   | false => simp only [Bool.false_and, cond_false, e0]
   | true =>
    cases decide (maxD (d.getD k dom0) < sureE c d (k : Int)) with
    | false => simp only [Bool.true_and, Bool.false_and, cond_true, cond_false, e0]
    | true =>
     cases decide (maxD (d.getD k dom0) > s) with
     | false => simp only [Bool.true_and, Bool.false_and, cond_true, cond_false, e0]
     | true =>
      simp only [Bool.true_and, cond_true]
      refine (bT' ei).trans ?_
      cases decide (maxD (d.getD k dom0) < s + c.2.2.2.1.getD i.toNat 0) with
      | false => simp only [cond_false, e0]
      | true =>
       simp only [cond_true]
       exact bT' (lim _))
  (fun n acc _ _ => (F671.l1_1_0_1_0_eq n _ d i s _ _ _ _ _ _ _ _ _ _ acc).trans (self_lt'.trans (F671.c0 1002 acc)))
  d.length 0 1002 [s] (by omega) (by omega) (by simp)
 refine lp.trans ?_
 rw [goN_times]
 rfl
theorem F672.sem (k : Nat) (t : Int) (c : Con) (d : List Dom) (i : Int) (h : (cumB c d && inI d i) = true) : callW F672.E false F672.fn k [.v (.int .i64) t, .rp (explode ConT c), .rp [.v (.sl DomT) d], .rp [.v (.int .i64) i]] = some (.v .bool (overD c d i t)) := by
 rw [Bool.and_eq_true, inI_iff] at h
 obtain ⟨h, h0, h1⟩ := h
 have hc := cum_iff.mp h
 have hi : i.toNat < d.length := by omega
 have b1 := hc.dAt hi
 have b2 := loadD_range hc i t
 have hdl := hc.dl
 refine (F672.start_eq k t c d i).trans ((bT' h).trans ((bT' ?_).trans ?_))
 ·simp only [h0, decide_true, Bool.true_and, decide_eq_true_eq]
  omega
 ·rw [wrap_ok (by omega) (by omega)]
  rfl
theorem F631.sem (k : Nat) (c : Con) (d : List Dom) (i s : Int) (h : mayB c d i s = true) : callW F631.E false F631.fn k [.agg (explode ConT c), .v (.sl DomT) d, .v (.int .i64) i, .v (.int .i64) s] = some (.v .bool (mayD c d i s)) := by
 have h' := h
 unfold mayB at h
 rw [Bool.and_eq_true, Bool.and_eq_true] at h
 obtain ⟨⟨h1, h2⟩, h3⟩ := h
 have hi := inI_iff.mp h2
 have hcl := (cum_iff.mp h1).cl
 refine (F631.start_eq k c d i s).trans ((bT' ?_).trans ?_)
 ·simp only [hi.1, decide_true, Bool.true_and, decide_eq_true_eq]
  omega
 ·unfold mayD
  cases decide (c.2.2.2.1.getD i.toNat 0 = 0) with
  | true => rfl
  | false =>
   simp only [cond_false]
   exact (bT' h').trans (bT' (by rw [h1, h2]; rfl))
end Go.Proofs.YtdihbphkbdelbaaGreatDoor.Ev
