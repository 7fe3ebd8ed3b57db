/-
GroundTurns, GroundOrder: what the laws' functions answer.
Conditions: the kind of what is made is a byte.
-/
import Derived.Test.YtohdaehblenokaaHg
import Derived.Test.YtohdaehblenokaaHf
import Derived.Test.YtohdaehblenokaaCn
import Derived.Test.YtohdaehblenokaaHl
set_option linter.unusedVariables false
set_option linter.unusedSimpArgs false
set_option maxRecDepth 100000
namespace Go.Proofs.Ytohdaehblenokaa.Ev
open Go Go.RowKit
theorem lim_g {n c : Nat} (h : n ≤ 2000) (hc : c ≤ 24) : decide ((0 + n) * c ≤ LIM) = true := decide_eq_true (by
 have h1 : (0 + n) * c ≤ 2000 * 24 := Nat.mul_le_mul (by omega) hc
 have h2 : 2000 * 24 ≤ LIM := by decide
 omega)
theorem F517.sem (k : Nat) (l : List Int) (hne : l ≠ []) (h : l.length ≤ 2000) : callW F517.E true F517.fn k [.v (.sl (.int .i64)) l] = some (.nw 3 (.int .i64) l) :=
 (F517.start_eq k l).trans ((bT' (by rw [decide_eq_false (fun e => hne (List.length_eq_zero_iff.mp e))]; rfl)).trans (bT' (lim_g h (by decide))))
theorem F318.sem (k : Nat) (l : List (List Int)) (hne : l ≠ []) (h : l.length ≤ 2000) : callW F318.E true F318.fn k [.v (.sl (.sl (.int .i64))) l] = some (.nw 27 (.sl (.int .i64)) l) :=
 (F318.start_eq k l).trans ((bT' (by rw [decide_eq_false (fun e => hne (List.length_eq_zero_iff.mp e))]; rfl)).trans (bT' (lim_g h (by decide))))
theorem F517.eok : EOk Go.Proofs.Try.prog F517.E := eo calls_nil
theorem ok517 : HandOk Go.Proofs.Try.prog inv 14 h_cloneI := hand_if fun xs hc => by
 obtain ⟨l, u⟩ := xs
 have hl := Nat.le_of_ble_eq_true hc
 cases l with
 | nil => exact cloneI_empty
 | cons x y => exact callW_ok (own := true) (k := 1) F517.eok mixed Go.Proofs.Try.func14 (by kernel_rfl) (show Go.Proofs.Try.f14.body = some (bodyOf Go.Proofs.Try.f14) by kernel_rfl) (F517.sem 1 (x :: y) (by simp) (Nat.le_trans hl (by decide)))
theorem F318.eok : EOk Go.Proofs.Try.prog F318.E := eo calls_nil
theorem ok318 : HandOk Go.Proofs.Try.prog inv 16 h_cloneR := hand_if fun xs hc => by
 obtain ⟨l, u⟩ := xs
 have hl := Nat.le_of_ble_eq_true hc
 cases l with
 | nil => exact cloneR_empty
 | cons x y => exact callW_ok (own := true) (k := 1) F318.eok mixed Go.Proofs.Try.func16 (by kernel_rfl) (show Go.Proofs.Try.f16.body = some (bodyOf Go.Proofs.Try.f16) by kernel_rfl) (F318.sem 1 (x :: y) (by simp) (Nat.le_trans hl (by decide)))
theorem F727.sem (k : Nat) (l : List Int) (h : Nat.ble l.length 1000 = true) : callW F727.E false F727.fn k [.v (.sl (.int .i64)) l] = some (.v (.sl (.int .i64)) l.reverse) :=
 (F727.start_eq k l).trans ((bT' h).trans (bT' (Nat.ble_eq_true_of_le (by have := Nat.le_of_ble_eq_true h; omega))))
theorem F727.eok : EOk Go.Proofs.Try.prog F727.E := ⟨tyOk_of tt_ok, (calls_cons ok517 calls_nil), keep_inv, mcalls_cons okM728 mcalls_nil⟩
theorem ok727 : HandOk Go.Proofs.Try.prog inv 13 h_backL := hand_if fun xs hc => callW_ok (own := false) (k := 1) F727.eok mixed Go.Proofs.Try.func13 (by kernel_rfl) (show Go.Proofs.Try.f13.body = some (bodyOf Go.Proofs.Try.f13) by kernel_rfl) (F727.sem 1 xs.1 hc)
theorem lin_ok {z : Small} (hz : U8s z.2.1) : LinOk (placesL z.2.1 (nA z.2.1) 5) (numbersL z.2.2.2.1 0 (nA z.2.1) (-1) 5) ((IntKind.i64.wrap z.2.2.2.2.1).tmod 12) := by
 have hn := nA_range z.2.1
 refine ⟨by rw [places_length]; omega, by rw [places_length]; omega, by rw [numbers_length, places_length], ?_, ?_, ?_⟩
 ·intro v hv
  unfold placesL at hv
  obtain ⟨i, hi, rfl⟩ := List.mem_map.mp hv
  have h0 : (0 : Int) ≤ (if i < z.2.1.length then IntKind.i64.wrap (z.2.1.getD i 0) else (i : Int)) := by
   by_cases h : i < z.2.1.length
   ·rw [if_pos h, get_of h]
    have := hz _ (List.getElem_mem h)
    rw [wrap_ok (by omega) (by omega)]
    exact this.1
   ·rw [if_neg h]
    omega
  generalize (if i < z.2.1.length then IntKind.i64.wrap (z.2.1.getD i 0) else (i : Int)) = w at h0
  rw [Int.tmod_eq_emod_of_nonneg h0]
  exact ⟨Int.emod_nonneg _ (by decide), Int.emod_lt_of_pos _ (by decide)⟩
 ·intro v hv
  unfold numbersL at hv
  obtain ⟨i, hi, rfl⟩ := List.mem_map.mp hv
  generalize (if (0 : Int) + (i : Int) < (z.2.2.2.1.length : Int) then IntKind.i64.wrap (z.2.2.2.1.getD ((0 : Int) + (i : Int)).toNat 0) else 1) = w
  unfold numR
  rw [if_neg (by omega)]
  have := tmod_abs (v := w) (w := 5) (by decide)
  omega
 ·have := tmod_abs (v := IntKind.i64.wrap z.2.2.2.2.1) (w := 12) (by decide)
  omega
theorem conab_of {z : Small} (h0 : 0 ≤ z.1) (h1 : z.1 < 256) : conAB z 5 = true := by
 unfold conAB
 rw [decide_eq_true h0, decide_eq_true (Int.le_of_lt_add_one (show (z.1 : Int) < 255 + 1 from h1))]
 rfl
theorem half_facts {kk : Int} (h : kk = 13 ∨ kk = 14) {c : RestG} {a : List Int} (hh : holdsX (kk, c) (nearL a 5) = true) :
  decide ((0 : Int) < (c.2.1.length : Int)) = true ∧ (decide (0 ≤ c.2.1.getD 0 0) && decide (c.2.1.getD 0 0 < ((nearL a 5).length : Int))) = true ∧
  (decide ((nearL a 5).getD (c.2.1.getD 0 0).toNat 0 = 0) = true ∨ (decide ((nearL a 5).getD (c.2.1.getD 0 0).toNat 0 = 0) = false ∧ decide ((nearL a 5).getD (c.2.1.getD 0 0).toNat 0 = 1) = true)) := by
 obtain ⟨a1, a2, a3, a4⟩ := turn_01 h hh
 refine ⟨decide_eq_true (by omega), by rw [decide_eq_true a2, decide_eq_true a3]; rfl, ?_⟩
 rcases a4 with a4 | a4
 ·exact .inl (decide_eq_true a4)
 ·exact .inr ⟨decide_eq_false (by omega), decide_eq_true a4⟩
theorem circ_len {c : RestG} {a : List Int} (h : holdsX (20, c) a = true) : 0 < c.1.length ∧ c.1.length ≤ 64 := by
 obtain ⟨h1, h2, h3⟩ := holds_true.mp h
 have cn := (val_of h1).cn
 rw [cnt_k20] at cn
 simp only [withinD, Bool.and_eq_true, decide_eq_true_eq] at cn
 omega
theorem F726.sem (k : Nat) (q kk : Int) (c : RestG) : callW F726.E false F726.fn k [.v (.int .i64) q, .rp (explode ConT (kk, c))] = some (.agg (explode ConT (q, c))) := F726.start_eq k q kk c
theorem F726.eok : EOk Go.Proofs.Try.prog F726.E := eo calls_nil
theorem ok726 : HandOk Go.Proofs.Try.prog inv 7 h_withK := by
 intro args κ r h
 unfold h_withK at h
 split at h
 case h_2 => simp at h
 rename_i x0 cs
 cases hp : pullA (.int .i64) x0 with
 | none => simp [hp] at h
 | some y0 =>
  cases hq : pullC ConT cs with
  | none => simp [hp, hq] at h
  | some z =>
   simp only [hp, hq] at h
   refine ⟨_, h, spec_args (args' := [.v (.int .i64) y0, .rp (explode ConT z)]) (fun w okk us hf => ?_) (callW_ok (own := false) (k := 1) F726.eok mixed Go.Proofs.Try.func7 (by kernel_rfl) (show Go.Proofs.Try.f7.body = some (bodyOf Go.Proofs.Try.f7) by kernel_rfl) (F726.sem 1 y0 z.1 z.2))⟩
   cases hf with
   | cons a b =>
    cases b with
    | cons b c => exact .cons (pullA_rel hp a) (.cons (rp_rel hq b) c)
theorem F724.sem (k : Nat) (z : Small) (a : List Int) (h0 : 0 ≤ z.1) (h1 : z.1 < 256) (hz : U8s z.2.1) : callW F724.E false F724.fn k [.agg (explode SmallT z), .v (.sl (.int .i64)) a] = some (.v .bool true) := by
 have hb := conab_of h0 h1
 have I := conA_spec hb
 refine (F724.start_eq k z a).trans ((bT' (nearLB_of (by decide) (by decide))).trans ((bT' hb).trans ?_))
 have hs := I.2.2.2.2.2.1
 have hK := I.2.2.2.2.2.2
 have he := I.2.1
 clear I
 generalize conA z 5 = cc at hs hK he ⊢
 obtain ⟨kk, c⟩ := cc
 have hB : ∀ q, holdsXB (q, c) (nearL a 5) = true := fun q => by
  show (smallC (kk, c) && Nat.ble (nearL a 5).length 1000) = true
  rw [hs, near5]
  rfl
 have he : kk = kindOf z.1 := he
 have lin : kk = 1 ∨ kk = 3 → ∃ A C K, c = (A, ([], (C, ([], ([], (K, [])))))) ∧ LinOk A C K := fun h => by
  have h2 : (kk, c) = conX (kindOf z.1 - 1) z.2 5 := hK (by unfold isK; omega)
  refine ⟨_, _, _, ?_, lin_ok hz⟩
  rcases h with h | h
  ·have : kindOf z.1 - 1 = 0 := by omega
   rw [this] at h2
   exact (Prod.mk.inj h2).2
  ·have : kindOf z.1 - 1 = 2 := by omega
   rw [this] at h2
   exact (Prod.mk.inj h2).2
 clear hK he
 simp only [hB, cond_true]
 by_cases k1 : kk = 1
 ·obtain ⟨A, C, K, rfl, L⟩ := lin (.inl k1)
  obtain ⟨t1, t2⟩ := turn_lin L a
  subst k1
  rw [t1]
  cases e : holdsX (1, (A, ([], (C, ([], ([], (K, []))))))) (nearL a 5) with
  | true => simp [t2 e]
  | false => simp
 ·simp only [decide_eq_false k1, cond_false]
  by_cases k3 : kk = 3
  ·obtain ⟨A, C, K, rfl, L⟩ := lin (.inr k3)
   obtain ⟨t1, t2⟩ := turn_lin L a
   subst k3
   rw [t1]
   cases e : holdsX (1, (A, ([], (C, ([], ([], (K, []))))))) (nearL a 5) with
   | true => simp [t2 e]
   | false => simp
  ·simp only [decide_eq_false k3, cond_false]
   have bo : ∀ b : Bool, (bif b then some (AV.v .bool true) else some (AV.v .bool true)) = some (AV.v .bool true) := fun b => by cases b <;> rfl
   by_cases k13 : kk = 13
   ·have k14 : ¬ kk = 14 := by omega
    simp only [decide_eq_true k13, decide_eq_false k14, cond_true, cond_false]
    cases e : holdsX (kk, c) (nearL a 5) with
    | false => simp only [cond_false]
    | true =>
     obtain ⟨d0, d1, d2⟩ := half_facts (.inl k13) e
     simp only [turn_half (.inl ⟨k13, rfl⟩) e, d0, d1, Bool.not_true, cond_true, cond_false]
     rcases d2 with d2 | ⟨d2, d3⟩
     ·simp only [d2, Bool.not_true, cond_false]
     ·simp only [d2, d3, Bool.not_true, Bool.not_false, cond_true, cond_false]
   ·simp only [decide_eq_false k13, cond_false]
    by_cases k14 : kk = 14
    ·simp only [decide_eq_true k14, cond_true, cond_false]
     cases e : holdsX (kk, c) (nearL a 5) with
     | false => simp only [cond_false]
     | true =>
      obtain ⟨d0, d1, d2⟩ := half_facts (.inr k14) e
      simp only [turn_half (.inr ⟨k14, rfl⟩) e, d0, d1, Bool.not_true, cond_true, cond_false]
      rcases d2 with d2 | ⟨d2, d3⟩
      ·simp only [d2, Bool.not_true, cond_false]
      ·simp only [d2, d3, Bool.not_true, Bool.not_false, cond_true, cond_false]
    ·simp only [decide_eq_false k14, cond_false]
     by_cases k20 : kk = 20
     ·simp only [decide_eq_true k20, cond_true]
      cases e : holdsX (kk, c) (nearL a 5) with
      | false => simp only [cond_false]
      | true =>
       subst k20
       have hc := circ_len e
       have hne : c.1 ≠ [] := List.length_pos_iff.mp hc.1
       have S := comp_sort hne
       have s1 : sortB c.1 = true := by
        unfold sortB
        rw [Nat.ble_eq_true_of_le (show c.1.length ≤ 1000 by omega)]
        cases h : c.1 with
        | nil => exact absurd h hne
        | cons x y => rfl
       have s2 : (!(List.isEmpty (sortL c.1)) && Nat.ble (List.length (sortL c.1)) 1000) = true := by
        have hl := sortL_lenG c.1
        rw [Nat.ble_eq_true_of_le (show (sortL c.1).length ≤ 1000 by omega)]
        cases h : sortL c.1 with
        | nil => rw [h] at hl; simp at hl; omega
        | cons x y => rfl
       have s3 : holdsXB (17, (compL (sortL c.1), ([], ([], ([], ([], ((0 : Int), []))))))) (nearL a 5) = true := by
        show (smallC (17, (compL (sortL c.1), ([], ([], ([], ([], ((0 : Int), []))))))) && Nat.ble (nearL a 5).length 1000) = true
        have := S.len
        rw [small_of (show (compL (sortL c.1)).length ≤ 1000 by omega) (Nat.zero_le _) (Nat.zero_le _) (Nat.zero_le _) (Nat.zero_le _) (Nat.zero_le _), near5]
        rfl
       simp only [s1, s2, s3, turn_circ e, Bool.not_true, cond_true, cond_false]
     ·simp only [decide_eq_false k20, cond_false]
      by_cases k23 : kk = 23
      ·subst k23
       have s3 : holdsXB (23, (c.2.1, (c.1, c.2.2))) (nearL a 5) = true := by
        obtain ⟨q1, q2, q3, q4, q5, q6⟩ := small_iff hs
        show (smallC (23, (c.2.1, (c.1, c.2.2))) && Nat.ble (nearL a 5).length 1000) = true
        rw [small_of (c := (23, (c.2.1, (c.1, c.2.2)))) q2 q1 q3 q4 q5 q6, near5]
        rfl
       have t : holdsX (23, (c.2.1, (c.1, c.2.2))) (nearL a 5) = holdsX (23, c) (nearL a 5) := turn_inv c.1 c.2.1 c.2.2 (nearL a 5)
       simp only [s3, t, beq_self_eq_true, decide_true, Bool.not_true, cond_true, cond_false]
      ·simp only [decide_eq_false k23, cond_false]
theorem F725.sem (k : Nat) (z : Small) (a : List Int) (h0 : 0 ≤ z.1) (h1 : z.1 < 256) : callW F725.E false F725.fn k [.agg (explode SmallT z), .v (.sl (.int .i64)) a] = some (.v .bool true) := by
 have hb := conab_of h0 h1
 have hs := (conA_spec hb).2.2.2.2.2.1
 refine (F725.start_eq k z a).trans ((bT' (nearLB_of (by decide) (by decide))).trans ((bT' hb).trans ?_))
 generalize conA z 5 = cc at hs ⊢
 obtain ⟨kk, A, B, C, D, G, K, R⟩ := cc
 obtain ⟨q1, q2, q3, q4, q5, q6⟩ := small_iff hs
 have q1 : A.length ≤ 1000 := q1
 have q2 : B.length ≤ 1000 := q2
 have q3 : C.length ≤ 1000 := q3
 have q4 : D.length ≤ 1000 := q4
 have q5 : G.length ≤ 1000 := q5
 have q6 : R.length ≤ 1000 := q6
 have rl : ∀ {l : List Int}, l.length ≤ 1000 → l.reverse.length ≤ 1000 := fun h => by rw [List.length_reverse]; exact h
 have rr : R.reverse.length ≤ 1000 := by rw [List.length_reverse]; exact q6
 have hB : ∀ {A B C D G : List Int} {R : List (List Int)}, A.length ≤ 1000 → B.length ≤ 1000 → C.length ≤ 1000 → D.length ≤ 1000 → G.length ≤ 1000 → R.length ≤ 1000 → holdsXB (kk, (A, (B, (C, (D, (G, (K, R))))))) (nearL a 5) = true := fun {A B C D G R} a1 a2 a3 a4 a5 a6 => by
  show (smallC (kk, (A, (B, (C, (D, (G, (K, R))))))) && Nat.ble (nearL a 5).length 1000) = true
  rw [small_of (c := (kk, (A, (B, (C, (D, (G, (K, R)))))))) a1 a2 a3 a4 a5 a6, near5]
  rfl
 have b0 := hB q1 q2 q3 q4 q5 q6
 have n1 := Nat.ble_eq_true_of_le q1
 have n2 := Nat.ble_eq_true_of_le q2
 have n3 := Nat.ble_eq_true_of_le q3
 have n4 := Nat.ble_eq_true_of_le q4
 have n6 := Nat.ble_eq_true_of_le (show R.length ≤ 2000 by omega)
 simp only [b0, n1, n2, n3, n4, n6, cond_true]
 by_cases k1 : kk = 1
 ·simp only [decide_eq_true k1, cond_true, hB (rl q1) q2 (rl q3) q4 q5 q6, order_lin (.inl k1), beq_self_eq_true]
 simp only [decide_eq_false k1, cond_false]
 by_cases k2 : kk = 2
 ·simp only [decide_eq_true k2, cond_true, hB (rl q1) q2 (rl q3) q4 q5 q6, order_lin (.inr (.inl k2)), beq_self_eq_true]
 simp only [decide_eq_false k2, cond_false]
 by_cases k3 : kk = 3
 ·simp only [decide_eq_true k3, cond_true, hB (rl q1) q2 (rl q3) q4 q5 q6, order_lin (.inr (.inr (.inl k3))), beq_self_eq_true]
 simp only [decide_eq_false k3, cond_false]
 by_cases k4 : kk = 4
 ·simp only [decide_eq_true k4, cond_true, hB (rl q1) q2 (rl q3) q4 q5 q6, order_lin (.inr (.inr (.inr k4))), beq_self_eq_true]
 simp only [decide_eq_false k4, cond_false]
 by_cases k17 : kk = 17
 ·simp only [decide_eq_true k17, cond_true, hB (rl q1) q2 q3 q4 q5 q6, order_vars (.inl k17), beq_self_eq_true]
 simp only [decide_eq_false k17, cond_false]
 by_cases k21 : kk = 21
 ·simp only [decide_eq_true k21, cond_true, hB (rl q1) q2 q3 q4 q5 q6, order_vars (.inr k21), beq_self_eq_true]
 simp only [decide_eq_false k21, cond_false]
 by_cases k12 : kk = 12
 ·simp only [decide_eq_true k12, cond_true, hB (rl q1) (rl q2) q3 q4 q5 q6]
  subst k12
  simp only [order_clause, beq_self_eq_true]
 simp only [decide_eq_false k12, cond_false]
 by_cases k19 : kk = 19
 ·simp only [decide_eq_true k19, cond_true, hB (rl q1) q2 (rl q3) (rl q4) q5 q6]
  subst k19
  simp only [order_cumul, beq_self_eq_true]
 simp only [decide_eq_false k19, cond_false]
 by_cases k18 : kk = 18
 ·simp only [decide_eq_true k18, cond_true, hB q1 q2 q3 q4 q5 rr]
  subst k18
  simp only [order_rows, beq_self_eq_true]
 simp only [decide_eq_false k18, cond_false, beq_self_eq_true]
theorem F724.eok : EOk Go.Proofs.Try.prog F724.E := ⟨tyOk_of tt_ok, (calls_cons ok521 (calls_cons ok26A (calls_cons ok726 (calls_cons ok567 (calls_cons ok112 (calls_cons ok113 (calls_cons ok526 calls_nil))))))), keep_inv, mcalls_cons okM345 mcalls_nil⟩
theorem law724 (z : Small) (a : List Int) (h0 : 0 ≤ z.1 ∧ z.1 < 256) (hz : U8s z.2.1) : CallSpec Go.Proofs.Try.prog inv 3 [.agg (explode SmallT z), .v (.sl (.int .i64)) a] (.v .bool true) := callW_ok (own := false) (k := 1) F724.eok mixed Go.Proofs.Try.func3 (by kernel_rfl) (show Go.Proofs.Try.f3.body = some (bodyOf Go.Proofs.Try.f3) by kernel_rfl) (F724.sem 1 z a h0.1 h0.2 hz)
theorem F725.eok : EOk Go.Proofs.Try.prog F725.E := ⟨tyOk_of tt_ok, (calls_cons ok521 (calls_cons ok26A (calls_cons ok567 (calls_cons ok526 (calls_cons ok727 (calls_cons ok318 calls_nil)))))), keep_inv, mcalls_cons okM729 mcalls_nil⟩
theorem law725 (z : Small) (a : List Int) (h0 : 0 ≤ z.1 ∧ z.1 < 256) : CallSpec Go.Proofs.Try.prog inv 4 [.agg (explode SmallT z), .v (.sl (.int .i64)) a] (.v .bool true) := callW_ok (own := false) (k := 1) F725.eok mixed Go.Proofs.Try.func4 (by kernel_rfl) (show Go.Proofs.Try.f4.body = some (bodyOf Go.Proofs.Try.f4) by kernel_rfl) (F725.sem 1 z a h0.1 h0.2)
end Go.Proofs.Ytohdaehblenokaa.Ev
