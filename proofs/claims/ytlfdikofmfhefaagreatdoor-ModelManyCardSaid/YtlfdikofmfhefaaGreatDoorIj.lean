/-
ModelMany: what the law's function answers.
Conditions: both numbers fit 16 bits.
-/
import Derived.Test.YtlfdikofmfhefaaGreatDoorIf
import Derived.Test.YtlfdikofmfhefaaGreatDoorIc
set_option linter.unusedVariables false
set_option linter.unusedSimpArgs false
set_option maxRecDepth 100000
namespace Go.Proofs.YtlfdikofmfhefaaGreatDoor.Ev
open Go Go.RowKit
noncomputable def E613 : Env := ⟨tt, [], [], [], none, inv, []⟩
theorem ok613C : HandOk Go.Proofs.Tryz.prog inv 68 (callH E613 false Go.Proofs.Tryz.f68 100) := hand_callH (eo calls_nil) mixed Go.Proofs.Tryz.func68 (by kernel_rfl) (show Go.Proofs.Tryz.f68.body = some (bodyOf Go.Proofs.Tryz.f68) by kernel_rfl)
noncomputable def E612 : Env := ⟨tt, [(68, callH E613 false Go.Proofs.Tryz.f68 100)], [], [], none, inv, []⟩
theorem ok612C : HandOk Go.Proofs.Tryz.prog inv 67 (callH E612 false Go.Proofs.Tryz.f67 100) := hand_callH (eo (calls_cons ok613C calls_nil)) mixed Go.Proofs.Tryz.func67 (by kernel_rfl) (show Go.Proofs.Tryz.f67.body = some (bodyOf Go.Proofs.Tryz.f67) by kernel_rfl)
noncomputable def E554 : Env := ⟨tt, [(66, h_forms), (67, callH E612 false Go.Proofs.Tryz.f67 100)], [], [], none, inv, []⟩
theorem ok554C : HandOk Go.Proofs.Tryz.prog inv 30 (callH E554 false Go.Proofs.Tryz.f30 100) := hand_callH (eo (calls_cons ok104 (calls_cons ok612C calls_nil))) mixed Go.Proofs.Tryz.func30 (by kernel_rfl) (show Go.Proofs.Tryz.f30.body = some (bodyOf Go.Proofs.Tryz.f30) by kernel_rfl)
noncomputable def E514 : Env := ⟨tt, [(23, h_rightG), (29, h_word), (30, callH E554 false Go.Proofs.Tryz.f30 100), (31, h_shapeS)], [], [], none, inv, []⟩
theorem w514 : callW E514 false Go.Proofs.Tryz.f9 100 [] = some (.v .bool true) := by kernel_rfl
theorem ok514 : HandOk Go.Proofs.Tryz.prog inv 9 h_wakes514 := hand_un fun xs => callW_ok (own := false) (k := 100) (eo (calls_cons ok76 (calls_cons ok103 (calls_cons ok554C (calls_cons ok91 calls_nil))))) mixed Go.Proofs.Tryz.func9 (by kernel_rfl) (show Go.Proofs.Tryz.f9.body = some (bodyOf Go.Proofs.Tryz.f9) by kernel_rfl) w514
def nmI (i : Int) : ByteArray := (⟨#[120]⟩ : ByteArray) ++ strN [IntKind.u8.wrap (97 + (IntKind.u8.wrap (IntKind.i64.wrap (i.tdiv 16)))), IntKind.u8.wrap (97 + (IntKind.u8.wrap (i.tmod 16)))]
def namesM (n : Nat) : List ByteArray := (List.range n).map fun i : Nat => nmI (i : Int)
def conM : Con := (17, ([0], ([], ([], ([], ([], ((0 : Int), [])))))))
def decM (s : ByteArray) : Int := (byteW s 1 - 97) * 16 + (byteW s 2 - 97)
theorem nm_all : (List.range 256).all (fun i : Nat => nameX (nmI (i : Int)) && !(keptS (nmI (i : Int))) && decide (decM (nmI (i : Int)) = (i : Int))) = true := by decide +kernel
theorem nm_ok {i : Nat} (h : i < 256) : nameX (nmI (i : Int)) = true ∧ keptS (nmI (i : Int)) = false ∧ decM (nmI (i : Int)) = (i : Int) := by
 have := List.all_eq_true.mp nm_all i (List.mem_range.mpr h)
 simp only [Bool.and_eq_true, Bool.not_eq_true', decide_eq_true_eq] at this
 exact ⟨this.1.1, this.1.2, this.2⟩
theorem nm_size (i : Int) : (nmI i).size = 3 := by
 unfold nmI
 rw [ByteArray.size_append]
 rfl
theorem one_listed : listedX [1] = true := by
 rw [listed_same]
 decide +kernel
theorem names_len (n : Nat) : (namesM n).length = n := by
 unfold namesM
 rw [List.length_map, List.length_range]
theorem names_get {n i : Nat} (h : i < n) : (namesM n).getD i ⟨#[]⟩ = nmI (i : Int) := by
 unfold namesM
 rw [List.getD_eq_getElem?_getD, List.getElem?_map, List.getElem?_range h]
 rfl
theorem vars_zero (n : Nat) (hn : n ≤ 256) : ∀ d i, i + d = n → varsGo (metK (namesM n) i) ((namesM n).drop i) ((List.replicate n [(1 : Int)]).drop i) = 0 := by
 have hl := names_len n
 intro d
 induction d with
 | zero =>
  intro i h
  rw [List.drop_of_length_le (by omega)]
  cases (List.replicate n [(1 : Int)]).drop i <;> rfl
 | succ d ih =>
  intro i h
  have hi : i < n := by omega
  obtain ⟨o1, o2, o3⟩ := nm_ok (show i < 256 by omega)
  rw [vars_step (by omega) (by rw [List.length_replicate]; exact hi), ← metK_succ (by omega), ih (i + 1) (by omega), names_get hi, o1, o2]
  have e1 : (metK (namesM n) i).any (fun t => strEq t (nmI (i : Int))) = false := by
   rw [met_range _ (by omega)]
   rw [List.any_eq_false]
   intro k hk hq
   have hk := List.mem_range.mp hk
   have hq := strEq_iff.mp hq
   have e : (namesM n).getD k ByteArray.empty = nmI (k : Int) := names_get (by omega)
   rw [e] at hq
   have := (nm_ok (show k < 256 by omega)).2.2
   rw [hq, o3] at this
   omega
  have e2 : (List.replicate n [(1 : Int)]).getD i [] = [1] := by
   rw [List.getD_eq_getElem?_getD, List.getElem?_replicate, if_pos hi]
   rfl
  rw [e1, e2, one_listed]
  rfl
theorem conM_right (n : Nat) : rightG conM (n : Int) = if n = 0 then 7 else 0 := by
 have e0 : rightG conM (n : Int) = bif strEq (shapeS 17) ⟨#[]⟩ then 9 else bif !(countedG conM (shapeS 17) && alikeG conM && (decide ((0 : Int) = 0) || has1 (shapeS 17) ⟨#[107]⟩)) then 10 else bif List.any [0] (varB (n : Int)) then 7 else bif !(numbersG conM && countsG conM) then 11 else 0 := rfl
 rw [e0, show strEq (shapeS 17) ⟨#[]⟩ = false by decide +kernel, show (countedG conM (shapeS 17) && alikeG conM && (decide ((0 : Int) = 0) || has1 (shapeS 17) ⟨#[107]⟩)) = true by decide +kernel, show (numbersG conM && countsG conM) = true by decide +kernel]
 show (bif (varB (n : Int) 0 || false) then (7 : Int) else 0) = _
 unfold varB
 by_cases h : n = 0
 ·rw [if_pos h, decide_eq_true (show (0 : Int) ≥ (n : Int) by omega)]
  simp
 ·rw [if_neg h, decide_eq_false (show ¬ (0 : Int) ≥ (n : Int) by omega)]
  rfl
theorem cons_rep (r : Con → Int) (c : Con) (h : r c = 0) : ∀ (k i : Nat), consGo r i (List.replicate k c) = none
 | 0, _ => rfl
 | k + 1, i => by
  rw [List.replicate_succ]
  show (if r c = 0 then consGo r (i + 1) (List.replicate k c) else _) = none
  rw [if_pos h]
  exact cons_rep r c h k (i + 1)
theorem many_err (n k : Nat) : decide ((checkX (namesM n, (List.replicate n [(1 : Int)], (List.replicate k conM, ((0 : Int), (0 : Int)))))).2 = 0) = (decide (n ≤ 256) && (decide (k ≤ 1024) && (decide (n > 0) || decide (k = 0)))) := by
 have hl := names_len n
 unfold checkX
 rw [if_neg (by simp [hl])]
 by_cases h : (n : Int) > 256 ∨ (k : Int) > 1024
 ·rw [if_pos (by simpa [hl] using h)]
  show decide ((12 : Int) = 0) = _
  rcases h with h | h
  ·rw [decide_eq_false (show ¬ n ≤ 256 by omega)]
   rfl
  ·rw [decide_eq_false (show ¬ k ≤ 1024 by omega)]
   simp
 ·rw [if_neg (by simpa [hl] using h)]
  have hv : varsX (namesM n, (List.replicate n [(1 : Int)], (List.replicate k conM, ((0 : Int), (0 : Int))))) = 0 := vars_zero n (by omega) n 0 (by omega)
  rw [hv, if_neg (by simp), decide_eq_true (show n ≤ 256 by omega), decide_eq_true (show k ≤ 1024 by omega)]
  show decide ((match consGo (fun c => rightG c ((namesM n).length : Int)) 0 (List.replicate k conM) with
   | some r => r
   | none => if goalX (namesM n, (List.replicate n [(1 : Int)], (List.replicate k conM, ((0 : Int), (0 : Int))))) then ((-1 : Int), (0 : Int)) else (-1, 17)).2 = 0) = _
  have hg : goalX (namesM n, (List.replicate n [(1 : Int)], (List.replicate k conM, ((0 : Int), (0 : Int))))) = true := rfl
  rw [hg, hl]
  by_cases h0 : n = 0
  ·subst h0
   cases k with
   | zero => rfl
   | succ k =>
    rw [List.replicate_succ]
    have hr := conM_right 0
    show decide ((match (if rightG conM ((0 : Nat) : Int) = 0 then consGo (fun c => rightG c ((0 : Nat) : Int)) 1 (List.replicate k conM) else some (((0 : Nat) : Int), rightG conM ((0 : Nat) : Int))) with
     | some r => r
     | none => if true = true then ((-1 : Int), (0 : Int)) else (-1, 17)).2 = 0) = _
    rw [hr]
    simp
  ·have hr := conM_right n
   rw [if_neg h0] at hr
   rw [cons_rep (fun c => rightG c (n : Int)) conM hr k 0, decide_eq_true (show n > 0 by omega)]
   rfl
theorem many_small (n k : Nat) (hn : n ≤ 2000) (hk : k ≤ 2000) : modelB (namesM n, (List.replicate n [(1 : Int)], (List.replicate k conM, ((0 : Int), (0 : Int))))) = true := by
 unfold modelB
 have hl := names_len n
 have h1 : sizesB (namesM n) = true := by
  unfold sizesB namesM
  rw [List.all_eq_true]
  intro s hs
  obtain ⟨i, _, rfl⟩ := List.mem_map.mp hs
  show Nat.ble (nmI (i : Int)).size 1000 = true
  rw [nm_size]
  rfl
 have h2 : (List.replicate n [(1 : Int)]).all (fun l => Nat.ble l.length 1000) = true := by
  rw [List.all_eq_true]
  intro l h
  rw [(List.mem_replicate.mp h).2]
  rfl
 have h3 : (List.replicate k conM).all smallC = true := by
  rw [List.all_eq_true]
  intro l h
  rw [(List.mem_replicate.mp h).2]
  rfl
 show (Nat.ble (namesM n).length 2000 && (Nat.ble (List.replicate n [(1 : Int)]).length 2000 && (Nat.ble (List.replicate k conM).length 2000 && (sizesB (namesM n) && ((List.replicate n [(1 : Int)]).all (fun l => Nat.ble l.length 1000) && (List.replicate k conM).all smallC))))) = true
 rw [h1, h2, h3, hl, List.length_replicate, List.length_replicate, Nat.ble_eq_true_of_le hn, Nat.ble_eq_true_of_le hk]
 rfl
theorem lim16 {m : Nat} (h : m ≤ 2000) (c : Nat) (hc : c ≤ 160) : decide ((m + 1) * c ≤ LIM) = true := decide_eq_true (by
 have h1 : (m + 1) * c ≤ 2001 * 160 := Nat.mul_le_mul (by omega) hc
 have h2 : 2001 * 160 ≤ LIM := by decide
 omega)
theorem F503.first (K : Conts) (p0 p1 p4 p5 : Int) (N : Nat) (hN : N ≤ 2000) : ∀ d i n, i + d = N → d < n →
  F503.l1_1_1_0_1_0 n K p0 p1 (N : Int) (i : Int) p4 p5 (namesM i) (List.replicate i [(1 : Int)]) = exitK K 0 ⟨slots 98 [(5, .v (.int .i64) p0), (6, .v (.int .i64) p1), (7, .pb 0 0)], [.box [.own 1, .own 2, .nl, .v (.int .i64) p4, .v (.int .i64) p5], .row 9 .str (namesM N), .row 29 (.sl (.int .i64)) (List.replicate N [(1 : Int)])]⟩ := by
 intro d
 induction d with
 | zero =>
  intro i n h1 h2
  obtain ⟨n, rfl⟩ : ∃ n', n = n' + 1 := ⟨n - 1, by omega⟩
  obtain rfl : i = N := by omega
  exact (F503.l1_1_1_0_1_0_eq ..).trans self_lt'
 | succ d ih =>
  intro i n h1 h2
  obtain ⟨n, rfl⟩ : ∃ n', n = n' + 1 := ⟨n - 1, by omega⟩
  have w : IntKind.i64.wrap ((i : Int) + 1) = ((i + 1 : Nat) : Int) := by rw [wrap_ok (by omega) (by omega)]; omega
  refine (F503.l1_1_1_0_1_0_eq ..).trans ((bT' (lt_natG (show i < N by omega))).trans ((bT' (decide_eq_true ?_)).trans ((bT' ?_).trans ((bT' ?_).trans ?_))))
  ·show 1 + 2 ≤ 9223372036854775807
   decide
  ·rw [names_len]
   exact lim16 (show i ≤ 2000 by omega) 16 (by decide)
  ·rw [List.length_replicate]
   exact lim16 (show i ≤ 2000 by omega) 24 (by decide)
  ·rw [w]
   have e1 : namesM (i + 1) = namesM i ++ [nmI (i : Int)] := by
    unfold namesM
    rw [List.range_succ, List.map_append]
    rfl
   have e2 : List.replicate (i + 1) [(1 : Int)] = List.replicate i [(1 : Int)] ++ [[(1 : Int)]] := List.replicate_succ'
   have := ih (i + 1) n (by omega) (by omega)
   rw [e1, e2] at this
   exact this
theorem F503.second (K : Conts) (p0 p1 p4 p5 : Int) (ns : List ByteArray) (ds : List (List Int)) (N : Nat) (hN : N ≤ 2000) : ∀ d i n, i + d = N → d < n →
  F503.l1_1_1_1_0_1_0 n K p0 p1 (N : Int) (i : Int) p4 p5 ns ds (List.replicate i conM) = exitK K 2 ⟨slots 98 [(5, .v (.int .i64) p0), (6, .v (.int .i64) p1), (7, .pb 0 0)], [.box [.own 1, .own 2, .own 3, .v (.int .i64) p4, .v (.int .i64) p5], .row 9 .str ns, .row 29 (.sl (.int .i64)) ds, .row 31 ConT (List.replicate N conM)]⟩ := by
 intro d
 induction d with
 | zero =>
  intro i n h1 h2
  obtain ⟨n, rfl⟩ : ∃ n', n = n' + 1 := ⟨n - 1, by omega⟩
  obtain rfl : i = N := by omega
  exact (F503.l1_1_1_1_0_1_0_eq ..).trans self_lt'
 | succ d ih =>
  intro i n h1 h2
  obtain ⟨n, rfl⟩ : ∃ n', n = n' + 1 := ⟨n - 1, by omega⟩
  have w : IntKind.i64.wrap ((i : Int) + 1) = ((i + 1 : Nat) : Int) := by rw [wrap_ok (by omega) (by omega)]; omega
  refine (F503.l1_1_1_1_0_1_0_eq ..).trans ((bT' (lt_natG (show i < N by omega))).trans ((bT' ?_).trans ?_))
  ·rw [List.length_replicate]
   exact lim16 (show i ≤ 2000 by omega) 160 (by decide)
  ·rw [w]
   have e2 : List.replicate (i + 1) conM = List.replicate i conM ++ [conM] := List.replicate_succ'
   have := ih (i + 1) n (by omega) (by omega)
   rw [e2] at this
   exact this
theorem F503.sem (a b : Int) (ha : 0 ≤ a ∧ a < 65536) (hb : 0 ≤ b ∧ b < 65536) : callW F503.E false F503.fn 6000 [.v (.int .u16) a, .v (.int .u16) b] = some (.v .bool true) := by
 obtain ⟨n, hn, en⟩ : ∃ n : Nat, n < 260 ∧ IntKind.i64.wrap (a.tmod 260) = (n : Int) := by
  rw [Int.tmod_eq_emod_of_nonneg ha.1]
  have h0 := Int.emod_nonneg a (show (260 : Int) ≠ 0 by decide)
  have h1 := Int.emod_lt_of_pos a (show (0 : Int) < 260 by decide)
  exact ⟨(a % 260).toNat, by omega, by rw [wrap_ok (by omega) (by omega)]; omega⟩
 obtain ⟨k, hk, ek⟩ : ∃ k : Nat, k < 1030 ∧ IntKind.i64.wrap (b.tmod 1030) = (k : Int) := by
  rw [Int.tmod_eq_emod_of_nonneg hb.1]
  have h0 := Int.emod_nonneg b (show (1030 : Int) ≠ 0 by decide)
  have h1 := Int.emod_lt_of_pos b (show (0 : Int) < 1030 by decide)
  exact ⟨(b % 1030).toNat, by omega, by rw [wrap_ok (by omega) (by omega)]; omega⟩
 have hm := many_small n k (by omega) (by omega)
 have he := many_err n k
 have hs := check_same (namesM n, (List.replicate n [(1 : Int)], (List.replicate k conM, ((0 : Int), (0 : Int)))))
 have f1 : F503.l1_1_1_0_1_0 6000 (F503.kt 6000 [1, 1, 1, 0, 1, 0]) (n : Int) (k : Int) (n : Int) 0 (0 : Int) (0 : Int) [] [] = _ := F503.first _ (n : Int) (k : Int) 0 0 n (by omega) n 0 6000 (by omega) (by omega)
 have f2 : F503.l1_1_1_1_0_1_0 6000 (F503.kt 6000 [1, 1, 1, 1, 0, 1, 0]) (n : Int) (k : Int) (k : Int) 0 (0 : Int) (0 : Int) (namesM n) (List.replicate n [(1 : Int)]) [] = _ := F503.second _ (n : Int) (k : Int) 0 0 _ _ k (by omega) k 0 6000 (by omega) (by omega)
 have st := F503.start_eq 6000 a b
 rw [en, ek] at st
 refine st.trans (f1.trans ((F503.c0 6000 (n : Int) (k : Int) 0 0 (namesM n) (List.replicate n [(1 : Int)])).trans (f2.trans ((F503.c1 6000 (n : Int) (k : Int) 0 0 (namesM n) (List.replicate n [(1 : Int)]) (List.replicate k conM)).trans ?_))))
 clear st f1 f2 en ek
 generalize List.replicate n [(1 : Int)] = ds at hm he hs ⊢
 generalize List.replicate k conM = cs at hm he hs ⊢
 generalize namesM n = ns at hm he hs ⊢
 rw [← hs]
 generalize checkX (ns, (ds, (cs, ((0 : Int), (0 : Int))))) = r at he ⊢
 refine (bT' hm).trans ((bT' hm).trans ((bT' (decide_eq_true rfl)).trans ((bT' (decide_eq_true rfl)).trans ?_)))
 rw [he]
 by_cases h1 : n ≤ 256
 ·rw [decide_eq_true (show (n : Int) ≤ 256 by omega), decide_eq_true h1]
  by_cases h2 : k ≤ 1024
  ·rw [decide_eq_true (show (k : Int) ≤ 1024 by omega), decide_eq_true h2]
   by_cases h3 : n > 0
   ·rw [decide_eq_true (show (n : Int) > 0 by omega), decide_eq_true h3]
    rfl
   ·rw [decide_eq_false (show ¬ (n : Int) > 0 by omega), decide_eq_false h3]
    by_cases h4 : k = 0
    ·rw [decide_eq_true (show (k : Int) = 0 by omega), decide_eq_true h4]
     rfl
    ·rw [decide_eq_false (show ¬ (k : Int) = 0 by omega), decide_eq_false h4]
     rfl
  ·rw [decide_eq_false (show ¬ (k : Int) ≤ 1024 by omega), decide_eq_false h2]
   rfl
 ·rw [decide_eq_false (show ¬ (n : Int) ≤ 256 by omega), decide_eq_false h1]
  rfl
theorem F503.eok : EOk Go.Proofs.Tryz.prog F503.E := eo (calls_cons ok512 (calls_cons ok513 (calls_cons ok514 calls_nil)))
theorem law503 (a b : Int) (ha : 0 ≤ a ∧ a < 65536) (hb : 0 ≤ b ∧ b < 65536) : CallSpec Go.Proofs.Tryz.prog inv 3 [.v (.int .u16) a, .v (.int .u16) b] (.v .bool true) := callW_ok (own := false) (k := 6000) F503.eok mixed Go.Proofs.Tryz.func3 (by kernel_rfl) (show Go.Proofs.Tryz.f3.body = some (bodyOf Go.Proofs.Tryz.f3) by kernel_rfl) (F503.sem a b ha hb)
end Go.Proofs.YtlfdikofmfhefaaGreatDoor.Ev
