/-
Seat 'a': rows of values, solutions among domains: what the functions answer.
Conditions: lists are short.
Seat 'a': solutions among domains; the values that are in one: what the functions answer.
Conditions: lists are short; each row is as long as it must be.
Seat 'a': a domain's list; a domain of numbers: what the functions answer.
Conditions: numbers and offsets are those of domains.
Seat 'a': the filters: what the functions answer.
Conditions: lists are short; constraints of the kinds that this seat is about.
-/
import Derived.Test.YtlfdikofmfhefaaGreatDoorAu
import Derived.Test.YtlfdikofmfhefaaGreatDoorAh
import Derived.Test.YtlfdikofmfhefaaGreatDoorAt
import Derived.Test.YtlfdikofmfhefaaGreatDoorAb
set_option linter.unusedVariables false
set_option linter.unusedSimpArgs false
set_option maxRecDepth 100000
namespace Go.Proofs.YtlfdikofmfhefaaGreatDoor.Ev
open Go
structure PB (d : List (List Int)) (most : Int) : Prop where
  lo : 0 ≤ most
  hi : most ≤ 100000
  len : d.length ≤ 1000
  each : ∀ x ∈ d, x.length ≤ 1000 ∧ 1 ≤ x.length
end Go.Proofs.YtlfdikofmfhefaaGreatDoor.Ev
set_option linter.unusedVariables false
set_option linter.unusedSimpArgs false
set_option maxRecDepth 100000
namespace Go.Proofs.YtlfdikofmfhefaaGreatDoor.Ev
open Go
structure SB (c : Con) (d : List (List Int)) (most : Int) : Prop where
  loc : localB c = true
  pb : productB d most = true
  all : manyL d most = false → ∀ r ∈ prodL d, holdsB (localC c) r = true
end Go.Proofs.YtlfdikofmfhefaaGreatDoor.Ev
set_option linter.unusedVariables false
set_option linter.unusedSimpArgs false
set_option maxRecDepth 100000
namespace Go.Proofs.YtlfdikofmfhefaaGreatDoor.Ev
open Go
theorem uB_U {w : Int} (h : uB w = true) : U w := by
 unfold uB at h
 simp only [Bool.and_eq_true, decide_eq_true_eq] at h
 exact h
theorem U_uB {w : Int} (h : U w) : uB w = true := by
 unfold U at h
 unfold uB
 simp [h.1, h.2]
theorem F29.inner (K : Conts) (i : Int) (ws : List Int) (len j off : Int) (p6 : List Int) (p7 p8 p9 : Int) (ho : nearB off = true) (hi : 0 ≤ i ∧ i ≤ 1000000) : ∀ (f : Nat) (w : Int) (acc : List Int) (n : Nat), U w → f ≤ 64 → (∀ j, j < 64 - f → tb w j = false) →
  acc.length + f ≤ 100000000 → f < n →
  F29.l1_1_0_1_0_0_1_1_0_0_1_0 n K i w ws len j off p6 p7 p8 p9 acc =
  exitK K 2 ⟨slots 33 [(1, .pb 0 0), (3, .own 1), (7, .v (.sl (.int .u64)) ws), (8, .v (.int .i64) len), (9, .v (.int .i64) j)], [.box [.v (.int .i64) off, .v (.sl (.int .u64)) p6, .v (.int .i64) p7, .v (.int .i64) p8, .v (.int .i64) p9], .row 3 (.int .i64) (acc ++ bitsFrom f (off + 64 * i) w)]⟩ := by
 have ho' := nearB_iff.mp ho
 intro f
 induction f with
 | zero =>
  intro w acc n hw hf hz hl hn
  have h0 : w = 0 := zero_of_tb hw (fun j hj => hz j (by omega))
  subst h0
  obtain ⟨n, rfl⟩ : ∃ m, n = m + 1 := ⟨n - 1, by omega⟩
  rw [F29.l1_1_0_1_0_0_1_1_0_0_1_0_eq]
  simp [bitsFrom]
 | succ f ih =>
  intro w acc n hw hf hz hl hn
  obtain ⟨n, rfl⟩ : ∃ m, n = m + 1 := ⟨n - 1, by omega⟩
  rw [F29.l1_1_0_1_0_0_1_1_0_0_1_0_eq]
  unfold bitsFrom
  by_cases h0 : w = 0
  ·simp [h0]
  ·obtain ⟨hl', t, ht, ht64, hbt, hlow, hcl⟩ := lessD_spec hw h0
   have e1 : IntKind.i64.wrap (64 * i) = 64 * i := wrap_ok (by omega) (by omega)
   have e2 : IntKind.i64.wrap (off + 64 * i) = off + 64 * i := wrap_ok (by omega) (by omega)
   have e3 : IntKind.i64.wrap (off + 64 * i + tzD w) = off + 64 * i + tzD w := wrap_ok (by rw [ht]; omega) (by rw [ht]; omega)
   have e4 : (acc.length + [off + 64 * i + tzD w].length) * 8 ≤ LIM := by unfold LIM; simp only [List.length_cons, List.length_nil]; omega
   rw [e1, e2, e3]
   have hu := U_uB hw
   simp only [h0, decide_false, Bool.not_false, cond_true, hu, e4, decide_true, if_false]
   have := ih (lessD w) (acc ++ [off + 64 * i + tzD w]) n hl' (by omega) (by
    intro j hj
    rw [hcl]
    cases hb : tb w j with
    | false => rfl
    | true =>
     have h1 := hlow j hb
     have h2 : ¬ t < 64 - (f + 1) := fun hlt => by rw [hz t hlt] at hbt; simp at hbt
     have hjt : j = t := by omega
     simp [hjt]) (by simp only [List.length_append, List.length_cons, List.length_nil]; omega) (by omega)
   refine (show _ = _ from this).trans ?_
   rw [List.append_assoc]
   rfl
theorem F29.loop (K : Conts) (ws : List Int) (off : Int) (p4 : List Int) (p5 p6 p7 : Int) (ho : nearB off = true) (hu : ws.all uB = true) (hl : ws.length ≤ 1000000) : ∀ (n : Nat) (i : Int) (acc : List Int), 0 ≤ i → i ≤ ws.length → ws.length - i + 66 < n → acc.length + 64 * (ws.length - i) ≤ 90000000 →
  F29.l1_1_0_1_0 n K ws ws.length i off p4 p5 p6 p7 acc = exitK K 0 ⟨slots 33 [(3, .own 0)], [.row 3 (.int .i64) (acc ++ listFrom off i (ws.drop i.toNat))]⟩ := by
 intro n
 induction n with
 | zero => intro i acc h0 h1 h2; omega
 | succ n ih =>
  intro i acc h0 h1 h2 h3
  rw [F29.l1_1_0_1_0_eq]
  by_cases hi : i < ws.length
  ·have hu1 := uB_U (getD_uB hu (i := i.toNat) (by omega))
   have hd := drop_get (d := (0 : Int)) h0 hi
   rw [hd]
   simp only [hi, h0, decide_true, Bool.and_true, cond_true, listFrom]
   rw [F29.inner _ i ws ws.length i off p4 p5 p6 p7 ho ⟨h0, by omega⟩ 64 _ acc n hu1 (Nat.le_refl _) (fun j hj => by omega) (by omega) (by omega), F29.c1]
   rw [wrap_ok (by omega) (by omega), ih (i + 1) _ (by omega) (by omega) (by omega) (by
    have := bitsFrom_length 64 (off + 64 * i) (ws.getD i.toNat 0)
    rw [List.length_append]
    omega)]
   rw [List.append_assoc]
  ·rw [List.drop_of_length_le (by omega)]
   simp only [hi, decide_false, cond_false, listFrom, List.append_nil]
theorem F29.sem (d : Dom) (h : listB d = true) : callW F29.E false F29.fn (d.2.1.length + 100) [.agg (explode DomT d)] = some (.v (.sl (.int .i64)) (listD d)) := by
 unfold listB at h
 simp only [Bool.and_eq_true, Nat.ble_eq] at h
 refine (F29.start_eq _ d).trans ?_
 rw [F29.loop _ d.2.1 d.1 _ _ _ _ h.1.1 h.1.2 h.2 _ 0 [] (by omega) (by omega) (by omega) (by simp only [List.length_nil]; omega), F29.c0]
 rfl
theorem F50.loop (K : Conts) (xs : List Int) (hl : xs.length ≤ maxLen) (off : Int) (hv : ∀ v ∈ xs, inD v = true) (ho : -1000064 ≤ off ∧ off ≤ 1000000) (p3 p4 p5 p6 p8 p9 p10 : Int) :
  ∀ (n : Nat) (i : Int) (ws : List Int), 0 ≤ i → i ≤ xs.length → xs.length - i < n → (∀ v ∈ xs, off ≤ v ∧ (v - off) / 64 < ws.length) →
  F50.l1_1_1_0_1_0 n K xs xs.length i p3 p4 p5 p6 off p8 p9 p10 ws =
  exitK K 1 ⟨slots 58 [(2, .pb 0 0), (4, .pb 1 0)], [.box [.v (.int .i64) p3, .nl, .v (.int .i64) p4, .v (.int .i64) p5, .v (.int .i64) p6], .box [.v (.int .i64) off, .own 2, .v (.int .i64) p8, .v (.int .i64) p9, .v (.int .i64) p10], .row 145 (.int .u64) (setsD off (xs.drop i.toNat) ws)]⟩ := by
 have hm := lenMax hl
 intro n
 induction n with
 | zero => intro i ws h0 h1 h2; omega
 | succ n ih =>
  intro i ws h0 h1 h2 h3
  rw [F50.l1_1_1_0_1_0_eq]
  by_cases hi : i < xs.length
  ·have hd := drop_get (d := (0 : Int)) h0 hi
   rw [hd]
   have hx : xs.getD i.toNat 0 ∈ xs := by
    rw [List.getD_eq_getElem?_getD, List.getElem?_eq_getElem (by omega)]
    exact List.getElem_mem _
   simp only [hi, h0, decide_true, Bool.and_true, cond_true]
   generalize xs.getD i.toNat 0 = v at hx
   have hv' := inD_iff.mp (hv v hx)
   obtain ⟨b1, b2⟩ := h3 v hx
   have e1 : IntKind.i64.wrap (v - off) = v - off := wrap_ok (by omega) (by omega)
   have e2 : (v - off).tdiv 64 = (v - off) / 64 := Int.tdiv_eq_ediv_of_nonneg (by omega)
   have e3 : IntKind.i64.wrap ((v - off) / 64) = (v - off) / 64 := wrap_ok (by omega) (by omega)
   have e4 : (v - off).tmod 64 = (v - off) % 64 := Int.tmod_eq_emod_of_nonneg (by omega)
   rw [e1, e2, e3, e4, wrap_ok (x := i + 1) (by omega) (by omega)]
   have c1 : 0 ≤ (v - off) / 64 := by omega
   have c2 : 0 ≤ (v - off) % 64 := by omega
   simp only [c1, c2, b2, decide_true, Bool.and_true, cond_true]
   exact ih (i + 1) (setD off ws v) (by omega) (by omega) (by omega) (fun y hy => by rw [setD_length]; exact h3 y hy)
  ·rw [List.drop_of_length_le (by omega)]
   simp only [hi, decide_false, cond_false]
   rfl
theorem no_out {xs : List Int} (h : xs.any outD = false) : ∀ v ∈ xs, inD v = true := by
 intro v hv
 rw [List.any_eq_false] at h
 have := h v hv
 unfold outD at this
 simpa using this
theorem F50.sem (xs : List Int) (hl : xs.length ≤ maxLen) : ∃ r, callW F50.E false F50.fn (xs.length + 1) [.v (.sl (.int .i64)) xs] = some r ∧ WA r (.tup [.agg (explode DomT (ofD xs).1), .v (.int .i64) (ofD xs).2]) := by
 rw [F50.start_eq]
 have bad : ∀ e : Int, WA (.tup [.agg [.v (.int .i64) (0 : Int), .nl, .v (.int .i64) (0 : Int), .v (.int .i64) (0 : Int), .v (.int .i64) (0 : Int)], .v (.int .i64) e])
   (.tup [.agg (explode DomT ((0 : Int), ([] : List Int), (0 : Int), (0 : Int), (0 : Int))), .v (.int .i64) e]) := fun e =>
  .tup (.cons (.agg (.cons (.same _) (.cons (.nl _) (.cons (.same _) (.cons (.same _) (.cons (.same _) .nil)))))) (.cons (.one (by simp) (.same _)) .nil))
 by_cases h0 : (xs.length : Int) = 0
 ·have h0' : xs.length = 0 := by omega
  simp only [h0, decide_true, cond_true]
  refine ⟨_, rfl, ?_⟩
  unfold ofD
  rw [if_pos h0']
  exact bad 4
 ·have h0' : ¬ xs.length = 0 := by omega
  have hne : xs ≠ [] := fun e => h0' (by simp [e])
  have hemp : (!xs.isEmpty) = true := by cases xs <;> simp_all
  simp only [h0, decide_false, cond_false]
  cases h1 : xs.any outD with
  | true =>
   simp only [cond_true]
   refine ⟨_, rfl, ?_⟩
   unfold ofD
   rw [if_neg h0', if_pos h1]
   exact bad 3
  | false =>
   have hin := no_out h1
   have i1 := inD_iff.mp (hin _ (maxL_spec hne).2)
   have i2 := inD_iff.mp (hin _ (minL_spec hne).2)
   rw [wrap_ok (x := maxL xs - minL xs) (by omega) (by omega)]
   simp only [cond_false, hemp, cond_true]
   by_cases h2 : maxL xs - minL xs ≥ 65536
   ·simp only [h2, decide_true, cond_true]
    refine ⟨_, rfl, ?_⟩
    unfold ofD
    rw [if_neg h0', if_neg (by rw [h1]; simp), if_pos h2]
    exact bad 5
   ·have hok : okL xs = true := okL_iff.mpr ⟨hne, hin, by omega⟩
    have ho := okL_ok hok
    have hr : roomB (minL xs) (maxL xs) = true := by
     unfold roomB
     have := ho.le
     rw [ho.pl, ho.ph]
     simp only [Bool.and_eq_true, decide_eq_true_eq]
     omega
    simp only [h2, decide_false, cond_false, hr, cond_true]
    have hoff : -1000064 ≤ placeD (minL xs) ∧ placeD (minL xs) ≤ 1000000 := by rw [ho.pl]; omega
    have hw : (wordsL xs).all uB = true := by
     rw [List.all_eq_true]
     exact fun w hw => U_uB ((words_spec hok).2.1 w hw)
    rw [F50.loop _ xs hl _ hin hoff _ _ _ _ _ _ _ _ 0 _ (by omega) (by omega) (by omega) ho.fit, F50.c0]
    have e : setsD (placeD (minL xs)) (xs.drop (Int.toNat 0)) (zerosD (minL xs) (maxL xs)) = wordsL xs := rfl
    rw [e, hw]
    refine ⟨_, rfl, ?_⟩
    rw [ofD_ok hok]
    exact WA.refl _
end Go.Proofs.YtlfdikofmfhefaaGreatDoor.Ev
set_option linter.unusedVariables false
set_option linter.unusedSimpArgs false
set_option maxRecDepth 100000
namespace Go.Proofs.YtlfdikofmfhefaaGreatDoor.Ev
open Go
end Go.Proofs.YtlfdikofmfhefaaGreatDoor.Ev
