/-
Linear constraints: what is reified; the filter.
Conditions: as the handlers ask.
-/
import Derived.Test.YtnojoaghcbljfaaGreatDoorNe
set_option linter.unusedVariables false
set_option linter.unusedSimpArgs false
set_option maxRecDepth 100000
set_option maxHeartbeats 4000000
namespace Go.Proofs.YtnojoaghcbljfaaGreatDoor.Ev
open Go
theorem boundGo_len {all most : Int} : ∀ {c : List Int} {d : List Dom} {r : List Dom × Bool}, boundGo all most c d = some r → r.1.length = d.length
 | [], d, r, h => by
  unfold boundGo at h
  simp only [Option.some.injEq] at h
  subst h
  rfl
 | k :: ks, [], r, h => by
  unfold boundGo at h
  simp only [Option.some.injEq] at h
  subst h
  rfl
 | k :: ks, x :: xs, r, h => by
  unfold boundGo at h
  split at h
  ·cases h
  ·cases hg : boundGo all most ks xs with
   | none => rw [hg] at h; cases h
   | some q =>
    rw [hg] at h
    simp only [Option.some.injEq] at h
    subst h
    simp [boundGo_len hg]
theorem bound_len {c : List Int} {most : Int} {d : List Dom} : (boundD c most d).1.length ≤ d.length := by
 unfold boundD
 cases hg : boundGo (lowsD c d) most c d with
 | none => simp
 | some r => simp [boundGo_len hg]
theorem lim_app {n : Nat} {b : Dom} (h : n ≤ 1000000) : decide ((n + [b].length) * 56 ≤ LIM) = true := decide_eq_true (show (n + 1) * 56 ≤ 140737488355328 by omega)
theorem F381.sem (c : Con) (d : List Dom) (h : reifiedB c d = true) : ∃ r, callW F381.E false F381.fn 1 [.agg (explode ConT c), .v (.sl DomT) d] = some r ∧ WA r (.tup [.v (.sl DomT) (reifiedF c d).1, .v .bool (reifiedF c d).2]) := by
 unfold reifiedB at h
 simp only [Bool.and_eq_true, Bool.or_eq_true, Bool.not_eq_true', decide_eq_true_eq, decide_eq_false_iff_not] at h
 obtain ⟨⟨⟨⟨⟨⟨⟨⟨⟨h1, h2⟩, h3⟩, h4⟩, h5⟩, h6⟩, h7⟩, h8⟩, h9⟩, h10⟩ := h
 have P5 := boundB_ok h5
 have i1 : (decide (0 ≤ (c.2.1.length : Int)) && decide ((c.2.1.length : Int) < (d.length : Int))) = true := in_natD h1
 have i2 : (decide (0 ≤ (c.2.1.length : Int)) && decide ((c.2.1.length : Int) ≤ (d.length : Int))) = true := by rw [decide_eq_true (by omega), decide_eq_true (by omega)]; rfl
 have cb : cutB (d.getD c.2.1.length dom0) (andKB truthsD) = true := dom_cut h2 fun a ha => by
  unfold andKB wordB
  rw [ha, show nearB truthsD.1 = true by decide +kernel]
  rfl
 have lb := P5.lb
 have cl := P5.cl
 have w1 : IntKind.i64.wrap (0 - lowsD (turnedL c.2.2.2.1) (d.take c.2.1.length)) = -(lowsD (turnedL c.2.2.2.1) (d.take c.2.1.length)) := by
  have lt' : lowsB (turnedL c.2.2.2.1) (d.take c.2.1.length) = true := h4
  have := lows_abs lt'
  rw [wrap_ok (by omega) (by omega)]
  omega
 have w2 : IntKind.i64.wrap (IntKind.i64.wrap (0 - c.2.2.2.2.2.2.1) - 1) = -c.2.2.2.2.2.2.1 - 1 := by
  have h7 : -10000000000 ≤ c.2.2.2.2.2.2.1 := h7
  have h8 : c.2.2.2.2.2.2.1 ≤ 10000000000 := h8
  rw [wrap_ok (x := 0 - c.2.2.2.2.2.2.1) (by omega) (by omega), wrap_ok (by omega) (by omega)]
  omega
 have tl : (d.take c.2.1.length).length ≤ 1000000 := (clone_le cl).2
 have b0 : bigB 0 = true := rfl
 have b1 : bigB 1 = true := rfl
 have k1 : ∀ b : Dom, decide (((boundD c.2.2.2.1 c.2.2.2.2.2.2.1 (d.take c.2.1.length)).1.length + [b].length) * 56 ≤ LIM) = true := fun b => lim_app (Nat.le_trans bound_len tl)
 have k2 : ∀ b : Dom, decide (((boundD (turnedL c.2.2.2.1) (-c.2.2.2.2.2.2.1 - 1) (d.take c.2.1.length)).1.length + [b].length) * 56 ≤ LIM) = true := fun b => lim_app (Nat.le_trans bound_len tl)
 have k3 : ∀ b : Dom, decide (((d.take c.2.1.length).length + [b].length) * 56 ≤ LIM) = true := fun b => lim_app tl
 have k4 : ∀ b : Dom, decide ([b].length * 56 ≤ LIM) = true := fun b => decide_eq_true (show 1 * 56 ≤ 140737488355328 by omega)
 have bb : boundB c.2.2.2.1 c.2.2.2.2.2.2.1 (d.take c.2.1.length) = true := h5
 have bt : boundB (turnedL c.2.2.2.1) (-c.2.2.2.2.2.2.1 - 1) (d.take c.2.1.length) = true := h6
 have tb : turnedB c.2.2.2.1 = true := h3
 have lt : lowsB (turnedL c.2.2.2.1) (d.take c.2.1.length) = true := h4
 have st := F381.start_eq 1 c d _ rfl _ rfl _ rfl _ rfl _ rfl _ rfl _ rfl _ rfl _ rfl _ rfl
 rw [show (((0 : Int), ([] : List Int), (0 : Int), (0 : Int), (0 : Int)) : Dom) = dom0 from rfl] at st
 simp only [Int.toNat_natCast, i1, i2, cb, tb, lt, lb, w1, w2, cl, bb, bt, b0, b1, Bool.and_true, cond_true] at st
 have fin : ∀ b : Dom, lastD c d = b → (∀ r : AV, (bif decide (sizeD b > 0) then
   (bif decide (sizeD b = 1) then
    (bif decide (minD b = 1) then
     (bif (boundD c.2.2.2.1 c.2.2.2.2.2.2.1 (d.take c.2.1.length)).2.2 then some (AV.tup [.v (.sl DomT) ((boundD c.2.2.2.1 c.2.2.2.2.2.2.1 (d.take c.2.1.length)).1 ++ [b]), .v .bool true]) else some (.tup [.v (.sl DomT) [b], .v .bool false]))
    else
     (bif (boundD (turnedL c.2.2.2.1) (-c.2.2.2.2.2.2.1 - 1) (d.take c.2.1.length)).2.2 then some (AV.tup [.v (.sl DomT) ((boundD (turnedL c.2.2.2.1) (-c.2.2.2.2.2.2.1 - 1) (d.take c.2.1.length)).1 ++ [b]), .v .bool true]) else some (.tup [.v (.sl DomT) [b], .v .bool false])))
   else some (AV.tup [.v (.sl DomT) (d.take c.2.1.length ++ [b]), .v .bool true]))
  else some (AV.tup [.v (.sl DomT) (d.take c.2.1.length ++ [b]), .v .bool false])) = some r → WA r (.tup [.v (.sl DomT) (reifiedF c d).1, .v .bool (reifiedF c d).2])) := by
  intro b hb r hr
  have e0 : ∀ (cc : List Int) (mm : Int) (dd : List Dom), (boundD cc mm dd).2.2 = false → (boundD cc mm dd).1 = [] := fun cc mm dd h => by
   unfold boundD at h ⊢
   cases hg : boundGo (lowsD cc dd) mm cc dd with
   | none => rfl
   | some r => rw [hg] at h; cases h
  unfold reifiedF
  rw [hb]
  by_cases c1 : sizeD b > 0
  ·simp only [c1, decide_true, cond_true, if_true] at hr ⊢
   by_cases c2 : sizeD b = 1
   ·simp only [c2, decide_true, cond_true, if_true] at hr ⊢
    by_cases c3 : minD b = 1
    ·simp only [c3, decide_true, cond_true, if_true] at hr ⊢
     cases hq : (boundD c.2.2.2.1 c.2.2.2.2.2.2.1 (d.take c.2.1.length)).2.2 with
     | true =>
      rw [hq] at hr
      obtain rfl := Option.some.inj hr
      exact WA.refl _
     | false =>
      rw [hq] at hr
      obtain rfl := Option.some.inj hr
      rw [show (boundD (cC c) (cK c) (d.take c.2.1.length)).1 = [] from e0 _ _ _ hq]
      exact WA.refl _
    ·simp only [c3, decide_false, cond_false, if_false] at hr ⊢
     cases hq : (boundD (turnedL c.2.2.2.1) (-c.2.2.2.2.2.2.1 - 1) (d.take c.2.1.length)).2.2 with
     | true =>
      rw [hq] at hr
      obtain rfl := Option.some.inj hr
      exact WA.refl _
     | false =>
      rw [hq] at hr
      obtain rfl := Option.some.inj hr
      rw [show (boundD (turnedL (cC c)) (-(cK c) - 1) (d.take c.2.1.length)).1 = [] from e0 _ _ _ hq]
      exact WA.refl _
   ·simp only [c2, decide_false, cond_false, if_false] at hr ⊢
    obtain rfl := Option.some.inj hr
    exact WA.refl _
  ·simp only [c1, decide_false, cond_false, if_false] at hr ⊢
   obtain rfl := Option.some.inj hr
   exact WA.refl _
 have all : ∀ b : Dom, ∃ r : AV, (bif decide (sizeD b > 0) then
   (bif decide (sizeD b = 1) then
    (bif decide (minD b = 1) then
     (bif (boundD c.2.2.2.1 c.2.2.2.2.2.2.1 (d.take c.2.1.length)).2.2 then some (AV.tup [.v (.sl DomT) ((boundD c.2.2.2.1 c.2.2.2.2.2.2.1 (d.take c.2.1.length)).1 ++ [b]), .v .bool true]) else some (.tup [.v (.sl DomT) [b], .v .bool false]))
    else
     (bif (boundD (turnedL c.2.2.2.1) (-c.2.2.2.2.2.2.1 - 1) (d.take c.2.1.length)).2.2 then some (AV.tup [.v (.sl DomT) ((boundD (turnedL c.2.2.2.1) (-c.2.2.2.2.2.2.1 - 1) (d.take c.2.1.length)).1 ++ [b]), .v .bool true]) else some (.tup [.v (.sl DomT) [b], .v .bool false])))
   else some (AV.tup [.v (.sl DomT) (d.take c.2.1.length ++ [b]), .v .bool true]))
  else some (AV.tup [.v (.sl DomT) (d.take c.2.1.length ++ [b]), .v .bool false])) = some r := fun b => by
  cases decide (sizeD b > 0) <;> cases decide (sizeD b = 1) <;> cases decide (minD b = 1) <;> cases (boundD c.2.2.2.1 c.2.2.2.2.2.2.1 (d.take c.2.1.length)).2.2 <;> cases (boundD (turnedL c.2.2.2.1) (-c.2.2.2.2.2.2.1 - 1) (d.take c.2.1.length)).2.2 <;> exact ⟨_, rfl⟩
 by_cases c1 : -(lowsD (turnedL c.2.2.2.1) (d.take c.2.1.length)) ≤ c.2.2.2.2.2.2.1
 ·have d0 : domB (cutD (d.getD c.2.1.length dom0) (andK truthsD)).1 = true := h9.resolve_left fun h => h c1
  by_cases c2 : lowsD c.2.2.2.1 (d.take c.2.1.length) > c.2.2.2.2.2.2.1
  ·have d1 : domB (withoutD (cutD (d.getD c.2.1.length dom0) (andK truthsD)).1 0).1 = true := by
    have := h10.resolve_left fun h => h c2
    rwa [if_pos c1] at this
   have hl : lastD c d = (withoutD (withoutD (cutD (d.getD c.2.1.length dom0) (andK truthsD)).1 0).1 1).1 := by
    unfold lastD
    simp only [show (-(lowsD (turnedL (cC c)) (d.take c.2.1.length)) ≤ cK c) from c1, show lowsD (cC c) (d.take c.2.1.length) > cK c from c2, if_true]
   simp only [c1, c2, d0, d1, decide_true, cond_true] at st
   obtain ⟨r, hr⟩ := all ((withoutD (withoutD (cutD (d.getD c.2.1.length dom0) (andK truthsD)).1 0).1 1).1)
   refine ⟨r, st.trans (Eq.trans ?_ hr), fin ((withoutD (withoutD (cutD (d.getD c.2.1.length dom0) (andK truthsD)).1 0).1 1).1) hl r hr⟩
   simp only [k1, k2, k3, k4, cond_true]
   cases decide (sizeD ((withoutD (withoutD (cutD (d.getD c.2.1.length dom0) (andK truthsD)).1 0).1 1).1) > 0) <;> cases decide (sizeD ((withoutD (withoutD (cutD (d.getD c.2.1.length dom0) (andK truthsD)).1 0).1 1).1) = 1) <;> cases decide (minD ((withoutD (withoutD (cutD (d.getD c.2.1.length dom0) (andK truthsD)).1 0).1 1).1) = 1) <;> simp only [cond_true, cond_false]
  ·have hl : lastD c d = (withoutD (cutD (d.getD c.2.1.length dom0) (andK truthsD)).1 0).1 := by
    unfold lastD
    simp only [show (-(lowsD (turnedL (cC c)) (d.take c.2.1.length)) ≤ cK c) from c1, show ¬ lowsD (cC c) (d.take c.2.1.length) > cK c from c2, if_true, if_false]
   simp only [c1, c2, d0, decide_true, decide_false, cond_true, cond_false] at st
   obtain ⟨r, hr⟩ := all ((withoutD (cutD (d.getD c.2.1.length dom0) (andK truthsD)).1 0).1)
   refine ⟨r, st.trans (Eq.trans ?_ hr), fin ((withoutD (cutD (d.getD c.2.1.length dom0) (andK truthsD)).1 0).1) hl r hr⟩
   simp only [k1, k2, k3, k4, cond_true]
   cases decide (sizeD ((withoutD (cutD (d.getD c.2.1.length dom0) (andK truthsD)).1 0).1) > 0) <;> cases decide (sizeD ((withoutD (cutD (d.getD c.2.1.length dom0) (andK truthsD)).1 0).1) = 1) <;> cases decide (minD ((withoutD (cutD (d.getD c.2.1.length dom0) (andK truthsD)).1 0).1) = 1) <;> simp only [cond_true, cond_false]
 ·by_cases c2 : lowsD c.2.2.2.1 (d.take c.2.1.length) > c.2.2.2.2.2.2.1
  ·have d1 : domB (cutD (d.getD c.2.1.length dom0) (andK truthsD)).1 = true := by
    have := h10.resolve_left fun h => h c2
    rwa [if_neg c1] at this
   have hl : lastD c d = (withoutD (cutD (d.getD c.2.1.length dom0) (andK truthsD)).1 1).1 := by
    unfold lastD
    simp only [show ¬ (-(lowsD (turnedL (cC c)) (d.take c.2.1.length)) ≤ cK c) from c1, show lowsD (cC c) (d.take c.2.1.length) > cK c from c2, if_true, if_false]
   simp only [c1, c2, d1, decide_true, decide_false, cond_true, cond_false] at st
   obtain ⟨r, hr⟩ := all ((withoutD (cutD (d.getD c.2.1.length dom0) (andK truthsD)).1 1).1)
   refine ⟨r, st.trans (Eq.trans ?_ hr), fin ((withoutD (cutD (d.getD c.2.1.length dom0) (andK truthsD)).1 1).1) hl r hr⟩
   simp only [k1, k2, k3, k4, cond_true]
   cases decide (sizeD ((withoutD (cutD (d.getD c.2.1.length dom0) (andK truthsD)).1 1).1) > 0) <;> cases decide (sizeD ((withoutD (cutD (d.getD c.2.1.length dom0) (andK truthsD)).1 1).1) = 1) <;> cases decide (minD ((withoutD (cutD (d.getD c.2.1.length dom0) (andK truthsD)).1 1).1) = 1) <;> simp only [cond_true, cond_false]
  ·have hl : lastD c d = (cutD (d.getD c.2.1.length dom0) (andK truthsD)).1 := by
    unfold lastD
    simp only [show ¬ (-(lowsD (turnedL (cC c)) (d.take c.2.1.length)) ≤ cK c) from c1, show ¬ lowsD (cC c) (d.take c.2.1.length) > cK c from c2, if_false]
   simp only [c1, c2, decide_false, cond_false] at st
   obtain ⟨r, hr⟩ := all ((cutD (d.getD c.2.1.length dom0) (andK truthsD)).1)
   refine ⟨r, st.trans (Eq.trans ?_ hr), fin ((cutD (d.getD c.2.1.length dom0) (andK truthsD)).1) hl r hr⟩
   simp only [k1, k2, k3, k4, cond_true]
   cases decide (sizeD ((cutD (d.getD c.2.1.length dom0) (andK truthsD)).1) > 0) <;> cases decide (sizeD ((cutD (d.getD c.2.1.length dom0) (andK truthsD)).1) = 1) <;> cases decide (minD ((cutD (d.getD c.2.1.length dom0) (andK truthsD)).1) = 1) <;> simp only [cond_true, cond_false]
theorem F339.out (k : Nat) (p : List Dom × Bool) : ∃ r, F339.n1_1_1_1_1 k (F339.kt k [1, 1, 1, 1, 1]) p.1 p.2 = some r ∧ WA r (.tup [.v (.sl DomT) (bif p.2 then (p.1, true) else ([], false) : List Dom × Bool).1, .v .bool (bif p.2 then (p.1, true) else ([], false) : List Dom × Bool).2]) := by
 obtain ⟨l, b⟩ := p
 cases b with
 | true => exact ⟨_, (F339.n1_1_1_1_1_eq k _ l true).trans ((bF' rfl).trans (F339.c1 k l)), WA.refl _⟩
 | false => exact ⟨_, (F339.n1_1_1_1_1_eq k _ l false).trans ((bT' rfl).trans (F339.c0 k)), .tup (.cons (.one (by simp) (.nl _)) (.cons (.one (by simp) (.same _)) .nil))⟩
theorem F339.sem (k : Nat) (c : Con) (d : List Dom) (h : linFB c d = true) : ∃ r, callW F339.E false F339.fn k [.agg (explode ConT c), .v (.sl DomT) d] = some r ∧ WA r (.tup [.v (.sl DomT) (linF c d).1, .v .bool (linF c d).2]) := by
 unfold linFB at h
 rw [Bool.and_eq_true] at h
 have st := (F339.start_eq k c d).trans (bT' h.1)
 unfold linF
 cases hf : fitsD c d 1 4 with
 | false => exact ⟨_, st.trans (bT' (by rw [hf]; rfl)), .tup (.cons (.one (by simp) (.nl _)) (.cons (.one (by simp) (.same _)) .nil))⟩
 | true =>
  have hk : linKB c d = true := by
   have := h.2
   rw [hf] at this
   simpa using this
  have st1 := st.trans (bF' (by rw [hf]; rfl))
  have kind : 1 ≤ c.1 ∧ c.1 ≤ 4 := by
   unfold fitsD at hf
   simp only [Bool.and_eq_true, decide_eq_true_eq] at hf
   exact ⟨hf.1.1.1.1, hf.1.1.1.2⟩
  unfold linKB at hk
  unfold linKF
  rw [cond_true]
  by_cases c1 : c.1 = 1
  ·rw [if_pos c1] at hk ⊢
   have o := F339.out k (equalF c d)
   rw [← st1.trans ((bT' (decide_eq_true c1)).trans (bT' hk))] at o
   exact o
  ·rw [if_neg c1] at hk ⊢
   have st2 := st1.trans (bF' (decide_eq_false c1))
   by_cases c2 : c.1 = 2
   ·rw [if_pos c2] at hk ⊢
    have o := F339.out k ((boundD (cC c) (cK c) d).1, (boundD (cC c) (cK c) d).2.2)
    have e := st2.trans ((bT' (decide_eq_true c2)).trans (bT' hk))
    obtain ⟨r, e1, e2⟩ := o
    exact ⟨r, e.trans e1, e2⟩
   ·rw [if_neg c2] at hk ⊢
    have st3 := st2.trans (bF' (decide_eq_false c2))
    by_cases c3 : c.1 = 3
    ·rw [if_pos c3] at hk ⊢
     rw [Bool.and_eq_true] at hk
     obtain ⟨r, e1, e2⟩ := F339.out k (unlikeF c d)
     exact ⟨r, (st3.trans ((bT' (decide_eq_true c3)).trans ((bT' hk.1).trans (bT' hk.2)))).trans e1, e2⟩
    ·rw [if_neg c3] at hk ⊢
     obtain ⟨r, e1, e2⟩ := F339.out k (reifiedF c d)
     exact ⟨r, (st3.trans ((bF' (decide_eq_false c3)).trans ((bT' (decide_eq_true (show c.1 = 4 by omega))).trans (bT' hk)))).trans e1, e2⟩
end Go.Proofs.YtnojoaghcbljfaaGreatDoor.Ev
