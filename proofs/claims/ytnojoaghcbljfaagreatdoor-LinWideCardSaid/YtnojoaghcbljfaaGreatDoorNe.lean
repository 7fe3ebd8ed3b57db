/-
Linear constraints: what the filter's functions answer.
Conditions: as the handlers ask.
-/
import Derived.Test.YtnojoaghcbljfaaGreatDoorNd
import Derived.Test.YtnojoaghcbljfaaGreatDoorNb
import Derived.Test.YtnojoaghcbljfaaGreatDoorCr
set_option linter.unusedVariables false
set_option linter.unusedSimpArgs false
set_option maxRecDepth 100000
namespace Go.Proofs.YtnojoaghcbljfaaGreatDoor.Ev
open Go
theorem hand_if2 {P : Program} {I : World → Prop} {g : Nat} {ts : List Ty} {c d : DL ts → Bool} {v w : DL ts → AV} (h1 : ∀ xs, c xs = true → d xs = true → CallSpec P I g (argsN ts xs) (v xs)) (h2 : ∀ xs, c xs = true → d xs = false → CallSpec P I g (argsN ts xs) (w xs)) :
  HandOk P I g (handN ts fun xs κ => bif c xs then (bif d xs then κ (v xs) else κ (w xs)) else none) := by
 refine handN_ok fun xs κ r hr => ?_
 cases hc : c xs with
 | false => simp [hc] at hr
 | true =>
  cases hd : d xs with
  | true =>
   simp only [hc, hd, cond_true] at hr
   exact ⟨_, hr, h1 xs hc hd⟩
  | false =>
   simp only [hc, hd, cond_true, cond_false] at hr
   exact ⟨_, hr, h2 xs hc hd⟩
theorem sums_iff {a : Int} (h : sumsB a = true) : -1099511627776000 ≤ a ∧ a ≤ 1099511627776000 := by
 unfold sumsB at h
 simp only [Bool.and_eq_true, decide_eq_true_eq] at h
 exact h
structure BoundP (c : List Int) (most : Int) (d : List Dom) : Prop where
  l : LowsP c d
  lb : lowsB c d = true
  m : -1099511627776000 ≤ most ∧ most ≤ 1099511627776000
  cl : cloneB d = true
  d : ∀ x ∈ d, domB x = true
theorem boundB_ok {c : List Int} {most : Int} {d : List Dom} (h : boundB c most d = true) : BoundP c most d := by
 unfold boundB at h
 simp only [Bool.and_eq_true, List.all_eq_true] at h
 exact ⟨lowsB_ok h.1.1.1, h.1.1.1, sums_iff h.1.1.2, h.2, h.1.2⟩
theorem bound_loop (L : Nat → Bool → Int → List Dom → Option AV) (fail : Option AV) (fin : Bool → List Dom → Option AV) {c : List Int} {most : Int} {d : List Dom} (P : BoundP c most d)
  (hs : ∀ n ch i out, L (n + 1) ch i out = bif decide (i < (c.length : Int)) then (bif decide (0 ≤ i) && decide (i < (c.length : Int)) then (bif decide (0 ≤ i) && decide (i < (d.length : Int)) then
   (bif leastB (c.getD i.toNat 0) (d.getD i.toNat dom0) then (bif decide (0 ≤ i) && decide (i < (d.length : Int)) then
   (bif cutTB (c.getD i.toNat 0) (IntKind.i64.wrap (most - IntKind.i64.wrap (lowsD c d - leastT (c.getD i.toNat 0) (d.getD i.toNat dom0)))) (d.getD i.toNat dom0) then
   (bif decide ((cutT (c.getD i.toNat 0) (IntKind.i64.wrap (most - IntKind.i64.wrap (lowsD c d - leastT (c.getD i.toNat 0) (d.getD i.toNat dom0)))) (d.getD i.toNat dom0)).2 = 4) then fail else
   (bif decide (0 ≤ i) && decide (i < (out.length : Int)) then
   (bif ch then L n true (IntKind.i64.wrap (i + 1)) (out.set i.toNat (cutT (c.getD i.toNat 0) (IntKind.i64.wrap (most - IntKind.i64.wrap (lowsD c d - leastT (c.getD i.toNat 0) (d.getD i.toNat dom0)))) (d.getD i.toNat dom0)).1)
   else L n (!(decide ((cutT (c.getD i.toNat 0) (IntKind.i64.wrap (most - IntKind.i64.wrap (lowsD c d - leastT (c.getD i.toNat 0) (d.getD i.toNat dom0)))) (d.getD i.toNat dom0)).2 = 0))) (IntKind.i64.wrap (i + 1)) (out.set i.toNat (cutT (c.getD i.toNat 0) (IntKind.i64.wrap (most - IntKind.i64.wrap (lowsD c d - leastT (c.getD i.toNat 0) (d.getD i.toNat dom0)))) (d.getD i.toNat dom0)).1))
   else none)) else none) else none) else none) else none) else none) else fin ch out) :
  L 1002 false 0 d = match boundGo (lowsD c d) most c d with
   | none => fail
   | some r => fin r.2 r.1 := by
 have l1 := P.l.len
 have l2 := P.l.le
 have hall := lows_abs P.lb
 have hm := P.m
 have key : ∀ (m i n : Nat) (ch : Bool) (pre : List Dom), i + m = c.length → m < n → pre.length = i →
   L n ch (i : Int) (pre ++ d.drop i) = match boundGo (lowsD c d) most (c.drop i) (d.drop i) with
    | none => fail
    | some r => fin (ch || r.2) (pre ++ r.1) := by
  intro m
  induction m with
  | zero =>
   intro i n ch pre h1 h2 h3
   obtain ⟨n', rfl⟩ : ∃ n', n = n' + 1 := ⟨n - 1, by omega⟩
   obtain rfl : i = c.length := by omega
   rw [List.drop_length]
   refine (hs n' ch _ _).trans (self_lt'.trans ?_)
   unfold boundGo
   simp
  | succ m ih =>
   intro i n ch pre h1 h2 h3
   obtain ⟨n', rfl⟩ : ∃ n', n = n' + 1 := ⟨n - 1, by omega⟩
   have hi : i < c.length := by omega
   have hd : i < d.length := by omega
   have hb := P.l.at hi
   have p := least_range hb
   have w : IntKind.i64.wrap ((i : Int) + 1) = ((i + 1 : Nat) : Int) := by rw [wrap_ok (by omega) (by omega)]; omega
   have e1 : IntKind.i64.wrap (lowsD c d - leastT (c.getD i 0) (d.getD i dom0)) = lowsD c d - leastT (c.getD i 0) (d.getD i dom0) := wrap_ok (by omega) (by omega)
   have e2 : IntKind.i64.wrap (most - (lowsD c d - leastT (c.getD i 0) (d.getD i dom0))) = most - (lowsD c d - leastT (c.getD i 0) (d.getD i dom0)) := wrap_ok (by omega) (by omega)
   have hct : cutTB (c.getD i 0) (most - (lowsD c d - leastT (c.getD i 0) (d.getD i dom0))) (d.getD i dom0) = true := by
    unfold cutTB bigB
    rw [P.d _ (getD_memD hd dom0), decide_eq_true (by omega), decide_eq_true (by omega)]
    rfl
   have hol : i < (pre ++ d.drop i).length := by rw [List.length_append, List.length_drop]; omega
   have hset : ∀ x, (pre ++ d.drop i).set i x = (pre ++ [x]) ++ d.drop (i + 1) := fun x => by
    rw [List.set_append, if_neg (by omega), h3, Nat.sub_self, drop_getD hd dom0]
    simp
   refine (hs n' ch _ _).trans ?_
   rw [Int.toNat_natCast, e1, e2, w]
   refine (bT' (decide_eq_true (by omega))).trans ((bT' (in_natD hi)).trans ((bT' (in_natD hd)).trans ((bT' hb).trans ((bT' (in_natD hd)).trans ((bT' hct).trans ?_)))))
   rw [drop_getD hi 0]
   conv => rhs; rw [drop_getD hd dom0]
   unfold boundGo
   generalize hx : cutT (c.getD i 0) (most - (lowsD c d - leastT (c.getD i 0) (d.getD i dom0))) (d.getD i dom0) = x
   by_cases c4 : x.2 = 4
   ·rw [if_pos c4]
    exact bT' (decide_eq_true c4)
   ·rw [if_neg c4]
    refine (bF' (decide_eq_false c4)).trans ((bT' (in_natD hol)).trans ?_)
    rw [hset]
    have go := fun ch' => ih (i + 1) n' ch' (pre ++ [x.1]) (by omega) (by omega) (by simp [h3])
    cases ch with
    | true =>
     refine (bT' rfl).trans ((go true).trans ?_)
     cases boundGo (lowsD c d) most (c.drop (i + 1)) (d.drop (i + 1)) with
     | none => rfl
     | some r => simp
    | false =>
     refine (bF' rfl).trans ((go _).trans ?_)
     cases boundGo (lowsD c d) most (c.drop (i + 1)) (d.drop (i + 1)) with
     | none => rfl
     | some r => simp
 have := key c.length 0 1002 false [] (by omega) (by omega) rfl
 rw [List.nil_append, List.drop_zero, List.drop_zero] at this
 refine this.trans ?_
 cases boundGo (lowsD c d) most c d with
 | none => rfl
 | some r => simp
theorem F378.sem (c : List Int) (most : Int) (d : List Dom) (h : boundB c most d = true) : ∃ r, callW F378.E false F378.fn 1002 [.v (.sl (.int .i64)) c, .v (.int .i64) most, .v (.sl DomT) d] = some r ∧
  WA r (.tup [.v (.sl DomT) (boundD c most d).1, .v .bool (boundD c most d).2.1, .v .bool (boundD c most d).2.2]) := by
 have P := boundB_ok h
 have lp := bound_loop (fun n ch i out => F378.l1_1_1_1_0_1_0 n (F378.kt 1002 [1, 1, 1, 1, 0, 1, 0]) most d (lowsD c d) ch c (c.length : Int) i out) _ _ P (fun n ch i out => F378.l1_1_1_1_0_1_0_eq n _ most d (lowsD c d) ch c _ i out)
 have st := (F378.start_eq 1002 c most d).trans ((bT' P.lb).trans ((bT' P.cl).trans lp))
 unfold boundD
 cases hg : boundGo (lowsD c d) most c d with
 | none =>
  rw [hg] at st
  exact ⟨_, st.trans (F378.c0 1002), .tup (.cons (.one (by simp) (.nl _)) (.cons (.one (by simp) (.same _)) (.cons (.one (by simp) (.same _)) .nil)))⟩
 | some r =>
  rw [hg] at st
  exact ⟨_, st.trans (F378.c1 1002 r.2 r.1), WA.refl _⟩
theorem F378o.sem (c : List Int) (most : Int) (d : List Dom) (h : boundB c most d = true) : callW F378o.E true F378o.fn 1002 [.v (.sl (.int .i64)) c, .v (.int .i64) most, .v (.sl DomT) d] =
  bif (boundD c most d).2.2 then some (.tup [.nw 47 DomT (boundD c most d).1, .v .bool (boundD c most d).2.1, .v .bool true]) else some (.tup [.nl, .v .bool false, .v .bool false]) := by
 have P := boundB_ok h
 have lp := bound_loop (fun n ch i out => F378o.l1_1_1_1_0_1_0 n (F378o.kt 1002 [1, 1, 1, 1, 0, 1, 0]) most d (lowsD c d) ch c (c.length : Int) i out) _ _ P (fun n ch i out => F378o.l1_1_1_1_0_1_0_eq n _ most d (lowsD c d) ch c _ i out)
 have st := (F378o.start_eq 1002 c most d).trans ((bT' P.lb).trans ((bT' P.cl).trans lp))
 unfold boundD
 cases hg : boundGo (lowsD c d) most c d with
 | none =>
  rw [hg] at st
  exact st.trans (F378o.c0 1002)
 | some r =>
  rw [hg] at st
  exact st.trans (F378o.c1 1002 r.2 r.1)
theorem neg_wrap {K : Int} (h : -1099511627776000 ≤ K ∧ K ≤ 1099511627776000) : IntKind.i64.wrap (0 - K) = -K := by
 rw [wrap_ok (by omega) (by omega)]
 omega
theorem F377.loop (k : Nat) (m : Int) (A B C D E : List Int) (K : Int) (R : List (List Int)) : ∀ (n : Nat) (d : List Dom), equalOk C K n d = true →
  ∃ r, F377.l1_0 n (F377.kt k [1, 0]) d m A B C D E K R = some r ∧ WA r (.tup [.v (.sl DomT) (equalGo C K n d).1, .v .bool (equalGo C K n d).2])
 | 0, d, h => by simp [equalOk] at h
 | n + 1, d, h => by
  unfold equalOk at h
  rw [Bool.and_eq_true, Bool.and_eq_true] at h
  obtain ⟨⟨h1, h2⟩, h3⟩ := h
  have P := boundB_ok h1
  have st := (F377.l1_0_eq n (F377.kt k [1, 0]) d m A B C D E K R).trans (bT' h1)
  have nil : ∀ {r : Option AV}, r = some (.tup [.nl, .v .bool false]) → ∃ q, r = some q ∧ WA q (.tup [.v (.sl DomT) ([] : List Dom), .v .bool false]) := fun e => ⟨_, e, .tup (.cons (.one (by simp) (.nl _)) (.cons (.one (by simp) (.same _)) .nil))⟩
  unfold equalGo
  cases c1 : (boundD C K d).2.2 with
  | false => exact nil (st.trans ((bT' (by rw [c1]; rfl)).trans (F377.c0 k)))
  | true =>
   rw [c1] at h3
   have h3 : (boundB (turnedL C) (-K) (boundD C K d).1 && (!(boundD (turnedL C) (-K) (boundD C K d).1).2.2 || (!((boundD C K d).2.1 || (boundD (turnedL C) (-K) (boundD C K d).1).2.1) || equalOk C K n (boundD (turnedL C) (-K) (boundD C K d).1).1))) = true := h3
   rw [Bool.and_eq_true] at h3
   obtain ⟨h4, h5⟩ := h3
   have nw := neg_wrap P.m
   have st1 := st.trans ((bF' (by rw [c1]; rfl)).trans (bT' h2))
   rw [nw] at st1
   have st2 := st1.trans (bT' h4)
   cases c2 : (boundD (turnedL C) (-K) (boundD C K d).1).2.2 with
   | false => exact nil (st2.trans ((bT' (by rw [c2]; rfl)).trans (F377.c0 k)))
   | true =>
    rw [c2] at h5
    have h5 : (!((boundD C K d).2.1 || (boundD (turnedL C) (-K) (boundD C K d).1).2.1) || equalOk C K n (boundD (turnedL C) (-K) (boundD C K d).1).1) = true := h5
    have st3 := st2.trans (bF' (by rw [c2]; rfl))
    cases c3 : (boundD C K d).2.1 with
    | false =>
     have st4 := st3.trans (bT' (by rw [c3]; rfl))
     cases c4 : (boundD (turnedL C) (-K) (boundD C K d).1).2.1 with
     | false => exact ⟨_, st4.trans ((bT' (by rw [c4]; rfl)).trans (F377.c1 k _)), WA.refl _⟩
     | true =>
      rw [c3, c4] at h5
      obtain ⟨r, e1, e2⟩ := F377.loop k m A B C D E K R n _ h5
      exact ⟨r, st4.trans ((bF' (by rw [c4]; rfl)).trans e1), e2⟩
    | true =>
     rw [c3] at h5
     obtain ⟨r, e1, e2⟩ := F377.loop k m A B C D E K R n _ h5
     exact ⟨r, st3.trans ((bF' (by rw [c3]; rfl)).trans e1), e2⟩
theorem F377.sem (c : Con) (d : List Dom) (h : equalB c d = true) : ∃ r, callW F377.E false F377.fn 100000 [.agg (explode ConT c), .v (.sl DomT) d] = some r ∧ WA r (.tup [.v (.sl DomT) (equalF c d).1, .v .bool (equalF c d).2]) := by
 obtain ⟨r, e1, e2⟩ := F377.loop 100000 c.1 c.2.1 c.2.2.1 c.2.2.2.1 c.2.2.2.2.1 c.2.2.2.2.2.1 c.2.2.2.2.2.2.1 c.2.2.2.2.2.2.2 100000 d h
 exact ⟨r, (F377.start_eq 100000 c d).trans e1, e2⟩
theorem F379.loop (k : Nat) (d : List Dom) (m : Int) (A B C D E : List Int) (K : Int) (R : List (List Int)) (P : LowsP C d) : ∀ (q i n : Nat) (at_ sum : Int), i + q = C.length → q < n → -1000000000000 * (i : Int) ≤ sum → sum ≤ 1000000000000 * (i : Int) →
  F379.l1_1_0_1_0 n (F379.kt k [1, 1, 0, 1, 0]) d at_ sum C (C.length : Int) (i : Int) m A B C D E K R =
  match openGo at_ sum (i : Int) (C.drop i) (d.drop i) with
  | none => some (.tup [.v (.sl DomT) d, .v .bool true])
  | some p => exitK (F379.kt k [1, 1, 0, 1, 0]) 0 ⟨slots 89 [(1, .v (.sl (.pair (.int .i64) (.pair (.sl (.int .u64)) (.pair (.int .i64) (.pair (.int .i64) (.int .i64)))))) d), (2, .pb 0 0), (6, .v (.int .i64) p.1), (7, .v (.int .i64) p.2)], [.box [.v (.int .i64) m, .v (.sl (.int .i64)) A, .v (.sl (.int .i64)) B, .v (.sl (.int .i64)) C, .v (.sl (.int .i64)) D, .v (.sl (.int .i64)) E, .v (.int .i64) K, .v (.sl (.sl (.int .i64))) R]]⟩ := by
 intro q
 have l1 := P.len
 have l2 := P.le
 induction q with
 | zero =>
  intro i n at_ sum h1 h2 _ _
  obtain ⟨n', rfl⟩ : ∃ n', n = n' + 1 := ⟨n - 1, by omega⟩
  obtain rfl : i = C.length := by omega
  rw [List.drop_length]
  refine (F379.l1_1_0_1_0_eq n' _ d at_ sum C _ _ m A B C D E K R).trans (self_lt'.trans ?_)
  unfold openGo
  rfl
 | succ q ih =>
  intro i n at_ sum h1 h2 h3 h4
  obtain ⟨n', rfl⟩ : ∃ n', n = n' + 1 := ⟨n - 1, by omega⟩
  have hi : i < C.length := by omega
  have hd : i < d.length := by omega
  have hb := P.at hi
  unfold leastB endsB at hb
  rw [Bool.and_eq_true, Bool.and_eq_true] at hb
  have p := mul_mill (mill_iff' hb.1) (mill_iff' hb.2.1)
  have w : IntKind.i64.wrap ((i : Int) + 1) = ((i + 1 : Nat) : Int) := by rw [wrap_ok (by omega) (by omega)]; omega
  refine (F379.l1_1_0_1_0_eq n' _ d at_ sum C _ _ m A B C D E K R).trans ?_
  rw [Int.toNat_natCast, w, drop_getD hi 0]
  conv => rhs; rw [drop_getD hd dom0]
  unfold openGo
  have w2 : (i : Int) + 1 = ((i + 1 : Nat) : Int) := by omega
  refine (bT' (decide_eq_true (by omega))).trans ((bT' (in_natD hi)).trans ((bT' (in_natD hd)).trans ?_))
  by_cases c1 : sizeD (d.getD i dom0) = 1
  ·rw [if_pos c1, w2]
   refine (bT' (decide_eq_true c1)).trans ((bT' (in_natD hd)).trans ?_)
   have e : IntKind.i64.wrap (sum + IntKind.i64.wrap (C.getD i 0 * minD (d.getD i dom0))) = sum + C.getD i 0 * minD (d.getD i dom0) := by
    rw [wrap_ok (x := C.getD i 0 * minD (d.getD i dom0)) (by omega) (by omega), wrap_ok (by omega) (by omega)]
   refine Eq.trans ?_ (ih (i + 1) n' at_ (sum + C.getD i 0 * minD (d.getD i dom0)) (by omega) (by omega) (by omega) (by omega))
   rw [← e]
   rfl
  ·rw [if_neg c1, w2]
   refine (bF' (decide_eq_false c1)).trans ?_
   by_cases c2 : at_ ≥ 0
   ·rw [if_pos c2]
    exact (bT' (decide_eq_true c2)).trans (F379.c0 k d)
   ·rw [if_neg c2]
    exact (bF' (decide_eq_false c2)).trans (ih (i + 1) n' (i : Int) sum (by omega) (by omega) (by omega) (by omega))
theorem open_range {C : List Int} {d : List Dom} (P : LowsP C d) : ∀ (q i : Nat) (at_ sum : Int), i + q = C.length → -1000000000000 * (i : Int) ≤ sum → sum ≤ 1000000000000 * (i : Int) → -1 ≤ at_ → at_ < (C.length : Int) →
  ∀ p, openGo at_ sum (i : Int) (C.drop i) (d.drop i) = some p → (-1 ≤ p.1 ∧ p.1 < (C.length : Int)) ∧ -1000000000000 * (C.length : Int) ≤ p.2 ∧ p.2 ≤ 1000000000000 * (C.length : Int) := by
 have l1 := P.len
 intro q
 induction q with
 | zero =>
  intro i at_ sum h1 h2 h3 h4 h5 p hp
  obtain rfl : i = C.length := by omega
  rw [List.drop_length] at hp
  unfold openGo at hp
  simp only [Option.some.injEq] at hp
  subst hp
  exact ⟨⟨h4, h5⟩, by omega, by omega⟩
 | succ q ih =>
  intro i at_ sum h1 h2 h3 h4 h5 p hp
  have hi : i < C.length := by omega
  have hd : i < d.length := by omega
  have hb := P.at hi
  unfold leastB endsB at hb
  rw [Bool.and_eq_true, Bool.and_eq_true] at hb
  have pm := mul_mill (mill_iff' hb.1) (mill_iff' hb.2.1)
  rw [drop_getD hi 0, drop_getD hd dom0] at hp
  unfold openGo at hp
  have w2 : (i : Int) + 1 = ((i + 1 : Nat) : Int) := by omega
  rw [w2] at hp
  split at hp
  ·exact ih (i + 1) at_ _ (by omega) (by omega) (by omega) h4 h5 p hp
  ·split at hp
   ·cases hp
   ·exact ih (i + 1) (i : Int) sum (by omega) (by omega) (by omega) (by omega) (by omega) p hp
theorem F379.sem (c : Con) (d : List Dom) (h : unlikeB c d = true) : callW F379.E false F379.fn 1002 [.agg (explode ConT c), .v (.sl DomT) d] = some (.tup [.v (.sl DomT) (unlikeF c d).1, .v .bool (unlikeF c d).2]) := by
 unfold unlikeB at h
 simp only [Bool.and_eq_true, List.all_eq_true, decide_eq_true_eq] at h
 obtain ⟨⟨⟨⟨⟨h1, h2⟩, h3⟩, h4⟩, h5⟩, h6⟩ := h
 obtain ⟨m, A, B, C, D, E, K, R⟩ := c
 have P : LowsP C d := lowsB_ok h1
 have l1 := P.len
 have h2 : -10000000000 ≤ K := h2
 have h3 : K ≤ 10000000000 := h3
 have h6 : C.length ≤ 64 := h6
 have lp := F379.loop 1002 d m A B C D E K R P C.length 0 1002 (-1) 0 (by omega) (by omega) (by omega) (by omega)
 have rg := open_range P C.length 0 (-1) 0 (by omega) (by omega) (by omega) (by omega) (by omega)
 rw [List.drop_zero, List.drop_zero] at lp rg
 have st := (F379.start_eq 1002 (m, A, B, C, D, E, K, R) d).trans lp
 cases hg : openGo (-1) 0 0 C d with
 | none =>
  have hg' : openGo (-1) 0 ((0 : Nat) : Int) C d = none := hg
  have e : unlikeF (m, A, B, C, D, E, K, R) d = (d, true) := by
   unfold unlikeF
   rw [show openGo (-1) 0 0 (cC (m, A, B, C, D, E, K, R)) d = none from hg]
  rw [hg'] at st
  rw [e]
  exact st
 | some p =>
  have hg' : openGo (-1) 0 ((0 : Nat) : Int) C d = some p := hg
  have e : unlikeF (m, A, B, C, D, E, K, R) d = unlikeP (m, A, B, C, D, E, K, R) d p := by
   unfold unlikeF
   rw [show openGo (-1) 0 0 (cC (m, A, B, C, D, E, K, R)) d = some p from hg]
  rw [e]
  unfold unlikeP
  rw [hg'] at st
  obtain ⟨⟨r1, r2⟩, r3, r4⟩ := rg p hg'
  have st2 := st.trans (F379.c1 1002 d p.1 p.2 m A B C D E K R)
  have wn : IntKind.i64.wrap (K - p.2) = K - p.2 := wrap_ok (by omega) (by omega)
  rw [wn] at st2
  by_cases c1 : p.1 < 0
  ·rw [if_pos c1]
   exact st2.trans (bT' (decide_eq_true c1))
  ·rw [if_neg c1]
   have hi : p.1.toNat < C.length := by omega
   have st3 := st2.trans ((bF' (decide_eq_false c1)).trans (bT' (show (decide (0 ≤ p.1) && decide (p.1 < (C.length : Int))) = true by rw [decide_eq_true (by omega), decide_eq_true r2]; rfl)))
   by_cases c2 : C.getD p.1.toNat 0 = 0
   ·rw [if_pos (show (cC (m, A, B, C, D, E, K, R)).getD p.1.toNat 0 = 0 from c2)]
    exact st3.trans ((bT' (decide_eq_true c2)).trans (bF' (by rw [decide_eq_true c2]; rfl)))
   ·rw [if_neg (show ¬ (cC (m, A, B, C, D, E, K, R)).getD p.1.toNat 0 = 0 from c2)]
    have nz : (!decide (C.getD p.1.toNat 0 = 0)) = true := by rw [decide_eq_false c2]; rfl
    have st4 := st3.trans ((bF' (decide_eq_false c2)).trans (bT' nz))
    by_cases c3 : (K - p.2).tmod (C.getD p.1.toNat 0) = 0
    ·rw [if_pos (show (cK (m, A, B, C, D, E, K, R) - p.2).tmod ((cC (m, A, B, C, D, E, K, R)).getD p.1.toNat 0) = 0 from c3)]
     have tq : -4611686018427387904 ≤ (K - p.2).tdiv (C.getD p.1.toNat 0) ∧ (K - p.2).tdiv (C.getD p.1.toNat 0) ≤ 4611686018427387904 := tdiv_abs _ _ (by omega)
     have ab : ((K - p.2).tdiv (C.getD p.1.toNat 0)).natAbs ≤ (K - p.2).natAbs := by rw [Int.natAbs_tdiv]; exact Nat.div_le_self _ _
     have wq : IntKind.i64.wrap ((K - p.2).tdiv (C.getD p.1.toNat 0)) = (K - p.2).tdiv (C.getD p.1.toNat 0) := wrap_ok (by omega) (by omega)
     have hin : (decide (0 ≤ p.1) && decide (p.1 < (d.length : Int))) = true := by rw [decide_eq_true (by omega), decide_eq_true (by omega)]; rfl
     rw [wq] at st4
     have hdb : (domB (d.getD p.1.toNat dom0) && bigB ((K - p.2).tdiv (C.getD p.1.toNat 0))) = true := by
      rw [h4 _ (getD_memD (by omega) dom0)]
      unfold bigB
      rw [decide_eq_true tq.1, decide_eq_true tq.2]
      rfl
     exact st4.trans ((bF' (by rw [decide_eq_true c3]; rfl)).trans ((bT' h5).trans ((bT' hin).trans ((bT' nz).trans ((bT' hdb).trans (bT' hin))))))
    ·rw [if_neg (show ¬ (cK (m, A, B, C, D, E, K, R) - p.2).tmod ((cC (m, A, B, C, D, E, K, R)).getD p.1.toNat 0) = 0 from c3)]
     exact st4.trans ((bT' (by rw [decide_eq_false c3]; rfl)).trans (bT' nz))
end Go.Proofs.YtnojoaghcbljfaaGreatDoor.Ev
