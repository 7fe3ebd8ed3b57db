/-
Regions whose order is open: what isn't ordered doesn't meet, so any order comes to the same.
Conditions: as before; the machine follows 'mixedOrders' (so that any order is a linear extension of the edges).
-/
import Derived.Test.YtoplphfgbfcagaaEvO
import Derived.Orders
set_option linter.unusedVariables false
set_option linter.unusedSimpArgs false
namespace Go.Proofs.Ytoplphfgbfcagaa.Ev
open Go Go.RowKit

/-! ### the state after a set of operations -/
def foldB (b : Nat → Bool) : List (Oper × Ev) → Nat → St → St
  | [], _, σ => σ
  | (o, e) :: r, i, σ => foldB b r (i + 1) (bif b i then upd σ o e else σ)

theorem upd_tm (σ : St) (o : Oper) (e : Ev) : (upd σ o e).tm = match o.dst with | some d => σ.tm.set d e.val | none => σ.tm := by
  unfold upd putT
  cases o.dst <;> rfl
theorem upd_tlen (σ : St) (o : Oper) (e : Ev) : (upd σ o e).tm.length = σ.tm.length := by
  rw [upd_tm]; cases o.dst <;> simp
theorem upd_hlen (σ : St) (o : Oper) (e : Ev) : (upd σ o e).hp.length = σ.hp.length := by
  rw [upd_hp, setH_length]
theorem setH_agree {i : Nat} : ∀ {ups : List (Nat × Row)} {H H' : List Row}, H.length = H'.length → H[i]? = H'[i]? → (setH H ups)[i]? = (setH H' ups)[i]?
  | [], _, _, _, h => h
  | (j, r) :: ups, H, H', hl, h => by
    simp only [setH]
    refine setH_agree (by simp [hl]) ?_
    by_cases hj : j = i
    · subst hj
      by_cases hlt : j < H.length
      · simp [hlt, hl ▸ hlt]
      · rw [List.getElem?_eq_none (by simp; omega), List.getElem?_eq_none (by simp; omega)]
    · rw [List.getElem?_set_ne hj, List.getElem?_set_ne hj]; exact h
theorem upd_agreeT {σ σ' : St} {s : Nat} (o : Oper) (e : Ev) (hl : σ.tm.length = σ'.tm.length) (h : σ.tm[s]? = σ'.tm[s]?) : (upd σ o e).tm[s]? = (upd σ' o e).tm[s]? := by
  rw [upd_tm, upd_tm]
  cases o.dst with
  | none => exact h
  | some d =>
    simp only
    by_cases hj : d = s
    · subst hj
      rcases Nat.lt_or_ge d σ.tm.length with hlt | hlt
      · simp [hlt, hl ▸ hlt]
      · rw [List.getElem?_eq_none (l := σ.tm.set d e.val) (by rw [List.length_set]; exact hlt), List.getElem?_eq_none (l := σ'.tm.set d e.val) (by rw [List.length_set, ← hl]; exact hlt)]
    · rw [List.getElem?_set_ne hj, List.getElem?_set_ne hj]; exact h
theorem upd_offT {σ : St} {s : Nat} {o : Oper} (e : Ev) (h : o.dst ≠ some s) : (upd σ o e).tm[s]? = σ.tm[s]? := by
  rw [upd_tm]
  cases hd : o.dst with
  | none => rfl
  | some d => exact List.getElem?_set_ne fun e => h (by rw [hd, e])
theorem upd_offH {σ : St} {i : Nat} {o : Oper} {e : Ev} (h : i ∉ fsts e.ups) : (upd σ o e).hp[i]? = σ.hp[i]? := by
  rw [upd_hp]; exact setH_other _ _ h

theorem foldB_agreeT {b b' : Nat → Bool} {s : Nat} : ∀ {l : List (Oper × Ev)} {i : Nat} {σ σ' : St}, σ.tm.length = σ'.tm.length → σ.tm[s]? = σ'.tm[s]? →
    (∀ k o e, l[k]? = some (o, e) → b (i + k) = b' (i + k) ∨ o.dst ≠ some s) → (foldB b l i σ).tm[s]? = (foldB b' l i σ').tm[s]?
  | [], _, _, _, _, h, _ => h
  | (o, e) :: l, i, σ, σ', hl, h, hd => by
    simp only [foldB]
    have hd' : ∀ k o e, l[k]? = some (o, e) → b (i + 1 + k) = b' (i + 1 + k) ∨ o.dst ≠ some s := fun k o e hk => by
      have := hd (k + 1) o e (by simpa using hk)
      rw [show i + 1 + k = i + (k + 1) by omega]; exact this
    refine foldB_agreeT ?_ ?_ hd'
    · cases b i <;> cases b' i <;> simp [upd_tlen, hl]
    · rcases hd 0 o e rfl with hb | hb
      · rw [Nat.add_zero] at hb
        rw [hb]
        cases b' i
        · exact h
        · exact upd_agreeT o e hl h
      · cases b i <;> cases b' i <;> simp only [cond_true, cond_false]
        · exact h
        · rw [upd_offT e hb]; exact h
        · rw [upd_offT e hb]; exact h
        · exact upd_agreeT o e hl h
theorem upd_agreeH {σ σ' : St} {s : Nat} (o : Oper) (e : Ev) (hl : σ.hp.length = σ'.hp.length) (h : σ.hp[s]? = σ'.hp[s]?) : (upd σ o e).hp[s]? = (upd σ' o e).hp[s]? := by
  rw [upd_hp, upd_hp]; exact setH_agree hl h
theorem foldB_agreeH {b b' : Nat → Bool} {s : Nat} : ∀ {l : List (Oper × Ev)} {i : Nat} {σ σ' : St}, σ.hp.length = σ'.hp.length → σ.hp[s]? = σ'.hp[s]? →
    (∀ k o e, l[k]? = some (o, e) → b (i + k) = b' (i + k) ∨ s ∉ fsts e.ups) → (foldB b l i σ).hp[s]? = (foldB b' l i σ').hp[s]?
  | [], _, _, _, _, h, _ => h
  | (o, e) :: l, i, σ, σ', hl, h, hd => by
    simp only [foldB]
    have hd' : ∀ k o e, l[k]? = some (o, e) → b (i + 1 + k) = b' (i + 1 + k) ∨ s ∉ fsts e.ups := fun k o e hk => by
      have := hd (k + 1) o e (by simpa using hk)
      rw [show i + 1 + k = i + (k + 1) by omega]; exact this
    refine foldB_agreeH ?_ ?_ hd'
    · cases b i <;> cases b' i <;> simp [upd_hlen, hl]
    · rcases hd 0 o e rfl with hb | hb
      · rw [Nat.add_zero] at hb
        rw [hb]
        cases b' i
        · exact h
        · exact upd_agreeH o e hl h
      · cases b i <;> cases b' i <;> simp only [cond_true, cond_false]
        · exact h
        · rw [upd_offH hb]; exact h
        · rw [upd_offH hb]; exact h
        · exact upd_agreeH o e hl h
theorem foldB_none {b : Nat → Bool} : ∀ {l : List (Oper × Ev)} {i : Nat} {σ : St}, (∀ k, i ≤ k → b k = false) → foldB b l i σ = σ
  | [], _, _, _ => rfl
  | (o, e) :: l, i, σ, h => by
    simp only [foldB, h i (Nat.le_refl _), cond_false]
    exact foldB_none fun k hk => h k (by omega)
theorem foldB_congr {b b' : Nat → Bool} : ∀ {l : List (Oper × Ev)} {i : Nat} {σ : St}, (∀ k, k < l.length → b (i + k) = b' (i + k)) → foldB b l i σ = foldB b' l i σ
  | [], _, _, _ => rfl
  | (o, e) :: l, i, σ, h => by
    simp only [foldB]
    have h0 := h 0 (by simp)
    rw [Nat.add_zero] at h0
    rw [h0]
    exact foldB_congr fun k hk => by
      have := h (k + 1) (by simp; omega)
      rw [show i + 1 + k = i + (k + 1) by omega]; exact this

theorem setH_comm1 {i : Nat} {r : Row} : ∀ {ups : List (Nat × Row)} {H : List Row}, i ∉ fsts ups → setH (H.set i r) ups = (setH H ups).set i r
  | [], _, _ => rfl
  | (j, q) :: ups, H, h => by
    simp only [fsts, List.mem_cons, not_or] at h
    simp only [setH]
    rw [List.set_comm _ _ h.1, setH_comm1 h.2]
theorem setH_comm : ∀ {u v : List (Nat × Row)} {H : List Row}, (∀ i ∈ fsts u, i ∉ fsts v) → setH (setH H u) v = setH (setH H v) u
  | [], _, _, _ => rfl
  | (i, r) :: u, v, H, h => by
    simp only [setH]
    rw [setH_comm fun j hj => h j (by simp [fsts, hj])]
    rw [setH_comm1 (h i (by simp [fsts]))]
theorem upd_comm {σ : St} {o o' : Oper} {e e' : Ev} (h1 : ∀ d, o.dst = some d → o'.dst ≠ some d) (h2 : ∀ i ∈ fsts e.ups, i ∉ fsts e'.ups) : upd (upd σ o e) o' e' = upd (upd σ o' e') o e := by
  have ext : ∀ σ σ' : St, σ.tm = σ'.tm → σ.hp = σ'.hp → σ = σ' := fun σ σ' h h' => by cases σ; cases σ'; cases h; cases h'; rfl
  refine ext _ _ ?_ ?_
  · rw [upd_tm, upd_tm, upd_tm, upd_tm]
    cases hd : o.dst with
    | none => rfl
    | some d =>
      cases hd' : o'.dst with
      | none => rfl
      | some d' =>
        refine List.set_comm _ _ fun e => h1 d hd ?_
        rw [hd', e]
  · rw [upd_hp, upd_hp, upd_hp, upd_hp]
    exact setH_comm h2
theorem foldB_push {b : Nat → Bool} {o : Oper} {e : Ev} : ∀ {l : List (Oper × Ev)} {i : Nat} {σ : St}, (∀ k o' e', l[k]? = some (o', e') → b (i + k) = true → (∀ d, o'.dst = some d → o.dst ≠ some d) ∧ ∀ j ∈ fsts e'.ups, j ∉ fsts e.ups) →
    upd (foldB b l i σ) o e = foldB b l i (upd σ o e)
  | [], _, _, _ => rfl
  | (o', e') :: l, i, σ, h => by
    simp only [foldB]
    have ih := fun σ => foldB_push (b := b) (o := o) (e := e) (l := l) (i := i + 1) (σ := σ) fun k o' e' hk hb => h (k + 1) o' e' (by simpa using hk) (by rw [show i + (k + 1) = i + 1 + k by omega]; exact hb)
    rw [ih]
    cases hb : b i with
    | false => rfl
    | true =>
      obtain ⟨h1, h2⟩ := h 0 o' e' rfl (by rw [Nat.add_zero]; exact hb)
      simp only [cond_true]
      rw [upd_comm h1 h2]
def addB (b : Nat → Bool) (j : Nat) : Nat → Bool := fun i => b i || Nat.beq i j
theorem addB_ne {b : Nat → Bool} {i j : Nat} (h : i ≠ j) : addB b j i = b i := by
  unfold addB
  have : Nat.beq i j = false := by cases hb : Nat.beq i j with
    | false => rfl
    | true => exact absurd (Nat.eq_of_beq_eq_true hb) h
  rw [this, Bool.or_false]
theorem addB_self {b : Nat → Bool} {j : Nat} : addB b j j = true := by unfold addB; simp
theorem foldB_insert {b : Nat → Bool} {j : Nat} {o : Oper} {e : Ev} : ∀ {l : List (Oper × Ev)} {i : Nat} {σ : St}, i ≤ j → l[j - i]? = some (o, e) → b j = false →
    (∀ k o' e', l[k]? = some (o', e') → j < i + k → b (i + k) = true → (∀ d, o'.dst = some d → o.dst ≠ some d) ∧ ∀ q ∈ fsts e'.ups, q ∉ fsts e.ups) →
    upd (foldB b l i σ) o e = foldB (addB b j) l i σ
  | [], _, _, _, h, _, _ => by simp at h
  | (o', e') :: l, i, σ, hij, hl, hb, h => by
    have h' : ∀ k o' e', l[k]? = some (o', e') → j < i + 1 + k → b (i + 1 + k) = true → (∀ d, o'.dst = some d → o.dst ≠ some d) ∧ ∀ q ∈ fsts e'.ups, q ∉ fsts e.ups := fun k o1 e1 hk hj hbk =>
      h (k + 1) o1 e1 (by simpa using hk) (by omega) (by rw [show i + (k + 1) = i + 1 + k by omega]; exact hbk)
    by_cases hji : j = i
    · subst hji
      simp only [Nat.sub_self, List.getElem?_cons_zero, Option.some.injEq, Prod.mk.injEq] at hl
      obtain ⟨rfl, rfl⟩ := hl
      simp only [foldB, hb, addB_self, cond_true, cond_false]
      rw [foldB_push fun k o1 e1 hk hbk => h' k o1 e1 hk (by omega) hbk]
      exact foldB_congr fun k _ => (addB_ne (by omega)).symm
    · simp only [foldB]
      rw [addB_ne (by omega)]
      refine foldB_insert (by omega) ?_ hb h'
      rw [show j - i = (j - (i + 1)) + 1 by omega, List.getElem?_cons_succ] at hl
      exact hl

/-! ### the check -/
theorem elder_ok : ∀ {l : List Oper} {i : Nat}, elder l i = true → ∀ k o, l[k]? = some o → ∀ e ∈ o.after, Region.binds .any e = true → e.on < i + k
  | [], _, _, k, o, h => by simp at h
  | o :: l, i, h, k, o', hk => by
    simp only [elder, Bool.and_eq_true, List.all_eq_true, List.mem_filter, Nat.blt_eq] at h
    cases k with
    | zero =>
      simp only [List.getElem?_cons_zero, Option.some.injEq] at hk
      subst hk
      intro e he hb
      exact h.1 e ⟨by simpa using he, hb⟩
    | succ k =>
      intro e he hb
      have := elder_ok h.2 k o' (by simpa using hk) e he hb
      omega
theorem predsL_ok : ∀ {l : List Oper} {acc : List (List Nat)}, (∀ j, j < acc.length → (predsL l acc)[j]? = acc[j]?) ∧
    ∀ k o, l[k]? = some o → ∀ p ∈ (predsL l acc).getD (acc.length + k) [], ∃ e ∈ o.after, Region.binds .any e = true ∧ (p = e.on ∨ p ∈ (predsL l acc).getD e.on [])
  | [], acc => ⟨fun _ _ => rfl, fun k o h => by simp at h⟩
  | o :: l, acc => by
    simp only [predsL]
    generalize hX : ((o.after.toList.filter bindsE).flatMap fun e => e.on :: acc.getD e.on []) = X
    obtain ⟨h1, h2⟩ := predsL_ok (l := l) (acc := acc ++ [X])
    have hlow : ∀ j, j < acc.length → (predsL l (acc ++ [X]))[j]? = acc[j]? := fun j hj => by
      rw [h1 j (by simp; omega), List.getElem?_append_left hj]
    refine ⟨hlow, fun k o' hk => ?_⟩
    cases k with
    | zero =>
      simp only [List.getElem?_cons_zero, Option.some.injEq] at hk
      subst hk
      intro p hp
      have : (predsL l (acc ++ [X])).getD (acc.length + 0) [] = X := by
        rw [List.getD_eq_getElem?_getD, h1 _ (by simp)]
        simp
      rw [this, ← hX] at hp
      obtain ⟨e, he, hp⟩ := List.mem_flatMap.1 hp
      obtain ⟨he, hb⟩ := List.mem_filter.1 he
      refine ⟨e, by simpa using he, hb, ?_⟩
      rcases List.mem_cons.1 hp with rfl | hp
      · exact .inl rfl
      · right
        by_cases hl : e.on < acc.length
        · rw [List.getD_eq_getElem?_getD, hlow _ hl, ← List.getD_eq_getElem?_getD]; exact hp
        · rw [List.getD_eq_getElem?_getD, List.getElem?_eq_none (by omega)] at hp; simp at hp
    | succ k =>
      have := h2 k o' (by simpa using hk)
      rw [show (acc ++ [X]).length + k = acc.length + (k + 1) by simp; omega] at this
      exact this
theorem apartAll_ok {all : List Oper} {ps : List (List Nat)} {y : Oper} {q : Rec} {j : Nat} : ∀ {l : List (Oper × Rec)} {i : Nat}, apartAll all ps y q j l i = true →
    ∀ k x p, l[k]? = some (x, p) → (i + k) ∈ ps.getD j [] ∨ apartO all x y p q = true
  | [], _, _, k, x, p, h => by simp at h
  | (x, p) :: l, i, h, k, x', p', hk => by
    simp only [apartAll, Bool.and_eq_true, Bool.or_eq_true, memN_iff] at h
    cases k with
    | zero =>
      simp only [List.getElem?_cons_zero, Option.some.injEq, Prod.mk.injEq] at hk
      obtain ⟨rfl, rfl⟩ := hk
      exact h.1
    | succ k =>
      have := apartAll_ok h.2 k x' p' (by simpa using hk)
      rw [show i + (k + 1) = i + 1 + k by omega]; exact this
theorem indepL_ok {all : List Oper} {ps : List (List Nat)} : ∀ {l pre : List (Oper × Rec)}, indepL all ps pre l pre.length = true →
    ∀ i j x p y q, i < j → pre.length ≤ j → (pre ++ l)[i]? = some (x, p) → (pre ++ l)[j]? = some (y, q) → i ∈ ps.getD j [] ∨ apartO all x y p q = true
  | [], pre, _, i, j, x, p, y, q, hij, hj, hi, hq => by
    rw [List.append_nil, List.getElem?_eq_none hj] at hq; simp at hq
  | (y0, q0) :: l, pre, h, i, j, x, p, y, q, hij, hj, hi, hq => by
    simp only [indepL, Bool.and_eq_true] at h
    by_cases hjp : j = pre.length
    · subst hjp
      rw [List.getElem?_append_right (Nat.le_refl _), Nat.sub_self] at hq
      simp only [List.getElem?_cons_zero, Option.some.injEq, Prod.mk.injEq] at hq
      obtain ⟨rfl, rfl⟩ := hq
      rw [List.getElem?_append_left hij] at hi
      have := apartAll_ok h.1 i x p hi
      rw [Nat.zero_add] at this; exact this
    · have e : pre ++ (y0, q0) :: l = (pre ++ [(y0, q0)]) ++ l := by simp
      rw [e] at hi hq
      exact indepL_ok (l := l) (pre := pre ++ [(y0, q0)]) (by simpa using h.2) i j x p y q hij (by simp; omega) hi hq
theorem apartL_ok {a b : List Nat} (h : apartL a b = true) : ∀ x ∈ a, x ∉ b := by
  intro x hx hb
  simp only [apartL, List.all_eq_true, Bool.not_eq_true'] at h
  have := h x hx
  rw [memN_iff.2 hb] at this
  simp at this
structure Apart (all : List Oper) (x y : Oper) (p q : Ev) : Prop where
  d1 : ∀ d, x.dst = some d → d ∉ rdS all y
  d2 : ∀ d, x.dst = some d → y.dst ≠ some d
  d3 : ∀ d, y.dst = some d → d ∉ rdS all x
  h1 : ∀ i ∈ p.wr, i ∉ q.rd
  h2 : ∀ i ∈ p.wr, i ∉ q.wr
  h3 : ∀ i ∈ q.wr, i ∉ p.rd
theorem apart_of {all : List Oper} {x y : Oper} {p q : Ev} (h : apartO all x y p.recd q.recd = true) : Apart all x y p q := by
  simp only [apartO, Bool.and_eq_true] at h
  obtain ⟨⟨⟨⟨⟨h1, h2⟩, h3⟩, h4⟩, h5⟩, h6⟩ := h
  have h4 := apartL_ok h4
  have h5 := apartL_ok h5
  have h6 := apartL_ok h6
  exact ⟨fun d hd => apartL_ok h1 d (by simp [hd]), fun d hd he => apartL_ok h2 d (by simp [hd]) (by simp [he]), fun d hd => apartL_ok h3 d (by simp [hd]), h4, h5, h6⟩
theorem Apart.symm {all : List Oper} {x y : Oper} {p q : Ev} (h : Apart all x y p q) : Apart all y x q p :=
  ⟨h.d3, fun d hd he => h.d2 d he hd, h.d1, h.h3, fun i hi hj => h.h2 i hj hi, h.h1⟩
end Go.Proofs.Ytoplphfgbfcagaa.Ev
