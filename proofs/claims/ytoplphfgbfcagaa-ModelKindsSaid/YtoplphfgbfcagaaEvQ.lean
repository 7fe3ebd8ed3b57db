/-
Regions whose order is open, done: any order comes to what the evaluator says.
Conditions: as before.
-/
import Derived.Test.YtoplphfgbfcagaaEvP
set_option linter.unusedVariables false
set_option linter.unusedSimpArgs false
namespace Go.Proofs.Ytoplphfgbfcagaa.Ev
open Go Go.RowKit

section
variable {P : Program} {E : Env} {all : List Oper}

theorem mem_tmps {t : Nat} : ∀ {l : List Operand}, Operand.tmp t ∈ l → t ∈ tmpsOf l
  | [], h => by simp at h
  | x :: l, h => by
    rcases List.mem_cons.1 h with rfl | h'
    · exact List.mem_cons_self
    · cases x with
      | tmp s => exact List.mem_cons_of_mem _ (mem_tmps h')
      | _ => show t ∈ tmpsOf l; exact mem_tmps h'
theorem getOs_agree {σ σ' : St} : ∀ {l : List Operand}, (∀ s ∈ tmpsOf l, σ.tm[s]? = σ'.tm[s]?) → getOs σ l = getOs σ' l
  | [], _ => rfl
  | x :: l, h => by
    have ih := getOs_agree (σ := σ) (σ' := σ') (l := l) (by cases x with
      | tmp t => exact fun s hs => h s (List.mem_cons_of_mem _ hs)
      | _ => exact h)
    have hx : getO σ x = getO σ' x := by
      cases x with
      | tmp t => exact h t List.mem_cons_self
      | _ => rfl
    simp only [getOs, hx, ih]
/-- What an operation says hangs on the slots and rows that it names. -/
theorem EvAt.move {o : Oper} {nid : Nat} {σ σ' : St} {e : Ev} (h : EvAt P E all o nid σ e) (hs : ∀ s ∈ rdS all o, σ.tm[s]? = σ'.tm[s]?) (hi : ∀ i ∈ e.rd, σ.hp[i]? = σ'.hp[i]?) : EvAt P E all o nid σ' e := by
  have hask : ∀ b, Asked all o σ b → Asked all o σ' b := by
    intro b hb
    unfold Asked at hb ⊢
    cases hg : o.guard with
    | none => rw [hg] at hb; exact hb
    | some gw =>
      obtain ⟨g, want⟩ := gw
      rw [hg] at hb
      obtain ⟨s, h1, h2⟩ := hb
      refine ⟨s, h1, ?_⟩
      rw [← hs s ?_]
      · exact h2
      · unfold rdS
        rw [hg]
        refine List.mem_append_right _ ?_
        simp [h1]
  rcases h with ⟨h1, as, h2, h3, h4, h5, h6⟩ | ⟨h1, h2⟩
  · refine .inl ⟨hask _ h1, as, ?_, h3, h4, h5, ?_⟩
    · rw [← getOs_agree (σ := σ) fun s hs' => hs s (List.mem_append_left _ hs')]; exact h2
    · have e1 : rdOf σ'.hp e.rd = rdOf σ.hp e.rd := by
        funext i
        unfold rdOf
        cases hm : memN i e.rd with
        | false => rfl
        | true => simp only [cond_true]; exact (hi i (memN_iff.1 hm)).symm
      rw [e1]
      exact h6
  · exact .inr ⟨hask _ h1, h2⟩

theorem blt_iff {a b : Nat} : Nat.blt a b = true ↔ a < b := by rw [Nat.blt_eq]
theorem newsAll_take_le {l : List Oper} : ∀ {i : Nat} {o : Oper}, l[i]? = some o → newsAll (l.take i) + newsO o ≤ newsAll l := by
  induction l with
  | nil => intro i o h; simp at h
  | cons x l ih =>
    intro i o h
    cases i with
    | zero =>
      simp only [List.getElem?_cons_zero, Option.some.injEq] at h
      subst h
      rw [List.take_zero]
      show 0 + newsO x ≤ newsO x + newsAll l
      omega
    | succ i =>
      have := ih (i := i) (o := o) (by simpa using h)
      rw [List.take_succ_cons]
      show newsO x + newsAll (l.take i) + newsO o ≤ newsO x + newsAll l
      omega
theorem newsAll_take_lt {l : List Oper} {i j : Nat} {o : Oper} (hij : i < j) (h : l[i]? = some o) : newsAll (l.take i) + newsO o ≤ newsAll (l.take j) := by
  have h1 : (l.take j)[i]? = some o := by rw [List.getElem?_take_of_lt hij]; exact h
  have := newsAll_take_le h1
  rw [List.take_take, Nat.min_eq_left (Nat.le_of_lt hij)] at this
  exact this

theorem trace_at : ∀ {l : List Oper} {i0 nid : Nat} {σ : St} {es : List Ev} {σ' : St}, Trace P E all l nid σ es σ' →
    es.length = l.length ∧ σ' = foldB (fun _ => true) (l.zip es) i0 σ ∧
    ∀ j o e, l[j]? = some o → es[j]? = some e → EvAt P E all o (nid + newsAll (l.take j)) (foldB (fun i => Nat.blt i (i0 + j)) (l.zip es) i0 σ) e
  | [], i0, nid, σ, [], σ', h => ⟨rfl, (h : σ = σ').symm, fun j o e hj => by simp at hj⟩
  | [], i0, nid, σ, _ :: _, σ', h => h.elim
  | o :: l, i0, nid, σ, [], σ', h => h.elim
  | o :: l, i0, nid, σ, e :: es, σ', ⟨he, ht⟩ => by
    obtain ⟨h1, h2, h3⟩ := trace_at (i0 := i0 + 1) ht
    refine ⟨by simp [h1], by rw [h2]; rfl, fun j o' e' hj he' => ?_⟩
    cases j with
    | zero =>
      simp only [List.getElem?_cons_zero, Option.some.injEq] at hj he'
      subst hj; subst he'
      rw [foldB_none fun k hk => by
        cases hb : Nat.blt k (i0 + 0) with
        | false => rfl
        | true => have := blt_iff.1 hb; omega]
      simpa [newsAll] using he
    | succ j =>
      have := h3 j o' e' (by simpa using hj) (by simpa using he')
      have hb : Nat.blt i0 (i0 + (j + 1)) = true := blt_iff.2 (by omega)
      simp only [List.zip_cons_cons, foldB, hb, cond_true, List.take_succ_cons, newsAll]
      rw [show i0 + (j + 1) = i0 + 1 + j by omega, show nid + (newsO o + newsAll (l.take j)) = nid + newsO o + newsAll (l.take j) by omega]
      exact this

theorem filter_drop {α : Type} {p q : α → Bool} : ∀ {l : List α}, (∀ x ∈ l, q x = true → p x = true) → (∃ x ∈ l, p x = true ∧ q x = false) → (l.filter q).length < (l.filter p).length
  | [], _, h => by simp at h
  | x :: l, hq, ⟨y, hy, h1, h2⟩ => by
    have hle : ∀ {l : List α}, (∀ x ∈ l, q x = true → p x = true) → (l.filter q).length ≤ (l.filter p).length := by
      intro l
      induction l with
      | nil => intro _; simp
      | cons z l ih =>
        intro h
        have ih := ih fun x hx => h x (List.mem_cons_of_mem _ hx)
        have hz := h z List.mem_cons_self
        cases hqz : q z with
        | true => simp [List.filter_cons, hqz, hz hqz]; exact ih
        | false => cases hpz : p z <;> simp [List.filter_cons, hqz, hpz] <;> omega
    have hq' : ∀ x ∈ l, q x = true → p x = true := fun x hx => hq x (List.mem_cons_of_mem _ hx)
    rcases List.mem_cons.1 hy with rfl | hy
    · have := hle hq'
      simp [List.filter_cons, h1, h2]
      omega
    · have := filter_drop hq' ⟨y, hy, h1, h2⟩
      have hx := hq x List.mem_cons_self
      cases hqx : q x with
      | true => simp [List.filter_cons, hqx, hx hqx]; exact this
      | false => cases hpx : p x <;> simp [List.filter_cons, hqx, hpx] <;> omega

/-- The order is open: the machine's run under any order, behind the set 'b' of operations done. -/
theorem any_sound {w0 : World} {o0 : Nat → Prop} {ops : Array Oper} {Q : Exit → Act → World → Prop} {es : List Ev} {σ0 : St} {n0 : Nat} (hE : EOk P E) (hall : all = ops.toList) (hlen : es.length = all.length)
    (hev : ∀ j o e, all[j]? = some o → es[j]? = some e → EvAt P E all o (n0 + newsAll (all.take j)) (foldB (fun i => Nat.blt i j) (all.zip es) 0 σ0) e)
    (hel : ∀ j o, all[j]? = some o → ∀ e ∈ o.after, Region.binds .any e = true → e.on < j)
    (hwr : ∀ (j : Nat) (o : Oper) (e : Ev), all[j]? = some o → es[j]? = some e → e.wr = fsts e.ups)
    (hap : ∀ i j x p y q, i < j → all[i]? = some x → es[i]? = some p → all[j]? = some y → es[j]? = some q → i ∈ (predsL all []).getD j [] ∨ Apart all x y p q)
    (hQ : ∀ a w ok m, Rel w0 o0 (foldB (fun _ => true) (all.zip es) 0 σ0) a w ok m → Q .normal a w) :
    ∀ (fuel : Nat) (listed : Array Bool) (b : Nat → Bool) (a : Act) (w : World) (ok : Nat → Prop) (m : Nat → Value),
      listed.size = all.length → (∀ i, i < all.length → listed[i]? = some (b i)) →
      (∀ i o, b i = true → all[i]? = some o → ∀ e ∈ o.after, Region.binds .any e = true → b e.on = true) →
      ((List.range all.length).filter (fun i => !b i)).length ≤ fuel →
      (∀ i o, b i = false → all[i]? = some o → ∀ j, j < newsO o → (foldB b (all.zip es) 0 σ0).hp[n0 + newsAll (all.take i) + j]? = some .hole) →
      Rel w0 o0 (foldB b (all.zip es) 0 σ0) a w ok m → wpAny P .any ops Q fuel listed a w := by
  have hzip : ∀ k o e, (all.zip es)[k]? = some (o, e) ↔ all[k]? = some o ∧ es[k]? = some e := fun k o e => List.getElem?_zip_eq_some
  have hpred : ∀ (b : Nat → Bool), (∀ i o, b i = true → all[i]? = some o → ∀ e ∈ o.after, Region.binds .any e = true → b e.on = true) →
      ∀ j o, all[j]? = some o → (∀ e ∈ o.after, Region.binds .any e = true → b e.on = true) → ∀ p ∈ (predsL all []).getD j [], b p = true := by
    intro b hdc j
    induction j using Nat.strongRecOn with
    | ind j ih =>
      intro o ho hb p hp
      have := (predsL_ok (l := all) (acc := [])).2 j o ho p (by simpa using hp)
      obtain ⟨e, he, hbe, rfl | hp⟩ := this
      · exact hb e he hbe
      · have hlt := hel j o ho e he hbe
        have hj := (List.getElem?_eq_some_iff.1 ho).1
        exact ih e.on hlt _ (List.getElem?_eq_getElem (by omega)) (hdc e.on _ (hb e he hbe) (List.getElem?_eq_getElem (by omega))) p hp
  have done : ∀ (b : Nat → Bool) (a : Act) (w : World) (ok : Nat → Prop) (m : Nat → Value), (∀ i, i < all.length → b i = true) → Rel w0 o0 (foldB b (all.zip es) 0 σ0) a w ok m → Q .normal a w := by
    intro b a w ok m hb hR
    rw [foldB_congr (b' := fun _ => true) fun k hk => by rw [Nat.zero_add]; exact hb k (by simp at hk; omega)] at hR
    exact hQ a w ok m hR
  have hready : ∀ (listed : Array Bool) (b : Nat → Bool), listed.size = all.length → (∀ i, i < all.length → listed[i]? = some (b i)) → Region.ready .any ops listed = [] → ∀ i, i < all.length → b i = true := by
    intro listed b hs hl hr i
    induction i using Nat.strongRecOn with
    | ind i ih =>
      intro hi
      cases hb : b i with
      | true => rfl
      | false =>
        exfalso
        have hm : i ∈ Region.ready .any ops listed := by
          rw [mem_ready]
          have hoi : ops[i]? = some all[i] := by
            rw [← Array.getElem?_toList, ← hall]
            exact List.getElem?_eq_getElem hi
          refine ⟨by rw [Array.getD_eq_getD_getElem?, hl i hi, hb]; rfl, all[i], hoi, fun e he hbe => ?_⟩
          have hlt := hel i _ (List.getElem?_eq_getElem hi) e he hbe
          rw [Array.getD_eq_getD_getElem?, hl e.on (by omega), ih e.on hlt (by omega)]
          rfl
        rw [hr] at hm
        simp at hm
  intro fuel
  induction fuel with
  | zero =>
    intro listed b a w ok m hs hl hdc hf hh hR
    have hb : ∀ i, i < all.length → b i = true := fun i hi => by
      cases hb : b i with
      | true => rfl
      | false =>
        have : i ∈ (List.range all.length).filter (fun i => !b i) := List.mem_filter.2 ⟨List.mem_range.2 hi, by simp [hb]⟩
        rw [List.eq_nil_of_length_eq_zero (by omega : ((List.range all.length).filter (fun i => !b i)).length = 0)] at this
        simp at this
    refine ⟨?_, done b a w ok m hb hR⟩
    cases hr : Region.ready .any ops listed with
    | nil => rfl
    | cons i r =>
      exfalso
      have hm : i ∈ Region.ready .any ops listed := by rw [hr]; exact List.mem_cons_self
      obtain ⟨h1, o, ho, _⟩ := mem_ready.1 hm
      have hi : i < all.length := by rw [hall, Array.length_toList]; exact (Array.getElem?_eq_some_iff.1 ho).1
      rw [Array.getD_eq_getD_getElem?, hl i hi, hb i hi] at h1
      simp at h1
  | succ fuel ihf =>
    intro listed b a w ok m hs hl hdc hf hh hR
    refine ⟨fun hr => done b a w ok m (hready listed b hs hl hr) hR, fun i hi => ?_⟩
    obtain ⟨h1, o, ho, hedges⟩ := mem_ready.1 hi
    have hil : i < all.length := by rw [hall, Array.length_toList]; exact (Array.getElem?_eq_some_iff.1 ho).1
    have hao : all[i]? = some o := by rw [hall, Array.getElem?_toList]; exact ho
    have hbi : b i = false := by
      rw [Array.getD_eq_getD_getElem?, hl i hil] at h1
      simpa using h1
    have hbe : ∀ e ∈ o.after, Region.binds .any e = true → b e.on = true := fun e he hb => by
      have := hedges e he hb
      have hlt := hel i o hao e he hb
      rw [Array.getD_eq_getD_getElem?, hl e.on (by omega)] at this
      simpa using this
    have hei : es[i]? = some es[i] := List.getElem?_eq_getElem (by omega)
    generalize hee : es[i] = e at hei
    -- what is not ordered with i is apart from it
    have apart : ∀ k x p, all[k]? = some x → es[k]? = some p → ((k < i ∧ b k = false) ∨ (i < k ∧ b k = true)) → Apart all o x e p := by
      intro k x p hk hpk hc
      rcases hc with ⟨hlt, hbk⟩ | ⟨hlt, hbk⟩
      · rcases hap k i x p o e hlt hk hpk hao hei with h | h
        · have := hpred b hdc i o hao hbe k h
          rw [hbk] at this; simp at this
        · exact h.symm
      · rcases hap i k o e x p hlt hao hei hk hpk with h | h
        · have := hpred b hdc k x hk (hdc k x hbk hk) i h
          rw [hbi] at this; simp at this
        · exact h
    have hEv : EvAt P E all o (n0 + newsAll (all.take i)) (foldB b (all.zip es) 0 σ0) e := by
      refine (hev i o e hao hei).move (fun s hs' => foldB_agreeT rfl rfl fun k x p hk => ?_) (fun q hq => foldB_agreeH rfl rfl fun k x p hk => ?_)
      · obtain ⟨hk1, hk2⟩ := (hzip k x p).1 hk
        rw [Nat.zero_add]
        by_cases hki : k < i
        · have hbl : Nat.blt k i = true := blt_iff.2 hki
          rw [hbl]
          cases hbk : b k with
          | true => exact .inl rfl
          | false => exact .inr fun hd => (apart k x p hk1 hk2 (.inl ⟨hki, hbk⟩)).d3 s hd hs'
        · have hbl : Nat.blt k i = false := by
            cases h : Nat.blt k i with
            | false => rfl
            | true => exact absurd (blt_iff.1 h) hki
          rw [hbl]
          cases hbk : b k with
          | false => exact .inl rfl
          | true =>
            have : k ≠ i := by rintro rfl; rw [hbi] at hbk; simp at hbk
            exact .inr fun hd => (apart k x p hk1 hk2 (.inr ⟨by omega, hbk⟩)).d3 s hd hs'
      · obtain ⟨hk1, hk2⟩ := (hzip k x p).1 hk
        rw [Nat.zero_add, ← hwr k x p hk1 hk2]
        by_cases hki : k < i
        · have hbl : Nat.blt k i = true := blt_iff.2 hki
          rw [hbl]
          cases hbk : b k with
          | true => exact .inl rfl
          | false => exact .inr fun hd => (apart k x p hk1 hk2 (.inl ⟨hki, hbk⟩)).h3 q hd hq
        · have hbl : Nat.blt k i = false := by
            cases h : Nat.blt k i with
            | false => rfl
            | true => exact absurd (blt_iff.1 h) hki
          rw [hbl]
          cases hbk : b k with
          | false => exact .inl rfl
          | true =>
            have : k ≠ i := by rintro rfl; rw [hbi] at hbk; simp at hbk
            exact .inr fun hd => (apart k x p hk1 hk2 (.inr ⟨by omega, hbk⟩)).h3 q hd hq
    have hins : upd (foldB b (all.zip es) 0 σ0) o e = foldB (addB b i) (all.zip es) 0 σ0 := by
      refine foldB_insert (Nat.zero_le _) (by rw [Nat.sub_zero]; exact (hzip i o e).2 ⟨hao, hei⟩) hbi fun k x p hk hik hbk => ?_
      obtain ⟨hk1, hk2⟩ := (hzip k x p).1 hk
      rw [Nat.zero_add] at hik hbk
      have hA := apart k x p hk1 hk2 (.inr ⟨hik, hbk⟩)
      refine ⟨fun d hd ho' => hA.d2 d ho' hd, fun q hq hq' => ?_⟩
      rw [← hwr k x p hk1 hk2] at hq
      rw [← hwr i o e hao hei] at hq'
      exact hA.h2 q hq' hq
    have := ev_next (Q := Q) (K := wpAny P .any ops Q fuel (listed.setIfInBounds i true)) hE hall hR (fun j hj => hh i o hbi hao j hj) hEv (fun a' w' ok' m' hR' => by
      rw [hins] at hR'
      refine ihf (listed.setIfInBounds i true) (addB b i) a' w' ok' m' (by simp [hs]) (fun k hk => ?_) (fun k x hbk hk e' he' hb' => ?_) ?_ (fun k x hbk hk j hj => ?_) hR'
      · by_cases hki : k = i
        · subst hki; rw [addB_self]; simp [hs, hil]
        · rw [addB_ne hki, Array.getElem?_setIfInBounds_ne (Ne.symm hki)]; exact hl k hk
      · have base : b e'.on = true := by
          by_cases hki : k = i
          · subst hki
            rw [hao] at hk
            simp only [Option.some.injEq] at hk
            subst hk
            exact hbe e' he' hb'
          · rw [addB_ne hki] at hbk
            exact hdc k x hbk hk e' he' hb'
        unfold addB
        rw [base, Bool.true_or]
      · have := filter_drop (p := fun k => !b k) (q := fun k => !addB b i k) (l := List.range all.length) (fun k _ hk => by
          by_cases hki : k = i
          · subst hki; rw [addB_self] at hk; simp at hk
          · rw [addB_ne hki] at hk; exact hk) ⟨i, List.mem_range.2 hil, by simp [hbi], by simp [addB_self]⟩
        omega
      · have hki : k ≠ i := by rintro rfl; rw [addB_self] at hbk; simp at hbk
        rw [addB_ne hki] at hbk
        rw [← hins]
        refine ev_holes hR hEv (hh k x hbk hk j hj) fun hc => ?_
        rcases Nat.lt_or_gt_of_ne hki with hlt | hlt
        · have := newsAll_take_lt hlt hk
          omega
        · have := newsAll_take_lt hlt hao
          omega)
    unfold wpOp
    rw [ho]
    exact this
end
end Go.Proofs.Ytoplphfgbfcagaa.Ev
