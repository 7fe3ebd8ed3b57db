/-
Code: what the evaluator's run says, the machine does.
Conditions: as before; the machine follows 'mixedOrders'.
-/
import Derived.Test.YtoplphfgbfcagaaEvQ
set_option linter.unusedVariables false
set_option linter.unusedSimpArgs false
namespace Go.Proofs.Ytoplphfgbfcagaa.Ev
open Go Go.RowKit

/-! ### loops by rounds -/
theorem exists_least {p : Nat → Prop} (n : Nat) : p n → ∃ m, p m ∧ m ≤ n ∧ ∀ k, k < m → ¬ p k := by
  induction n using Nat.strongRecOn with
  | ind n ih =>
    intro h
    by_cases hk : ∃ k, k < n ∧ p k
    · obtain ⟨k, hk, hp⟩ := hk
      obtain ⟨m, h1, h2, h3⟩ := ih k hk hp
      exact ⟨m, h1, by omega, h3⟩
    · exact ⟨n, h, Nat.le_refl _, fun k hk' hp => hk ⟨k, hk', hp⟩⟩
noncomputable def least (p : Nat → Prop) : Nat := open Classical in if h : ∃ m, p m ∧ ∀ k, k < m → ¬ p k then Classical.choose h else 0
theorem least_ok {p : Nat → Prop} {n : Nat} (h : p n) : p (least p) ∧ least p ≤ n := by
  obtain ⟨m, h1, h2, h3⟩ := exists_least n h
  have hex : ∃ m, p m ∧ ∀ k, k < m → ¬ p k := ⟨m, h1, h3⟩
  have e : least p = Classical.choose hex := by unfold least; rw [dif_pos hex]
  obtain ⟨g1, g2⟩ := Classical.choose_spec hex
  rw [e]
  refine ⟨g1, ?_⟩
  rcases Nat.lt_or_ge n (Classical.choose hex) with hl | hl
  · exact absurd h (g2 n hl)
  · exact hl
theorem wp_rounds {P : Program} {Q : Exit → Act → World → Prop} {c : Code} {J : Nat → Act → World → Prop} (h0 : ∀ a w, ¬ J 0 a w)
    (round : ∀ n a w, J (n + 1) a w → c.wp P (Exit.then (J n) Q) a w) {n : Nat} {a : Act} {w : World} (h : J n a w) : (Code.loop c).wp P Q a w := by
  refine wp_loop (fun a w => ∃ n, J n a w) (fun a w => least fun n => J n a w) ⟨n, h⟩ ?_
  rintro a w ⟨k, hk⟩
  obtain ⟨h1, _⟩ := least_ok (p := fun n => J n a w) hk
  generalize least (fun n => J n a w) = l at h1
  cases l with
  | zero => exact absurd h1 (h0 a w)
  | succ l =>
    refine wp_mono (round l a w h1) fun e a' w' he => ?_
    cases e with
    | normal => exact ⟨⟨l, he⟩, Nat.lt_succ_of_le (least_ok (p := fun n => J n a' w') he).2⟩
    | _ => exact he

section
variable {P : Program} {E : Env} {w w0 : World} {ok o0 : Nat → Prop} {base : Nat} {H : List Row} {m : Nat → Value} {σ : St} {a : Act}

/-! ### tidying -/
theorem placeN_ok {i : Nat} : ∀ {o : List Nat} {k j : Nat}, placeN i o k = some j → k ≤ j ∧ o[j - k]? = some i
  | [], k, j, h => by simp [placeN] at h
  | x :: o, k, j, h => by
    simp only [placeN] at h
    cases hb : Nat.beq x i with
    | true =>
      rw [hb] at h
      simp only [cond_true, Option.some.injEq] at h
      subst h
      rw [Nat.sub_self, List.getElem?_cons_zero, Nat.eq_of_beq_eq_true hb]
      exact ⟨Nat.le_refl _, rfl⟩
    | false =>
      rw [hb] at h
      obtain ⟨h1, h2⟩ := placeN_ok h
      refine ⟨by omega, ?_⟩
      rw [show j - k = (j - (k + 1)) + 1 by omega, List.getElem?_cons_succ]
      exact h2
theorem nodupN_ok : ∀ {o : List Nat}, nodupN o = true → ∀ (i j x : Nat), o[i]? = some x → o[j]? = some x → i = j
  | [], _, i, j, x, h, _ => by simp at h
  | y :: o, hn, i, j, x, hi, hj => by
    simp only [nodupN, Bool.and_eq_true, Bool.not_eq_true'] at hn
    have hno : y ∉ o := fun h => by rw [memN_iff.2 h] at hn; simp at hn
    cases i with
    | zero =>
      cases j with
      | zero => rfl
      | succ j =>
        simp only [List.getElem?_cons_zero, Option.some.injEq] at hi
        subst hi
        exact absurd (List.mem_of_getElem? (by simpa using hj)) hno
    | succ i =>
      cases j with
      | zero =>
        simp only [List.getElem?_cons_zero, Option.some.injEq] at hj
        subst hj
        exact absurd (List.mem_of_getElem? (by simpa using hi)) hno
      | succ j => rw [nodupN_ok hn.2 i j x (by simpa using hi) (by simpa using hj)]

section
variable {o : List Nat}
theorem tidyH (j : Nat) {i : Nat} (h : o[j]? = some i) : (o.map fun i => renR o (H.getD i .dead))[j]? = some (renR o (H.getD i .dead)) := by simp [h]
theorem ren1_rel {x : AV} {u : Value} (h : rel1 w ok H m x u) : rel1 w ok (o.map fun i => renR o (H.getD i .dead)) (fun j => m (o.getD j 0)) (ren1 o x) u := by
  have pl : ∀ {i j : Nat}, placeN i o 0 = some j → (o.map fun i => renR o (H.getD i .dead))[j]? = some (renR o (H.getD i .dead)) ∧ o.getD j 0 = i := by
    intro i j hj
    have := (placeN_ok hj).2
    rw [Nat.sub_zero] at this
    exact ⟨tidyH j this, by rw [List.getD_eq_getElem?_getD, this]; rfl⟩
  cases x with
  | own i =>
    simp only [ren1]
    split
    · rename_i j hj
      obtain ⟨h1, h2⟩ := pl hj
      simp only [rel1, h1] at h ⊢
      refine ⟨h.1, ?_⟩
      have h := h.2
      cases hq : H[i]? with
      | none => rw [hq] at h; exact h.elim
      | some r =>
        have hg : H.getD i .dead = r := by rw [List.getD_eq_getElem?_getD, hq]; rfl
        rw [hq] at h
        rw [hg]
        cases r with
        | row e t xs => simp only [renR, h2]; exact h
        | frz t xs => exact h
        | dead => trivial
        | _ => exact h.elim
    · trivial
  | pb i f =>
    simp only [ren1]
    split
    · rename_i j hj
      obtain ⟨h1, h2⟩ := pl hj
      simp only [rel1, h1] at h ⊢
      refine ⟨h.1, ?_⟩
      have h := h.2
      cases hq : H[i]? with
      | none => rw [hq] at h; exact h.elim
      | some r =>
        have hg : H.getD i .dead = r := by rw [List.getD_eq_getElem?_getD, hq]; rfl
        rw [hq] at h
        rw [hg]
        cases r with
        | box cs => simp only [renR, h2]; exact h
        | fbx cs => simp only [renR, h2]; exact h
        | dead => trivial
        | _ => exact h.elim
    · trivial
  | pe i k f =>
    simp only [ren1]
    split
    · rename_i j hj
      obtain ⟨h1, h2⟩ := pl hj
      simp only [rel1, h1] at h ⊢
      refine ⟨h.1, ?_⟩
      have h := h.2
      cases hq : H[i]? with
      | none => rw [hq] at h; exact h.elim
      | some r =>
        have hg : H.getD i .dead = r := by rw [List.getD_eq_getElem?_getD, hq]; rfl
        rw [hq] at h
        rw [hg]
        cases r with
        | row e t xs => simp only [renR, h2]; exact h
        | frz t xs => trivial
        | dead => trivial
        | _ => exact h.elim
    · trivial
  | v t x => exact h
  | nl => exact h
  | un => trivial
  | rp cs => exact h
  | _ => exact h.elim
theorem ren2_rel {x : AV} {u : Value} (h : rel2 w ok H m x u) : rel2 w ok (o.map fun i => renR o (H.getD i .dead)) (fun j => m (o.getD j 0)) (ren2 o x) u := by
  have key : rel1 w ok H m x u → rel2 w ok (o.map fun i => renR o (H.getD i .dead)) (fun j => m (o.getD j 0)) (ren1 o x) u := fun h => rel1_rel2 (ren1_rel h)
  cases x with
  | agg cs =>
    obtain ⟨us, rfl, hf⟩ := h
    exact ⟨us, rfl, hf.mapL fun x y _ h => ren1_rel h⟩
  | _ => exact key h
theorem renA_rel {x : AV} {u : Value} (h : rel w ok H m x u) : rel w ok (o.map fun i => renR o (H.getD i .dead)) (fun j => m (o.getD j 0)) (renA o x) u := by
  have key : rel2 w ok H m x u → rel2 w ok (o.map fun i => renR o (H.getD i .dead)) (fun j => m (o.getD j 0)) (ren2 o x) u := ren2_rel
  cases x with
  | tup cs =>
    obtain ⟨us, rfl, hf⟩ := h
    exact ⟨us, rfl, hf.mapL fun x y _ h => ren2_rel h⟩
  | fn g fs cs =>
    obtain ⟨us, vs, rfl, h1, h2⟩ := h
    exact ⟨us, vs, rfl, h1.mapL fun x y _ h => ren2_rel h, h2.mapL fun x y _ h => ren1_rel h⟩
  | agg cs => exact key h
  | _ => exact rel2_rel (key h)
theorem tidy_hrel (hn : nodupN o = true) (h : HRel w ok base H m) : HRel w ok base (o.map fun i => renR o (H.getD i .dead)) (fun j => m (o.getD j 0)) := by
  have get : ∀ {j : Nat} {r : Row}, (o.map fun i => renR o (H.getD i .dead))[j]? = some r → ∃ i, o[j]? = some i ∧ o.getD j 0 = i ∧ r = renR o (H.getD i .dead) := by
    intro j r hj
    rw [List.getElem?_map] at hj
    cases hq : o[j]? with
    | none => simp [hq] at hj
    | some i =>
      simp only [hq, Option.map_some, Option.some.injEq] at hj
      exact ⟨i, rfl, by rw [List.getD_eq_getElem?_getD, hq]; rfl, hj.symm⟩
  have live : ∀ {i : Nat}, (renR o (H.getD i .dead)).live = true → ∃ q, H[i]? = some q ∧ q.live = true := by
    intro i hl
    cases hq : H[i]? with
    | none => rw [List.getD_eq_getElem?_getD, hq] at hl; simp [renR, Row.live] at hl
    | some q =>
      rw [List.getD_eq_getElem?_getD, hq] at hl
      refine ⟨q, rfl, ?_⟩
      cases q <;> first | rfl | simp [renR, Row.live] at hl
  refine ⟨h.lt, fun j r hj => ?_, fun j r k hj hl hk => ?_, fun j j' r r' k hj hj' hl hl' hk hk' => ?_⟩
  · obtain ⟨i, _, hi, rfl⟩ := get hj
    simp only [hi]
    cases hq : H[i]? with
    | none => rw [List.getD_eq_getElem?_getD, hq]; trivial
    | some q =>
      have hg : H.getD i .dead = q := by rw [List.getD_eq_getElem?_getD, hq]; rfl
      rw [hg]
      have := h.hp i q hq
      cases q with
      | row e t xs => exact this
      | box cs =>
        obtain ⟨b, T, cur, h1, h2, h3, h4⟩ := this
        exact ⟨b, T, cur, h1, h2, h3, h4.mapL fun x y _ h => ren1_rel h⟩
      | fbx cs =>
        obtain ⟨b, T, cur, h1, h2, h3, h4⟩ := this
        exact ⟨b, T, cur, h1, h2, h3, h4.mapL fun x y _ h => ren1_rel h⟩
      | _ => trivial
  · obtain ⟨i, _, hi, rfl⟩ := get hj
    obtain ⟨q, hq, hql⟩ := live hl
    simp only [hi] at hk
    exact h.sep i q k hq hql hk
  · obtain ⟨i, hoi, hi, rfl⟩ := get hj
    obtain ⟨i', hoi', hi', rfl⟩ := get hj'
    obtain ⟨q, hq, hql⟩ := live hl
    obtain ⟨q', hq', hql'⟩ := live hl'
    simp only [hi] at hk
    simp only [hi'] at hk'
    have := h.dst i i' q q' k hq hq' hql hql' hk hk'
    subst this
    exact nodupN_ok hn j j' i hoi hoi'
end
theorem keepT_rel {keep : List Nat} : ∀ {i : Nat} {xs : List AV} {us : List Value}, F2 (rel w ok H m) xs us → F2 (rel w ok H m) (keepT keep i xs) us
  | _, _, _, .nil => .nil
  | i, _, _, @F2.cons _ _ _ x u _ _ h t => by
    simp only [keepT]
    refine .cons ?_ (keepT_rel t)
    cases memN i keep with
    | true => exact h
    | false => trivial
theorem tidy_ok {keep : List Nat} {σ' : St} (h : tidy keep σ = some σ') (hR : Rel w0 o0 σ a w ok m) : ∃ m', Rel w0 o0 σ' a w ok m' := by
  unfold tidy at h
  generalize orderN σ.hp (keepT keep 0 σ.tm) = o at h
  cases hn : nodupN o with
  | false => simp [hn] at h
  | true =>
    simp only [hn, cond_true, Option.some.injEq] at h
    subst h
    exact ⟨_, (keepT_rel hR.tm).mapL fun x y _ h => renA_rel h, hR.df, tidy_hrel hn hR.hr, hR.bw, hR.bd⟩
theorem tidyEx_ok {id : Nat} {σ' : St} (h : tidyEx E id σ = some σ') (hR : Rel w0 o0 σ a w ok m) : ∃ m', Rel w0 o0 σ' a w ok m' := by
  unfold tidyEx at h
  split at h
  · exact tidy_ok h hR
  · simp only [Option.some.injEq] at h; subst h; exact ⟨m, hR⟩
theorem tidyRet_ok {σ' : St} (h : tidyRet E σ = some σ') (hR : Rel w0 o0 σ a w ok m) : ∃ m', Rel w0 o0 σ' a w ok m' := by
  unfold tidyRet at h
  split at h
  · exact tidy_ok h hR
  · simp only [Option.some.injEq] at h; subst h; exact ⟨m, hR⟩
theorem tidyAt_ok {c : Code} {σ' : St} (h : tidyAt E c σ = some σ') (hR : Rel w0 o0 σ a w ok m) : ∃ m', Rel w0 o0 σ' a w ok m' := by
  unfold tidyAt at h
  split at h
  · split at h
    · exact tidy_ok h hR
    · simp only [Option.some.injEq] at h; subst h; exact ⟨m, hR⟩
  · simp only [Option.some.injEq] at h; subst h; exact ⟨m, hR⟩

/-! ### places for new rows -/
theorem pad_get {n i : Nat} {r : Row} (h : (H ++ List.replicate n .hole)[i]? = some r) : H[i]? = some r ∨ (H[i]? = none ∧ r = .hole) := by
  rcases Nat.lt_or_ge i H.length with hl | hl
  · rw [List.getElem?_append_left hl] at h; exact .inl h
  · rw [List.getElem?_append_right hl, List.getElem?_replicate] at h
    split at h
    · simp only [Option.some.injEq] at h; exact .inr ⟨List.getElem?_eq_none hl, h.symm⟩
    · simp at h
theorem pad_ok {n : Nat} (hR : Rel w0 o0 σ a w ok m) : Rel w0 o0 (padH n σ) a w ok m := by
  have hst : HStep w w ok ok σ.hp (σ.hp ++ List.replicate n .hole) m m := ⟨Moves.refl w ok, fun id r hr _ => ⟨rfl, r, by rw [List.getElem?_append_left (get_lt hr)]; exact hr, .same r⟩⟩
  refine ⟨hR.tm.imp fun _ _ _ h => rel_step hst h, hR.df, ⟨hR.hr.lt, fun id r hr => ?_, fun id r k hr hl hk => ?_, fun i j ri rj k hi hj hli hlj h1 h2 => ?_⟩, hR.bw, hR.bd⟩
  · rcases pad_get hr with h | ⟨_, rfl⟩
    · exact (hR.hr.hp id r h).step hst fun _ _ _ => rfl
    · trivial
  · rcases pad_get hr with h | ⟨_, rfl⟩
    · exact hR.hr.sep id r k h hl hk
    · simp [Row.live] at hl
  · rcases pad_get hi with h | ⟨_, rfl⟩
    · rcases pad_get hj with h' | ⟨_, rfl⟩
      · exact hR.hr.dst i j ri rj k h h' hli hlj h1 h2
      · simp [Row.live] at hlj
    · simp [Row.live] at hli
theorem pad_hole {n j : Nat} (hj : j < n) : (padH n σ).hp[σ.hp.length + j]? = some .hole := by
  show (σ.hp ++ List.replicate n .hole)[σ.hp.length + j]? = _
  rw [List.getElem?_append_right (by omega), Nat.add_sub_cancel_left, List.getElem?_replicate, if_pos hj]
theorem drawn_ok {n : Nat} (hR : Rel w0 o0 σ a w ok m) : Rel w0 o0 σ a { w with drawn := n } ok m := by
  have hb : Below w.heap.size w { w with drawn := n } := ⟨rfl, rfl, rfl, Nat.le_refl _, fun _ _ => rfl⟩
  have hst := HStep.world (moves_grow (ok := ok) (ok' := ok) hb fun k hk => hk) σ.hp m
  exact ⟨hR.tm.imp fun _ _ _ h => rel_step hst h, hR.df, hR.hr.grow hb (fun k hk => hk) fun k hk => ⟨hR.hr.lt k hk, .inl hk⟩, hR.bw.trans (hb.mono hR.bw.size), hR.bd⟩

/-! ### code -/
structure KOk (w0 : World) (o0 : Nat → Prop) (r : AV) (K : Conts) (Q : Exit → Act → World → Prop) : Prop where
  nrm : ∀ σ a w ok m, K.nrm σ = some r → Rel w0 o0 σ a w ok m → Q .normal a w
  ret : ∀ σ a w ok m, K.ret σ = some r → Rel w0 o0 σ a w ok m → Q .ret a w
  ex : ∀ id k σ a w ok m, look id K.ex = some k → k σ = some r → Rel w0 o0 σ a w ok m → Q (.exit id) a w

theorem region_ok {id : Nat} {ops : Array Oper} {draw : Bool} {K : Conts} {r : AV} {Q : Exit → Act → World → Prop} (hE : EOk P E) (hmix : P.follows .mixedOrders = true) (hR : Rel w0 o0 σ a w ok m)
    (h : runOps E ops.toList ops.toList σ.hp.length [] (padH (newsAll ops.toList) σ) (fun tr σ' => bif !draw || indep ops.toList tr then K.nrm σ' else none) = some r)
    (hK : KOk w0 o0 r K Q) : (Code.region id ops draw).wp P Q a w := by
  obtain ⟨es, σ', ht, h⟩ := runOps_trace hE h
  rw [List.nil_append] at h
  have hR1 := pad_ok (n := newsAll ops.toList) hR
  cases draw with
  | false =>
    simp only [Bool.not_false, Bool.true_or, cond_true] at h
    exact wp_region_list (trace_list hE rfl ht hR1 (fun j hj => pad_hole hj) fun a' w' ok' m' hR' => hK.nrm σ' a' w' ok' m' h hR')
  | true =>
    simp only [Bool.not_true, Bool.false_or] at h
    cases hi : indep ops.toList (es.map Ev.recd) with
    | false => simp [hi] at h
    | true =>
      simp only [hi, cond_true] at h
      simp only [indep, Bool.and_eq_true] at hi
      obtain ⟨h1, h2, h3⟩ := trace_at (i0 := 0) ht
      refine wp_region_any hmix ?_
      have hlen : es.length = ops.toList.length := h1
      have hzip : ∀ j x p, (ops.toList.zip (es.map Ev.recd))[j]? = some (x, p) ↔ ops.toList[j]? = some x ∧ (es.map Ev.recd)[j]? = some p := fun j x p => List.getElem?_zip_eq_some
      have hwr : ∀ (j : Nat) (o : Oper) (e : Ev), ops.toList[j]? = some o → es[j]? = some e → e.wr = fsts e.ups := fun j o e ho he => by
        rcases h3 j o e ho he with ⟨_, as, _, _, hw, _⟩ | ⟨_, rfl⟩
        · exact hw
        · rfl
      refine any_sound (all := ops.toList) (es := es) (σ0 := padH (newsAll ops.toList) σ) (n0 := σ.hp.length) (w0 := w0) (o0 := o0) hE rfl hlen (fun j o e ho he => by
          have := h3 j o e ho he
          rw [Nat.zero_add] at this
          exact this) (fun j o ho e he hb => by
          have := elder_ok hi.1 j o ho e he hb
          omega) hwr (fun i j x p y q hij hx hp hy hq => by
          have := indepL_ok (pre := []) (by simpa using hi.2) i j x p.recd y q.recd hij (Nat.zero_le _) (by rw [List.nil_append]; exact (hzip _ _ _).2 ⟨hx, by simp [hp]⟩) (by rw [List.nil_append]; exact (hzip _ _ _).2 ⟨hy, by simp [hq]⟩)
          exact this.imp (fun h => h) apart_of) (fun a' w' ok' m' hR' => hK.nrm σ' a' w' ok' m' h (by rw [h2]; exact hR'))
        ops.size (Array.replicate ops.size false) (fun _ => false) a _ ok m (by simp) (fun i hi' => by
          rw [Array.getElem?_replicate, if_pos (by simpa using hi')]) (fun _ _ hf => by simp at hf) (by
          have : ((List.range ops.toList.length).filter fun i => !(fun _ => false : Nat → Bool) i).length ≤ (List.range ops.toList.length).length := List.length_filter_le _ _
          simpa using this) (fun i o _ ho j hj => ?_) ?_
      · rw [foldB_none fun _ _ => rfl, Nat.add_assoc]
        have := newsAll_take_le ho
        exact pad_hole (by omega)
      · rw [foldB_none fun _ _ => rfl]
        exact drawn_ok hR1

theorem eval_tmp {c : Nat} {b : Bool} (hR : Rel w0 o0 σ a w ok m) (h : σ.tm[c]? = some (.v .bool b)) : a.eval (.tmp c) = .bool b := by
  have := getO_rel (x := .tmp c) hR.tm h
  exact rd_bool this

theorem runC_ok (hE : EOk P E) (hmix : P.follows .mixedOrders = true) {lp : Code → Conts → St → Option AV} {r : AV}
    (hlp : ∀ c K σ a w ok m Q, lp c K σ = some r → Rel w0 o0 σ a w ok m → KOk w0 o0 r K Q → (Code.loop c).wp P Q a w) :
    ∀ (c : Code) (K : Conts) (σ : St) (a : Act) (w : World) (ok : Nat → Prop) (m : Nat → Value) (Q : Exit → Act → World → Prop),
      runC E lp c K σ = some r → Rel w0 o0 σ a w ok m → KOk w0 o0 r K Q → c.wp P Q a w := by
  intro c
  induction c with
  | skip => intro K σ a w ok m Q h hR hK; exact wp_skip (hK.nrm σ a w ok m h hR)
  | region id ops draw => intro K σ a w ok m Q h hR hK; exact region_ok hE hmix hR h hK
  | seq x y ihx ihy =>
    intro K σ a w ok m Q h hR hK
    simp only [runC] at h
    refine wp_seq (ihx _ σ a w ok m _ h hR ⟨fun σ' a' w' ok' m' h' hR' => ?_, fun σ' a' w' ok' m' h' hR' => hK.ret σ' a' w' ok' m' h' hR', fun id k σ' a' w' ok' m' hk h' hR' => hK.ex id k σ' a' w' ok' m' hk h' hR'⟩)
    show y.wp P Q a' w'
    simp only at h'
    split at h'
    · rename_i σ'' ht
      obtain ⟨m'', hR''⟩ := tidyAt_ok ht hR'
      exact ihy K σ'' a' w' ok' m'' Q h' hR'' hK
    · simp at h'
  | cond c x y ihx ihy =>
    intro K σ a w ok m Q h hR hK
    cases c with
    | tmp t =>
      simp only [runC] at h
      split at h
      case h_2 => simp at h
      rename_i b hb
      have hev := eval_tmp hR hb
      have hsb := setB_self hb
      cases b with
      | true =>
        simp only [runOps.onB, cond_true] at h
        rw [hsb] at h
        exact wp_cond_true hev (ihx K σ a w ok m Q h hR hK)
      | false =>
        simp only [runOps.onB, cond_false] at h
        rw [hsb] at h
        exact wp_cond_false hev (ihy K σ a w ok m Q h hR hK)
    | const v =>
      cases v with
      | bool b =>
        simp only [runC] at h
        cases b with
        | true => exact wp_cond_true rfl (ihx K σ a w ok m Q h hR hK)
        | false => exact wp_cond_false rfl (ihy K σ a w ok m Q h hR hK)
      | _ => simp [runC] at h
    | _ => simp [runC] at h
  | block id c ih =>
    intro K σ a w ok m Q h hR hK
    simp only [runC] at h
    refine wp_block (ih _ σ a w ok m _ h hR ⟨hK.nrm, hK.ret, fun id' k σ' a' w' ok' m' hk h' hR' => ?_⟩)
    simp only [look] at hk
    show (if id' = id then Q .normal a' w' else Q (.exit id') a' w')
    cases hb : Nat.beq id id' with
    | true =>
      rw [hb] at hk
      simp only [cond_true, Option.some.injEq] at hk
      subst hk
      rw [if_pos (Nat.eq_of_beq_eq_true hb).symm]
      exact hK.nrm σ' a' w' ok' m' h' hR'
    | false =>
      rw [hb] at hk
      simp only [cond_false] at hk
      rw [if_neg fun e => by rw [e] at hb; simp at hb]
      exact hK.ex id' k σ' a' w' ok' m' hk h' hR'
  | loop c _ =>
    intro K σ a w ok m Q h hR hK
    simp only [runC] at h
    split at h
    · rename_i σ' ht
      obtain ⟨m', hR'⟩ := tidyAt_ok ht hR
      exact hlp c K σ' a w ok m' Q h hR' hK
    · simp at h
  | exit id =>
    intro K σ a w ok m Q h hR hK
    simp only [runC] at h
    split at h
    · rename_i k hk
      split at h
      · rename_i σ' ht
        obtain ⟨m', hR'⟩ := tidyEx_ok ht hR
        exact wp_exit (hK.ex id k σ' a w ok m' hk h hR')
      · simp at h
    · simp at h
  | ret =>
    intro K σ a w ok m Q h hR hK
    simp only [runC] at h
    split at h
    · rename_i σ' ht
      obtain ⟨m', hR'⟩ := tidyRet_ok ht hR
      exact wp_ret (hK.ret σ' a w ok m' h hR')
    · simp at h
  | _ => intro K σ a w ok m Q h; simp [runC] at h

theorem loopF_ok (hE : EOk P E) (hmix : P.follows .mixedOrders = true) {r : AV} : ∀ (n : Nat) (c : Code) (K : Conts) (σ : St) (a : Act) (w : World) (ok : Nat → Prop) (m : Nat → Value) (Q : Exit → Act → World → Prop),
    loopF E n c K σ = some r → Rel w0 o0 σ a w ok m → KOk w0 o0 r K Q → (Code.loop c).wp P Q a w := by
  intro n
  induction n using Nat.strongRecOn with
  | ind n ih =>
    intro c K σ a w ok m Q h hR hK
    refine wp_rounds (J := fun k a w => k ≤ n ∧ ∃ σ ok m, loopF E k c K σ = some r ∧ Rel w0 o0 σ a w ok m) (n := n) ?_ ?_ ⟨Nat.le_refl _, σ, ok, m, h, hR⟩
    · rintro a w ⟨_, σ, ok, m, h, _⟩
      simp [loopF] at h
    · rintro k a w ⟨hk, σ, ok, m, h, hR⟩
      simp only [loopF] at h
      refine runC_ok hE hmix (fun c' K' σ' a' w' ok' m' Q' h' hR' hK' => ih k (by omega) c' K' σ' a' w' ok' m' Q' h' hR' hK') c _ σ a w ok m _ h hR
        ⟨fun σ' a' w' ok' m' h' hR' => ?_, fun σ' a' w' ok' m' h' hR' => hK.ret σ' a' w' ok' m' h' hR', fun id k' σ' a' w' ok' m' hk' h' hR' => hK.ex id k' σ' a' w' ok' m' hk' h' hR'⟩
      simp only at h'
      split at h'
      · rename_i σ'' ht
        obtain ⟨m'', hR''⟩ := tidyAt_ok ht hR'
        exact ⟨by omega, σ'', ok', m'', h', hR''⟩
      · simp at h'
end
end Go.Proofs.Ytoplphfgbfcagaa.Ev
