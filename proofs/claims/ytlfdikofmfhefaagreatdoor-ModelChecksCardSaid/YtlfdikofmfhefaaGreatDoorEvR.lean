/-
Code: what the evaluator's run says, the machine does.
Conditions: as before; the machine follows 'mixedOrders'.
A whole call: what the evaluator answers is the callee's contract.
Conditions: the environment is sound; the function is the program's, with a body.
What is handed to a call is no longer than memory allows: so a contract may take that for granted.
Conditions: none.
Handlers of a common make: the arguments as plain data, a condition, an answer.
Conditions: none.
Evaluator, part V: what the form's own reading of an argument gives: the value of its type, each integer in its range.
Conditions: none.
A call that is handed a row of its caller's and writes into it, run by the evaluator.
Conditions: the environment is sound; the function is the program's, with a body; however the caller's other rows lie, the run ends in a state that holds the row.
-/
import Derived.Test.YtlfdikofmfhefaaGreatDoorEvO
import Derived.Scope
import Derived.ChangeArms
import Derived.ProofKit
set_option linter.unusedVariables false
set_option linter.unusedSimpArgs false
namespace Go.Proofs.YtlfdikofmfhefaaGreatDoor.Ev
open Go Go.RowKit
theorem exists_least {p : Nat → Prop} (n : Nat) : p n → ∃ m, p m ∧ m ≤ n ∧ ∀ k, k < m → ¬ p k := by
 induction n using Nat.strongRecOn with
 | ind n ih =>
  intro h
  by_cases hk : ∃ k, k < n ∧ p k
  ·obtain ⟨k, hk, hp⟩ := hk
   obtain ⟨m, h1, h2, h3⟩ := ih k hk hp
   exact ⟨m, h1, by omega, h3⟩
  ·exact ⟨n, h, Nat.le_refl _, fun k hk' hp => hk ⟨k, hk', hp⟩⟩
noncomputable def least (p : Nat → Prop) : Nat := open Classical in if h : ∃ m, p m ∧ ∀ k, k < m → ¬ p k then Classical.choose h else 0
theorem least_ok {p : Nat → Prop} {n : Nat} (h : p n) : p (least p) ∧ least p ≤ n := by
 obtain ⟨m, h1, h2, h3⟩ := exists_least n h
 have hex : ∃ m, p m ∧ ∀ k, k < m → ¬ p k := ⟨m, h1, h3⟩
 have e : least p = Classical.choose hex := by unfold least; rw [dif_pos hex]
 obtain ⟨g1, g2⟩ := Classical.choose_spec hex
 rw [e]
 refine ⟨g1, ?_⟩
 rcases Nat.lt_or_ge n (Classical.choose hex) with hl | hl
 ·exact absurd h (g2 n hl)
 ·exact hl
theorem wp_rounds {P : Program} {Q : Exit → Act → World → Prop} {c : Code} {J : Nat → Act → World → Prop} (h0 : ∀ a w, ¬ J 0 a w)
  (round : ∀ n a w, J (n + 1) a w → c.wp P (Exit.then (J n) Q) a w) {n : Nat} {a : Act} {w : World} (h : J n a w) : (Code.loop c).wp P Q a w := by
 refine wp_loop (fun a w => ∃ n, J n a w) (fun a w => least fun n => J n a w) ⟨n, h⟩ ?_
 rintro a w ⟨k, hk⟩
 obtain ⟨h1, _⟩ := least_ok (p := fun n => J n a w) hk
 generalize least (fun n => J n a w) = l at h1
 cases l with
 | zero => exact absurd h1 (h0 a w)
 | succ l =>
  refine wp_mono (round l a w h1) fun e a' w' he => ?_
  cases e with
  | normal => exact ⟨⟨l, he⟩, Nat.lt_succ_of_le (least_ok (p := fun n => J n a' w') he).2⟩
  | _ => exact he
section
variable {P : Program} {E : Env} {w w0 : World} {ok o0 : Nat → Prop} {base : Nat} {H : List Row} {m : Nat → Value} {σ : St} {a : Act}
theorem placeN_ok {i : Nat} : ∀ {o : List Nat} {k j : Nat}, placeN i o k = some j → k ≤ j ∧ o[j - k]? = some i
 | [], k, j, h => by simp [placeN] at h
 | x :: o, k, j, h => by
  simp only [placeN] at h
  cases hb : Nat.beq x i with
  | true =>
   rw [hb] at h
   simp only [cond_true, Option.some.injEq] at h
   subst h
   rw [Nat.sub_self, List.getElem?_cons_zero, Nat.eq_of_beq_eq_true hb]
   exact ⟨Nat.le_refl _, rfl⟩
  | false =>
   rw [hb] at h
   obtain ⟨h1, h2⟩ := placeN_ok h
   refine ⟨by omega, ?_⟩
   rw [show j - k = (j - (k + 1)) + 1 by omega, List.getElem?_cons_succ]
   exact h2
theorem nodupN_ok : ∀ {o : List Nat}, nodupN o = true → ∀ (i j x : Nat), o[i]? = some x → o[j]? = some x → i = j
 | [], _, i, j, x, h, _ => by simp at h
 | y :: o, hn, i, j, x, hi, hj => by
  simp only [nodupN, Bool.and_eq_true, Bool.not_eq_true'] at hn
  have hno : y ∉ o := fun h => by rw [memN_iff.2 h] at hn; simp at hn
  cases i with
  | zero =>
   cases j with
   | zero => rfl
   | succ j =>
    simp only [List.getElem?_cons_zero, Option.some.injEq] at hi
    subst hi
    exact absurd (List.mem_of_getElem? (by simpa using hj)) hno
  | succ i =>
   cases j with
   | zero =>
    simp only [List.getElem?_cons_zero, Option.some.injEq] at hj
    subst hj
    exact absurd (List.mem_of_getElem? (by simpa using hi)) hno
   | succ j => rw [nodupN_ok hn.2 i j x (by simpa using hi) (by simpa using hj)]
section
variable {o : List Nat}
theorem tidyH (j : Nat) {i : Nat} (h : o[j]? = some i) : (o.map fun i => renR o (H.getD i .dead))[j]? = some (renR o (H.getD i .dead)) := by simp [h]
theorem ren1_rel {x : AV} {u : Value} (h : rel1 w ok H m x u) : rel1 w ok (o.map fun i => renR o (H.getD i .dead)) (fun j => m (o.getD j 0)) (ren1 o x) u := by
 have pl : ∀ {i j : Nat}, placeN i o 0 = some j → (o.map fun i => renR o (H.getD i .dead))[j]? = some (renR o (H.getD i .dead)) ∧ o.getD j 0 = i := by
  intro i j hj
  have := (placeN_ok hj).2
  rw [Nat.sub_zero] at this
  exact ⟨tidyH j this, by rw [List.getD_eq_getElem?_getD, this]; rfl⟩
 cases x with
 | own i =>
  simp only [ren1]
  split
  ·rename_i j hj
   obtain ⟨h1, h2⟩ := pl hj
   simp only [rel1, h1] at h ⊢
   refine ⟨h.1, ?_⟩
   have h := h.2
   cases hq : H[i]? with
   | none => rw [hq] at h; exact h.elim
   | some r =>
    have hg : H.getD i .dead = r := by rw [List.getD_eq_getElem?_getD, hq]; rfl
    rw [hq] at h
    rw [hg]
    cases r with
    | row e t xs => simp only [renR, h2]; exact h
    | rows e e2 t xs => simp only [renR, h2]; exact h
    | rowx e e2 t xs p q => trivial
    | frz t xs => exact h
    | dead => trivial
    | _ => exact h.elim
  ·trivial
 | pb i f =>
  simp only [ren1]
  split
  ·rename_i j hj
   obtain ⟨h1, h2⟩ := pl hj
   simp only [rel1, h1] at h ⊢
   refine ⟨h.1, ?_⟩
   have h := h.2
   cases hq : H[i]? with
   | none => rw [hq] at h; exact h.elim
   | some r =>
    have hg : H.getD i .dead = r := by rw [List.getD_eq_getElem?_getD, hq]; rfl
    rw [hq] at h
    rw [hg]
    cases r with
    | box cs => simp only [renR, h2]; exact h
    | fbx cs => simp only [renR, h2]; exact h
    | dead => trivial
    | _ => exact h.elim
  ·trivial
 | pe i k f =>
  simp only [ren1]
  split
  ·rename_i j hj
   obtain ⟨h1, h2⟩ := pl hj
   simp only [rel1, h1] at h ⊢
   refine ⟨h.1, ?_⟩
   have h := h.2
   cases hq : H[i]? with
   | none => rw [hq] at h; exact h.elim
   | some r =>
    have hg : H.getD i .dead = r := by rw [List.getD_eq_getElem?_getD, hq]; rfl
    rw [hq] at h
    rw [hg]
    cases r with
    | row e t xs => simp only [renR, h2]; exact h
    | rows e e2 t xs => simp only [renR, h2]; exact h
    | rowx e e2 t xs p q => trivial
    | frz t xs => trivial
    | dead => trivial
    | _ => exact h.elim
  ·trivial
 | v t x => exact h
 | nl => exact h
 | un => trivial
 | rp cs => exact h
 | _ => exact h.elim
theorem ren2_rel {x : AV} {u : Value} (h : rel2 w ok H m x u) : rel2 w ok (o.map fun i => renR o (H.getD i .dead)) (fun j => m (o.getD j 0)) (ren2 o x) u := by
 have key : rel1 w ok H m x u → rel2 w ok (o.map fun i => renR o (H.getD i .dead)) (fun j => m (o.getD j 0)) (ren1 o x) u := fun h => rel1_rel2 (ren1_rel h)
 cases x with
 | agg cs =>
  obtain ⟨us, rfl, hf⟩ := h
  exact ⟨us, rfl, hf.mapL fun x y _ h => ren1_rel h⟩
 | _ => exact key h
theorem renA_rel {x : AV} {u : Value} (h : rel w ok H m x u) : rel w ok (o.map fun i => renR o (H.getD i .dead)) (fun j => m (o.getD j 0)) (renA o x) u := by
 have key : rel2 w ok H m x u → rel2 w ok (o.map fun i => renR o (H.getD i .dead)) (fun j => m (o.getD j 0)) (ren2 o x) u := ren2_rel
 cases x with
 | tup cs =>
  obtain ⟨us, rfl, hf⟩ := h
  exact ⟨us, rfl, hf.mapL fun x y _ h => ren2_rel h⟩
 | fn g fs cs =>
  obtain ⟨us, vs, rfl, h1, h2⟩ := h
  exact ⟨us, vs, rfl, h1.mapL fun x y _ h => ren2_rel h, h2.mapL fun x y _ h => ren1_rel h⟩
 | agg cs => exact key h
 | _ => exact rel2_rel (key h)
theorem renR_gst (F O : Nat → Prop) (w0 : World) (v : Value) : (renR o (.gst F O w0 v) = .gst F O w0 v ∧ o[1]? = some 1) ∨ renR o (.gst F O w0 v) = .dead := by
 show ((bif Nat.beq (o.getD 1 0) 1 && Nat.blt 1 o.length then Row.gst F O w0 v else .dead) = _ ∧ _) ∨ (bif Nat.beq (o.getD 1 0) 1 && Nat.blt 1 o.length then Row.gst F O w0 v else .dead) = .dead
 cases hb : Nat.beq (o.getD 1 0) 1 && Nat.blt 1 o.length with
 | false => exact .inr rfl
 | true =>
  simp only [Bool.and_eq_true, Nat.beq_eq, Nat.blt_eq] at hb
  refine .inl ⟨rfl, ?_⟩
  rw [List.getD_eq_getElem?_getD, List.getElem?_eq_getElem hb.2] at hb
  rw [List.getElem?_eq_getElem hb.2]
  exact congrArg some hb.1
theorem RB_ren {u : Value} {q : Row} {k : Nat} (hl : (renR o q).live = true) (h : RB w u (renR o q) k) : RB w u q k := by
 cases q with
 | gst F O w0 v =>
  rcases renR_gst (o := o) F O w0 v with ⟨e, _⟩ | e
  ·rw [e] at h; exact h
  ·rw [e] at hl; simp [Row.live] at hl
 | _ => first | exact h | simp [renR, Row.live] at hl
theorem tidy_hrel (hn : nodupN o = true) (h : HRel w ok base H m) : HRel w ok base (o.map fun i => renR o (H.getD i .dead)) (fun j => m (o.getD j 0)) := by
 have get : ∀ {j : Nat} {r : Row}, (o.map fun i => renR o (H.getD i .dead))[j]? = some r → ∃ i, o[j]? = some i ∧ o.getD j 0 = i ∧ r = renR o (H.getD i .dead) := by
  intro j r hj
  rw [List.getElem?_map] at hj
  cases hq : o[j]? with
  | none => simp [hq] at hj
  | some i =>
   simp only [hq, Option.map_some, Option.some.injEq] at hj
   exact ⟨i, rfl, by rw [List.getD_eq_getElem?_getD, hq]; rfl, hj.symm⟩
 have live : ∀ {i : Nat}, (renR o (H.getD i .dead)).live = true → ∃ q, H[i]? = some q ∧ q.live = true ∧ H.getD i .dead = q := by
  intro i hl
  cases hq : H[i]? with
  | none => rw [List.getD_eq_getElem?_getD, hq] at hl; simp [renR, Row.live] at hl
  | some q =>
   rw [List.getD_eq_getElem?_getD, hq] at hl
   refine ⟨q, rfl, ?_, by rw [List.getD_eq_getElem?_getD, hq]; rfl⟩
   cases q <;> first | rfl | simp [renR, Row.live] at hl
 refine ⟨h.lt, fun j r hj => ?_, fun j r k hj hl hk => ?_, fun j j' r r' k hj hj' hl hl' hk hk' => ?_⟩
 ·obtain ⟨i, _, hi, rfl⟩ := get hj
  simp only [hi]
  cases hq : H[i]? with
  | none => rw [List.getD_eq_getElem?_getD, hq]; trivial
  | some q =>
   have hg : H.getD i .dead = q := by rw [List.getD_eq_getElem?_getD, hq]; rfl
   rw [hg]
   have := h.hp i q hq
   cases q with
   | row e t xs => exact this
   | rows e e2 t xs => exact this
   | box cs =>
    obtain ⟨b, T, cur, h1, h2, h3, h4⟩ := this
    exact ⟨b, T, cur, h1, h2, h3, h4.mapL fun x y _ h => ren1_rel h⟩
   | fbx cs =>
    obtain ⟨b, T, cur, h1, h2, h3, h4⟩ := this
    exact ⟨b, T, cur, h1, h2, h3, h4.mapL fun x y _ h => ren1_rel h⟩
   | gst F O w0 v =>
    rcases renR_gst (o := o) F O w0 v with ⟨e, h1⟩ | e
    ·rw [e]
     obtain ⟨g1, g2, g3, q, hq, hne⟩ := this
     refine ⟨g1, g2, by show m (o.getD 1 0) = v; rw [List.getD_eq_getElem?_getD, h1]; exact g3, _, tidyH 1 h1, ?_⟩
     rw [List.getD_eq_getElem?_getD, hq, Option.getD_some]
     cases q with
     | gst F O w0 v => rcases renR_gst (o := o) F O w0 v with ⟨e, _⟩ | e <;> rw [e] <;> simp
     | hole => exact absurd rfl hne
     | _ => simp [renR]
    ·rw [e]; trivial
   | _ => trivial
 ·obtain ⟨i, _, hi, rfl⟩ := get hj
  obtain ⟨q, hq, hql, hg⟩ := live hl
  simp only [hi] at hk
  rw [hg] at hk hl
  exact h.sep i q k hq hql (RB_ren hl hk)
 ·obtain ⟨i, hoi, hi, rfl⟩ := get hj
  obtain ⟨i', hoi', hi', rfl⟩ := get hj'
  obtain ⟨q, hq, hql, hg⟩ := live hl
  obtain ⟨q', hq', hql', hg'⟩ := live hl'
  simp only [hi] at hk
  simp only [hi'] at hk'
  rw [hg] at hk hl
  rw [hg'] at hk' hl'
  have := h.dst i i' q q' k hq hq' hql hql' (RB_ren hl hk) (RB_ren hl' hk')
  subst this
  exact nodupN_ok hn j j' i hoi hoi'
end
theorem keepT_rel {keep : List Nat} : ∀ {i : Nat} {xs : List AV} {us : List Value}, F2 (rel w ok H m) xs us → F2 (rel w ok H m) (keepT keep i xs) us
 | _, _, _, .nil => .nil
 | i, _, _, @F2.cons _ _ _ x u _ _ h t => by
  simp only [keepT]
  refine .cons ?_ (keepT_rel t)
  cases memN i keep with
  | true => exact h
  | false => trivial
theorem settle1_ok {i : Nat} (hH : HRel w ok base H m) : HRel w ok base (settle1 H i) m ∧ HStep w w ok ok H (settle1 H i) m m := by
 have stay : HRel w ok base H m ∧ HStep w w ok ok H H m m := ⟨hH, HStep.refl w ok H m⟩
 unfold settle1
 split
 case h_2 => exact stay
 rename_i e e2 t xs j nid hr
 split
 case h_2 => exact stay
 rename_i e' t' ys hq
 split
 case isFalse => exact stay
 rename_i ht
 subst ht
 cases hb : Nat.beq e' e2 && !Nat.beq nid i with
 | false => simpa using stay
 | true =>
  simp only [Bool.and_eq_true, Bool.not_eq_true'] at hb
  obtain rfl := Nat.eq_of_beq_eq_true hb.1
  have hne : nid ≠ i := fun e => by rw [e] at hb; simp at hb
  simp only [cond_true]
  obtain ⟨us, hown, hi, hui, _, hn, h3⟩ := hH.hp i _ hr
  have hset : us.set j (m nid) = us := by
   have : ∀ {l : List Value} {i : Nat} {u : Value}, l[i]? = some u → l.set i u = l := by
    intro l
    induction l with
    | nil => intro i u h; simp at h
    | cons x l ih =>
     intro i u h
     cases i with
     | zero => simp at h; subst h; rfl
     | succ i => simp only [List.getElem?_cons_succ] at h; rw [List.set_cons_succ, ih h]
   exact this hui
  exact absorb (w' := w) hH hr hq hne hown hi hn h3 (Nat.le_refl _) (fun _ _ => rfl) (by rw [hset]; exact hown)
theorem settleL_ok : ∀ {l : List Nat} {H : List Row}, HRel w ok base H m → HRel w ok base (settleL l H) m ∧ HStep w w ok ok H (settleL l H) m m
 | [], H, h => ⟨h, HStep.refl w ok H m⟩
 | i :: l, H, h => by
  obtain ⟨h1, h2⟩ := settle1_ok (i := i) h
  obtain ⟨h3, h4⟩ := settleL_ok (l := l) h1
  exact ⟨h3, h2.trans h4⟩
theorem settle_ok (hR : Rel w0 o0 σ a w ok m) : Rel w0 o0 (settle σ) a w ok m := by
 obtain ⟨h1, h2⟩ := settleL_ok (l := rangeFrom 0 σ.hp.length) hR.hr
 exact ⟨hR.tm.imp fun _ _ _ h => rel_step h2 h, hR.df, h1, hR.bw, hR.bd⟩
theorem tidy_ok {keep : List Nat} {σ' : St} (h : tidy keep σ = some σ') (hR : Rel w0 o0 σ a w ok m) : ∃ m', Rel w0 o0 σ' a w ok m' := by
 have hR := settle_ok hR
 unfold tidy tidy0 at h
 generalize settle σ = σ at h hR
 generalize orderN σ.hp (keepT keep 0 σ.tm) = o at h
 cases hn : nodupN o with
 | false => simp [hn] at h
 | true =>
  simp only [hn, cond_true, Option.some.injEq] at h
  subst h
  exact ⟨_, (keepT_rel hR.tm).mapL fun x y _ h => renA_rel h, hR.df, tidy_hrel hn hR.hr, hR.bw, hR.bd⟩
theorem tidyEx_ok {id : Nat} {σ' : St} (h : tidyEx E id σ = some σ') (hR : Rel w0 o0 σ a w ok m) : ∃ m', Rel w0 o0 σ' a w ok m' := by
 unfold tidyEx at h
 split at h
 ·exact tidy_ok h hR
 ·simp only [Option.some.injEq] at h; subst h; exact ⟨m, hR⟩
theorem tidyRet_ok {σ' : St} (h : tidyRet E σ = some σ') (hR : Rel w0 o0 σ a w ok m) : ∃ m', Rel w0 o0 σ' a w ok m' := by
 unfold tidyRet at h
 split at h
 ·exact tidy_ok h hR
 ·simp only [Option.some.injEq] at h; subst h; exact ⟨m, hR⟩
theorem set_same {α : Type} : ∀ {l : List α} {i : Nat} {u : α}, l[i]? = some u → l.set i u = l
 | [], i, u, h => by simp at h
 | x :: l, 0, u, h => by simp at h; subst h; rfl
 | x :: l, i + 1, u, h => by
  simp only [List.getElem?_cons_succ] at h
  rw [List.set_cons_succ, set_same h]
theorem lift1_ok {s e : Nat} (hR : Rel w0 o0 σ a w ok m) : ∃ m', Rel w0 o0 (lift1 E s e σ) a w ok m' := by
 unfold lift1
 split
 case h_2 => exact ⟨m, hR⟩
 rename_i hs
 split
 case h_2 => exact ⟨m, hR⟩
 rename_i i hi
 refine ⟨fun j => if j = σ.hp.length then .slice none 0 0 else m j, ?_⟩
 generalize hm : (fun j => if j = σ.hp.length then Value.slice none 0 0 else m j) = m'
 have hm0 : m' σ.hp.length = .slice none 0 0 := by rw [← hm]; simp
 have hm1 : ∀ j, j < σ.hp.length → m' j = m j := fun j hj => by rw [← hm]; simp [Nat.ne_of_lt hj]
 have hst : HStep w w ok ok σ.hp (σ.hp ++ [.row e i.ty []]) m m' := ⟨Moves.refl w ok, fun id r hr _ =>
  ⟨hm1 id (get_lt hr), r, by rw [List.getElem?_append_left (get_lt hr)]; exact hr, .same r⟩⟩
 have get : ∀ {id : Nat} {r : Row}, (σ.hp ++ [Row.row e i.ty []])[id]? = some r → (σ.hp[id]? = some r ∧ id < σ.hp.length) ∨ (id = σ.hp.length ∧ r = .row e i.ty []) := by
  intro id r hr
  rcases Nat.lt_or_ge id σ.hp.length with hl | hl
  ·rw [List.getElem?_append_left hl] at hr; exact .inl ⟨hr, hl⟩
  ·rw [List.getElem?_append_right hl] at hr
   have h0 : id - σ.hp.length = 0 := by
    rcases Nat.eq_zero_or_pos (id - σ.hp.length) with h | h
    ·exact h
    ·rw [List.getElem?_eq_none (by simp; omega)] at hr; simp at hr
   rw [h0] at hr
   simp only [List.getElem?_cons_zero, Option.some.injEq] at hr
   exact .inr ⟨by omega, hr.symm⟩
 refine ⟨?_, hR.df, ⟨hR.hr.lt, ?_, ?_, ?_⟩, hR.bw, hR.bd⟩
 ·have ht : F2 (rel w ok (σ.hp ++ [.row e i.ty []]) m') σ.tm a.tmps.toList := hR.tm.imp fun x y _ h => rel_step hst h
  obtain ⟨u, hu, hru⟩ := ht.get hs
  have hru : u = .slice none 0 0 := hru
  have hnew : rel w ok (σ.hp ++ [.row e i.ty []]) m' (.own σ.hp.length) u := by
   refine ⟨⟨none, 0, 0, hru⟩, ?_⟩
   have : (σ.hp ++ [Row.row e i.ty []])[σ.hp.length]? = some (.row e i.ty []) := by rw [List.getElem?_append_right (Nat.le_refl _)]; simp
   rw [this]
   exact hru.trans hm0.symm
  have := ht.set s hnew
  have e2 : a.tmps.toList.set s u = a.tmps.toList := set_same hu
  rw [e2] at this
  exact this
 ·intro id r hr
  rcases get hr with ⟨h1, h2⟩ | ⟨rfl, rfl⟩
  ·rw [hm1 id h2]
   exact (hR.hr.hp id r h1).step hst hR.hr.lt fun _ _ _ => rfl
  ·rw [hm0]
   exact ⟨[], .nil, by simp, .inl ⟨rfl, rfl⟩⟩
 ·intro id r k hr hl hk
  rcases get hr with ⟨h1, h2⟩ | ⟨rfl, rfl⟩
  ·rw [hm1 id h2] at hk
   exact hR.hr.sep id r k h1 hl hk
  ·rw [hm0] at hk; simp [RB, mblk] at hk
 ·intro x y rx ry k hx hy hlx hly hkx hky
  rcases get hx with ⟨h1, h2⟩ | ⟨rfl, rfl⟩
  ·rcases get hy with ⟨h3, h4⟩ | ⟨rfl, rfl⟩
   ·rw [hm1 x h2] at hkx
    rw [hm1 y h4] at hky
    exact hR.hr.dst x y rx ry k h1 h3 hlx hly hkx hky
   ·rw [hm0] at hky; simp [RB, mblk] at hky
  ·rw [hm0] at hkx; simp [RB, mblk] at hkx
theorem lift2_ok {s e f : Nat} (hR : Rel w0 o0 σ a w ok m) : ∃ m', Rel w0 o0 (lift2 E s e f σ) a w ok m' := by
 unfold lift2
 split
 case h_2 => exact ⟨m, hR⟩
 rename_i id off hs
 split
 case h_2 => exact ⟨m, hR⟩
 rename_i cs hb
 split
 case h_2 => exact ⟨m, hR⟩
 rename_i hf
 split
 case h_2 => exact ⟨m, hR⟩
 rename_i i hi
 refine ⟨fun j => if j = σ.hp.length then .slice none 0 0 else m j, ?_⟩
 generalize hm : (fun j => if j = σ.hp.length then Value.slice none 0 0 else m j) = m'
 have hm0 : m' σ.hp.length = .slice none 0 0 := by rw [← hm]; simp
 have hm1 : ∀ j, j < σ.hp.length → m' j = m j := fun j hj => by rw [← hm]; simp [Nat.ne_of_lt hj]
 have hid := get_lt hb
 generalize hH : σ.hp.set id (.box (cs.set f (.own σ.hp.length))) ++ [.row e i.ty []] = H'
 have hnew : H'[σ.hp.length]? = some (.row e i.ty []) := by
  rw [← hH, List.getElem?_append_right (by simp)]
  simp
 have hbox : H'[id]? = some (.box (cs.set f (.own σ.hp.length))) := by
  rw [← hH, List.getElem?_append_left (by simpa using hid), List.getElem?_set_self hid]
 have hold : ∀ j, j < σ.hp.length → j ≠ id → H'[j]? = σ.hp[j]? := fun j hj hne => by
  rw [← hH, List.getElem?_append_left (by simpa using hj), List.getElem?_set_ne (fun e => hne e.symm)]
 have get : ∀ {j : Nat} {r : Row}, H'[j]? = some r → (σ.hp[j]? = some r ∧ j < σ.hp.length ∧ j ≠ id) ∨ (j = id ∧ r = .box (cs.set f (.own σ.hp.length))) ∨ (j = σ.hp.length ∧ r = .row e i.ty []) := by
  intro j r hr
  rcases Nat.lt_or_ge j σ.hp.length with hl | hl
  ·by_cases hne : j = id
   ·subst hne
    rw [hbox] at hr
    exact .inr (.inl ⟨rfl, (Option.some.inj hr).symm⟩)
   ·rw [hold j hl hne] at hr; exact .inl ⟨hr, hl, hne⟩
  ·have hlt := get_lt hr
   rw [← hH] at hlt
   simp only [List.length_append, List.length_set, List.length_cons, List.length_nil] at hlt
   have : j = σ.hp.length := by omega
   subst this
   rw [hnew] at hr
   exact .inr (.inr ⟨rfl, (Option.some.inj hr).symm⟩)
 have hst : HStep w w ok ok σ.hp H' m m' := ⟨Moves.refl w ok, fun j r hr _ => by
  have hl := get_lt hr
  refine ⟨hm1 j hl, ?_⟩
  by_cases hne : j = id
  ·subst hne
   rw [hb] at hr
   obtain rfl := Option.some.inj hr
   exact ⟨_, hbox, .box _ _⟩
  ·exact ⟨r, by rw [hold j hl hne]; exact hr, .same r⟩⟩
 have live : ∀ {j : Nat} {r : Row}, H'[j]? = some r → r.live = true → ∀ k, RB w (m' j) r k → ∃ q, σ.hp[j]? = some q ∧ q.live = true ∧ RB w (m j) q k := by
  intro j r hr hl k hk
  rcases get hr with ⟨h1, h2, h3⟩ | ⟨rfl, rfl⟩ | ⟨rfl, rfl⟩
  ·rw [hm1 j h2] at hk; exact ⟨r, h1, hl, hk⟩
  ·rw [hm1 j hid] at hk; exact ⟨_, hb, rfl, hk⟩
  ·rw [hm0] at hk; simp [RB, mblk] at hk
 refine ⟨hR.tm.imp fun x y _ h => rel_step hst h, hR.df, ⟨hR.hr.lt, ?_, ?_, ?_⟩, hR.bw, hR.bd⟩
 ·intro j r hr
  rcases get hr with ⟨h1, h2, h3⟩ | ⟨rfl, rfl⟩ | ⟨rfl, rfl⟩
  ·rw [hm1 j h2]
   exact (hR.hr.hp j r h1).step hst hR.hr.lt fun _ _ _ => rfl
  ·rw [hm1 j hid]
   have h0 : RowRel w ok w0.heap.size H' m' (m j) (.box cs) := (hR.hr.hp j _ hb).step hst hR.hr.lt fun _ _ _ => rfl
   obtain ⟨b, T, cur, e1, e2, e3, hc⟩ := h0
   refine ⟨b, T, cur, e1, e2, e3, ?_⟩
   obtain ⟨u, hu, hru⟩ := hc.get hf
   have hru : u = .slice none 0 0 := hru
   have hn : rel1 w ok H' m' (.own σ.hp.length) u := by
    refine ⟨⟨none, 0, 0, hru⟩, ?_⟩
    rw [hnew]
    exact hru.trans hm0.symm
   have := hc.set f hn
   rw [set_same hu] at this
   exact this
  ·rw [hm0]
   exact ⟨[], .nil, by simp, .inl ⟨rfl, rfl⟩⟩
 ·intro j r k hr hl hk
  obtain ⟨q, h1, h2, h3⟩ := live hr hl k hk
  exact hR.hr.sep j q k h1 h2 h3
 ·intro x y rx ry k hx hy hlx hly hkx hky
  obtain ⟨q, h1, h2, h3⟩ := live hx hlx k hkx
  obtain ⟨q', h1', h2', h3'⟩ := live hy hly k hky
  exact hR.hr.dst x y q q' k h1 h1' h2 h2' h3 h3'
theorem liftL_ok : ∀ {l : List Nat} {σ : St} {m : Nat → Value}, Rel w0 o0 σ a w ok m → ∃ m', Rel w0 o0 (liftL E l σ) a w ok m'
 | [], σ, m, hR => ⟨m, hR⟩
 | n :: r, σ, m, hR => by
  unfold liftL
  cases Nat.ble 10000 n with
  | false => exact liftL_ok (l := r) hR
  | true =>
   cases Nat.ble 100000000 n with
   | false =>
    obtain ⟨m', hR'⟩ := lift1_ok (E := E) (s := n % 10000) (e := n / 10000) hR
    exact liftL_ok (l := r) hR'
   | true =>
    obtain ⟨m', hR'⟩ := lift2_ok (E := E) (s := n % 10000) (e := n / 10000 % 10000) (f := n / 100000000 - 1) hR
    exact liftL_ok (l := r) hR'
theorem tidyAt_ok {c : Code} {σ' : St} (h : tidyAt E c σ = some σ') (hR : Rel w0 o0 σ a w ok m) : ∃ m', Rel w0 o0 σ' a w ok m' := by
 unfold tidyAt at h
 split at h
 ·split at h
  ·obtain ⟨m', hR'⟩ := liftL_ok (E := E) hR
   exact tidy_ok h hR'
  ·simp only [Option.some.injEq] at h; subst h; exact ⟨m, hR⟩
 ·simp only [Option.some.injEq] at h; subst h; exact ⟨m, hR⟩
theorem pad_get {n i : Nat} {r : Row} (h : (H ++ List.replicate n .hole)[i]? = some r) : H[i]? = some r ∨ (H[i]? = none ∧ r = .hole) := by
 rcases Nat.lt_or_ge i H.length with hl | hl
 ·rw [List.getElem?_append_left hl] at h; exact .inl h
 ·rw [List.getElem?_append_right hl, List.getElem?_replicate] at h
  split at h
  ·simp only [Option.some.injEq] at h; exact .inr ⟨List.getElem?_eq_none hl, h.symm⟩
  ·simp at h
theorem pad_ok {n : Nat} (hR : Rel w0 o0 σ a w ok m) : Rel w0 o0 (padH n σ) a w ok m := by
 have hst : HStep w w ok ok σ.hp (σ.hp ++ List.replicate n .hole) m m := ⟨Moves.refl w ok, fun id r hr _ => ⟨rfl, r, by rw [List.getElem?_append_left (get_lt hr)]; exact hr, .same r⟩⟩
 refine ⟨hR.tm.imp fun _ _ _ h => rel_step hst h, hR.df, ⟨hR.hr.lt, fun id r hr => ?_, fun id r k hr hl hk => ?_, fun i j ri rj k hi hj hli hlj h1 h2 => ?_⟩, hR.bw, hR.bd⟩
 ·rcases pad_get hr with h | ⟨_, rfl⟩
  ·exact (hR.hr.hp id r h).step hst hR.hr.lt fun _ _ _ => rfl
  ·trivial
 ·rcases pad_get hr with h | ⟨_, rfl⟩
  ·exact hR.hr.sep id r k h hl hk
  ·simp [Row.live] at hl
 ·rcases pad_get hi with h | ⟨_, rfl⟩
  ·rcases pad_get hj with h' | ⟨_, rfl⟩
   ·exact hR.hr.dst i j ri rj k h h' hli hlj h1 h2
   ·simp [Row.live] at hlj
  ·simp [Row.live] at hli
theorem pad_hole {n j : Nat} (hj : j < n) : (padH n σ).hp[σ.hp.length + j]? = some .hole := by
 show (σ.hp ++ List.replicate n .hole)[σ.hp.length + j]? = _
 rw [List.getElem?_append_right (by omega), Nat.add_sub_cancel_left, List.getElem?_replicate, if_pos hj]
theorem drawn_ok {n : Nat} (hR : Rel w0 o0 σ a w ok m) : Rel w0 o0 σ a { w with drawn := n } ok m := by
 have hb : Below w.heap.size w { w with drawn := n } := ⟨rfl, rfl, rfl, Nat.le_refl _, fun _ _ => rfl⟩
 have hst := HStep.world (moves_grow (ok := ok) (ok' := ok) hb fun k hk => hk) σ.hp m
 exact ⟨hR.tm.imp fun _ _ _ h => rel_step hst h, hR.df, hR.hr.grow hb (fun k hk => hk) fun k hk => ⟨hR.hr.lt k hk, .inl hk⟩, hR.bw.trans (hb.mono hR.bw.size), hR.bd⟩
structure KOk (w0 : World) (o0 : Nat → Prop) (r : AV) (K : Conts) (Q : Exit → Act → World → Prop) : Prop where
  nrm : ∀ σ a w ok m, K.nrm σ = some r → Rel w0 o0 σ a w ok m → Q .normal a w
  ret : ∀ σ a w ok m, K.ret σ = some r → Rel w0 o0 σ a w ok m → Q .ret a w
  ex : ∀ id k σ a w ok m, look id K.ex = some k → k σ = some r → Rel w0 o0 σ a w ok m → Q (.exit id) a w
theorem region_ok {id : Nat} {ops : Array Oper} {draw : Bool} {K : Conts} {r : AV} {Q : Exit → Act → World → Prop} (hI : E.inv w0) (hE : EOk P E) (hmix : P.follows .mixedOrders = true) (hR : Rel w0 o0 σ a w ok m)
  (h : runOps E ops.toList ops.toList σ.hp.length [] (padH (newsAll ops.toList) σ) (fun tr σ' => bif !draw || indep ops.toList tr then K.nrm σ' else none) = some r)
  (hK : KOk w0 o0 r K Q) : (Code.region id ops draw).wp P Q a w := by
 obtain ⟨es, σ', ht, h⟩ := runOps_trace hE h
 rw [List.nil_append] at h
 have hR1 := pad_ok (n := newsAll ops.toList) hR
 cases draw with
 | false =>
  simp only [Bool.not_false, Bool.true_or, cond_true] at h
  exact wp_region_list (trace_list hI hE rfl ht hR1 (fun j hj => pad_hole hj) fun a' w' ok' m' hR' => hK.nrm σ' a' w' ok' m' h hR')
 | true =>
  simp only [Bool.not_true, Bool.false_or] at h
  cases hi : indep ops.toList (es.map Ev.recd) with
  | false => simp [hi] at h
  | true =>
   simp only [hi, cond_true] at h
   simp only [indep, Bool.and_eq_true] at hi
   obtain ⟨h1, h2, h3⟩ := trace_at (i0 := 0) ht
   refine wp_region_any hmix ?_
   have hlen : es.length = ops.toList.length := h1
   have hzip : ∀ j x p, (ops.toList.zip (es.map Ev.recd))[j]? = some (x, p) ↔ ops.toList[j]? = some x ∧ (es.map Ev.recd)[j]? = some p := fun j x p => List.getElem?_zip_eq_some
   have hwr : ∀ (j : Nat) (o : Oper) (e : Ev), ops.toList[j]? = some o → es[j]? = some e → e.wr = fsts e.ups := fun j o e ho he => by
    rcases h3 j o e ho he with ⟨_, as, _, _, hw, _⟩ | ⟨_, rfl⟩
    ·exact hw
    ·rfl
   refine any_sound hI (all := ops.toList) (es := es) (σ0 := padH (newsAll ops.toList) σ) (n0 := σ.hp.length) (w0 := w0) (o0 := o0) hE rfl hlen (fun j o e ho he => by
     have := h3 j o e ho he
     rw [Nat.zero_add] at this
     exact this) (fun j o ho e he hb => by
     have := elder_ok hi.1 j o ho e he hb
     omega) hwr (fun i j x p y q hij hx hp hy hq => by
     have := indepL_ok (pre := []) (by simpa using hi.2) i j x p.recd y q.recd hij (Nat.zero_le _) (by rw [List.nil_append]; exact (hzip _ _ _).2 ⟨hx, by simp [hp]⟩) (by rw [List.nil_append]; exact (hzip _ _ _).2 ⟨hy, by simp [hq]⟩)
     exact this.imp (fun h => h) apart_of) (fun a' w' ok' m' hR' => hK.nrm σ' a' w' ok' m' h (by rw [h2]; exact hR'))
    ops.size (Array.replicate ops.size false) (fun _ => false) a _ ok m (by simp) (fun i hi' => by
     rw [Array.getElem?_replicate, if_pos (by simpa using hi')]) (fun _ _ hf => by simp at hf) (by
     have : ((List.range ops.toList.length).filter fun i => !(fun _ => false : Nat → Bool) i).length ≤ (List.range ops.toList.length).length := List.length_filter_le _ _
     simpa using this) (fun i o _ ho j hj => ?_) ?_
   ·rw [foldB_none fun _ _ => rfl, Nat.add_assoc]
    have := newsAll_take_le ho
    exact pad_hole (by omega)
   ·rw [foldB_none fun _ _ => rfl]
    exact drawn_ok hR1
theorem eval_tmp {c : Nat} {b : Bool} (hR : Rel w0 o0 σ a w ok m) (h : σ.tm[c]? = some (.v .bool b)) : a.eval (.tmp c) = .bool b := by
 have := getO_rel (x := .tmp c) hR.tm h
 exact rd_bool this
theorem runC_ok (hI : E.inv w0) (hE : EOk P E) (hmix : P.follows .mixedOrders = true) {lp : Code → Conts → St → Option AV} {r : AV}
  (hlp : ∀ c K σ a w ok m Q, lp c K σ = some r → Rel w0 o0 σ a w ok m → KOk w0 o0 r K Q → (Code.loop c).wp P Q a w) :
  ∀ (c : Code) (K : Conts) (σ : St) (a : Act) (w : World) (ok : Nat → Prop) (m : Nat → Value) (Q : Exit → Act → World → Prop),
   runC E lp c K σ = some r → Rel w0 o0 σ a w ok m → KOk w0 o0 r K Q → c.wp P Q a w := by
 intro c
 induction c with
 | skip => intro K σ a w ok m Q h hR hK; exact wp_skip (hK.nrm σ a w ok m h hR)
 | label l => intro K σ a w ok m Q h hR hK; exact wp_label (hK.nrm σ a w ok m h hR)
 | region id ops draw => intro K σ a w ok m Q h hR hK; exact region_ok hI hE hmix hR h hK
 | seq x y ihx ihy =>
  intro K σ a w ok m Q h hR hK
  simp only [runC] at h
  refine wp_seq (ihx _ σ a w ok m _ h hR ⟨fun σ' a' w' ok' m' h' hR' => ?_, fun σ' a' w' ok' m' h' hR' => hK.ret σ' a' w' ok' m' h' hR', fun id k σ' a' w' ok' m' hk h' hR' => hK.ex id k σ' a' w' ok' m' hk h' hR'⟩)
  show y.wp P Q a' w'
  simp only at h'
  split at h'
  ·rename_i σ'' ht
   obtain ⟨m'', hR''⟩ := tidyAt_ok ht hR'
   exact ihy K σ'' a' w' ok' m'' Q h' hR'' hK
  ·simp at h'
 | cond c x y ihx ihy =>
  intro K σ a w ok m Q h hR hK
  cases c with
  | tmp t =>
   simp only [runC] at h
   split at h
   case h_2 => simp at h
   rename_i b hb
   have hev := eval_tmp hR hb
   have hsb := setB_self hb
   cases b with
   | true =>
    simp only [runOps.onB, cond_true] at h
    rw [hsb] at h
    exact wp_cond_true hev (ihx K σ a w ok m Q h hR hK)
   | false =>
    simp only [runOps.onB, cond_false] at h
    rw [hsb] at h
    exact wp_cond_false hev (ihy K σ a w ok m Q h hR hK)
  | const v =>
   cases v with
   | bool b =>
    simp only [runC] at h
    cases b with
    | true => exact wp_cond_true rfl (ihx K σ a w ok m Q h hR hK)
    | false => exact wp_cond_false rfl (ihy K σ a w ok m Q h hR hK)
   | _ => simp [runC] at h
  | _ => simp [runC] at h
 | block id c ih =>
  intro K σ a w ok m Q h hR hK
  simp only [runC] at h
  refine wp_block (ih _ σ a w ok m _ h hR ⟨hK.nrm, hK.ret, fun id' k σ' a' w' ok' m' hk h' hR' => ?_⟩)
  simp only [look] at hk
  show (if id' = id then Q .normal a' w' else Q (.exit id') a' w')
  cases hb : Nat.beq id id' with
  | true =>
   rw [hb] at hk
   simp only [cond_true, Option.some.injEq] at hk
   subst hk
   rw [if_pos (Nat.eq_of_beq_eq_true hb).symm]
   exact hK.nrm σ' a' w' ok' m' h' hR'
  | false =>
   rw [hb] at hk
   simp only [cond_false] at hk
   rw [if_neg fun e => by rw [e] at hb; simp at hb]
   exact hK.ex id' k σ' a' w' ok' m' hk h' hR'
 | scope c ih => intro K σ a w ok m Q h hR hK; exact wp_scope_straight (ih K σ a w ok m _ h hR ⟨hK.nrm, hK.ret, hK.ex⟩)
 | loop c _ =>
  intro K σ a w ok m Q h hR hK
  simp only [runC] at h
  split at h
  ·rename_i σ' ht
   obtain ⟨m', hR'⟩ := tidyAt_ok ht hR
   exact hlp c K σ' a w ok m' Q h hR' hK
  ·simp at h
 | exit id =>
  intro K σ a w ok m Q h hR hK
  simp only [runC] at h
  split at h
  ·rename_i k hk
   split at h
   ·rename_i σ' ht
    obtain ⟨m', hR'⟩ := tidyEx_ok ht hR
    exact wp_exit (hK.ex id k σ' a w ok m' hk h hR')
   ·simp at h
  ·simp at h
 | ret =>
  intro K σ a w ok m Q h hR hK
  simp only [runC] at h
  split at h
  ·rename_i σ' ht
   obtain ⟨m', hR'⟩ := tidyRet_ok ht hR
   exact wp_ret (hK.ret σ' a w ok m' h hR')
  ·simp at h
 | _ => intro K σ a w ok m Q h; simp [runC] at h
theorem loopF_ok (hI : E.inv w0) (hE : EOk P E) (hmix : P.follows .mixedOrders = true) {r : AV} : ∀ (n : Nat) (c : Code) (K : Conts) (σ : St) (a : Act) (w : World) (ok : Nat → Prop) (m : Nat → Value) (Q : Exit → Act → World → Prop),
  loopF E n c K σ = some r → Rel w0 o0 σ a w ok m → KOk w0 o0 r K Q → (Code.loop c).wp P Q a w := by
 intro n
 induction n using Nat.strongRecOn with
 | ind n ih =>
  intro c K σ a w ok m Q h hR hK
  refine wp_rounds (J := fun k a w => k ≤ n ∧ ∃ σ ok m, loopF E k c K σ = some r ∧ Rel w0 o0 σ a w ok m) (n := n) ?_ ?_ ⟨Nat.le_refl _, σ, ok, m, h, hR⟩
  ·rintro a w ⟨_, σ, ok, m, h, _⟩
   simp [loopF] at h
  ·rintro k a w ⟨hk, σ, ok, m, h, hR⟩
   simp only [loopF] at h
   refine runC_ok hI hE hmix (fun c' K' σ' a' w' ok' m' Q' h' hR' hK' => ih k (by omega) c' K' σ' a' w' ok' m' Q' h' hR' hK') c _ σ a w ok m _ h hR
    ⟨fun σ' a' w' ok' m' h' hR' => ?_, fun σ' a' w' ok' m' h' hR' => hK.ret σ' a' w' ok' m' h' hR', fun id k' σ' a' w' ok' m' hk' h' hR' => hK.ex id k' σ' a' w' ok' m' hk' h' hR'⟩
   simp only at h'
   split at h'
   ·rename_i σ'' ht
    obtain ⟨m'', hR''⟩ := tidyAt_ok ht hR'
    exact ⟨by omega, σ'', ok', m'', h', hR''⟩
   ·simp at h'
end
end Go.Proofs.YtlfdikofmfhefaaGreatDoor.Ev
set_option linter.unusedVariables false
set_option linter.unusedSimpArgs false
namespace Go.Proofs.YtlfdikofmfhefaaGreatDoor.Ev
open Go Go.RowKit
section
variable {P : Program} {E : Env} {w w0 : World} {ok o0 : Nat → Prop} {base : Nat} {H : List Row} {m : Nat → Value} {σ : St} {a : Act}
def fetch (a : Act) : ResultVar → Sem Value
 | .tmp t => pure (a.tmps.getD t undef)
 | .cell c t => do loadVar t (← asAddr (a.tmps.getD c undef))
theorem resW_ok {rv : ResultVar} {x : AV} (hE : TyOk P E) (hR : Rel w0 o0 σ a w ok m) (h : resW E σ rv = some x) :
  ∃ u, (fetch a rv).run P w = .ok u w ∧ rel w ok σ.hp m x u := by
 cases rv with
 | tmp t =>
  simp only [resW] at h
  split at h
  case h_2 => simp at h
  rename_i y hy
  simp only [Option.some.injEq] at h
  subst h
  have := getO_rel (x := .tmp t) hR.tm hy
  exact ⟨a.tmps.getD t undef, by simp [fetch], this⟩
 | cell c T =>
  simp only [resW] at h
  split at h
  case h_2 => simp at h
  rename_i id off hc
  have hp := getO_rel (x := .tmp c) hR.tm hc
  have hev : a.tmps.getD c undef = a.eval (.tmp c) := rfl
  have go : ∀ {cs : List AV}, (σ.hp[id]? = some (.box cs) ∨ σ.hp[id]? = some (.fbx cs)) → takeW E T (cs.drop off) = some x →
    ∃ u, (fetch a (.cell c T)).run P w = .ok u w ∧ rel w ok σ.hp m x u := by
   intro cs hb ht
   obtain ⟨b, us, e, hcl, hf⟩ := box_cells hR.hr hb hp
   obtain ⟨u, hr, hu⟩ := load_ok hE hcl hf ht
   refine ⟨u, ?_, rel2_rel hu⟩
   simp only [fetch]
   rw [hev, e]
   simp [asAddr, hr]
  split at h
  ·rename_i cs hb; exact go (.inl hb) h
  ·rename_i cs hb; exact go (.inr hb) h
  ·simp at h
theorem resWs_ok (hE : TyOk P E) (hR : Rel w0 o0 σ a w ok m) : ∀ {rs : List ResultVar} {as : List AV}, resWs E σ rs = some as →
  ∃ us, (rs.mapM (fetch a)).run P w = .ok us w ∧ F2 (rel w ok σ.hp m) as us
 | [], as, h => by simp only [resWs, Option.some.injEq] at h; subst h; exact ⟨[], by simp, .nil⟩
 | r :: rs, as, h => by
  simp only [resWs] at h
  split at h
  case h_2 => simp at h
  rename_i x hx
  split at h
  case h_2 => simp at h
  rename_i xs hxs
  simp only [Option.some.injEq] at h
  subst h
  obtain ⟨u, h1, h2⟩ := resW_ok hE hR hx
  obtain ⟨us, h3, h4⟩ := resWs_ok hE hR hxs
  refine ⟨u :: us, ?_, .cons h2 h4⟩
  rw [List.mapM_cons]
  simp [h1, h3]
theorem shown1_rel' (ids : List Nat) {x : AV} {u : Value} (hH : HRel w ok base H m) (h : rel1 w ok H m x u) :
  rel1 w (okF w ok (fun j => j ∈ ids) H m) [] mz (shown1 (rdOf H ids) x) u := by
 by_cases hi : ∀ i ∈ ids1 x, i ∈ ids
 ·exact shown1_rel hH hi h
 ·have out : ∀ i, i ∉ ids → rdOf H ids i = none := fun i hn => by
   unfold rdOf
   cases hm : memN i ids with
   | false => rfl
   | true => exact absurd (memN_iff.1 hm) hn
  cases x with
  | own id =>
   have hn : id ∉ ids := fun hm => hi fun i hi' => by rw [List.mem_singleton.1 (hi' : i ∈ [id])]; exact hm
   simp only [shown1, out id hn]
   trivial
  | pb id off =>
   have hn : id ∉ ids := fun hm => hi fun i hi' => by rw [List.mem_singleton.1 (hi' : i ∈ [id])]; exact hm
   simp only [shown1, out id hn]
   trivial
  | pe id i off => trivial
  | _ => exact absurd (fun i hi' => by simp [ids1] at hi') hi
theorem relN1_of {okR : Nat → Prop} {mR : Nat → Value} {k : Nat} {x : AV} {u : Value} (h : rel1 w okR [] mz x u) : relN1 w okR mR k x u := by
 cases x <;> first | exact h | exact h.elim
theorem shown1_rows {rd : Nat → Option Row} {x : AV} : rows1 (shown1 rd x) = [] := by
 unfold shown1
 split <;> first | rfl | (split <;> rfl)
def nx1 (H : List Row) (ns : List Nat) (x : AV) : List Nat := (nw1 H x).filter fun i => memN i ns
def nx2 (H : List Row) (ns : List Nat) (x : AV) : List Nat := (nw2 H x).filter fun i => memN i ns
section
variable {ns rest : List Nat} {okR : Nat → Prop} {mR : Nat → Value} {rowOf : Nat → Row}
theorem fin1_ok (hH : HRel w ok base H m) (hm : ∀ k i, ns[k]? = some i → mR k = m i) (hro : ∀ i e t xs, i ∈ ns → H[i]? = some (.row e t xs) → rowOf i = .row e t xs) {x : AV} {u : Value} {k : Nat} (h : rel1 w ok H m x u)
  (hk : ∀ j i, (nx1 H ns x)[j]? = some i → ns[k + j]? = some i) :
  relN1 w (okF w ok (fun j => j ∈ rest) H m) mR k (fin1 H ns rest x) u ∧ rows1 (fin1 H ns rest x) = (nx1 H ns x).map rowOf := by
 have other : (∀ id, x ≠ .own id) → fin1 H ns rest x = shown1 (rdOf H rest) x ∧ nx1 H ns x = [] := fun hn => by
  cases x <;> first | exact ⟨rfl, rfl⟩ | exact absurd rfl (hn _)
 by_cases hx : ∃ id, x = .own id
 ·obtain ⟨id, rfl⟩ := hx
  cases hb : memN id ns with
  | false =>
   have e1 : fin1 H ns rest (.own id) = shown1 (rdOf H rest) (.own id) := by simp only [fin1, hb, cond_false]
   have e2 : nx1 H ns (.own id) = [] := by
    unfold nx1
    rw [List.filter_eq_nil_iff]
    intro i hi
    have : i = id := by
     unfold nw1 at hi
     simp only at hi
     split at hi
     ·exact List.mem_singleton.1 hi
     ·simp at hi
    rw [this, hb]
    simp
   rw [e1, e2]
   exact ⟨relN1_of (shown1_rel' rest hH h), shown1_rows⟩
  | true =>
   have hin := memN_iff.1 hb
   simp only [rel1] at h
   cases hq : H[id]? with
   | none => rw [hq] at h; exact h.2.elim
   | some q =>
    rw [hq] at h
    have e0 : ∀ (_ : ∀ e t xs, q ≠ .row e t xs), fin1 H ns rest (.own id) = .un ∧ nx1 H ns (.own id) = [] := fun hn => by
     constructor
     ·simp only [fin1, hb, cond_true, hq]
      cases q <;> first | rfl | exact absurd rfl (hn _ _ _)
     ·unfold nx1 nw1
      simp only [hq]
      cases q <;> first | rfl | exact absurd rfl (hn _ _ _)
    cases q with
    | row e t xs =>
     have e1 : fin1 H ns rest (.own id) = .nw e t xs := by simp only [fin1, hb, cond_true, hq]
     have e2 : nx1 H ns (.own id) = [id] := by unfold nx1 nw1; simp [hq, hb]
     rw [e1, e2]
     refine ⟨⟨h.1, ?_⟩, ?_⟩
     ·rw [hm k id (hk 0 id (by rw [e2]; rfl))]; exact h.2
     ·simp only [rows1, List.map_cons, List.map_nil, hro id e t xs hin hq]
    | _ =>
     obtain ⟨e1, e2⟩ := e0 (by simp)
     rw [e1, e2]
     exact ⟨trivial, rfl⟩
 ·obtain ⟨e1, e2⟩ := other fun id e => hx ⟨id, e⟩
  rw [e1, e2]
  exact ⟨relN1_of (shown1_rel' rest hH h), shown1_rows⟩
theorem finL1_ok (hH : HRel w ok base H m) (hm : ∀ k i, ns[k]? = some i → mR k = m i) (hro : ∀ i e t xs, i ∈ ns → H[i]? = some (.row e t xs) → rowOf i = .row e t xs) :
  ∀ {cs : List AV} {us : List Value} {k : Nat}, F2 (rel1 w ok H m) cs us → (∀ j i, (cs.flatMap (nx1 H ns))[j]? = some i → ns[k + j]? = some i) →
   relL1 w (okF w ok (fun j => j ∈ rest) H m) mR k (cs.map (fin1 H ns rest)) us ∧ (cs.map (fin1 H ns rest)).flatMap rows1 = (cs.flatMap (nx1 H ns)).map rowOf
 | [], _, k, .nil, _ => ⟨trivial, rfl⟩
 | x :: cs, _, k, @F2.cons _ _ _ _ u _ us h t, hk => by
  obtain ⟨h1, h2⟩ := fin1_ok (rest := rest) hH hm hro h fun j i hj => hk j i (by rw [List.flatMap_cons, List.getElem?_append_left (List.getElem?_eq_some_iff.1 hj).1]; exact hj)
  obtain ⟨h3, h4⟩ := finL1_ok hH hm hro (k := k + (rows1 (fin1 H ns rest x)).length) t fun j i hj => by
   rw [h2, List.length_map, Nat.add_assoc]
   exact hk _ i (by rw [List.flatMap_cons, List.getElem?_append_right (by omega), Nat.add_sub_cancel_left]; exact hj)
  refine ⟨⟨h1, h3⟩, ?_⟩
  rw [List.map_cons, List.flatMap_cons, h2, h4, List.flatMap_cons, List.map_append]
theorem nx2_agg {cs : List AV} : nx2 H ns (.agg cs) = cs.flatMap (nx1 H ns) := by
 show (cs.flatMap (nw1 H)).filter _ = _
 rw [List.filter_flatMap]
 rfl
theorem fin2_ok (hH : HRel w ok base H m) (hm : ∀ k i, ns[k]? = some i → mR k = m i) (hro : ∀ i e t xs, i ∈ ns → H[i]? = some (.row e t xs) → rowOf i = .row e t xs) {x : AV} {u : Value} {k : Nat} (h : rel w ok H m x u)
  (hk : ∀ j i, (nx2 H ns x)[j]? = some i → ns[k + j]? = some i) :
  relN2 w (okF w ok (fun j => j ∈ rest) H m) mR k (fin2 H ns rest x) u ∧ rows2 (fin2 H ns rest x) = (nx2 H ns x).map rowOf ∧ ∀ cs, fin2 H ns rest x ≠ .tup cs := by
 have notup : ∀ x, (∀ cs, x ≠ AV.agg cs) → ∀ cs, fin1 H ns rest x ≠ .tup cs ∧ fin1 H ns rest x ≠ .agg cs := by
  intro x hx cs
  have hs : ∀ rd, shown1 rd x ≠ .tup cs ∧ shown1 rd x ≠ .agg cs := fun rd => by
   unfold shown1
   split <;> first | (constructor <;> simp; done) | (split <;> constructor <;> simp)
  cases x with
  | own id =>
   simp only [fin1]
   cases memN id ns with
   | true =>
    simp only [cond_true]
    split <;> constructor <;> simp
   | false => exact hs (rdOf H rest)
  | _ => exact hs (rdOf H rest)
 have one : (∀ cs, x ≠ .agg cs) → rel1 w ok H m x u → (nx2 H ns x = nx1 H ns x) → fin2 H ns rest x = fin1 H ns rest x →
   relN2 w (okF w ok (fun j => j ∈ rest) H m) mR k (fin2 H ns rest x) u ∧ rows2 (fin2 H ns rest x) = (nx2 H ns x).map rowOf ∧ ∀ cs, fin2 H ns rest x ≠ .tup cs := fun hx h e1 e2 => by
  rw [e1] at hk
  obtain ⟨h1, h2⟩ := fin1_ok (rest := rest) hH hm hro h hk
  rw [e2, e1]
  have hn := notup x hx
  refine ⟨?_, ?_, fun cs => (hn cs).1⟩
  ·cases hf : fin1 H ns rest x <;> rw [hf] at h1 <;> first | exact h1 | exact absurd hf (hn _).2
  ·cases hf : fin1 H ns rest x <;> rw [hf] at h2 <;> first | exact h2 | exact absurd hf (hn _).2
 cases x with
 | agg cs =>
  obtain ⟨us, rfl, hf⟩ := h
  rw [nx2_agg] at hk
  obtain ⟨h1, h2⟩ := finL1_ok (rest := rest) hH hm hro hf hk
  exact ⟨⟨us, rfl, h1⟩, by rw [nx2_agg]; exact h2, by simp [fin2]⟩
 | tup cs => exact ⟨trivial, rfl, by simp [fin2, fin1, shown1]⟩
 | fn g fs cs => exact ⟨trivial, rfl, by simp [fin2, fin1, shown1]⟩
 | _ => exact one (by simp) h rfl rfl
theorem finL2_ok (hH : HRel w ok base H m) (hm : ∀ k i, ns[k]? = some i → mR k = m i) (hro : ∀ i e t xs, i ∈ ns → H[i]? = some (.row e t xs) → rowOf i = .row e t xs) :
  ∀ {cs : List AV} {us : List Value} {k : Nat}, F2 (rel w ok H m) cs us → (∀ j i, (cs.flatMap (nx2 H ns))[j]? = some i → ns[k + j]? = some i) →
   relL2 w (okF w ok (fun j => j ∈ rest) H m) mR k (cs.map (fin2 H ns rest)) us ∧ (cs.map (fin2 H ns rest)).flatMap rows2 = (cs.flatMap (nx2 H ns)).map rowOf
 | [], _, k, .nil, _ => ⟨trivial, rfl⟩
 | x :: cs, _, k, @F2.cons _ _ _ _ u _ us h t, hk => by
  obtain ⟨h1, h2, _⟩ := fin2_ok (rest := rest) hH hm hro h fun j i hj => hk j i (by rw [List.flatMap_cons, List.getElem?_append_left (List.getElem?_eq_some_iff.1 hj).1]; exact hj)
  obtain ⟨h3, h4⟩ := finL2_ok hH hm hro (k := k + (rows2 (fin2 H ns rest x)).length) t fun j i hj => by
   rw [h2, List.length_map, Nat.add_assoc]
   exact hk _ i (by rw [List.flatMap_cons, List.getElem?_append_right (by omega), Nat.add_sub_cancel_left]; exact hj)
  refine ⟨⟨h1, h3⟩, ?_⟩
  rw [List.map_cons, List.flatMap_cons, h2, h4, List.flatMap_cons, List.map_append]
end
theorem finW_ok {ns : List Nat} {as : List AV} {us : List Value} {r : AV} (hH : HRel w ok base H m) (ha : F2 (rel w ok H m) as us) (hns : ns = as.flatMap (nx2 H ns)) (h : (bif nodupN ns then some (tupW (as.map (fin2 H ns (restN ns (as.flatMap idsA))))) else none) = some r) :
  ∃ okR mR, HRel w okR base (rowsA r) mR ∧ relNA w okR mR r (if h : us.toArray.size = 1 then us.toArray[0] else .tuple us.toArray) ∧ ∀ k, okR k → ok k ∨ base ≤ k := by
 cases hn : nodupN ns with
 | false => simp [hn] at h
 | true =>
  simp only [hn, cond_true, Option.some.injEq] at h
  generalize hrest : restN ns (as.flatMap idsA) = rest at h
  have hrn : ∀ i, i ∈ ns → i ∉ rest := by
   have : ∀ (l : List Nat) i, i ∈ restN ns l → i ∉ ns := by
    intro l
    induction l with
    | nil => intro i hi; simp [restN] at hi
    | cons j l ih =>
     intro i hi
     simp only [restN] at hi
     cases hb : memN j ns with
     | true => rw [hb] at hi; exact ih i hi
     | false =>
      rw [hb] at hi
      rcases List.mem_cons.1 hi with rfl | hi
      ·intro hm; rw [memN_iff.2 hm] at hb; simp at hb
      ·exact ih i hi
   intro i hi hr
   rw [← hrest] at hr
   exact this _ i hr hi
  obtain ⟨hH1, _⟩ := freeze_ok (fun j => j ∈ rest) hH (stay_at rest)
  have hT := tidy_hrel (o := ns) hn hH1
  have hrow : ∀ i e t xs, i ∈ ns → H[i]? = some (.row e t xs) → renR ns ((setH H (rest.flatMap (stay (rdOf H rest)))).getD i .dead) = .row e t xs := by
   intro i e t xs hi hq
   rcases stay_at (H := H) rest i with ⟨_, e1⟩ | ⟨h1, _⟩
   ·rw [List.getD_eq_getElem?_getD, e1, hq]; rfl
   ·exact absurd h1 (hrn i hi)
  have hmk : ∀ k i, ns[k]? = some i → (fun j => m (ns.getD j 0)) k = m i := fun k i hk => by
   show m (ns.getD k 0) = m i
   rw [List.getD_eq_getElem?_getD, hk]
   rfl
  obtain ⟨h1, h2⟩ := finL2_ok (rest := rest) (k := 0) (ns := ns) (mR := fun j => m (ns.getD j 0)) (rowOf := fun i => renR ns ((setH H (rest.flatMap (stay (rdOf H rest)))).getD i .dead)) hH hmk hrow ha (fun j i hj => by
   rw [Nat.zero_add, hns]; exact hj)
  rw [← hns] at h2
  have single : ∀ x u, as = [x] → us = [u] → (∀ cs, fin2 H ns rest x ≠ .tup cs) := fun x u e1 e2 => by
   subst e1; subst e2
   cases ha with
   | cons hx _ => exact (fin2_ok (rest := rest) (k := 0) (ns := ns) (mR := fun j => m (ns.getD j 0)) (rowOf := fun i => renR ns ((setH H (rest.flatMap (stay (rdOf H rest)))).getD i .dead)) hH hmk hrow hx (fun j i hj => by
     rw [Nat.zero_add, hns]; simpa using hj)).2.2
  have hrows : rowsA r = ns.map fun i => renR ns ((setH H (rest.flatMap (stay (rdOf H rest)))).getD i .dead) := by
   rw [← h2, ← h]
   cases ha with
   | nil => rfl
   | @cons x u as' us' hx t =>
    cases t with
    | nil =>
     have hs := single x u rfl rfl
     show rowsA (fin2 H ns rest x) = _
     simp only [List.map_cons, List.map_nil, List.flatMap_cons, List.flatMap_nil, List.append_nil]
     cases hf : fin2 H ns rest x <;> first | rfl | exact absurd hf (hs _)
    | cons h' t' => rfl
  refine ⟨_, _, by rw [hrows]; exact hT, ?_, okF_bd hH⟩
  subst h
  cases ha with
  | nil => exact ⟨[], rfl, trivial⟩
  | @cons x u as' us' hx t =>
   cases t with
   | nil =>
    have hs := single x u rfl rfl
    have hu : (if h : [u].toArray.size = 1 then [u].toArray[0] else Value.tuple [u].toArray) = u := rfl
    rw [hu]
    show relNA w _ _ (fin2 H ns rest x) u
    have h1 := h1.1
    cases hf : fin2 H ns rest x <;> rw [hf] at h1 <;> first | exact h1 | exact absurd hf (hs _) | exact (h1 : False).elim
   | @cons x' u' as'' us'' h' t' =>
    have hu : (if h : (u :: u' :: us'').toArray.size = 1 then (u :: u' :: us'').toArray[0] else Value.tuple (u :: u' :: us'').toArray) = Value.tuple (u :: u' :: us'').toArray := by
     rw [dif_neg (by simp)]
    rw [hu]
    exact ⟨_, rfl, h1⟩
theorem end_ok {fn : Func} {own : Bool} {r : AV} (hE : TyOk P E) (hR : Rel w0 o0 σ a w ok m) (h : endW E own fn.results.toList σ = some r) :
  a.defers = [] ∧ ∃ v, (results fn a.tmps).run P w = .ok v w ∧ Below w0.heap.size w0 w ∧ ResRel w0.heap.size o0 w r v := by
 unfold endW at h
 split at h
 case h_2 => simp at h
 rename_i as has
 obtain ⟨us, h1, h2⟩ := resWs_ok hE hR has
 unfold endW.finW at h
 generalize hns : (bif own then as.flatMap (nw2 σ.hp) else []) = ns at h
 have hnx : ns = as.flatMap (nx2 σ.hp ns) := by
  cases own with
  | true =>
   simp only [cond_true] at hns
   have : ∀ l : List AV, (∀ x ∈ l, ∀ i ∈ nw2 σ.hp x, i ∈ ns) → l.flatMap (nx2 σ.hp ns) = l.flatMap (nw2 σ.hp) := by
    intro l
    induction l with
    | nil => intro _; rfl
    | cons x l ih =>
     intro hx
     rw [List.flatMap_cons, List.flatMap_cons, ih fun y hy => hx y (List.mem_cons_of_mem _ hy)]
     congr 1
     unfold nx2
     rw [List.filter_eq_self]
     exact fun i hi => memN_iff.2 (hx x List.mem_cons_self i hi)
   rw [this as fun x hx i hi => by rw [← hns]; exact List.mem_flatMap.2 ⟨x, hx, hi⟩]
   exact hns.symm
  | false =>
   simp only [cond_false] at hns
   subst hns
   symm
   rw [List.flatMap_eq_nil_iff]
   intro x _
   unfold nx2
   rw [List.filter_eq_nil_iff]
   intro i _
   simp [memN]
 obtain ⟨okR, mR, g1, g2, g3⟩ := finW_ok hR.hr h2 hnx h
 refine ⟨hR.df, _, ?_, hR.bw, okR, mR, g1, g2, fun k hk => (g3 k hk).elim (hR.bd k) .inr⟩
 have e : results fn a.tmps = (do
   let vs ← fn.results.mapM (fetch a)
   pure (if h : vs.size = 1 then vs[0] else .tuple vs)) := rfl
 rw [e, Array.mapM_eq_mapM_toList]
 simp [h1]
theorem callW_ok {fn : Func} {c : Code} {f k : Nat} {own : Bool} {args : List AV} {r : AV} (hE : EOk P E) (hmix : P.follows .mixedOrders = true) (hf : P.funcs[f]? = some fn) (hname : (fn.name == "runtime.NumGoroutine") = false) (hbody : fn.body = some c)
  (h : callW E own fn k args = some r) : CallSpec P E.inv f args r := by
 intro w ok us hI hok ha
 refine .inl ⟨callFunc_enter hf hname (by rw [hbody]; rfl) _ _, ?_⟩
 unfold callW at h
 have hbo : bodyOf fn = c := by unfold bodyOf; rw [hbody]; rfl
 rw [hbo] at h
 refine calls_of_wp hf hbody ?_
 have hR : Rel w ok (startW fn args) { tmps := us.toArray ++ Array.replicate (fn.ntmps - us.toArray.size) undef, defers := [] } w ok mz := by
  refine ⟨?_, rfl, ⟨hok, fun id r h => by simp [startW] at h, fun id r k h => by simp [startW] at h, fun i j ri rj k h => by simp [startW] at h⟩, Below.refl _ _, fun k hk => .inl hk⟩
  have hl := ha.length
  simp only [startW, Array.toList_append, Array.toList_replicate, List.size_toArray]
  rw [← hl]
  refine ha.append ?_
  generalize fn.ntmps - args.length = q
  induction q with
  | zero => exact .nil
  | succ q ih => exact .cons trivial ih
 have fin : ∀ (σ : St) (a : Act) (w' : World) (ok' : Nat → Prop) (m' : Nat → Value), endW E own fn.results.toList σ = some r → Rel w ok σ a w' ok' m' →
   a.defers = [] ∧ ∃ v, (results fn a.tmps).run P w' = .ok v w' ∧ ∃ u, Ending.returned v = Ending.returned u ∧ Below w.heap.size w w' ∧ ResRel w.heap.size ok w' r u := by
  intro σ a w' ok' m' he hR'
  obtain ⟨h1, v, h2, h3, h4⟩ := end_ok hE.ty hR' he
  exact ⟨h1, v, h2, v, rfl, h3, h4⟩
 exact runC_ok hI hE hmix (fun c K σ a w ok m Q h hR hK => loopF_ok hI hE hmix k c K σ a w ok m Q h hR hK) c _ _ _ _ _ _ _ h hR
  ⟨fun σ a w' ok' m' he hR' => fin σ a w' ok' m' he hR', fun σ a w' ok' m' he hR' => fin σ a w' ok' m' he hR', fun id k σ a w' ok' m' hk => by simp [look] at hk⟩
end
end Go.Proofs.YtlfdikofmfhefaaGreatDoor.Ev
set_option linter.unusedVariables false
set_option linter.unusedSimpArgs false
namespace Go.Proofs.YtlfdikofmfhefaaGreatDoor.Ev
open Go Go.RowKit
def fits : (t : Ty) → t.D → Prop
 | .sl t, xs => List.length xs ≤ maxLen ∧ ∀ x, List.Mem x xs → fits t x
 | .pair a b, p => fits a p.1 ∧ fits b p.2
 | .int _, _ => True
 | .bool, _ => True
 | .str, _ => True
def fits0 : AV → Prop
 | .v t x => fits t x
 | _ => True
def fits1 : AV → Prop
 | .v t x => fits t x
 | .rp cs => ∀ c ∈ cs, fits0 c
 | _ => True
def fits2 : AV → Prop
 | .agg cs => ∀ c ∈ cs, fits1 c
 | x => fits1 x
def fitsA : AV → Prop
 | .fn _ fs cs => (∀ c ∈ fs, fits2 c) ∧ ∀ c ∈ cs, fits1 c
 | x => fits2 x
section
variable {P : Program} {w : World} {ok : Nat → Prop} {H : List Row} {m : Nat → Value}
theorem Rd_fits : ∀ {t : Ty} {x : t.D} {cs : List Value}, Rd w ok t x cs → fits t x
 | .int _, _, _, _ => trivial
 | .bool, _, _, _ => trivial
 | .str, _, _, _ => trivial
 | .sl t, xs, cs, h => by
  simp only [Rd] at h
  obtain ⟨a, c, _, hl, _, hx⟩ := h
  refine ⟨Nat.le_trans hl.1 hl.2, fun x hm => ?_⟩
  have hne : xs ≠ [] := by intro e; rw [e] at hm; cases hm
  obtain ⟨ad, us, _, _, hf, _⟩ := hx hne
  have hm : @Membership.mem t.D (List t.D) _ xs x := hm
  have : ∀ {l : List t.D} {us : List (List Value)}, F2 (fun x u => Rd w ok t x u) l us → x ∈ l → ∃ u, Rd w ok t x u := fun hf hm => hf.mem hm
  obtain ⟨u, hu⟩ := this hf hm
  exact Rd_fits hu
 | .pair a b, p, cs, h => by
  simp only [Rd] at h
  obtain ⟨c1, c2, _, h1, h2⟩ := h
  exact ⟨Rd_fits h1, Rd_fits h2⟩
theorem rel0_fits {x : AV} {u : Value} (h : rel0 w ok x u) : fits0 x := by
 cases x <;> first | exact Rd_fits h | trivial
theorem rel1_fits {x : AV} {u : Value} (h : rel1 w ok H m x u) : fits1 x := by
 cases x with
 | v t x => exact Rd_fits h
 | rp cs =>
  obtain ⟨ad, us, _, _, _, _, hf⟩ := h
  intro c hc
  obtain ⟨u, hu⟩ := hf.mem hc
  exact rel0_fits hu
 | _ => trivial
theorem rel2_fits {x : AV} {u : Value} (h : rel2 w ok H m x u) : fits2 x := by
 have key : rel1 w ok H m x u → fits1 x := rel1_fits
 cases x with
 | agg cs =>
  obtain ⟨us, _, hf⟩ := h
  intro c hc
  obtain ⟨u, hu⟩ := hf.mem hc
  exact rel1_fits hu
 | _ => exact key h
theorem rel_fits {x : AV} {u : Value} (h : rel w ok H m x u) : fitsA x := by
 have key : rel2 w ok H m x u → fits2 x := rel2_fits
 cases x with
 | fn g fs cs =>
  obtain ⟨us, vs, _, h1, h2⟩ := h
  refine ⟨fun c hc => ?_, fun c hc => ?_⟩
  ·obtain ⟨u, hu⟩ := h1.mem hc; exact rel2_fits hu
  ·obtain ⟨u, hu⟩ := h2.mem hc; exact rel1_fits hu
 | tup cs => trivial
 | agg cs => exact key h
 | _ => exact key h
theorem spec_fits {I : World → Prop} {g : Nat} {args : List AV} {av : AV} (h : (∀ x ∈ args, fitsA x) → CallSpec P I g args av) : CallSpec P I g args av := by
 intro w ok us hI hok ha
 refine h (fun x hx => ?_) w ok us hI hok ha
 obtain ⟨u, hu⟩ := ha.mem hx
 exact rel_fits hu
end
abbrev Hand := List AV → (AV → Option AV) → Option AV
def HandOk (P : Program) (I : World → Prop) (g : Nat) (h : Hand) : Prop := ∀ args κ r, h args κ = some r → ∃ av, κ av = some r ∧ CallSpec P I g args av
theorem calls_nil {P : Program} {t k x f I M} : CallsOk P ⟨t, [], k, x, f, I, M⟩ := fun g h hl => by simp [look] at hl
theorem calls_cons {P : Program} {t k x f I M g h l} (h1 : HandOk P I g h) (h2 : CallsOk P ⟨t, l, k, x, f, I, M⟩) : CallsOk P ⟨t, (g, h) :: l, k, x, f, I, M⟩ := by
 intro g' h' hl
 simp only [look] at hl
 cases hb : Nat.beq g g' with
 | true =>
  rw [hb] at hl
  simp only [cond_true, Option.some.injEq] at hl
  rw [← Nat.eq_of_beq_eq_true hb, ← hl]
  exact h1
 | false => rw [hb] at hl; exact h2 g' h' hl
def MHandOk (P : Program) (I : World → Prop) (g : Nat) (mh : MHand) : Prop := ∀ args e t xs κ r, mh.2 args e t xs κ = some r → ∃ res ys, κ res ys = some r ∧ MSpec P I g mh.1 args e t xs ys res
theorem mcalls_nil {P : Program} {t c k x f I} : MCallsOk P ⟨t, c, k, x, f, I, []⟩ := fun g p h hl => by simp [look] at hl
theorem mcalls_cons {P : Program} {t c k x f I g h l} (h1 : MHandOk P I g h) (h2 : MCallsOk P ⟨t, c, k, x, f, I, l⟩) : MCallsOk P ⟨t, c, k, x, f, I, (g, h) :: l⟩ := by
 intro g' p' h' hl
 simp only [look] at hl
 cases hb : Nat.beq g g' with
 | true =>
  rw [hb] at hl
  simp only [cond_true, Option.some.injEq] at hl
  subst hl
  rw [← Nat.eq_of_beq_eq_true hb]
  exact h1
 | false => rw [hb] at hl; exact h2 g' p' h' hl
def callH (E : Env) (own : Bool) (fn : Func) (k : Nat) : Hand := fun args κ => match callW E own fn k args with
 | some r => κ r
 | none => none
theorem hand_callH {P : Program} {E : Env} {own : Bool} {fn : Func} {c : Code} {f k : Nat} (hE : EOk P E) (hmix : P.follows .mixedOrders = true) (hf : P.funcs[f]? = some fn) (hname : (fn.name == "runtime.NumGoroutine") = false) (hbody : fn.body = some c) :
  HandOk P E.inv f (callH E own fn k) := by
 intro args κ r h
 unfold callH at h
 split at h
 ·rename_i av hav
  exact ⟨av, h, callW_ok hE hmix hf hname hbody hav⟩
 ·simp at h
inductive W1 : AV → AV → Prop
  | same (x : AV) : W1 x x
  | nl (t : Ty) : W1 .nl (.v (.sl t) ([] : List t.D))
inductive W2 : AV → AV → Prop
  | one {x y : AV} : (∀ cs, x ≠ .agg cs) → W1 x y → W2 x y
  | agg {cs ds : List AV} : F2 W1 cs ds → W2 (.agg cs) (.agg ds)
inductive WA : AV → AV → Prop
  | two {x y : AV} : (∀ cs, x ≠ .tup cs) → W2 x y → WA x y
  | tup {cs ds : List AV} : F2 W2 cs ds → WA (.tup cs) (.tup ds)
section
variable {P : Program} {w : World} {ok : Nat → Prop} {mR : Nat → Value}
theorem W1.rows {x y : AV} (h : W1 x y) : rows1 y = rows1 x := by cases h <;> rfl
theorem W1.rel {x y : AV} {k : Nat} {u : Value} (h : W1 x y) (hr : relN1 w ok mR k x u) : relN1 w ok mR k y u := by
 cases h with
 | same => exact hr
 | nl t =>
  have hr : u = .slice none 0 0 := hr
  subst hr
  show Rd w ok (.sl t) ([] : List t.D) [.slice none 0 0]
  simp only [Rd]
  exact ⟨none, 0, rfl, Lc0, fun _ => ⟨rfl, rfl⟩, fun h => absurd rfl h⟩
theorem WL1 : ∀ {cs ds : List AV} {us : List Value} {k : Nat}, F2 W1 cs ds → relL1 w ok mR k cs us → relL1 w ok mR k ds us ∧ ds.flatMap rows1 = cs.flatMap rows1
 | _, _, [], _, .nil, h => ⟨h, rfl⟩
 | _, _, _ :: _, _, .nil, h => h.elim
 | _, _, [], _, .cons _ _, h => h.elim
 | _, _, u :: us, k, @F2.cons _ _ _ x y cs ds hx t, ⟨h1, h2⟩ => by
  obtain ⟨g1, g2⟩ := WL1 t h2
  exact ⟨⟨hx.rel h1, by rw [hx.rows]; exact g1⟩, by rw [List.flatMap_cons, List.flatMap_cons, hx.rows, g2]⟩
theorem W1.shape {x y : AV} (h : W1 x y) (hx : ∀ cs, x ≠ .agg cs) : (∀ cs, y ≠ .agg cs) ∧ ((∀ cs, x ≠ .tup cs) → ∀ cs, y ≠ .tup cs) := by
 cases h with
 | same => exact ⟨hx, fun h => h⟩
 | nl t => exact ⟨by simp, by simp⟩
theorem relN2_of1 {x : AV} {k : Nat} {u : Value} (hx : ∀ cs, x ≠ .agg cs) : relN2 w ok mR k x u = relN1 w ok mR k x u := by
 cases x <;> first | rfl | exact absurd rfl (hx _)
theorem rows2_of1 {x : AV} (hx : ∀ cs, x ≠ .agg cs) : rows2 x = rows1 x := by
 cases x <;> first | rfl | exact absurd rfl (hx _)
theorem W2.rel {x y : AV} {k : Nat} {u : Value} (h : W2 x y) (hr : relN2 w ok mR k x u) : relN2 w ok mR k y u ∧ rows2 y = rows2 x := by
 cases h with
 | one hx h =>
  have hy := (h.shape hx).1
  rw [relN2_of1 hx] at hr
  rw [relN2_of1 hy, rows2_of1 hx, rows2_of1 hy]
  exact ⟨h.rel hr, h.rows⟩
 | agg h =>
  obtain ⟨us, rfl, hl⟩ := hr
  obtain ⟨g1, g2⟩ := WL1 h hl
  exact ⟨⟨us, rfl, g1⟩, g2⟩
theorem WL2 : ∀ {cs ds : List AV} {us : List Value} {k : Nat}, F2 W2 cs ds → relL2 w ok mR k cs us → relL2 w ok mR k ds us ∧ ds.flatMap rows2 = cs.flatMap rows2
 | _, _, [], _, .nil, h => ⟨h, rfl⟩
 | _, _, _ :: _, _, .nil, h => h.elim
 | _, _, [], _, .cons _ _, h => h.elim
 | _, _, u :: us, k, @F2.cons _ _ _ x y cs ds hx t, ⟨h1, h2⟩ => by
  obtain ⟨g1, g2⟩ := WL2 t h2
  obtain ⟨e1, e2⟩ := hx.rel h1
  exact ⟨⟨e1, by rw [e2]; exact g1⟩, by rw [List.flatMap_cons, List.flatMap_cons, e2, g2]⟩
theorem relNA_of2 {x : AV} {u : Value} (hx : ∀ cs, x ≠ .tup cs) (hg : ∀ g a b, x ≠ .fn g a b) : relNA w ok mR x u = relN2 w ok mR 0 x u := by
 cases x <;> first | rfl | exact absurd rfl (hx _) | exact absurd rfl (hg _ _ _)
theorem rowsA_of2 {x : AV} (hx : ∀ cs, x ≠ .tup cs) : rowsA x = rows2 x := by
 cases x <;> first | rfl | exact absurd rfl (hx _)
theorem WA.rel {x y : AV} {u : Value} (h : WA x y) (hr : relNA w ok mR x u) : relNA w ok mR y u ∧ rowsA y = rowsA x := by
 cases h with
 | two hx h =>
  have hy : ∀ cs, y ≠ .tup cs := by
   cases h with
   | one hx' h => exact (h.shape hx').2 hx
   | agg h => simp
  have fnc : (∃ g a b, x = .fn g a b) ∨ ((∀ g a b, x ≠ .fn g a b) ∧ ∀ g a b, y ≠ .fn g a b) := by
   cases x with
   | fn g a b => exact .inl ⟨g, a, b, rfl⟩
   | _ =>
    refine .inr ⟨by simp, ?_⟩
    cases h <;> first
     | simp; done
     | (rename_i h; cases h <;> simp)
  rcases fnc with ⟨g, a, b, rfl⟩ | ⟨f1, f2⟩
  ·cases h with
   | one _ h =>
    cases h with
    | same => exact ⟨hr, rfl⟩
  rw [relNA_of2 hx f1] at hr
  rw [relNA_of2 hy f2, rowsA_of2 hx, rowsA_of2 hy]
  exact h.rel hr
 | tup h =>
  obtain ⟨us, rfl, hl⟩ := hr
  obtain ⟨g1, g2⟩ := WL2 h hl
  exact ⟨⟨us, rfl, g1⟩, g2⟩
theorem res_weak {size : Nat} {x y : AV} {u : Value} {w' : World} (h : WA x y) (hr : ResRel size ok w' x u) : ResRel size ok w' y u := by
 obtain ⟨okR, mR, h1, h2, h3⟩ := hr
 obtain ⟨g1, g2⟩ := h.rel h2
 exact ⟨okR, mR, by rw [g2]; exact h1, g1, h3⟩
theorem spec_weak {I : World → Prop} {g : Nat} {args : List AV} {x y : AV} (h : WA x y) (hs : CallSpec P I g args x) : CallSpec P I g args y := by
 intro w ok us hI hok ha
 rcases hs w ok us hI hok ha with ⟨h1, h2⟩ | ⟨u, h1, h2⟩
 ·refine .inl ⟨h1, h2.mono fun e w' he => ?_⟩
  obtain ⟨u, e1, e2, e3⟩ := he
  exact ⟨u, e1, e2, res_weak h e3⟩
 ·exact .inr ⟨u, h1, res_weak h h2⟩
end
theorem wrap_ok {x : Int} (h1 : -9223372036854775808 ≤ x) (h2 : x ≤ 9223372036854775807) : IntKind.i64.wrap x = x := by rw [IntKind.wrap_i64]; omega
theorem drop_get {α : Type} {xs : List α} {i : Int} {d : α} (h0 : 0 ≤ i) (h1 : i < xs.length) : xs.drop i.toNat = xs.getD i.toNat d :: xs.drop (i + 1).toNat := by
 have hi : i.toNat < xs.length := by omega
 rw [List.drop_eq_getElem_cons hi, List.getD_eq_getElem?_getD, List.getElem?_eq_getElem hi, show (i + 1).toNat = i.toNat + 1 by omega]
 rfl
end Go.Proofs.YtlfdikofmfhefaaGreatDoor.Ev
set_option linter.unusedVariables false
set_option linter.unusedSimpArgs false
namespace Go.Proofs.YtlfdikofmfhefaaGreatDoor.Ev
open Go Go.RowKit
def no : Nat → Option Row := fun _ => none
abbrev DL : List Ty → Type
 | [] => Unit
 | t :: ts => t.D × DL ts
def pullA : (t : Ty) → AV → Option t.D
 | .pair a b, x => (match x with
  | .agg cs => (match implode no (.pair a b) cs with
   | some (y, []) => some y
   | _ => none)
  | _ => none)
 | .int k, x => leafD no (.int k) x
 | .bool, x => leafD no .bool x
 | .str, x => leafD no .str x
 | .sl t, x => leafD no (.sl t) x
def pullN : (ts : List Ty) → List AV → Option (DL ts)
 | [], [] => some ()
 | t :: ts, a :: as => (match pullA t a with
  | some x => (match pullN ts as with
   | some r => some (x, r)
   | none => none)
  | none => none)
 | _, _ => none
def argA : (t : Ty) → t.D → AV
 | .pair a b, x => .agg (explode (.pair a b) x)
 | .int k, x => .v (.int k) x
 | .bool, x => .v .bool x
 | .str, x => .v .str x
 | .sl t, x => .v (.sl t) x
def argsN : (ts : List Ty) → DL ts → List AV
 | [], _ => []
 | t :: ts, p => argA t p.1 :: argsN ts p.2
def handN (ts : List Ty) (f : DL ts → (AV → Option AV) → Option AV) : Hand := fun args κ => match pullN ts args with
 | some xs => f xs κ
 | none => none
section
variable {P : Program} {I : World → Prop} {w : World} {ok : Nat → Prop}
theorem pullA_rel {t : Ty} {a : AV} {u : Value} {x : t.D} (h : pullA t a = some x) (hr : rel w ok [] mz a u) : rel w ok [] mz (argA t x) u := by
 have key : ∀ {t : Ty} {x : t.D}, leafD no t a = some x → rel w ok [] mz (.v t x) u := by
  intro t x h
  have hr1 : rel1 w ok [] mz a u := by
   cases a <;> first | exact hr | simp [leafD] at h
  exact leafD_rd (rd := no) (fun i r hi => by simp [no] at hi) (fun k hk => hk) (fun id e t xs _ hH => by simp at hH) hr1 h
 cases t with
 | pair p q =>
  cases a with
  | agg cs =>
   simp only [pullA] at h
   split at h
   case h_2 => simp at h
   rename_i y hy
   simp only [Option.some.injEq] at h
   subst h
   obtain ⟨us, rfl, hf⟩ := hr
   obtain ⟨u1, u2, e, h1, h2, _⟩ := implode_rd (rd := no) (fun i r hi => by simp [no] at hi) (fun k hk => hk) (fun id e t xs _ hH => by simp at hH) hf hy
   cases h2
   rw [List.append_nil] at e
   subst e
   refine ⟨us, rfl, (explode_rel h1).imp fun c v _ hc => ?_⟩
   cases c <;> first | exact hc | trivial
  | _ => simp [pullA] at h
 | _ => exact key h
theorem pullN_rel : ∀ {ts : List Ty} {args : List AV} {us : List Value} {xs : DL ts}, pullN ts args = some xs → F2 (rel w ok [] mz) args us → F2 (rel w ok [] mz) (argsN ts xs) us
 | [], [], us, xs, h, hf => hf
 | [], a :: as, us, xs, h, hf => by simp [pullN] at h
 | t :: ts, [], us, xs, h, hf => by simp [pullN] at h
 | t :: ts, a :: as, us, xs, h, hf => by
  simp only [pullN] at h
  split at h
  case h_2 => simp at h
  rename_i x hx
  split at h
  case h_2 => simp at h
  rename_i r hr
  simp only [Option.some.injEq] at h
  subst h
  cases hf with
  | cons h1 h2 => exact .cons (pullA_rel hx h1) (pullN_rel hr h2)
theorem spec_args {g : Nat} {args args' : List AV} {av : AV} (h : ∀ (w : World) (ok : Nat → Prop) (us : List Value), F2 (rel w ok [] mz) args us → F2 (rel w ok [] mz) args' us) (hs : CallSpec P I g args' av) : CallSpec P I g args av :=
 fun w ok us hI hok ha => hs w ok us hI hok (h w ok us ha)
theorem handN_ok {g : Nat} {ts : List Ty} {f : DL ts → (AV → Option AV) → Option AV}
  (h : ∀ xs κ r, f xs κ = some r → ∃ av, κ av = some r ∧ CallSpec P I g (argsN ts xs) av) : HandOk P I g (handN ts f) := by
 intro args κ r hr
 unfold handN at hr
 split at hr
 case h_2 => simp at hr
 rename_i xs hxs
 obtain ⟨av, h1, h2⟩ := h xs κ r hr
 exact ⟨av, h1, spec_args (fun w ok us hf => pullN_rel hxs hf) h2⟩
theorem hand_if {g : Nat} {ts : List Ty} {c : DL ts → Bool} {v : DL ts → AV} (h : ∀ xs, c xs = true → CallSpec P I g (argsN ts xs) (v xs)) : HandOk P I g (handN ts fun xs κ => bif c xs then κ (v xs) else none) := by
 refine handN_ok fun xs κ r hr => ?_
 cases hc : c xs with
 | false => simp [hc] at hr
 | true =>
  simp only [hc, cond_true] at hr
  exact ⟨_, hr, h xs hc⟩
theorem hand_un {g : Nat} {ts : List Ty} {v : DL ts → AV} (h : ∀ xs, CallSpec P I g (argsN ts xs) (v xs)) : HandOk P I g (handN ts fun xs κ => κ (v xs)) :=
 handN_ok fun xs κ r hr => ⟨_, hr, h xs⟩
end
theorem WA.refl (x : AV) : WA x x := by
 have r1 : ∀ (x : AV), W1 x x := W1.same
 have r1l : ∀ (cs : List AV), F2 W1 cs cs := fun cs => by
  induction cs with
  | nil => exact .nil
  | cons c cs ih => exact .cons (r1 c) ih
 have r2 : ∀ (x : AV), W2 x x := fun x => by
  cases x with
  | agg cs => exact .agg (r1l cs)
  | _ => exact .one (by simp) (r1 _)
 have r2l : ∀ (cs : List AV), F2 W2 cs cs := fun cs => by
  induction cs with
  | nil => exact .nil
  | cons c cs ih => exact .cons (r2 c) ih
 cases x with
 | tup cs => exact .tup (r2l cs)
 | _ => exact .two (by simp) (r2 _)
end Go.Proofs.YtlfdikofmfhefaaGreatDoor.Ev
set_option linter.unusedVariables false
namespace Go.Proofs.YtlfdikofmfhefaaGreatDoor.Ev
open Go Go.RowKit
def oldB (w : World) (k : Nat) : Prop := k < w.heap.size
def Rds (P : Program) (t : TypeId) (ty : Ty) (Q : ty.D → Prop) : Prop :=
 ∀ {H : Type} (enc : TypeId × Value → H) (w : World) (base : Nat) (spare : Nat → Bool) (held : Bool) (fuel : Nat) (cs : List Value) (x : DataW H × List MemPlace),
  DataW.trod enc P w base spare held fuel t cs = some x → ∃ z : ty.D, Q z ∧ Rd w (oldB w) ty z cs
def RdsF (P : Program) (total : Nat) (o : Nat) (fs : List (Nat × TypeId)) (ty : Ty) (Q : ty.D → Prop) : Prop :=
 ∀ {H : Type} (enc : TypeId × Value → H) (w : World) (base : Nat) (spare : Nat → Bool) (held : Bool) (fuel : Nat) (cs : List Value),
  cs.length = total → (∀ f ∈ fs, ∃ x, DataW.trod enc P w base spare held fuel f.2 ((cs.drop f.1).take (P.cellsOf f.2)) = some x) → ∃ z : ty.D, Q z ∧ Rd w (oldB w) ty z (cs.drop o)
theorem rds_weak {P : Program} {t : TypeId} {ty : Ty} {Q Q' : ty.D → Prop} (h : Rds P t ty Q) (hq : ∀ z, Q z → Q' z) : Rds P t ty Q' := fun enc w base spare held fuel cs x hx => by
 obtain ⟨z, h1, h2⟩ := h enc w base spare held fuel cs x hx
 exact ⟨z, hq z h1, h2⟩
theorem rds_int {P : Program} {t : TypeId} {k : IntKind} (ht : P.underlying t = some (.int k)) : Rds P t (.int k) (fun (n : Int) => k.min ≤ n ∧ n ≤ k.max) := fun enc w base spare held fuel cs x hx => by
 obtain ⟨n, rfl, _, hw⟩ := DataW.trod_int ht hx
 simp only [Lit.wf, Bool.and_eq_true, decide_eq_true_eq] at hw
 exact ⟨n, hw, rfl⟩
theorem cells_len {w : World} {base : Nat} {a : Addr} {n : Nat} {l : List Value} (h : w.cells? base a n = some l) : l.length = n ∧ ∀ j u, l[j]? = some u → w.cell? (a.add j) = some u := by
 unfold World.cells? at h
 split at h
 case isFalse => simp at h
 have hl := mapM_some_length h
 rw [List.length_range] at hl
 refine ⟨hl, fun j u hj => ?_⟩
 have hlt : j < n := by
  rcases Nat.lt_or_ge j n with h1 | h1
  ·exact h1
  ·rw [List.getElem?_eq_none (by omega)] at hj
   simp at hj
 have := mapM_some_get h j j (by rw [List.getElem?_range hlt])
 rw [this, hj]
theorem add_add' (a : Addr) (i j : Nat) : (a.add i).add j = a.add (i + j) := by
 rcases Nat.eq_zero_or_pos i with rfl | hi
 ·simp [Addr.add]
 ·rcases Nat.eq_zero_or_pos j with rfl | hj
  ·simp [Addr.add]
  ·have h1 : ¬ i = 0 := by omega
   have h2 : ¬ j = 0 := by omega
   have h3 : ¬ i + j = 0 := by omega
   simp [Addr.add, h1, h2, Nat.add_assoc]
theorem rel0_to1 {w : World} {ok : Nat → Prop} {x : AV} {u : Value} (h : rel0 w ok x u) : rel1 w ok [] mz x u := by
 cases x <;> first | exact h | trivial
theorem rds_slice {P : Program} {t e : TypeId} {ty : Ty} {Q : ty.D → Prop} (ht : P.underlying t = some (.slice e)) (he : 0 < P.cellsOf e) (h : Rds P e ty Q) : Rds P t (.sl ty) (fun (l : List ty.D) => ∀ z ∈ l, Q z) := fun enc w base spare held fuel cs x hx => by
 rcases DataW.trod_slice ht hx with ⟨rfl, _⟩ | ⟨a, len, cap, elems, rest, n, rfl, rfl, _, _, h1, h2, h3, h4, _, _⟩
 ·exact ⟨[], by simp, none, 0, rfl, Lc0, fun _ => ⟨rfl, rfl⟩, fun h => absurd rfl h⟩
 ·have key : ∀ m, m ≤ len → ∃ (zs : List ty.D) (us : List (List Value)), zs.length = m ∧ (∀ z ∈ zs, Q z) ∧ F2 (fun z u => Rd w (oldB w) ty z u) zs us ∧ Cells w a us.flatten ∧ us.flatten.length = m * P.cellsOf e := by
   intro m
   induction m with
   | zero => exact fun _ => ⟨[], [], rfl, by simp, .nil, fun j u hj => by simp at hj, by simp⟩
   | succ m ih =>
    intro hm
    obtain ⟨zs, us, e1, e2, e3, e4, e5⟩ := ih (by omega)
    have hg := h4 m (by omega)
    rw [List.getElem?_eq_getElem (by omega)] at hg
    obtain ⟨l, hl, hr⟩ := Option.bind_eq_some_iff.mp hg
    obtain ⟨hlen, hat⟩ := cells_len hl
    obtain ⟨z, q1, q2⟩ := h enc w base spare held n l _ hr
    refine ⟨zs ++ [z], us ++ [l], by simp [e1], ?_, F2.append e3 (.cons q2 .nil), ?_, ?_⟩
    ·intro y hy
     rcases List.mem_append.mp hy with hy | hy
     ·exact e2 y hy
     ·obtain rfl := List.mem_singleton.mp hy
      exact q1
    ·intro j u hj
     rw [List.flatten_append] at hj
     rcases Nat.lt_or_ge j us.flatten.length with hj1 | hj1
     ·rw [List.getElem?_append_left hj1] at hj
      exact e4 j u hj
     ·rw [List.getElem?_append_right hj1] at hj
      simp only [List.flatten_cons, List.flatten_nil, List.append_nil] at hj
      have := hat _ u hj
      rw [add_add'] at this
      rw [e5] at this hj1
      have hk : m * P.cellsOf e + (j - m * P.cellsOf e) = j := by omega
      rwa [hk] at this
    ·simp [e5, hlen, Nat.succ_mul]
  obtain ⟨zs, us, e1, e2, e3, e4, e5⟩ := key len (Nat.le_refl _)
  refine ⟨zs, e2, some a, cap, by rw [e1], ⟨by omega, h2⟩, fun h => by simp at h, fun hne => ⟨a, us, rfl, ?_, e3, e4⟩⟩
  have hpos : 0 < us.flatten.length := by
   rw [e5]
   refine Nat.mul_pos ?_ he
   rw [← e1]
   exact Nat.pos_of_ne_zero fun h0 => hne (List.eq_nil_of_length_eq_zero h0)
  have := e4 0 _ (List.getElem?_eq_getElem hpos)
  exact World.block_lt_of_cell? w _ this
theorem rdsF_last {P : Program} {total o : Nat} {t : TypeId} {ty : Ty} {Q : ty.D → Prop} (hs : total = o + P.cellsOf t) (h : Rds P t ty Q) : RdsF P total o [(o, t)] ty Q := fun enc w base spare held fuel cs hlen hf => by
 obtain ⟨x, hx⟩ := hf (o, t) (by simp)
 obtain ⟨z, h1, h2⟩ := h enc w base spare held fuel _ x hx
 have e : (cs.drop o).take (P.cellsOf t) = cs.drop o := List.take_of_length_le (by rw [List.length_drop]; omega)
 rw [e] at h2
 exact ⟨z, h1, h2⟩
theorem rdsF_cons {P : Program} {total o o' : Nat} {t : TypeId} {fs : List (Nat × TypeId)} {a b : Ty} {Qa : a.D → Prop} {Qb : b.D → Prop} (hs : o' = o + P.cellsOf t) (h : Rds P t a Qa) (h2 : RdsF P total o' fs b Qb) :
  RdsF P total o ((o, t) :: fs) (.pair a b) (fun z => Qa z.1 ∧ Qb z.2) := fun enc w base spare held fuel cs hlen hf => by
 obtain ⟨x, hx⟩ := hf (o, t) (by simp)
 obtain ⟨z, q1, q2⟩ := h enc w base spare held fuel _ x hx
 obtain ⟨y, r1, r2⟩ := h2 enc w base spare held fuel cs hlen (fun f hm => hf f (List.mem_cons_of_mem _ hm))
 refine ⟨(z, y), ⟨q1, r1⟩, _, _, ?_, q2, r2⟩
 rw [hs, ← List.drop_drop]
 exact (List.take_append_drop _ _).symm
theorem rds_struct {P : Program} {t : TypeId} {fs : Array Field} {total : Nat} {ty : Ty} {Q : ty.D → Prop} (ht : P.underlying t = some (.struct fs)) (hc : P.cellsOf t = total) (h : RdsF P total 0 (fs.toList.map fun f => (f.offset, f.type)) ty Q) : Rds P t ty Q := fun enc w base spare held fuel cs x hx => by
 obtain ⟨xs, n, rfl, _, hlen, hsz, hf⟩ := DataW.trod_struct ht hx
 obtain ⟨z, h1, h2⟩ := h enc w base spare held n cs (hlen.trans hc) (fun f hm => by
  obtain ⟨g, hg, rfl⟩ := List.mem_map.mp hm
  obtain ⟨i, hi, he⟩ := List.mem_iff_getElem.mp hg
  have hi' : i < fs.size := by simpa using hi
  have := hf i g (by rw [Array.getElem?_eq_getElem hi']; exact congrArg some (by simpa using he))
  rw [List.getElem?_eq_getElem (by omega)] at this
  exact ⟨_, this⟩)
 exact ⟨z, h1, h2⟩
theorem rds_arg {P : Program} {t : TypeId} {fs : Array Field} {ty : Ty} {Q : ty.D → Prop} {H : Type} {enc : TypeId × Value → H} {w : World} {base b0 : Nat} {spare : Nat → Bool} {held : Bool} {r : Reach} {v : Value} {d : DataW H} {ps : List MemPlace}
  (ht : P.underlying t = some (.struct fs)) (h : Rds P t ty Q) (hval : Value.okWide P w r b0 t v) (hd : DataW.Trod enc P w base spare held t v d ps) :
  ∃ z : ty.D, Q z ∧ rel w (oldB w) [] mz (.agg (explode ty z)) v := by
 obtain ⟨cs, rfl, _⟩ := Go.WideShapes.okWide_struct ht hval
 obtain ⟨fuel, hf⟩ := hd
 obtain ⟨z, h1, h2⟩ := h enc w base spare held fuel _ _ hf
 refine ⟨z, h1, cs.toList, ?_, F2.imp (explode_rel h2) (fun _ _ _ h => rel0_to1 h)⟩
 simp
end Go.Proofs.YtlfdikofmfhefaaGreatDoor.Ev
set_option linter.unusedVariables false
set_option linter.unusedSimpArgs false
namespace Go.Proofs.YtlfdikofmfhefaaGreatDoor.Ev
open Go Go.RowKit
section
variable {P : Program} {E : Env} {w : World} {ok : Nat → Prop} {H : List Row} {m : Nat → Value}
end
end Go.Proofs.YtlfdikofmfhefaaGreatDoor.Ev
