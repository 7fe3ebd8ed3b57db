/-
The evaluator's relation, moved: to a later world, to a heap that has changed.
Conditions: what is read stays as it was; each row changes as rows may.
-/
import Derived.Test.YtoplphfgbfcagaaEvB
set_option linter.unusedVariables false
set_option linter.unusedSimpArgs false
namespace Go.Proofs.Ytoplphfgbfcagaa.Ev
open Go Go.RowKit

/-- What is read in w under 'ok' is there in w' and may be read under ok'. -/
structure Moves (w w' : World) (ok ok' : Nat → Prop) : Prop where
  sz : w.heap.size ≤ w'.heap.size
  blk : ∀ k, ok k → k < w.heap.size → w'.heap[k]? = w.heap[k]? ∧ ok' k
theorem Moves.refl (w : World) (ok : Nat → Prop) : Moves w w ok ok := ⟨Nat.le_refl _, fun _ h _ => ⟨rfl, h⟩⟩
theorem Moves.trans {w w' w'' : World} {ok ok' ok'' : Nat → Prop} (h : Moves w w' ok ok') (h' : Moves w' w'' ok' ok'') : Moves w w'' ok ok'' := ⟨Nat.le_trans h.sz h'.sz, fun k hk hl =>
  ⟨(h'.blk k (h.blk k hk hl).2 (Nat.lt_of_lt_of_le hl h.sz)).1.trans (h.blk k hk hl).1, (h'.blk k (h.blk k hk hl).2 (Nat.lt_of_lt_of_le hl h.sz)).2⟩⟩
theorem Moves.of_below {w w' : World} {ok : Nat → Prop} (h : Below w.heap.size w w') : Moves w w' ok ok := ⟨h.size, fun k hk hl => ⟨h.block k hl, hk⟩⟩
theorem Moves.of_grown {w w' : World} {ok : Nat → Prop} {row : Option Nat} (h : w.grownBy w' row) (hr : ∀ k, row = some k → ¬ ok k) : Moves w w' ok ok := ⟨h.size, fun k hk hl =>
  ⟨h.block k hl (fun e => hr k e.symm hk), hk⟩⟩
theorem Moves.rd {w w' : World} {ok ok' : Nat → Prop} (h : Moves w w' ok ok') {t : Ty} {x : t.D} {cs : List Value} (hr : Rd w ok t x cs) : Rd w' ok' t x cs := Rd_move h.blk hr

/-- How one row may change while what is told of it stays true. -/
inductive Trans (w : World) (ok : Nat → Prop) (u : Value) : Row → Row → Prop
  | same (r) : Trans w ok u r r
  | dead (r) : Trans w ok u r .dead
  | frz (e t xs ys) : Rd w ok (.sl t) ys [u] → Trans w ok u (.row e t xs) (.frz t ys)
  | row (e t xs ys) : ys.length = xs.length → Trans w ok u (.row e t xs) (.row e t ys)
  | fbx (cs cs') : Trans w ok u (.box cs) (.fbx cs')
  | box (cs cs') : Trans w ok u (.box cs) (.box cs')

/-- From one world and heap to the next. -/
structure HStep (w w' : World) (ok ok' : Nat → Prop) (H H' : List Row) (m m' : Nat → Value) : Prop where
  mv : Moves w w' ok ok'
  tr : ∀ id r, H[id]? = some r → r ≠ .hole → m' id = m id ∧ ∃ r', H'[id]? = some r' ∧ Trans w' ok' (m id) r r'

theorem rel0_move {w w' : World} {ok ok' : Nat → Prop} (h : Moves w w' ok ok') {a : AV} {u : Value} (hr : rel0 w ok a u) : rel0 w' ok' a u := by
  cases a <;> simp only [rel0] at hr ⊢ <;> first | exact h.rd hr | exact hr | trivial
theorem rp_move {w w' : World} {ok ok' : Nat → Prop} (h : Moves w w' ok ok') {cs : List AV} {u : Value}
    (hr : ∃ ad us, u = .pointer (some ad) ∧ ok ad.block ∧ ad.block < w.heap.size ∧ Cells w ad us ∧ F2 (rel0 w ok) cs us) :
    ∃ ad us, u = .pointer (some ad) ∧ ok' ad.block ∧ ad.block < w'.heap.size ∧ Cells w' ad us ∧ F2 (rel0 w' ok') cs us := by
  obtain ⟨ad, us, rfl, hk, hl, hc, hf⟩ := hr
  obtain ⟨hb, hk'⟩ := h.blk _ hk hl
  exact ⟨ad, us, rfl, hk', Nat.lt_of_lt_of_le hl h.sz, hc.move hb, hf.imp fun _ _ _ h' => rel0_move h h'⟩
theorem rel1_step {w w' : World} {ok ok' : Nat → Prop} {H H' : List Row} {m m' : Nat → Value} (h : HStep w w' ok ok' H H' m m') {a : AV} {u : Value}
    (hr : rel1 w ok H m a u) : rel1 w' ok' H' m' a u := by
  cases a with
  | v t x => exact h.mv.rd hr
  | nl => exact hr
  | un => trivial
  | rp cs => exact rp_move h.mv hr
  | agg cs => exact hr.elim
  | tup cs => exact hr.elim
  | fn g f c => exact hr.elim
  | nw e t xs => exact hr.elim
  | own id =>
    simp only [rel1] at hr ⊢
    refine ⟨hr.1, ?_⟩
    replace hr := hr.2
    cases hH : H[id]? with
    | none => rw [hH] at hr; exact hr.elim
    | some r =>
      rw [hH] at hr
      have hh : r ≠ .hole := by rintro rfl; exact hr
      obtain ⟨hm, r', hr', ht⟩ := h.tr id r hH hh
      rw [hr', hm]
      cases ht with
      | same => cases r <;> first | exact hr | exact h.mv.rd hr
      | dead => trivial
      | frz e t xs ys hx => simp only at hr ⊢; rw [hr]; exact hx
      | row e t xs ys _ => exact hr
      | fbx => exact hr.elim
      | box => exact hr.elim
  | pb id off =>
    simp only [rel1] at hr ⊢
    refine ⟨hr.1, ?_⟩
    replace hr := hr.2
    cases hH : H[id]? with
    | none => rw [hH] at hr; exact hr.elim
    | some r =>
      rw [hH] at hr
      have hh : r ≠ .hole := by rintro rfl; exact hr
      obtain ⟨hm, r', hr', ht⟩ := h.tr id r hH hh
      rw [hr', hm]
      cases ht with
      | same => exact hr
      | dead => trivial
      | frz e t xs ys hx => exact hr.elim
      | row e t xs ys _ => exact hr.elim
      | fbx => exact hr
      | box => exact hr
  | pe id i off =>
    simp only [rel1] at hr ⊢
    refine ⟨hr.1, ?_⟩
    replace hr := hr.2
    cases hH : H[id]? with
    | none => rw [hH] at hr; exact hr.elim
    | some r =>
      rw [hH] at hr
      have hh : r ≠ .hole := by rintro rfl; exact hr
      obtain ⟨hm, r', hr', ht⟩ := h.tr id r hH hh
      rw [hr', hm]
      cases ht with
      | same => exact hr
      | dead => trivial
      | frz e t xs ys hx => trivial
      | row e t xs ys hl => simp only at hr ⊢; rw [hl]; exact hr
      | fbx => exact hr.elim
      | box => exact hr.elim
theorem rel2_step {w w' : World} {ok ok' : Nat → Prop} {H H' : List Row} {m m' : Nat → Value} (h : HStep w w' ok ok' H H' m m') {a : AV} {u : Value}
    (hr : rel2 w ok H m a u) : rel2 w' ok' H' m' a u := by
  cases a with
  | agg cs =>
    obtain ⟨us, rfl, hf⟩ := hr
    exact ⟨us, rfl, hf.imp fun _ _ _ h' => rel1_step h h'⟩
  | _ => simp only [rel2] at hr ⊢; exact rel1_step h hr
theorem rel_step {w w' : World} {ok ok' : Nat → Prop} {H H' : List Row} {m m' : Nat → Value} (h : HStep w w' ok ok' H H' m m') {a : AV} {u : Value}
    (hr : rel w ok H m a u) : rel w' ok' H' m' a u := by
  cases a with
  | tup cs =>
    obtain ⟨us, rfl, hf⟩ := hr
    exact ⟨us, rfl, hf.imp fun _ _ _ h' => rel2_step h h'⟩
  | fn g fs cs =>
    obtain ⟨us, vs, rfl, hf, hc⟩ := hr
    exact ⟨us, vs, rfl, hf.imp fun _ _ _ h' => rel2_step h h', hc.imp fun _ _ _ h' => rel1_step h h'⟩
  | _ => simp only [rel] at hr ⊢; exact rel2_step h hr

theorem ownsRow_move {w w' : World} {base e size n : Nat} {v : Value} {xs : List Value} (h : w.ownsRow base e size v n xs)
    (hm : ∀ k, mblk v = some k → w'.heap[k]? = w.heap[k]?) : w'.ownsRow base e size v n xs := by
  obtain ⟨h1, h2⟩ := h
  refine ⟨h1, ?_⟩
  rcases h2 with h2 | ⟨g, cap, cur, rfl, hg, hh, r⟩
  · exact .inl h2
  · exact .inr ⟨g, cap, cur, rfl, hg, (hm g rfl).trans hh, r⟩
theorem heap_lt {w : World} {k : Nat} {o : Obj} (h : w.heap[k]? = some o) : k < w.heap.size := (Array.getElem?_eq_some_iff.1 h).1
theorem RowRel.lt {w : World} {ok : Nat → Prop} {base : Nat} {H : List Row} {m : Nat → Value} {u : Value} {r : Row} (h : RowRel w ok base H m u r) (hl : r.live = true) :
    ∀ k, mblk u = some k → base ≤ k ∧ k < w.heap.size := by
  intro k hk
  cases r with
  | row e t xs =>
    obtain ⟨us, _, h⟩ := h
    rcases h.2 with ⟨rfl, _⟩ | ⟨g, cap, cur, rfl, hg, hh, _⟩
    · simp [mblk] at hk
    · simp only [mblk, Option.some.injEq] at hk
      subst hk
      exact ⟨hg, heap_lt hh⟩
  | box cs =>
    obtain ⟨b, T, cur, rfl, hb, hh, _⟩ := h
    simp only [mblk, Option.some.injEq] at hk
    subst hk
    exact ⟨hb, heap_lt hh⟩
  | _ => simp [Row.live] at hl
theorem RowRel.step {w w' : World} {ok ok' : Nat → Prop} {base : Nat} {H H' : List Row} {m m' : Nat → Value} {u : Value} {r : Row} (hs : HStep w w' ok ok' H H' m m')
    (h : RowRel w ok base H m u r) (hb : r.live = true → ∀ k, mblk u = some k → w'.heap[k]? = w.heap[k]?) : RowRel w' ok' base H' m' u r := by
  cases r with
  | hole => trivial
  | dead => trivial
  | frz => trivial
  | row e t xs =>
    obtain ⟨us, hf, ho⟩ := h
    exact ⟨us, hf.imp fun _ _ _ h => hs.mv.rd h, ownsRow_move ho (hb rfl)⟩
  | box cs =>
    obtain ⟨b, T, cur, rfl, hbs, hh, hc⟩ := h
    exact ⟨b, T, cur, rfl, hbs, (hb rfl b rfl).trans hh, hc.imp fun _ _ _ h => rel1_step hs h⟩
  | fbx cs =>
    obtain ⟨b, T, cur, rfl, hbs, hh, hc⟩ := h
    obtain ⟨e1, e2⟩ := hs.mv.blk b hbs (heap_lt hh)
    exact ⟨b, T, cur, rfl, e2, e1.trans hh, hc.imp fun _ _ _ h => rel1_step hs h⟩

/-- The heap behind a change of the rows in C. -/
theorem HRel.upd {w w' : World} {ok ok' : Nat → Prop} {base : Nat} {H H' : List Row} {m m' : Nat → Value} (C : Nat → Prop) (h : HRel w ok base H m)
    (hs : HStep w w' ok ok' H H' m m')
    (hw : ∀ k, k < w.heap.size → (∀ id r, C id → H[id]? = some r → r.live = true → mblk (m id) ≠ some k) → w'.heap[k]? = w.heap[k]?)
    (hC : ∀ id, ¬ C id → H'[id]? = H[id]? ∧ m' id = m id)
    (hn : ∀ id r, C id → H'[id]? = some r → RowRel w' ok' base H' m' (m' id) r ∧ (r.live = true → ∀ k, mblk (m' id) = some k → ¬ ok' k ∧
      (w.heap.size ≤ k ∨ ∃ j q, C j ∧ H[j]? = some q ∧ q.live = true ∧ mblk (m j) = some k)))
    (hd : ∀ i j ri rj k, C i → C j → H'[i]? = some ri → H'[j]? = some rj → ri.live = true → rj.live = true → mblk (m' i) = some k → mblk (m' j) = some k → i = j)
    (hlt : ∀ k, ok' k → k < w'.heap.size)
    (hok : ∀ k, ok' k → k < w.heap.size → ok k ∨ ∃ j q, C j ∧ H[j]? = some q ∧ q.live = true ∧ mblk (m j) = some k) : HRel w' ok' base H' m' := by
  have old : ∀ id r, ¬ C id → H[id]? = some r → r.live = true → ∀ k, mblk (m id) = some k → k < w.heap.size ∧ (∀ j q, C j → H[j]? = some q → q.live = true → mblk (m j) ≠ some k) := by
    intro id r hc hr hl k hk
    refine ⟨((h.hp id r hr).lt hl k hk).2, fun j q hj hq hql hjk => ?_⟩
    have := h.dst id j r q k hr hq hl hql hk hjk
    subst this
    exact hc hj
  refine ⟨hlt, ?_, ?_, ?_⟩
  · intro id r hr
    by_cases hc : C id
    · exact (hn id r hc hr).1
    · obtain ⟨e1, e2⟩ := hC id hc
      rw [e1] at hr
      rw [e2]
      refine (h.hp id r hr).step hs fun hl k hk => ?_
      obtain ⟨hlt', hne⟩ := old id r hc hr hl k hk
      exact hw k hlt' fun j q hj hq hql => hne j q hj hq hql
  · intro id r k hr hl hk hok'
    by_cases hc : C id
    · exact ((hn id r hc hr).2 hl k hk).1 hok'
    · obtain ⟨e1, e2⟩ := hC id hc
      rw [e1] at hr
      rw [e2] at hk
      obtain ⟨hlt', hne⟩ := old id r hc hr hl k hk
      rcases hok k hok' hlt' with ho | ⟨j, q, hj, hq, hql, hjk⟩
      · exact h.sep id r k hr hl hk ho
      · exact hne j q hj hq hql hjk
  · intro i j ri rj k hi hj hli hlj hki hkj
    by_cases hci : C i <;> by_cases hcj : C j
    · exact hd i j ri rj k hci hcj hi hj hli hlj hki hkj
    · exfalso
      obtain ⟨e1, e2⟩ := hC j hcj
      rw [e1] at hj
      rw [e2] at hkj
      obtain ⟨hlt', hne⟩ := old j rj hcj hj hlj k hkj
      rcases ((hn i ri hci hi).2 hli k hki).2 with hge | ⟨a, q, ha, hq, hql, hak⟩
      · omega
      · exact hne a q ha hq hql hak
    · exfalso
      obtain ⟨e1, e2⟩ := hC i hci
      rw [e1] at hi
      rw [e2] at hki
      obtain ⟨hlt', hne⟩ := old i ri hci hi hli k hki
      rcases ((hn j rj hcj hj).2 hlj k hkj).2 with hge | ⟨a, q, ha, hq, hql, hak⟩
      · omega
      · exact hne a q ha hq hql hak
    · obtain ⟨e1, e2⟩ := hC i hci
      obtain ⟨e3, e4⟩ := hC j hcj
      rw [e1] at hi
      rw [e2] at hki
      rw [e3] at hj
      rw [e4] at hkj
      exact h.dst i j ri rj k hi hj hli hlj hki hkj

theorem Trans.move {w w' : World} {ok ok' : Nat → Prop} {u : Value} {r r' : Row} (hm : Moves w w' ok ok') (h : Trans w ok u r r') : Trans w' ok' u r r' := by
  cases h with
  | same => exact .same _
  | dead => exact .dead _
  | frz e t xs ys h => exact .frz e t xs ys (hm.rd h)
  | row e t xs ys h => exact .row e t xs ys h
  | fbx => exact .fbx _ _
  | box => exact .box _ _
theorem Trans.trans {w w' : World} {ok ok' : Nat → Prop} {u : Value} {r r1 r2 : Row} (hm : Moves w w' ok ok') (h : Trans w ok u r r1) (h' : Trans w' ok' u r1 r2) : Trans w' ok' u r r2 := by
  cases h with
  | same => exact h'
  | dead => cases h' <;> exact .dead _
  | frz e t xs ys h =>
    cases h' with
    | same => exact .frz e t xs ys (hm.rd h)
    | dead => exact .dead _
  | row e t xs ys h =>
    cases h' with
    | same => exact .row e t xs ys h
    | dead => exact .dead _
    | frz _ _ _ zs h2 => exact .frz e t xs zs h2
    | row _ _ _ zs h2 => exact .row e t xs zs (h2.trans h)
  | fbx cs cs' =>
    cases h' with
    | same => exact .fbx _ _
    | dead => exact .dead _
  | box cs cs' =>
    cases h' with
    | same => exact .box _ _
    | dead => exact .dead _
    | fbx => exact .fbx _ _
    | box => exact .box _ _
theorem Trans.not_hole {w : World} {ok : Nat → Prop} {u : Value} {r r' : Row} (h : Trans w ok u r r') (hr : r ≠ .hole) : r' ≠ .hole := by
  cases h <;> first | exact hr | simp
theorem HStep.trans {w w1 w2 : World} {ok ok1 ok2 : Nat → Prop} {H H1 H2 : List Row} {m m1 m2 : Nat → Value} (h : HStep w w1 ok ok1 H H1 m m1) (h' : HStep w1 w2 ok1 ok2 H1 H2 m1 m2) :
    HStep w w2 ok ok2 H H2 m m2 := ⟨h.mv.trans h'.mv, fun id r hr hh => by
  obtain ⟨e1, r1, hr1, t1⟩ := h.tr id r hr hh
  obtain ⟨e2, r2, hr2, t2⟩ := h'.tr id r1 hr1 (t1.not_hole hh)
  refine ⟨e2.trans e1, r2, hr2, ?_⟩
  rw [e1] at t2
  exact t1.trans h'.mv t2⟩
theorem HStep.refl (w : World) (ok : Nat → Prop) (H : List Row) (m : Nat → Value) : HStep w w ok ok H H m m :=
  ⟨Moves.refl w ok, fun id r hr _ => ⟨rfl, r, hr, .same r⟩⟩
/-- The world alone moves on. -/
theorem HStep.world {w w' : World} {ok ok' : Nat → Prop} (h : Moves w w' ok ok') (H : List Row) (m : Nat → Value) : HStep w w' ok ok' H H m m :=
  ⟨h, fun id r hr _ => ⟨rfl, r, hr, .same r⟩⟩

def updM (m : Nat → Value) (i : Nat) (u : Value) : Nat → Value := fun j => if j = i then u else m j
theorem updM_same (m : Nat → Value) (i : Nat) (u : Value) : updM m i u i = u := by simp [updM]
theorem updM_ne (m : Nat → Value) {i j : Nat} (u : Value) (h : j ≠ i) : updM m i u j = m j := by simp [updM, h]

theorem HStep.add {w w' : World} {ok ok' : Nat → Prop} {H : List Row} {m : Nat → Value} {nid : Nat} (hh : H[nid]? = some .hole) (r : Row) (u : Value) (hm : Moves w w' ok ok') :
    HStep w w' ok ok' H (H.set nid r) m (updM m nid u) := ⟨hm, fun id q hq hne => by
  have : id ≠ nid := by rintro rfl; rw [hh] at hq; simp at hq; exact hne hq.symm
  exact ⟨updM_ne m u this, q, by rw [List.getElem?_set_ne (Ne.symm this)]; exact hq, .same q⟩⟩

/-- A new row in a new block (or none). -/
theorem HRel.add {w w' : World} {ok : Nat → Prop} {base : Nat} {H : List Row} {m : Nat → Value} {nid : Nat} (h : HRel w ok base H m) (hh : H[nid]? = some .hole) (r : Row) (u : Value)
    (hb : Below w.heap.size w w') (hr : RowRel w' ok base (H.set nid r) (updM m nid u) u r) (hu : ∀ k, mblk u = some k → w.heap.size ≤ k) :
    HRel w' ok base (H.set nid r) (updM m nid u) := by
  have hnl : nid < H.length := by
    rcases Nat.lt_or_ge nid H.length with hl | hl
    · exact hl
    · rw [List.getElem?_eq_none hl] at hh; simp at hh
  have hset : (H.set nid r)[nid]? = some r := by simp [hnl]
  refine h.upd (fun i => i = nid) (HStep.add hh r u (Moves.of_below hb)) (fun k hk _ => hb.block k hk) (fun id hid => ⟨List.getElem?_set_ne (Ne.symm hid), updM_ne m u hid⟩) ?_ ?_ ?_ ?_
  · rintro id q rfl hq
    rw [hset] at hq
    simp only [Option.some.injEq] at hq
    subst hq
    rw [updM_same]
    exact ⟨hr, fun _ k hk => ⟨fun ho => by have := h.lt k ho; have := hu k hk; omega, .inl (hu k hk)⟩⟩
  · rintro i j ri rj k rfl rfl _ _ _ _ _ _
    rfl
  · exact fun k hk => Nat.lt_of_lt_of_le (h.lt k hk) hb.size
  · exact fun k hk _ => .inl hk

/-- The world grows; the rows stay. -/
theorem HRel.grow {w w' : World} {ok ok' : Nat → Prop} {base : Nat} {H : List Row} {m : Nat → Value} (h : HRel w ok base H m) (hb : Below w.heap.size w w')
    (h1 : ∀ k, ok k → ok' k) (h2 : ∀ k, ok' k → k < w'.heap.size ∧ (ok k ∨ w.heap.size ≤ k)) : HRel w' ok' base H m :=
  h.upd (fun _ => False) (HStep.world ⟨hb.size, fun k hk hl => ⟨hb.block k hl, h1 k hk⟩⟩ H m) (fun k hk _ => hb.block k hk) (fun _ _ => ⟨rfl, rfl⟩) (fun _ _ hf => hf.elim) (fun _ _ _ _ _ hf => hf.elim)
    (fun k hk => (h2 k hk).1) (fun k hk hl => by rcases (h2 k hk).2 with h | h; exact .inl h; omega)
theorem moves_grow {w w' : World} {ok ok' : Nat → Prop} (hb : Below w.heap.size w w') (h1 : ∀ k, ok k → ok' k) : Moves w w' ok ok' := ⟨hb.size, fun k hk hl => ⟨hb.block k hl, h1 k hk⟩⟩

/-! ### cells of what is read -/
theorem rel0_rel1 {w : World} {ok : Nat → Prop} {H : List Row} {m : Nat → Value} {a : AV} {u : Value} (h : rel0 w ok a u) : rel1 w ok H m a u := by
  cases a <;> simp only [rel0] at h <;> first | exact h | trivial
theorem explode_rel {w : World} {ok : Nat → Prop} : ∀ {t : Ty} {x : t.D} {cs : List Value}, Rd w ok t x cs → F2 (rel0 w ok) (explode t x) cs
  | .int k, n, cs, h => by have h' := h; simp only [Rd] at h'; subst h'; exact .cons h .nil
  | .bool, b, cs, h => by have h' := h; simp only [Rd] at h'; subst h'; exact .cons h .nil
  | .str, s, cs, h => by have h' := h; simp only [Rd] at h'; subst h'; exact .cons h .nil
  | .sl t, l, cs, h => by have h' := h; simp only [Rd] at h'; obtain ⟨a, c, rfl, _⟩ := h'; exact .cons h .nil
  | .pair a b, p, cs, h => by
    simp only [Rd] at h
    obtain ⟨c1, c2, rfl, h1, h2⟩ := h
    exact (explode_rel h1).append (explode_rel h2)
theorem flat_drop {sz : Nat} : ∀ {us : List (List Value)} (_ : ∀ p ∈ us, p.length = sz) {i : Nat} {p : List Value}, us[i]? = some p → ∃ r, us.flatten.drop (i * sz) = p ++ r
  | [], _, i, p, h => by simp at h
  | q :: us, hs, 0, p, h => by simp at h; subst h; exact ⟨us.flatten, by simp⟩
  | q :: us, hs, i + 1, p, h => by
    have hq := hs q (by simp)
    simp at h
    obtain ⟨r, hr⟩ := flat_drop (fun p hp => hs p (by simp [hp])) h
    refine ⟨r, ?_⟩
    rw [List.flatten_cons, Nat.add_mul, Nat.one_mul, Nat.add_comm, ← List.drop_drop, ← hq, List.drop_left, hq, hr]
theorem F2.lens {w : World} {ok : Nat → Prop} {t : Ty} {xs : List t.D} {us : List (List Value)} (h : F2 (Rd w ok t) xs us) : ∀ p ∈ us, p.length = t.sz := by
  induction h with
  | nil => simp
  | cons h _ ih =>
    intro p hp
    rcases List.mem_cons.1 hp with rfl | hp
    · exact Rd_len h
    · exact ih p hp
theorem F2.flat_one {w : World} {ok : Nat → Prop} {t : Ty} {xs : List t.D} {us : List (List Value)} (h : F2 (Rd w ok t) xs us) : ∀ u ∈ us.flatten, u.oneCell' = true := by
  induction h with
  | nil => simp
  | cons h _ ih =>
    intro p hp
    rw [List.flatten_cons] at hp
    rcases List.mem_append.1 hp with hp | hp
    · exact Rd_one h p hp
    · exact ih p hp
theorem F2.flat_len {w : World} {ok : Nat → Prop} {t : Ty} {xs : List t.D} {us : List (List Value)} (h : F2 (Rd w ok t) xs us) : us.flatten.length = xs.length * t.sz := by
  induction h with
  | nil => simp
  | cons h _ ih => rw [List.flatten_cons, List.length_append, ih, Rd_len h, List.length_cons, Nat.add_mul]; omega
theorem add_add (ad : Addr) (i j : Nat) (h : ad.spot = none) : (ad.add i).add j = ad.add (i + j) := by
  cases ad with
  | mk b o s =>
    simp only at h
    subst h
    simp only [Addr.add]
    repeat' split
    all_goals simp_all
    all_goals omega
theorem Cells.drop {w : World} {ad : Addr} {cs : List Value} (h : Cells w ad cs) (hs : ad.spot = none) (i : Nat) : Cells w (ad.add i) (cs.drop i) := fun j u hu => by
  rw [add_add ad i j hs]
  exact h _ u (by simpa [List.getElem?_drop] using hu)
theorem Cells.left {w : World} {ad : Addr} {c1 c2 : List Value} (h : Cells w ad (c1 ++ c2)) : Cells w ad c1 := fun j u hu => h j u (by
  have hj : j < c1.length := (List.getElem?_eq_some_iff.1 hu).1
  rw [List.getElem?_append_left hj]; exact hu)
theorem Cells.take {w : World} {ad : Addr} {cs : List Value} (h : Cells w ad cs) (n : Nat) : Cells w ad (cs.take n) := fun j u hu => h j u (by
  rw [List.getElem?_take] at hu
  split at hu
  · exact hu
  · simp at hu)
theorem Cells.spot {w : World} {ad : Addr} {cs : List Value} (h : Cells w ad cs) (hc : cs ≠ []) : ad.spot = none := by
  cases cs with
  | nil => exact absurd rfl hc
  | cons c cs =>
    have := h 0 c rfl
    have e : ad.add 0 = ad := by simp [Addr.add]
    rw [e] at this
    unfold World.cell? at this
    split at this
    · split at this
      · simp at this
      · rename_i hn; cases hs : ad.spot with
        | none => rfl
        | some => simp [hs] at hn
    · simp at this
end Go.Proofs.Ytoplphfgbfcagaa.Ev
