/-
A call, done: the rows that are taken over, the result.
Conditions: as in the parts before.
-/
import Derived.Test.YtoplphfgbfcagaaEvM
set_option linter.unusedVariables false
set_option linter.unusedSimpArgs false
namespace Go.Proofs.Ytoplphfgbfcagaa.Ev
open Go Go.RowKit

theorem numbered_mem {i : Nat} {r : Row} : ∀ {rows : List Row} {nid : Nat}, (i, r) ∈ numbered nid rows ↔ nid ≤ i ∧ rows[i - nid]? = some r
  | [], nid => by simp [numbered]
  | q :: rows, nid => by
    simp only [numbered, List.mem_cons, Prod.mk.injEq, numbered_mem (rows := rows)]
    constructor
    · rintro (⟨rfl, rfl⟩ | ⟨h1, h2⟩)
      · simp
      · refine ⟨by omega, ?_⟩
        rw [show i - nid = (i - (nid + 1)) + 1 by omega]
        simpa using h2
    · rintro ⟨h1, h2⟩
      by_cases h : i = nid
      · subst h
        simp only [Nat.sub_self, List.getElem?_cons_zero, Option.some.injEq] at h2
        exact .inl ⟨rfl, h2.symm⟩
      · refine .inr ⟨by omega, ?_⟩
        rw [show i - nid = (i - (nid + 1)) + 1 by omega] at h2
        simpa using h2
theorem numbered_fsts {i : Nat} {rows : List Row} {nid : Nat} : i ∈ fsts (numbered nid rows) ↔ nid ≤ i ∧ i < nid + rows.length := by
  rw [fsts_mem]
  constructor
  · rintro ⟨r, h⟩
    obtain ⟨h1, h2⟩ := numbered_mem.1 h
    have := (List.getElem?_eq_some_iff.1 h2).1
    exact ⟨h1, by omega⟩
  · rintro ⟨h1, h2⟩
    exact ⟨rows[i - nid], numbered_mem.2 ⟨h1, List.getElem?_eq_getElem (by omega)⟩⟩
theorem numbered_get {H : List Row} {rows : List Row} {nid j : Nat} (hl : nid + rows.length ≤ H.length) (hj : j < rows.length) : (setH H (numbered nid rows))[nid + j]? = rows[j]? := by
  rw [List.getElem?_eq_getElem hj]
  refine setH_mem _ _ (by omega) (numbered_mem.2 ⟨by omega, ?_⟩) fun q hq => ?_
  · rw [Nat.add_sub_cancel_left]; exact List.getElem?_eq_getElem hj
  · have := (numbered_mem.1 hq).2
    rw [Nat.add_sub_cancel_left, List.getElem?_eq_getElem hj] at this
    simpa using this.symm

def isRowB : Row → Bool
  | .row _ _ _ => true
  | _ => false

section
variable {P : Program} {E : Env} {o : Oper} {a : Act} {w w' : World} {ok ok1 okR : Nat → Prop} {base : Nat} {H H1 : List Row} {m mR : Nat → Value}

theorem adopt {nid : Nat} {rows : List Row} (hH : HRel w ok1 base H1 m) (hb : base ≤ w.heap.size) (hB : Below w.heap.size w w') (hR : HRel w' okR w.heap.size rows mR) (hok : ∀ k, okR k → ok1 k ∨ w.heap.size ≤ k)
    (hrow : ∀ r ∈ rows, isRowB r = true) (hhole : ∀ j, j < rows.length → H1[nid + j]? = some .hole) :
    ∃ ok2 m2, HRel w' ok2 base (setH H1 (numbered nid rows)) m2 ∧ HStep w w' ok1 ok2 H1 (setH H1 (numbered nid rows)) m m2 ∧ (∀ k, okR k → ok2 k) ∧ (∀ k, ok2 k → ok1 k ∨ base ≤ k) ∧
      ∀ j r, rows[j]? = some r → (setH H1 (numbered nid rows))[nid + j]? = some r ∧ m2 (nid + j) = mR j := by
  have hlen : ∀ j, j < rows.length → nid + rows.length ≤ H1.length := fun j hj => by
    have := get_lt (hhole (rows.length - 1) (by omega))
    omega
  have hget : ∀ j r, rows[j]? = some r → (setH H1 (numbered nid rows))[nid + j]? = some r := fun j r h => by
    have hj := (List.getElem?_eq_some_iff.1 h).1
    rw [numbered_get (hlen j hj) hj, h]
  have hout : ∀ i, ¬ (nid ≤ i ∧ i < nid + rows.length) → (setH H1 (numbered nid rows))[i]? = H1[i]? := fun i hi => setH_other _ _ fun hm => hi (numbered_fsts.1 hm)
  have hm2 : ∀ j, j < rows.length → (fun i => if nid ≤ i ∧ i < nid + rows.length then mR (i - nid) else m i) (nid + j) = mR j := fun j hj => by
    show (if nid ≤ nid + j ∧ nid + j < nid + rows.length then mR (nid + j - nid) else m (nid + j)) = mR j
    rw [if_pos (by omega), Nat.add_sub_cancel_left]
  have hmo : ∀ i, ¬ (nid ≤ i ∧ i < nid + rows.length) → (fun i => if nid ≤ i ∧ i < nid + rows.length then mR (i - nid) else m i) i = m i := fun i hi => if_neg hi
  generalize (fun i => if nid ≤ i ∧ i < nid + rows.length then mR (i - nid) else m i) = m2 at hm2 hmo
  have hst : HStep w w' ok1 (fun k => ok1 k ∨ okR k) H1 (setH H1 (numbered nid rows)) m m2 := ⟨⟨hB.size, fun k hk hl => ⟨hB.block k hl, .inl hk⟩⟩, fun id r hr hh => by
    have hi : ¬ (nid ≤ id ∧ id < nid + rows.length) := fun ⟨h1, h2⟩ => by
      have := hhole (id - nid) (by omega)
      rw [show nid + (id - nid) = id by omega, hr] at this
      simp only [Option.some.injEq] at this
      exact hh this
    exact ⟨hmo id hi, r, by rw [hout id hi]; exact hr, .same r⟩⟩
  refine ⟨_, m2, ?_, hst, fun k hk => .inr hk, fun k hk => hk.elim .inl fun hk => (hok k hk).imp (fun h => h) fun h => Nat.le_trans hb h, fun j r hj => ⟨hget j r hj, hm2 j (List.getElem?_eq_some_iff.1 hj).1⟩⟩
  have inC : ∀ i r, (nid ≤ i ∧ i < nid + rows.length) → (setH H1 (numbered nid rows))[i]? = some r → ∃ j, i = nid + j ∧ j < rows.length ∧ rows[j]? = some r ∧ m2 i = mR j := by
    rintro i r ⟨h1, h2⟩ hr
    obtain ⟨j, rfl⟩ := Nat.exists_eq_add_of_le h1
    have hj : j < rows.length := by omega
    refine ⟨j, rfl, hj, ?_, hm2 j hj⟩
    rw [numbered_get (hlen j hj) hj] at hr
    exact hr
  refine hH.upd (fun i => nid ≤ i ∧ i < nid + rows.length) hst (fun k hk _ => hB.block k hk) (fun i hi => ⟨hout i hi, hmo i hi⟩) ?_ ?_ ?_ ?_
  · intro i r hc hr
    obtain ⟨j, rfl, hj, hrj, hmj⟩ := inC i r hc hr
    have hrr := hrow r (List.mem_of_getElem? hrj)
    have hrel := hR.hp j r hrj
    rw [hmj]
    cases r with
    | row e t xs =>
      obtain ⟨us, hf, ho⟩ := hrel
      refine ⟨⟨us, hf.imp fun _ _ _ h => Rd_grow (fun k hk => .inr hk) h, ho.1, ?_⟩, fun _ k hk => ⟨?_, ?_⟩⟩
      · rcases ho.2 with h | ⟨g, cap, cur, h1, h2, h3⟩
        · exact .inl h
        · exact .inr ⟨g, cap, cur, h1, by omega, h3⟩
      · rintro (h | h)
        · have := (RowRel.lt (hR.hp j _ hrj) rfl k hk).1
          have := hH.lt k h
          omega
        · exact hR.sep j _ k hrj rfl hk h
      · exact .inl (RowRel.lt (hR.hp j _ hrj) rfl k hk).1
    | _ => simp [isRowB] at hrr
  · intro i j ri rj k hi hj hri hrj hli hlj h1 h2
    obtain ⟨p, rfl, hp, hrp, hmp⟩ := inC i ri hi hri
    obtain ⟨q, rfl, hq, hrq, hmq⟩ := inC j rj hj hrj
    rw [hmp] at h1
    rw [hmq] at h2
    rw [hR.dst p q ri rj k hrp hrq hli hlj h1 h2]
  · rintro k (h | h)
    · exact Nat.lt_of_lt_of_le (hH.lt k h) hB.size
    · exact hR.lt k h
  · rintro k (h | h) hk
    · exact .inl h
    · rcases hok k h with h | h
      · exact .inl h
      · omega

/-! ### the result, as the caller sees it -/
section
variable {ok2 : Nat → Prop} {H2 : List Row} {m2 : Nat → Value} {rows : List Row} {nid : Nat}
theorem res0 (h1 : ∀ k, okR k → ok2 k) {x : AV} {u : Value} (h : rel1 w' okR [] mz x u) : rel1 w' ok2 H2 m2 x u := by
  have e : ∀ id : Nat, ([] : List Row)[id]? = none := fun _ => rfl
  cases x with
  | v t x => exact Rd_grow h1 h
  | nl => exact h
  | un => trivial
  | rp cs =>
    obtain ⟨ad, us, rfl, hk, hl, hc, hf⟩ := h
    exact ⟨ad, us, rfl, h1 _ hk, hl, hc, hf.imp fun _ _ _ h => rel0_grow h1 h⟩
  | own id => simp only [rel1, e] at h; exact h.2.elim
  | pb id off => simp only [rel1, e] at h; exact h.2.elim
  | pe id i off => simp only [rel1, e] at h; exact h.2.elim
  | _ => exact h.elim
theorem resL1 (hm : ∀ j r, rows[j]? = some r → H2[nid + j]? = some r ∧ m2 (nid + j) = mR j) (h1 : ∀ k, okR k → ok2 k) :
    ∀ {cs : List AV} {us : List Value} {k : Nat}, relL1 w' okR mR k cs us → (∀ j r, (rowsL1 cs)[j]? = some r → rows[k + j]? = some r) → F2 (rel1 w' ok2 H2 m2) (adL1 (nid + k) cs) us
  | [], [], k, _, _ => .nil
  | [], _ :: _, k, h, _ => h.elim
  | _ :: _, [], k, h, _ => h.elim
  | x :: cs, u :: us, k, ⟨h, ht⟩, hr => by
    have hr' : ∀ j r, (rowsL1 cs)[j]? = some r → rows[k + (rows1 x).length + j]? = some r := fun j r hj => by
      rw [Nat.add_assoc]
      refine hr _ r ?_
      show ((x :: cs).flatMap rows1)[_]? = _
      rw [List.flatMap_cons, List.getElem?_append_right (by omega), Nat.add_sub_cancel_left]
      exact hj
    have ih := resL1 hm h1 ht hr'
    cases x with
    | nw e t xs =>
      have h0 : rows[k]? = some (.row e t xs) := hr 0 _ rfl
      obtain ⟨e1, e2⟩ := hm k _ h0
      refine .cons ?_ ih
      obtain ⟨hs, hu⟩ := (h : (∃ p n c, u = .slice p n c) ∧ u = mR k)
      simp only [rel1, e1]
      exact ⟨hs, by rw [e2]; exact hu⟩
    | _ => exact .cons (res0 h1 h) ih
theorem res2 (hm : ∀ j r, rows[j]? = some r → H2[nid + j]? = some r ∧ m2 (nid + j) = mR j) (h1 : ∀ k, okR k → ok2 k) {x : AV} {u : Value} {k : Nat} (h : relN2 w' okR mR k x u)
    (hr : ∀ j r, (rows2 x)[j]? = some r → rows[k + j]? = some r) : rel2 w' ok2 H2 m2 (ad2 (nid + k) x) u := by
  cases x with
  | agg cs =>
    obtain ⟨us, rfl, hl⟩ := h
    exact ⟨us, rfl, resL1 hm h1 hl hr⟩
  | nw e t xs =>
    have h0 : rows[k]? = some (.row e t xs) := hr 0 _ rfl
    obtain ⟨e1, e2⟩ := hm k _ h0
    obtain ⟨hs, hu⟩ := (h : (∃ p n c, u = .slice p n c) ∧ u = mR k)
    show rel1 w' ok2 H2 m2 (.own (nid + k)) u
    simp only [rel1, e1]
    exact ⟨hs, by rw [e2]; exact hu⟩
  | tup cs => exact (h : False).elim
  | fn g fs cs => exact (h : False).elim
  | _ => exact rel1_rel2 (res0 h1 h)
theorem resL2 (hm : ∀ j r, rows[j]? = some r → H2[nid + j]? = some r ∧ m2 (nid + j) = mR j) (h1 : ∀ k, okR k → ok2 k) :
    ∀ {cs : List AV} {us : List Value} {k : Nat}, relL2 w' okR mR k cs us → (∀ j r, (cs.flatMap rows2)[j]? = some r → rows[k + j]? = some r) → F2 (rel2 w' ok2 H2 m2) (adL2 (nid + k) cs) us
  | [], [], k, _, _ => .nil
  | [], _ :: _, k, h, _ => h.elim
  | _ :: _, [], k, h, _ => h.elim
  | x :: cs, u :: us, k, ⟨h, ht⟩, hr => by
    have hr' : ∀ j r, (cs.flatMap rows2)[j]? = some r → rows[k + (rows2 x).length + j]? = some r := fun j r hj => by
      rw [Nat.add_assoc]
      refine hr _ r ?_
      rw [List.flatMap_cons, List.getElem?_append_right (by omega), Nat.add_sub_cancel_left]
      exact hj
    refine .cons (res2 hm h1 h fun j r hj => hr j r ?_) ?_
    · rw [List.flatMap_cons, List.getElem?_append_left (List.getElem?_eq_some_iff.1 hj).1]
      exact hj
    · have := resL2 hm h1 ht hr'
      rw [← Nat.add_assoc] at this
      exact this
theorem resA (hm : ∀ j r, rows[j]? = some r → H2[nid + j]? = some r ∧ m2 (nid + j) = mR j) (h1 : ∀ k, okR k → ok2 k) {x : AV} {u : Value} (h : relNA w' okR mR x u) (hr : rows = rowsA x) : rel w' ok2 H2 m2 (adA nid x) u := by
  subst hr
  have two : relN2 w' okR mR 0 x u → (rowsA x = rows2 x) → rel2 w' ok2 H2 m2 (ad2 nid x) u := fun h e => res2 (k := 0) hm h1 h fun j r hj => by rw [Nat.zero_add, e]; exact hj
  cases x with
  | tup cs =>
    obtain ⟨us, rfl, hl⟩ := h
    exact ⟨us, rfl, resL2 (k := 0) hm h1 hl fun j r hj => by rw [Nat.zero_add]; exact hj⟩
  | agg cs => exact two h rfl
  | fn g fs cs => exact (h : False).elim
  | nw e t xs => exact rel2_rel (two h rfl)
  | _ => exact rel2_rel (two h rfl)
end

theorem rows1_row {x : AV} : ∀ r ∈ rows1 x, isRowB r = true := by cases x <;> simp [rows1, isRowB]
theorem rows2_row {x : AV} : ∀ r ∈ rows2 x, isRowB r = true := by
  have key := rows1_row (x := x)
  cases x with
  | agg cs =>
    intro r hr
    obtain ⟨c, _, hc⟩ := List.mem_flatMap.1 (hr : r ∈ cs.flatMap rows1)
    exact rows1_row r hc
  | _ => exact key
theorem rowsA_row {x : AV} : ∀ r ∈ rowsA x, isRowB r = true := by
  have key := rows2_row (x := x)
  cases x with
  | tup cs =>
    intro r hr
    obtain ⟨c, _, hc⟩ := List.mem_flatMap.1 (hr : r ∈ cs.flatMap rows2)
    exact rows2_row r hc
  | _ => exact key

/-! ### a flat result hangs on nothing -/
theorem flat1_rows {x : AV} (h : flat1 x = true) : rows1 x = [] := by cases x <;> first | rfl | simp [flat1] at h
theorem flat1_rel {okA okB : Nat → Prop} {HA HB : List Row} {mA mB : Nat → Value} {x : AV} {u : Value} (h : flat1 x = true) (hr : rel1 w okA HA mA x u) : rel1 w okB HB mB x u := by
  cases x with
  | v t x =>
    cases t with
    | int k => exact hr
    | bool => exact hr
    | str => exact hr
    | sl t => simp [flat1] at h
    | pair a b => simp [flat1] at h
  | nl => exact hr
  | un => trivial
  | _ => simp [flat1] at h
theorem flat2_rel {okA okB : Nat → Prop} {HA HB : List Row} {mA mB : Nat → Value} {x : AV} {u : Value} (h : flat2 x = true) (hr : rel2 w okA HA mA x u) : rel2 w okB HB mB x u := by
  have one : flat1 x = true → rel1 w okA HA mA x u → rel2 w okB HB mB x u := fun h hr => rel1_rel2 (flat1_rel h hr)
  cases x with
  | agg cs =>
    obtain ⟨us, rfl, hf⟩ := hr
    simp only [flat2, List.all_eq_true] at h
    exact ⟨us, rfl, hf.imp fun x _ hx hr => flat1_rel (h x hx) hr⟩
  | _ => exact one h hr
theorem flat_rel {okA okB : Nat → Prop} {HA HB : List Row} {mA mB : Nat → Value} {x : AV} {u : Value} (h : flat x = true) (hr : rel w okA HA mA x u) : rel w okB HB mB x u := by
  have two : flat2 x = true → rel2 w okA HA mA x u → rel2 w okB HB mB x u := flat2_rel
  cases x with
  | tup cs =>
    obtain ⟨us, rfl, hf⟩ := hr
    simp only [flat, List.all_eq_true] at h
    exact ⟨us, rfl, hf.imp fun x _ hx hr => flat2_rel (h x hx) hr⟩
  | fn g fs cs => simp [flat, flat2, flat1] at h
  | agg cs => exact two h hr
  | _ => exact rel2_rel (two h hr)
theorem flat2_rows {x : AV} (h : flat2 x = true) : rows2 x = [] := by
  have key : flat1 x = true → rows1 x = [] := flat1_rows
  cases x with
  | agg cs =>
    simp only [flat2, List.all_eq_true] at h
    show cs.flatMap rows1 = []
    rw [List.flatMap_eq_nil_iff]
    exact fun c hc => flat1_rows (h c hc)
  | _ => exact key h
theorem flat_rows {x : AV} (h : flat x = true) : rowsA x = [] := by
  have key : flat2 x = true → rows2 x = [] := flat2_rows
  cases x with
  | tup cs =>
    simp only [flat, List.all_eq_true] at h
    show cs.flatMap rows2 = []
    rw [List.flatMap_eq_nil_iff]
    exact fun c hc => flat2_rows (h c hc)
  | _ => exact key h

/-! ### an operation, done -/
/-- What an operation does, whoever asks. -/
def Does (P : Program) (o : Oper) (a : Act) (w : World) (ok : Nat → Prop) (base : Nat) (H : List Row) (m : Nat → Value) (av : AV) (ups : List (Nat × Row)) : Prop :=
  ∀ (K : Act → World → Prop) (Q : Exit → Act → World → Prop),
    (∀ u w' ok' m', Below base w w' → HRel w' ok' base (setH H ups) m' → HStep w w' ok ok' H (setH H ups) m m' → rel w' ok' (setH H ups) m' av u → (∀ k, ok' k → ok k ∨ base ≤ k) → K (a.put o.dst u) w') → o.wp P a w K Q
theorem Done.does {av : AV} {ups : List (Nat × Row)} (h : Done P o a w ok base H m av ups) : Does P o a w ok base H m av ups := by
  intro K Q hK
  obtain ⟨u, w', ok', m', hg, h2, h3, h4, h5, h6⟩ := h
  have hk := hK u w' ok' m' h2 h3 h4 h5 h6
  unfold Oper.wp
  rcases hg with hg | ⟨hg, rfl⟩
  · rw [hg]; exact hk
  · rw [hg]; exact hk

theorem F2.append_inv {α β : Type} {r : α → β → Prop} {x : α} {xs : List α} {ys : List β} (h : F2 r (x :: xs) ys) : ∃ y ys', ys = y :: ys' ∧ r x y ∧ F2 r xs ys' := by
  cases h with
  | cons h t => exact ⟨_, _, rfl, h, t⟩

theorem call_does {c : Call} {g nid : Nat} {fs cs args : List AV} {av : AV} {f : Operand} (hH : HRel w ok base H m) (hb : base ≤ w.heap.size) (ho : o.op = .call c) (hc : c.callee = .value f)
    (ha : F2 (rel w ok H m) (.fn g fs cs :: args) (o.op.operands.toList.map a.eval))
    (hS : CallSpec P g ((fs ++ args ++ cs).map (shown (rdOf H ((AV.fn g fs cs :: args).flatMap idsA)))) av) (hhole : ∀ j, j < (rowsA av).length → H[nid + j]? = some .hole) :
    Does P o a w ok base H m (adA nid av) ((bif flat av then [] else ((AV.fn g fs cs :: args).flatMap idsA).flatMap (stay (rdOf H ((AV.fn g fs cs :: args).flatMap idsA)))) ++ numbered nid (rowsA av)) := by
  intro K Q hK
  generalize hids : (AV.fn g fs cs :: args).flatMap idsA = ids at hS hK
  have hid : ∀ x ∈ AV.fn g fs cs :: args, ∀ i ∈ idsA x, i ∈ ids := fun x hx i hi => by subst hids; exact List.mem_flatMap.2 ⟨x, hx, hi⟩
  rw [ho] at ha
  have hop : (Op.call c).operands.toList.map a.eval = a.eval f :: c.args.toList.map a.eval := by simp [Op.operands, Call.operands, hc]
  rw [hop] at ha
  obtain ⟨y, ys, e, hf, hargs⟩ := ha.append_inv
  simp only [List.cons.injEq] at e
  obtain ⟨rfl, rfl⟩ := e
  obtain ⟨us, vs, hfe, hfs, hcs⟩ := hf
  -- what is shown
  have hsh : F2 (rel w (okF ok (fun j => j ∈ ids) H m) [] mz) ((fs ++ args ++ cs).map (shown (rdOf H ids))) (us ++ c.args.toList.map a.eval ++ vs) := by
    rw [List.map_append, List.map_append]
    refine ((hfs.mapL fun x u hx h => ?_).append (hargs.mapL fun x u hx h => ?_)).append (hcs.mapL fun x u hx h => ?_)
    · exact shown_rel hH (fun i hi => hid _ List.mem_cons_self i (List.mem_append_left _ (List.mem_flatMap.2 ⟨x, hx, by rw [ids_of2 h] at hi; exact hi⟩))) (rel2_rel h)
    · exact shown_rel hH (fun i hi => hid x (List.mem_cons_of_mem _ hx) i hi) h
    · exact shown_rel hH (fun i hi => hid _ List.mem_cons_self i (List.mem_append_right _ (List.mem_flatMap.2 ⟨x, hx, by rw [ids_of1 h] at hi; exact hi⟩))) (rel2_rel (rel1_rel2 h))
  obtain ⟨hH1, hst1⟩ := freeze_ok (fun j => j ∈ ids) hH (stay_at ids)
  have hcall := hS w _ _ (fun k hk => hH1.lt k hk) hsh
  have hrun : ∀ n w', (callFunc g (us ++ c.args.toList.map a.eval ++ vs).toArray).run P w = .ok n w' → (execOp a.eval o).run P w = .ok n w' := by
    intro n w' hn
    rw [execOp.eq_def]
    have e : (us ++ c.args.toList.map a.eval ++ vs).toArray = us.toArray ++ c.args.map a.eval ++ vs.toArray := by
      apply Array.ext'; simp
    rw [e] at hn
    have hfree : ∀ A : Array Value, A = us.toArray ++ c.args.map a.eval ++ vs.toArray → (callFunc g A).run P w = .ok n w' := fun A hA => by rw [hA]; exact hn
    simp [ho, resolve, hc, Deferred.ofValue, hfe, invoke]
    refine hfree _ ?_
    simp
  suffices fin : ∀ u w', Below w.heap.size w w' → ResRel w.heap.size (okF ok (fun j => j ∈ ids) H m) w' av u → K (a.put o.dst u) w' by
    unfold Oper.wp
    rcases hcall with ⟨hent, hcall⟩ | ⟨u, hent, hres⟩
    · rw [hrun _ _ hent, Oper.upon_enter]
      refine hcall.mono fun e w' he => ?_
      obtain ⟨u, rfl, hB, hres⟩ := he
      exact fin u w' hB hres
    · rw [hrun _ _ hent, Oper.upon_value]
      exact fin u w (Below.refl _ _) hres
  intro u w' hB hres
  obtain ⟨okR, mR, hR, hres, hok⟩ := hres
  cases hfl : flat av with
  | true =>
    have hr0 := flat_rows hfl
    refine hK u w' ok m (hB.mono hb) ?_ ?_ ?_ fun k hk => .inl hk
    · rw [hfl, hr0]
      exact hH.grow hB (fun k hk => hk) fun k hk => ⟨Nat.lt_of_lt_of_le (hH.lt k hk) hB.size, .inl hk⟩
    · rw [hfl, hr0]
      exact HStep.world (moves_grow hB fun k hk => hk) H m
    · rw [hfl, hr0]
      have h1 : rel w' okR [] mz (adA nid av) u := resA (H2 := []) (m2 := mz) (rows := []) (nid := nid) (fun j r h => by simp at h) (fun k hk => hk) hres hr0.symm
      have hfa : flat (adA nid av) = true := by
        have e1 : ∀ x, flat1 x = true → ad2 nid x = x := fun x hx => by cases x <;> first | rfl | simp [flat1] at hx
        have eL1 : ∀ (cs : List AV) n, (∀ x ∈ cs, flat1 x = true) → adL1 n cs = cs := by
          intro cs
          induction cs with
          | nil => intro n _; rfl
          | cons x cs ih =>
            intro n hx
            have h1 := hx x List.mem_cons_self
            have h2 := fun n => ih n fun y hy => hx y (List.mem_cons_of_mem _ hy)
            cases x <;> first | (simp only [adL1, h2]; done) | simp [flat1] at h1
        have e2 : ∀ x n, flat2 x = true → ad2 n x = x := fun x n hx => by
          cases x with
          | agg cs => simp only [flat2, List.all_eq_true] at hx; simp only [ad2, eL1 cs n hx]
          | nw e t xs => simp [flat2, flat1] at hx
          | _ => rfl
        have eL2 : ∀ (cs : List AV) n, (∀ x ∈ cs, flat2 x = true) → adL2 n cs = cs := by
          intro cs
          induction cs with
          | nil => intro n _; rfl
          | cons x cs ih =>
            intro n hx
            simp only [adL2, e2 x n (hx x List.mem_cons_self), ih _ fun y hy => hx y (List.mem_cons_of_mem _ hy)]
        have eA : adA nid av = av := by
          cases av with
          | tup cs => simp only [flat, List.all_eq_true] at hfl; simp only [adA, eL2 cs nid hfl]
          | agg cs => exact e2 (.agg cs) _ hfl
          | nw e t xs => simp [flat, flat2, flat1] at hfl
          | _ => rfl
        rw [eA]
        exact hfl
      exact flat_rel hfa h1
  | false =>
    obtain ⟨ok2, m2, h1, h2, h3, h5, h4⟩ := adopt (nid := nid) hH1 hb hB hR hok rowsA_row (fun j hj => by
      have := hhole j hj
      rcases stay_at (H := H) ids (nid + j) with ⟨_, e⟩ | ⟨_, e⟩
      · exact e.trans this
      · rw [this] at e; exact e)
    refine hK u w' ok2 m2 (hB.mono hb) ?_ ?_ ?_ fun k hk => (h5 k hk).elim (okF_bd hH k) .inr
    · rw [hfl, setH_append]; exact h1
    · rw [hfl, setH_append]; exact hst1.trans h2
    · rw [hfl, setH_append]; exact resA h4 h3 hres rfl
end
end Go.Proofs.Ytoplphfgbfcagaa.Ev
