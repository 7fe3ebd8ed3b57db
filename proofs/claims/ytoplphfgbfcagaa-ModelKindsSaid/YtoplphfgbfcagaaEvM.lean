/-
A call: what is shown to the callee, what is taken over from it.
Conditions: as in the parts before; the callee keeps its contract 'CallSpec'.
-/
import Derived.Test.YtoplphfgbfcagaaEvL
set_option linter.unusedVariables false
set_option linter.unusedSimpArgs false
namespace Go.Proofs.Ytoplphfgbfcagaa.Ev
open Go Go.RowKit

/-! ### contracts -/
def mz : Nat → Value := fun _ => .pointer none

def relN1 (w : World) (ok : Nat → Prop) (mR : Nat → Value) (k : Nat) : AV → Value → Prop
  | .nw _ _ _, u => (∃ p n c, u = .slice p n c) ∧ u = mR k
  | x, u => rel1 w ok [] mz x u
def relL1 (w : World) (ok : Nat → Prop) (mR : Nat → Value) : Nat → List AV → List Value → Prop
  | _, [], [] => True
  | k, x :: xs, u :: us => relN1 w ok mR k x u ∧ relL1 w ok mR (k + (rows1 x).length) xs us
  | _, _, _ => False
def relN2 (w : World) (ok : Nat → Prop) (mR : Nat → Value) (k : Nat) : AV → Value → Prop
  | .agg cs, u => ∃ us : List Value, u = .agg us.toArray ∧ relL1 w ok mR k cs us
  | x, u => relN1 w ok mR k x u
def relL2 (w : World) (ok : Nat → Prop) (mR : Nat → Value) : Nat → List AV → List Value → Prop
  | _, [], [] => True
  | k, x :: xs, u :: us => relN2 w ok mR k x u ∧ relL2 w ok mR (k + (rows2 x).length) xs us
  | _, _, _ => False
def relNA (w : World) (ok : Nat → Prop) (mR : Nat → Value) : AV → Value → Prop
  | .tup cs, u => ∃ us : List Value, u = .tuple us.toArray ∧ relL2 w ok mR 0 cs us
  | x, u => relN2 w ok mR 0 x u
/-- What a call hands back: its own rows, each in a block made by the call; the rest is read alone. -/
def ResRel (size : Nat) (ok : Nat → Prop) (w' : World) (av : AV) (u : Value) : Prop :=
  ∃ okR mR, HRel w' okR size (rowsA av) mR ∧ relNA w' okR mR av u ∧ ∀ k, okR k → ok k ∨ size ≤ k
def CallSpec (P : Program) (g : Nat) (args : List AV) (av : AV) : Prop :=
  ∀ (w : World) (ok : Nat → Prop) (us : List Value), (∀ k, ok k → k < w.heap.size) → F2 (rel w ok [] mz) args us →
    ((callFunc g us.toArray).run P w = .ok (.enter g us.toArray) w ∧ Calls P g us.toArray w (fun e w' => ∃ u, e = .returned u ∧ Below w.heap.size w w' ∧ ResRel w.heap.size ok w' av u)) ∨
    ∃ u, (callFunc g us.toArray).run P w = .ok (.value u) w ∧ ResRel w.heap.size ok w av u

theorem callFunc_enter {P : Program} {g : Nat} {fn : Func} (hf : P.funcs[g]? = some fn) (h1 : (fn.name == "runtime.NumGoroutine") = false) (h2 : fn.body.isNone = false) (vs : Array Value) (w : World) :
    (callFunc g vs).run P w = .ok (.enter g vs) w := by
  have h1 : ¬ fn.name = "runtime.NumGoroutine" := by simpa using h1
  have h2 : ¬ fn.body = none := by intro h; simp [h] at h2
  simp [callFunc, hf, h1, h2]

section
variable {P : Program} {E : Env} {o : Oper} {a : Act} {w : World} {ok : Nat → Prop} {base : Nat} {H : List Row} {m : Nat → Value}

/-! ### what is shown -/
theorem rel0_grow {ok' : Nat → Prop} (h1 : ∀ k, ok k → ok' k) {x : AV} {u : Value} (h : rel0 w ok x u) : rel0 w ok' x u := rel0_move ⟨Nat.le_refl _, fun k hk _ => ⟨rfl, h1 k hk⟩⟩ h
theorem Rd_grow {ok' : Nat → Prop} (h1 : ∀ k, ok k → ok' k) {t : Ty} {x : t.D} {cs : List Value} (h : Rd w ok t x cs) : Rd w ok' t x cs := Rd_move (fun k hk _ => ⟨rfl, h1 k hk⟩) h
theorem cell0_rel {ok' : Nat → Prop} (h1 : ∀ k, ok k → ok' k) {x : AV} {u : Value} (h : rel1 w ok H m x u) : rel0 w ok' (cell0 x) u := by
  cases x <;> first | exact Rd_grow h1 h | exact h | trivial
theorem F2.mapL {α β γ : Type} {r : α → β → Prop} {s : γ → β → Prop} {f : α → γ} : ∀ {xs : List α} {ys : List β}, F2 r xs ys → (∀ x y, x ∈ xs → r x y → s (f x) y) → F2 s (xs.map f) ys
  | _, _, .nil, _ => .nil
  | _, _, .cons h t, hf => .cons (hf _ _ List.mem_cons_self h) (F2.mapL t fun x y hx => hf x y (List.mem_cons_of_mem _ hx))

theorem rp_grow {ok' : Nat → Prop} (h1 : ∀ k, ok k → ok' k) {cs : List AV} {u : Value} (h : rel1 w ok H m (.rp cs) u) : rel1 w ok' [] mz (.rp cs) u := by
  obtain ⟨ad, us, rfl, hk, hl, hc, hf⟩ := h
  exact ⟨ad, us, rfl, h1 _ hk, hl, hc, hf.imp fun _ _ _ h => rel0_grow h1 h⟩

theorem shown1_rel {ids : List Nat} {x : AV} {u : Value} (hH : HRel w ok base H m) (hi : ∀ i ∈ ids1 x, i ∈ ids) (h : rel1 w ok H m x u) :
    rel1 w (okF ok (fun j => j ∈ ids) H m) [] mz (shown1 (rdOf H ids) x) u := by
  have h1 : ∀ k, ok k → okF ok (fun j => j ∈ ids) H m k := fun k hk => .inl hk
  cases x with
  | v t x => exact Rd_grow h1 h
  | nl => exact h
  | un => trivial
  | rp cs => exact rp_grow h1 h
  | own id =>
    have hm : id ∈ ids := hi id (List.mem_singleton.2 rfl)
    simp only [shown1, rdOf_mem hm]
    simp only [rel1] at h
    cases hq : H[id]? with
    | none => trivial
    | some r =>
      rw [hq] at h
      cases r with
      | row e t xs => rw [h.2]; exact row_rd hH hq h1 fun k hk => .inr ⟨id, _, hm, hq, rfl, hk⟩
      | frz t xs => exact Rd_grow h1 h.2
      | _ => trivial
  | pb id off =>
    have hm : id ∈ ids := hi id (List.mem_singleton.2 rfl)
    have h' : rel w ok H m (.pb id off) u := h
    simp only [shown1, rdOf_mem hm]
    cases hq : H[id]? with
    | none => trivial
    | some r =>
      cases r with
      | box cs =>
        obtain ⟨b, us, rfl, hc, hf⟩ := box_cells hH (.inl hq) h'
        obtain ⟨b', T, cur, hmb, _, hh, _⟩ := hH.hp id _ hq
        simp only [rel1, hq] at h
        obtain ⟨_, b2, hm2, hu⟩ := h
        simp only [Value.pointer.injEq, Option.some.injEq, Addr.mk.injEq, and_true] at hu
        rw [hm2] at hmb
        simp only [Value.pointer.injEq, Option.some.injEq, Addr.mk.injEq, and_true] at hmb
        subst hmb
        subst hu
        exact ⟨_, us, rfl, .inr ⟨id, _, hm, hq, rfl, by rw [hm2]; rfl⟩, heap_lt hh, hc, hf.mapL fun x y _ h => cell0_rel h1 h⟩
      | fbx cs =>
        obtain ⟨b, us, rfl, hc, hf⟩ := box_cells hH (.inr hq) h'
        obtain ⟨b', T, cur, hmb, hob, hh, _⟩ := hH.hp id _ hq
        simp only [rel1, hq] at h
        obtain ⟨_, b2, hm2, hu⟩ := h
        simp only [Value.pointer.injEq, Option.some.injEq, Addr.mk.injEq, and_true] at hu
        rw [hm2] at hmb
        simp only [Value.pointer.injEq, Option.some.injEq, Addr.mk.injEq, and_true] at hmb
        subst hmb
        subst hu
        exact ⟨_, us, rfl, .inl hob, heap_lt hh, hc, hf.mapL fun x y _ h => cell0_rel h1 h⟩
      | _ => trivial
  | pe id i off => trivial
  | _ => exact h.elim
theorem shown2_rel {ids : List Nat} {x : AV} {u : Value} (hH : HRel w ok base H m) (hi : ∀ i ∈ ids2 x, i ∈ ids) (h : rel2 w ok H m x u) :
    rel2 w (okF ok (fun j => j ∈ ids) H m) [] mz (shown2 (rdOf H ids) x) u := by
  have leaf : rel1 w ok H m x u → (∀ i ∈ ids1 x, i ∈ ids) → rel2 w (okF ok (fun j => j ∈ ids) H m) [] mz (shown1 (rdOf H ids) x) u := fun h hi => rel1_rel2 (shown1_rel hH hi h)
  cases x with
  | agg cs =>
    obtain ⟨us, rfl, hf⟩ := h
    exact ⟨us, rfl, hf.mapL fun x y hx h => shown1_rel hH (fun i hi' => hi i (List.mem_flatMap.2 ⟨x, hx, hi'⟩)) h⟩
  | _ => exact leaf h hi
theorem shown_rel {ids : List Nat} {x : AV} {u : Value} (hH : HRel w ok base H m) (hi : ∀ i ∈ idsA x, i ∈ ids) (h : rel w ok H m x u) :
    rel w (okF ok (fun j => j ∈ ids) H m) [] mz (shown (rdOf H ids) x) u := by
  have key : (∀ i ∈ ids2 x, i ∈ ids) → rel2 w ok H m x u → rel2 w (okF ok (fun j => j ∈ ids) H m) [] mz (shown2 (rdOf H ids) x) u := shown2_rel hH
  cases x with
  | fn g fs cs =>
    obtain ⟨us, vs, rfl, h1, h2⟩ := h
    refine ⟨us, vs, rfl, h1.mapL fun x y hx h => shown2_rel hH (fun i hi' => hi i ?_) h, h2.mapL fun x y hx h => shown1_rel hH (fun i hi' => hi i ?_) h⟩
    · exact List.mem_append_left _ (List.mem_flatMap.2 ⟨x, hx, hi'⟩)
    · exact List.mem_append_right _ (List.mem_flatMap.2 ⟨x, hx, hi'⟩)
  | tup cs => trivial
  | agg cs => exact key hi h
  | _ => exact rel2_rel (key hi h)

theorem ids_of2 {x : AV} {u : Value} (h : rel2 w ok H m x u) : idsA x = ids2 x := by
  cases x <;> first | rfl | exact h.elim
theorem ids_of1 {x : AV} {u : Value} (h : rel1 w ok H m x u) : idsA x = ids1 x := by
  cases x <;> first | rfl | exact h.elim

/-! ### what is shown for good -/
theorem stay_mem {rd : Nat → Option Row} {i j : Nat} {r : Row} : (j, r) ∈ stay rd i ↔ j = i ∧ ((∃ e t xs, rd i = some (.row e t xs) ∧ r = .frz t xs) ∨ ∃ cs, rd i = some (.box cs) ∧ r = .fbx cs) := by
  unfold stay
  cases h : rd i with
  | none => simp
  | some q =>
    cases q with
    | row e t xs =>
      simp only [List.mem_singleton, Prod.mk.injEq, Option.some.injEq, Row.row.injEq, reduceCtorEq, false_and, exists_false, or_false]
      constructor
      · rintro ⟨rfl, rfl⟩; exact ⟨rfl, e, t, xs, ⟨rfl, rfl, HEq.rfl⟩, rfl⟩
      · rintro ⟨rfl, e', t', xs', ⟨rfl, rfl, h⟩, rfl⟩; cases h; exact ⟨rfl, rfl⟩
    | box cs =>
      simp only [List.mem_singleton, Prod.mk.injEq, Option.some.injEq, Row.box.injEq, reduceCtorEq, false_and, exists_false, false_or]
      constructor
      · rintro ⟨rfl, rfl⟩; exact ⟨rfl, cs, rfl, rfl⟩
      · rintro ⟨rfl, cs', rfl, rfl⟩; exact ⟨rfl, rfl⟩
    | _ => simp
theorem stay_at (ids : List Nat) (id : Nat) : FrzAt (fun j => j ∈ ids) H (setH H (ids.flatMap (stay (rdOf H ids)))) id := by
  have hmem : ∀ r, (id, r) ∈ ids.flatMap (stay (rdOf H ids)) ↔ id ∈ ids ∧ ((∃ e t xs, H[id]? = some (.row e t xs) ∧ r = .frz t xs) ∨ ∃ cs, H[id]? = some (.box cs) ∧ r = .fbx cs) := by
    intro r
    rw [List.mem_flatMap]
    constructor
    · rintro ⟨i, hi, h⟩
      obtain ⟨rfl, h⟩ := stay_mem.1 h
      rw [rdOf_mem hi] at h
      exact ⟨hi, h⟩
    · rintro ⟨hi, h⟩
      exact ⟨id, hi, stay_mem.2 ⟨rfl, by rw [rdOf_mem hi]; exact h⟩⟩
  by_cases hs : id ∈ ids
  · refine .inr ⟨hs, ?_⟩
    have no : (∀ e t xs, H[id]? ≠ some (.row e t xs)) → (∀ cs, H[id]? ≠ some (.box cs)) → (setH H (ids.flatMap (stay (rdOf H ids))))[id]? = H[id]? := fun h1 h2 => setH_other _ _ fun hm => by
      obtain ⟨r, hr⟩ := fsts_mem.1 hm
      rcases ((hmem r).1 hr).2 with ⟨e, t, xs, h, _⟩ | ⟨cs, h, _⟩
      · exact h1 _ _ _ h
      · exact h2 _ h
    cases hq : H[id]? with
    | none => exact (no (by simp [hq]) (by simp [hq])).trans hq
    | some q =>
      cases q with
      | row e t xs =>
        refine setH_mem _ _ (get_lt hq) ((hmem _).2 ⟨hs, .inl ⟨e, t, xs, hq, rfl⟩⟩) fun r hr => ?_
        rcases ((hmem r).1 hr).2 with ⟨e', t', xs', h, rfl⟩ | ⟨cs, h, _⟩
        · rw [hq] at h
          simp only [Option.some.injEq, Row.row.injEq] at h
          obtain ⟨rfl, rfl, h⟩ := h
          cases h
          rfl
        · rw [hq] at h; simp at h
      | box cs =>
        refine setH_mem _ _ (get_lt hq) ((hmem _).2 ⟨hs, .inr ⟨cs, hq, rfl⟩⟩) fun r hr => ?_
        rcases ((hmem r).1 hr).2 with ⟨e', t', xs', h, rfl⟩ | ⟨cs', h, rfl⟩
        · rw [hq] at h; simp at h
        · rw [hq] at h
          simp only [Option.some.injEq, Row.box.injEq] at h
          rw [h]
      | _ => exact (no (by simp [hq]) (by simp [hq])).trans hq
  · exact .inl ⟨hs, setH_other _ _ fun hm => by
      obtain ⟨r, hr⟩ := fsts_mem.1 hm
      exact hs ((hmem r).1 hr).1⟩
end
end Go.Proofs.Ytoplphfgbfcagaa.Ev
