/-
What one operation of the machine gives is what the evaluator's step says: operations on memory.
Conditions: the table of types is the program's; the operands' values stand in the relation.
-/
import Derived.Test.YtoplphfgbfcagaaEvD
import Derived.Laws.CopyRow
import Derived.Great.BuildSlice
set_option linter.unusedVariables false
set_option linter.unusedSimpArgs false
namespace Go.Proofs.Ytoplphfgbfcagaa.Ev
open Go Go.RowKit

section
variable {P : Program} {E : Env} {o : Oper} {a : Act} {w : World} {ok : Nat → Prop} {base : Nat} {H : List Row} {m : Nat → Value}

theorem TOk.size {t : Nat} {i : TInfo} (h : TOk P t i) (w : World) : (sizeOf t).run P w = .ok i.ty.sz w := by
  obtain ⟨f, z, hf, hs, _⟩ := h.inf
  simp [sizeOf, typeInfo, hf, hs]
theorem TOk.isAgg {t : Nat} {i : TInfo} (h : TOk P t i) (w : World) : (isAgg t).run P w = .ok i.agg w := by
  cases hg : i.agg with
  | false => exact h.nag hg w
  | true =>
    obtain ⟨fs, hu, _⟩ := h.ag hg
    rw [run_isAgg_of hu]

/-! ### loads -/
theorem rel1_rel2 {x : AV} {u : Value} (h : rel1 w ok H m x u) : rel2 w ok H m x u := by
  cases x with
  | agg cs => exact h.elim
  | _ => exact h
theorem load_ok {T : Nat} {cs : List AV} {us : List Value} {ad : Addr} {av : AV} (hE : TyOk P E) (hc : Cells w ad us) (hf : F2 (rel1 w ok H m) cs us) (ht : takeW E T cs = some av) :
    ∃ u, (loadVar T ad).run P w = .ok u w ∧ rel2 w ok H m av u := by
  unfold takeW at ht
  cases hi : E_ti E T with
  | none => simp [hi] at ht
  | some i =>
    have hT := hE T i hi
    simp only [hi] at ht
    cases hg : i.agg with
    | true =>
      simp only [hg, cond_true] at ht
      cases hl : Nat.ble i.ty.sz cs.length with
      | false => simp [hl] at ht
      | true =>
        simp only [hl, cond_true, Option.some.injEq] at ht
        subst ht
        have hle : i.ty.sz ≤ us.length := by rw [← hf.length]; exact Nat.le_of_ble_eq_true hl
        have hrun := run_loadCells_list (P := P) w ad (us.take i.ty.sz) (hc.take _)
        rw [List.length_take, Nat.min_eq_left hle] at hrun
        refine ⟨.agg (us.take i.ty.sz).toArray, ?_, _, rfl, hf.take _⟩
        simp [loadVar, hT.isAgg, hg, hT.size, hrun]
    | false =>
      simp only [hg, cond_false] at ht
      cases hf with
      | nil => simp at ht
      | @cons c u _ us' h1 _ =>
        simp only [List.head?_cons, Option.some.injEq] at ht
        subst ht
        refine ⟨u, ?_, rel1_rel2 h1⟩
        · have h0 := hc 0 u rfl
          have e : ad.add 0 = ad := by simp [Addr.add]
          rw [e] at h0
          simp [loadVar, hT.isAgg, hg, Go.load, Sem.run, h0]
theorem rel2_rel {x : AV} {u : Value} (h : rel2 w ok H m x u) : rel w ok H m x u := by
  cases x <;> first | exact h | (simp only [rel2, rel1] at h)
theorem done_load {T : Nat} {X : Operand} {cs : List AV} {us : List Value} {ad : Addr} {av : AV} (hE : TyOk P E) (hH : HRel w ok base H m) (ho : o.op = .load T X)
    (hX : a.eval X = .pointer (some ad)) (hc : Cells w ad us) (hf : F2 (rel1 w ok H m) cs us) (ht : takeW E T cs = some av) : Done P o a w ok base H m av [] := by
  obtain ⟨u, hr, hu⟩ := load_ok hE hc hf ht
  refine Done.pure (u := u) hH ?_ (rel2_rel hu)
  rw [execOp.eq_def]
  simp [ho, hX, Instr.loadAt, Instr.sureAddr, hr]

/-- Where a box's cells lie. -/
theorem box_cells {id off : Nat} {cs : List AV} {u : Value} (hH : HRel w ok base H m) (hb : H[id]? = some (.box cs) ∨ H[id]? = some (.fbx cs)) (hu : rel w ok H m (.pb id off) u) :
    ∃ b us, u = .pointer (some ⟨b, off, none⟩) ∧ Cells w ⟨b, off, none⟩ us ∧ F2 (rel1 w ok H m) (cs.drop off) us := by
  have hu : rel1 w ok H m (.pb id off) u := hu
  simp only [rel1] at hu
  replace hu := hu.2
  have key : ∀ {b : Nat} {T : Nat} {cur : Array Value}, w.heap[b]? = some (.cells cur T (0, 0)) → F2 (rel1 w ok H m) cs cur.toList → Cells w ⟨b, off, none⟩ (cur.toList.drop off) ∧ F2 (rel1 w ok H m) (cs.drop off) (cur.toList.drop off) := by
    intro b T cur hh hf
    refine ⟨fun j v hv => ?_, hf.drop off⟩
    have e : (⟨b, off, none⟩ : Addr).add j = ⟨b, off + j, none⟩ := by unfold Addr.add; split <;> simp_all
    rw [e, cell_of_row w b _ cur T (0, 0) hh]
    rw [List.getElem?_drop] at hv
    simpa using hv
  rcases hb with hb | hb
  · rw [hb] at hu
    obtain ⟨b, hm, rfl⟩ := hu
    obtain ⟨b', T, cur, hm', _, hh, hf⟩ := hH.hp id _ hb
    rw [hm] at hm'
    simp only [Value.pointer.injEq, Option.some.injEq, Addr.mk.injEq, and_true] at hm'
    subst hm'
    exact ⟨b, _, rfl, (key hh hf).1, (key hh hf).2⟩
  · rw [hb] at hu
    obtain ⟨b, hm, rfl⟩ := hu
    obtain ⟨b', T, cur, hm', _, hh, hf⟩ := hH.hp id _ hb
    rw [hm] at hm'
    simp only [Value.pointer.injEq, Option.some.injEq, Addr.mk.injEq, and_true] at hm'
    subst hm'
    exact ⟨b, _, rfl, (key hh hf).1, (key hh hf).2⟩

/-- Where an element's cells lie. -/
theorem elem_cells {id i off e : Nat} {t : Ty} {xs : List t.D} {u : Value} (hH : HRel w ok base H m) (hb : H[id]? = some (.row e t xs)) (hu : rel w ok H m (.pe id i off) u) :
    ∃ b us, u = .pointer (some ⟨b, i * t.sz + off, none⟩) ∧ Cells w ⟨b, i * t.sz + off, none⟩ us ∧ F2 (rel1 w ok H m) ((explode t (xs.getD i t.z)).drop off) us := by
  have hu : rel1 w ok H m (.pe id i off) u := hu
  simp only [rel1, hb] at hu
  obtain ⟨_, hi, b, n, c, hm, rfl⟩ := hu
  obtain ⟨us, hf, ho⟩ := hH.hp id _ hb
  rw [hm] at ho
  obtain ⟨p, hp, hr⟩ := hf.get (List.getElem?_eq_getElem hi)
  obtain ⟨r, hr'⟩ := flat_drop hf.lens hp
  have hcells : Cells w ⟨b, 0, none⟩ us.flatten := fun j v hv => ho.cells (g := b) rfl j v hv
  have e1 : (⟨b, 0, none⟩ : Addr).add (i * t.sz) = ⟨b, i * t.sz, none⟩ := by unfold Addr.add; split <;> simp_all
  have hc1 : Cells w ⟨b, i * t.sz, none⟩ p := by
    have := hcells.drop rfl (i * t.sz)
    rw [hr', e1] at this
    exact this.left
  have e2 : (⟨b, i * t.sz, none⟩ : Addr).add off = ⟨b, i * t.sz + off, none⟩ := by unfold Addr.add; split <;> simp_all
  refine ⟨b, p.drop off, rfl, ?_, ?_⟩
  · rw [← e2]
    exact hc1.drop rfl off
  · have : xs.getD i t.z = xs[i] := by simp [List.getD, List.getElem?_eq_getElem hi]
    rw [this]
    exact ((explode_rel hr).drop off).imp fun _ _ _ h => rel0_rel1 h

theorem done_nilCheck {X : Operand} {x : AV} (hH : HRel w ok base H m) (ho : o.op = .nilCheck X) (hx : rel w ok H m x (a.eval X))
    (hp : (∃ ad, a.eval X = .pointer (some ad)) ∨ ∃ g us vs, a.eval X = .func (.func g) us vs) : Done P o a w ok base H m x [] := by
  refine Done.pure (u := a.eval X) hH ?_ hx
  rw [execOp.eq_def]
  rcases hp with ⟨ad, h⟩ | ⟨g, us, vs, h⟩ <;> simp [ho, h]

theorem fieldPlace_ok {f : Field} {i : TInfo} {ad : Addr} (h : TOk P f.type i) : (fieldPlace ad f).run P w = .ok (ad.add f.offset) w := by
  have := Ty.sz_pos i.ty
  simp [fieldPlace, h.size, show ¬ i.ty.sz = 0 by omega]
theorem field_of {S f off T : Nat} {i : TInfo} (hS : TOk P S i) (hg : i.agg = true) (hf : i.fl[f]? = some (off, T)) : ∃ fs : Array Field, ∃ fd, P.underlying S = some (.struct fs) ∧ fs[f]? = some fd ∧ fd.offset = off ∧ fd.type = T := by
  obtain ⟨fs, hu, he, _⟩ := hS.ag hg
  rw [← he, List.getElem?_map] at hf
  cases hq : fs.toList[f]? with
  | none => simp [hq] at hf
  | some fd =>
    simp only [hq, Option.map_some, Option.some.injEq, Prod.mk.injEq] at hf
    exact ⟨fs, fd, hu, by simpa using hq, hf.1, hf.2⟩
theorem run_fieldAt {S f off T : Nat} {i i' : TInfo} {ad : Addr} (hS : TOk P S i) (hg : i.agg = true) (hf : i.fl[f]? = some (off, T)) (hT : TOk P T i') :
    (Instr.fieldAt S (.pointer (some ad)) f).run P w = .ok (.pointer (some (ad.add off))) w := by
  obtain ⟨fs, fd, hu, hq, rfl, rfl⟩ := field_of hS hg hf
  simp [Instr.fieldAt, run_underlying hu, hq, Instr.sureAddr, fieldPlace_ok hT]
theorem done_fieldAddr {S f off T : Nat} {X : Operand} {i i' : TInfo} {ad : Addr} {x : AV} (hH : HRel w ok base H m) (ho : o.op = .fieldAddr S X f) (hS : TOk P S i) (hg : i.agg = true) (hf : i.fl[f]? = some (off, T)) (hT : TOk P T i')
    (hX : a.eval X = .pointer (some ad)) (hx : rel w ok H m x (.pointer (some (ad.add off)))) : Done P o a w ok base H m x [] := by
  refine Done.pure (u := .pointer (some (ad.add off))) hH ?_ hx
  rw [execOp.eq_def]
  simp [ho, hX, run_fieldAt hS hg hf hT]
theorem add_plain' (b i j : Nat) : (⟨b, i, none⟩ : Addr).add j = ⟨b, i + j, none⟩ := by unfold Addr.add; split <;> simp_all
theorem pb_add {id off d : Nat} {u : Value} (hu : rel w ok H m (.pb id off) u) (hl : ∃ cs, H[id]? = some (.box cs) ∨ H[id]? = some (.fbx cs)) :
    ∃ ad, u = .pointer (some ad) ∧ rel w ok H m (.pb id (off + d)) (.pointer (some (ad.add d))) := by
  have hu : rel1 w ok H m (.pb id off) u := hu
  simp only [rel1] at hu
  replace hu := hu.2
  obtain ⟨cs, h | h⟩ := hl
  · rw [h] at hu
    obtain ⟨b, hm, rfl⟩ := hu
    refine ⟨_, rfl, ?_⟩
    show rel1 w ok H m (.pb id (off + d)) _
    simp only [rel1, h]
    exact ⟨⟨_, rfl⟩, b, hm, by rw [add_plain']⟩
  · rw [h] at hu
    obtain ⟨b, hm, rfl⟩ := hu
    refine ⟨_, rfl, ?_⟩
    show rel1 w ok H m (.pb id (off + d)) _
    simp only [rel1, h]
    exact ⟨⟨_, rfl⟩, b, hm, by rw [add_plain']⟩
end
end Go.Proofs.Ytoplphfgbfcagaa.Ev
