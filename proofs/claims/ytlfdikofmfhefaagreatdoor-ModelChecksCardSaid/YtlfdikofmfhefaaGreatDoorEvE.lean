/-
What one operation of the machine gives is what the evaluator's step says: operations on memory.
Conditions: the table of types is the program's; the operands' values stand in the relation.
Rows that are frozen, contents that are put together, stores: as the machine does them.
Conditions: as in the parts before.
Stores, new memory, indexes, slices, appends: as the machine does them.
Conditions: as in the parts before.
Rows that are made, read, stored into, cut and appended to: as the machine does them.
Conditions: as in the parts before.
-/
import Derived.Test.YtlfdikofmfhefaaGreatDoorEvA
import Derived.Laws.CopyRow
import Derived.Great.BuildSlice
set_option linter.unusedVariables false
set_option linter.unusedSimpArgs false
namespace Go.Proofs.YtlfdikofmfhefaaGreatDoor.Ev
open Go Go.RowKit
section
variable {P : Program} {E : Env} {o : Oper} {a : Act} {w : World} {ok : Nat → Prop} {base : Nat} {H : List Row} {m : Nat → Value}
theorem TOk.size {t : Nat} {i : TInfo} (h : TOk P t i) (w : World) : (sizeOf t).run P w = .ok i.ty.sz w := by
 obtain ⟨f, z, hf, hs, _⟩ := h.inf
 simp [sizeOf, typeInfo, hf, hs]
theorem TOk.isAgg {t : Nat} {i : TInfo} (h : TOk P t i) (w : World) : (isAgg t).run P w = .ok i.agg w := by
 cases hg : i.agg with
 | false => exact h.nag hg w
 | true =>
  obtain ⟨fs, hu, _⟩ := h.ag hg
  rw [run_isAgg_of hu]
theorem rel1_rel2 {x : AV} {u : Value} (h : rel1 w ok H m x u) : rel2 w ok H m x u := by
 cases x with
 | agg cs => exact h.elim
 | _ => exact h
theorem load_ok {T : Nat} {cs : List AV} {us : List Value} {ad : Addr} {av : AV} (hE : TyOk P E) (hc : Cells w ad us) (hf : F2 (rel1 w ok H m) cs us) (ht : takeW E T cs = some av) :
  ∃ u, (loadVar T ad).run P w = .ok u w ∧ rel2 w ok H m av u := by
 unfold takeW at ht
 cases hi : E_ti E T with
 | none => simp [hi] at ht
 | some i =>
  have hT := hE T i hi
  simp only [hi] at ht
  cases hg : i.agg with
  | true =>
   simp only [hg, cond_true] at ht
   cases hl : Nat.ble i.ty.sz cs.length with
   | false => simp [hl] at ht
   | true =>
    simp only [hl, cond_true, Option.some.injEq] at ht
    subst ht
    have hle : i.ty.sz ≤ us.length := by rw [← hf.length]; exact Nat.le_of_ble_eq_true hl
    have hrun := run_loadCells_list (P := P) w ad (us.take i.ty.sz) (hc.take _)
    rw [List.length_take, Nat.min_eq_left hle] at hrun
    refine ⟨.agg (us.take i.ty.sz).toArray, ?_, _, rfl, hf.take _⟩
    simp [loadVar, hT.isAgg, hg, hT.size, hrun]
  | false =>
   simp only [hg, cond_false] at ht
   cases hf with
   | nil => simp at ht
   | @cons c u _ us' h1 _ =>
    simp only [List.head?_cons, Option.some.injEq] at ht
    subst ht
    refine ⟨u, ?_, rel1_rel2 h1⟩
    ·have h0 := hc 0 u rfl
     have e : ad.add 0 = ad := by simp [Addr.add]
     rw [e] at h0
     simp [loadVar, hT.isAgg, hg, Go.load, Sem.run, h0]
theorem rel2_rel {x : AV} {u : Value} (h : rel2 w ok H m x u) : rel w ok H m x u := by
 cases x <;> first | exact h | (simp only [rel2, rel1] at h)
theorem done_load {T : Nat} {X : Operand} {cs : List AV} {us : List Value} {ad : Addr} {av : AV} (hE : TyOk P E) (hH : HRel w ok base H m) (ho : o.op = .load T X)
  (hX : a.eval X = .pointer (some ad)) (hc : Cells w ad us) (hf : F2 (rel1 w ok H m) cs us) (ht : takeW E T cs = some av) : Done P o a w ok base H m av [] := by
 obtain ⟨u, hr, hu⟩ := load_ok hE hc hf ht
 refine Done.pure (u := u) hH ?_ (rel2_rel hu)
 rw [execOp.eq_def]
 simp [ho, hX, Instr.loadAt, Instr.sureAddr, hr]
theorem box_cells {id off : Nat} {cs : List AV} {u : Value} (hH : HRel w ok base H m) (hb : H[id]? = some (.box cs) ∨ H[id]? = some (.fbx cs)) (hu : rel w ok H m (.pb id off) u) :
  ∃ b us, u = .pointer (some ⟨b, off, none⟩) ∧ Cells w ⟨b, off, none⟩ us ∧ F2 (rel1 w ok H m) (cs.drop off) us := by
 have hu : rel1 w ok H m (.pb id off) u := hu
 simp only [rel1] at hu
 replace hu := hu.2
 have key : ∀ {b : Nat} {T : Nat} {cur : Array Value}, w.heap[b]? = some (.cells cur T (0, 0)) → F2 (rel1 w ok H m) cs cur.toList → Cells w ⟨b, off, none⟩ (cur.toList.drop off) ∧ F2 (rel1 w ok H m) (cs.drop off) (cur.toList.drop off) := by
  intro b T cur hh hf
  refine ⟨fun j v hv => ?_, hf.drop off⟩
  have e : (⟨b, off, none⟩ : Addr).add j = ⟨b, off + j, none⟩ := by unfold Addr.add; split <;> simp_all
  rw [e, cell_of_row w b _ cur T (0, 0) hh]
  rw [List.getElem?_drop] at hv
  simpa using hv
 rcases hb with hb | hb
 ·rw [hb] at hu
  obtain ⟨b, hm, rfl⟩ := hu
  obtain ⟨b', T, cur, hm', _, hh, hf⟩ := hH.hp id _ hb
  rw [hm] at hm'
  simp only [Value.pointer.injEq, Option.some.injEq, Addr.mk.injEq, and_true] at hm'
  subst hm'
  exact ⟨b, _, rfl, (key hh hf).1, (key hh hf).2⟩
 ·rw [hb] at hu
  obtain ⟨b, hm, rfl⟩ := hu
  obtain ⟨b', T, cur, hm', _, hh, hf⟩ := hH.hp id _ hb
  rw [hm] at hm'
  simp only [Value.pointer.injEq, Option.some.injEq, Addr.mk.injEq, and_true] at hm'
  subst hm'
  exact ⟨b, _, rfl, (key hh hf).1, (key hh hf).2⟩
theorem elem_cells {id i off e : Nat} {t : Ty} {xs : List t.D} {u : Value} (hH : HRel w ok base H m) (hb : H[id]? = some (.row e t xs)) (hu : rel w ok H m (.pe id i off) u) :
  ∃ b us, u = .pointer (some ⟨b, i * t.sz + off, none⟩) ∧ Cells w ⟨b, i * t.sz + off, none⟩ us ∧ F2 (rel1 w ok H m) ((explode t (xs.getD i t.z)).drop off) us := by
 have hu : rel1 w ok H m (.pe id i off) u := hu
 simp only [rel1, hb] at hu
 obtain ⟨_, hi, b, n, c, hm, rfl⟩ := hu
 obtain ⟨us, hf, ho⟩ := hH.hp id _ hb
 rw [hm] at ho
 obtain ⟨p, hp, hr⟩ := hf.get (List.getElem?_eq_getElem hi)
 obtain ⟨r, hr'⟩ := flat_drop hf.lens hp
 have hcells : Cells w ⟨b, 0, none⟩ us.flatten := fun j v hv => ho.cells (g := b) rfl j v hv
 have e1 : (⟨b, 0, none⟩ : Addr).add (i * t.sz) = ⟨b, i * t.sz, none⟩ := by unfold Addr.add; split <;> simp_all
 have hc1 : Cells w ⟨b, i * t.sz, none⟩ p := by
  have := hcells.drop rfl (i * t.sz)
  rw [hr', e1] at this
  exact this.left
 have e2 : (⟨b, i * t.sz, none⟩ : Addr).add off = ⟨b, i * t.sz + off, none⟩ := by unfold Addr.add; split <;> simp_all
 refine ⟨b, p.drop off, rfl, ?_, ?_⟩
 ·rw [← e2]
  exact hc1.drop rfl off
 ·have : xs.getD i t.z = xs[i] := by simp [List.getD, List.getElem?_eq_getElem hi]
  rw [this]
  exact ((explode_rel hr).drop off).imp fun _ _ _ h => rel0_rel1 h
theorem done_nilCheck {X : Operand} {x : AV} (hH : HRel w ok base H m) (ho : o.op = .nilCheck X) (hx : rel w ok H m x (a.eval X))
  (hp : (∃ ad, a.eval X = .pointer (some ad)) ∨ ∃ g us vs, a.eval X = .func (.func g) us vs) : Done P o a w ok base H m x [] := by
 refine Done.pure (u := a.eval X) hH ?_ hx
 rw [execOp.eq_def]
 rcases hp with ⟨ad, h⟩ | ⟨g, us, vs, h⟩ <;> simp [ho, h]
theorem fieldPlace_ok {f : Field} {i : TInfo} {ad : Addr} (h : TOk P f.type i) : (fieldPlace ad f).run P w = .ok (ad.add f.offset) w := by
 have := Ty.sz_pos i.ty
 simp [fieldPlace, h.size, show ¬ i.ty.sz = 0 by omega]
theorem field_of {S f off T : Nat} {i : TInfo} (hS : TOk P S i) (hg : i.agg = true) (hf : i.fl[f]? = some (off, T)) : ∃ fs : Array Field, ∃ fd, P.underlying S = some (.struct fs) ∧ fs[f]? = some fd ∧ fd.offset = off ∧ fd.type = T := by
 obtain ⟨fs, hu, he, _⟩ := hS.ag hg
 rw [← he, List.getElem?_map] at hf
 cases hq : fs.toList[f]? with
 | none => simp [hq] at hf
 | some fd =>
  simp only [hq, Option.map_some, Option.some.injEq, Prod.mk.injEq] at hf
  exact ⟨fs, fd, hu, by simpa using hq, hf.1, hf.2⟩
theorem run_fieldAt {S f off T : Nat} {i i' : TInfo} {ad : Addr} (hS : TOk P S i) (hg : i.agg = true) (hf : i.fl[f]? = some (off, T)) (hT : TOk P T i') :
  (Instr.fieldAt S (.pointer (some ad)) f).run P w = .ok (.pointer (some (ad.add off))) w := by
 obtain ⟨fs, fd, hu, hq, rfl, rfl⟩ := field_of hS hg hf
 simp [Instr.fieldAt, run_underlying hu, hq, Instr.sureAddr, fieldPlace_ok hT]
theorem done_fieldAddr {S f off T : Nat} {X : Operand} {i i' : TInfo} {ad : Addr} {x : AV} (hH : HRel w ok base H m) (ho : o.op = .fieldAddr S X f) (hS : TOk P S i) (hg : i.agg = true) (hf : i.fl[f]? = some (off, T)) (hT : TOk P T i')
  (hX : a.eval X = .pointer (some ad)) (hx : rel w ok H m x (.pointer (some (ad.add off)))) : Done P o a w ok base H m x [] := by
 refine Done.pure (u := .pointer (some (ad.add off))) hH ?_ hx
 rw [execOp.eq_def]
 simp [ho, hX, run_fieldAt hS hg hf hT]
theorem add_plain' (b i j : Nat) : (⟨b, i, none⟩ : Addr).add j = ⟨b, i + j, none⟩ := by unfold Addr.add; split <;> simp_all
theorem pb_add {id off d : Nat} {u : Value} (hu : rel w ok H m (.pb id off) u) (hl : ∃ cs, H[id]? = some (.box cs) ∨ H[id]? = some (.fbx cs)) :
  ∃ ad, u = .pointer (some ad) ∧ rel w ok H m (.pb id (off + d)) (.pointer (some (ad.add d))) := by
 have hu : rel1 w ok H m (.pb id off) u := hu
 simp only [rel1] at hu
 replace hu := hu.2
 obtain ⟨cs, h | h⟩ := hl
 ·rw [h] at hu
  obtain ⟨b, hm, rfl⟩ := hu
  refine ⟨_, rfl, ?_⟩
  show rel1 w ok H m (.pb id (off + d)) _
  simp only [rel1, h]
  exact ⟨⟨_, rfl⟩, b, hm, by rw [add_plain']⟩
 ·rw [h] at hu
  obtain ⟨b, hm, rfl⟩ := hu
  refine ⟨_, rfl, ?_⟩
  show rel1 w ok H m (.pb id (off + d)) _
  simp only [rel1, h]
  exact ⟨⟨_, rfl⟩, b, hm, by rw [add_plain']⟩
end
end Go.Proofs.YtlfdikofmfhefaaGreatDoor.Ev
set_option linter.unusedVariables false
set_option linter.unusedSimpArgs false
namespace Go.Proofs.YtlfdikofmfhefaaGreatDoor.Ev
open Go Go.RowKit
section
variable {P : Program} {E : Env} {o : Oper} {a : Act} {w : World} {ok : Nat → Prop} {base : Nat} {H : List Row} {m : Nat → Value}
theorem setH_append : ∀ (H : List Row) (a b : List (Nat × Row)), setH H (a ++ b) = setH (setH H a) b
 | _, [], _ => rfl
 | H, (i, r) :: a, b => by simp only [List.cons_append, setH]; exact setH_append _ a b
theorem setH_length : ∀ (H : List Row) (ups : List (Nat × Row)), (setH H ups).length = H.length
 | _, [] => rfl
 | H, (i, r) :: a => by simp only [setH]; rw [setH_length]; simp
theorem setH_other {i : Nat} : ∀ (H : List Row) (ups : List (Nat × Row)), i ∉ fsts ups → (setH H ups)[i]? = H[i]?
 | _, [], _ => rfl
 | H, (j, r) :: a, h => by
  simp only [fsts, List.mem_cons, not_or] at h
  simp only [setH]
  rw [setH_other _ a h.2, List.getElem?_set_ne (Ne.symm h.1)]
theorem fsts_mem {i : Nat} : ∀ {ups : List (Nat × Row)}, i ∈ fsts ups ↔ ∃ r, (i, r) ∈ ups
 | [] => by simp [fsts]
 | (j, r) :: a => by
  simp only [fsts, List.mem_cons, fsts_mem (ups := a), Prod.mk.injEq]
  constructor
  ·rintro (rfl | ⟨q, h⟩)
   ·exact ⟨r, .inl ⟨rfl, rfl⟩⟩
   ·exact ⟨q, .inr h⟩
  ·rintro ⟨q, ⟨rfl, rfl⟩ | h⟩
   ·exact .inl rfl
   ·exact .inr ⟨q, h⟩
theorem setH_mem {i : Nat} {r : Row} : ∀ (H : List Row) (ups : List (Nat × Row)), i < H.length → (i, r) ∈ ups → (∀ q, (i, q) ∈ ups → q = r) → (setH H ups)[i]? = some r
 | _, [], _, h, _ => by simp at h
 | H, (j, q) :: a, hl, h, hu => by
  simp only [setH]
  by_cases hm : i ∈ fsts a
  ·obtain ⟨q', hq'⟩ := fsts_mem.1 hm
   have := hu q' (by simp [hq'])
   subst this
   exact setH_mem _ a (by simpa using hl) hq' fun q hq => hu q (by simp [hq])
  ·rw [setH_other _ a hm]
   rcases List.mem_cons.1 h with h | h
   ·simp only [Prod.mk.injEq] at h
    obtain ⟨rfl, rfl⟩ := h
    simp [hl]
   ·exact absurd (fsts_mem.2 ⟨_, h⟩) hm
theorem get_lt {i : Nat} {r : Row} (h : H[i]? = some r) : i < H.length := (List.getElem?_eq_some_iff.1 h).1
theorem memN_iff {n : Nat} : ∀ {l : List Nat}, memN n l = true ↔ n ∈ l
 | [] => by simp [memN]
 | a :: r => by simp only [memN, Bool.or_eq_true, memN_iff (l := r), List.mem_cons, Nat.beq_eq]; exact ⟨fun h => h.imp Eq.symm id, fun h => h.imp Eq.symm id⟩
theorem rdOf_some {l : List Nat} {i : Nat} {r : Row} (h : rdOf H l i = some r) : H[i]? = some r := by
 unfold rdOf at h
 cases hm : memN i l with
 | true => simpa [hm] using h
 | false => simp [hm] at h
theorem rdOf_mem {l : List Nat} {i : Nat} (h : i ∈ l) : rdOf H l i = H[i]? := by simp [rdOf, memN_iff.2 h]
theorem row_rd {ok' : Nat → Prop} {id e : Nat} {t : Ty} {xs : List t.D} (hH : HRel w ok base H m) (h : H[id]? = some (.row e t xs)) (h1 : ∀ k, ok k → ok' k)
  (h2 : ∀ k, mblk (m id) = some k → ok' k) : Rd w ok' (.sl t) xs [m id] := by
 obtain ⟨us, hf, ho⟩ := hH.hp id _ h
 have hf' : F2 (Rd w ok' t) xs us := hf.imp fun _ _ _ hr => Rd_move (fun k hk hl => ⟨rfl, h1 k hk⟩) hr
 simp only [Rd]
 rcases ho.2 with ⟨hm, hn⟩ | ⟨g, cap, cur, hm, hg, hh, hnc, hcm, hcs, ht⟩
 ·have : xs = [] := List.eq_nil_of_length_eq_zero hn
  subst this
  exact ⟨none, 0, by rw [hm]; rfl, Lc0, fun _ => ⟨rfl, rfl⟩, fun h => absurd rfl h⟩
 ·refine ⟨some ⟨g, 0, none⟩, cap, by rw [hm], ⟨hnc, hcm⟩, fun h => by simp at h, fun _ => ⟨⟨g, 0, none⟩, us, rfl, h2 g (by rw [hm]; rfl), hf', fun j v hv => ?_⟩⟩
  exact World.ownsRow.cells (hm ▸ ho) (g := g) rfl j v hv
theorem F2.of_get {α β : Type} {r : α → β → Prop} : ∀ {xs : List α} {ys : List β}, xs.length = ys.length → (∀ (j : Nat) x y, xs[j]? = some x → ys[j]? = some y → r x y) → F2 r xs ys
 | [], [], _, _ => .nil
 | [], _ :: _, h, _ => by simp at h
 | _ :: _, [], h, _ => by simp at h
 | x :: xs, y :: ys, h, hr => .cons (hr 0 x y rfl rfl) (F2.of_get (by simpa using h) fun j a b ha hb => hr (j + 1) a b ha hb)
theorem flat_ones : ∀ us : List Value, (us.map fun v => [v]).flatten = us
 | [] => rfl
 | u :: us => by
  show [u] ++ (us.map fun v => [v]).flatten = u :: us
  rw [flat_ones us]; rfl
theorem rows_rd {ok' : Nat → Prop} {id e e2 : Nat} {t : Ty} {xs : List (List t.D)} (hH : HRel w ok base H m) (h : H[id]? = some (.rows e e2 t xs)) (h1 : ∀ k, ok k → ok' k)
  (h2 : ∀ k, RB w (m id) (.rows e e2 t xs) k → ok' k) : Rd w ok' (.sl (.sl t)) xs [m id] := by
 obtain ⟨us, hown, hn, _⟩ := hH.hp id _ h
 have el : ∀ (j : Nat) (x : List t.D) v, xs[j]? = some x → us[j]? = some v → Rd w ok' (.sl t) x [v] := by
  intro j x v hx hv
  obtain ⟨vs, hf, ho⟩ := hn.own j x v (fun h => h) hx hv
  have hf' : F2 (Rd w ok' t) x vs := hf.imp fun _ _ _ hr => Rd_move (fun k hk hl => ⟨rfl, h1 k hk⟩) hr
  have hj : j < xs.length := (List.getElem?_eq_some_iff.1 hx).1
  simp only [Rd]
  rcases ho.2 with ⟨hm, hn0⟩ | ⟨g, cap, cur, hm, hg, hh, hnc, hcm, hcs, ht⟩
  ·have : x = [] := List.eq_nil_of_length_eq_zero hn0
   subst this
   exact ⟨none, 0, by rw [hm]; rfl, Lc0, fun _ => ⟨rfl, rfl⟩, fun h => absurd rfl h⟩
  ·refine ⟨some ⟨g, 0, none⟩, cap, by rw [hm], ⟨hnc, hcm⟩, fun h => by simp at h, fun _ => ⟨⟨g, 0, none⟩, vs, rfl, h2 g (.inr ⟨j, v, hj, ?_, by rw [hm]; rfl⟩), hf', fun q y hy => ?_⟩⟩
   ·rw [ownsRow_cellAt hown hj]; exact hv
   ·exact World.ownsRow.cells (hm ▸ ho) (g := g) rfl q y hy
 have all : F2 (fun (x : List t.D) u => Rd w ok' (.sl t) x u) xs (us.map fun v => [v]) := by
  refine F2.of_get (by rw [List.length_map, hn.len]) fun j x y hx hy => ?_
  rw [List.getElem?_map] at hy
  obtain ⟨v, hv, rfl⟩ := Option.map_eq_some_iff.1 hy
  exact el j x v hx hv
 have hfl := flat_ones us
 simp only [Rd]
 rcases hown.2 with ⟨hm, hn0⟩ | ⟨g, cap, cur, hm, hg, hh, hnc, hcm, hcs, ht⟩
 ·have : xs = [] := List.eq_nil_of_length_eq_zero hn0
  subst this
  exact ⟨none, 0, by rw [hm]; rfl, Lc0, fun _ => ⟨rfl, rfl⟩, fun h => absurd rfl h⟩
 ·refine ⟨some ⟨g, 0, none⟩, cap, by rw [hm]; rfl, ⟨hnc, hcm⟩, fun h => by simp at h, fun _ => ⟨⟨g, 0, none⟩, _, rfl, h2 g (.inl (by rw [hm]; rfl)), all, fun j v hv => ?_⟩⟩
  rw [hfl] at hv
  exact World.ownsRow.cells (hm ▸ hown) (g := g) rfl j v hv
def FrzAt (S : Nat → Prop) (H H' : List Row) (id : Nat) : Prop :=
 (¬ S id ∧ H'[id]? = H[id]?) ∨ (S id ∧ match H[id]? with
  | some (.row e t xs) => H'[id]? = some (.frz t xs)
  | some (.box cs) => H'[id]? = some (.fbx cs)
  | some (.rows _ _ t xs) => H'[id]? = some (.frz (.sl t) xs)
  | x => H'[id]? = x)
def okF (w : World) (ok : Nat → Prop) (S : Nat → Prop) (H : List Row) (m : Nat → Value) : Nat → Prop := fun k => ok k ∨ ∃ id r, S id ∧ H[id]? = some r ∧ r.fz = true ∧ RB w (m id) r k
theorem freeze_ok {H' : List Row} (S : Nat → Prop) (hH : HRel w ok base H m) (hF : ∀ id, FrzAt S H H' id) :
  HRel w (okF w ok S H m) base H' m ∧ HStep w w ok (okF w ok S H m) H H' m m := by
 have hs : HStep w w ok (okF w ok S H m) H H' m m := by
  refine ⟨⟨Nat.le_refl _, fun k hk _ => ⟨rfl, .inl hk⟩⟩, fun id r hr hh => ⟨rfl, ?_⟩⟩
  rcases hF id with ⟨_, e⟩ | ⟨hS, e⟩
  ·exact ⟨r, e.trans hr, .same r⟩
  ·rw [hr] at e
   cases r with
   | row e' t xs => exact ⟨_, e, .frz e' t xs xs (row_rd hH hr (fun k hk => .inl hk) fun k hk => .inr ⟨id, _, hS, hr, rfl, hk⟩)⟩
   | box cs => exact ⟨_, e, .fbx cs cs⟩
   | rows e1 e2 t xs => exact ⟨_, e, .nfrz (n := xs.length) rfl (rows_rd hH hr (fun k hk => .inl hk) fun k hk => .inr ⟨id, _, hS, hr, rfl, hk⟩)⟩
   | hole => exact absurd rfl hh
   | dead => exact ⟨_, e, .same _⟩
   | frz => exact ⟨_, e, .same _⟩
   | fbx => exact ⟨_, e, .same _⟩
   | rowx => exact ⟨_, e, .same _⟩
   | gst => exact ⟨_, e, .same _⟩
 refine ⟨hH.upd (fun id => S id ∧ ∃ r, H[id]? = some r ∧ r.fz = true) hs (fun _ _ _ => rfl) ?_ ?_ ?_ ?_ ?_, hs⟩
 ·intro id hid
  refine ⟨?_, rfl⟩
  rcases hF id with ⟨_, e⟩ | ⟨hS, e⟩
  ·exact e
  ·cases hq : H[id]? with
   | none => rw [hq] at e; exact e
   | some r =>
    rw [hq] at e
    cases r with
    | row => exact absurd ⟨hS, _, hq, rfl⟩ hid
    | box => exact absurd ⟨hS, _, hq, rfl⟩ hid
    | rows => exact absurd ⟨hS, _, hq, rfl⟩ hid
    | _ => exact e
 ·rintro id r ⟨hS, q, hq, hl⟩ hr
  rcases hF id with ⟨hn, _⟩ | ⟨_, e⟩
  ·exact absurd hS hn
  ·rw [hq] at e
   cases q with
   | row e' t xs =>
    rw [e] at hr
    simp only [Option.some.injEq] at hr
    subst hr
    exact ⟨trivial, fun h => by simp [Row.live] at h⟩
   | box cs =>
    rw [e] at hr
    simp only [Option.some.injEq] at hr
    subst hr
    obtain ⟨b, T, cur, hm, hb, hh, hf⟩ := hH.hp id _ hq
    exact ⟨⟨b, T, cur, hm, .inr ⟨id, _, hS, hq, rfl, by rw [hm]; rfl⟩, hh, hf.imp fun _ _ _ h => rel1_step hs h⟩, fun h => by simp [Row.live] at h⟩
   | rows e1 e2 t xs =>
    rw [e] at hr
    simp only [Option.some.injEq] at hr
    subst hr
    exact ⟨trivial, fun h => by simp [Row.live] at h⟩
   | _ => simp [Row.fz] at hl
 ·rintro i j ri rj k ⟨hS, q, hq, hl⟩ _ hi _ hli _ _ _
  rcases hF i with ⟨hn, _⟩ | ⟨_, e⟩
  ·exact absurd hS hn
  ·rw [hq] at e
   cases q with
   | row e' t xs => rw [e] at hi; simp only [Option.some.injEq] at hi; subst hi; simp [Row.live] at hli
   | box cs => rw [e] at hi; simp only [Option.some.injEq] at hi; subst hi; simp [Row.live] at hli
   | rows e1 e2 t xs => rw [e] at hi; simp only [Option.some.injEq] at hi; subst hi; simp [Row.live] at hli
   | _ => simp [Row.fz] at hl
 ·rintro k (hk | ⟨id, r, hS, hr, hl, hk⟩)
  ·exact hH.lt k hk
  ·exact ((hH.hp id r hr).lt (Row.fz_live hl) k hk).2
 ·rintro k (hk | ⟨id, r, hS, hr, hl, hk⟩) _
  ·exact .inl hk
  ·exact .inr ⟨id, r, ⟨hS, r, hr, hl⟩, hr, Row.fz_live hl, hk⟩
theorem okF_bd {S : Nat → Prop} (hH : HRel w ok base H m) (k : Nat) (h : okF w ok S H m k) : ok k ∨ base ≤ k := by
 rcases h with h | ⟨id, r, _, hr, hl, hk⟩
 ·exact .inl h
 ·exact .inr ((hH.hp id r hr).lt (Row.fz_live hl) k hk).1
theorem frz_mem {rd : Nat → Option Row} {x : AV} {i : Nat} {r : Row} : (i, r) ∈ frz rd x ↔ AV.own i ∈ cellsOf x ∧ ∃ e t xs, rd i = some (.row e t xs) ∧ r = .frz t xs := by
 unfold frz
 rw [List.mem_flatMap]
 constructor
 ·rintro ⟨c, hc, h⟩
  cases c with
  | own j =>
   simp only [frz1] at h
   split at h
   ·rename_i e t xs hq
    simp only [List.mem_singleton, Prod.mk.injEq] at h
    obtain ⟨rfl, rfl⟩ := h
    exact ⟨hc, e, t, xs, hq, rfl⟩
   ·simp at h
  | _ => simp [frz1] at h
 ·rintro ⟨hc, e, t, xs, hq, rfl⟩
  exact ⟨_, hc, by simp [frz1, hq]⟩
theorem frz_at {l : List Nat} {ups : List (Nat × Row)} (S : Nat → Prop) (hu : ∀ i r, (i, r) ∈ ups ↔ S i ∧ ∃ e t xs, H[i]? = some (.row e t xs) ∧ r = .frz t xs)
  (hS : ∀ i, S i → ∃ e t xs, H[i]? = some (.row e t xs)) (id : Nat) : FrzAt S H (setH H ups) id := by
 by_cases hs : S id
 ·refine .inr ⟨hs, ?_⟩
  cases hq : H[id]? with
  | none => rw [setH_other, hq]; intro hm; obtain ⟨r, hr⟩ := fsts_mem.1 hm; obtain ⟨_, e, t, xs, h, _⟩ := (hu id r).1 hr; rw [hq] at h; simp at h
  | some r =>
   have other : (∀ e t xs, r ≠ .row e t xs) → (setH H ups)[id]? = some r := by
    intro hne
    rw [setH_other, hq]
    intro hm
    obtain ⟨r', hr⟩ := fsts_mem.1 hm
    obtain ⟨_, e, t, xs, h, _⟩ := (hu id r').1 hr
    rw [hq] at h
    exact hne e t xs (Option.some.inj h)
   cases r with
   | row e t xs =>
    refine setH_mem H ups (get_lt hq) ((hu id _).2 ⟨hs, e, t, xs, hq, rfl⟩) fun q hq' => ?_
    obtain ⟨_, e', t', xs', h, rfl⟩ := (hu id q).1 hq'
    rw [hq] at h
    simp only [Option.some.injEq, Row.row.injEq] at h
    obtain ⟨rfl, rfl, h⟩ := h
    cases h
    rfl
   | _ => obtain ⟨e, t, xs, h⟩ := hS id hs; rw [hq] at h; simp at h
 ·refine .inl ⟨hs, ?_⟩
  rw [setH_other]
  intro hm
  obtain ⟨r, hr⟩ := fsts_mem.1 hm
  exact hs ((hu id r).1 hr).1
theorem castD_rd {t t' : Ty} (h : t' = t) {x : t'.D} {cs : List Value} (hr : Rd w ok t' x cs) : Rd w ok t (castD h x) cs := by
 subst h
 exact hr
theorem leafD_rd {rd : Nat → Option Row} {ok' : Nat → Prop} {t : Ty} {c : AV} {u : Value} {x : t.D} (hrd : ∀ i r, rd i = some r → H[i]? = some r) (h1 : ∀ k, ok k → ok' k)
  (hfz : ∀ id e t xs, c = .own id → H[id]? = some (.row e t xs) → Rd w ok' (.sl t) xs [m id]) (hc : rel1 w ok H m c u) (hl : leafD rd t c = some x) : Rd w ok' t x [u] := by
 have mv : ∀ {t : Ty} {x : t.D} {cs : List Value}, Rd w ok t x cs → Rd w ok' t x cs := fun h => Rd_move (fun k hk _ => ⟨rfl, h1 k hk⟩) h
 unfold leafD at hl
 cases c with
 | v t' y =>
  simp only at hl
  split at hl
  ·rename_i e
   simp only [Option.some.injEq] at hl
   subst hl
   exact castD_rd e (mv hc)
  ·simp at hl
 | nl =>
  cases t <;> simp only [reduceCtorEq] at hl
  obtain rfl := Option.some.inj hl
  have hc : u = .slice none 0 0 := hc
  subst hc
  simp only [Rd]
  exact ⟨none, 0, rfl, Lc0, fun _ => ⟨rfl, rfl⟩, fun h => absurd rfl h⟩
 | own id =>
  cases t <;> simp only [reduceCtorEq] at hl
  rename_i e
  cases hq : rd id with
  | none => simp [hq] at hl
  | some r =>
   have hH := hrd id r hq
   simp only [rel1, hH] at hc
   replace hc := hc.2
   cases r <;> simp only [hq, reduceCtorEq] at hl
   case row e' t' xs =>
    split at hl
    ·rename_i he
     simp only [Option.some.injEq] at hl
     subst hl
     have hc : u = m id := hc
     subst hc
     exact castD_rd (congrArg Ty.sl he) (hfz id e' t' xs rfl hH)
    ·simp at hl
   case frz t' xs =>
    split at hl
    ·rename_i he
     simp only [Option.some.injEq] at hl
     subst hl
     exact castD_rd (congrArg Ty.sl he) (mv hc)
    ·simp at hl
 | _ => simp at hl
theorem implode_rd {rd : Nat → Option Row} {ok' : Nat → Prop} (hrd : ∀ i r, rd i = some r → H[i]? = some r) (h1 : ∀ k, ok k → ok' k) :
  ∀ {t : Ty} {cs : List AV} {us : List Value} {x : t.D} {r : List AV}, (∀ id e t xs, AV.own id ∈ cs → H[id]? = some (.row e t xs) → Rd w ok' (.sl t) xs [m id]) →
  F2 (rel1 w ok H m) cs us → implode rd t cs = some (x, r) → ∃ u1 u2, us = u1 ++ u2 ∧ Rd w ok' t x u1 ∧ F2 (rel1 w ok H m) r u2 ∧ ∀ c ∈ r, c ∈ cs := by
 have leaf : ∀ {t : Ty} {cs : List AV} {us : List Value} {x : t.D} {r : List AV}, (∀ id e t xs, AV.own id ∈ cs → H[id]? = some (.row e t xs) → Rd w ok' (.sl t) xs [m id]) →
   F2 (rel1 w ok H m) cs us → (∃ c, cs = c :: r ∧ leafD rd t c = some x) → ∃ u1 u2, us = u1 ++ u2 ∧ Rd w ok' t x u1 ∧ F2 (rel1 w ok H m) r u2 ∧ ∀ c ∈ r, c ∈ cs := by
  rintro t cs us x r hfz hf ⟨c, rfl, hl⟩
  cases hf with
  | @cons _ u _ us' h1' hf => exact ⟨[u], us', rfl, leafD_rd hrd h1 (fun id e t xs hc hr => hfz id e t xs (by simp [hc]) hr) h1' hl, hf, fun c hc => by simp [hc]⟩
 intro t
 induction t with
 | pair a b iha ihb =>
  intro cs us x r hfz hf hi
  simp only [implode] at hi
  cases ha : implode rd a cs with
  | none => simp [ha] at hi
  | some q =>
   obtain ⟨y, cs'⟩ := q
   simp only [ha] at hi
   cases hb : implode rd b cs' with
   | none => simp [hb] at hi
   | some q =>
    obtain ⟨z, r'⟩ := q
    simp only [hb, Option.some.injEq, Prod.mk.injEq] at hi
    obtain ⟨rfl, rfl⟩ := hi
    obtain ⟨u1, u2, rfl, hr1, hf2, hm⟩ := iha hfz hf ha
    obtain ⟨v1, v2, rfl, hr2, hf3, hm'⟩ := ihb (fun id e t xs hc => hfz id e t xs (hm _ hc)) hf2 hb
    refine ⟨u1 ++ v1, v2, by simp, ?_, hf3, fun c hc => hm c (hm' c hc)⟩
    simp only [Rd]
    exact ⟨u1, v1, rfl, hr1, hr2⟩
 | int k =>
  intro cs us x r hfz hf hi
  cases cs with
  | nil => simp [implode] at hi
  | cons c cs =>
   simp only [implode] at hi
   cases hl : leafD rd (.int k) c with
   | none => simp [hl] at hi
   | some y => simp only [hl, Option.some.injEq, Prod.mk.injEq] at hi; obtain ⟨rfl, rfl⟩ := hi; exact leaf hfz hf ⟨c, rfl, hl⟩
 | bool =>
  intro cs us x r hfz hf hi
  cases cs with
  | nil => simp [implode] at hi
  | cons c cs =>
   simp only [implode] at hi
   cases hl : leafD rd .bool c with
   | none => simp [hl] at hi
   | some y => simp only [hl, Option.some.injEq, Prod.mk.injEq] at hi; obtain ⟨rfl, rfl⟩ := hi; exact leaf hfz hf ⟨c, rfl, hl⟩
 | str =>
  intro cs us x r hfz hf hi
  cases cs with
  | nil => simp [implode] at hi
  | cons c cs =>
   simp only [implode] at hi
   cases hl : leafD rd .str c with
   | none => simp [hl] at hi
   | some y => simp only [hl, Option.some.injEq, Prod.mk.injEq] at hi; obtain ⟨rfl, rfl⟩ := hi; exact leaf hfz hf ⟨c, rfl, hl⟩
 | sl t _ =>
  intro cs us x r hfz hf hi
  cases cs with
  | nil => simp [implode] at hi
  | cons c cs =>
   simp only [implode] at hi
   cases hl : leafD rd (.sl t) c with
   | none => simp [hl] at hi
   | some y => simp only [hl, Option.some.injEq, Prod.mk.injEq] at hi; obtain ⟨rfl, rfl⟩ := hi; exact leaf hfz hf ⟨c, rfl, hl⟩
theorem leaf_cells {x : AV} {u : Value} (hl : leafB x = true) (h : rel1 w ok H m x u) : u.cells = #[u] ∧ u.oneCell' = true := by
 have ptr : ∀ {p : Option Addr}, u = .pointer p → u.cells = #[u] ∧ u.oneCell' = true := by rintro p rfl; exact ⟨rfl, rfl⟩
 have sli : ∀ {p : Option Addr} {n c : Nat}, u = .slice p n c → u.cells = #[u] ∧ u.oneCell' = true := by rintro p n c rfl; exact ⟨rfl, rfl⟩
 cases x with
 | v t x =>
  have h : Rd w ok t x [u] := h
  cases t with
  | pair a b => simp [leafB] at hl
  | int k => simp only [Rd, List.cons.injEq, and_true] at h; subst h; exact ⟨rfl, rfl⟩
  | bool => simp only [Rd, List.cons.injEq, and_true] at h; subst h; exact ⟨rfl, rfl⟩
  | str => simp only [Rd, List.cons.injEq, and_true] at h; subst h; exact ⟨rfl, rfl⟩
  | sl t => simp only [Rd, List.cons.injEq, and_true] at h; obtain ⟨p, c, h, _⟩ := h; exact sli h
 | nl => exact sli h
 | own id => obtain ⟨⟨p, n, c, h⟩, _⟩ := h; exact sli h
 | pb id off => obtain ⟨⟨ad, h⟩, _⟩ := h; exact ptr h
 | pe id i off => obtain ⟨⟨ad, h⟩, _⟩ := h; exact ptr h
 | rp cs => obtain ⟨ad, us, h, _⟩ := h; exact ptr h
 | _ => simp [leafB] at hl
theorem cells_rel {x : AV} {u : Value} (hl : plainB x = true) (h : rel w ok H m x u) : F2 (rel1 w ok H m) (cellsOf x) u.cells.toList ∧ ∀ v ∈ u.cells.toList, v.oneCell' = true := by
 have one : leafB x = true → rel1 w ok H m x u → F2 (rel1 w ok H m) [x] u.cells.toList ∧ ∀ v ∈ u.cells.toList, v.oneCell' = true := by
  intro hl h
  obtain ⟨e, h1⟩ := leaf_cells hl h
  rw [e]
  exact ⟨.cons h .nil, by simpa using h1⟩
 cases x with
 | agg cs =>
  obtain ⟨us, rfl, hf⟩ := h
  have e : (Value.agg us.toArray).cells.toList = us := by simp [Value.cells]
  rw [e]
  refine ⟨hf, fun v hv => ?_⟩
  have hall : ∀ c ∈ cs, leafB c = true := by simpa [plainB, List.all_eq_true] using hl
  clear hl one e
  induction hf with
  | nil => simp at hv
  | cons h1 _ ih =>
   rcases List.mem_cons.1 hv with rfl | hv
   ·exact (leaf_cells (hall _ (by simp)) h1).2
   ·exact ih hv fun c hc => hall c (by simp [hc])
 | v t x => exact one hl h
 | nl => exact one hl h
 | own id => exact one hl h
 | pb id off => exact one hl h
 | pe id i off => exact one hl h
 | rp cs => exact one hl h
 | _ => simp [plainB, leafB] at hl
end
end Go.Proofs.YtlfdikofmfhefaaGreatDoor.Ev
set_option linter.unusedVariables false
set_option linter.unusedSimpArgs false
namespace Go.Proofs.YtlfdikofmfhefaaGreatDoor.Ev
open Go Go.RowKit
def poke {α : Type} (l : List α) (i : Nat) (v : List α) : List α := l.take i ++ v ++ l.drop (i + v.length)
theorem poke_len {α : Type} {l v : List α} {i : Nat} (h : i + v.length ≤ l.length) : (poke l i v).length = l.length := by
 simp [poke]; omega
theorem poke_take {α : Type} {l v : List α} {i n : Nat} (h : i + v.length ≤ n) (hn : n ≤ l.length) : (poke l i v).take n = poke (l.take n) i v := by
 unfold poke
 rw [List.append_assoc, List.append_assoc, List.take_append, List.length_take, Nat.min_eq_left (by omega), List.take_take, Nat.min_eq_right (by omega), List.take_append, List.take_take, Nat.min_eq_left (by omega)]
 congr 1
 rw [List.take_of_length_le (by omega : v.length ≤ n - i)]
 congr 1
 rw [List.drop_take]
 congr 1
 omega
theorem poke_flat {α : Type} {sz : Nat} {v : List α} {off : Nat} (hv : off + v.length ≤ sz) : ∀ {us : List (List α)} {i : Nat} {p : List α}, (∀ q ∈ us, q.length = sz) → us[i]? = some p →
  (us.set i (poke p off v)).flatten = poke us.flatten (i * sz + off) v
 | [], i, p, _, h => by simp at h
 | q :: us, 0, p, hl, h => by
  simp only [List.getElem?_cons_zero, Option.some.injEq] at h
  subst h
  have hq := hl q (by simp)
  simp only [List.set_cons_zero, List.flatten_cons, Nat.zero_mul, Nat.zero_add, poke]
  rw [List.take_append_of_le_length (by omega), List.drop_append_of_le_length (by omega)]
  simp
 | q :: us, i + 1, p, hl, h => by
  have hq := hl q (by simp)
  simp only [List.getElem?_cons_succ] at h
  have ih := poke_flat hv (us := us) (i := i) (fun q hq => hl q (by simp [hq])) h
  have e : ∀ (x y : List α) (n : Nat), x.length ≤ n → poke (x ++ y) n v = x ++ poke y (n - x.length) v := by
   intro x y n hn
   unfold poke
   rw [List.take_append, List.take_of_length_le hn, List.drop_append, List.drop_of_length_le (by omega), List.nil_append, List.append_assoc, List.append_assoc, List.append_assoc,
    show n + v.length - x.length = n - x.length + v.length by omega]
  rw [List.set_cons_succ, List.flatten_cons, List.flatten_cons, ih, e q _ _ (by rw [hq, Nat.add_mul]; omega), hq, show (i + 1) * sz + off - sz = i * sz + off by rw [Nat.add_mul]; omega]
theorem F2.poke {α β : Type} {r : α → β → Prop} {xs v : List α} {ys u : List β} (h : F2 r xs ys) (hv : F2 r v u) (i : Nat) : F2 r (poke xs i v) (poke ys i u) := by
 have := hv.length
 exact ((h.take i).append hv).append (this ▸ h.drop (i + v.length))
theorem pokeW_eq {cs new cs' : List AV} {off : Nat} (h : pokeW cs new off = some cs') : off + new.length ≤ cs.length ∧ cs' = poke cs off new := by
 unfold pokeW at h
 cases hb : Nat.ble (off + new.length) cs.length with
 | false => simp [hb] at h
 | true =>
  simp only [hb, cond_true, Option.some.injEq] at h
  exact ⟨Nat.le_of_ble_eq_true hb, h.symm⟩
section
variable {P : Program} {E : Env} {o : Oper} {a : Act} {w : World} {ok : Nat → Prop} {base : Nat} {H : List Row} {m : Nat → Value}
theorem below_setRow {b : Nat} (hb : base ≤ b) (cs : Array Value) : Below base w (w.setRow b cs) := ⟨rfl, rfl, rfl, by simp, fun k hk => setRow_other w b k cs (by omega)⟩
theorem storeVar_ok {T : Nat} {i : TInfo} (hT : TOk P T i) {b off : Nat} {t : Nat} {cur : Array Value} {u : Value} (hh : w.heap[b]? = some (.cells cur t (0, 0)))
  (hs : u.cells.size = i.ty.sz) (hl : off + u.cells.size ≤ cur.size) (h1 : ∀ v ∈ u.cells.toList, v.oneCell' = true) :
  (storeVar T ⟨b, off, none⟩ u).run P w = .ok () (w.setRow b (poke cur.toList off u.cells.toList).toArray) := by
 have := run_storeCells_at P b off t u.cells.toList 0 cur w hh (by simpa using hl) h1
 simp only [Nat.add_zero] at this
 simp only [storeVar, Sem.run_bind, hT.size, Result.andThen_ok, hs, ne_eq, not_true_eq_false, if_false, this, poke]
theorem done_store_pb {T id off : Nat} {X Y : Operand} {i : TInfo} {cs cs' : List AV} {x : AV} (hT : TOk P T i) (hH : HRel w ok base H m) (ho : o.op = .store T X Y)
  (hb : H[id]? = some (.box cs)) (hX : rel w ok H m (.pb id off) (a.eval X)) (hY : rel w ok H m x (a.eval Y)) (hp : plainB x = true) (hs : (cellsOf x).length = i.ty.sz)
  (hk : pokeW cs (cellsOf x) off = some cs') : Done P o a w ok base H m .un [(id, .box cs')] := by
 obtain ⟨hle, rfl⟩ := pokeW_eq hk
 obtain ⟨hf, h1⟩ := cells_rel hp hY
 obtain ⟨b, T', cur, hm, hbs, hh, hc⟩ := hH.hp id _ hb
 have hX' : rel1 w ok H m (.pb id off) (a.eval X) := hX
 simp only [rel1, hb] at hX'
 obtain ⟨_, b', hm', hX'⟩ := hX'
 rw [hm] at hm'
 simp only [Value.pointer.injEq, Option.some.injEq, Addr.mk.injEq, and_true] at hm'
 subst hm'
 have hlen := hc.length
 have hfl := hf.length
 have hsz : (a.eval Y).cells.size = i.ty.sz := by rw [← Array.length_toList, ← hfl, hs]
 have hrun := storeVar_ok (w := w) hT (off := off) hh hsz (by rw [hsz, ← hs]; rw [← Array.length_toList, ← hlen]; exact hle) h1
 have hset : (H.set id (.box (poke cs off (cellsOf x))))[id]? = some (.box (poke cs off (cellsOf x))) := by simp [get_lt hb]
 have hne : ∀ k, ok k → k ≠ b := fun k hk e => hH.sep id _ b hb rfl (by rw [hm]; rfl) (e ▸ hk)
 have hstep : HStep w (w.setRow b (poke cur.toList off (a.eval Y).cells.toList).toArray) ok ok H (H.set id (.box (poke cs off (cellsOf x)))) m m := by
  refine ⟨⟨by simp, fun k hk _ => ⟨setRow_other w b k _ (hne k hk), hk⟩⟩, fun j r hr hh' => ⟨rfl, ?_⟩⟩
  by_cases hj : j = id
  ·subst hj
   rw [hb] at hr
   simp only [Option.some.injEq] at hr
   subst hr
   exact ⟨_, hset, .box _ _⟩
  ·exact ⟨r, by rw [List.getElem?_set_ne (Ne.symm hj)]; exact hr, .same r⟩
 refine ⟨undef, _, ok, m, .inr ⟨?_, rfl⟩, below_setRow hbs _, ?_, hstep, trivial, fun k hk => .inl hk⟩
 ·rw [execOp.eq_def]
  simp [ho, hX', Instr.storeAt, Instr.sureAddr, hrun]
 ·show HRel _ ok base (H.set id _) m
  refine hH.upd (fun j => j = id) hstep ?_ (fun j hj => ⟨List.getElem?_set_ne (Ne.symm hj), rfl⟩) ?_ ?_ ?_ ?_
  ·intro k _ hne'
   refine setRow_other w b k _ fun e => ?_
   exact hne' id _ rfl hb rfl (by rw [hm, e]; rfl)
  ·rintro j r rfl hr
   rw [hset] at hr
   simp only [Option.some.injEq] at hr
   subst hr
   refine ⟨⟨b, T', _, hm, hbs, setRow_heap w b cur _ T' (0, 0) hh, ?_⟩, fun _ k hk => ⟨fun hok => hH.sep j _ k hb rfl hk hok, .inr ⟨j, _, rfl, hb, rfl, hk⟩⟩⟩
   exact ((hc.poke hf off).imp fun _ _ _ h => rel1_step hstep h)
  ·rintro _ _ _ _ _ rfl rfl _ _ _ _ _ _
   rfl
  ·exact fun k hk => by simpa using hH.lt k hk
  ·exact fun k hk _ => .inl hk
theorem box_new {nid T : Nat} {cs : List AV} {cells : Array Value} (hH : HRel w ok base H m) (hb : base ≤ w.heap.size) (hh : H[nid]? = some .hole) (hf : F2 (rel1 w ok H m) cs cells.toList) :
  ∃ m', Below base w (w.alloc (.cells cells T)) ∧ HRel (w.alloc (.cells cells T)) ok base (H.set nid (.box cs)) m' ∧
   HStep w (w.alloc (.cells cells T)) ok ok H (H.set nid (.box cs)) m m' ∧ rel (w.alloc (.cells cells T)) ok (H.set nid (.box cs)) m' (.pb nid 0) (.pointer (some ⟨w.heap.size, 0, none⟩)) := by
 have hbl : Below w.heap.size w (w.alloc (.cells cells T)) := (Below.refl _ _).alloc (Nat.le_refl _) _
 have hst := HStep.add (w := w) (m := m) (ok := ok) (ok' := ok) hh (.box cs) (.pointer (some ⟨w.heap.size, 0, none⟩)) (Moves.of_below hbl)
 refine ⟨updM m nid (.pointer (some ⟨w.heap.size, 0, none⟩)), (Below.refl base w).alloc hb _, hH.add hh (.box cs) _ hbl ?_ ?_, hst, ?_⟩
 ·exact ⟨w.heap.size, T, cells, rfl, hb, heap_alloc_new w _, hf.imp (fun _ _ _ h => rel1_step hst h)⟩
 ·intro _ k hk
  have hk : mblk (.pointer (some ⟨w.heap.size, 0, none⟩)) = some k := hk
  simp only [mblk, Option.some.injEq] at hk
  omega
 ·show rel1 (w.alloc (.cells cells T)) ok (H.set nid (.box cs)) (updM m nid (.pointer (some ⟨w.heap.size, 0, none⟩))) (.pb nid 0) _
  have : (H.set nid (.box cs))[nid]? = some (.box cs) := by simp [get_lt hh]
  simp only [rel1, this]
  exact ⟨⟨_, rfl⟩, w.heap.size, updM_same m nid _, rfl⟩
theorem vz_rel : ∀ {t : Ty} {vs r : List Value}, vzOk t vs = some r → ∃ v0, vs = v0 ++ r ∧ F2 (rel1 w ok H m) (zeroCells t) v0 ∧ Rd w ok t t.z v0 := by
 intro t
 induction t with
 | pair a b iha ihb =>
  intro vs r h
  simp only [vzOk] at h
  cases ha : vzOk a vs with
  | none => simp [ha] at h
  | some q =>
   simp only [ha] at h
   obtain ⟨v0, rfl, f0, r0⟩ := iha ha
   obtain ⟨v1, rfl, f1, r1⟩ := ihb h
   refine ⟨v0 ++ v1, by simp, f0.append f1, ?_⟩
   simp only [Rd]
   exact ⟨v0, v1, rfl, r0, r1⟩
 | int k =>
  intro vs r h
  cases vs with
  | nil => simp [vzOk] at h
  | cons u vs =>
   cases u <;> first | (simp [vzOk] at h; done) | skip
   rename_i k' n
   simp only [vzOk] at h
   split at h
   case isFalse => simp at h
   rename_i e
   subst e
   split at h
   case isFalse => simp at h
   rename_i e
   subst e
   simp only [Option.some.injEq] at h
   subst h
   have : Rd w ok (.int k') (0 : Int) [.int k' 0] := by simp [Rd]
   exact ⟨[_], rfl, .cons this .nil, this⟩
 | bool =>
  intro vs r h
  cases vs with
  | nil => simp [vzOk] at h
  | cons u vs =>
   cases u <;> first | (simp [vzOk] at h; done) | skip
   rename_i b
   simp only [vzOk] at h
   cases b with
   | true => simp at h
   | false =>
    simp only [cond_false, Option.some.injEq] at h
    subst h
    have : Rd w ok .bool false [.bool false] := by simp [Rd]
    exact ⟨[_], rfl, .cons this .nil, this⟩
 | str =>
  intro vs r h
  cases vs with
  | nil => simp [vzOk] at h
  | cons u vs =>
   cases u <;> first | (simp [vzOk] at h; done) | skip
   rename_i s
   simp only [vzOk] at h
   split at h
   case h_2 => simp at h
   rename_i hs
   simp only [Option.some.injEq] at h
   subst h
   have hs' : s = (⟨#[]⟩ : ByteArray) := by
    cases s with
    | mk d => congr; exact Array.ext' (by simpa using hs)
   subst hs'
   have : Rd w ok .str (⟨#[]⟩ : ByteArray) [.string ⟨#[]⟩] := by simp [Rd]
   exact ⟨[_], rfl, .cons this .nil, this⟩
 | sl t _ =>
  intro vs r h
  have key : ∃ r', vs = .slice none 0 0 :: r' ∧ r' = r := by
   cases vs with
   | nil => simp [vzOk] at h
   | cons u vs =>
    cases u <;> first | (simp [vzOk] at h; done) | skip
    rename_i p n c
    cases p with
    | some p => simp [vzOk] at h
    | none =>
     cases n with
     | succ n => simp [vzOk] at h
     | zero =>
      cases c with
      | succ c => simp [vzOk] at h
      | zero => simp only [vzOk, Option.some.injEq] at h; exact ⟨vs, rfl, h⟩
  obtain ⟨r', rfl, rfl⟩ := key
  refine ⟨[_], rfl, .cons rfl .nil, ?_⟩
  simp only [Rd]
  exact ⟨none, 0, rfl, Lc0, fun _ => ⟨rfl, rfl⟩, fun h => absurd rfl h⟩
theorem done_alloc {T nid : Nat} {i : TInfo} (hT : TOk P T i) (hH : HRel w ok base H m) (hb : base ≤ w.heap.size) (hh : H[nid]? = some .hole) (ho : o.op = .alloc T) :
  Done P o a w ok base H m (.pb nid 0) [(nid, .box (zeroCells i.ty))] := by
 obtain ⟨f, z, hf, hs, _, hz, hv⟩ := hT.inf
 obtain ⟨v0, e, f0, _⟩ := vz_rel (w := w) (ok := ok) (H := H) (m := m) hv
 rw [List.append_nil] at e
 obtain ⟨m', h1, h2, h3, h4⟩ := box_new (T := T) (cells := z.cells) hH hb hh (by rw [e]; exact f0)
 refine ⟨_, _, ok, m', .inl ?_, h1, h2, h3, h4, fun k hk => .inl hk⟩
 rw [execOp.eq_def]
 simp [ho, Instr.alloc, zeroValue, typeInfo, hf, hz, newVar, newRow]
theorem done_box {T nid : Nat} {X : Operand} {x : AV} (hH : HRel w ok base H m) (hb : base ≤ w.heap.size) (hh : H[nid]? = some .hole) (ho : o.op = .box T X)
  (hX : rel w ok H m x (a.eval X)) (hp : plainB x = true) : Done P o a w ok base H m (.pb nid 0) [(nid, .box (cellsOf x))] := by
 obtain ⟨m', h1, h2, h3, h4⟩ := box_new (T := T) (cells := (a.eval X).cells) hH hb hh (cells_rel hp hX).1
 refine ⟨_, _, ok, m', .inl ?_, h1, h2, h3, h4, fun k hk => .inl hk⟩
 rw [execOp.eq_def]
 simp [ho, Instr.box, newVar, newRow]
theorem toD_rd {rd : Nat → Option Row} {ok' : Nat → Prop} {t : Ty} {x : AV} {u : Value} {y : t.D} (hrd : ∀ i r, rd i = some r → H[i]? = some r) (h1 : ∀ k, ok k → ok' k)
  (hfz : ∀ id e t xs, AV.own id ∈ cellsOf x → H[id]? = some (.row e t xs) → Rd w ok' (.sl t) xs [m id]) (hx : rel w ok H m x u) (h : toD rd t x = some y) : Rd w ok' t y u.cells.toList := by
 unfold toD at h
 cases hp : plainB x with
 | false => simp [hp] at h
 | true =>
  simp only [hp, cond_true] at h
  cases hi : implode rd t (cellsOf x) with
  | none => simp [hi] at h
  | some q =>
   obtain ⟨z, r⟩ := q
   cases r with
   | cons c r => simp [hi] at h
   | nil =>
    simp only [hi, Option.some.injEq] at h
    subst h
    obtain ⟨u1, u2, e, hr, hf, _⟩ := implode_rd hrd h1 hfz (cells_rel hp hx).1 hi
    cases hf
    rw [List.append_nil] at e
    rw [e]
    exact hr
end
end Go.Proofs.YtlfdikofmfhefaaGreatDoor.Ev
set_option linter.unusedVariables false
set_option linter.unusedSimpArgs false
namespace Go.Proofs.YtlfdikofmfhefaaGreatDoor.Ev
open Go Go.RowKit
section
variable {P : Program} {E : Env} {o : Oper} {a : Act} {w : World} {ok : Nat → Prop} {base : Nat} {H : List Row} {m : Nat → Value}
theorem ownsRow_setRow {b e sz n cap off : Nat} {vs : List Value} {xs : List Value} (h : w.ownsRow base e sz (.slice (some ⟨b, 0, none⟩) n cap) n xs) (hl : off + vs.length ≤ n * sz) :
  ∃ cur, w.heap[b]? = some (.cells cur e (0, 0)) ∧ off + vs.length ≤ cur.size ∧ base ≤ b ∧
   (w.setRow b (poke cur.toList off vs).toArray).ownsRow base e sz (.slice (some ⟨b, 0, none⟩) n cap) n (poke xs off vs) := by
 rcases h.2 with ⟨h', _⟩ | ⟨g, cap', cur, h', hb, hg, hnc, hcm, hcs, ht⟩
 ·simp at h'
 ·simp only [Value.slice.injEq, Option.some.injEq, Addr.mk.injEq, and_true, true_and] at h'
  obtain ⟨rfl, rfl⟩ := h'
  have hle : n * sz ≤ cur.size := by rw [hcs]; exact Nat.mul_le_mul_right _ hnc
  have hle' : n * sz ≤ cur.toList.length := by simpa using hle
  refine ⟨cur, hg, Nat.le_trans hl hle, hb, ?_, .inr ⟨b, cap, _, rfl, hb, setRow_heap w b cur _ e (0, 0) hg, hnc, hcm, ?_, ?_⟩⟩
  ·rw [poke_len (by rw [h.1]; exact hl)]; exact h.1
  ·rw [← hcs, List.size_toArray, poke_len (by omega), Array.length_toList]
  ·rw [← ht]
   exact poke_take hl hle'
theorem F2_set {t : Ty} {xs : List t.D} {us : List (List Value)} {i : Nat} {y : t.D} {p : List Value} (h : F2 (Rd w ok t) xs us) (hr : Rd w ok t y p) : F2 (Rd w ok t) (xs.set i y) (us.set i p) := h.set i hr
theorem done_store_pe {T id i off e : Nat} {t : Ty} {X Y : Operand} {iT : TInfo} {xs : List t.D} {cs' : List AV} {x : AV} {y : t.D} {rd : Nat → Option Row} (hT : TOk P T iT) (hH : HRel w ok base H m) (ho : o.op = .store T X Y)
  (hrd : ∀ j r, rd j = some r → H[j]? = some r) (hrd' : ∀ j, AV.own j ∈ cellsOf x → rd j = H[j]?)
  (hb : H[id]? = some (.row e t xs)) (hX : rel w ok H m (.pe id i off) (a.eval X)) (hY : rel w ok H m x (a.eval Y)) (hp : plainB x = true) (hs : (cellsOf x).length = iT.ty.sz)
  (hk : pokeW (explode t (xs.getD i t.z)) (cellsOf x) off = some cs') (hy : toD rd t (.agg cs') = some y) (hid : AV.own id ∉ cellsOf x) :
  Done P o a w ok base H m .un (frz rd x ++ [(id, .row e t (xs.set i y))]) := by
 obtain ⟨hle, rfl⟩ := pokeW_eq hk
 -- the own rows in what is stored
 have hFr := freeze_ok (fun j => AV.own j ∈ cellsOf x ∧ ∃ e t xs, H[j]? = some (.row e t xs)) hH (H' := setH H (frz rd x)) (frz_at (l := []) _ (fun j r => by
   rw [frz_mem]
   constructor
   ·rintro ⟨h1, e', t', xs', h2, h3⟩
    rw [hrd' j h1] at h2
    exact ⟨⟨h1, e', t', xs', h2⟩, e', t', xs', h2, h3⟩
   ·rintro ⟨⟨h1, _⟩, h2⟩; exact ⟨h1, by rw [hrd' j h1]; exact h2⟩) (fun j hj => hj.2))
 obtain ⟨hH1, hst1⟩ := hFr
 generalize hok1 : okF w ok (fun j => AV.own j ∈ cellsOf x ∧ ∃ e t xs, H[j]? = some (.row e t xs)) H m = ok1 at hH1 hst1
 have hbd : ∀ k, ok1 k → ok k ∨ base ≤ k := by rw [← hok1]; exact okF_bd hH
 obtain ⟨hf, h1⟩ := cells_rel hp hY
 have hid1 : (setH H (frz rd x))[id]? = some (.row e t xs) := by
  rw [setH_other, hb]
  intro hm
  obtain ⟨r, hr⟩ := fsts_mem.1 hm
  exact hid (frz_mem.1 hr).1
 obtain ⟨us, hus, hown⟩ := hH1.hp id _ hid1
 have hX' : rel1 w ok H m (.pe id i off) (a.eval X) := hX
 simp only [rel1, hb] at hX'
 obtain ⟨_, hi, b, n, c, hm, hX'⟩ := hX'
 rw [hm] at hown
 have hn : n = xs.length := by
  rcases hown.2 with ⟨h', _⟩ | ⟨g, cap', cur, h', _⟩
  ·simp at h'
  ·simp only [Value.slice.injEq] at h'; exact h'.2.1
 subst hn
 obtain ⟨p, hp', hrp⟩ := hus.get (List.getElem?_eq_getElem hi)
 have hgd : xs.getD i t.z = xs[i] := by simp [List.getD, List.getElem?_eq_getElem hi]
 rw [hgd] at hle hy
 have hpl := Rd_len hrp
 have hel := (explode_rel hrp).length
 have hfl := hf.length
 have hol : off + (a.eval Y).cells.toList.length ≤ t.sz := by rw [← hfl, ← hpl, ← hel]; exact hle
 -- the element that is written
 have hey : Rd w ok1 t y (poke p off (a.eval Y).cells.toList) := by
  have hxe : rel w ok H m (.agg (poke (explode t xs[i]) off (cellsOf x))) (.agg (poke p off (a.eval Y).cells.toList).toArray) := by
   refine ⟨poke p off (a.eval Y).cells.toList, rfl, ?_⟩
   obtain ⟨us0, hus0, hown0⟩ := hH.hp id _ hb
   rw [hm] at hown0
   obtain ⟨p0, hp0, hrp0⟩ := hus0.get (List.getElem?_eq_getElem hi)
   have : p0 = p := by
    obtain ⟨r0, hr0⟩ := flat_drop hus0.lens hp0
    obtain ⟨r1, hr1⟩ := flat_drop hus.lens hp'
    have hfl0 : us0.flatten = us.flatten := by
     rcases hown0.2 with ⟨h', _⟩ | ⟨g, cap', cur, h', _, hg, _, _, _, ht⟩
     ·simp at h'
     ·rcases hown.2 with ⟨h'', _⟩ | ⟨g2, cap2, cur2, h'', _, hg2, _, _, _, ht2⟩
      ·simp at h''
      ·simp only [Value.slice.injEq, Option.some.injEq, Addr.mk.injEq, and_true, true_and] at h' h''
       obtain ⟨rfl, rfl⟩ := h'
       obtain ⟨rfl, rfl⟩ := h''
       rw [hg] at hg2
       simp only [Option.some.injEq, Obj.cells.injEq] at hg2
       rw [← ht, ← ht2, hg2.1]
    rw [hfl0, hr1] at hr0
    have := Rd_len hrp0
    exact (List.append_inj_left hr0.symm (by rw [this, hpl]))
   subst this
   exact ((explode_rel hrp0).imp fun _ _ _ h => rel0_rel1 h).poke hf off
  have := toD_rd (ok' := ok1) hrd (fun k hk => by rw [← hok1]; exact .inl hk) (fun j e' t' xs' hj hr => ?_) hxe hy
  ·simpa [Value.cells] using this
  ·have hj' : AV.own j ∈ cellsOf x := by
    have hj : AV.own j ∈ poke (explode t xs[i]) off (cellsOf x) := hj
    unfold poke at hj
    have hno : ∀ (t : Ty) (z : t.D), AV.own j ∉ explode t z := by
     intro t
     induction t with
     | pair a b iha ihb => intro z; simp only [explode, List.mem_append, not_or]; exact ⟨iha _, ihb _⟩
     | _ => intro z; simp [explode]
    rcases List.mem_append.1 hj with hj | hj
    ·rcases List.mem_append.1 hj with hj | hj
     ·exact absurd (List.mem_of_mem_take hj) (hno _ _)
     ·exact hj
    ·exact absurd (List.mem_of_mem_drop hj) (hno _ _)
   exact row_rd hH hr (fun k hk => by rw [← hok1]; exact .inl hk) fun k hk => by rw [← hok1]; exact .inr ⟨j, _, ⟨hj', _, _, _, hr⟩, hr, rfl, hk⟩
 -- the store
 have hix : i * t.sz + off + (a.eval Y).cells.toList.length ≤ xs.length * t.sz := by
  have : (i + 1) * t.sz ≤ xs.length * t.sz := Nat.mul_le_mul_right _ hi
  rw [Nat.add_mul] at this
  omega
 obtain ⟨cur, hh, hcl, hbs, hown'⟩ := ownsRow_setRow (vs := (a.eval Y).cells.toList) hown hix
 have hsz : (a.eval Y).cells.size = iT.ty.sz := by rw [← Array.length_toList, ← hfl, hs]
 have hrun := storeVar_ok (w := w) hT (off := i * t.sz + off) hh hsz (by simpa using hcl) h1
 rw [← poke_flat hol hus.lens hp'] at hown'
 generalize hW : w.setRow b (poke cur.toList (i * t.sz + off) (a.eval Y).cells.toList).toArray = W at hrun hown'
 have hset : ((setH H (frz rd x)).set id (.row e t (xs.set i y)))[id]? = some (.row e t (xs.set i y)) := by simp [get_lt hid1]
 have hne : ∀ k, ok1 k → k ≠ b := fun k hk e' => hH1.sep id _ b hid1 rfl (by rw [hm]; rfl) (e' ▸ hk)
 have hmv : Moves w W ok1 ok1 := by subst hW; exact ⟨by simp, fun k hk _ => ⟨setRow_other w b k _ (hne k hk), hk⟩⟩
 have hstep : HStep w W ok1 ok1 (setH H (frz rd x)) ((setH H (frz rd x)).set id (.row e t (xs.set i y))) m m := by
  refine ⟨hmv, fun j r hr hh' => ⟨rfl, ?_⟩⟩
  by_cases hj : j = id
  ·subst hj
   rw [hid1] at hr
   simp only [Option.some.injEq] at hr
   subst hr
   exact ⟨_, hset, .row e t xs _ (by simp)⟩
  ·exact ⟨r, by rw [List.getElem?_set_ne (Ne.symm hj)]; exact hr, .same r⟩
 refine ⟨undef, W, ok1, m, .inr ⟨?_, rfl⟩, hW ▸ below_setRow hbs _, ?_, ?_, trivial, hbd⟩
 ·rw [execOp.eq_def]
  simp [ho, hX', Instr.storeAt, Instr.sureAddr, hrun]
 ·rw [setH_append]
  show HRel W ok1 base ((setH H (frz rd x)).set id _) m
  refine hH1.upd (fun j => j = id) hstep ?_ (fun j hj => ⟨List.getElem?_set_ne (Ne.symm hj), rfl⟩) ?_ ?_ ?_ ?_
  ·intro k _ hne'
   rw [← hW]
   refine setRow_other w b k _ fun e' => ?_
   exact hne' id _ rfl hid1 rfl (by rw [hm, e']; rfl)
  ·rintro j r rfl hr
   rw [hset] at hr
   simp only [Option.some.injEq] at hr
   subst hr
   refine ⟨⟨us.set i (poke p off (a.eval Y).cells.toList), F2_set (hus.imp fun _ _ _ h => hmv.rd h) (hmv.rd hey), by rw [hm, List.length_set]; exact hown'⟩, fun _ k hk => ⟨fun hok => hH1.sep j _ k hid1 rfl hk hok, .inr ⟨j, _, rfl, hid1, rfl, hk⟩⟩⟩
  ·rintro _ _ _ _ _ rfl rfl _ _ _ _ _ _
   rfl
  ·exact fun k hk => Nat.lt_of_lt_of_le (hH1.lt k hk) hmv.sz
  ·exact fun k hk _ => .inl hk
 ·rw [setH_append]
  exact hst1.trans hstep
end
end Go.Proofs.YtlfdikofmfhefaaGreatDoor.Ev
