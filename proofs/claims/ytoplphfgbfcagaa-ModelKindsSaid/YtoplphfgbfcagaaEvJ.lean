/-
Structs that are built and read; elements of what is frozen; slices of own rows: as the machine does them.
Conditions: as in the parts before.
-/
import Derived.Test.YtoplphfgbfcagaaEvI
import Derived.Laws.Tables
set_option linter.unusedVariables false
set_option linter.unusedSimpArgs false
namespace Go.Proofs.Ytoplphfgbfcagaa.Ev
open Go Go.RowKit

section
variable {P : Program} {E : Env} {o : Oper} {a : Act} {w : World} {ok : Nat → Prop} {base : Nat} {H : List Row} {m : Nat → Value}

theorem fold_poke {off : Nat} {l : List Value} {cs : Array Value} (h : off + l.length ≤ cs.size) :
    ((l.zipIdx 0).foldl (fun cs (x : Value × Nat) => cs.setIfInBounds (off + x.2) x.1) cs).toList = poke cs.toList off l := by
  obtain ⟨h1, h2⟩ := Great.foldl_set off l 0 cs
  apply List.ext_getElem?
  intro k
  have := h2 k
  rw [Array.getElem?_toList, this]
  unfold poke
  by_cases hk : k < off
  · rw [if_neg (by omega), List.append_assoc, List.getElem?_append_left (by simp; omega), List.getElem?_take_of_lt hk]
    simp
  · by_cases hk2 : k < off + l.length
    · rw [if_pos ⟨by omega, by omega, by omega⟩, List.append_assoc, List.getElem?_append_right (by simp; omega), List.getElem?_append_left (by simp; omega)]
      congr 1
      simp; omega
    · rw [if_neg (by omega), List.getElem?_append_right (by simp; omega), List.getElem?_drop]
      rw [Array.getElem?_toList]
      congr 1
      simp; omega
theorem fill_step {place : Nat → Option (Nat × Nat)} {cells : Array Value} {i off : Nat} {v : Value} {rest : List (Nat × Value)} (hp : place i = some (off, v.cells.size)) (h : off + v.cells.size ≤ cells.size) :
    ∃ cells' : Array Value, cells'.toList = poke cells.toList off v.cells.toList ∧ Instr.fill place cells ((i, v) :: rest) = Instr.fill place cells' rest := by
  refine ⟨_, fold_poke (off := off) (l := v.cells.toList) (cs := cells) (by simpa using h), ?_⟩
  conv => lhs; unfold Instr.fill
  simp only [hp]
  rw [if_neg (by simp; omega)]
  congr 1
  rw [← Array.foldl_toList, Array.toList_zipIdx]
theorem places_of {fs : List Field} (h : fs.all (fun f => (P.info? f.type).isSome) = true) :
    ∃ places, fs.mapM (fun f => (P.info? f.type).map fun i => (f.offset, i.size)) = some places ∧ ∀ (i : Nat) (f : Field) (fi : TypeInfo), fs[i]? = some f → P.info? f.type = some fi → places[i]? = some (f.offset, fi.size) := by
  induction fs with
  | nil => exact ⟨[], by simp, by simp⟩
  | cons f fs ih =>
    simp only [List.all_cons, Bool.and_eq_true] at h
    obtain ⟨pl, h1, h2⟩ := ih h.2
    obtain ⟨fi, hfi⟩ := Option.isSome_iff_exists.1 h.1
    refine ⟨(f.offset, fi.size) :: pl, by simp [List.mapM_cons, hfi, h1], fun i g gi hi hg => ?_⟩
    cases i with
    | zero =>
      simp only [List.getElem?_cons_zero, Option.some.injEq] at hi
      subst hi
      rw [hfi] at hg
      simp only [Option.some.injEq] at hg
      subst hg
      rfl
    | succ i => exact h2 i g gi (by simpa using hi) hg
theorem fillW_ok {fl : List (Nat × Nat)} {place : Nat → Option (Nat × Nat)} (hE : TyOk P E) (hpl : ∀ i off T ti, fl[i]? = some (off, T) → TOk P T ti → place i = some (off, ti.ty.sz)) :
    ∀ {ix : List Nat} {as : List AV} {vs : List Value} {cs cs' : List AV} {us : Array Value}, (∀ x ∈ as, plainB x = true) → F2 (rel w ok H m) as vs → F2 (rel1 w ok H m) cs us.toList →
      fillW fl E.tt (ix.zip as) cs = some cs' → ∃ us', Instr.fill place us (ix.zip vs) = some us' ∧ F2 (rel1 w ok H m) cs' us'.toList
  | [], as, vs, cs, cs', us, _, _, hc, h => by
    simp only [List.zip_nil_left, fillW, Option.some.injEq] at h
    subst h
    exact ⟨us, by simp [Instr.fill], hc⟩
  | i :: ix, [], _, cs, cs', us, _, .nil, hc, h => by
    simp only [List.zip_nil_right, fillW, Option.some.injEq] at h
    subst h
    exact ⟨us, by simp [Instr.fill], hc⟩
  | i :: ix, x :: as, _, cs, cs', us, hp, @F2.cons _ _ _ _ v _ vs hx hf, hc, h => by
    simp only [List.zip_cons_cons, fillW] at h
    split at h
    case h_2 => simp at h
    rename_i off T hi
    split at h
    case h_2 => simp at h
    rename_i ti hti
    cases hb : Nat.beq ti.ty.sz (cellsOf x).length with
    | false => simp [hb] at h
    | true =>
      simp only [hb, cond_true] at h
      split at h
      case h_2 => simp at h
      rename_i cs1 hcs
      obtain ⟨hle, rfl⟩ := pokeW_eq hcs
      have hb := Nat.eq_of_beq_eq_true hb
      have hxc := (cells_rel (hp x (by simp)) hx).1
      have hxl := hxc.length
      have hsz : v.cells.size = ti.ty.sz := by rw [← Array.length_toList, ← hxl, hb]
      have hcl := hc.length
      obtain ⟨us1, e1, e2⟩ := fill_step (place := place) (cells := us) (i := i) (off := off) (v := v) (rest := ix.zip vs) (by rw [hsz]; exact hpl i off T ti hi (hE T ti hti))
        (by rw [hsz, hb, ← Array.length_toList, ← hcl]; exact hle)
      obtain ⟨us', h1, h2⟩ := fillW_ok (place := place) hE hpl (ix := ix) (us := us1) (fun y hy => hp y (by simp [hy])) hf (by rw [e1]; exact hc.poke hxc off) h
      exact ⟨us', by rw [List.zip_cons_cons, e2, h1], h2⟩

theorem zip_eval {f : Operand → Value} : ∀ (l : List (Nat × Operand)), l.map (fun p => (p.1, f p.2)) = (l.map (·.1)).zip (l.map fun p => f p.2)
  | [] => rfl
  | x :: l => by simp [zip_eval l]
theorem done_build {T : Nat} {parts : Array (Nat × Operand)} {i : TInfo} {as cs : List AV} (hE : TyOk P E) (hT : TOk P T i) (hg : i.agg = true) (hH : HRel w ok base H m) (ho : o.op = .build T parts)
    (ha : F2 (rel w ok H m) as (parts.toList.map fun p => a.eval p.2)) (hpl : ∀ x ∈ as, plainB x = true) (hx : fillW i.fl E.tt ((parts.toList.map (·.1)).zip as) (zeroCells i.ty) = some cs) :
    Done P o a w ok base H m (.agg cs) [] := by
  obtain ⟨fs, hu, hfl, hall⟩ := hT.ag hg
  obtain ⟨fi, z, hinf, hs1, hs2, hz, hv⟩ := hT.inf
  obtain ⟨v0, e0, hf0, _⟩ := vz_rel (w := w) (ok := ok) (H := H) (m := m) hv
  rw [List.append_nil] at e0
  obtain ⟨places, hp1, hp2⟩ := places_of hall
  obtain ⟨us', h1, h2⟩ := fillW_ok (place := (places.toArray[·]?)) hE (fun j off T' ti hj hti => by
    rw [← hfl, List.getElem?_map] at hj
    cases hq : fs.toList[j]? with
    | none => simp [hq] at hj
    | some f =>
      simp only [hq, Option.map_some, Option.some.injEq, Prod.mk.injEq] at hj
      obtain ⟨rfl, rfl⟩ := hj
      obtain ⟨gi, gz, hgi, hgs, _⟩ := hti.inf
      simpa [hgs] using hp2 j f gi hq hgi) (ix := parts.toList.map (·.1)) (us := z.cells) hpl ha (by rw [e0]; exact hf0) hx
  have hb : P.built T ((parts.map fun x => (x.1, a.eval x.2)).toList) = some us' := by
    unfold Program.built
    simp only [hinf, hu, hz, hp1]
    rw [Array.toList_map, zip_eval]
    exact h1
  refine Done.pure (u := .agg us') hH ?_ ⟨us'.toList, by simp, h2⟩
  rw [execOp.eq_def]
  have := run_build (P := P) w T _ us' hb
  simp [ho, this]

/-- A part of what an aggregate holds. -/
theorem part_ok {T : Nat} {cs : List AV} {us : Array Value} {off : Nat} {av : AV} (hE : TyOk P E) (hf : F2 (rel1 w ok H m) cs us.toList) (ht : takeW E T (cs.drop off) = some av) :
    ∃ u, (part T us off).run P w = .ok u w ∧ rel2 w ok H m av u := by
  unfold takeW at ht
  cases hi : E_ti E T with
  | none => simp [hi] at ht
  | some i =>
    have hT := hE T i hi
    have hl' := hf.length
    simp only [hi] at ht
    cases hg : i.agg with
    | true =>
      simp only [hg, cond_true] at ht
      cases hl : Nat.ble i.ty.sz (cs.drop off).length with
      | false => simp only [hl, cond_false, reduceCtorEq] at ht
      | true =>
        simp only [hl, cond_true, Option.some.injEq] at ht
        subst ht
        refine ⟨.agg (us.extract off (off + i.ty.sz)), by simp [part, hT.isAgg, hg, hT.size], (us.extract off (off + i.ty.sz)).toList, by rw [Array.toArray_toList], ?_⟩
        rw [Array.toList_extract, List.extract_eq_take_drop, Nat.add_sub_cancel_left]
        exact (hf.drop off).take _
    | false =>
      simp only [hg, cond_false] at ht
      rw [List.head?_drop] at ht
      obtain ⟨u, hu, hr⟩ := hf.get ht
      refine ⟨u, ?_, rel1_rel2 hr⟩
      rw [Array.getElem?_toList] at hu
      simp only [part, Sem.run_bind, hT.isAgg, hg, Result.andThen_ok, Bool.false_eq_true, if_false]
      rw [hu]
      rfl
theorem done_field {S f off T : Nat} {X : Operand} {i : TInfo} {cs : List AV} {av : AV} (hE : TyOk P E) (hH : HRel w ok base H m) (ho : o.op = .field S X f) (hS : TOk P S i) (hg : i.agg = true) (hf : i.fl[f]? = some (off, T))
    (hX : rel w ok H m (.agg cs) (a.eval X)) (ht : takeW E T (cs.drop off) = some av) : Done P o a w ok base H m av [] := by
  obtain ⟨fs, fd, hu, hq, rfl, rfl⟩ := field_of hS hg hf
  obtain ⟨us, hX, hfu⟩ := hX
  obtain ⟨u, hr, hu'⟩ := part_ok (us := us.toArray) hE (by simpa using hfu) ht
  refine Done.pure (u := u) hH ?_ (rel2_rel hu')
  rw [execOp.eq_def]
  simp [ho, hX, Instr.field, run_underlying hu, hq, asAgg, hr]
end
end Go.Proofs.Ytoplphfgbfcagaa.Ev
