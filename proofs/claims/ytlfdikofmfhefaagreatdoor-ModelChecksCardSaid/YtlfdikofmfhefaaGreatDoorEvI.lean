/-
Rows that are made, read, cut and appended to: as the machine does them.
Conditions: as in the parts before.
Structs that are built and read; elements of what is frozen; slices of own rows: as the machine does them.
Conditions: as in the parts before.
One operation, whichever it is: what the evaluator's step says, the machine does.
Conditions: the table of types is the program's; the operands' values stand in the relation; a place for a new row is kept free.
-/
import Derived.Test.YtlfdikofmfhefaaGreatDoorEvE
import Derived.Laws.Tables
set_option linter.unusedVariables false
set_option linter.unusedSimpArgs false
namespace Go.Proofs.YtlfdikofmfhefaaGreatDoor.Ev
open Go Go.RowKit
section
variable {P : Program} {E : Env} {o : Oper} {a : Act} {w : World} {ok : Nat → Prop} {base : Nat} {H : List Row} {m : Nat → Value}
theorem row_new {nid e n : Nat} {t : Ty} {xs : List t.D} {us : List (List Value)} {u : Value} {w' : World} (hH : HRel w ok base H m) (hh : H[nid]? = some .hole)
  (hbl : Below w.heap.size w w') (hf : F2 (Rd w' ok t) xs us) (ho : w'.ownsRow base e t.sz u n us.flatten) (hn : n = xs.length) (hu : ∀ k, mblk u = some k → w.heap.size ≤ k) :
  ∃ m', HRel w' ok base (H.set nid (.row e t xs)) m' ∧ HStep w w' ok ok H (H.set nid (.row e t xs)) m m' ∧ rel w' ok (H.set nid (.row e t xs)) m' (.own nid) u := by
 subst hn
 refine ⟨updM m nid u, hH.add hh _ u hbl ⟨us, hf, ho⟩ (fun _ => hu), HStep.add hh _ u (Moves.of_below hbl), ?_⟩
 show rel1 w' ok (H.set nid (.row e t xs)) (updM m nid u) (.own nid) u
 have : (H.set nid (.row e t xs))[nid]? = some (.row e t xs) := by simp [get_lt hh]
 simp only [rel1, this]
 refine ⟨?_, (updM_same m nid u).symm⟩
 rcases ho.2 with ⟨rfl, _⟩ | ⟨g, cap, cur, rfl, _⟩
 ·exact ⟨none, 0, 0, rfl⟩
 ·exact ⟨_, _, _, rfl⟩
theorem toDs_rd {rd : Nat → Option Row} {ok' : Nat → Prop} {t : Ty} (hrd : ∀ i r, rd i = some r → H[i]? = some r) (h1 : ∀ k, ok k → ok' k) :
  ∀ {as : List AV} {vs : List Value} {xs : List t.D}, (∀ id e t xs, (∃ x ∈ as, AV.own id ∈ cellsOf x) → H[id]? = some (.row e t xs) → Rd w ok' (.sl t) xs [m id]) →
  F2 (rel w ok H m) as vs → toDs rd t as = some xs → F2 (Rd w ok' t) xs (vs.map fun v => v.cells.toList) ∧ ∀ v ∈ vs, v.cells.size = t.sz
 | [], _, xs, _, .nil, h => by simp only [toDs, Option.some.injEq] at h; subst h; exact ⟨.nil, by simp⟩
 | x :: as, _, xs, hfz, @F2.cons _ _ _ _ u _ us hx hf, h => by
  simp only [toDs] at h
  cases hy : toD rd t x with
  | none => simp [hy] at h
  | some y =>
   cases hys : toDs rd t as with
   | none => simp [hy, hys] at h
   | some ys =>
    simp only [hy, hys, Option.some.injEq] at h
    subst h
    have hr := toD_rd hrd h1 (fun id e t xs hm hq => hfz id e t xs ⟨x, by simp, hm⟩ hq) hx hy
    obtain ⟨ih1, ih2⟩ := toDs_rd hrd h1 (fun id e t xs ⟨z, hz, hm⟩ hq => hfz id e t xs ⟨z, by simp [hz], hm⟩ hq) hf hys
    refine ⟨.cons hr ih1, fun v hv => ?_⟩
    rcases List.mem_cons.1 hv with rfl | hv
    ·have := Rd_len hr; simpa using this
    ·exact ih2 v hv
theorem toDs_plain {rd : Nat → Option Row} {t : Ty} : ∀ {as : List AV} {xs : List t.D}, toDs rd t as = some xs → xs.length = as.length ∧ ∀ x ∈ as, plainB x = true
 | [], xs, h => by simp only [toDs, Option.some.injEq] at h; subst h; simp
 | x :: as, xs, h => by
  simp only [toDs] at h
  cases hy : toD rd t x with
  | none => simp [hy] at h
  | some y =>
   cases hys : toDs rd t as with
   | none => simp [hy, hys] at h
   | some ys =>
    simp only [hy, hys, Option.some.injEq] at h
    subst h
    obtain ⟨h1, h2⟩ := toDs_plain hys
    refine ⟨by simp [h1], fun z hz => ?_⟩
    rcases List.mem_cons.1 hz with rfl | hz
    ·unfold toD at hy
     cases hp : plainB z with
     | true => rfl
     | false => simp [hp] at hy
    ·exact h2 z hz
theorem natsEq_eq : ∀ {a b : List Nat}, natsEq a b = true → a = b
 | [], [], _ => rfl
 | a :: as, b :: bs, h => by
  simp only [natsEq, Bool.and_eq_true, Nat.beq_eq] at h
  rw [h.1, natsEq_eq h.2]
 | [], _ :: _, h => by simp [natsEq] at h
 | _ :: _, [], h => by simp [natsEq] at h
theorem rangeFrom_len : ∀ (a n : Nat), (rangeFrom a n).length = n
 | _, 0 => rfl
 | a, n + 1 => by simp [rangeFrom, rangeFrom_len (a + 1) n]
theorem zip_range {parts : List (Nat × Operand)} {f : Operand → Value} : ∀ (l : List (Nat × Operand)) (a n : Nat), l.map (·.1) = rangeFrom a n → l.map (fun p => (p.1, f p.2)) = ((l.map fun p => f p.2).zipIdx a).map fun x => (x.2, x.1)
 | [], a, n, _ => by simp
 | (i, x) :: l, a, 0, h => by simp [rangeFrom] at h
 | (i, x) :: l, a, n + 1, h => by
  simp only [List.map_cons, rangeFrom, List.cons.injEq] at h
  obtain ⟨rfl, h⟩ := h
  simp only [List.map_cons, List.zipIdx_cons, zip_range (parts := parts) l (i + 1) n h]
theorem done_buildSlice {T e len nid : Nat} {parts : Array (Nat × Operand)} {iT ie : TInfo} {as : List AV} {xs : List ie.ty.D} {rd : Nat → Option Row} (hT : TOk P T iT) (he : iT.elem = some e) (hie : TOk P e ie)
  (hH : HRel w ok base H m) (hb : base ≤ w.heap.size) (hh : H[nid]? = some .hole) (ho : o.op = .buildSlice T len parts)
  (hrd : ∀ j r, rd j = some r → H[j]? = some r) (hrd' : ∀ j x, x ∈ as → AV.own j ∈ cellsOf x → rd j = H[j]?)
  (hix : parts.toList.map (·.1) = rangeFrom 0 len) (hsm : len * ie.ty.sz ≤ 16777216) (ha : F2 (rel w ok H m) as (parts.toList.map fun p => a.eval p.2)) (hx : toDs rd ie.ty as = some xs) :
  Done P o a w ok base H m (.own nid) (as.flatMap (frz rd) ++ [(nid, .row e ie.ty xs)]) := by
 obtain ⟨hlen, hpl⟩ := toDs_plain hx
 have hFr := freeze_ok (fun j => (∃ x ∈ as, AV.own j ∈ cellsOf x) ∧ ∃ e t xs, H[j]? = some (.row e t xs)) hH (H' := setH H (as.flatMap (frz rd))) (frz_at (l := []) _ (fun j r => by
   rw [List.mem_flatMap]
   constructor
   ·rintro ⟨x, hxm, hm⟩
    obtain ⟨h1, e', t', xs', h2, h3⟩ := frz_mem.1 hm
    rw [hrd' j x hxm h1] at h2
    exact ⟨⟨⟨x, hxm, h1⟩, e', t', xs', h2⟩, e', t', xs', h2, h3⟩
   ·rintro ⟨⟨⟨x, hxm, h1⟩, _⟩, h2⟩
    exact ⟨x, hxm, frz_mem.2 ⟨h1, by rw [hrd' j x hxm h1]; exact h2⟩⟩) (fun j hj => hj.2))
 obtain ⟨hH1, hst1⟩ := hFr
 have hin : ∀ k, ok k → okF w ok (fun j => (∃ x ∈ as, AV.own j ∈ cellsOf x) ∧ ∃ e t xs, H[j]? = some (.row e t xs)) H m k := fun k hk => .inl hk
 have hrow : ∀ id e t xs, (∃ x ∈ as, AV.own id ∈ cellsOf x) → H[id]? = some (.row e t xs) → Rd w (okF w ok (fun j => (∃ x ∈ as, AV.own j ∈ cellsOf x) ∧ ∃ e t xs, H[j]? = some (.row e t xs)) H m) (.sl t) xs [m id] := fun id e' t' xs' hj hr =>
  row_rd hH hr hin fun k hk => .inr ⟨id, _, ⟨hj, _, _, _, hr⟩, hr, rfl, hk⟩
 obtain ⟨hf, hsz⟩ := toDs_rd hrd hin hrow ha hx
 have hbd := okF_bd (S := fun j => (∃ x ∈ as, AV.own j ∈ cellsOf x) ∧ ∃ e t xs, H[j]? = some (.row e t xs)) hH
 generalize okF w ok (fun j => (∃ x ∈ as, AV.own j ∈ cellsOf x) ∧ ∃ e t xs, H[j]? = some (.row e t xs)) H m = ok1 at hH1 hst1 hin hrow hf hbd
 have hh1 : (setH H (as.flatMap (frz rd)))[nid]? = some .hole := by
  rw [setH_other, hh]
  intro hm
  obtain ⟨r, hr⟩ := fsts_mem.1 hm
  obtain ⟨x, hxm, hm⟩ := List.mem_flatMap.1 hr
  obtain ⟨h1, e', t', xs', h2, _⟩ := frz_mem.1 hm
  have := hrd nid _ h2
  rw [hh] at this
  simp at this
 have hplen : parts.toList.length = len := by rw [← List.length_map (f := (·.1)), hix, rangeFrom_len]
 have hxl : xs.length = len := by rw [hlen, ha.length, List.length_map, hplen]
 obtain ⟨fi, z, hinf, hs1, hs2, hz, _⟩ := hie.inf
 have hbl : Below w.heap.size w (w.alloc (.cells ((parts.toList.map fun p => a.eval p.2).flatMap fun v => v.cells.toList).toArray e)) := (Below.refl _ _).alloc (Nat.le_refl _) _
 have hfl : ((parts.toList.map fun p => a.eval p.2).map fun v => v.cells.toList).flatten = (parts.toList.map fun p => a.eval p.2).flatMap fun v => v.cells.toList := by rw [List.flatMap_def]
 have hcl : ((parts.toList.map fun p => a.eval p.2).flatMap fun v => v.cells.toList).length = len * ie.ty.sz := by
  rw [← hfl, hf.flat_len, hxl]
 have hmax : len ≤ maxLen := by
  have := Ty.sz_pos ie.ty
  have h2 : len ≤ len * ie.ty.sz := Nat.le_mul_of_pos_right _ this
  unfold maxLen
  omega
 have hown := World.ownsRow_lit (e := e) (size := ie.ty.sz) w ((parts.toList.map fun p => a.eval p.2).flatMap fun v => v.cells.toList).toArray len hb hmax (by simpa using hcl)
 obtain ⟨m', h1, h2, h3⟩ := row_new (e := e) (t := ie.ty) (us := (parts.toList.map fun p => a.eval p.2).map fun v => v.cells.toList) hH1 hh1 hbl (hf.imp fun _ _ _ h => (Moves.of_below hbl).rd h) (by rw [hfl]; simpa using hown) hxl.symm
  (fun k hk => by simp only [mblk, Option.some.injEq] at hk; omega)
 refine ⟨_, _, ok1, m', .inl ?_, (Below.refl base w).alloc hb _, by rw [setH_append]; exact h1, by rw [setH_append]; exact hst1.trans h2, by rw [setH_append]; exact h3, hbd⟩
 have hel := hT.el e he
 have hev : (parts.map fun x => (x.1, a.eval x.2)).toList = ((parts.toList.map fun p => a.eval p.2).zipIdx 0).map fun x => (x.2, x.1) := by
  rw [Array.toList_map]
  exact zip_range (parts := []) parts.toList 0 len hix
 rw [execOp.eq_def]
 simp only [ho]
 have hrun : (Instr.buildSlice T len (parts.map fun x => (x.1, a.eval x.2))).run P w = .ok (.slice (some ⟨w.heap.size, 0, none⟩) len len) (w.alloc (.cells ((parts.toList.map fun p => a.eval p.2).flatMap fun v => v.cells.toList).toArray e)) := by
  by_cases h0 : len = 0
  ·subst h0
   have hnil : parts.toList = [] := List.eq_nil_of_length_eq_zero hplen
   have hnil' : parts = #[] := by apply Array.ext'; simpa using hnil
   subst hnil'
   simp [Instr.buildSlice, run_underlying hel, hie.size, Instr.fill, newRow]
   congr 2
   apply Array.ext'
   simp
  ·refine run_buildSlice w T e len _ _ fi z hel hinf hz (by rw [hs1]; omega) ?_ ?_
   ·rw [hs1]
    have := Ty.sz_pos ie.ty
    have := Nat.le_mul_of_pos_right len this
    omega
   ·rw [hev, hs1]
    exact Great.fill_whole (Ty.sz_pos _) _ _ hsz (by simp [hplen])
 simp [Sem.run_bind, hrun]
theorem done_makeSlice {T e nid : Nat} {L C : Operand} {iT ie : TInfo} {k k' : IntKind} {n : Int} (hT : TOk P T iT) (he : iT.elem = some e) (hie : TOk P e ie)
  (hH : HRel w ok base H m) (hb : base ≤ w.heap.size) (hh : H[nid]? = some .hole) (ho : o.op = .makeSlice T L C) (hL : a.eval L = .int k n) (hC : a.eval C = .int k' n) (h0 : 0 ≤ n) (hn : n.toNat * ie.bytes ≤ LIM) :
  Done P o a w ok base H m (.own nid) [(nid, .row e ie.ty (List.replicate n.toNat ie.ty.z))] := by
 obtain ⟨fi, z, hinf, hs1, hs2, hz, hv⟩ := hie.inf
 obtain ⟨v0, e0, _, hr0⟩ := vz_rel (w := w) (ok := ok) (H := []) (m := fun _ => .pointer none) hv
 rw [List.append_nil] at e0
 have hle : n.toNat ≤ LIM := Nat.le_trans (Nat.le_mul_of_pos_right _ hie.pos) hn
 obtain ⟨w', hrun, hown, hg⟩ := run_make_full (P := P) (w := w) base T e fi z ie.ty.sz (hT.el e he) hinf hz hs1 k k' n.toNat (by rw [hs2, Nat.mul_comm]; unfold LIM at hn; omega) (by unfold maxLen; unfold LIM at hle; omega) hb
 rw [Int.toNat_of_nonneg h0] at hrun
 have hbl : Below w.heap.size w w' := (Below.refl w.heap.size w).grown hg (Nat.le_refl _) (fun k hk => by simp at hk)
 have hzs : z.cells.size = ie.ty.sz := by rw [← Array.length_toList, e0]; exact Rd_len hr0
 have hcells : (madeCells z.cells (n.toNat * ie.ty.sz)).toList = (List.replicate n.toNat z.cells.toList).flatten := by
  rw [← hzs]
  apply List.ext_getElem?
  intro j
  have hsz : 0 < z.cells.size := by rw [hzs]; exact Ty.sz_pos _
  have hfl : ∀ (q j : Nat), (List.replicate q z.cells.toList).flatten[j]? = if j < q * z.cells.size then z.cells.toList[j % z.cells.size]? else none := by
   intro q
   induction q with
   | zero => intro j; simp
   | succ q ih =>
    intro j
    rw [List.replicate_succ, List.flatten_cons, List.getElem?_append]
    simp only [Array.length_toList]
    by_cases hj : j < z.cells.size
    ·rw [if_pos hj, if_pos (by rw [Nat.add_mul]; omega), Nat.mod_eq_of_lt hj]
    ·rw [if_neg hj, ih]
     have e1 : (j - z.cells.size) % z.cells.size = j % z.cells.size := by
      conv => rhs; rw [← Nat.sub_add_cancel (Nat.le_of_not_lt hj), Nat.add_mod_right]
     rw [e1]
     by_cases h2 : j - z.cells.size < q * z.cells.size
     ·rw [if_pos h2, if_pos (by rw [Nat.add_mul]; omega)]
     ·rw [if_neg h2, if_neg (by rw [Nat.add_mul]; omega)]
  rw [hfl]
  by_cases hj : j < n.toNat * z.cells.size
  ·rw [if_pos hj]
   have hm := Nat.mod_lt j hsz
   simp [madeCells, hj, hm]
  ·rw [if_neg hj]
   simp [madeCells, hj]
 have hf : F2 (Rd w' ok ie.ty) (List.replicate n.toNat ie.ty.z) (List.replicate n.toNat z.cells.toList) := by
  have hr : Rd w' ok ie.ty ie.ty.z z.cells.toList := by rw [e0]; exact (Moves.of_below hbl).rd hr0
  generalize n.toNat = q
  induction q with
  | zero => exact .nil
  | succ q ih => exact .cons hr ih
 obtain ⟨m', h1, h2, h3⟩ := row_new (e := e) (t := ie.ty) hH hh hbl hf (by rw [← hcells]; exact hown) (by simp) (fun k hk => by simp only [mblk, Option.some.injEq] at hk; omega)
 refine ⟨_, w', ok, m', .inl ?_, (Below.refl base w).grown hg hb (fun k hk => by simp at hk), h1, h2, h3, fun k hk => .inl hk⟩
 rw [execOp.eq_def]
 simp [ho, hL, hC, hrun]
theorem done_makeRows {T e e2 nid : Nat} {t : Ty} {L C : Operand} {iT ie : TInfo} {k k' : IntKind} {n : Int} (hT : TOk P T iT) (he : iT.elem = some e) (hie : TOk P e ie) (hty : ie.ty = .sl t)
  (hH : HRel w ok base H m) (hb : base ≤ w.heap.size) (hh : H[nid]? = some .hole) (ho : o.op = .makeSlice T L C) (hL : a.eval L = .int k n) (hC : a.eval C = .int k' n) (h0 : 0 ≤ n) (hn : n.toNat * ie.bytes ≤ LIM) :
  Done P o a w ok base H m (.own nid) [(nid, .rows e e2 t (List.replicate n.toNat []))] := by
 obtain ⟨fi, z, hinf, hs1, hs2, hz, hv⟩ := hie.inf
 obtain ⟨v0, e0, hr0, _⟩ := vz_rel (w := w) (ok := ok) (H := []) (m := fun _ => .pointer none) hv
 rw [List.append_nil] at e0
 have hsz : ie.ty.sz = 1 := by rw [hty]; rfl
 have hz1 : z.cells.toList = [.slice none 0 0] := by
  rw [hty] at hr0
  obtain ⟨u, e1, hu⟩ := (show F2 (rel1 w ok [] fun _ => .pointer none) [.nl] v0 from hr0).one
  have hu : u = .slice none 0 0 := hu
  rw [e0, e1, hu]
 have hle : n.toNat ≤ LIM := Nat.le_trans (Nat.le_mul_of_pos_right _ hie.pos) hn
 obtain ⟨w', hrun, hown, hg⟩ := run_make_full (P := P) (w := w) base T e fi z ie.ty.sz (hT.el e he) hinf hz hs1 k k' n.toNat (by rw [hs2, Nat.mul_comm]; unfold LIM at hn; omega) (by unfold maxLen; unfold LIM at hle; omega) hb
 rw [Int.toNat_of_nonneg h0] at hrun
 rw [hsz] at hown
 have hbl : Below w.heap.size w w' := (Below.refl w.heap.size w).grown hg (Nat.le_refl _) (fun k hk => by simp at hk)
 have hzsz : z.cells.size = 1 := by rw [← Array.length_toList, hz1]; rfl
 have hcells : (madeCells z.cells (n.toNat * 1)).toList = List.replicate n.toNat (.slice none 0 0) := by
  apply List.ext_getElem?
  intro j
  rw [List.getElem?_replicate]
  by_cases hj : j < n.toNat
  ·rw [if_pos hj]
   have hj' : j < n.toNat * 1 := by omega
   have e2 : z.cells[0]? = some (.slice none 0 0) := by rw [← Array.getElem?_toList, hz1]; rfl
   simp [madeCells, hj', hzsz, Nat.mod_one, e2]
   exact ⟨⟨j, by rw [List.getElem?_range hj]⟩, by rw [Array.getElem?_eq_getElem (by omega)] at e2; simpa using e2⟩
  ·rw [if_neg hj]
   simp [madeCells]
   omega
 rw [hcells] at hown
 generalize hu : Value.slice (some ⟨w.heap.size, 0, none⟩) n.toNat n.toNat = u at hrun hown
 have hu1 : ∀ k, mblk u = some k → w.heap.size ≤ k := fun k hk => by subst hu; simp only [mblk, Option.some.injEq] at hk; omega
 have hrow : RowRel w' ok base (H.set nid (.rows e e2 t (List.replicate n.toNat []))) (updM m nid u) u (.rows e e2 t (List.replicate n.toNat [])) := by
  refine ⟨List.replicate n.toNat (.slice none 0 0), by rw [List.length_replicate]; exact hown, ⟨by simp, fun j x v _ hx hv => ?_, fun i j v v' k _ _ hv _ hk _ => ?_⟩, fun j v k hv hk => ?_⟩
  ·rw [List.getElem?_replicate] at hx hv
   split at hx
   ·rename_i hj
    rw [if_pos hj] at hv
    obtain rfl := Option.some.inj hx
    obtain rfl := Option.some.inj hv
    exact ⟨[], .nil, by simp, .inl ⟨rfl, rfl⟩⟩
   ·simp at hx
  ·rw [List.getElem?_replicate] at hv
   split at hv
   ·obtain rfl := Option.some.inj hv; simp [mblk] at hk
   ·simp at hv
  ·rw [List.getElem?_replicate] at hv
   split at hv
   ·obtain rfl := Option.some.inj hv; simp [mblk] at hk
   ·simp at hv
 have hHn := hH.add hh (.rows e e2 t (List.replicate n.toNat [])) u hbl hrow (fun _ k hk => by
  rcases hk with hk | ⟨j, v, hj, hc, hk⟩
  ·exact hu1 k hk
  ·obtain ⟨us, h1, h2, _⟩ := hrow
   rw [ownsRow_cellAt (by simpa using h1) (by simpa using hj)] at hc
   have hj' : j < n.toNat := by simpa using hj
   have hw := hown
   rw [List.length_replicate] at h1
   have hcc := ownsRow_cellAt hown hj'
   rw [ownsRow_cellAt h1 hj', hc, List.getElem?_replicate, if_pos hj'] at hcc
   obtain rfl := Option.some.inj hcc
   simp [mblk] at hk)
 refine ⟨u, w', ok, updM m nid u, .inl ?_, (Below.refl base w).grown hg hb (fun k hk => by simp at hk), hHn, HStep.add hh _ u (Moves.of_below hbl), ?_, fun k hk => .inl hk⟩
 ·rw [execOp.eq_def]
  simp [ho, hL, hC, hrun]
 ·show rel1 w' ok (H.set nid (.rows e e2 t (List.replicate n.toNat []))) (updM m nid u) (.own nid) u
  have : (H.set nid (.rows e e2 t (List.replicate n.toNat [])))[nid]? = some (.rows e e2 t (List.replicate n.toNat [])) := by simp [get_lt hh]
  simp only [rel1, this]
  exact ⟨⟨_, _, _, hu.symm⟩, (updM_same m nid u).symm⟩
theorem sl_form {t : Ty} {xs : List t.D} {u : Value} (h : Rd w ok (.sl t) xs [u]) : ∃ p c, u = .slice p xs.length c ∧ Lc xs.length c ∧ (p = none → xs = [] ∧ c = 0) ∧
  (xs ≠ [] → ∃ ad us, p = some ad ∧ ok ad.block ∧ F2 (fun x u => Rd w ok t x u) xs us ∧ Cells w ad us.flatten) := by
 simp only [Rd, List.cons.injEq, and_true] at h
 exact h
theorem flat_ne {t : Ty} {xs : List t.D} {us : List (List Value)} (h : F2 (fun x u => Rd w ok t x u) xs us) (hx : xs ≠ []) : us.flatten ≠ [] := by
 intro e
 have := F2.flat_len h
 rw [e] at this
 have hp := Ty.sz_pos t
 cases xs with
 | nil => exact hx rfl
 | cons x xs => simp only [List.length_nil, List.length_cons, Nat.add_mul] at this; omega
theorem run_indexAt {T e : Nat} {ie : TInfo} (hT : P.underlying T = some (.slice e)) (hie : TOk P e ie) {ad : Addr} {n c : Nat} {k : IntKind} {i : Int} (h0 : 0 ≤ i) (h1 : i < n) :
  (Instr.indexAt T (.slice (some ad) n c) (.int k i)).run P w = .ok (.pointer (some (ad.add (i.toNat * ie.ty.sz)))) w := by
 simp [Instr.indexAt, asIntOf, run_underlying hT, h0, h1, hie.size]
theorem done_index_v {T e : Nat} {X I : Operand} {iT ie : TInfo} {k : IntKind} {i : Int} {xs : List ie.ty.D} (hT : TOk P T iT) (he : iT.elem = some e) (hie : TOk P e ie) (hH : HRel w ok base H m)
  (ho : o.op = .indexAddr T X I) (hX : Rd w ok (.sl ie.ty) xs [a.eval X]) (hI : rel w ok H m (.v (.int k) i) (a.eval I)) (h0 : 0 ≤ i) (h1 : i < xs.length) :
  Done P o a w ok base H m (.rp (explode ie.ty (xs.getD i.toNat ie.ty.z))) [] := by
 obtain ⟨p, c, hu, hlc, hnone, hne⟩ := sl_form hX
 have hx : xs ≠ [] := by intro e'; subst e'; simp at h1; omega
 obtain ⟨ad, us, rfl, hok, hf, hc⟩ := hne hx
 have hi : i.toNat < xs.length := by omega
 obtain ⟨q, hq, hr⟩ := hf.get (List.getElem?_eq_getElem hi)
 obtain ⟨r, hr'⟩ := flat_drop (F2.lens hf) hq
 have hsp := hc.spot (flat_ne hf hx)
 have hgd : xs.getD i.toNat ie.ty.z = xs[i.toNat] := by simp [List.getD, List.getElem?_eq_getElem hi]
 have hlt := hc.lt (flat_ne hf hx)
 refine Done.pure (u := .pointer (some (ad.add (i.toNat * ie.ty.sz)))) hH ?_ ?_
 ·rw [execOp.eq_def]
  simp [ho, hu, rd_int hI, run_indexAt (hT.el e he) hie h0 (by exact_mod_cast h1)]
 ·show rel1 w ok H m (.rp _) _
  refine ⟨_, q, rfl, by rw [add_block]; exact hok, by rw [add_block]; exact hlt, ?_, by rw [hgd]; exact explode_rel hr⟩
  have := hc.drop hsp (i.toNat * ie.ty.sz)
  rw [hr'] at this
  exact this.left
theorem done_index_own {T e e' id : Nat} {X I : Operand} {iT ie : TInfo} {k : IntKind} {i : Int} {xs : List ie.ty.D} (hT : TOk P T iT) (he : iT.elem = some e) (hie : TOk P e ie) (hH : HRel w ok base H m)
  (ho : o.op = .indexAddr T X I) (hr : H[id]? = some (.row e' ie.ty xs)) (hX : rel w ok H m (.own id) (a.eval X)) (hI : rel w ok H m (.v (.int k) i) (a.eval I)) (h0 : 0 ≤ i) (h1 : i < xs.length) :
  Done P o a w ok base H m (.pe id i.toNat 0) [] := by
 have hX : rel1 w ok H m (.own id) (a.eval X) := hX
 simp only [rel1, hr] at hX
 obtain ⟨_, hX⟩ := hX
 obtain ⟨us, hf, hown⟩ := hH.hp id _ hr
 rcases hown.2 with ⟨hm, hn⟩ | ⟨g, cap, cur, hm, _⟩
 ·omega
 ·rw [hm] at hX
  refine Done.pure (u := .pointer (some ⟨g, i.toNat * ie.ty.sz, none⟩)) hH ?_ ?_
  ·rw [execOp.eq_def]
   have e1 : (⟨g, 0, none⟩ : Addr).add (i.toNat * ie.ty.sz) = ⟨g, i.toNat * ie.ty.sz, none⟩ := by unfold Addr.add; split <;> simp_all
   have := run_indexAt (w := w) (hT.el e he) hie (ad := ⟨g, 0, none⟩) (n := xs.length) (c := cap) (k := k) h0 (by exact_mod_cast h1)
   rw [e1] at this
   simp [ho, hX, rd_int hI, this]
  ·show rel1 w ok H m (.pe id i.toNat 0) _
   simp only [rel1, hr]
   exact ⟨⟨_, rfl⟩, by omega, g, xs.length, cap, hm, by simp⟩
theorem done_index_rows {T e id n : Nat} {r : Row} {X I : Operand} {iT ie : TInfo} {k : IntKind} {i : Int} (hT : TOk P T iT) (he : iT.elem = some e) (hie : TOk P e ie) (hsz : ie.ty.sz = 1) (hH : HRel w ok base H m)
  (ho : o.op = .indexAddr T X I) (hr : H[id]? = some r) (hn : r.nl = some n) (hX : rel w ok H m (.own id) (a.eval X)) (hI : rel w ok H m (.v (.int k) i) (a.eval I)) (h0 : 0 ≤ i) (h1 : i < n) :
  Done P o a w ok base H m (.pe id i.toNat 0) [] := by
 have hX : rel1 w ok H m (.own id) (a.eval X) := hX
 simp only [rel1, hr] at hX
 obtain ⟨_, hX⟩ := hX
 have hX : a.eval X = m id := by cases r <;> first | exact hX | simp [Row.nl] at hn
 have hown : ∃ e' us, w.ownsRow base e' 1 (m id) n us := by
  have := hH.hp id _ hr
  cases r <;> simp only [Row.nl, reduceCtorEq, Option.some.injEq] at hn <;> subst hn
  ·obtain ⟨us, h, _⟩ := this; exact ⟨_, us, h⟩
  ·obtain ⟨us, h, _⟩ := this; exact ⟨_, us, h⟩
 obtain ⟨e', us, hown⟩ := hown
 rcases hown.2 with ⟨hm, hn0⟩ | ⟨g, cap, cur, hm, _⟩
 ·omega
 ·rw [hm] at hX
  refine Done.pure (u := .pointer (some ⟨g, i.toNat, none⟩)) hH ?_ ?_
  ·rw [execOp.eq_def]
   have e1 : (⟨g, 0, none⟩ : Addr).add (i.toNat * ie.ty.sz) = ⟨g, i.toNat, none⟩ := by rw [hsz, Nat.mul_one, add_plain', Nat.zero_add]
   have := run_indexAt (w := w) (hT.el e he) hie (ad := ⟨g, 0, none⟩) (n := n) (c := cap) (k := k) h0 (by exact_mod_cast h1)
   rw [e1] at this
   simp [ho, hX, rd_int hI, this]
  ·show rel1 w ok H m (.pe id i.toNat 0) _
   have hlt : i.toNat < n := by omega
   cases r <;> simp only [Row.nl, reduceCtorEq, Option.some.injEq] at hn <;> subst hn <;> simp only [rel1, hr] <;> exact ⟨⟨_, rfl⟩, hlt, g, _, cap, hm, rfl⟩
theorem done_takeOut {T id i e e2 nid : Nat} {t : Ty} {xs : List (List t.D)} {X : Operand} {iT : TInfo} (hE : TyOk P E) (hiT : E_ti E T = some iT) (hag : iT.agg = false) (hH : HRel w ok base H m) (hh : H[nid]? = some .hole) (ho : o.op = .load T X)
  (hr : H[id]? = some (.rows e e2 t xs)) (hX : rel w ok H m (.pe id i 0) (a.eval X)) :
  Done P o a w ok base H m (.own nid) [(id, .rowx e e2 t xs i nid), (nid, .row e2 t (xs.getD i []))] := by
 have hX : rel1 w ok H m (.pe id i 0) (a.eval X) := hX
 simp only [rel1, hr] at hX
 obtain ⟨_, hi, b, n, c, hm, hXe⟩ := hX
 obtain ⟨us, hown, hn, h3⟩ := hH.hp id _ hr
 have hiu : i < us.length := by rw [hn.len]; exact hi
 have hui : us[i]? = some us[i] := List.getElem?_eq_getElem hiu
 generalize us[i] = v at hui
 obtain ⟨vs, hfv, hov⟩ := hn.own i xs[i] v (fun h => h) (List.getElem?_eq_getElem hi) hui
 have hgd : xs.getD i [] = xs[i] := by simp [List.getD, List.getElem?_eq_getElem hi]
 have hne : id ≠ nid := by rintro rfl; rw [hh] at hr; simp at hr
 have hl1 := get_lt hr
 have hl2 := get_lt hh
 generalize hH' : (H.set id (.rowx e e2 t xs i nid)).set nid (.row e2 t (xs.getD i [])) = H'
 have g1 : H'[id]? = some (.rowx e e2 t xs i nid) := by rw [← hH', List.getElem?_set_ne (Ne.symm hne)]; simp [hl1]
 have g2 : H'[nid]? = some (.row e2 t (xs.getD i [])) := by rw [← hH']; simp [hl2]
 have g3 : ∀ j, j ≠ id → j ≠ nid → H'[j]? = H[j]? := fun j h1 h2 => by rw [← hH', List.getElem?_set_ne (Ne.symm h2), List.getElem?_set_ne (Ne.symm h1)]
 have hst : HStep w w ok ok H H' m (updM m nid v) := ⟨Moves.refl w ok, fun j q hq hnh => by
  have hj : j ≠ nid := by rintro rfl; rw [hh] at hq; simp at hq; exact hnh hq.symm
  refine ⟨updM_ne m v hj, ?_⟩
  by_cases hji : j = id
  ·subst hji
   rw [hr] at hq
   obtain rfl := Option.some.inj hq
   exact ⟨_, g1, .nest (n := xs.length) rfl rfl⟩
  ·exact ⟨q, by rw [g3 j hji hj]; exact hq, .same q⟩⟩
 have hcell : ∀ j, j < xs.length → cellAt w (m id) j = us[j]? := fun j hj => ownsRow_cellAt hown hj
 have rbv : ∀ k, mblk v = some k → RB w (m id) (.rows e e2 t xs) k := fun k hk => .inr ⟨i, v, hi, by rw [hcell i hi]; exact hui, hk⟩
 have rbx : ∀ k, RB w (m id) (.rowx e e2 t xs i nid) k → RB w (m id) (.rows e e2 t xs) k := fun k hk => by
  rcases hk with hk | ⟨j, y, _, hj, hc, hk⟩
  ·exact .inl hk
  ·exact .inr ⟨j, y, hj, hc, hk⟩
 have hHn : HRel w ok base H' (updM m nid v) := by
  refine hH.upd (fun j => j = id ∨ j = nid) hst (fun _ _ _ => rfl) (fun j hj => ⟨g3 j (fun e => hj (.inl e)) (fun e => hj (.inr e)), updM_ne m v fun e => hj (.inr e)⟩) ?_ ?_ (fun k hk => hH.lt k hk) (fun k hk _ => .inl hk)
  ·rintro j r (rfl | rfl) hj
   ·rw [g1] at hj
    obtain rfl := Option.some.inj hj
    rw [updM_ne m v hne]
    refine ⟨⟨us, hown, hi, by rw [updM_same]; exact hui, ⟨_, g2, by simp⟩, ⟨hn.len, fun j x y _ => hn.own j x y (fun h => h), fun i j v v' k _ _ => hn.dst i j v v' k (fun h => h) (fun h => h)⟩, fun j y k _ => h3 j y k⟩, fun _ k hk => ⟨hH.sep j _ k hr rfl (rbx k hk), .inr ⟨j, _, .inl rfl, hr, rfl, rbx k hk⟩⟩⟩
   ·rw [g2] at hj
    obtain rfl := Option.some.inj hj
    rw [updM_same]
    exact ⟨⟨vs, by rw [hgd]; exact hfv, by rw [hgd]; exact hov⟩, fun _ k hk => ⟨hH.sep id _ k hr rfl (rbv k hk), .inr ⟨id, _, .inl rfl, hr, rfl, rbv k hk⟩⟩⟩
  ·have key : ∀ k, RB w (m id) (.rowx e e2 t xs i nid) k → mblk v = some k → False := fun k hk hv => by
    rcases hk with hk | ⟨j, y, hji, hj, hc, hk⟩
    ·exact h3 i v k hui hv hk
    ·rw [hcell j hj] at hc
     exact hji (hn.dst j i y v k (fun h => h) (fun h => h) hc hui hk hv)
   rintro i' j' ri rj k (rfl | rfl) (rfl | rfl) hi' hj' _ _ hk hk'
   ·rfl
   ·rw [g1] at hi'; rw [g2] at hj'
    obtain rfl := Option.some.inj hi'
    obtain rfl := Option.some.inj hj'
    rw [updM_ne m v hne] at hk
    rw [updM_same] at hk'
    exact (key k hk hk').elim
   ·rw [g2] at hi'; rw [g1] at hj'
    obtain rfl := Option.some.inj hi'
    obtain rfl := Option.some.inj hj'
    rw [updM_same] at hk
    rw [updM_ne m v hne] at hk'
    exact (key k hk' hk).elim
   ·rfl
 have hval : rel1 w ok H' (updM m nid v) (.own nid) v := by
  simp only [rel1, g2]
  refine ⟨?_, (updM_same m nid v).symm⟩
  rcases hov.2 with ⟨h, _⟩ | ⟨g, cap, cur, h, _⟩
  ·exact ⟨none, 0, 0, h⟩
  ·exact ⟨_, _, _, h⟩
 have hc : Cells w ⟨b, i, none⟩ [v] := by
  rw [hm] at hcell
  intro j y hj
  cases j with
  | succ j => simp at hj
  | zero =>
   obtain rfl := Option.some.inj hj
   have := hcell i hi
   rw [hui] at this
   have e1 : (⟨b, i, none⟩ : Addr).add 0 = (⟨b, 0, none⟩ : Addr).add i := by rw [add_plain', add_plain', Nat.zero_add, Nat.add_zero]
   rw [e1]
   exact this
 obtain ⟨u, hrun, hu⟩ := load_ok (P := P) (cs := [.own nid]) hE hc (.cons hval .nil) (show takeW E T [.own nid] = some (.own nid) by unfold takeW; rw [hiT]; simp only [hag, cond_false]; rfl)
 refine ⟨u, w, ok, updM m nid v, .inl ?_, Below.refl _ _, ?_, ?_, ?_, fun k hk => .inl hk⟩
 ·rw [execOp.eq_def]
  have hXe : a.eval X = .pointer (some ⟨b, i, none⟩) := by rw [hXe]; rfl
  simp [ho, hXe, Instr.loadAt, Instr.sureAddr, hrun]
 ·show HRel w ok base ((H.set id _).set nid _) _
  rw [hH']; exact hHn
 ·show HStep w w ok ok H ((H.set id _).set nid _) m _
  rw [hH']; exact hst
 ·show rel w ok ((H.set id _).set nid _) _ _ u
  rw [hH']; exact rel2_rel hu
theorem getElem?_set' {α : Type} {l : List α} {i j : Nat} {x y : α} (h : (l.set i x)[j]? = some y) : (j = i ∧ y = x) ∨ (j ≠ i ∧ l[j]? = some y) := by
 by_cases e : j = i
 ·subst e
  have hl : j < l.length := by simpa using (List.getElem?_eq_some_iff.1 h).1
  rw [List.getElem?_set_self hl] at h
  exact .inl ⟨rfl, (Option.some.inj h).symm⟩
 ·rw [List.getElem?_set_ne (Ne.symm e)] at h
  exact .inr ⟨e, h⟩
theorem absorb {w' : World} {id q e e2 i nd : Nat} {t : Ty} {xs : List (List t.D)} {ys : List t.D} {us : List Value} (hH : HRel w ok base H m) (hr : H[id]? = some (.rowx e e2 t xs i nd)) (hq : H[q]? = some (.row e2 t ys)) (hne : q ≠ id)
  (hown : w.ownsRow base e 1 (m id) xs.length us) (hi : i < xs.length) (hn : Nst w ok base e2 t xs us (fun j => j = i)) (h3 : ∀ (j : Nat) v k, j ≠ i → us[j]? = some v → mblk v = some k → mblk (m id) ≠ some k)
  (hsz : w.heap.size ≤ w'.heap.size) (hw : ∀ k, mblk (m id) ≠ some k → w'.heap[k]? = w.heap[k]?) (hown' : w'.ownsRow base e 1 (m id) xs.length (us.set i (m q))) :
  HRel w' ok base ((H.set id (.rows e e2 t (xs.set i ys))).set q .dead) m ∧ HStep w w' ok ok H ((H.set id (.rows e e2 t (xs.set i ys))).set q .dead) m m := by
 have hl1 := get_lt hr
 have hl2 := get_lt hq
 generalize hH' : (H.set id (.rows e e2 t (xs.set i ys))).set q .dead = H'
 have g1 : H'[id]? = some (.rows e e2 t (xs.set i ys)) := by rw [← hH', List.getElem?_set_ne hne]; simp [hl1]
 have g2 : H'[q]? = some .dead := by rw [← hH']; simp [hl2]
 have g3 : ∀ j, j ≠ id → j ≠ q → H'[j]? = H[j]? := fun j h1 h2 => by rw [← hH', List.getElem?_set_ne (Ne.symm h2), List.getElem?_set_ne (Ne.symm h1)]
 have hmv : Moves w w' ok ok := ⟨hsz, fun k hk _ => ⟨hw k fun e => hH.sep id _ k hr rfl (RB.self e) hk, hk⟩⟩
 have hst : HStep w w' ok ok H H' m m := ⟨hmv, fun j r hj hnh => by
  refine ⟨rfl, ?_⟩
  by_cases h1 : j = id
  ·subst h1
   rw [hr] at hj
   obtain rfl := Option.some.inj hj
   exact ⟨_, g1, .nest (n := xs.length) rfl (by simp [Row.nl])⟩
  ·by_cases h2 : j = q
   ·subst h2; exact ⟨_, g2, .dead _⟩
   ·exact ⟨r, by rw [g3 j h1 h2]; exact hj, .same r⟩⟩
 have hcell : ∀ j, j < xs.length → cellAt w (m id) j = us[j]? := fun j hj => ownsRow_cellAt hown hj
 have hcell' : ∀ j, j < xs.length → cellAt w' (m id) j = (us.set i (m q))[j]? := fun j hj => ownsRow_cellAt hown' hj
 -- the blocks that hang on the row now
 have back : ∀ k, RB w' (m id) (.rows e e2 t (xs.set i ys)) k → RB w (m id) (.rowx e e2 t xs i nd) k ∨ mblk (m q) = some k := fun k hk => by
  rcases hk with hk | ⟨j, v, hj, hc, hk⟩
  ·exact .inl (.inl hk)
  ·have hj : j < xs.length := by simpa using hj
   rw [hcell' j hj] at hc
   rcases getElem?_set' hc with ⟨_, rfl⟩ | ⟨hji, hc⟩
   ·exact .inr hk
   ·exact .inl (.inr ⟨j, v, hji, hj, by rw [hcell j hj]; exact hc, hk⟩)
 have hqid : ∀ k, mblk (m q) = some k → RB w (m id) (.rowx e e2 t xs i nd) k → False := fun k h1 h2 => hne (hH.dst q id _ _ k hq hr rfl rfl h1 h2)
 refine ⟨hH.upd (fun j => j = id ∨ j = q) hst (fun k _ hc => hw k fun e => hc id _ (.inl rfl) hr rfl (RB.self e)) (fun j hj => ⟨g3 j (fun e => hj (.inl e)) (fun e => hj (.inr e)), rfl⟩) ?_ ?_ (fun k hk => Nat.lt_of_lt_of_le (hH.lt k hk) hsz) (fun k hk _ => .inl hk), hst⟩
 ·rintro j r (rfl | rfl) hj
  ·rw [g1] at hj
   obtain rfl := Option.some.inj hj
   refine ⟨⟨us.set i (m q), by rw [List.length_set]; exact hown', ⟨by simp [hn.len], ?_, ?_⟩, ?_⟩, fun _ k hk => ?_⟩
   ·intro p x v _ hx hv
    rcases getElem?_set' hv with ⟨hpi, rfl⟩ | ⟨hpi, hv⟩
    ·rcases getElem?_set' hx with ⟨_, rfl⟩ | ⟨h, _⟩
     ·obtain ⟨vs, hf, ho⟩ := hH.hp q _ hq
      exact ⟨vs, hf.imp fun _ _ _ h => hmv.rd h, ownsRow_move ho fun k hk => hw k fun e => hqid k hk (RB.self e)⟩
     ·exact absurd hpi h
    ·rcases getElem?_set' hx with ⟨h, _⟩ | ⟨_, hx⟩
     ·exact absurd h hpi
     ·obtain ⟨vs, hf, ho⟩ := hn.own p x v hpi hx hv
      exact ⟨vs, hf.imp fun _ _ _ h => hmv.rd h, ownsRow_move ho fun k hk => hw k (h3 p v k hpi hv hk)⟩
   ·intro p p' v v' k _ _ hv hv' hk hk'
    rcases getElem?_set' hv with ⟨hpi, rfl⟩ | ⟨hpi, hv⟩
    ·rcases getElem?_set' hv' with ⟨hpi', rfl⟩ | ⟨hpi', hv'⟩
     ·rw [hpi, hpi']
     ·have hp : p' < xs.length := by rw [← hn.len]; exact (List.getElem?_eq_some_iff.1 hv').1
      exact (hqid k hk (.inr ⟨p', v', hpi', hp, by rw [hcell p' hp]; exact hv', hk'⟩)).elim
    ·rcases getElem?_set' hv' with ⟨hpi', rfl⟩ | ⟨hpi', hv'⟩
     ·have hp : p < xs.length := by rw [← hn.len]; exact (List.getElem?_eq_some_iff.1 hv).1
      exact (hqid k hk' (.inr ⟨p, v, hpi, hp, by rw [hcell p hp]; exact hv, hk⟩)).elim
     ·exact hn.dst p p' v v' k hpi hpi' hv hv' hk hk'
   ·intro p v k hv hk hb
    rcases getElem?_set' hv with ⟨hpi, rfl⟩ | ⟨hpi, hv⟩
    ·exact hqid k hk (RB.self hb)
    ·exact h3 p v k hpi hv hk hb
   ·rcases back k hk with h | h
    ·exact ⟨hH.sep j _ k hr rfl h, .inr ⟨j, _, .inl rfl, hr, rfl, h⟩⟩
    ·exact ⟨hH.sep q _ k hq rfl h, .inr ⟨q, _, .inr rfl, hq, rfl, h⟩⟩
  ·rw [g2] at hj
   obtain rfl := Option.some.inj hj
   exact ⟨trivial, fun h => by simp [Row.live] at h⟩
 ·rintro i' j' ri rj k (rfl | rfl) (rfl | rfl) hi' hj' hli hlj _ _
  ·rfl
  ·rw [g2] at hj'; obtain rfl := Option.some.inj hj'; simp [Row.live] at hlj
  ·rw [g2] at hi'; obtain rfl := Option.some.inj hi'; simp [Row.live] at hli
  ·rfl
theorem done_putIn {T id i e e2 nd q : Nat} {t : Ty} {xs : List (List t.D)} {ys : List t.D} {X Y : Operand} {iT : TInfo} (hT : TOk P T iT) (hs : iT.ty.sz = 1) (hH : HRel w ok base H m) (ho : o.op = .store T X Y)
  (hr : H[id]? = some (.rowx e e2 t xs i nd)) (hq : H[q]? = some (.row e2 t ys)) (hne : q ≠ id) (hX : rel w ok H m (.pe id i 0) (a.eval X)) (hY : rel w ok H m (.own q) (a.eval Y)) :
  Done P o a w ok base H m .un [(id, .rows e e2 t (xs.set i ys)), (q, .dead)] := by
 have hX : rel1 w ok H m (.pe id i 0) (a.eval X) := hX
 simp only [rel1, hr] at hX
 obtain ⟨_, hi, b, n, c, hm, hXe⟩ := hX
 have hY : rel1 w ok H m (.own q) (a.eval Y) := hY
 simp only [rel1, hq] at hY
 obtain ⟨⟨p, yn, yc, hYs⟩, hYe⟩ := hY
 obtain ⟨us, hown, _, _, _, hn, h3⟩ := hH.hp id _ hr
 rw [hm] at hown
 have hnn : n = xs.length := by
  rcases hown.2 with ⟨h', _⟩ | ⟨g, cap', cur, h', _⟩
  ·simp at h'
  ·simp only [Value.slice.injEq] at h'; exact h'.2.1
 subst hnn
 have hcv : (a.eval Y).cells = #[a.eval Y] := by rw [hYs]; rfl
 obtain ⟨cur, hh, hcl, hbs, hown'⟩ := ownsRow_setRow (vs := [a.eval Y]) (off := i) hown (by simp; omega)
 have hrun := storeVar_ok (w := w) (u := a.eval Y) hT (off := i) hh (by rw [hcv, hs]; rfl) (by rw [hcv]; simpa using hcl) (by rw [hcv, hYs]; simp [Value.oneCell'])
 have hpk : poke us i [a.eval Y] = us.set i (m q) := by
  have hl : i < us.length := by rw [hn.len]; exact hi
  rw [hYe]
  unfold poke
  apply List.ext_getElem?
  intro j
  simp only [List.length_cons, List.length_nil]
  rcases Nat.lt_trichotomy j i with h | h | h
  ·rw [List.getElem?_append_left (by simp; omega), List.getElem?_append_left (by simp; omega), List.getElem?_take_of_lt h, List.getElem?_set_ne (by omega)]
  ·subst h
   rw [List.getElem?_append_left (by simp; omega), List.getElem?_append_right (by simp; omega), List.getElem?_set_self hl]
   simp [Nat.min_eq_left (Nat.le_of_lt hl)]
  ·rw [List.getElem?_append_right (by simp; omega), List.getElem?_set_ne (by omega), List.getElem?_drop]
   congr 1
   simp
   omega
 rw [hpk, ← hm] at hown'
 rw [← hm] at hown
 have hcvl : (a.eval Y).cells.toList = [a.eval Y] := by rw [hcv]
 rw [hcvl] at hrun
 generalize hW : w.setRow b (poke cur.toList i [a.eval Y]).toArray = W at hrun hown'
 have hmb : mblk (m id) = some b := by rw [hm]; rfl
 obtain ⟨g1, g2⟩ := absorb (w' := W) hH hr hq hne hown hi hn h3 (by rw [← hW]; simp) (fun k hk => by rw [← hW]; exact setRow_other w b k _ (fun e => hk (by rw [hmb, e]))) hown'
 refine ⟨undef, W, ok, m, .inr ⟨?_, rfl⟩, hW ▸ below_setRow hbs _, g1, g2, trivial, fun k hk => .inl hk⟩
 rw [execOp.eq_def]
 have hXe : a.eval X = .pointer (some ⟨b, i, none⟩) := by rw [hXe]; rfl
 simp [ho, hXe, Instr.storeAt, Instr.sureAddr, hrun]
theorem done_indexS {T : Nat} {X I : Operand} {k : IntKind} {i : Int} {s : ByteArray} (hT : P.underlying T = some .string) (hH : HRel w ok base H m) (ho : o.op = .index T X I)
  (hX : rel w ok H m (.v .str s) (a.eval X)) (hI : rel w ok H m (.v (.int k) i) (a.eval I)) (h0 : 0 ≤ i) (h1 : i < s.size) : Done P o a w ok base H m (.v (.int .u8) (byteW s i.toNat)) [] := by
 refine Done.pure (u := .int .u8 (byteW s i.toNat)) hH ?_ mk_int
 have hi : i.toNat < s.size := by omega
 have hg : s[i.toNat]? = some (s[i.toNat]'hi) := by simp [hi]
 rw [execOp.eq_def]
 simp [ho, rd_str hX, rd_int hI, Instr.index, asIntOf, run_underlying hT, h0, hg, byteW, hi]
theorem run_slice {T e : Nat} {ie : TInfo} (hT : P.underlying T = some (.slice e)) (hie : TOk P e ie) {p : Option Addr} {n c l h : Nat} {lo hi : Option Value} {kl kh : IntKind}
  (hlo : (lo = none ∧ l = 0) ∨ lo = some (.int kl l)) (hhi : (hi = none ∧ h = n) ∨ hi = some (.int kh h)) (hlh : l ≤ h) (hhc : h ≤ c) :
  (Instr.sliceAt T (.slice p n c) lo hi none).run P w = .ok (.slice (if c = l then p else p.map (·.add (l * ie.ty.sz))) (h - l) (c - l)) w := by
 have hb : (Instr.sliceBounds true n c lo hi none).run P w = .ok (l, h, c) w := by
  unfold Instr.sliceBounds
  rcases hlo with ⟨rfl, rfl⟩ | rfl <;> rcases hhi with ⟨rfl, rfl⟩ | rfl
  ·simp
  ·simp [Instr.sliceBound, asIntOf, hhc, Nat.not_lt.2 hhc]
  ·simp [Instr.sliceBound, asIntOf, hlh, Nat.not_lt.2 hlh]
  ·simp [Instr.sliceBound, asIntOf, hlh, hhc, Nat.not_lt.2 hhc, Nat.not_lt.2 hlh]
 simp [Instr.sliceAt, Instr.slice, run_underlying hT, hb, hie.size]
theorem cut_rd {t : Ty} {xs : List t.D} {p : Option Addr} {c l h : Nat} (hX : Rd w ok (.sl t) xs [.slice p xs.length c]) (hlh : l ≤ h) (hh : h ≤ xs.length) :
  Rd w ok (.sl t) ((xs.take h).drop l) [.slice (if c = l then p else p.map (·.add (l * t.sz))) (h - l) (c - l)] := by
 obtain ⟨p', c', hu, hlc, hnone, hne⟩ := sl_form hX
 simp only [Value.slice.injEq, true_and] at hu
 obtain ⟨rfl, rfl⟩ := hu
 simp only [Rd]
 have hlen : ((xs.take h).drop l).length = h - l := by rw [List.length_drop, List.length_take, Nat.min_eq_left hh]
 obtain ⟨hlc, hcm⟩ := hlc
 refine ⟨_, _, by rw [hlen], by rw [hlen]; exact ⟨by omega, Nat.le_trans (Nat.sub_le _ _) hcm⟩, fun hn => ?_, fun hx => ?_⟩
 ·have hp : p = none := by
   split at hn
   ·exact hn
   ·simpa using hn
  obtain ⟨rfl, rfl⟩ := hnone hp
  exact ⟨by rw [List.take_nil, List.drop_nil], by omega⟩
 ·have hlt : l < h := by
   rcases Nat.lt_or_ge l h with hl | hl
   ·exact hl
   ·exact absurd (List.eq_nil_of_length_eq_zero (by rw [hlen]; omega)) hx
  have hx0 : xs ≠ [] := by intro e; subst e; simp at hh; omega
  obtain ⟨ad, us, rfl, hok, hf, hc⟩ := hne hx0
  have hsp := hc.spot (flat_ne hf hx0)
  have hf' : F2 (fun x u => Rd w ok t x u) ((xs.take h).drop l) ((us.take h).drop l) := (hf.take h).drop l
  refine ⟨ad.add (l * t.sz), _, ?_, by rw [add_block]; exact hok, hf', ?_⟩
  ·rw [if_neg (by omega)]; rfl
  ·have hd := hc.drop hsp (l * t.sz)
   have hfl : ∀ (us : List (List Value)) (l : Nat), (∀ p ∈ us, p.length = t.sz) → us.flatten.drop (l * t.sz) = (us.drop l).flatten := by
    intro us
    induction us with
    | nil => intro l _; simp
    | cons q us ih =>
     intro l hq
     cases l with
     | zero => simp
     | succ l =>
      rw [List.flatten_cons, List.drop_succ_cons, ← ih l (fun p hp => hq p (by simp [hp])), List.drop_append, List.drop_of_length_le (by rw [hq q (by simp), Nat.add_mul]; omega), List.nil_append, hq q (by simp)]
      congr 1
      rw [Nat.add_mul]
      omega
   rw [hfl us l (F2.lens hf)] at hd
   have : (us.drop l).flatten = ((us.take h).drop l).flatten ++ (us.drop h).flatten := by
    rw [← List.flatten_append]
    congr 1
    conv => lhs; rw [← List.take_append_drop h us]
    rw [List.drop_append_of_le_length]
    rw [List.length_take, ← hf.length]
    omega
   rw [this] at hd
   exact hd.left
theorem done_slice_v {T e l h : Nat} {X : Operand} {lo hi : Option Operand} {iT ie : TInfo} {kl kh : IntKind} {xs : List ie.ty.D} (hT : TOk P T iT) (he : iT.elem = some e) (hie : TOk P e ie) (hH : HRel w ok base H m)
  (ho : o.op = .slice T X lo hi none) (hX : Rd w ok (.sl ie.ty) xs [a.eval X]) (hlo : (lo.map a.eval = none ∧ l = 0) ∨ lo.map a.eval = some (.int kl l)) (hhi : (hi.map a.eval = none ∧ h = xs.length) ∨ hi.map a.eval = some (.int kh h))
  (hlh : l ≤ h) (hh : h ≤ xs.length) : Done P o a w ok base H m (.v (.sl ie.ty) ((xs.take h).drop l)) [] := by
 obtain ⟨p, c, hu, ⟨hlc, _⟩, _, _⟩ := sl_form hX
 refine Done.pure hH ?_ (show Rd w ok (.sl ie.ty) _ [_] from cut_rd (hu ▸ hX) hlh hh)
 rw [execOp.eq_def]
 simp only [ho, hu, Option.map_none]
 have := run_slice (P := P) (w := w) (hT.el e he) hie (p := p) (n := xs.length) (c := c) hlo hhi hlh (by omega)
 simp [this]
theorem done_slice_s {T l h : Nat} {X : Operand} {lo hi : Option Operand} {kl kh : IntKind} {s : ByteArray} (hT : P.underlying T = some .string) (hH : HRel w ok base H m)
  (ho : o.op = .slice T X lo hi none) (hX : rel w ok H m (.v .str s) (a.eval X)) (hlo : (lo.map a.eval = none ∧ l = 0) ∨ lo.map a.eval = some (.int kl l)) (hhi : (hi.map a.eval = none ∧ h = s.size) ∨ hi.map a.eval = some (.int kh h))
  (hlh : l ≤ h) (hh : h ≤ s.size) : Done P o a w ok base H m (.v .str (s.extract l h)) [] := by
 refine Done.pure (u := .string (s.extract l h)) hH ?_ mk_str
 have hb : (Instr.sliceBounds false s.size s.size (lo.map a.eval) (hi.map a.eval) none).run P w = .ok (l, h, s.size) w := by
  unfold Instr.sliceBounds
  rcases hlo with ⟨e1, rfl⟩ | e1 <;> rcases hhi with ⟨e2, rfl⟩ | e2 <;> rw [e1, e2]
  ·simp
  ·simp [Instr.sliceBound, asIntOf, hh, Nat.not_lt.2 hh]
  ·simp [Instr.sliceBound, asIntOf, hlh, Nat.not_lt.2 hlh]
  ·simp [Instr.sliceBound, asIntOf, hlh, hh, Nat.not_lt.2 hh, Nat.not_lt.2 hlh]
 rw [execOp.eq_def]
 simp only [ho, rd_str hX, Option.map_none]
 simp [Instr.sliceAt, Instr.slice, run_underlying hT, hb]
def Src (w : World) (ok : Nat → Prop) (t : Ty) (ys : List t.D) (u : Value) : Prop := (u = .slice none 0 0 ∧ ys = []) ∨
  ∃ ad c us, u = .slice (some ad) ys.length c ∧ F2 (Rd w ok t) ys us ∧ (∀ j v, us.flatten[j]? = some v → w.cell? (ad.add j) = some v)
theorem app_src {t : Ty} {ys : List t.D} {u : Value} (hy : Rd w ok (.sl t) ys [u]) : Src w ok t ys u := by
 obtain ⟨p, c, rfl, hlc, hnone, hne⟩ := sl_form hy
 cases p with
 | none =>
  obtain ⟨rfl, rfl⟩ := hnone rfl
  exact .inl ⟨rfl, rfl⟩
 | some ad =>
  by_cases hx : ys = []
  ·subst hx
   exact .inr ⟨ad, c, [], rfl, .nil, fun j v h => by simp at h⟩
  ·obtain ⟨ad', us, e, _, hf, hc⟩ := hne hx
   simp only [Option.some.injEq] at e
   subst e
   exact .inr ⟨ad, c, us, rfl, hf, hc⟩
theorem src_own {e : Nat} {t : Ty} {ys : List t.D} {us : List (List Value)} {u : Value} (hf : F2 (Rd w ok t) ys us) (h : w.ownsRow base e t.sz u ys.length us.flatten) : Src w ok t ys u := by
 rcases h.2 with ⟨rfl, h0⟩ | ⟨g, cap, cur, rfl, _, hg, h1, h2, h3, h4⟩
 ·exact .inl ⟨rfl, List.eq_nil_of_length_eq_zero h0⟩
 ·refine .inr ⟨_, cap, us, rfl, hf, fun j v hv => ?_⟩
  rw [← h4, List.getElem?_take] at hv
  split at hv
  ·have e : (⟨g, 0, none⟩ : Addr).add j = ⟨g, j, none⟩ := by unfold Addr.add; split <;> simp_all
   rw [e]
   simp only [World.cell?, hg]
   simpa using hv
  ·simp at hv
theorem run_app {T e : Nat} {iT ie : TInfo} {u u' : Value} {xs ys : List ie.ty.D} {us : List (List Value)} (hT : TOk P T iT) (he : iT.elem = some e) (hie : TOk P e ie) (ty : Nat) (hb : base ≤ w.heap.size)
  (hown : w.ownsRow base e ie.ty.sz u xs.length us.flatten) (hy : Src w ok ie.ty ys u') (hlim : (xs.length + ys.length) * ie.bytes ≤ LIM) :
  ∃ v w' vs, (Builtin.append_ #[T, T] ty #[u, u']).run P w = .ok v w' ∧ F2 (Rd w ok ie.ty) ys vs ∧ w'.ownsRow base e ie.ty.sz v (xs.length + ys.length) (us ++ vs).flatten ∧ w.grownBy w' u.ownBlock ∧
   (∀ k, mblk v = some k → mblk u = some k ∨ w.heap.size ≤ k) := by
 obtain ⟨fi, z, hinf, hs1, hs2, hz, hv⟩ := hie.inf
 obtain ⟨v0, e0, _, hr0⟩ := vz_rel (w := w) (ok := ok) (H := []) (m := fun _ => .pointer none) hv
 rw [List.append_nil] at e0
 have hzs : z.cells.size = ie.ty.sz := by rw [← Array.length_toList, e0]; exact Rd_len hr0
 have hle : xs.length + ys.length ≤ LIM := Nat.le_trans (Nat.le_mul_of_pos_right _ hie.pos) hlim
 have own_mblk : ∀ {v : Value} {n : Nat} {l : List Value} {w : World}, w.ownsRow base e ie.ty.sz v n l → v.ownBlock = mblk v := by
  intro v n l w h
  rcases h.2 with ⟨rfl, _⟩ | ⟨g, cap, cur, rfl, _⟩ <;> rfl
 rcases hy with ⟨rfl, rfl⟩ | ⟨ad, c, vs, rfl, hfv, hc⟩
 ·refine ⟨u, w, [], run_append_owned_none w base T ty e fi ie.ty.sz (hT.el e he) hinf u xs.length us.flatten hown, .nil, by simpa using hown, ⟨rfl, rfl, rfl, Nat.le_refl _, fun _ _ _ => rfl⟩, fun k hk => .inl hk⟩
 ·obtain ⟨v, w', hrun, hown', hg, _, hblk⟩ := run_append_own_at (P := P) w base T ty e fi z ie.ty.sz ie.bytes (hT.el e he) hinf hz hs1 hs2 hzs (Ty.sz_pos _) u xs.length us.flatten hown ad ys.length c vs.flatten
   (F2.flat_len hfv) hc (F2.flat_one hfv) (by unfold maxLen; unfold LIM at hle; omega) (by unfold LIM at hlim; exact hlim) hb
  refine ⟨v, w', vs, hrun, hfv, by rw [List.flatten_append]; exact hown', hg, fun k hk => ?_⟩
  rw [← own_mblk hown'] at hk
  rw [← own_mblk hown]
  rcases hblk with h | h
  ·exact .inl (h ▸ hk)
  ·rw [h] at hk; simp only [Option.some.injEq] at hk; exact .inr (by omega)
theorem src_rd {rd : Nat → Option Row} {t : Ty} {x : AV} {u : Value} {ys : List t.D} (hrd : ∀ j r, rd j = some r → H[j]? = some r) (hH : HRel w ok base H m) (hx : rel w ok H m x u) (hy : leafD rd (.sl t) x = some ys) :
  Src w ok t ys u := by
 cases x <;> simp only [leafD, reduceCtorEq] at hy
 case v t' xs =>
  split at hy
  ·rename_i h
   subst h
   have hy : some xs = some ys := hy
   cases hy
   exact app_src hx
  ·simp at hy
 case nl =>
  cases hy
  exact .inl ⟨hx, rfl⟩
 case own id =>
  have hx : rel1 w ok H m (.own id) u := hx
  split at hy
  ·rename_i t' xs hr
   split at hy
   ·rename_i h
    subst h
    have hy : some xs = some ys := hy
    cases hy
    have hr := hrd _ _ hr
    simp only [rel1, hr] at hx
    obtain ⟨us, hf, ho⟩ := hH.hp id _ hr
    rw [hx.2]
    exact src_own hf ho
   ·simp at hy
  ·rename_i t' xs hr
   split at hy
   ·rename_i h
    subst h
    have hy : some xs = some ys := hy
    cases hy
    have hr := hrd _ _ hr
    simp only [rel1, hr] at hx
    exact app_src hx.2
   ·simp at hy
  ·simp at hy
theorem u8_cells {w : World} {ok : Nat → Prop} : ∀ {xs : List Int} {cs : List (List Value)}, F2 (Rd w ok (.int .u8)) xs cs → cs.flatten = xs.map (Value.int .u8)
 | [], _, .nil => rfl
 | x :: xs, _, .cons h t => by
  have h1 : _ = [Value.int .u8 x] := h
  rw [List.flatten_cons, u8_cells t, h1]
  rfl
theorem push_bytes : ∀ (ns : List Int) (s : ByteArray), ns.foldl (fun r n => r.push (UInt8.ofNat n.toNat)) s = ⟨s.data ++ (ns.map fun n => UInt8.ofNat n.toNat).toArray⟩
 | [], s => by simp
 | n :: ns, s => by
  rw [List.foldl_cons, push_bytes ns]
  simp [ByteArray.push]
theorem done_convB {S D e : TypeId} {X : Operand} {xs : List Int} (hD : P.underlying D = some .string) (hS : P.underlying S = some (.slice e)) (he : P.underlying e = some (.int .u8)) (hH : HRel w ok base H m) (ho : o.op = .convert S D X)
  (hx : Src w ok (.int .u8) xs (a.eval X)) : Done P o a w ok base H m (.v .str (strN xs)) [] := by
 refine Done.pure (u := .string (strN xs)) hH ?_ mk_str
 rw [execOp.eq_def]
 have hr : (Go.convert S D (a.eval X)).run P w = .ok (.string (strN xs)) w := by
  rcases hx with ⟨h, h0⟩ | ⟨ad, c, us, h, hf, hc⟩
  ·have h0 : xs = [] := h0
   subst h0
   rw [h, run_convert_bytes_string w S D e _ _ _ hS he hD]
   rfl
  ·rw [h, run_convert_bytes_string w S D e _ _ _ hS he hD]
   have hl : (us.flatten).length = xs.length := by rw [u8_cells hf]; simp
   have hL : (loadCells ad xs.length).run P w = .ok (xs.map (Value.int .u8)).toArray w := by
    have := run_loadCells_list (P := P) (w := w) ad us.flatten hc
    rw [hl, u8_cells hf] at this
    exact this
   have := run_bytesToString (P := P) w ad xs.length c xs hL
   rw [push_bytes] at this
   refine this.trans ?_
   simp [strN, ByteArray.empty, ByteArray.emptyWithCapacity]
   rfl
 simp [ho, hr]
theorem run_appB {T : Nat} {X Y : Operand} {v : Value} {w' : World} (ho : o.op = .call { callee := .builtin .append, args := #[X, Y], argTypes := #[T, T] })
  (h : (Builtin.append_ #[T, T] o.type #[a.eval X, a.eval Y]).run P w = .ok v w') : (execOp a.eval o).run P w = .ok (.value v) w' := by
 rw [execOp.eq_def]
 simp [ho, resolve, invoke, builtin, h]
theorem done_app_nl {T e nid : Nat} {X Y : Operand} {iT ie : TInfo} {x : AV} {ys : List ie.ty.D} {rd : Nat → Option Row} (hT : TOk P T iT) (he : iT.elem = some e) (hie : TOk P e ie)
  (hH : HRel w ok base H m) (hb : base ≤ w.heap.size) (hh : H[nid]? = some .hole) (ho : o.op = .call { callee := .builtin .append, args := #[X, Y], argTypes := #[T, T] })
  (hrd : ∀ j r, rd j = some r → H[j]? = some r) (hX : rel w ok H m .nl (a.eval X)) (hY : rel w ok H m x (a.eval Y)) (hy : leafD rd (.sl ie.ty) x = some ys)
  (hlim : ys.length * ie.bytes ≤ LIM) :
  Done P o a w ok base H m (.own nid) [(nid, .row e ie.ty ys)] := by
 have hX : a.eval X = .slice none 0 0 := hX
 obtain ⟨v, w', vs, hrun, hf, hown, hg, hbl⟩ := run_app (P := P) (u := .slice none 0 0) (xs := []) (us := []) hT he hie o.type hb ⟨by simp, .inl ⟨rfl, rfl⟩⟩ (src_rd hrd hH hY hy) (by simpa using hlim)
 have hB : Below w.heap.size w w' := ⟨hg.os, hg.tape, hg.output, hg.size, fun k hk => hg.block k hk (by simp [Value.ownBlock])⟩
 obtain ⟨m', h1, h2, h3⟩ := row_new (e := e) (t := ie.ty) (us := vs) (u := v) hH hh hB (hf.imp fun _ _ _ h => (Moves.of_below hB).rd h) (by simpa using hown) (by simp) (fun k hk => by
  rcases hbl k hk with h | h
  ·simp [mblk] at h
  ·exact h)
 exact ⟨v, w', ok, m', .inl (run_appB ho (hX ▸ hrun)), hB.mono hb, h1, h2, h3, fun k hk => .inl hk⟩
theorem done_app_own {T e nid id : Nat} {X Y : Operand} {iT ie : TInfo} {x : AV} {xs ys : List ie.ty.D} {rd : Nat → Option Row} (hT : TOk P T iT) (he : iT.elem = some e) (hie : TOk P e ie)
  (hH : HRel w ok base H m) (hb : base ≤ w.heap.size) (hh : H[nid]? = some .hole) (ho : o.op = .call { callee := .builtin .append, args := #[X, Y], argTypes := #[T, T] })
  (hrd : ∀ j r, rd j = some r → H[j]? = some r) (hr : H[id]? = some (.row e ie.ty xs)) (hX : rel w ok H m (.own id) (a.eval X)) (hY : rel w ok H m x (a.eval Y)) (hy : leafD rd (.sl ie.ty) x = some ys)
  (hlim : (xs.length + ys.length) * ie.bytes ≤ LIM) :
  Done P o a w ok base H m (.own nid) [(id, .dead), (nid, .row e ie.ty (xs ++ ys))] := by
 have hX : rel1 w ok H m (.own id) (a.eval X) := hX
 simp only [rel1, hr] at hX
 obtain ⟨_, hX⟩ := hX
 obtain ⟨us, hfx, hownx⟩ := hH.hp id _ hr
 obtain ⟨v, w', vs, hrun, hf, hown, hg, hbl⟩ := run_app (P := P) (xs := xs) (us := us) hT he hie o.type hb hownx (src_rd hrd hH hY hy) hlim
 have hob : (m id).ownBlock = mblk (m id) := by
  rcases hownx.2 with ⟨h, _⟩ | ⟨g, cap, cur, h, _⟩ <;> rw [h] <;> rfl
 rw [hob] at hg
 have hne : id ≠ nid := by rintro rfl; rw [hh] at hr; simp at hr
 have hbase : ∀ k, mblk (m id) = some k → base ≤ k := fun k hk => ((hH.hp id _ hr).lt rfl k hk).1
 have hB : Below base w w' := ⟨hg.os, hg.tape, hg.output, hg.size, fun k hk => hg.block k (by omega) (fun e => by have := hbase k e.symm; omega)⟩
 have hmv : Moves w w' ok ok := Moves.of_grown hg fun k hk => hH.sep id _ k hr rfl hk
 have hl1 := get_lt hr
 have hl2 := get_lt hh
 have e1 : ((H.set id .dead).set nid (.row e ie.ty (xs ++ ys)))[nid]? = some (.row e ie.ty (xs ++ ys)) := by simp [hl2]
 have e2 : ((H.set id .dead).set nid (.row e ie.ty (xs ++ ys)))[id]? = some .dead := by rw [List.getElem?_set_ne (Ne.symm hne)]; simp [hl1]
 have e3 : ∀ j, j ≠ id → j ≠ nid → ((H.set id .dead).set nid (.row e ie.ty (xs ++ ys)))[j]? = H[j]? := fun j h1 h2 => by rw [List.getElem?_set_ne (Ne.symm h2), List.getElem?_set_ne (Ne.symm h1)]
 have hst : HStep w w' ok ok H ((H.set id .dead).set nid (.row e ie.ty (xs ++ ys))) m (updM m nid v) := ⟨hmv, fun j q hq hnh => by
  have hj : j ≠ nid := by rintro rfl; rw [hh] at hq; simp at hq; exact hnh hq.symm
  refine ⟨updM_ne m v hj, ?_⟩
  by_cases hji : j = id
  ·subst hji; exact ⟨_, e2, .dead _⟩
  ·exact ⟨q, by rw [e3 j hji hj]; exact hq, .same q⟩⟩
 have hlast : rel w' ok ((H.set id .dead).set nid (.row e ie.ty (xs ++ ys))) (updM m nid v) (.own nid) v := by
  show rel1 w' ok _ _ (.own nid) v
  simp only [rel1, e1]
  refine ⟨?_, (updM_same m nid v).symm⟩
  rcases hown.2 with ⟨h, _⟩ | ⟨g, cap, cur, h, _⟩
  ·exact ⟨none, 0, 0, h⟩
  ·exact ⟨_, _, _, h⟩
 refine ⟨v, w', ok, updM m nid v, .inl (run_appB ho (hX ▸ hrun)), hB, ?_, hst, hlast, fun k hk => .inl hk⟩
 refine hH.upd (fun j => j = id ∨ j = nid) hst ?_ (fun j hj => ⟨e3 j (fun e => hj (.inl e)) (fun e => hj (.inr e)), updM_ne m v fun e => hj (.inr e)⟩) ?_ ?_ ?_ ?_
 ·intro k hk hn
  exact hg.block k hk fun e => hn id _ (.inl rfl) hr rfl e.symm
 ·rintro j r (rfl | rfl) hj
  ·have hj : ((H.set j .dead).set nid (.row e ie.ty (xs ++ ys)))[j]? = some r := hj
   rw [e2] at hj
   simp only [Option.some.injEq] at hj
   subst hj
   exact ⟨trivial, fun h => by simp [Row.live] at h⟩
  ·have hj : ((H.set id .dead).set j (.row e ie.ty (xs ++ ys)))[j]? = some r := hj
   rw [e1] at hj
   simp only [Option.some.injEq] at hj
   subst hj
   rw [updM_same]
   refine ⟨⟨us ++ vs, (hfx.append hf).imp fun _ _ _ h => hmv.rd h, by rw [List.length_append]; exact hown⟩, fun _ k hk => ?_⟩
   rcases hbl k hk with h | h
   ·exact ⟨hH.sep id _ k hr rfl h, .inr ⟨id, _, .inl rfl, hr, rfl, h⟩⟩
   ·exact ⟨fun hok => by have := hH.lt k hok; omega, .inl h⟩
 ·rintro i j ri rj k (rfl | rfl) (rfl | rfl) hi hj hli hlj h1 h2
  ·rfl
  ·have hi : ((H.set i .dead).set j (.row e ie.ty (xs ++ ys)))[i]? = some ri := hi
   rw [e2] at hi; simp only [Option.some.injEq] at hi; subst hi; simp [Row.live] at hli
  ·have hj : ((H.set j .dead).set i (.row e ie.ty (xs ++ ys)))[j]? = some rj := hj
   rw [e2] at hj; simp only [Option.some.injEq] at hj; subst hj; simp [Row.live] at hlj
  ·rfl
 ·exact fun k hk => Nat.lt_of_lt_of_le (hH.lt k hk) hmv.sz
 ·exact fun k hk _ => .inl hk
end
end Go.Proofs.YtlfdikofmfhefaaGreatDoor.Ev
set_option linter.unusedVariables false
set_option linter.unusedSimpArgs false
namespace Go.Proofs.YtlfdikofmfhefaaGreatDoor.Ev
open Go Go.RowKit
section
variable {P : Program} {E : Env} {o : Oper} {a : Act} {w : World} {ok : Nat → Prop} {base : Nat} {H : List Row} {m : Nat → Value}
theorem fold_poke {off : Nat} {l : List Value} {cs : Array Value} (h : off + l.length ≤ cs.size) :
  ((l.zipIdx 0).foldl (fun cs (x : Value × Nat) => cs.setIfInBounds (off + x.2) x.1) cs).toList = poke cs.toList off l := by
 obtain ⟨h1, h2⟩ := Great.foldl_set off l 0 cs
 apply List.ext_getElem?
 intro k
 have := h2 k
 rw [Array.getElem?_toList, this]
 unfold poke
 by_cases hk : k < off
 ·rw [if_neg (by omega), List.append_assoc, List.getElem?_append_left (by simp; omega), List.getElem?_take_of_lt hk]
  simp
 ·by_cases hk2 : k < off + l.length
  ·rw [if_pos ⟨by omega, by omega, by omega⟩, List.append_assoc, List.getElem?_append_right (by simp; omega), List.getElem?_append_left (by simp; omega)]
   congr 1
   simp; omega
  ·rw [if_neg (by omega), List.getElem?_append_right (by simp; omega), List.getElem?_drop]
   rw [Array.getElem?_toList]
   congr 1
   simp; omega
theorem fill_step {place : Nat → Option (Nat × Nat)} {cells : Array Value} {i off : Nat} {v : Value} {rest : List (Nat × Value)} (hp : place i = some (off, v.cells.size)) (h : off + v.cells.size ≤ cells.size) :
  ∃ cells' : Array Value, cells'.toList = poke cells.toList off v.cells.toList ∧ Instr.fill place cells ((i, v) :: rest) = Instr.fill place cells' rest := by
 refine ⟨_, fold_poke (off := off) (l := v.cells.toList) (cs := cells) (by simpa using h), ?_⟩
 conv => lhs; unfold Instr.fill
 simp only [hp]
 rw [if_neg (by simp; omega)]
 congr 1
 rw [← Array.foldl_toList, Array.toList_zipIdx]
theorem places_of {fs : List Field} (h : fs.all (fun f => (P.info? f.type).isSome) = true) :
  ∃ places, fs.mapM (fun f => (P.info? f.type).map fun i => (f.offset, i.size)) = some places ∧ ∀ (i : Nat) (f : Field) (fi : TypeInfo), fs[i]? = some f → P.info? f.type = some fi → places[i]? = some (f.offset, fi.size) := by
 induction fs with
 | nil => exact ⟨[], by simp, by simp⟩
 | cons f fs ih =>
  simp only [List.all_cons, Bool.and_eq_true] at h
  obtain ⟨pl, h1, h2⟩ := ih h.2
  obtain ⟨fi, hfi⟩ := Option.isSome_iff_exists.1 h.1
  refine ⟨(f.offset, fi.size) :: pl, by simp [List.mapM_cons, hfi, h1], fun i g gi hi hg => ?_⟩
  cases i with
  | zero =>
   simp only [List.getElem?_cons_zero, Option.some.injEq] at hi
   subst hi
   rw [hfi] at hg
   simp only [Option.some.injEq] at hg
   subst hg
   rfl
  | succ i => exact h2 i g gi (by simpa using hi) hg
theorem fillW_ok {fl : List (Nat × Nat)} {place : Nat → Option (Nat × Nat)} (hE : TyOk P E) (hpl : ∀ i off T ti, fl[i]? = some (off, T) → TOk P T ti → place i = some (off, ti.ty.sz)) :
  ∀ {ix : List Nat} {as : List AV} {vs : List Value} {cs cs' : List AV} {us : Array Value}, (∀ x ∈ as, plainB x = true) → F2 (rel w ok H m) as vs → F2 (rel1 w ok H m) cs us.toList →
   fillW fl E.tt (ix.zip as) cs = some cs' → ∃ us', Instr.fill place us (ix.zip vs) = some us' ∧ F2 (rel1 w ok H m) cs' us'.toList
 | [], as, vs, cs, cs', us, _, _, hc, h => by
  simp only [List.zip_nil_left, fillW, Option.some.injEq] at h
  subst h
  exact ⟨us, by simp [Instr.fill], hc⟩
 | i :: ix, [], _, cs, cs', us, _, .nil, hc, h => by
  simp only [List.zip_nil_right, fillW, Option.some.injEq] at h
  subst h
  exact ⟨us, by simp [Instr.fill], hc⟩
 | i :: ix, x :: as, _, cs, cs', us, hp, @F2.cons _ _ _ _ v _ vs hx hf, hc, h => by
  simp only [List.zip_cons_cons, fillW] at h
  split at h
  case h_2 => simp at h
  rename_i off T hi
  split at h
  case h_2 => simp at h
  rename_i ti hti
  cases hb : Nat.beq ti.ty.sz (cellsOf x).length with
  | false => simp [hb] at h
  | true =>
   simp only [hb, cond_true] at h
   split at h
   case h_2 => simp at h
   rename_i cs1 hcs
   obtain ⟨hle, rfl⟩ := pokeW_eq hcs
   have hb := Nat.eq_of_beq_eq_true hb
   have hxc := (cells_rel (hp x (by simp)) hx).1
   have hxl := hxc.length
   have hsz : v.cells.size = ti.ty.sz := by rw [← Array.length_toList, ← hxl, hb]
   have hcl := hc.length
   obtain ⟨us1, e1, e2⟩ := fill_step (place := place) (cells := us) (i := i) (off := off) (v := v) (rest := ix.zip vs) (by rw [hsz]; exact hpl i off T ti hi (hE T ti hti))
    (by rw [hsz, hb, ← Array.length_toList, ← hcl]; exact hle)
   obtain ⟨us', h1, h2⟩ := fillW_ok (place := place) hE hpl (ix := ix) (us := us1) (fun y hy => hp y (by simp [hy])) hf (by rw [e1]; exact hc.poke hxc off) h
   exact ⟨us', by rw [List.zip_cons_cons, e2, h1], h2⟩
theorem zip_eval {f : Operand → Value} : ∀ (l : List (Nat × Operand)), l.map (fun p => (p.1, f p.2)) = (l.map (·.1)).zip (l.map fun p => f p.2)
 | [] => rfl
 | x :: l => by simp [zip_eval l]
theorem done_build {T : Nat} {parts : Array (Nat × Operand)} {i : TInfo} {as cs : List AV} (hE : TyOk P E) (hT : TOk P T i) (hg : i.agg = true) (hH : HRel w ok base H m) (ho : o.op = .build T parts)
  (ha : F2 (rel w ok H m) as (parts.toList.map fun p => a.eval p.2)) (hpl : ∀ x ∈ as, plainB x = true) (hx : fillW i.fl E.tt ((parts.toList.map (·.1)).zip as) (zeroCells i.ty) = some cs) :
  Done P o a w ok base H m (.agg cs) [] := by
 obtain ⟨fs, hu, hfl, hall⟩ := hT.ag hg
 obtain ⟨fi, z, hinf, hs1, hs2, hz, hv⟩ := hT.inf
 obtain ⟨v0, e0, hf0, _⟩ := vz_rel (w := w) (ok := ok) (H := H) (m := m) hv
 rw [List.append_nil] at e0
 obtain ⟨places, hp1, hp2⟩ := places_of hall
 obtain ⟨us', h1, h2⟩ := fillW_ok (place := (places.toArray[·]?)) hE (fun j off T' ti hj hti => by
  rw [← hfl, List.getElem?_map] at hj
  cases hq : fs.toList[j]? with
  | none => simp [hq] at hj
  | some f =>
   simp only [hq, Option.map_some, Option.some.injEq, Prod.mk.injEq] at hj
   obtain ⟨rfl, rfl⟩ := hj
   obtain ⟨gi, gz, hgi, hgs, _⟩ := hti.inf
   simpa [hgs] using hp2 j f gi hq hgi) (ix := parts.toList.map (·.1)) (us := z.cells) hpl ha (by rw [e0]; exact hf0) hx
 have hb : P.built T ((parts.map fun x => (x.1, a.eval x.2)).toList) = some us' := by
  unfold Program.built
  simp only [hinf, hu, hz, hp1]
  rw [Array.toList_map, zip_eval]
  exact h1
 refine Done.pure (u := .agg us') hH ?_ ⟨us'.toList, by simp, h2⟩
 rw [execOp.eq_def]
 have := run_build (P := P) w T _ us' hb
 simp [ho, this]
theorem part_ok {T : Nat} {cs : List AV} {us : Array Value} {off : Nat} {av : AV} (hE : TyOk P E) (hf : F2 (rel1 w ok H m) cs us.toList) (ht : takeW E T (cs.drop off) = some av) :
  ∃ u, (part T us off).run P w = .ok u w ∧ rel2 w ok H m av u := by
 unfold takeW at ht
 cases hi : E_ti E T with
 | none => simp [hi] at ht
 | some i =>
  have hT := hE T i hi
  have hl' := hf.length
  simp only [hi] at ht
  cases hg : i.agg with
  | true =>
   simp only [hg, cond_true] at ht
   cases hl : Nat.ble i.ty.sz (cs.drop off).length with
   | false => simp only [hl, cond_false, reduceCtorEq] at ht
   | true =>
    simp only [hl, cond_true, Option.some.injEq] at ht
    subst ht
    refine ⟨.agg (us.extract off (off + i.ty.sz)), by simp [part, hT.isAgg, hg, hT.size], (us.extract off (off + i.ty.sz)).toList, by rw [Array.toArray_toList], ?_⟩
    rw [Array.toList_extract, List.extract_eq_take_drop, Nat.add_sub_cancel_left]
    exact (hf.drop off).take _
  | false =>
   simp only [hg, cond_false] at ht
   rw [List.head?_drop] at ht
   obtain ⟨u, hu, hr⟩ := hf.get ht
   refine ⟨u, ?_, rel1_rel2 hr⟩
   rw [Array.getElem?_toList] at hu
   simp only [part, Sem.run_bind, hT.isAgg, hg, Result.andThen_ok, Bool.false_eq_true, if_false]
   rw [hu]
   rfl
theorem done_field {S f off T : Nat} {X : Operand} {i : TInfo} {cs : List AV} {av : AV} (hE : TyOk P E) (hH : HRel w ok base H m) (ho : o.op = .field S X f) (hS : TOk P S i) (hg : i.agg = true) (hf : i.fl[f]? = some (off, T))
  (hX : rel w ok H m (.agg cs) (a.eval X)) (ht : takeW E T (cs.drop off) = some av) : Done P o a w ok base H m av [] := by
 obtain ⟨fs, fd, hu, hq, rfl, rfl⟩ := field_of hS hg hf
 obtain ⟨us, hX, hfu⟩ := hX
 obtain ⟨u, hr, hu'⟩ := part_ok (us := us.toArray) hE (by simpa using hfu) ht
 refine Done.pure (u := u) hH ?_ (rel2_rel hu')
 rw [execOp.eq_def]
 simp [ho, hX, Instr.field, run_underlying hu, hq, asAgg, hr]
end
end Go.Proofs.YtlfdikofmfhefaaGreatDoor.Ev
set_option linter.unusedVariables false
set_option linter.unusedSimpArgs false
namespace Go.Proofs.YtlfdikofmfhefaaGreatDoor.Ev
open Go Go.RowKit
section
variable {P : Program} {E : Env} {o : Oper} {a : Act} {w : World} {ok : Nat → Prop} {base : Nat} {H : List Row} {m : Nat → Value}
theorem Done.after {ok1 : Nat → Prop} {ups ups2 : List (Nat × Row)} {av : AV} (hbd : ∀ k, ok1 k → ok k ∨ base ≤ k) (hs : HStep w w ok ok1 H (setH H ups) m m) (h : Done P o a w ok1 base (setH H ups) m av ups2) : Done P o a w ok base H m av (ups ++ ups2) := by
 obtain ⟨u, w', ok', m', h1, h2, h3, h4, h5, h6⟩ := h
 exact ⟨u, w', ok', m', h1, h2, by rw [setH_append]; exact h3, by rw [setH_append]; exact hs.trans h4, by rw [setH_append]; exact h5, fun k hk => (h6 k hk).elim (hbd k) .inr⟩
theorem freeze_one {id e : Nat} {t : Ty} {xs : List t.D} (hH : HRel w ok base H m) (hr : H[id]? = some (.row e t xs)) :
  ∃ ok1, HRel w ok1 base (setH H [(id, .frz t xs)]) m ∧ HStep w w ok ok1 H (setH H [(id, .frz t xs)]) m m ∧ Rd w ok1 (.sl t) xs [m id] ∧ ∀ k, ok1 k → ok k ∨ base ≤ k := by
 obtain ⟨h1, h2⟩ := freeze_ok (fun j => j = id) hH (H' := setH H [(id, .frz t xs)]) (frz_at (l := []) _ (fun j r => by
  simp only [List.mem_singleton, Prod.mk.injEq]
  constructor
  ·rintro ⟨rfl, rfl⟩; exact ⟨rfl, e, t, xs, hr, rfl⟩
  ·rintro ⟨rfl, e', t', xs', h, rfl⟩
   rw [hr] at h
   simp only [Option.some.injEq, Row.row.injEq] at h
   obtain ⟨rfl, rfl, h⟩ := h
   cases h
   exact ⟨rfl, rfl⟩) (fun j hj => by subst hj; exact ⟨e, t, xs, hr⟩))
 exact ⟨_, h1, h2, row_rd hH hr (fun k hk => .inl hk) fun k hk => .inr ⟨id, _, rfl, hr, rfl, hk⟩, okF_bd hH⟩
theorem elT_ok {iT : TInfo} {t : Ty} (hE : TyOk P E) (h : elT E iT t = true) : ∃ e ie, iT.elem = some e ∧ TOk P e ie ∧ ie.ty = t := by
 unfold elT at h
 split at h
 ·rename_i e he
  split at h
  ·rename_i ie hie
   split at h
   ·rename_i ht; exact ⟨e, ie, he, hE e ie hie, ht⟩
   ·simp at h
  ·simp at h
 ·simp at h
theorem b2i {l : Int} (h : 0 ≤ l) {k : IntKind} : Value.int k l = .int k (l.toNat : Int) := by rw [Int.toNat_of_nonneg h]
def Bnd (x : Option Value) (i : Option Int) : Prop := (x = none ∧ i = none) ∨ ∃ k n, x = some (.int k n) ∧ i = some n
theorem done_sliceL {T e : Nat} {X : Operand} {lo hi : Option Operand} {iT ie : TInfo} {xs : List ie.ty.D} {l h : Option Int} {ups : List (Nat × Row)} {av : AV} (hT : TOk P T iT) (he : iT.elem = some e) (hie : TOk P e ie) (hH : HRel w ok base H m)
  (ho : o.op = .slice T X lo hi none) (hX : Rd w ok (.sl ie.ty) xs [a.eval X]) (hlo : Bnd (lo.map a.eval) l) (hhi : Bnd (hi.map a.eval) h)
  (hs : sliceW.go l h ie.ty xs ups = some (true, av, ups)) : Done P o a w ok base H m av [] := by
 rcases hlo with ⟨hlo, rfl⟩ | ⟨kl, l, hlo, rfl⟩ <;> rcases hhi with ⟨hhi, rfl⟩ | ⟨kh, h, hhi, rfl⟩ <;> simp only [sliceW.go, Option.some.injEq, Prod.mk.injEq, Bool.and_eq_true, decide_eq_true_eq, and_true, true_and] at hs
 ·subst hs
  have := done_slice_v (l := 0) (h := xs.length) (kl := .i64) (kh := .i64) hT he hie hH ho hX (.inl ⟨hlo, rfl⟩) (.inl ⟨hhi, rfl⟩) (Nat.zero_le _) (Nat.le_refl _)
  simpa using this
 ·obtain ⟨⟨h0, h1⟩, rfl⟩ := hs
  have := done_slice_v (l := 0) (h := h.toNat) (kl := .i64) (kh := kh) hT he hie hH ho hX (.inl ⟨hlo, rfl⟩) (.inr (by rw [hhi, b2i h0])) (Nat.zero_le _) (by omega)
  simpa using this
 ·obtain ⟨⟨h0, h1⟩, rfl⟩ := hs
  have := done_slice_v (l := l.toNat) (h := xs.length) (kl := kl) (kh := .i64) hT he hie hH ho hX (.inr (by rw [hlo, b2i h0])) (.inl ⟨hhi, rfl⟩) (by omega) (Nat.le_refl _)
  simpa using this
 ·obtain ⟨⟨⟨h0, h1⟩, h2⟩, rfl⟩ := hs
  exact done_slice_v (l := l.toNat) (h := h.toNat) (kl := kl) (kh := kh) hT he hie hH ho hX (.inr (by rw [hlo, b2i h0])) (.inr (by rw [hhi, b2i (by omega : 0 ≤ h)])) (by omega) (by omega)
theorem sliceGo_ups {l h : Option Int} {t : Ty} {xs : List t.D} {ups ups' : List (Nat × Row)} {c : Bool} {av : AV} (hs : sliceW.go l h t xs ups = some (c, av, ups')) : ups' = ups := by
 unfold sliceW.go at hs
 split at hs <;> simp only [Option.some.injEq, Prod.mk.injEq] at hs <;> exact hs.2.2.symm
theorem sliceGo_nil {l h : Option Int} {t : Ty} {xs : List t.D} {ups ups' : List (Nat × Row)} {c : Bool} {av : AV} (hs : sliceW.go l h t xs ups = some (c, av, ups')) : sliceW.go l h t xs [] = some (c, av, []) := by
 unfold sliceW.go at hs ⊢
 split at hs <;> simp only [Option.some.injEq, Prod.mk.injEq] at hs ⊢ <;> exact ⟨hs.1, hs.2.1, trivial⟩
theorem done_slice {T : Nat} {X : Operand} {lo hi : Option Operand} {x : AV} {l h : Option Int} {rd : Nat → Option Row} {ups : List (Nat × Row)} {av : AV} (hE : TyOk P E) (hH : HRel w ok base H m)
  (ho : o.op = .slice T X lo hi none) (hrd : ∀ j r, rd j = some r → H[j]? = some r) (hX : rel w ok H m x (a.eval X)) (hlo : Bnd (lo.map a.eval) l) (hhi : Bnd (hi.map a.eval) h) (hB : slicedB E rd T x = true)
  (hs : sliceW rd l h x = some (true, av, ups)) : Done P o a w ok base H m av ups := by
 unfold slicedB at hB
 cases hi' : E_ti E T with
 | none => simp [hi'] at hB
 | some iT =>
  have hT := hE T iT hi'
  simp only [hi'] at hB
  cases x with
  | v t x =>
   cases t with
   | str =>
    have hu := hT.st hB
    simp only [sliceW] at hs
    rcases hlo with ⟨hlo, rfl⟩ | ⟨kl, l, hlo, rfl⟩ <;> rcases hhi with ⟨hhi, rfl⟩ | ⟨kh, h, hhi, rfl⟩ <;> simp only [Option.some.injEq, Prod.mk.injEq, Bool.and_eq_true, decide_eq_true_eq, true_and] at hs
    ·obtain ⟨rfl, rfl⟩ := hs
     have := done_slice_s (l := 0) (h := ByteArray.size x) (kl := .i64) (kh := .i64) hu hH ho hX (.inl ⟨hlo, rfl⟩) (.inl ⟨hhi, rfl⟩) (Nat.zero_le _) (Nat.le_refl _)
     have e : ByteArray.extract x 0 (ByteArray.size x) = x := by
      have hx : ∀ b : ByteArray, b.extract 0 b.size = b := fun b => by simp
      exact hx x
     rw [e] at this
     exact this
    ·obtain ⟨⟨h0, h1⟩, rfl, rfl⟩ := hs
     exact done_slice_s (l := 0) (h := h.toNat) (kl := .i64) (kh := kh) hu hH ho hX (.inl ⟨hlo, rfl⟩) (.inr (by rw [hhi, b2i h0])) (Nat.zero_le _) (by omega)
    ·obtain ⟨⟨h0, h1⟩, rfl, rfl⟩ := hs
     exact done_slice_s (l := l.toNat) (h := ByteArray.size x) (kl := kl) (kh := .i64) hu hH ho hX (.inr (by rw [hlo, b2i h0])) (.inl ⟨hhi, rfl⟩) (by omega) (Nat.le_refl _)
    ·obtain ⟨⟨⟨h0, h1⟩, h2⟩, rfl, rfl⟩ := hs
     exact done_slice_s (l := l.toNat) (h := h.toNat) (kl := kl) (kh := kh) hu hH ho hX (.inr (by rw [hlo, b2i h0])) (.inr (by rw [hhi, b2i (by omega : 0 ≤ h)])) (by omega) (by omega)
   | sl t =>
    obtain ⟨e, ie, he, hie, rfl⟩ := elT_ok hE hB
    have hs : sliceW.go l h ie.ty x [] = some (true, av, ups) := hs
    have hu := sliceGo_ups hs
    subst hu
    exact done_sliceL hT he hie hH ho hX hlo hhi hs
   | _ => simp at hB
  | own id =>
   simp only [sliceW] at hs
   have hX' : rel1 w ok H m (.own id) (a.eval X) := hX
   cases hr : rd id with
   | none => simp [hr] at hB
   | some r =>
    have hr' := hrd _ _ hr
    simp only [rel1, hr'] at hX'
    cases r <;> simp only [hr, Bool.false_eq_true] at hB hs
    case row e' t xs =>
     obtain ⟨e, ie, he, hie, rfl⟩ := elT_ok hE hB
     have hu := sliceGo_ups hs
     subst hu
     obtain ⟨ok1, h1, h2, h3, h4⟩ := freeze_one hH hr'
     have hX2 : a.eval X = m id := hX'.2
     have := done_sliceL hT he hie h1 ho (hX2 ▸ h3) hlo hhi (sliceGo_nil hs)
     simpa using Done.after h4 h2 this
    case frz t xs =>
     obtain ⟨e, ie, he, hie, rfl⟩ := elT_ok hE hB
     have hu := sliceGo_ups hs
     subst hu
     exact done_sliceL hT he hie hH ho hX'.2 hlo hhi hs
  | _ => simp at hB
theorem done_max {X Y : Operand} {T : Array TypeId} {k : IntKind} {x y : Int} (hH : HRel w ok base H m) (ho : o.op = .call { callee := .builtin .max, args := #[X, Y], argTypes := T })
  (hX : rel w ok H m (.v (.int k) x) (a.eval X)) (hY : rel w ok H m (.v (.int k) y) (a.eval Y)) : Done P o a w ok base H m (.v (.int k) (if y > x then y else x : Int)) [] := by
 refine Done.pure (u := .int k (if y > x then y else x)) hH ?_ mk_int
 rw [execOp.eq_def]
 simp [ho, resolve, invoke, builtin, rd_int hX, rd_int hY, Builtin.max_, Builtin.max2]
theorem done_min {X Y : Operand} {T : Array TypeId} {k : IntKind} {x y : Int} (hH : HRel w ok base H m) (ho : o.op = .call { callee := .builtin .min, args := #[X, Y], argTypes := T })
  (hX : rel w ok H m (.v (.int k) x) (a.eval X)) (hY : rel w ok H m (.v (.int k) y) (a.eval Y)) : Done P o a w ok base H m (.v (.int k) (if y < x then y else x : Int)) [] := by
 refine Done.pure (u := .int k (if y < x then y else x)) hH ?_ mk_int
 rw [execOp.eq_def]
 simp [ho, resolve, invoke, builtin, rd_int hX, rd_int hY, Builtin.min_, Builtin.min2]
theorem len_ok {rd : Nat → Option Row} {x : AV} {u : Value} {n : Int} {T : Nat} (ty : Nat) (hE : TyOk P E) (hH : HRel w ok base H m) (hrd : ∀ j r, rd j = some r → H[j]? = some r) (hx : rel w ok H m x u) (hB : lenB E T x = true) (h : lenW rd x = some n) :
  (Builtin.len_ #[T] ty #[u]).run P w = .ok (.int .i64 n) w := by
 unfold lenB at hB
 cases hi : E_ti E T with
 | none => simp [hi] at hB
 | some iT =>
 have hT := hE T iT hi
 simp only [hi] at hB
 have lsl : strB x = false → ∀ (p : Option Addr) (n c : Nat), (Builtin.len_ #[T] ty #[.slice p n c]).run P w = .ok (.int .i64 n) w := by
  intro hs p n c
  rw [hs] at hB
  obtain ⟨e, he⟩ := Option.isSome_iff_exists.1 hB
  simp [Builtin.len_, run_underlying (hT.el e he), goInt]
 have sl : strB x = false → ∀ {t : Ty} {xs : List t.D} {u : Value}, Rd w ok (.sl t) xs [u] → (Builtin.len_ #[T] ty #[u]).run P w = .ok (.int .i64 (xs.length : Int)) w := by
  intro hs t xs u hu
  obtain ⟨p, c, rfl, _⟩ := sl_form hu
  exact lsl hs _ _ _
 cases x <;> simp only [lenW, reduceCtorEq] at h
 case v t x =>
  cases t <;> simp only [reduceCtorEq, Option.some.injEq] at h
  case sl t => subst h; exact sl rfl hx
  case str =>
   have hx := rd_str hx
   subst h
   subst hx
   have hs := hT.st hB
   simp [Builtin.len_, run_underlying hs, goInt]
 case nl =>
  simp only [Option.some.injEq] at h
  have hx : u = .slice none 0 0 := hx
  subst h; subst hx
  exact lsl rfl _ _ _
 case own id =>
  have hx : rel1 w ok H m (.own id) u := hx
  split at h
  ·rename_i e t xs hr
   have hr := hrd _ _ hr
   simp only [rel1, hr] at hx
   obtain ⟨us, hf, ho⟩ := hH.hp id _ hr
   simp only [Option.some.injEq] at h
   subst h
   rw [hx.2]
   rcases ho.2 with ⟨h1, h2⟩ | ⟨g, cap, cur, h1, _⟩
   ·rw [h1, h2]; exact lsl rfl _ _ _
   ·rw [h1]; exact lsl rfl _ _ _
  ·rename_i t xs hr
   have hr := hrd _ _ hr
   simp only [rel1, hr] at hx
   simp only [Option.some.injEq] at h
   subst h
   exact sl rfl hx.2
  ·simp at h
theorem done_lenC {X : Operand} {T : Nat} {x : AV} {n : Int} {rd : Nat → Option Row} (hE : TyOk P E) (hH : HRel w ok base H m) (ho : o.op = .call { callee := .builtin .len, args := #[X], argTypes := #[T] })
  (hrd : ∀ j r, rd j = some r → H[j]? = some r) (hx : rel w ok H m x (a.eval X)) (hB : lenB E T x = true) (h : lenW rd x = some n) : Done P o a w ok base H m (.v (.int .i64) n) [] :=
 done_len (x := x) hH ho ⟨_, rfl, len_ok o.type hE hH hrd hx hB h⟩
theorem rp_load {cs : List AV} {u : Value} (hu : rel w ok H m (.rp cs) u) : ∃ ad us, u = .pointer (some ad) ∧ Cells w ad us ∧ F2 (rel1 w ok H m) cs us := by
 obtain ⟨ad, us, rfl, _, _, hc, hf⟩ := (hu : rel1 w ok H m (.rp cs) u)
 exact ⟨ad, us, rfl, hc, hf.imp fun _ _ _ h => rel0_rel1 h⟩
theorem done_indexF {T e : Nat} {X I : Operand} {iT ie : TInfo} {k : IntKind} {i : Int} {id : Nat} {xs : List ie.ty.D} (hT : TOk P T iT) (he : iT.elem = some e) (hie : TOk P e ie) (hH : HRel w ok base H m)
  (ho : o.op = .indexAddr T X I) (hr : H[id]? = some (.frz ie.ty xs)) (hX : rel w ok H m (.own id) (a.eval X)) (hI : rel w ok H m (.v (.int k) i) (a.eval I)) (h0 : 0 ≤ i) (h1 : i < xs.length) :
  Done P o a w ok base H m (.rp (explode ie.ty (xs.getD i.toNat ie.ty.z))) [] := by
 have hX : rel1 w ok H m (.own id) (a.eval X) := hX
 simp only [rel1, hr] at hX
 exact done_index_v hT he hie hH ho hX.2 hI h0 h1
end
end Go.Proofs.YtlfdikofmfhefaaGreatDoor.Ev
