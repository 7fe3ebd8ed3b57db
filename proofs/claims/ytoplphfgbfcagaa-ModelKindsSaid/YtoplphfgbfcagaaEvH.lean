/-
Rows that are made, read, stored into, cut and appended to: as the machine does them.
Conditions: as in the parts before.
-/
import Derived.Test.YtoplphfgbfcagaaEvG
set_option linter.unusedVariables false
set_option linter.unusedSimpArgs false
namespace Go.Proofs.Ytoplphfgbfcagaa.Ev
open Go Go.RowKit

section
variable {P : Program} {E : Env} {o : Oper} {a : Act} {w : World} {ok : Nat → Prop} {base : Nat} {H : List Row} {m : Nat → Value}

theorem ownsRow_setRow {b e sz n cap off : Nat} {vs : List Value} {xs : List Value} (h : w.ownsRow base e sz (.slice (some ⟨b, 0, none⟩) n cap) n xs) (hl : off + vs.length ≤ n * sz) :
    ∃ cur, w.heap[b]? = some (.cells cur e (0, 0)) ∧ off + vs.length ≤ cur.size ∧ base ≤ b ∧
      (w.setRow b (poke cur.toList off vs).toArray).ownsRow base e sz (.slice (some ⟨b, 0, none⟩) n cap) n (poke xs off vs) := by
  rcases h.2 with ⟨h', _⟩ | ⟨g, cap', cur, h', hb, hg, hnc, hcm, hcs, ht⟩
  · simp at h'
  · simp only [Value.slice.injEq, Option.some.injEq, Addr.mk.injEq, and_true, true_and] at h'
    obtain ⟨rfl, rfl⟩ := h'
    have hle : n * sz ≤ cur.size := by rw [hcs]; exact Nat.mul_le_mul_right _ hnc
    have hle' : n * sz ≤ cur.toList.length := by simpa using hle
    refine ⟨cur, hg, Nat.le_trans hl hle, hb, ?_, .inr ⟨b, cap, _, rfl, hb, setRow_heap w b cur _ e (0, 0) hg, hnc, hcm, ?_, ?_⟩⟩
    · rw [poke_len (by rw [h.1]; exact hl)]; exact h.1
    · rw [← hcs, List.size_toArray, poke_len (by omega), Array.length_toList]
    · rw [← ht]
      exact poke_take hl hle'
theorem F2_set {t : Ty} {xs : List t.D} {us : List (List Value)} {i : Nat} {y : t.D} {p : List Value} (h : F2 (Rd w ok t) xs us) (hr : Rd w ok t y p) : F2 (Rd w ok t) (xs.set i y) (us.set i p) := h.set i hr

theorem done_store_pe {T id i off e : Nat} {t : Ty} {X Y : Operand} {iT : TInfo} {xs : List t.D} {cs' : List AV} {x : AV} {y : t.D} {rd : Nat → Option Row} (hT : TOk P T iT) (hH : HRel w ok base H m) (ho : o.op = .store T X Y)
    (hrd : ∀ j r, rd j = some r → H[j]? = some r) (hrd' : ∀ j, AV.own j ∈ cellsOf x → rd j = H[j]?)
    (hb : H[id]? = some (.row e t xs)) (hX : rel w ok H m (.pe id i off) (a.eval X)) (hY : rel w ok H m x (a.eval Y)) (hp : plainB x = true) (hs : (cellsOf x).length = iT.ty.sz)
    (hk : pokeW (explode t (xs.getD i t.z)) (cellsOf x) off = some cs') (hy : toD rd t (.agg cs') = some y) (hid : AV.own id ∉ cellsOf x) :
    Done P o a w ok base H m .un (frz rd x ++ [(id, .row e t (xs.set i y))]) := by
  obtain ⟨hle, rfl⟩ := pokeW_eq hk
  -- the own rows in what is stored
  have hFr := freeze_ok (fun j => AV.own j ∈ cellsOf x) hH (H' := setH H (frz rd x)) (frz_at (l := []) _ (fun j r => by
      rw [frz_mem]
      constructor
      · rintro ⟨h1, h2⟩; exact ⟨h1, by rw [← hrd' j h1]; exact h2⟩
      · rintro ⟨h1, h2⟩; exact ⟨h1, by rw [hrd' j h1]; exact h2⟩) (fun j hj cs hq => by
      obtain ⟨k, hk⟩ := List.getElem?_of_mem hj
      obtain ⟨hf, _⟩ := cells_rel hp hY
      obtain ⟨u, _, hu⟩ := hf.get hk
      simp only [rel1, hq] at hu
      exact hu.2))
  obtain ⟨hH1, hst1⟩ := hFr
  generalize hok1 : okF ok (fun j => AV.own j ∈ cellsOf x) H m = ok1 at hH1 hst1
  have hbd : ∀ k, ok1 k → ok k ∨ base ≤ k := by rw [← hok1]; exact okF_bd hH
  obtain ⟨hf, h1⟩ := cells_rel hp hY
  have hid1 : (setH H (frz rd x))[id]? = some (.row e t xs) := by
    rw [setH_other, hb]
    intro hm
    obtain ⟨r, hr⟩ := fsts_mem.1 hm
    exact hid (frz_mem.1 hr).1
  obtain ⟨us, hus, hown⟩ := hH1.hp id _ hid1
  have hX' : rel1 w ok H m (.pe id i off) (a.eval X) := hX
  simp only [rel1, hb] at hX'
  obtain ⟨_, hi, b, n, c, hm, hX'⟩ := hX'
  rw [hm] at hown
  have hn : n = xs.length := by
    rcases hown.2 with ⟨h', _⟩ | ⟨g, cap', cur, h', _⟩
    · simp at h'
    · simp only [Value.slice.injEq] at h'; exact h'.2.1
  subst hn
  obtain ⟨p, hp', hrp⟩ := hus.get (List.getElem?_eq_getElem hi)
  have hgd : xs.getD i t.z = xs[i] := by simp [List.getD, List.getElem?_eq_getElem hi]
  rw [hgd] at hle hy
  have hpl := Rd_len hrp
  have hel := (explode_rel hrp).length
  have hfl := hf.length
  have hol : off + (a.eval Y).cells.toList.length ≤ t.sz := by rw [← hfl, ← hpl, ← hel]; exact hle
  -- the element that is written
  have hey : Rd w ok1 t y (poke p off (a.eval Y).cells.toList) := by
    have hxe : rel w ok H m (.agg (poke (explode t xs[i]) off (cellsOf x))) (.agg (poke p off (a.eval Y).cells.toList).toArray) := by
      refine ⟨poke p off (a.eval Y).cells.toList, rfl, ?_⟩
      obtain ⟨us0, hus0, hown0⟩ := hH.hp id _ hb
      rw [hm] at hown0
      obtain ⟨p0, hp0, hrp0⟩ := hus0.get (List.getElem?_eq_getElem hi)
      have : p0 = p := by
        obtain ⟨r0, hr0⟩ := flat_drop hus0.lens hp0
        obtain ⟨r1, hr1⟩ := flat_drop hus.lens hp'
        have hfl0 : us0.flatten = us.flatten := by
          rcases hown0.2 with ⟨h', _⟩ | ⟨g, cap', cur, h', _, hg, _, _, _, ht⟩
          · simp at h'
          · rcases hown.2 with ⟨h'', _⟩ | ⟨g2, cap2, cur2, h'', _, hg2, _, _, _, ht2⟩
            · simp at h''
            · simp only [Value.slice.injEq, Option.some.injEq, Addr.mk.injEq, and_true, true_and] at h' h''
              obtain ⟨rfl, rfl⟩ := h'
              obtain ⟨rfl, rfl⟩ := h''
              rw [hg] at hg2
              simp only [Option.some.injEq, Obj.cells.injEq] at hg2
              rw [← ht, ← ht2, hg2.1]
        rw [hfl0, hr1] at hr0
        have := Rd_len hrp0
        exact (List.append_inj_left hr0.symm (by rw [this, hpl]))
      subst this
      exact ((explode_rel hrp0).imp fun _ _ _ h => rel0_rel1 h).poke hf off
    have := toD_rd (ok' := ok1) hrd (fun k hk => by rw [← hok1]; exact .inl hk) (fun j e' t' xs' hj hr => ?_) hxe hy
    · simpa [Value.cells] using this
    · have hj' : AV.own j ∈ cellsOf x := by
        have hj : AV.own j ∈ poke (explode t xs[i]) off (cellsOf x) := hj
        unfold poke at hj
        have hno : ∀ (t : Ty) (z : t.D), AV.own j ∉ explode t z := by
          intro t
          induction t with
          | pair a b iha ihb => intro z; simp only [explode, List.mem_append, not_or]; exact ⟨iha _, ihb _⟩
          | _ => intro z; simp [explode]
        rcases List.mem_append.1 hj with hj | hj
        · rcases List.mem_append.1 hj with hj | hj
          · exact absurd (List.mem_of_mem_take hj) (hno _ _)
          · exact hj
        · exact absurd (List.mem_of_mem_drop hj) (hno _ _)
      exact row_rd hH hr (fun k hk => by rw [← hok1]; exact .inl hk) fun k hk => by rw [← hok1]; exact .inr ⟨j, _, hj', hr, rfl, hk⟩
  -- the store
  have hix : i * t.sz + off + (a.eval Y).cells.toList.length ≤ xs.length * t.sz := by
    have : (i + 1) * t.sz ≤ xs.length * t.sz := Nat.mul_le_mul_right _ hi
    rw [Nat.add_mul] at this
    omega
  obtain ⟨cur, hh, hcl, hbs, hown'⟩ := ownsRow_setRow (vs := (a.eval Y).cells.toList) hown hix
  have hsz : (a.eval Y).cells.size = iT.ty.sz := by rw [← Array.length_toList, ← hfl, hs]
  have hrun := storeVar_ok (w := w) hT (off := i * t.sz + off) hh hsz (by simpa using hcl) h1
  rw [← poke_flat hol hus.lens hp'] at hown'
  generalize hW : w.setRow b (poke cur.toList (i * t.sz + off) (a.eval Y).cells.toList).toArray = W at hrun hown'
  have hset : ((setH H (frz rd x)).set id (.row e t (xs.set i y)))[id]? = some (.row e t (xs.set i y)) := by simp [get_lt hid1]
  have hne : ∀ k, ok1 k → k ≠ b := fun k hk e' => hH1.sep id _ b hid1 rfl (by rw [hm]; rfl) (e' ▸ hk)
  have hmv : Moves w W ok1 ok1 := by subst hW; exact ⟨by simp, fun k hk _ => ⟨setRow_other w b k _ (hne k hk), hk⟩⟩
  have hstep : HStep w W ok1 ok1 (setH H (frz rd x)) ((setH H (frz rd x)).set id (.row e t (xs.set i y))) m m := by
    refine ⟨hmv, fun j r hr hh' => ⟨rfl, ?_⟩⟩
    by_cases hj : j = id
    · subst hj
      rw [hid1] at hr
      simp only [Option.some.injEq] at hr
      subst hr
      exact ⟨_, hset, .row e t xs _ (by simp)⟩
    · exact ⟨r, by rw [List.getElem?_set_ne (Ne.symm hj)]; exact hr, .same r⟩
  refine ⟨undef, W, ok1, m, .inr ⟨?_, rfl⟩, hW ▸ below_setRow hbs _, ?_, ?_, trivial, hbd⟩
  · rw [execOp.eq_def]
    simp [ho, hX', Instr.storeAt, Instr.sureAddr, hrun]
  · rw [setH_append]
    show HRel W ok1 base ((setH H (frz rd x)).set id _) m
    refine hH1.upd (fun j => j = id) hstep ?_ (fun j hj => ⟨List.getElem?_set_ne (Ne.symm hj), rfl⟩) ?_ ?_ ?_ ?_
    · intro k _ hne'
      rw [← hW]
      refine setRow_other w b k _ fun e' => ?_
      exact hne' id _ rfl hid1 rfl (by rw [hm, e']; rfl)
    · rintro j r rfl hr
      rw [hset] at hr
      simp only [Option.some.injEq] at hr
      subst hr
      refine ⟨⟨us.set i (poke p off (a.eval Y).cells.toList), F2_set (hus.imp fun _ _ _ h => hmv.rd h) (hmv.rd hey), by rw [hm, List.length_set]; exact hown'⟩, fun _ k hk => ⟨fun hok => hH1.sep j _ k hid1 rfl hk hok, .inr ⟨j, _, rfl, hid1, rfl, hk⟩⟩⟩
    · rintro _ _ _ _ _ rfl rfl _ _ _ _ _ _
      rfl
    · exact fun k hk => Nat.lt_of_lt_of_le (hH1.lt k hk) hmv.sz
    · exact fun k hk _ => .inl hk
  · rw [setH_append]
    exact hst1.trans hstep
end
end Go.Proofs.Ytoplphfgbfcagaa.Ev
