/-
One operation, whichever it is: what the evaluator's step says, the machine does.
Conditions: the table of types is the program's; the operands' values stand in the relation; a place for a new row is kept free.
-/
import Derived.Test.YtoplphfgbfcagaaEvJ
set_option linter.unusedVariables false
set_option linter.unusedSimpArgs false
namespace Go.Proofs.Ytoplphfgbfcagaa.Ev
open Go Go.RowKit

section
variable {P : Program} {E : Env} {o : Oper} {a : Act} {w : World} {ok : Nat → Prop} {base : Nat} {H : List Row} {m : Nat → Value}

theorem Done.after {ok1 : Nat → Prop} {ups ups2 : List (Nat × Row)} {av : AV} (hbd : ∀ k, ok1 k → ok k ∨ base ≤ k) (hs : HStep w w ok ok1 H (setH H ups) m m) (h : Done P o a w ok1 base (setH H ups) m av ups2) : Done P o a w ok base H m av (ups ++ ups2) := by
  obtain ⟨u, w', ok', m', h1, h2, h3, h4, h5, h6⟩ := h
  exact ⟨u, w', ok', m', h1, h2, by rw [setH_append]; exact h3, by rw [setH_append]; exact hs.trans h4, by rw [setH_append]; exact h5, fun k hk => (h6 k hk).elim (hbd k) .inr⟩
theorem freeze_one {id e : Nat} {t : Ty} {xs : List t.D} (hH : HRel w ok base H m) (hr : H[id]? = some (.row e t xs)) :
    ∃ ok1, HRel w ok1 base (setH H [(id, .frz t xs)]) m ∧ HStep w w ok ok1 H (setH H [(id, .frz t xs)]) m m ∧ Rd w ok1 (.sl t) xs [m id] ∧ ∀ k, ok1 k → ok k ∨ base ≤ k := by
  obtain ⟨h1, h2⟩ := freeze_ok (fun j => j = id) hH (H' := setH H [(id, .frz t xs)]) (frz_at (l := []) _ (fun j r => by
    simp only [List.mem_singleton, Prod.mk.injEq]
    constructor
    · rintro ⟨rfl, rfl⟩; exact ⟨rfl, e, t, xs, hr, rfl⟩
    · rintro ⟨rfl, e', t', xs', h, rfl⟩
      rw [hr] at h
      simp only [Option.some.injEq, Row.row.injEq] at h
      obtain ⟨rfl, rfl, h⟩ := h
      cases h
      exact ⟨rfl, rfl⟩) (fun j hj cs h => by subst hj; rw [hr] at h; simp at h))
  exact ⟨_, h1, h2, row_rd hH hr (fun k hk => .inl hk) fun k hk => .inr ⟨id, _, rfl, hr, rfl, hk⟩, okF_bd hH⟩

theorem elT_ok {iT : TInfo} {t : Ty} (hE : TyOk P E) (h : elT E iT t = true) : ∃ e ie, iT.elem = some e ∧ TOk P e ie ∧ ie.ty = t := by
  unfold elT at h
  split at h
  · rename_i e he
    split at h
    · rename_i ie hie
      split at h
      · rename_i ht; exact ⟨e, ie, he, hE e ie hie, ht⟩
      · simp at h
    · simp at h
  · simp at h

theorem b2i {l : Int} (h : 0 ≤ l) {k : IntKind} : Value.int k l = .int k (l.toNat : Int) := by rw [Int.toNat_of_nonneg h]

/-- The bounds of a slice expression, as the machine sees them. -/
def Bnd (x : Option Value) (i : Option Int) : Prop := (x = none ∧ i = none) ∨ ∃ k n, x = some (.int k n) ∧ i = some n

theorem done_sliceL {T e : Nat} {X : Operand} {lo hi : Option Operand} {iT ie : TInfo} {xs : List ie.ty.D} {l h : Option Int} {ups : List (Nat × Row)} {av : AV} (hT : TOk P T iT) (he : iT.elem = some e) (hie : TOk P e ie) (hH : HRel w ok base H m)
    (ho : o.op = .slice T X lo hi none) (hX : Rd w ok (.sl ie.ty) xs [a.eval X]) (hlo : Bnd (lo.map a.eval) l) (hhi : Bnd (hi.map a.eval) h)
    (hs : sliceW.go l h ie.ty xs ups = some (true, av, ups)) : Done P o a w ok base H m av [] := by
  rcases hlo with ⟨hlo, rfl⟩ | ⟨kl, l, hlo, rfl⟩ <;> rcases hhi with ⟨hhi, rfl⟩ | ⟨kh, h, hhi, rfl⟩ <;> simp only [sliceW.go, Option.some.injEq, Prod.mk.injEq, Bool.and_eq_true, decide_eq_true_eq, and_true, true_and] at hs
  · subst hs
    have := done_slice_v (l := 0) (h := xs.length) (kl := .i64) (kh := .i64) hT he hie hH ho hX (.inl ⟨hlo, rfl⟩) (.inl ⟨hhi, rfl⟩) (Nat.zero_le _) (Nat.le_refl _)
    simpa using this
  · obtain ⟨⟨h0, h1⟩, rfl⟩ := hs
    have := done_slice_v (l := 0) (h := h.toNat) (kl := .i64) (kh := kh) hT he hie hH ho hX (.inl ⟨hlo, rfl⟩) (.inr (by rw [hhi, b2i h0])) (Nat.zero_le _) (by omega)
    simpa using this
  · obtain ⟨⟨h0, h1⟩, rfl⟩ := hs
    have := done_slice_v (l := l.toNat) (h := xs.length) (kl := kl) (kh := .i64) hT he hie hH ho hX (.inr (by rw [hlo, b2i h0])) (.inl ⟨hhi, rfl⟩) (by omega) (Nat.le_refl _)
    simpa using this
  · obtain ⟨⟨⟨h0, h1⟩, h2⟩, rfl⟩ := hs
    exact done_slice_v (l := l.toNat) (h := h.toNat) (kl := kl) (kh := kh) hT he hie hH ho hX (.inr (by rw [hlo, b2i h0])) (.inr (by rw [hhi, b2i (by omega : 0 ≤ h)])) (by omega) (by omega)
theorem sliceGo_ups {l h : Option Int} {t : Ty} {xs : List t.D} {ups ups' : List (Nat × Row)} {c : Bool} {av : AV} (hs : sliceW.go l h t xs ups = some (c, av, ups')) : ups' = ups := by
  unfold sliceW.go at hs
  split at hs <;> simp only [Option.some.injEq, Prod.mk.injEq] at hs <;> exact hs.2.2.symm
theorem sliceGo_nil {l h : Option Int} {t : Ty} {xs : List t.D} {ups ups' : List (Nat × Row)} {c : Bool} {av : AV} (hs : sliceW.go l h t xs ups = some (c, av, ups')) : sliceW.go l h t xs [] = some (c, av, []) := by
  unfold sliceW.go at hs ⊢
  split at hs <;> simp only [Option.some.injEq, Prod.mk.injEq] at hs ⊢ <;> exact ⟨hs.1, hs.2.1, trivial⟩

theorem done_slice {T : Nat} {X : Operand} {lo hi : Option Operand} {x : AV} {l h : Option Int} {rd : Nat → Option Row} {ups : List (Nat × Row)} {av : AV} (hE : TyOk P E) (hH : HRel w ok base H m)
    (ho : o.op = .slice T X lo hi none) (hrd : ∀ j r, rd j = some r → H[j]? = some r) (hX : rel w ok H m x (a.eval X)) (hlo : Bnd (lo.map a.eval) l) (hhi : Bnd (hi.map a.eval) h) (hB : slicedB E rd T x = true)
    (hs : sliceW rd l h x = some (true, av, ups)) : Done P o a w ok base H m av ups := by
  unfold slicedB at hB
  cases hi' : E_ti E T with
  | none => simp [hi'] at hB
  | some iT =>
    have hT := hE T iT hi'
    simp only [hi'] at hB
    cases x with
    | v t x =>
      cases t with
      | str =>
        have hu := hT.st hB
        simp only [sliceW] at hs
        rcases hlo with ⟨hlo, rfl⟩ | ⟨kl, l, hlo, rfl⟩ <;> rcases hhi with ⟨hhi, rfl⟩ | ⟨kh, h, hhi, rfl⟩ <;> simp only [Option.some.injEq, Prod.mk.injEq, Bool.and_eq_true, decide_eq_true_eq, true_and] at hs
        · obtain ⟨rfl, rfl⟩ := hs
          have := done_slice_s (l := 0) (h := ByteArray.size x) (kl := .i64) (kh := .i64) hu hH ho hX (.inl ⟨hlo, rfl⟩) (.inl ⟨hhi, rfl⟩) (Nat.zero_le _) (Nat.le_refl _)
          have e : ByteArray.extract x 0 (ByteArray.size x) = x := by
            have hx : ∀ b : ByteArray, b.extract 0 b.size = b := fun b => by simp
            exact hx x
          rw [e] at this
          exact this
        · obtain ⟨⟨h0, h1⟩, rfl, rfl⟩ := hs
          exact done_slice_s (l := 0) (h := h.toNat) (kl := .i64) (kh := kh) hu hH ho hX (.inl ⟨hlo, rfl⟩) (.inr (by rw [hhi, b2i h0])) (Nat.zero_le _) (by omega)
        · obtain ⟨⟨h0, h1⟩, rfl, rfl⟩ := hs
          exact done_slice_s (l := l.toNat) (h := ByteArray.size x) (kl := kl) (kh := .i64) hu hH ho hX (.inr (by rw [hlo, b2i h0])) (.inl ⟨hhi, rfl⟩) (by omega) (Nat.le_refl _)
        · obtain ⟨⟨⟨h0, h1⟩, h2⟩, rfl, rfl⟩ := hs
          exact done_slice_s (l := l.toNat) (h := h.toNat) (kl := kl) (kh := kh) hu hH ho hX (.inr (by rw [hlo, b2i h0])) (.inr (by rw [hhi, b2i (by omega : 0 ≤ h)])) (by omega) (by omega)
      | sl t =>
        obtain ⟨e, ie, he, hie, rfl⟩ := elT_ok hE hB
        have hs : sliceW.go l h ie.ty x [] = some (true, av, ups) := hs
        have hu := sliceGo_ups hs
        subst hu
        exact done_sliceL hT he hie hH ho hX hlo hhi hs
      | _ => simp at hB
    | own id =>
      simp only [sliceW] at hs
      have hX' : rel1 w ok H m (.own id) (a.eval X) := hX
      cases hr : rd id with
      | none => simp [hr] at hB
      | some r =>
        have hr' := hrd _ _ hr
        simp only [rel1, hr'] at hX'
        cases r <;> simp only [hr, Bool.false_eq_true] at hB hs
        case row e' t xs =>
          obtain ⟨e, ie, he, hie, rfl⟩ := elT_ok hE hB
          have hu := sliceGo_ups hs
          subst hu
          obtain ⟨ok1, h1, h2, h3, h4⟩ := freeze_one hH hr'
          have hX2 : a.eval X = m id := hX'.2
          have := done_sliceL hT he hie h1 ho (hX2 ▸ h3) hlo hhi (sliceGo_nil hs)
          simpa using Done.after h4 h2 this
        case frz t xs =>
          obtain ⟨e, ie, he, hie, rfl⟩ := elT_ok hE hB
          have hu := sliceGo_ups hs
          subst hu
          exact done_sliceL hT he hie hH ho hX'.2 hlo hhi hs
    | _ => simp at hB

theorem done_max {X Y : Operand} {T : Array TypeId} {k : IntKind} {x y : Int} (hH : HRel w ok base H m) (ho : o.op = .call { callee := .builtin .max, args := #[X, Y], argTypes := T })
    (hX : rel w ok H m (.v (.int k) x) (a.eval X)) (hY : rel w ok H m (.v (.int k) y) (a.eval Y)) : Done P o a w ok base H m (.v (.int k) (if y > x then y else x : Int)) [] := by
  refine Done.pure (u := .int k (if y > x then y else x)) hH ?_ mk_int
  rw [execOp.eq_def]
  simp [ho, resolve, invoke, builtin, rd_int hX, rd_int hY, Builtin.max_, Builtin.max2]
theorem done_min {X Y : Operand} {T : Array TypeId} {k : IntKind} {x y : Int} (hH : HRel w ok base H m) (ho : o.op = .call { callee := .builtin .min, args := #[X, Y], argTypes := T })
    (hX : rel w ok H m (.v (.int k) x) (a.eval X)) (hY : rel w ok H m (.v (.int k) y) (a.eval Y)) : Done P o a w ok base H m (.v (.int k) (if y < x then y else x : Int)) [] := by
  refine Done.pure (u := .int k (if y < x then y else x)) hH ?_ mk_int
  rw [execOp.eq_def]
  simp [ho, resolve, invoke, builtin, rd_int hX, rd_int hY, Builtin.min_, Builtin.min2]

theorem len_ok {rd : Nat → Option Row} {x : AV} {u : Value} {n : Int} {T : Nat} (ty : Nat) (hE : TyOk P E) (hH : HRel w ok base H m) (hrd : ∀ j r, rd j = some r → H[j]? = some r) (hx : rel w ok H m x u) (hB : lenB E T x = true) (h : lenW rd x = some n) :
    (Builtin.len_ #[T] ty #[u]).run P w = .ok (.int .i64 n) w := by
  unfold lenB at hB
  cases hi : E_ti E T with
  | none => simp [hi] at hB
  | some iT =>
  have hT := hE T iT hi
  simp only [hi] at hB
  have lsl : strB x = false → ∀ (p : Option Addr) (n c : Nat), (Builtin.len_ #[T] ty #[.slice p n c]).run P w = .ok (.int .i64 n) w := by
    intro hs p n c
    rw [hs] at hB
    obtain ⟨e, he⟩ := Option.isSome_iff_exists.1 hB
    simp [Builtin.len_, run_underlying (hT.el e he), goInt]
  have sl : strB x = false → ∀ {t : Ty} {xs : List t.D} {u : Value}, Rd w ok (.sl t) xs [u] → (Builtin.len_ #[T] ty #[u]).run P w = .ok (.int .i64 (xs.length : Int)) w := by
    intro hs t xs u hu
    obtain ⟨p, c, rfl, _⟩ := sl_form hu
    exact lsl hs _ _ _
  cases x <;> simp only [lenW, reduceCtorEq] at h
  case v t x =>
    cases t <;> simp only [reduceCtorEq, Option.some.injEq] at h
    case sl t => subst h; exact sl rfl hx
    case str =>
      have hx := rd_str hx
      subst h
      subst hx
      have hs := hT.st hB
      simp [Builtin.len_, run_underlying hs, goInt]
  case nl =>
    simp only [Option.some.injEq] at h
    have hx : u = .slice none 0 0 := hx
    subst h; subst hx
    exact lsl rfl _ _ _
  case own id =>
    have hx : rel1 w ok H m (.own id) u := hx
    split at h
    · rename_i e t xs hr
      have hr := hrd _ _ hr
      simp only [rel1, hr] at hx
      obtain ⟨us, hf, ho⟩ := hH.hp id _ hr
      simp only [Option.some.injEq] at h
      subst h
      rw [hx.2]
      rcases ho.2 with ⟨h1, h2⟩ | ⟨g, cap, cur, h1, _⟩
      · rw [h1, h2]; exact lsl rfl _ _ _
      · rw [h1]; exact lsl rfl _ _ _
    · rename_i t xs hr
      have hr := hrd _ _ hr
      simp only [rel1, hr] at hx
      simp only [Option.some.injEq] at h
      subst h
      exact sl rfl hx.2
    · simp at h

theorem done_lenC {X : Operand} {T : Nat} {x : AV} {n : Int} {rd : Nat → Option Row} (hE : TyOk P E) (hH : HRel w ok base H m) (ho : o.op = .call { callee := .builtin .len, args := #[X], argTypes := #[T] })
    (hrd : ∀ j r, rd j = some r → H[j]? = some r) (hx : rel w ok H m x (a.eval X)) (hB : lenB E T x = true) (h : lenW rd x = some n) : Done P o a w ok base H m (.v (.int .i64) n) [] :=
  done_len (x := x) hH ho ⟨_, rfl, len_ok o.type hE hH hrd hx hB h⟩

theorem rp_load {cs : List AV} {u : Value} (hu : rel w ok H m (.rp cs) u) : ∃ ad us, u = .pointer (some ad) ∧ Cells w ad us ∧ F2 (rel1 w ok H m) cs us := by
  obtain ⟨ad, us, rfl, _, _, hc, hf⟩ := (hu : rel1 w ok H m (.rp cs) u)
  exact ⟨ad, us, rfl, hc, hf.imp fun _ _ _ h => rel0_rel1 h⟩
theorem done_indexF {T e : Nat} {X I : Operand} {iT ie : TInfo} {k : IntKind} {i : Int} {id : Nat} {xs : List ie.ty.D} (hT : TOk P T iT) (he : iT.elem = some e) (hie : TOk P e ie) (hH : HRel w ok base H m)
    (ho : o.op = .indexAddr T X I) (hr : H[id]? = some (.frz ie.ty xs)) (hX : rel w ok H m (.own id) (a.eval X)) (hI : rel w ok H m (.v (.int k) i) (a.eval I)) (h0 : 0 ≤ i) (h1 : i < xs.length) :
    Done P o a w ok base H m (.rp (explode ie.ty (xs.getD i.toNat ie.ty.z))) [] := by
  have hX : rel1 w ok H m (.own id) (a.eval X) := hX
  simp only [rel1, hr] at hX
  exact done_index_v hT he hie hH ho hX.2 hI h0 h1
end
end Go.Proofs.Ytoplphfgbfcagaa.Ev
