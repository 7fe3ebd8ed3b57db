/-
What one operation of the machine gives is what the evaluator's step says: operations that change no heap.
Conditions: the table of types is the program's; the operands' values stand in the relation.
-/
import Derived.Test.YtoplphfgbfcagaaEvC
import Derived.Maps.AppendAt
import Derived.Laws.Strings
set_option linter.unusedVariables false
set_option linter.unusedSimpArgs false
namespace Go.Proofs.Ytoplphfgbfcagaa.Ev
open Go Go.RowKit

/-! ### the table of types -/
def vzOk : Ty → List Value → Option (List Value)
  | .pair a b, vs => match vzOk a vs with
    | some r => vzOk b r
    | none => none
  | .int k, .int k' n :: r => if k' = k then (if n = 0 then some r else none) else none
  | .bool, .bool b :: r => bif b then none else some r
  | .str, .string s :: r => match s.data.toList with
    | [] => some r
    | _ => none
  | .sl _, .slice none 0 0 :: r => some r
  | _, _ => none

structure TOk (P : Program) (t : Nat) (i : TInfo) : Prop where
  inf : ∃ f z, P.info? t = some f ∧ f.size = i.ty.sz ∧ f.bytes = i.bytes ∧ f.zero = some z ∧ vzOk i.ty z.cells.toList = some []
  pos : 0 < i.bytes
  ag : i.agg = true → ∃ fs, P.underlying t = some (.struct fs) ∧ fs.toList.map (fun f => (f.offset, f.type)) = i.fl ∧ fs.toList.all (fun f => (P.info? f.type).isSome) = true
  nag : i.agg = false → ∀ w, (isAgg t).run P w = .ok false w
  el : ∀ e, i.elem = some e → P.underlying t = some (.slice e)
  ik : ∀ k, i.ik = some k → P.underlying t = some (.int k)
  st : i.str = true → P.underlying t = some .string
  bo : i.ty = .bool → P.underlying t = some .bool
  un : ∃ d, P.underlying t = some d

def isPairB : Ty → Bool
  | .pair _ _ => true
  | _ => false
def pairsEq : List (Nat × Nat) → List (Nat × Nat) → Bool
  | [], [] => true
  | (a, b) :: r, (c, d) :: s => Nat.beq a c && Nat.beq b d && pairsEq r s
  | _, _ => false
theorem pairsEq_eq : ∀ {a b : List (Nat × Nat)}, pairsEq a b = true → a = b
  | [], [], _ => rfl
  | (a, b) :: r, (c, d) :: s, h => by
    simp only [pairsEq, Bool.and_eq_true, Nat.beq_eq] at h
    obtain ⟨⟨rfl, rfl⟩, h⟩ := h
    rw [pairsEq_eq h]
  | [], _ :: _, h => by simp [pairsEq] at h
  | _ :: _, [], h => by simp [pairsEq] at h
def chkT (P : Program) (t : Nat) (i : TInfo) : Bool :=
  match P.info? t, P.underlying t with
  | some f, some d =>
    Nat.beq f.size i.ty.sz && Nat.beq f.bytes i.bytes && Nat.blt 0 i.bytes &&
    (match f.zero with
      | some z => (match vzOk i.ty z.cells.toList with
        | some [] => true
        | _ => false)
      | none => false) &&
    (match d with
      | .struct fs => i.agg && fs.toList.all (fun f => (P.info? f.type).isSome) && pairsEq (fs.toList.map (fun f => (f.offset, f.type))) i.fl && i.elem.isNone && i.ik.isNone && !i.str && isPairB i.ty
      | .slice e => !i.agg && (match i.elem with
        | some e' => Nat.beq e e'
        | none => false) && i.ik.isNone && !i.str && (match i.ty with | .sl _ => true | _ => false)
      | .int k => !i.agg && i.elem.isNone && (match i.ik with
        | some k' => if k' = k then true else false
        | none => false) && !i.str && (match i.ty with | .int _ => true | _ => false)
      | .string => !i.agg && i.elem.isNone && i.ik.isNone && i.str && (match i.ty with | .str => true | _ => false)
      | .bool => !i.agg && i.elem.isNone && i.ik.isNone && !i.str && (match i.ty with | .bool => true | _ => false)
      | _ => false)
  | _, _ => false
theorem run_isAgg_of {P : Program} {t : Nat} {d : TypeDesc} (h : P.underlying t = some d) (w : World) :
    (isAgg t).run P w = .ok (match d with | .struct _ => true | .array _ _ => true | _ => false) w := by
  simp only [isAgg, Sem.run_bind, run_underlying h, Result.andThen_ok]
  cases d <;> rfl
theorem chkT_ok {P : Program} {t : Nat} {i : TInfo} (h : chkT P t i = true) : TOk P t i := by
  unfold chkT at h
  cases hf : P.info? t with
  | none => simp [hf] at h
  | some f =>
    cases hd : P.underlying t with
    | none => simp [hf, hd] at h
    | some d =>
      simp only [hf, hd, Bool.and_eq_true] at h
      obtain ⟨⟨⟨⟨h1, h2⟩, h3⟩, h4⟩, h5⟩ := h
      have h1 : f.size = i.ty.sz := Nat.eq_of_beq_eq_true h1
      have h2 : f.bytes = i.bytes := Nat.eq_of_beq_eq_true h2
      have hz : ∃ z, f.zero = some z ∧ vzOk i.ty z.cells.toList = some [] := by
        cases hz : f.zero with
        | none => simp [hz] at h4
        | some z =>
          refine ⟨z, rfl, ?_⟩
          simp only [hz] at h4
          cases hv : vzOk i.ty z.cells.toList with
          | none => simp [hv] at h4
          | some l => cases l with
            | nil => rfl
            | cons => simp [hv] at h4
      obtain ⟨z, hz, hz'⟩ := hz
      have hp : 0 < i.bytes := by simp [Nat.blt] at h3; omega
      have hi := fun w => run_isAgg_of hd w
      cases d <;> simp only [Bool.and_eq_true, Bool.not_eq_true', Bool.false_eq_true] at h5
      case bool =>
        obtain ⟨⟨⟨⟨g1, g2⟩, g3⟩, g4⟩, g5⟩ := h5
        exact ⟨⟨f, z, hf, h1, h2, hz, hz'⟩, hp, fun e => by simp [g1] at e, fun _ w => by simpa using hi w, fun e he => by simp [he] at g2, fun k hk => by simp [hk] at g3, fun e => by simp [g4] at e, fun _ => hd, _, hd⟩
      case int k =>
        obtain ⟨⟨⟨⟨g1, g2⟩, g3⟩, g4⟩, g5⟩ := h5
        refine ⟨⟨f, z, hf, h1, h2, hz, hz'⟩, hp, fun e => by simp [g1] at e, fun _ w => by simpa using hi w, fun e he => by simp [he] at g2, fun k hk => ?_, fun e => by simp [g4] at e, fun e => by simp [e] at g5, _, hd⟩
        simp only [hk] at g3
        split at g3
        · rename_i e; rw [hd, e]
        · simp at g3
      case string =>
        obtain ⟨⟨⟨⟨g1, g2⟩, g3⟩, g4⟩, g5⟩ := h5
        exact ⟨⟨f, z, hf, h1, h2, hz, hz'⟩, hp, fun e => by simp [g1] at e, fun _ w => by simpa using hi w, fun e he => by simp [he] at g2, fun k hk => by simp [hk] at g3, fun _ => hd, fun e => by simp [e] at g5, _, hd⟩
      case slice e =>
        obtain ⟨⟨⟨⟨g1, g2⟩, g3⟩, g4⟩, g5⟩ := h5
        refine ⟨⟨f, z, hf, h1, h2, hz, hz'⟩, hp, fun e => by simp [g1] at e, fun _ w => by simpa using hi w, fun e' he => ?_, fun k hk => by simp [hk] at g3, fun e => by simp [g4] at e, fun e => by simp [e] at g5, _, hd⟩
        simp only [he] at g2
        rw [hd, Nat.eq_of_beq_eq_true g2]
      case struct fs =>
        obtain ⟨⟨⟨⟨⟨⟨g1, g0⟩, g2⟩, g3⟩, g4⟩, g5⟩, g6⟩ := h5
        exact ⟨⟨f, z, hf, h1, h2, hz, hz'⟩, hp, fun _ => ⟨fs, hd, pairsEq_eq g2, g0⟩, fun e => by simp [g1] at e, fun e he => by simp [he] at g3, fun k hk => by simp [hk] at g4, fun e => by simp [g5] at e, fun e => by simp [e, isPairB] at g6, _, hd⟩
def chkAll (P : Program) : List (Nat × TInfo) → Bool
  | [] => true
  | (t, i) :: r => chkT P t i && chkAll P r
theorem look_mem {α : Type} {k : Nat} {x : α} : ∀ {l : List (Nat × α)}, look k l = some x → (k, x) ∈ l
  | [], h => by simp [look] at h
  | (j, y) :: r, h => by
    simp only [look] at h
    cases hb : Nat.beq j k with
    | true =>
      rw [hb] at h
      simp only [cond_true, Option.some.injEq] at h
      rw [Nat.eq_of_beq_eq_true hb, h]
      exact List.mem_cons_self
    | false =>
      rw [hb] at h
      exact List.mem_cons_of_mem _ (look_mem h)
theorem chkAll_ok {P : Program} : ∀ {l : List (Nat × TInfo)}, chkAll P l = true → ∀ t i, (t, i) ∈ l → TOk P t i
  | [], _, _, _, h => by simp at h
  | (t', i') :: r, h, t, i, hm => by
    simp only [chkAll, Bool.and_eq_true] at h
    cases hm with
    | head => exact chkT_ok h.1
    | tail _ hm => exact chkAll_ok h.2 t i hm
def TyOk (P : Program) (E : Env) : Prop := ∀ t i, E_ti E t = some i → TOk P t i
theorem tyOk_of {P : Program} {E : Env} (h : chkAll P E.tt = true) : TyOk P E := fun t i hl => chkAll_ok h t i (look_mem hl)

/-! ### what an operation gives -/
def Gives (P : Program) (o : Oper) (a : Act) (w : World) (u : Value) (w' : World) : Prop :=
  (execOp a.eval o).run P w = .ok (.value u) w' ∨ ((execOp a.eval o).run P w = .ok .skip w' ∧ u = undef)

/-- An operation done: the value, the world, what may be read, the rows' machine values. -/
def Done (P : Program) (o : Oper) (a : Act) (w : World) (ok : Nat → Prop) (base : Nat) (H : List Row) (m : Nat → Value) (av : AV) (ups : List (Nat × Row)) : Prop :=
  ∃ u w' ok' m', Gives P o a w u w' ∧ Below base w w' ∧ HRel w' ok' base (setH H ups) m' ∧ HStep w w' ok ok' H (setH H ups) m m' ∧ rel w' ok' (setH H ups) m' av u ∧ ∀ k, ok' k → ok k ∨ base ≤ k

section
variable {P : Program} {E : Env} {o : Oper} {a : Act} {w : World} {ok : Nat → Prop} {base : Nat} {H : List Row} {m : Nat → Value}

theorem Done.pure {av : AV} {u : Value} (hH : HRel w ok base H m) (h : (execOp a.eval o).run P w = .ok (.value u) w) (hr : rel w ok H m av u) : Done P o a w ok base H m av [] :=
  ⟨u, w, ok, m, .inl h, Below.refl _ _, hH, HStep.refl _ _ _ _, hr, fun k hk => .inl hk⟩

theorem rel_v {t : Ty} {x : t.D} {u : Value} : rel w ok H m (.v t x) u = Rd w ok t x [u] := rfl
theorem rd_int {k : IntKind} {n : Int} {u : Value} (h : rel w ok H m (.v (.int k) n) u) : u = .int k n := by
  have h : Rd w ok (.int k) n [u] := h
  simpa [Rd] using h
theorem rd_bool {b : Bool} {u : Value} (h : rel w ok H m (.v .bool b) u) : u = .bool b := by
  have h : Rd w ok .bool b [u] := h
  simpa [Rd] using h
theorem rd_str {s : ByteArray} {u : Value} (h : rel w ok H m (.v .str s) u) : u = .string s := by
  have h : Rd w ok .str s [u] := h
  simpa [Rd] using h
theorem mk_int {k : IntKind} {n : Int} : rel w ok H m (.v (.int k) n) (.int k n) := by show Rd w ok (.int k) n _; simp [Rd]
theorem mk_bool {b : Bool} : rel w ok H m (.v .bool b) (.bool b) := by show Rd w ok .bool b _; simp [Rd]
theorem mk_str {s : ByteArray} : rel w ok H m (.v .str s) (.string s) := by show Rd w ok .str s _; simp [Rd]

theorem F2.one {α β : Type} {r : α → β → Prop} {x : α} {ys : List β} (h : F2 r [x] ys) : ∃ y, ys = [y] ∧ r x y := by
  cases h with
  | cons h t => cases t; exact ⟨_, rfl, h⟩
theorem F2.two {α β : Type} {r : α → β → Prop} {x x' : α} {ys : List β} (h : F2 r [x, x'] ys) : ∃ y y', ys = [y, y'] ∧ r x y ∧ r x' y' := by
  cases h with
  | cons h t => obtain ⟨y', rfl, h'⟩ := t.one; exact ⟨_, _, rfl, h, h'⟩
theorem F2.three {α β : Type} {r : α → β → Prop} {x x' x'' : α} {ys : List β} (h : F2 r [x, x', x''] ys) : ∃ y y' y'', ys = [y, y', y''] ∧ r x y ∧ r x' y' ∧ r x'' y'' := by
  cases h with
  | cons h t => obtain ⟨y', y'', rfl, h', h''⟩ := t.two; exact ⟨_, _, _, rfl, h, h', h''⟩

theorem done_move {X : Operand} {x : AV} (hH : HRel w ok base H m) (ho : o.op = .move X ∨ o.op = .assign X) (hx : rel w ok H m x (a.eval X)) : Done P o a w ok base H m x [] :=
  Done.pure hH (by rcases ho with ho | ho <;> simp [execOp, ho]) hx

theorem done_pick {C X Y : Operand} {c : Bool} {x y : AV} (hH : HRel w ok base H m) (ho : o.op = .pick C X Y) (hc : rel w ok H m (.v .bool c) (a.eval C))
    (hx : rel w ok H m x (a.eval X)) (hy : rel w ok H m y (a.eval Y)) : Done P o a w ok base H m (bif c then x else y) [] := by
  refine Done.pure (u := bif c then a.eval X else a.eval Y) hH ?_ ?_
  · rw [execOp.eq_def]
    simp only [ho, rd_bool hc]
    cases c <;> simp [asBool]
  · cases c
    · exact hy
    · exact hx

theorem done_int {op : BinOp} {T T' : TypeId} {X Y : Operand} {k k' : IntKind} {x y : Int} {av : AV} (hH : HRel w ok base H m) (ho : o.op = .binOp op T X Y T')
    (hx : rel w ok H m (.v (.int k) x) (a.eval X)) (hy : rel w ok H m (.v (.int k') y) (a.eval Y)) (h : iiW op k k' x y = some (true, av)) : Done P o a w ok base H m av [] := by
  have hX := rd_int hx
  have hY := rd_int hy
  have go : ∀ u, (Go.binOp op T (.int k x) (.int k' y)).run P w = .ok u w → (execOp a.eval o).run P w = .ok (.value u) w := by
    intro u hu
    rw [execOp.eq_def]
    simp only [ho, hX, hY]
    have he : (eqGuard op T X Y (.int k x) (.int k' y)).run P w = .ok () w := by
      unfold eqGuard
      split <;> rfl
    simp [Sem.run_bind, he, hu]
  cases op <;> simp only [iiW] at h
  case shl =>
    simp only [Option.some.injEq, Prod.mk.injEq, decide_eq_true_eq] at h
    obtain ⟨h0, rfl⟩ := h
    exact Done.pure hH (go _ (by simp [Go.binOp, Op.shift, show ¬ y < 0 by omega, shlW])) mk_int
  case shr =>
    simp only [Option.some.injEq, Prod.mk.injEq, decide_eq_true_eq] at h
    obtain ⟨h0, rfl⟩ := h
    exact Done.pure hH (go _ (by simp [Go.binOp, Op.shift, show ¬ y < 0 by omega, shrW])) mk_int
  all_goals
    split at h
    case isFalse => simp at h
    rename_i e
    subst e
    simp only [intW, Option.some.injEq, Prod.mk.injEq, Bool.not_eq_true', decide_eq_false_iff_not, true_and, reduceCtorEq] at h
  case add => subst h; exact Done.pure hH (go _ (by simp [Go.binOp, Op.intArith])) mk_int
  case sub => subst h; exact Done.pure hH (go _ (by simp [Go.binOp, Op.intArith])) mk_int
  case mul => subst h; exact Done.pure hH (go _ (by simp [Go.binOp, Op.intArith])) mk_int
  case quo => obtain ⟨h0, rfl⟩ := h; exact Done.pure hH (go _ (by simp [Go.binOp, Op.intDiv, h0])) mk_int
  case rem => obtain ⟨h0, rfl⟩ := h; exact Done.pure hH (go _ (by simp [Go.binOp, Op.intDiv, h0])) mk_int
  case and => subst h; exact Done.pure hH (go _ (by simp [Go.binOp, Op.intBits, bitsW])) mk_int
  case or => subst h; exact Done.pure hH (go _ (by simp [Go.binOp, Op.intBits, bitsW])) mk_int
  case xor => subst h; exact Done.pure hH (go _ (by simp [Go.binOp, Op.intBits, bitsW])) mk_int
  case andNot => subst h; exact Done.pure hH (go _ (by simp [Go.binOp, Op.intBits, bitsW])) mk_int
  case eql => subst h; exact Done.pure hH (go _ (by simp [Go.binOp, Op.intCmp]; rfl)) mk_bool
  case neq => subst h; exact Done.pure hH (go _ (by simp [Go.binOp, Op.intCmp]; rfl)) mk_bool
  case lss => subst h; exact Done.pure hH (go _ (by simp [Go.binOp, Op.intCmp])) mk_bool
  case leq => subst h; exact Done.pure hH (go _ (by simp [Go.binOp, Op.intCmp])) mk_bool
  case gtr => subst h; exact Done.pure hH (go _ (by simp [Go.binOp, Op.intCmp])) mk_bool
  case geq => subst h; exact Done.pure hH (go _ (by simp [Go.binOp, Op.intCmp])) mk_bool

theorem done_bool {op : BinOp} {T T' : TypeId} {X Y : Operand} {x y : Bool} {av : AV} (hT : P.underlying T = some .bool) (hH : HRel w ok base H m) (ho : o.op = .binOp op T X Y T')
    (hx : rel w ok H m (.v .bool x) (a.eval X)) (hy : rel w ok H m (.v .bool y) (a.eval Y)) (h : bbW op x y = some (true, av)) : Done P o a w ok base H m av [] := by
  have hX := rd_bool hx
  have hY := rd_bool hy
  have go : ∀ u, (Go.binOp op T (.bool x) (.bool y)).run P w = .ok u w → (execOp a.eval o).run P w = .ok (.value u) w := by
    intro u hu
    rw [execOp.eq_def]
    simp only [ho, hX, hY]
    have he : (eqGuard op T X Y (.bool x) (.bool y)).run P w = .ok () w := by
      unfold eqGuard
      split <;> rfl
    simp [Sem.run_bind, he, hu]
  have heq : (Op.equal T (.bool x) (.bool y)).run P w = .ok (x == y) w := by
    have go1 : ∀ d, (Op.equalIn (d + 1) T (.bool x) (.bool y)).run P w = .ok (x == y) w := by
      intro d
      simp [Op.equalIn, run_underlying hT]
    exact go1 9999
  cases op <;> simp only [bbW, Option.some.injEq, Prod.mk.injEq, true_and, reduceCtorEq] at h
  case eql => subst h; exact Done.pure hH (go _ (by simp [Go.binOp, heq])) mk_bool
  case neq => subst h; exact Done.pure hH (go _ (by simp [Go.binOp, heq])) mk_bool

theorem u8sEq_eq : ∀ {a b : List UInt8}, u8sEq a b = (a == b)
  | [], [] => rfl
  | a :: as, b :: bs => by
    simp only [u8sEq, u8sEq_eq (a := as), List.cons_beq_cons]
    congr 1
    cases h : Nat.beq a.toNat b.toNat with
    | true => have := UInt8.toNat_inj.1 (Nat.eq_of_beq_eq_true h); simp [this]
    | false =>
      symm
      rw [beq_eq_false_iff_ne]
      rintro rfl
      simp at h
  | [], _ :: _ => rfl
  | _ :: _, [] => rfl
theorem strEq_eq (s t : ByteArray) : strEq s t = (s.toList == t.toList) := by
  unfold strEq
  rw [u8sEq_eq, ByteArray.toList_eq, ByteArray.toList_eq]
theorem done_str {op : BinOp} {T T' : TypeId} {X Y : Operand} {x y : ByteArray} {av : AV} (hH : HRel w ok base H m) (ho : o.op = .binOp op T X Y T')
    (hx : rel w ok H m (.v .str x) (a.eval X)) (hy : rel w ok H m (.v .str y) (a.eval Y)) (h : ssW op x y = some (true, av)) : Done P o a w ok base H m av [] := by
  have hX := rd_str hx
  have hY := rd_str hy
  have go : ∀ u, (Go.binOp op T (.string x) (.string y)).run P w = .ok u w → (execOp a.eval o).run P w = .ok (.value u) w := by
    intro u hu
    rw [execOp.eq_def]
    simp only [ho, hX, hY]
    have he : (eqGuard op T X Y (.string x) (.string y)).run P w = .ok () w := by
      unfold eqGuard
      split <;> rfl
    simp [Sem.run_bind, he, hu]
  cases op <;> simp only [ssW, Option.some.injEq, Prod.mk.injEq, true_and, decide_eq_true_eq, reduceCtorEq] at h
  case add =>
    obtain ⟨h0, rfl⟩ := h
    refine Done.pure hH (go _ ?_) mk_str
    have hm : IntKind.i64.max = 9223372036854775807 := by decide
    have : (x.size : Int) + (y.size : Int) ≤ 9223372036854775807 := by omega
    simp [Go.binOp, Op.stringOp, hm, this]
  case eql => subst h; exact Done.pure hH (go _ (by simp [Go.binOp, Op.stringOp, strEq_eq])) mk_bool
  case neq => subst h; exact Done.pure hH (go _ (by simp [Go.binOp, Op.stringOp, strEq_eq])) mk_bool

theorem done_neg {T : TypeId} {X : Operand} {k : IntKind} {n : Int} (hH : HRel w ok base H m) (ho : o.op = .unOp .neg T X) (hx : rel w ok H m (.v (.int k) n) (a.eval X)) :
    Done P o a w ok base H m (.v (.int k) (k.wrap (0 - n))) [] :=
  Done.pure (u := .int k (k.wrap (0 - n))) hH (by rw [execOp.eq_def]; simp [ho, rd_int hx, Op.unary, Op.intArith]) mk_int
theorem done_xor {T : TypeId} {X : Operand} {k : IntKind} {n : Int} (hH : HRel w ok base H m) (ho : o.op = .unOp .xor T X) (hx : rel w ok H m (.v (.int k) n) (a.eval X)) :
    Done P o a w ok base H m (.v (.int k) (bitsW .xor k (if k.signed then -1 else k.max) n)) [] :=
  Done.pure (u := .int k (bitsW .xor k (if k.signed then -1 else k.max) n)) hH (by rw [execOp.eq_def]; simp [ho, rd_int hx, Op.unary, Op.intBits, bitsW]) mk_int
theorem done_not {T : TypeId} {X : Operand} {b : Bool} (hH : HRel w ok base H m) (ho : o.op = .unOp .not T X) (hx : rel w ok H m (.v .bool b) (a.eval X)) :
    Done P o a w ok base H m (.v .bool (!b)) [] :=
  Done.pure (u := .bool (!b)) hH (by rw [execOp.eq_def]; simp [ho, rd_bool hx, Op.unary]) mk_bool

theorem done_conv {S D : TypeId} {X : Operand} {k k' : IntKind} {n : Int} (hD : P.underlying D = some (.int k')) (hS : ∃ d, P.underlying S = some d) (hH : HRel w ok base H m) (ho : o.op = .convert S D X)
    (hx : rel w ok H m (.v (.int k) n) (a.eval X)) : Done P o a w ok base H m (.v (.int k') (k'.wrap n)) [] := by
  obtain ⟨d, hd⟩ := hS
  refine Done.pure (u := .int k' (k'.wrap n)) hH ?_ mk_int
  rw [execOp.eq_def]
  simp only [ho, rd_int hx]
  simp [Go.convert, run_underlying hd, run_underlying hD, Conv.intToInt]
theorem done_convS {S D : TypeId} {X : Operand} {s : ByteArray} (hD : P.underlying D = some .string) (hS : P.underlying S = some .string) (hH : HRel w ok base H m) (ho : o.op = .convert S D X)
    (hx : rel w ok H m (.v .str s) (a.eval X)) : Done P o a w ok base H m (.v .str s) [] := by
  refine Done.pure (u := .string s) hH ?_ mk_str
  rw [execOp.eq_def]
  simp only [ho, rd_str hx]
  simp [Go.convert, run_underlying hS, run_underlying hD]

theorem done_extract {X : Operand} {vs : List AV} {i : Nat} {x : AV} (hH : HRel w ok base H m) (ho : o.op = .extract X i) (hx : rel w ok H m (.tup vs) (a.eval X)) (hi : vs[i]? = some x) (hr2 : ∀ u, rel2 w ok H m x u → rel w ok H m x u) :
    Done P o a w ok base H m x [] := by
  obtain ⟨us, hu, hf⟩ := hx
  obtain ⟨u, hu', hr⟩ := hf.get hi
  refine Done.pure (u := u) hH ?_ (hr2 u hr)
  rw [execOp.eq_def]
  simp [ho, hu, Instr.extract, hu']
theorem done_makeFunc {g : Nat} {fs cs : Array Operand} {as : List AV} (hH : HRel w ok base H m) (ho : o.op = .makeFunc (.func g) fs cs)
    (hf : F2 (rel2 w ok H m) (as.take fs.size) (fs.toList.map a.eval)) (hc : F2 (rel1 w ok H m) (as.drop fs.size) (cs.toList.map a.eval)) :
    Done P o a w ok base H m (.fn g (as.take fs.size) (as.drop fs.size)) [] := by
  refine Done.pure (u := .func (.func g) (fs.map a.eval) (cs.map a.eval)) hH ?_ ⟨fs.toList.map a.eval, cs.toList.map a.eval, ?_, hf, hc⟩
  · rw [execOp.eq_def]
    simp [ho, Instr.makeFunc]
  · have e : ∀ l : Array Operand, l.map a.eval = (l.toList.map a.eval).toArray := fun l => by apply Array.ext'; simp
    rw [e, e]

theorem done_len {X : Operand} {T : Array TypeId} {x : AV} {n : Int} (hH : HRel w ok base H m) (ho : o.op = .call { callee := .builtin .len, args := #[X], argTypes := T })
    (hu : ∃ u : Value, a.eval X = u ∧ (Builtin.len_ T o.type #[u]).run P w = .ok (.int .i64 n) w) : Done P o a w ok base H m (.v (.int .i64) n) [] := by
  obtain ⟨u, hu, hr⟩ := hu
  refine Done.pure (u := .int .i64 n) hH ?_ mk_int
  rw [execOp.eq_def]
  simp [ho, resolve, invoke, builtin, hu, hr]
end
end Go.Proofs.Ytoplphfgbfcagaa.Ev
