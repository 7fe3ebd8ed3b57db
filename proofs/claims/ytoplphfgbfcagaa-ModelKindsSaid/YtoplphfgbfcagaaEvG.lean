/-
Stores, new memory, indexes, slices, appends: as the machine does them.
Conditions: as in the parts before.
-/
import Derived.Test.YtoplphfgbfcagaaEvF
set_option linter.unusedVariables false
set_option linter.unusedSimpArgs false
namespace Go.Proofs.Ytoplphfgbfcagaa.Ev
open Go Go.RowKit

/-! ### lists that are poked -/
def poke {α : Type} (l : List α) (i : Nat) (v : List α) : List α := l.take i ++ v ++ l.drop (i + v.length)
theorem poke_len {α : Type} {l v : List α} {i : Nat} (h : i + v.length ≤ l.length) : (poke l i v).length = l.length := by
  simp [poke]; omega
theorem poke_take {α : Type} {l v : List α} {i n : Nat} (h : i + v.length ≤ n) (hn : n ≤ l.length) : (poke l i v).take n = poke (l.take n) i v := by
  unfold poke
  rw [List.append_assoc, List.append_assoc, List.take_append, List.length_take, Nat.min_eq_left (by omega), List.take_take, Nat.min_eq_right (by omega), List.take_append, List.take_take, Nat.min_eq_left (by omega)]
  congr 1
  rw [List.take_of_length_le (by omega : v.length ≤ n - i)]
  congr 1
  rw [List.drop_take]
  congr 1
  omega
theorem poke_flat {α : Type} {sz : Nat} {v : List α} {off : Nat} (hv : off + v.length ≤ sz) : ∀ {us : List (List α)} {i : Nat} {p : List α}, (∀ q ∈ us, q.length = sz) → us[i]? = some p →
    (us.set i (poke p off v)).flatten = poke us.flatten (i * sz + off) v
  | [], i, p, _, h => by simp at h
  | q :: us, 0, p, hl, h => by
    simp only [List.getElem?_cons_zero, Option.some.injEq] at h
    subst h
    have hq := hl q (by simp)
    simp only [List.set_cons_zero, List.flatten_cons, Nat.zero_mul, Nat.zero_add, poke]
    rw [List.take_append_of_le_length (by omega), List.drop_append_of_le_length (by omega)]
    simp
  | q :: us, i + 1, p, hl, h => by
    have hq := hl q (by simp)
    simp only [List.getElem?_cons_succ] at h
    have ih := poke_flat hv (us := us) (i := i) (fun q hq => hl q (by simp [hq])) h
    have e : ∀ (x y : List α) (n : Nat), x.length ≤ n → poke (x ++ y) n v = x ++ poke y (n - x.length) v := by
      intro x y n hn
      unfold poke
      rw [List.take_append, List.take_of_length_le hn, List.drop_append, List.drop_of_length_le (by omega), List.nil_append, List.append_assoc, List.append_assoc, List.append_assoc,
        show n + v.length - x.length = n - x.length + v.length by omega]
    rw [List.set_cons_succ, List.flatten_cons, List.flatten_cons, ih, e q _ _ (by rw [hq, Nat.add_mul]; omega), hq, show (i + 1) * sz + off - sz = i * sz + off by rw [Nat.add_mul]; omega]
theorem F2.poke {α β : Type} {r : α → β → Prop} {xs v : List α} {ys u : List β} (h : F2 r xs ys) (hv : F2 r v u) (i : Nat) : F2 r (poke xs i v) (poke ys i u) := by
  have := hv.length
  exact ((h.take i).append hv).append (this ▸ h.drop (i + v.length))
theorem pokeW_eq {cs new cs' : List AV} {off : Nat} (h : pokeW cs new off = some cs') : off + new.length ≤ cs.length ∧ cs' = poke cs off new := by
  unfold pokeW at h
  cases hb : Nat.ble (off + new.length) cs.length with
  | false => simp [hb] at h
  | true =>
    simp only [hb, cond_true, Option.some.injEq] at h
    exact ⟨Nat.le_of_ble_eq_true hb, h.symm⟩

section
variable {P : Program} {E : Env} {o : Oper} {a : Act} {w : World} {ok : Nat → Prop} {base : Nat} {H : List Row} {m : Nat → Value}

theorem below_setRow {b : Nat} (hb : base ≤ b) (cs : Array Value) : Below base w (w.setRow b cs) := ⟨rfl, rfl, rfl, by simp, fun k hk => setRow_other w b k cs (by omega)⟩
theorem storeVar_ok {T : Nat} {i : TInfo} (hT : TOk P T i) {b off : Nat} {t : Nat} {cur : Array Value} {u : Value} (hh : w.heap[b]? = some (.cells cur t (0, 0)))
    (hs : u.cells.size = i.ty.sz) (hl : off + u.cells.size ≤ cur.size) (h1 : ∀ v ∈ u.cells.toList, v.oneCell' = true) :
    (storeVar T ⟨b, off, none⟩ u).run P w = .ok () (w.setRow b (poke cur.toList off u.cells.toList).toArray) := by
  have := run_storeCells_at P b off t u.cells.toList 0 cur w hh (by simpa using hl) h1
  simp only [Nat.add_zero] at this
  simp only [storeVar, Sem.run_bind, hT.size, Result.andThen_ok, hs, ne_eq, not_true_eq_false, if_false, this, poke]

theorem done_store_pb {T id off : Nat} {X Y : Operand} {i : TInfo} {cs cs' : List AV} {x : AV} (hT : TOk P T i) (hH : HRel w ok base H m) (ho : o.op = .store T X Y)
    (hb : H[id]? = some (.box cs)) (hX : rel w ok H m (.pb id off) (a.eval X)) (hY : rel w ok H m x (a.eval Y)) (hp : plainB x = true) (hs : (cellsOf x).length = i.ty.sz)
    (hk : pokeW cs (cellsOf x) off = some cs') : Done P o a w ok base H m .un [(id, .box cs')] := by
  obtain ⟨hle, rfl⟩ := pokeW_eq hk
  obtain ⟨hf, h1⟩ := cells_rel hp hY
  obtain ⟨b, T', cur, hm, hbs, hh, hc⟩ := hH.hp id _ hb
  have hX' : rel1 w ok H m (.pb id off) (a.eval X) := hX
  simp only [rel1, hb] at hX'
  obtain ⟨_, b', hm', hX'⟩ := hX'
  rw [hm] at hm'
  simp only [Value.pointer.injEq, Option.some.injEq, Addr.mk.injEq, and_true] at hm'
  subst hm'
  have hlen := hc.length
  have hfl := hf.length
  have hsz : (a.eval Y).cells.size = i.ty.sz := by rw [← Array.length_toList, ← hfl, hs]
  have hrun := storeVar_ok (w := w) hT (off := off) hh hsz (by rw [hsz, ← hs]; rw [← Array.length_toList, ← hlen]; exact hle) h1
  have hset : (H.set id (.box (poke cs off (cellsOf x))))[id]? = some (.box (poke cs off (cellsOf x))) := by simp [get_lt hb]
  have hne : ∀ k, ok k → k ≠ b := fun k hk e => hH.sep id _ b hb rfl (by rw [hm]; rfl) (e ▸ hk)
  have hstep : HStep w (w.setRow b (poke cur.toList off (a.eval Y).cells.toList).toArray) ok ok H (H.set id (.box (poke cs off (cellsOf x)))) m m := by
    refine ⟨⟨by simp, fun k hk _ => ⟨setRow_other w b k _ (hne k hk), hk⟩⟩, fun j r hr hh' => ⟨rfl, ?_⟩⟩
    by_cases hj : j = id
    · subst hj
      rw [hb] at hr
      simp only [Option.some.injEq] at hr
      subst hr
      exact ⟨_, hset, .box _ _⟩
    · exact ⟨r, by rw [List.getElem?_set_ne (Ne.symm hj)]; exact hr, .same r⟩
  refine ⟨undef, _, ok, m, .inr ⟨?_, rfl⟩, below_setRow hbs _, ?_, hstep, trivial, fun k hk => .inl hk⟩
  · rw [execOp.eq_def]
    simp [ho, hX', Instr.storeAt, Instr.sureAddr, hrun]
  · show HRel _ ok base (H.set id _) m
    refine hH.upd (fun j => j = id) hstep ?_ (fun j hj => ⟨List.getElem?_set_ne (Ne.symm hj), rfl⟩) ?_ ?_ ?_ ?_
    · intro k _ hne'
      refine setRow_other w b k _ fun e => ?_
      exact hne' id _ rfl hb rfl (by rw [hm, e]; rfl)
    · rintro j r rfl hr
      rw [hset] at hr
      simp only [Option.some.injEq] at hr
      subst hr
      refine ⟨⟨b, T', _, hm, hbs, setRow_heap w b cur _ T' (0, 0) hh, ?_⟩, fun _ k hk => ⟨fun hok => hH.sep j _ k hb rfl hk hok, .inr ⟨j, _, rfl, hb, rfl, hk⟩⟩⟩
      exact ((hc.poke hf off).imp fun _ _ _ h => rel1_step hstep h)
    · rintro _ _ _ _ _ rfl rfl _ _ _ _ _ _
      rfl
    · exact fun k hk => by simpa using hH.lt k hk
    · exact fun k hk _ => .inl hk

/-- A new box. -/
theorem box_new {nid T : Nat} {cs : List AV} {cells : Array Value} (hH : HRel w ok base H m) (hb : base ≤ w.heap.size) (hh : H[nid]? = some .hole) (hf : F2 (rel1 w ok H m) cs cells.toList) :
    ∃ m', Below base w (w.alloc (.cells cells T)) ∧ HRel (w.alloc (.cells cells T)) ok base (H.set nid (.box cs)) m' ∧
      HStep w (w.alloc (.cells cells T)) ok ok H (H.set nid (.box cs)) m m' ∧ rel (w.alloc (.cells cells T)) ok (H.set nid (.box cs)) m' (.pb nid 0) (.pointer (some ⟨w.heap.size, 0, none⟩)) := by
  have hbl : Below w.heap.size w (w.alloc (.cells cells T)) := (Below.refl _ _).alloc (Nat.le_refl _) _
  have hst := HStep.add (w := w) (m := m) (ok := ok) (ok' := ok) hh (.box cs) (.pointer (some ⟨w.heap.size, 0, none⟩)) (Moves.of_below hbl)
  refine ⟨updM m nid (.pointer (some ⟨w.heap.size, 0, none⟩)), (Below.refl base w).alloc hb _, hH.add hh (.box cs) _ hbl ?_ ?_, hst, ?_⟩
  · exact ⟨w.heap.size, T, cells, rfl, hb, heap_alloc_new w _, hf.imp (fun _ _ _ h => rel1_step hst h)⟩
  · intro k hk
    simp only [mblk, Option.some.injEq] at hk
    omega
  · show rel1 (w.alloc (.cells cells T)) ok (H.set nid (.box cs)) (updM m nid (.pointer (some ⟨w.heap.size, 0, none⟩))) (.pb nid 0) _
    have : (H.set nid (.box cs))[nid]? = some (.box cs) := by simp [get_lt hh]
    simp only [rel1, this]
    exact ⟨⟨_, rfl⟩, w.heap.size, updM_same m nid _, rfl⟩
theorem vz_rel : ∀ {t : Ty} {vs r : List Value}, vzOk t vs = some r → ∃ v0, vs = v0 ++ r ∧ F2 (rel1 w ok H m) (zeroCells t) v0 ∧ Rd w ok t t.z v0 := by
  intro t
  induction t with
  | pair a b iha ihb =>
    intro vs r h
    simp only [vzOk] at h
    cases ha : vzOk a vs with
    | none => simp [ha] at h
    | some q =>
      simp only [ha] at h
      obtain ⟨v0, rfl, f0, r0⟩ := iha ha
      obtain ⟨v1, rfl, f1, r1⟩ := ihb h
      refine ⟨v0 ++ v1, by simp, f0.append f1, ?_⟩
      simp only [Rd]
      exact ⟨v0, v1, rfl, r0, r1⟩
  | int k =>
    intro vs r h
    cases vs with
    | nil => simp [vzOk] at h
    | cons u vs =>
      cases u <;> first | (simp [vzOk] at h; done) | skip
      rename_i k' n
      simp only [vzOk] at h
      split at h
      case isFalse => simp at h
      rename_i e
      subst e
      split at h
      case isFalse => simp at h
      rename_i e
      subst e
      simp only [Option.some.injEq] at h
      subst h
      have : Rd w ok (.int k') (0 : Int) [.int k' 0] := by simp [Rd]
      exact ⟨[_], rfl, .cons this .nil, this⟩
  | bool =>
    intro vs r h
    cases vs with
    | nil => simp [vzOk] at h
    | cons u vs =>
      cases u <;> first | (simp [vzOk] at h; done) | skip
      rename_i b
      simp only [vzOk] at h
      cases b with
      | true => simp at h
      | false =>
        simp only [cond_false, Option.some.injEq] at h
        subst h
        have : Rd w ok .bool false [.bool false] := by simp [Rd]
        exact ⟨[_], rfl, .cons this .nil, this⟩
  | str =>
    intro vs r h
    cases vs with
    | nil => simp [vzOk] at h
    | cons u vs =>
      cases u <;> first | (simp [vzOk] at h; done) | skip
      rename_i s
      simp only [vzOk] at h
      split at h
      case h_2 => simp at h
      rename_i hs
      simp only [Option.some.injEq] at h
      subst h
      have hs' : s = (⟨#[]⟩ : ByteArray) := by
        cases s with
        | mk d => congr; exact Array.ext' (by simpa using hs)
      subst hs'
      have : Rd w ok .str (⟨#[]⟩ : ByteArray) [.string ⟨#[]⟩] := by simp [Rd]
      exact ⟨[_], rfl, .cons this .nil, this⟩
  | sl t _ =>
    intro vs r h
    have key : ∃ r', vs = .slice none 0 0 :: r' ∧ r' = r := by
      cases vs with
      | nil => simp [vzOk] at h
      | cons u vs =>
        cases u <;> first | (simp [vzOk] at h; done) | skip
        rename_i p n c
        cases p with
        | some p => simp [vzOk] at h
        | none =>
          cases n with
          | succ n => simp [vzOk] at h
          | zero =>
            cases c with
            | succ c => simp [vzOk] at h
            | zero => simp only [vzOk, Option.some.injEq] at h; exact ⟨vs, rfl, h⟩
    obtain ⟨r', rfl, rfl⟩ := key
    refine ⟨[_], rfl, .cons rfl .nil, ?_⟩
    simp only [Rd]
    exact ⟨none, 0, rfl, by simp [Ty.z], fun _ => ⟨rfl, rfl⟩, fun h => absurd rfl h⟩
theorem done_alloc {T nid : Nat} {i : TInfo} (hT : TOk P T i) (hH : HRel w ok base H m) (hb : base ≤ w.heap.size) (hh : H[nid]? = some .hole) (ho : o.op = .alloc T) :
    Done P o a w ok base H m (.pb nid 0) [(nid, .box (zeroCells i.ty))] := by
  obtain ⟨f, z, hf, hs, _, hz, hv⟩ := hT.inf
  obtain ⟨v0, e, f0, _⟩ := vz_rel (w := w) (ok := ok) (H := H) (m := m) hv
  rw [List.append_nil] at e
  obtain ⟨m', h1, h2, h3, h4⟩ := box_new (T := T) (cells := z.cells) hH hb hh (by rw [e]; exact f0)
  refine ⟨_, _, ok, m', .inl ?_, h1, h2, h3, h4, fun k hk => .inl hk⟩
  rw [execOp.eq_def]
  simp [ho, Instr.alloc, zeroValue, typeInfo, hf, hz, newVar, newRow]
theorem done_box {T nid : Nat} {X : Operand} {x : AV} (hH : HRel w ok base H m) (hb : base ≤ w.heap.size) (hh : H[nid]? = some .hole) (ho : o.op = .box T X)
    (hX : rel w ok H m x (a.eval X)) (hp : plainB x = true) : Done P o a w ok base H m (.pb nid 0) [(nid, .box (cellsOf x))] := by
  obtain ⟨m', h1, h2, h3, h4⟩ := box_new (T := T) (cells := (a.eval X).cells) hH hb hh (cells_rel hp hX).1
  refine ⟨_, _, ok, m', .inl ?_, h1, h2, h3, h4, fun k hk => .inl hk⟩
  rw [execOp.eq_def]
  simp [ho, Instr.box, newVar, newRow]

/-! ### contents -/
theorem toD_rd {rd : Nat → Option Row} {ok' : Nat → Prop} {t : Ty} {x : AV} {u : Value} {y : t.D} (hrd : ∀ i r, rd i = some r → H[i]? = some r) (h1 : ∀ k, ok k → ok' k)
    (hfz : ∀ id e t xs, AV.own id ∈ cellsOf x → H[id]? = some (.row e t xs) → Rd w ok' (.sl t) xs [m id]) (hx : rel w ok H m x u) (h : toD rd t x = some y) : Rd w ok' t y u.cells.toList := by
  unfold toD at h
  cases hp : plainB x with
  | false => simp [hp] at h
  | true =>
    simp only [hp, cond_true] at h
    cases hi : implode rd t (cellsOf x) with
    | none => simp [hi] at h
    | some q =>
      obtain ⟨z, r⟩ := q
      cases r with
      | cons c r => simp [hi] at h
      | nil =>
        simp only [hi, Option.some.injEq] at h
        subst h
        obtain ⟨u1, u2, e, hr, hf, _⟩ := implode_rd hrd h1 hfz (cells_rel hp hx).1 hi
        cases hf
        rw [List.append_nil] at e
        rw [e]
        exact hr
end
end Go.Proofs.Ytoplphfgbfcagaa.Ev
