/-
Rows that are frozen, contents that are put together, stores: as the machine does them.
Conditions: as in the parts before.
-/
import Derived.Test.YtoplphfgbfcagaaEvE
set_option linter.unusedVariables false
set_option linter.unusedSimpArgs false
namespace Go.Proofs.Ytoplphfgbfcagaa.Ev
open Go Go.RowKit

section
variable {P : Program} {E : Env} {o : Oper} {a : Act} {w : World} {ok : Nat → Prop} {base : Nat} {H : List Row} {m : Nat → Value}

/-! ### heaps that are set -/
theorem setH_append : ∀ (H : List Row) (a b : List (Nat × Row)), setH H (a ++ b) = setH (setH H a) b
  | _, [], _ => rfl
  | H, (i, r) :: a, b => by simp only [List.cons_append, setH]; exact setH_append _ a b
theorem setH_length : ∀ (H : List Row) (ups : List (Nat × Row)), (setH H ups).length = H.length
  | _, [] => rfl
  | H, (i, r) :: a => by simp only [setH]; rw [setH_length]; simp
theorem setH_other {i : Nat} : ∀ (H : List Row) (ups : List (Nat × Row)), i ∉ fsts ups → (setH H ups)[i]? = H[i]?
  | _, [], _ => rfl
  | H, (j, r) :: a, h => by
    simp only [fsts, List.mem_cons, not_or] at h
    simp only [setH]
    rw [setH_other _ a h.2, List.getElem?_set_ne (Ne.symm h.1)]
theorem fsts_mem {i : Nat} : ∀ {ups : List (Nat × Row)}, i ∈ fsts ups ↔ ∃ r, (i, r) ∈ ups
  | [] => by simp [fsts]
  | (j, r) :: a => by
    simp only [fsts, List.mem_cons, fsts_mem (ups := a), Prod.mk.injEq]
    constructor
    · rintro (rfl | ⟨q, h⟩)
      · exact ⟨r, .inl ⟨rfl, rfl⟩⟩
      · exact ⟨q, .inr h⟩
    · rintro ⟨q, ⟨rfl, rfl⟩ | h⟩
      · exact .inl rfl
      · exact .inr ⟨q, h⟩
theorem setH_mem {i : Nat} {r : Row} : ∀ (H : List Row) (ups : List (Nat × Row)), i < H.length → (i, r) ∈ ups → (∀ q, (i, q) ∈ ups → q = r) → (setH H ups)[i]? = some r
  | _, [], _, h, _ => by simp at h
  | H, (j, q) :: a, hl, h, hu => by
    simp only [setH]
    by_cases hm : i ∈ fsts a
    · obtain ⟨q', hq'⟩ := fsts_mem.1 hm
      have := hu q' (by simp [hq'])
      subst this
      exact setH_mem _ a (by simpa using hl) hq' fun q hq => hu q (by simp [hq])
    · rw [setH_other _ a hm]
      rcases List.mem_cons.1 h with h | h
      · simp only [Prod.mk.injEq] at h
        obtain ⟨rfl, rfl⟩ := h
        simp [hl]
      · exact absurd (fsts_mem.2 ⟨_, h⟩) hm
theorem get_lt {i : Nat} {r : Row} (h : H[i]? = some r) : i < H.length := (List.getElem?_eq_some_iff.1 h).1
theorem memN_iff {n : Nat} : ∀ {l : List Nat}, memN n l = true ↔ n ∈ l
  | [] => by simp [memN]
  | a :: r => by simp only [memN, Bool.or_eq_true, memN_iff (l := r), List.mem_cons, Nat.beq_eq]; exact ⟨fun h => h.imp Eq.symm id, fun h => h.imp Eq.symm id⟩
theorem rdOf_some {l : List Nat} {i : Nat} {r : Row} (h : rdOf H l i = some r) : H[i]? = some r := by
  unfold rdOf at h
  cases hm : memN i l with
  | true => simpa [hm] using h
  | false => simp [hm] at h
theorem rdOf_mem {l : List Nat} {i : Nat} (h : i ∈ l) : rdOf H l i = H[i]? := by simp [rdOf, memN_iff.2 h]

/-! ### freezing -/
theorem row_rd {ok' : Nat → Prop} {id e : Nat} {t : Ty} {xs : List t.D} (hH : HRel w ok base H m) (h : H[id]? = some (.row e t xs)) (h1 : ∀ k, ok k → ok' k)
    (h2 : ∀ k, mblk (m id) = some k → ok' k) : Rd w ok' (.sl t) xs [m id] := by
  obtain ⟨us, hf, ho⟩ := hH.hp id _ h
  have hf' : F2 (Rd w ok' t) xs us := hf.imp fun _ _ _ hr => Rd_move (fun k hk hl => ⟨rfl, h1 k hk⟩) hr
  simp only [Rd]
  rcases ho.2 with ⟨hm, hn⟩ | ⟨g, cap, cur, hm, hg, hh, hnc, hcm, hcs, ht⟩
  · have : xs = [] := List.eq_nil_of_length_eq_zero hn
    subst this
    exact ⟨none, 0, by rw [hm]; rfl, by simp, fun _ => ⟨rfl, rfl⟩, fun h => absurd rfl h⟩
  · refine ⟨some ⟨g, 0, none⟩, cap, by rw [hm], hnc, fun h => by simp at h, fun _ => ⟨⟨g, 0, none⟩, us, rfl, h2 g (by rw [hm]; rfl), hf', fun j v hv => ?_⟩⟩
    exact World.ownsRow.cells (hm ▸ ho) (g := g) rfl j v hv

/-- Rows of S become read alone. -/
def FrzAt (S : Nat → Prop) (H H' : List Row) (id : Nat) : Prop :=
  (¬ S id ∧ H'[id]? = H[id]?) ∨ (S id ∧ match H[id]? with
    | some (.row e t xs) => H'[id]? = some (.frz t xs)
    | some (.box cs) => H'[id]? = some (.fbx cs)
    | x => H'[id]? = x)
def okF (ok : Nat → Prop) (S : Nat → Prop) (H : List Row) (m : Nat → Value) : Nat → Prop := fun k => ok k ∨ ∃ id r, S id ∧ H[id]? = some r ∧ r.live = true ∧ mblk (m id) = some k
theorem freeze_ok {H' : List Row} (S : Nat → Prop) (hH : HRel w ok base H m) (hF : ∀ id, FrzAt S H H' id) :
    HRel w (okF ok S H m) base H' m ∧ HStep w w ok (okF ok S H m) H H' m m := by
  have hs : HStep w w ok (okF ok S H m) H H' m m := by
    refine ⟨⟨Nat.le_refl _, fun k hk _ => ⟨rfl, .inl hk⟩⟩, fun id r hr hh => ⟨rfl, ?_⟩⟩
    rcases hF id with ⟨_, e⟩ | ⟨hS, e⟩
    · exact ⟨r, e.trans hr, .same r⟩
    · rw [hr] at e
      cases r with
      | row e' t xs => exact ⟨_, e, .frz e' t xs xs (row_rd hH hr (fun k hk => .inl hk) fun k hk => .inr ⟨id, _, hS, hr, rfl, hk⟩)⟩
      | box cs => exact ⟨_, e, .fbx cs cs⟩
      | hole => exact absurd rfl hh
      | dead => exact ⟨_, e, .same _⟩
      | frz => exact ⟨_, e, .same _⟩
      | fbx => exact ⟨_, e, .same _⟩
  refine ⟨hH.upd (fun id => S id ∧ ∃ r, H[id]? = some r ∧ r.live = true) hs (fun _ _ _ => rfl) ?_ ?_ ?_ ?_ ?_, hs⟩
  · intro id hid
    refine ⟨?_, rfl⟩
    rcases hF id with ⟨_, e⟩ | ⟨hS, e⟩
    · exact e
    · cases hq : H[id]? with
      | none => rw [hq] at e; exact e
      | some r =>
        rw [hq] at e
        cases r with
        | row => exact absurd ⟨hS, _, hq, rfl⟩ hid
        | box => exact absurd ⟨hS, _, hq, rfl⟩ hid
        | _ => exact e
  · rintro id r ⟨hS, q, hq, hl⟩ hr
    rcases hF id with ⟨hn, _⟩ | ⟨_, e⟩
    · exact absurd hS hn
    · rw [hq] at e
      cases q with
      | row e' t xs =>
        rw [e] at hr
        simp only [Option.some.injEq] at hr
        subst hr
        exact ⟨trivial, fun h => by simp [Row.live] at h⟩
      | box cs =>
        rw [e] at hr
        simp only [Option.some.injEq] at hr
        subst hr
        obtain ⟨b, T, cur, hm, hb, hh, hf⟩ := hH.hp id _ hq
        exact ⟨⟨b, T, cur, hm, .inr ⟨id, _, hS, hq, rfl, by rw [hm]; rfl⟩, hh, hf.imp fun _ _ _ h => rel1_step hs h⟩, fun h => by simp [Row.live] at h⟩
      | _ => simp [Row.live] at hl
  · rintro i j ri rj k ⟨hS, q, hq, hl⟩ _ hi _ hli _ _ _
    rcases hF i with ⟨hn, _⟩ | ⟨_, e⟩
    · exact absurd hS hn
    · rw [hq] at e
      cases q with
      | row e' t xs => rw [e] at hi; simp only [Option.some.injEq] at hi; subst hi; simp [Row.live] at hli
      | box cs => rw [e] at hi; simp only [Option.some.injEq] at hi; subst hi; simp [Row.live] at hli
      | _ => simp [Row.live] at hl
  · rintro k (hk | ⟨id, r, hS, hr, hl, hk⟩)
    · exact hH.lt k hk
    · exact ((hH.hp id r hr).lt hl k hk).2
  · rintro k (hk | ⟨id, r, hS, hr, hl, hk⟩) _
    · exact .inl hk
    · exact .inr ⟨id, r, ⟨hS, r, hr, hl⟩, hr, hl, hk⟩

theorem okF_bd {S : Nat → Prop} (hH : HRel w ok base H m) (k : Nat) (h : okF ok S H m k) : ok k ∨ base ≤ k := by
  rcases h with h | ⟨id, r, _, hr, hl, hk⟩
  · exact .inl h
  · exact .inr ((hH.hp id r hr).lt hl k hk).1
/-- The own rows of a value, frozen. -/
theorem frz_mem {rd : Nat → Option Row} {x : AV} {i : Nat} {r : Row} : (i, r) ∈ frz rd x ↔ AV.own i ∈ cellsOf x ∧ ∃ e t xs, rd i = some (.row e t xs) ∧ r = .frz t xs := by
  unfold frz
  rw [List.mem_flatMap]
  constructor
  · rintro ⟨c, hc, h⟩
    cases c with
    | own j =>
      simp only [frz1] at h
      split at h
      · rename_i e t xs hq
        simp only [List.mem_singleton, Prod.mk.injEq] at h
        obtain ⟨rfl, rfl⟩ := h
        exact ⟨hc, e, t, xs, hq, rfl⟩
      · simp at h
    | _ => simp [frz1] at h
  · rintro ⟨hc, e, t, xs, hq, rfl⟩
    exact ⟨_, hc, by simp [frz1, hq]⟩
theorem frz_at {l : List Nat} {ups : List (Nat × Row)} (S : Nat → Prop) (hu : ∀ i r, (i, r) ∈ ups ↔ S i ∧ ∃ e t xs, H[i]? = some (.row e t xs) ∧ r = .frz t xs)
    (hS : ∀ i, S i → ∀ cs, H[i]? ≠ some (.box cs)) (id : Nat) : FrzAt S H (setH H ups) id := by
  by_cases hs : S id
  · refine .inr ⟨hs, ?_⟩
    cases hq : H[id]? with
    | none => rw [setH_other, hq]; intro hm; obtain ⟨r, hr⟩ := fsts_mem.1 hm; obtain ⟨_, e, t, xs, h, _⟩ := (hu id r).1 hr; rw [hq] at h; simp at h
    | some r =>
      have other : (∀ e t xs, r ≠ .row e t xs) → (setH H ups)[id]? = some r := by
        intro hne
        rw [setH_other, hq]
        intro hm
        obtain ⟨r', hr⟩ := fsts_mem.1 hm
        obtain ⟨_, e, t, xs, h, _⟩ := (hu id r').1 hr
        rw [hq] at h
        exact hne e t xs (Option.some.inj h)
      cases r with
      | row e t xs =>
        refine setH_mem H ups (get_lt hq) ((hu id _).2 ⟨hs, e, t, xs, hq, rfl⟩) fun q hq' => ?_
        obtain ⟨_, e', t', xs', h, rfl⟩ := (hu id q).1 hq'
        rw [hq] at h
        simp only [Option.some.injEq, Row.row.injEq] at h
        obtain ⟨rfl, rfl, h⟩ := h
        cases h
        rfl
      | box cs => exact absurd hq (hS id hs cs)
      | hole => exact other (by simp)
      | dead => exact other (by simp)
      | frz => exact other (by simp)
      | fbx => exact other (by simp)
  · refine .inl ⟨hs, ?_⟩
    rw [setH_other]
    intro hm
    obtain ⟨r, hr⟩ := fsts_mem.1 hm
    exact hs ((hu id r).1 hr).1

/-! ### contents -/
theorem castD_rd {t t' : Ty} (h : t' = t) {x : t'.D} {cs : List Value} (hr : Rd w ok t' x cs) : Rd w ok t (castD h x) cs := by
  subst h
  exact hr
theorem leafD_rd {rd : Nat → Option Row} {ok' : Nat → Prop} {t : Ty} {c : AV} {u : Value} {x : t.D} (hrd : ∀ i r, rd i = some r → H[i]? = some r) (h1 : ∀ k, ok k → ok' k)
    (hfz : ∀ id e t xs, c = .own id → H[id]? = some (.row e t xs) → Rd w ok' (.sl t) xs [m id]) (hc : rel1 w ok H m c u) (hl : leafD rd t c = some x) : Rd w ok' t x [u] := by
  have mv : ∀ {t : Ty} {x : t.D} {cs : List Value}, Rd w ok t x cs → Rd w ok' t x cs := fun h => Rd_move (fun k hk _ => ⟨rfl, h1 k hk⟩) h
  unfold leafD at hl
  cases c with
  | v t' y =>
    simp only at hl
    split at hl
    · rename_i e
      simp only [Option.some.injEq] at hl
      subst hl
      exact castD_rd e (mv hc)
    · simp at hl
  | nl =>
    cases t <;> simp only [reduceCtorEq] at hl
    obtain rfl := Option.some.inj hl
    have hc : u = .slice none 0 0 := hc
    subst hc
    simp only [Rd]
    exact ⟨none, 0, rfl, by simp, fun _ => ⟨rfl, rfl⟩, fun h => absurd rfl h⟩
  | own id =>
    cases t <;> simp only [reduceCtorEq] at hl
    rename_i e
    cases hq : rd id with
    | none => simp [hq] at hl
    | some r =>
      have hH := hrd id r hq
      simp only [rel1, hH] at hc
      replace hc := hc.2
      cases r <;> simp only [hq, reduceCtorEq] at hl
      case row e' t' xs =>
        split at hl
        · rename_i he
          simp only [Option.some.injEq] at hl
          subst hl
          have hc : u = m id := hc
          subst hc
          exact castD_rd (congrArg Ty.sl he) (hfz id e' t' xs rfl hH)
        · simp at hl
      case frz t' xs =>
        split at hl
        · rename_i he
          simp only [Option.some.injEq] at hl
          subst hl
          exact castD_rd (congrArg Ty.sl he) (mv hc)
        · simp at hl
  | _ => simp at hl
theorem implode_rd {rd : Nat → Option Row} {ok' : Nat → Prop} (hrd : ∀ i r, rd i = some r → H[i]? = some r) (h1 : ∀ k, ok k → ok' k) :
    ∀ {t : Ty} {cs : List AV} {us : List Value} {x : t.D} {r : List AV}, (∀ id e t xs, AV.own id ∈ cs → H[id]? = some (.row e t xs) → Rd w ok' (.sl t) xs [m id]) →
    F2 (rel1 w ok H m) cs us → implode rd t cs = some (x, r) → ∃ u1 u2, us = u1 ++ u2 ∧ Rd w ok' t x u1 ∧ F2 (rel1 w ok H m) r u2 ∧ ∀ c ∈ r, c ∈ cs := by
  have leaf : ∀ {t : Ty} {cs : List AV} {us : List Value} {x : t.D} {r : List AV}, (∀ id e t xs, AV.own id ∈ cs → H[id]? = some (.row e t xs) → Rd w ok' (.sl t) xs [m id]) →
      F2 (rel1 w ok H m) cs us → (∃ c, cs = c :: r ∧ leafD rd t c = some x) → ∃ u1 u2, us = u1 ++ u2 ∧ Rd w ok' t x u1 ∧ F2 (rel1 w ok H m) r u2 ∧ ∀ c ∈ r, c ∈ cs := by
    rintro t cs us x r hfz hf ⟨c, rfl, hl⟩
    cases hf with
    | @cons _ u _ us' h1' hf => exact ⟨[u], us', rfl, leafD_rd hrd h1 (fun id e t xs hc hr => hfz id e t xs (by simp [hc]) hr) h1' hl, hf, fun c hc => by simp [hc]⟩
  intro t
  induction t with
  | pair a b iha ihb =>
    intro cs us x r hfz hf hi
    simp only [implode] at hi
    cases ha : implode rd a cs with
    | none => simp [ha] at hi
    | some q =>
      obtain ⟨y, cs'⟩ := q
      simp only [ha] at hi
      cases hb : implode rd b cs' with
      | none => simp [hb] at hi
      | some q =>
        obtain ⟨z, r'⟩ := q
        simp only [hb, Option.some.injEq, Prod.mk.injEq] at hi
        obtain ⟨rfl, rfl⟩ := hi
        obtain ⟨u1, u2, rfl, hr1, hf2, hm⟩ := iha hfz hf ha
        obtain ⟨v1, v2, rfl, hr2, hf3, hm'⟩ := ihb (fun id e t xs hc => hfz id e t xs (hm _ hc)) hf2 hb
        refine ⟨u1 ++ v1, v2, by simp, ?_, hf3, fun c hc => hm c (hm' c hc)⟩
        simp only [Rd]
        exact ⟨u1, v1, rfl, hr1, hr2⟩
  | int k =>
    intro cs us x r hfz hf hi
    cases cs with
    | nil => simp [implode] at hi
    | cons c cs =>
      simp only [implode] at hi
      cases hl : leafD rd (.int k) c with
      | none => simp [hl] at hi
      | some y => simp only [hl, Option.some.injEq, Prod.mk.injEq] at hi; obtain ⟨rfl, rfl⟩ := hi; exact leaf hfz hf ⟨c, rfl, hl⟩
  | bool =>
    intro cs us x r hfz hf hi
    cases cs with
    | nil => simp [implode] at hi
    | cons c cs =>
      simp only [implode] at hi
      cases hl : leafD rd .bool c with
      | none => simp [hl] at hi
      | some y => simp only [hl, Option.some.injEq, Prod.mk.injEq] at hi; obtain ⟨rfl, rfl⟩ := hi; exact leaf hfz hf ⟨c, rfl, hl⟩
  | str =>
    intro cs us x r hfz hf hi
    cases cs with
    | nil => simp [implode] at hi
    | cons c cs =>
      simp only [implode] at hi
      cases hl : leafD rd .str c with
      | none => simp [hl] at hi
      | some y => simp only [hl, Option.some.injEq, Prod.mk.injEq] at hi; obtain ⟨rfl, rfl⟩ := hi; exact leaf hfz hf ⟨c, rfl, hl⟩
  | sl t _ =>
    intro cs us x r hfz hf hi
    cases cs with
    | nil => simp [implode] at hi
    | cons c cs =>
      simp only [implode] at hi
      cases hl : leafD rd (.sl t) c with
      | none => simp [hl] at hi
      | some y => simp only [hl, Option.some.injEq, Prod.mk.injEq] at hi; obtain ⟨rfl, rfl⟩ := hi; exact leaf hfz hf ⟨c, rfl, hl⟩

/-- A value's cells. -/
theorem leaf_cells {x : AV} {u : Value} (hl : leafB x = true) (h : rel1 w ok H m x u) : u.cells = #[u] ∧ u.oneCell' = true := by
  have ptr : ∀ {p : Option Addr}, u = .pointer p → u.cells = #[u] ∧ u.oneCell' = true := by rintro p rfl; exact ⟨rfl, rfl⟩
  have sli : ∀ {p : Option Addr} {n c : Nat}, u = .slice p n c → u.cells = #[u] ∧ u.oneCell' = true := by rintro p n c rfl; exact ⟨rfl, rfl⟩
  cases x with
  | v t x =>
    have h : Rd w ok t x [u] := h
    cases t with
    | pair a b => simp [leafB] at hl
    | int k => simp only [Rd, List.cons.injEq, and_true] at h; subst h; exact ⟨rfl, rfl⟩
    | bool => simp only [Rd, List.cons.injEq, and_true] at h; subst h; exact ⟨rfl, rfl⟩
    | str => simp only [Rd, List.cons.injEq, and_true] at h; subst h; exact ⟨rfl, rfl⟩
    | sl t => simp only [Rd, List.cons.injEq, and_true] at h; obtain ⟨p, c, h, _⟩ := h; exact sli h
  | nl => exact sli h
  | own id => obtain ⟨⟨p, n, c, h⟩, _⟩ := h; exact sli h
  | pb id off => obtain ⟨⟨ad, h⟩, _⟩ := h; exact ptr h
  | pe id i off => obtain ⟨⟨ad, h⟩, _⟩ := h; exact ptr h
  | rp cs => obtain ⟨ad, us, h, _⟩ := h; exact ptr h
  | _ => simp [leafB] at hl
theorem cells_rel {x : AV} {u : Value} (hl : plainB x = true) (h : rel w ok H m x u) : F2 (rel1 w ok H m) (cellsOf x) u.cells.toList ∧ ∀ v ∈ u.cells.toList, v.oneCell' = true := by
  have one : leafB x = true → rel1 w ok H m x u → F2 (rel1 w ok H m) [x] u.cells.toList ∧ ∀ v ∈ u.cells.toList, v.oneCell' = true := by
    intro hl h
    obtain ⟨e, h1⟩ := leaf_cells hl h
    rw [e]
    exact ⟨.cons h .nil, by simpa using h1⟩
  cases x with
  | agg cs =>
    obtain ⟨us, rfl, hf⟩ := h
    have e : (Value.agg us.toArray).cells.toList = us := by simp [Value.cells]
    rw [e]
    refine ⟨hf, fun v hv => ?_⟩
    have hall : ∀ c ∈ cs, leafB c = true := by simpa [plainB, List.all_eq_true] using hl
    clear hl one e
    induction hf with
    | nil => simp at hv
    | cons h1 _ ih =>
      rcases List.mem_cons.1 hv with rfl | hv
      · exact (leaf_cells (hall _ (by simp)) h1).2
      · exact ih hv fun c hc => hall c (by simp [hc])
  | v t x => exact one hl h
  | nl => exact one hl h
  | own id => exact one hl h
  | pb id off => exact one hl h
  | pe id i off => exact one hl h
  | rp cs => exact one hl h
  | _ => simp [plainB, leafB] at hl
end
end Go.Proofs.Ytoplphfgbfcagaa.Ev
