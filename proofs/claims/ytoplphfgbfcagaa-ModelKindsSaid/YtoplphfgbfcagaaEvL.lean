/-
One operation, whichever it is: the cases put together.
Conditions: the table of types is the program's; the operands' values stand in the relation; a place for a new row is kept free.
-/
import Derived.Test.YtoplphfgbfcagaaEvK
set_option linter.unusedVariables false
set_option linter.unusedSimpArgs false
namespace Go.Proofs.Ytoplphfgbfcagaa.Ev
open Go Go.RowKit

section
variable {P : Program} {E : Env} {o : Oper} {a : Act} {w : World} {ok : Nat → Prop} {base : Nat} {H : List Row} {m : Nat → Value}

theorem boolT_ok {T : Nat} (hE : TyOk P E) (h : boolT E T = true) : P.underlying T = some .bool := by
  unfold boolT at h
  split at h
  · rename_i i hi
    split at h
    · rename_i ht; exact (hE T i hi).bo ht
    · simp at h
  · simp at h
theorem TOk.und {t : Nat} {i : TInfo} (h : TOk P t i) : i.agg = true ∨ i.agg = false := by cases i.agg <;> simp

theorem F2.nil' {α β : Type} {r : α → β → Prop} {ys : List β} (h : F2 r [] ys) : ys = [] := by cases h; rfl

theorem own_ids {x : AV} {j : Nat} (h : AV.own j ∈ cellsOf x) : j ∈ idsA x := by
  cases x with
  | own i =>
    have h : AV.own j ∈ [AV.own i] := h
    simp only [List.mem_singleton, AV.own.injEq] at h
    subst h
    exact List.mem_singleton.2 rfl
  | agg cs =>
    have h : AV.own j ∈ cs := h
    show j ∈ cs.flatMap ids1
    rw [List.mem_flatMap]
    exact ⟨_, h, List.mem_singleton.2 rfl⟩
  | _ => simp [cellsOf] at h

theorem stepCall {X : List AV} {c : Call} {nid : Nat} {rd : Nat → Option Row} {av : AV} {ups : List (Nat × Row)} (hE : TyOk P E) (hH : HRel w ok base H m) (hb : base ≤ w.heap.size) (hh : H[nid]? = some .hole) (ho : o.op = .call c)
    (hrd : ∀ j r, rd j = some r → H[j]? = some r) (ha : F2 (rel w ok H m) X ((Op.call c).operands.toList.map a.eval)) (h : stepW E (.call c) nid X rd = some (true, av, ups)) : Done P o a w ok base H m av ups := by
  obtain ⟨callee, args, argTypes⟩ := c
  simp only [stepW] at h
  have lst : ∀ {l : List AV}, F2 (rel w ok H m) l (args.toList.map a.eval) → ∀ {b : Builtin}, callee = .builtin b → (∀ x, l = [x] → ∃ Y, args = #[Y] ∧ rel w ok H m x (a.eval Y)) ∧ (∀ x y, l = [x, y] → ∃ Y Z, args = #[Y, Z] ∧ rel w ok H m x (a.eval Y) ∧ rel w ok H m y (a.eval Z)) := by
    intro l hl b _
    obtain ⟨ag⟩ := args
    constructor
    · rintro x rfl
      obtain ⟨y, e, hr⟩ := hl.one
      match ag, e with
      | [Y], e => simp only [List.map_cons, List.map_nil, List.cons.injEq, and_true] at e; subst e; exact ⟨Y, rfl, hr⟩
    · rintro x y rfl
      obtain ⟨y1, y2, e, h1, h2⟩ := hl.two
      match ag, e with
      | [Y, Z], e => simp only [List.map_cons, List.map_nil, List.cons.injEq, and_true] at e; obtain ⟨rfl, rfl⟩ := e; exact ⟨Y, Z, rfl, h1, h2⟩
  split at h
  · -- len
    rename_i x
    have ha : F2 (rel w ok H m) [x] (args.toList.map a.eval) := by simpa [Op.operands, Call.operands] using ha
    obtain ⟨Y, rfl, hY⟩ := (lst ha rfl).1 x rfl
    split at h
    case h_2 => simp at h
    rename_i T hT
    cases hB : lenB E T x with
    | false => simp [hB] at h
    | true =>
      simp only [hB, cond_true] at h
      split at h
      case h_2 => simp at h
      rename_i n hn
      simp only [Option.some.injEq, Prod.mk.injEq, true_and] at h
      obtain ⟨rfl, rfl⟩ := h
      obtain ⟨at'⟩ := argTypes
      have hT : at' = [T] := hT
      subst hT
      exact done_lenC hE hH ho hrd hY hB hn
  · -- append
    rename_i s x
    have ha : F2 (rel w ok H m) [s, x] (args.toList.map a.eval) := by simpa [Op.operands, Call.operands] using ha
    obtain ⟨X1, X2, rfl, h1, h2⟩ := (lst ha rfl).2 s x rfl
    split at h
    case h_2 => simp at h
    rename_i T T' hT
    obtain ⟨at'⟩ := argTypes
    have hT : at' = [T, T'] := hT
    subst hT
    cases hB : Nat.beq T T' with
    | false => simp [hB] at h
    | true =>
      have := Nat.eq_of_beq_eq_true hB
      subst this
      simp only [hB, cond_true] at h
      split at h
      case h_2 => simp at h
      rename_i iT hiT
      split at h
      case h_2 => simp at h
      rename_i e he
      split at h
      case h_2 => simp at h
      rename_i i hi
      split at h
      case h_2 => simp at h
      rename_i ys hy
      have hT' := hE T iT hiT
      have hie := hE e i hi
      unfold appW at h
      split at h
      · simp only [Option.some.injEq, Prod.mk.injEq, decide_eq_true_eq] at h
        obtain ⟨hl, rfl, rfl⟩ := h
        exact done_app_nl hT' he hie hH hb hh ho hrd h1 h2 hy hl
      · rename_i id
        split at h
        case h_2 => simp at h
        rename_i e' t xs hr
        split at h
        case isFalse => simp at h
        rename_i ht
        subst ht
        cases hB' : Nat.beq e' e with
        | false => simp [hB'] at h
        | true =>
          have := Nat.eq_of_beq_eq_true hB'
          subst this
          simp only [hB', cond_true, Option.some.injEq, Prod.mk.injEq, decide_eq_true_eq] at h
          obtain ⟨hl, rfl, rfl⟩ := h
          exact done_app_own hT' he hie hH hb hh ho hrd (hrd _ _ hr) h1 h2 hy hl
      · simp at h
  · -- max
    rename_i k x k' y
    have ha : F2 (rel w ok H m) [AV.v (.int k) x, AV.v (.int k') y] (args.toList.map a.eval) := by simpa [Op.operands, Call.operands] using ha
    obtain ⟨X1, X2, rfl, h1, h2⟩ := (lst ha rfl).2 _ _ rfl
    split at h
    case isFalse => simp at h
    rename_i hk
    subst hk
    simp only [maxW, Option.some.injEq, Prod.mk.injEq, true_and] at h
    obtain ⟨rfl, rfl⟩ := h
    exact done_max hH ho h1 h2
  · -- min
    rename_i k x k' y
    have ha : F2 (rel w ok H m) [AV.v (.int k) x, AV.v (.int k') y] (args.toList.map a.eval) := by simpa [Op.operands, Call.operands] using ha
    obtain ⟨X1, X2, rfl, h1, h2⟩ := (lst ha rfl).2 _ _ rfl
    split at h
    case isFalse => simp at h
    rename_i hk
    subst hk
    simp only [minW, Option.some.injEq, Prod.mk.injEq, true_and] at h
    obtain ⟨rfl, rfl⟩ := h
    exact done_min hH ho h1 h2
  · simp at h

theorem ownIn_no {i : Nat} : ∀ {l : List AV}, ownIn i l = false → AV.own i ∉ l
  | [], _ => by simp
  | x :: r, h => by
    intro hm
    cases x with
    | own j =>
      simp only [ownIn, Bool.or_eq_false_iff] at h
      rcases List.mem_cons.1 hm with e | hm
      · simp only [AV.own.injEq] at e
        subst e
        simp at h
      · exact ownIn_no h.2 hm
    | _ =>
      simp only [ownIn] at h
      rcases List.mem_cons.1 hm with e | hm
      · simp at e
      · exact ownIn_no h hm
theorem pb_field {id off d : Nat} {u : Value} (hu : rel w ok H m (.pb id off) u) :
    ∃ ad, u = .pointer (some ad) ∧ rel w ok H m (.pb id (off + d)) (.pointer (some (ad.add d))) := by
  have hu' : rel1 w ok H m (.pb id off) u := hu
  simp only [rel1] at hu'
  obtain ⟨⟨ad, e⟩, hu'⟩ := hu'
  split at hu'
  · rename_i cs h; exact pb_add hu ⟨cs, .inl h⟩
  · rename_i cs h; exact pb_add hu ⟨cs, .inr h⟩
  · rename_i h
    refine ⟨ad, e, ?_⟩
    show rel1 w ok H m (.pb id (off + d)) _
    simp only [rel1, h]
    exact ⟨⟨_, rfl⟩, trivial⟩
  · exact hu'.elim
theorem pe_field {id i off d : Nat} {u : Value} (hu : rel w ok H m (.pe id i off) u) :
    ∃ ad, u = .pointer (some ad) ∧ rel w ok H m (.pe id i (off + d)) (.pointer (some (ad.add d))) := by
  have hu' : rel1 w ok H m (.pe id i off) u := hu
  simp only [rel1] at hu'
  obtain ⟨⟨ad, e⟩, hu'⟩ := hu'
  split at hu'
  · rename_i e' t xs h
    obtain ⟨hi, b, n, c, hm, he⟩ := hu'
    refine ⟨_, he, ?_⟩
    show rel1 w ok H m (.pe id i (off + d)) _
    simp only [rel1, h]
    exact ⟨⟨_, rfl⟩, hi, b, n, c, hm, by rw [add_plain', Nat.add_assoc]⟩
  · rename_i t xs h
    refine ⟨ad, e, ?_⟩
    show rel1 w ok H m (.pe id i (off + d)) _
    simp only [rel1, h]
    exact ⟨⟨_, rfl⟩, trivial⟩
  · rename_i h
    refine ⟨ad, e, ?_⟩
    show rel1 w ok H m (.pe id i (off + d)) _
    simp only [rel1, h]
    exact ⟨⟨_, rfl⟩, trivial⟩
  · exact hu'.elim
theorem rp_field {cs : List AV} {d : Nat} {u : Value} (hu : rel w ok H m (.rp cs) u) :
    ∃ ad, u = .pointer (some ad) ∧ rel w ok H m (.rp (cs.drop d)) (.pointer (some (ad.add d))) := by
  have hu' : rel1 w ok H m (.rp cs) u := hu
  obtain ⟨ad, us, e, h1, h2, hc, hf⟩ := hu'
  refine ⟨ad, e, ad.add d, us.drop d, rfl, by rw [add_block]; exact h1, by rw [add_block]; exact h2, ?_, hf.drop d⟩
  by_cases h : us = []
  · subst h; intro j v hv; simp at hv
  · exact hc.drop (hc.spot h) d
theorem step_sound {as : List AV} {nid : Nat} {av : AV} {ups : List (Nat × Row)} (hE : TyOk P E) (hH : HRel w ok base H m) (hb : base ≤ w.heap.size) (hh : news o.op = 1 → H[nid]? = some .hole)
    (ha : F2 (rel w ok H m) as (o.op.operands.toList.map a.eval)) (h : stepW E o.op nid as (rdOf H (as.flatMap idsA)) = some (true, av, ups)) : Done P o a w ok base H m av ups := by
  generalize hrdE : rdOf H (as.flatMap idsA) = rd at h
  have hrd : ∀ j r, rd j = some r → H[j]? = some r := fun j r hj => by subst hrdE; exact rdOf_some hj
  have hrd' : ∀ x ∈ as, ∀ j, AV.own j ∈ cellsOf x → rd j = H[j]? := fun x hx j hj => by
    subst hrdE
    exact rdOf_mem (List.mem_flatMap.2 ⟨x, hx, own_ids hj⟩)
  generalize hop : o.op = op at h hh ha
  cases op with
  | call c => exact stepCall hE hH hb (hh rfl) hop hrd ha h
  | move X =>
    obtain _ | ⟨x, _ | ⟨y, r⟩⟩ := as <;> simp only [stepW, reduceCtorEq, Option.some.injEq, Prod.mk.injEq, true_and] at h
    obtain ⟨rfl, rfl⟩ := h
    obtain ⟨u, e, hx⟩ := ha.one
    simp only [Op.operands, List.map_cons, List.map_nil, List.cons.injEq, and_true] at e
    exact done_move hH (.inl hop) (e ▸ hx)
  | assign X =>
    obtain _ | ⟨x, _ | ⟨y, r⟩⟩ := as <;> simp only [stepW, reduceCtorEq, Option.some.injEq, Prod.mk.injEq, true_and] at h
    obtain ⟨rfl, rfl⟩ := h
    obtain ⟨u, e, hx⟩ := ha.one
    simp only [Op.operands, List.map_cons, List.map_nil, List.cons.injEq, and_true] at e
    exact done_move hH (.inr hop) (e ▸ hx)
  | pick C X Y =>
    obtain _ | ⟨c, _ | ⟨x, _ | ⟨y, _ | ⟨z, r⟩⟩⟩⟩ := as <;> simp only [stepW, reduceCtorEq] at h
    obtain ⟨u1, u2, u3, e, h1, h2, h3⟩ := ha.three
    simp only [Op.operands, List.map_cons, List.map_nil, List.cons.injEq, and_true] at e
    obtain ⟨rfl, rfl, rfl⟩ := e
    split at h
    case h_2 => simp at h
    rename_i b
    split at h
    · rename_i ta xa tb xb
      split at h
      case isFalse => simp at h
      rename_i ht
      subst ht
      simp only [Option.some.injEq, Prod.mk.injEq, true_and] at h
      obtain ⟨rfl, rfl⟩ := h
      have := done_pick (P := P) hH hop h1 h2 h3
      cases b <;> exact this
    · simp only [Option.some.injEq, Prod.mk.injEq, true_and] at h
      obtain ⟨rfl, rfl⟩ := h
      exact done_pick hH hop h1 h2 h3
  | alloc T =>
    obtain _ | ⟨c, r⟩ := as <;> simp only [stepW, reduceCtorEq] at h
    split at h
    case h_2 => simp at h
    rename_i i hi
    simp only [Option.some.injEq, Prod.mk.injEq, true_and] at h
    obtain ⟨rfl, rfl⟩ := h
    exact done_alloc (hE T i hi) hH hb (hh rfl) hop
  | box T X =>
    obtain _ | ⟨x, _ | ⟨y, r⟩⟩ := as <;> simp only [stepW, reduceCtorEq] at h
    obtain ⟨u, e, hx⟩ := ha.one
    simp only [Op.operands, List.map_cons, List.map_nil, List.cons.injEq, and_true] at e
    subst e
    split at h
    case h_2 => simp at h
    rename_i i hi
    cases hp : plainB x with
    | false => simp [hp] at h
    | true =>
      simp only [hp, cond_true, Option.some.injEq, Prod.mk.injEq, true_and] at h
      obtain ⟨rfl, rfl⟩ := h
      exact done_box hH hb (hh rfl) hop hx hp
  | build T parts =>
    simp only [stepW] at h
    have ha : F2 (rel w ok H m) as (parts.toList.map fun p => a.eval p.2) := by simpa [Op.operands, Function.comp_def] using ha
    split at h
    case h_2 => simp at h
    rename_i i hi
    cases hg : i.agg && as.all plainB with
    | false => simp [hg] at h
    | true =>
      simp only [hg, cond_true] at h
      simp only [Bool.and_eq_true, List.all_eq_true] at hg
      split at h
      case h_2 => simp at h
      rename_i cs hcs
      simp only [Option.some.injEq, Prod.mk.injEq, true_and] at h
      obtain ⟨rfl, rfl⟩ := h
      exact done_build hE (hE T i hi) hg.1 hH hop ha hg.2 hcs
  | buildSlice T len parts =>
    simp only [stepW] at h
    have ha : F2 (rel w ok H m) as (parts.toList.map fun p => a.eval p.2) := by simpa [Op.operands, Function.comp_def] using ha
    split at h
    case h_2 => simp at h
    rename_i iT hiT
    split at h
    case h_2 => simp at h
    rename_i e he
    split at h
    case h_2 => simp at h
    rename_i i hi
    cases hg : natsEq (parts.toList.map (·.1)) (rangeFrom 0 len) && Nat.ble (len * i.ty.sz) 16777216 with
    | false => simp [hg] at h
    | true =>
      simp only [hg, cond_true] at h
      simp only [Bool.and_eq_true] at hg
      split at h
      case h_2 => simp at h
      rename_i xs hxs
      simp only [Option.some.injEq, Prod.mk.injEq, true_and] at h
      obtain ⟨rfl, rfl⟩ := h
      exact done_buildSlice (hE T iT hiT) he (hE e i hi) hH hb (hh rfl) hop hrd (fun j x hx hj => hrd' x hx j hj) (natsEq_eq hg.1) (Nat.le_of_ble_eq_true hg.2) ha hxs
  | load T X =>
    obtain _ | ⟨p, _ | ⟨y, r⟩⟩ := as <;> simp only [stepW, reduceCtorEq] at h
    obtain ⟨u, e, hp⟩ := ha.one
    simp only [Op.operands, List.map_cons, List.map_nil, List.cons.injEq, and_true] at e
    subst e
    have go : ∀ {cs : List AV} {ad : Addr} {us : List Value}, a.eval X = .pointer (some ad) → Cells w ad us → F2 (rel1 w ok H m) cs us → (match takeW E T cs with | some a => some (true, a, []) | none => none) = some (true, av, ups) → Done P o a w ok base H m av ups := by
      intro cs ad us e hc hf h
      split at h
      case h_2 => simp at h
      rename_i z hz
      simp only [Option.some.injEq, Prod.mk.injEq, true_and] at h
      obtain ⟨rfl, rfl⟩ := h
      exact done_load hE hH hop e hc hf hz
    split at h
    · rename_i id off
      split at h
      · rename_i cs hr
        obtain ⟨b, us, e, hc, hf⟩ := box_cells hH (.inl (hrd _ _ hr)) hp
        exact go e hc hf h
      · rename_i cs hr
        obtain ⟨b, us, e, hc, hf⟩ := box_cells hH (.inr (hrd _ _ hr)) hp
        exact go e hc hf h
      · simp at h
    · rename_i id i off
      split at h
      · rename_i e' t xs hr
        obtain ⟨b, us, e, hc, hf⟩ := elem_cells hH (hrd _ _ hr) hp
        exact go e hc hf h
      · simp at h
    · rename_i cs
      obtain ⟨ad, us, e, hc, hf⟩ := rp_load hp
      exact go e hc hf h
    · simp at h
  | store T X Y =>
    obtain _ | ⟨p, _ | ⟨x, _ | ⟨z, r⟩⟩⟩ := as <;> simp only [stepW, reduceCtorEq] at h
    obtain ⟨u1, u2, e, hp, hx⟩ := ha.two
    simp only [Op.operands, List.map_cons, List.map_nil, List.cons.injEq, and_true] at e
    obtain ⟨rfl, rfl⟩ := e
    split at h
    case h_2 => simp at h
    rename_i iT hiT
    cases hg : Nat.beq (cellsOf x).length iT.ty.sz && plainB x with
    | false => simp [hg] at h
    | true =>
      simp only [hg, cond_true] at h
      simp only [Bool.and_eq_true] at hg
      split at h
      · rename_i id off
        split at h
        case h_2 => simp at h
        rename_i cs hr
        split at h
        case h_2 => simp at h
        rename_i cs' hk
        simp only [Option.some.injEq, Prod.mk.injEq, true_and] at h
        obtain ⟨rfl, rfl⟩ := h
        exact done_store_pb (hE T iT hiT) hH hop (hrd _ _ hr) hp hx hg.2 (Nat.eq_of_beq_eq_true hg.1) hk
      · rename_i id i off
        split at h
        case h_2 => simp at h
        rename_i e t xs hr
        split at h
        case h_2 => simp at h
        rename_i cs' hk
        split at h
        case h_2 => simp at h
        rename_i y hy
        cases hno : ownIn id (cellsOf x) with
        | true => simp [hno] at h
        | false =>
          simp only [hno, cond_false, Option.some.injEq, Prod.mk.injEq, true_and] at h
          obtain ⟨rfl, rfl⟩ := h
          exact done_store_pe (hE T iT hiT) hH hop hrd (fun j hj => hrd' x (by simp) j hj) (hrd _ _ hr) hp hx hg.2 (Nat.eq_of_beq_eq_true hg.1) hk hy (ownIn_no hno)
      · simp at h
  | nilCheck X =>
    obtain _ | ⟨x, _ | ⟨y, r⟩⟩ := as <;> simp only [stepW, reduceCtorEq] at h
    obtain ⟨u, e, hx⟩ := ha.one
    simp only [Op.operands, List.map_cons, List.map_nil, List.cons.injEq, and_true] at e
    subst e
    split at h <;> simp only [reduceCtorEq, Option.some.injEq, Prod.mk.injEq, true_and] at h <;> obtain ⟨rfl, rfl⟩ := h
    · have hx' : rel1 w ok H m (.pb _ _) (a.eval X) := hx
      exact done_nilCheck hH hop hx (.inl hx'.1)
    · have hx' : rel1 w ok H m (.pe _ _ _) (a.eval X) := hx
      exact done_nilCheck hH hop hx (.inl hx'.1)
    · have hx' : rel1 w ok H m (.rp _) (a.eval X) := hx
      obtain ⟨ad, us, e, _⟩ := hx'
      exact done_nilCheck hH hop hx (.inl ⟨ad, e⟩)
    · have hx' := hx
      obtain ⟨us, vs, e, _⟩ := hx'
      exact done_nilCheck hH hop hx (.inr ⟨_, _, _, e⟩)
  | binOp op T X Y T' =>
    obtain _ | ⟨x, _ | ⟨y, _ | ⟨z, r⟩⟩⟩ := as <;> simp only [stepW, reduceCtorEq] at h
    obtain ⟨u1, u2, e, hx, hy⟩ := ha.two
    simp only [Op.operands, List.map_cons, List.map_nil, List.cons.injEq, and_true] at e
    obtain ⟨rfl, rfl⟩ := e
    split at h
    case h_2 => simp at h
    rename_i c z hz
    simp only [Option.some.injEq, Prod.mk.injEq] at h
    obtain ⟨rfl, rfl, rfl⟩ := h
    unfold binW at hz
    split at hz
    · exact done_int hH hop hx hy hz
    · cases hB : boolT E T with
      | false => simp [hB] at hz
      | true => simp only [hB, cond_true] at hz; exact done_bool (boolT_ok hE hB) hH hop hx hy hz
    · exact done_str hH hop hx hy hz
    · simp at hz
  | unOp op T X =>
    obtain _ | ⟨x, _ | ⟨y, r⟩⟩ := as <;> simp only [stepW, reduceCtorEq] at h
    obtain ⟨u, e, hx⟩ := ha.one
    simp only [Op.operands, List.map_cons, List.map_nil, List.cons.injEq, and_true] at e
    subst e
    split at h <;> simp only [negW, notW, notB, reduceCtorEq, Option.some.injEq, Prod.mk.injEq, true_and] at h <;> obtain ⟨rfl, rfl⟩ := h
    · exact done_neg hH hop hx
    · exact done_xor hH hop hx
    · exact done_not hH hop hx
  | convert S D X =>
    obtain _ | ⟨x, _ | ⟨y, r⟩⟩ := as <;> simp only [stepW, reduceCtorEq] at h
    obtain ⟨u, e, hx⟩ := ha.one
    simp only [Op.operands, List.map_cons, List.map_nil, List.cons.injEq, and_true] at e
    subst e
    split at h
    case h_2 => simp at h
    rename_i s d hs hd
    have hS := hE S s hs
    have hD := hE D d hd
    split at h
    · split at h
      case h_2 => simp at h
      rename_i k hk
      simp only [convW, Option.some.injEq, Prod.mk.injEq, true_and] at h
      obtain ⟨rfl, rfl⟩ := h
      exact done_conv (hD.ik k hk) hS.un hH hop hx
    · cases hB : d.str && s.str with
      | false => simp [hB] at h
      | true =>
        simp only [hB, cond_true, Option.some.injEq, Prod.mk.injEq, true_and] at h
        obtain ⟨rfl, rfl⟩ := h
        simp only [Bool.and_eq_true] at hB
        exact done_convS (hD.st hB.1) (hS.st hB.2) hH hop hx
    · simp at h
  | makeFunc fn first caps =>
    cases fn with
    | func g =>
      simp only [stepW] at h
      cases hg : (as.take first.size).all plainB && (as.drop first.size).all leafB with
      | false => simp [hg] at h
      | true =>
        simp only [hg, cond_true, Option.some.injEq, Prod.mk.injEq, true_and] at h
        obtain ⟨rfl, rfl⟩ := h
        simp only [Bool.and_eq_true, List.all_eq_true] at hg
        have ha : F2 (rel w ok H m) as (first.toList.map a.eval ++ caps.toList.map a.eval) := by simpa [Op.operands] using ha
        have h1 := ha.take first.size
        have h2 := ha.drop first.size
        rw [List.take_left' (by simp)] at h1
        rw [List.drop_left' (by simp)] at h2
        refine done_makeFunc hH hop (h1.imp fun x u hx hr => ?_) (h2.imp fun x u hx hr => ?_)
        · have := hg.1 x hx
          cases x <;> first | exact hr | (simp [plainB, leafB] at this; done)
        · have := hg.2 x hx
          cases x <;> first | exact hr | (simp [leafB] at this; done)
    | _ => simp [stepW] at h
  | makeSlice T L C =>
    obtain _ | ⟨x, _ | ⟨y, _ | ⟨z, r⟩⟩⟩ := as <;> simp only [stepW, reduceCtorEq] at h
    obtain ⟨u1, u2, e, hx, hy⟩ := ha.two
    simp only [Op.operands, List.map_cons, List.map_nil, List.cons.injEq, and_true] at e
    obtain ⟨rfl, rfl⟩ := e
    have go : ∀ {k' : IntKind}, (∀ k n, a.eval L = .int k n → ∃ k', a.eval C = .int k' n) → stepW.mk E x nid T = some (true, av, ups) → Done P o a w ok base H m av ups := by
      intro k' hC h
      unfold stepW.mk at h
      split at h
      case h_2 => simp at h
      rename_i k n
      split at h
      case h_2 => simp at h
      rename_i iT hiT
      split at h
      case h_2 => simp at h
      rename_i e he
      split at h
      case h_2 => simp at h
      rename_i i hi
      simp only [mkW, Option.some.injEq, Prod.mk.injEq, Bool.and_eq_true, decide_eq_true_eq] at h
      obtain ⟨⟨h0, h1⟩, rfl, rfl⟩ := h
      have hL := rd_int hx
      obtain ⟨k', hC⟩ := hC _ _ hL
      exact done_makeSlice (hE T iT hiT) he (hE e i hi) hH hb (hh rfl) hop hL hC h0 h1
    split at h
    · rename_i p q
      cases hB : Nat.beq p q with
      | false => simp [hB] at h
      | true =>
        have := Nat.eq_of_beq_eq_true hB
        subst this
        simp only [hB, cond_true] at h
        exact go (k' := .i64) (fun k n h => ⟨k, h⟩) h
    · rename_i k1 p k2 q
      split at h
      case isFalse => simp at h
      rename_i hpq
      subst hpq
      exact go (k' := .i64) (fun k n h => ⟨k2, by simp [Act.eval] at h ⊢; exact h.2⟩) h
    · simp at h
  | slice T X lo hi mx =>
    cases mx with
    | some z => simp [stepW] at h
    | none =>
    obtain _ | ⟨x, r⟩ := as <;> simp only [stepW, reduceCtorEq] at h
    cases hB : slicedB E rd T x with
    | false => simp [hB] at h
    | true =>
      simp only [hB, cond_true] at h
      split at h
      · obtain ⟨u, e, hx⟩ := ha.one
        simp [Op.operands] at e
        exact done_slice hE hH hop hrd (e ▸ hx) (.inl ⟨rfl, rfl⟩) (.inl ⟨rfl, rfl⟩) hB h
      · obtain ⟨u, u2, e, hx, h2⟩ := ha.two
        simp [Op.operands] at e
        exact done_slice hE hH hop hrd (e.1 ▸ hx) (.inl ⟨rfl, rfl⟩) (.inr ⟨_, _, by rw [← rd_int h2, ← e.2]; rfl, rfl⟩) hB h
      · obtain ⟨u, u2, e, hx, h2⟩ := ha.two
        simp [Op.operands] at e
        exact done_slice hE hH hop hrd (e.1 ▸ hx) (.inr ⟨_, _, by rw [← rd_int h2, ← e.2]; rfl, rfl⟩) (.inl ⟨rfl, rfl⟩) hB h
      · obtain ⟨u, u2, u3, e, hx, h2, h3⟩ := ha.three
        simp [Op.operands] at e
        exact done_slice hE hH hop hrd (e.1 ▸ hx) (.inr ⟨_, _, by rw [← rd_int h2, ← e.2.1]; rfl, rfl⟩) (.inr ⟨_, _, by rw [← rd_int h3, ← e.2.2]; rfl, rfl⟩) hB h
      · simp at h
  | fieldAddr S X f =>
    obtain _ | ⟨x, _ | ⟨y, r⟩⟩ := as <;> simp only [stepW, reduceCtorEq] at h
    obtain ⟨u, e, hx⟩ := ha.one
    simp only [Op.operands, List.map_cons, List.map_nil, List.cons.injEq, and_true] at e
    subst e
    split at h
    case h_2 => simp at h
    rename_i i hi
    cases hg : i.agg with
    | false => simp [hg] at h
    | true =>
      simp only [hg, cond_true] at h
      split at h
      case h_2 => simp at h
      rename_i off T hf
      split at h
      case h_2 => simp at h
      rename_i iT hiT
      split at h <;> simp only [reduceCtorEq, Option.some.injEq, Prod.mk.injEq, true_and] at h <;> obtain ⟨rfl, rfl⟩ := h
      · obtain ⟨ad, e1, e2⟩ := pb_field (d := off) hx
        exact done_fieldAddr hH hop (hE S i hi) hg hf (hE T iT hiT) e1 e2
      · obtain ⟨ad, e1, e2⟩ := pe_field (d := off) hx
        exact done_fieldAddr hH hop (hE S i hi) hg hf (hE T iT hiT) e1 e2
      · obtain ⟨ad, e1, e2⟩ := rp_field (d := off) hx
        exact done_fieldAddr hH hop (hE S i hi) hg hf (hE T iT hiT) e1 e2
  | field S X f =>
    obtain _ | ⟨x, _ | ⟨y, r⟩⟩ := as <;> simp only [stepW, reduceCtorEq] at h
    obtain ⟨u, e, hx⟩ := ha.one
    simp only [Op.operands, List.map_cons, List.map_nil, List.cons.injEq, and_true] at e
    subst e
    split at h
    case h_2 => simp at h
    rename_i i hi
    cases hg : i.agg with
    | false => simp [hg] at h
    | true =>
      simp only [hg, cond_true] at h
      split at h
      case h_2 => simp at h
      rename_i off T hf
      split at h
      case h_2 => simp at h
      rename_i cs
      split at h
      case h_2 => simp at h
      rename_i z hz
      simp only [Option.some.injEq, Prod.mk.injEq, true_and] at h
      obtain ⟨rfl, rfl⟩ := h
      exact done_field hE hH hop (hE S i hi) hg hf hx hz
  | indexAddr T X I =>
    obtain _ | ⟨x, _ | ⟨y, _ | ⟨z, r⟩⟩⟩ := as <;> simp only [stepW, reduceCtorEq] at h
    obtain ⟨u1, u2, e, hx, hy⟩ := ha.two
    simp only [Op.operands, List.map_cons, List.map_nil, List.cons.injEq, and_true] at e
    obtain ⟨rfl, rfl⟩ := e
    split at h
    case h_2 => simp at h
    rename_i iT hiT
    split at h
    case h_2 => simp at h
    rename_i e he
    split at h
    case h_2 => simp at h
    rename_i ie hie
    split at h
    case h_2 => simp at h
    rename_i k i
    split at h
    · split at h
      case isFalse => simp at h
      rename_i ht
      subst ht
      simp only [ixW, Option.some.injEq, Prod.mk.injEq, Bool.and_eq_true, decide_eq_true_eq] at h
      obtain ⟨⟨h0, h1⟩, rfl, rfl⟩ := h
      exact done_index_v (hE T iT hiT) he (hE e ie hie) hH hop hx hy h0 h1
    · split at h
      · rename_i hr
        split at h
        case isFalse => simp at h
        rename_i ht
        subst ht
        simp only [ixW, Option.some.injEq, Prod.mk.injEq, Bool.and_eq_true, decide_eq_true_eq] at h
        obtain ⟨⟨h0, h1⟩, rfl, rfl⟩ := h
        exact done_index_own (hE T iT hiT) he (hE e ie hie) hH hop (hrd _ _ hr) hx hy h0 h1
      · rename_i hr
        split at h
        case isFalse => simp at h
        rename_i ht
        subst ht
        simp only [ixW, Option.some.injEq, Prod.mk.injEq, Bool.and_eq_true, decide_eq_true_eq] at h
        obtain ⟨⟨h0, h1⟩, rfl, rfl⟩ := h
        exact done_indexF (hE T iT hiT) he (hE e ie hie) hH hop (hrd _ _ hr) hx hy h0 h1
      · simp at h
    · simp at h
  | index T X I =>
    obtain _ | ⟨x, _ | ⟨y, _ | ⟨z, r⟩⟩⟩ := as <;> simp only [stepW, reduceCtorEq] at h
    obtain ⟨u1, u2, e, hx, hy⟩ := ha.two
    simp only [Op.operands, List.map_cons, List.map_nil, List.cons.injEq, and_true] at e
    obtain ⟨rfl, rfl⟩ := e
    split at h
    case h_2 => simp at h
    rename_i iT s k i hiT
    cases hB : iT.str with
    | false => simp [hB] at h
    | true =>
      simp only [hB, cond_true, chW, Option.some.injEq, Prod.mk.injEq, Bool.and_eq_true, decide_eq_true_eq] at h
      obtain ⟨⟨h0, h1⟩, rfl, rfl⟩ := h
      exact done_indexS ((hE T iT hiT).st hB) hH hop hx hy h0 h1
  | extract X i =>
    obtain _ | ⟨x, _ | ⟨y, r⟩⟩ := as <;> simp only [stepW, reduceCtorEq] at h
    obtain ⟨u, e, hx⟩ := ha.one
    simp only [Op.operands, List.map_cons, List.map_nil, List.cons.injEq, and_true] at e
    subst e
    split at h
    case h_2 => simp at h
    rename_i vs
    split at h
    case h_2 => simp at h
    rename_i z hz
    simp only [Option.some.injEq, Prod.mk.injEq, true_and] at h
    obtain ⟨rfl, rfl⟩ := h
    exact done_extract hH hop hx hz fun u hu => rel2_rel hu
  | _ => simp [stepW] at h
end
end Go.Proofs.Ytoplphfgbfcagaa.Ev
