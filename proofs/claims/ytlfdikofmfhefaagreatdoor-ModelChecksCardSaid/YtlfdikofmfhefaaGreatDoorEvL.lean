/-
One operation, whichever it is: the cases put together.
Conditions: the table of types is the program's; the operands' values stand in the relation; a place for a new row is kept free.
A call: what is shown to the callee, what is taken over from it.
Conditions: as in the parts before; the callee keeps its contract 'CallSpec'.
A call, done: the rows that are taken over, the result.
Conditions: as in the parts before.
-/
import Derived.Test.YtlfdikofmfhefaaGreatDoorEvI
set_option linter.unusedVariables false
set_option linter.unusedSimpArgs false
namespace Go.Proofs.YtlfdikofmfhefaaGreatDoor.Ev
open Go Go.RowKit
section
variable {P : Program} {E : Env} {o : Oper} {a : Act} {w : World} {ok : Nat → Prop} {base : Nat} {H : List Row} {m : Nat → Value}
theorem boolT_ok {T : Nat} (hE : TyOk P E) (h : boolT E T = true) : P.underlying T = some .bool := by
 unfold boolT at h
 split at h
 ·rename_i i hi
  split at h
  ·rename_i ht; exact (hE T i hi).bo ht
  ·simp at h
 ·simp at h
theorem slT_ok {T : Nat} (hE : TyOk P E) (h : slT E T = true) : ∃ e, P.underlying T = some (.slice e) := by
 unfold slT at h
 split at h
 ·rename_i i hi
  split at h
  ·rename_i e he; exact ⟨e, (hE T i hi).el e he⟩
  ·simp at h
 ·simp at h
theorem own_ids {x : AV} {j : Nat} (h : AV.own j ∈ cellsOf x) : j ∈ idsA x := by
 cases x with
 | own i =>
  have h : AV.own j ∈ [AV.own i] := h
  simp only [List.mem_singleton, AV.own.injEq] at h
  subst h
  exact List.mem_singleton.2 rfl
 | agg cs =>
  have h : AV.own j ∈ cs := h
  show j ∈ cs.flatMap ids1
  rw [List.mem_flatMap]
  exact ⟨_, h, List.mem_singleton.2 rfl⟩
 | _ => simp [cellsOf] at h
theorem stepCall {X : List AV} {c : Call} {nid : Nat} {rd : Nat → Option Row} {av : AV} {ups : List (Nat × Row)} (hE : TyOk P E) (hH : HRel w ok base H m) (hb : base ≤ w.heap.size) (hh : H[nid]? = some .hole) (ho : o.op = .call c)
  (hrd : ∀ j r, rd j = some r → H[j]? = some r) (ha : F2 (rel w ok H m) X ((Op.call c).operands.toList.map a.eval)) (h : stepW E (.call c) nid X rd = some (true, av, ups)) : Done P o a w ok base H m av ups := by
 obtain ⟨callee, args, argTypes⟩ := c
 simp only [stepW] at h
 have lst : ∀ {l : List AV}, F2 (rel w ok H m) l (args.toList.map a.eval) → ∀ {b : Builtin}, callee = .builtin b → (∀ x, l = [x] → ∃ Y, args = #[Y] ∧ rel w ok H m x (a.eval Y)) ∧ (∀ x y, l = [x, y] → ∃ Y Z, args = #[Y, Z] ∧ rel w ok H m x (a.eval Y) ∧ rel w ok H m y (a.eval Z)) := by
  intro l hl b _
  obtain ⟨ag⟩ := args
  constructor
  ·rintro x rfl
   obtain ⟨y, e, hr⟩ := hl.one
   match ag, e with
   | [Y], e => simp only [List.map_cons, List.map_nil, List.cons.injEq, and_true] at e; subst e; exact ⟨Y, rfl, hr⟩
  ·rintro x y rfl
   obtain ⟨y1, y2, e, h1, h2⟩ := hl.two
   match ag, e with
   | [Y, Z], e => simp only [List.map_cons, List.map_nil, List.cons.injEq, and_true] at e; obtain ⟨rfl, rfl⟩ := e; exact ⟨Y, Z, rfl, h1, h2⟩
 split at h
 ·-- len
  rename_i x
  have ha : F2 (rel w ok H m) [x] (args.toList.map a.eval) := by simpa [Op.operands, Call.operands] using ha
  obtain ⟨Y, rfl, hY⟩ := (lst ha rfl).1 x rfl
  split at h
  case h_2 => simp at h
  rename_i T hT
  cases hB : lenB E T x with
  | false => simp [hB] at h
  | true =>
   simp only [hB, cond_true] at h
   split at h
   case h_2 => simp at h
   rename_i n hn
   simp only [Option.some.injEq, Prod.mk.injEq, true_and] at h
   obtain ⟨rfl, rfl⟩ := h
   obtain ⟨at'⟩ := argTypes
   have hT : at' = [T] := hT
   subst hT
   exact done_lenC hE hH ho hrd hY hB hn
 ·-- append
  rename_i s x
  have ha : F2 (rel w ok H m) [s, x] (args.toList.map a.eval) := by simpa [Op.operands, Call.operands] using ha
  obtain ⟨X1, X2, rfl, h1, h2⟩ := (lst ha rfl).2 s x rfl
  split at h
  case h_2 => simp at h
  rename_i T T' hT
  obtain ⟨at'⟩ := argTypes
  have hT : at' = [T, T'] := hT
  subst hT
  cases hB : Nat.beq T T' with
  | false => simp [hB] at h
  | true =>
   have := Nat.eq_of_beq_eq_true hB
   subst this
   simp only [hB, cond_true] at h
   split at h
   case h_2 => simp at h
   rename_i iT hiT
   split at h
   case h_2 => simp at h
   rename_i e he
   split at h
   case h_2 => simp at h
   rename_i i hi
   split at h
   case h_2 => simp at h
   rename_i ys hy
   have hT' := hE T iT hiT
   have hie := hE e i hi
   unfold appW at h
   split at h
   ·simp only [Option.some.injEq, Prod.mk.injEq, decide_eq_true_eq] at h
    obtain ⟨hl, rfl, rfl⟩ := h
    exact done_app_nl hT' he hie hH hb hh ho hrd h1 h2 hy hl
   ·rename_i id
    split at h
    case h_2 => simp at h
    rename_i e' t xs hr
    split at h
    case isFalse => simp at h
    rename_i ht
    subst ht
    cases hB' : Nat.beq e' e with
    | false => simp [hB'] at h
    | true =>
     have := Nat.eq_of_beq_eq_true hB'
     subst this
     simp only [hB', cond_true, Option.some.injEq, Prod.mk.injEq, decide_eq_true_eq] at h
     obtain ⟨hl, rfl, rfl⟩ := h
     exact done_app_own hT' he hie hH hb hh ho hrd (hrd _ _ hr) h1 h2 hy hl
   ·simp at h
 ·-- max
  rename_i k x k' y
  have ha : F2 (rel w ok H m) [AV.v (.int k) x, AV.v (.int k') y] (args.toList.map a.eval) := by simpa [Op.operands, Call.operands] using ha
  obtain ⟨X1, X2, rfl, h1, h2⟩ := (lst ha rfl).2 _ _ rfl
  split at h
  case isFalse => simp at h
  rename_i hk
  subst hk
  simp only [maxW, Option.some.injEq, Prod.mk.injEq, true_and] at h
  obtain ⟨rfl, rfl⟩ := h
  exact done_max hH ho h1 h2
 ·-- min
  rename_i k x k' y
  have ha : F2 (rel w ok H m) [AV.v (.int k) x, AV.v (.int k') y] (args.toList.map a.eval) := by simpa [Op.operands, Call.operands] using ha
  obtain ⟨X1, X2, rfl, h1, h2⟩ := (lst ha rfl).2 _ _ rfl
  split at h
  case isFalse => simp at h
  rename_i hk
  subst hk
  simp only [minW, Option.some.injEq, Prod.mk.injEq, true_and] at h
  obtain ⟨rfl, rfl⟩ := h
  exact done_min hH ho h1 h2
 ·simp at h
theorem ownIn_no {i : Nat} : ∀ {l : List AV}, ownIn i l = false → AV.own i ∉ l
 | [], _ => by simp
 | x :: r, h => by
  intro hm
  cases x with
  | own j =>
   simp only [ownIn, Bool.or_eq_false_iff] at h
   rcases List.mem_cons.1 hm with e | hm
   ·simp only [AV.own.injEq] at e
    subst e
    simp at h
   ·exact ownIn_no h.2 hm
  | _ =>
   simp only [ownIn] at h
   rcases List.mem_cons.1 hm with e | hm
   ·simp at e
   ·exact ownIn_no h hm
theorem pb_field {id off d : Nat} {u : Value} (hu : rel w ok H m (.pb id off) u) :
  ∃ ad, u = .pointer (some ad) ∧ rel w ok H m (.pb id (off + d)) (.pointer (some (ad.add d))) := by
 have hu' : rel1 w ok H m (.pb id off) u := hu
 simp only [rel1] at hu'
 obtain ⟨⟨ad, e⟩, hu'⟩ := hu'
 split at hu'
 ·rename_i cs h; exact pb_add hu ⟨cs, .inl h⟩
 ·rename_i cs h; exact pb_add hu ⟨cs, .inr h⟩
 ·rename_i h
  refine ⟨ad, e, ?_⟩
  show rel1 w ok H m (.pb id (off + d)) _
  simp only [rel1, h]
  exact ⟨⟨_, rfl⟩, trivial⟩
 ·exact hu'.elim
theorem pe_field {id i off d : Nat} {u : Value} (hu : rel w ok H m (.pe id i off) u) :
  ∃ ad, u = .pointer (some ad) ∧ rel w ok H m (.pe id i (off + d)) (.pointer (some (ad.add d))) := by
 have hu' : rel1 w ok H m (.pe id i off) u := hu
 simp only [rel1] at hu'
 obtain ⟨⟨ad, e⟩, hu'⟩ := hu'
 split at hu'
 ·rename_i e' t xs h
  obtain ⟨hi, b, n, c, hm, he⟩ := hu'
  refine ⟨_, he, ?_⟩
  show rel1 w ok H m (.pe id i (off + d)) _
  simp only [rel1, h]
  exact ⟨⟨_, rfl⟩, hi, b, n, c, hm, by rw [add_plain', Nat.add_assoc]⟩
 ·rename_i h
  obtain ⟨hi, b, n, c, hm, he⟩ := hu'
  refine ⟨_, he, ?_⟩
  show rel1 w ok H m (.pe id i (off + d)) _
  simp only [rel1, h]
  exact ⟨⟨_, rfl⟩, hi, b, n, c, hm, by rw [add_plain', Nat.add_assoc]⟩
 ·rename_i h
  obtain ⟨hi, b, n, c, hm, he⟩ := hu'
  refine ⟨_, he, ?_⟩
  show rel1 w ok H m (.pe id i (off + d)) _
  simp only [rel1, h]
  exact ⟨⟨_, rfl⟩, hi, b, n, c, hm, by rw [add_plain', Nat.add_assoc]⟩
 ·rename_i t xs h
  refine ⟨ad, e, ?_⟩
  show rel1 w ok H m (.pe id i (off + d)) _
  simp only [rel1, h]
  exact ⟨⟨_, rfl⟩, trivial⟩
 ·rename_i h
  refine ⟨ad, e, ?_⟩
  show rel1 w ok H m (.pe id i (off + d)) _
  simp only [rel1, h]
  exact ⟨⟨_, rfl⟩, trivial⟩
 ·exact hu'.elim
theorem rp_field {cs : List AV} {d : Nat} {u : Value} (hu : rel w ok H m (.rp cs) u) :
  ∃ ad, u = .pointer (some ad) ∧ rel w ok H m (.rp (cs.drop d)) (.pointer (some (ad.add d))) := by
 have hu' : rel1 w ok H m (.rp cs) u := hu
 obtain ⟨ad, us, e, h1, h2, hc, hf⟩ := hu'
 refine ⟨ad, e, ad.add d, us.drop d, rfl, by rw [add_block]; exact h1, by rw [add_block]; exact h2, ?_, hf.drop d⟩
 by_cases h : us = []
 ·subst h; intro j v hv; simp at hv
 ·exact hc.drop (hc.spot h) d
theorem step_sound {as : List AV} {nid : Nat} {av : AV} {ups : List (Nat × Row)} (hE : TyOk P E) (hH : HRel w ok base H m) (hb : base ≤ w.heap.size) (hh : news o.op = 1 → H[nid]? = some .hole)
  (ha : F2 (rel w ok H m) as (o.op.operands.toList.map a.eval)) (h : stepW E o.op nid as (rdOf H (as.flatMap idsA)) = some (true, av, ups)) : Done P o a w ok base H m av ups := by
 generalize hrdE : rdOf H (as.flatMap idsA) = rd at h
 have hrd : ∀ j r, rd j = some r → H[j]? = some r := fun j r hj => by subst hrdE; exact rdOf_some hj
 have hrd' : ∀ x ∈ as, ∀ j, AV.own j ∈ cellsOf x → rd j = H[j]? := fun x hx j hj => by
  subst hrdE
  exact rdOf_mem (List.mem_flatMap.2 ⟨x, hx, own_ids hj⟩)
 generalize hop : o.op = op at h hh ha
 cases op with
 | call c => exact stepCall hE hH hb (hh rfl) hop hrd ha h
 | move X =>
  obtain _ | ⟨x, _ | ⟨y, r⟩⟩ := as <;> simp only [stepW, reduceCtorEq, Option.some.injEq, Prod.mk.injEq, true_and] at h
  obtain ⟨rfl, rfl⟩ := h
  obtain ⟨u, e, hx⟩ := ha.one
  simp only [Op.operands, List.map_cons, List.map_nil, List.cons.injEq, and_true] at e
  exact done_move hH (.inl hop) (e ▸ hx)
 | assign X =>
  obtain _ | ⟨x, _ | ⟨y, r⟩⟩ := as <;> simp only [stepW, reduceCtorEq, Option.some.injEq, Prod.mk.injEq, true_and] at h
  obtain ⟨rfl, rfl⟩ := h
  obtain ⟨u, e, hx⟩ := ha.one
  simp only [Op.operands, List.map_cons, List.map_nil, List.cons.injEq, and_true] at e
  exact done_move hH (.inr hop) (e ▸ hx)
 | pick C X Y =>
  obtain _ | ⟨c, _ | ⟨x, _ | ⟨y, _ | ⟨z, r⟩⟩⟩⟩ := as <;> simp only [stepW, reduceCtorEq] at h
  obtain ⟨u1, u2, u3, e, h1, h2, h3⟩ := ha.three
  simp only [Op.operands, List.map_cons, List.map_nil, List.cons.injEq, and_true] at e
  obtain ⟨rfl, rfl, rfl⟩ := e
  split at h
  case h_2 => simp at h
  rename_i b
  split at h
  ·rename_i ta xa tb xb
   split at h
   case isFalse => simp at h
   rename_i ht
   subst ht
   simp only [Option.some.injEq, Prod.mk.injEq, true_and] at h
   obtain ⟨rfl, rfl⟩ := h
   have := done_pick (P := P) hH hop h1 h2 h3
   cases b <;> exact this
  ·simp only [Option.some.injEq, Prod.mk.injEq, true_and] at h
   obtain ⟨rfl, rfl⟩ := h
   exact done_pick hH hop h1 h2 h3
 | alloc T =>
  obtain _ | ⟨c, r⟩ := as <;> simp only [stepW, reduceCtorEq] at h
  split at h
  case h_2 => simp at h
  rename_i i hi
  simp only [Option.some.injEq, Prod.mk.injEq, true_and] at h
  obtain ⟨rfl, rfl⟩ := h
  exact done_alloc (hE T i hi) hH hb (hh rfl) hop
 | box T X =>
  obtain _ | ⟨x, _ | ⟨y, r⟩⟩ := as <;> simp only [stepW, reduceCtorEq] at h
  obtain ⟨u, e, hx⟩ := ha.one
  simp only [Op.operands, List.map_cons, List.map_nil, List.cons.injEq, and_true] at e
  subst e
  split at h
  case h_2 => simp at h
  rename_i i hi
  cases hp : plainB x with
  | false => simp [hp] at h
  | true =>
   simp only [hp, cond_true, Option.some.injEq, Prod.mk.injEq, true_and] at h
   obtain ⟨rfl, rfl⟩ := h
   exact done_box hH hb (hh rfl) hop hx hp
 | build T parts =>
  simp only [stepW] at h
  have ha : F2 (rel w ok H m) as (parts.toList.map fun p => a.eval p.2) := by simpa [Op.operands, Function.comp_def] using ha
  split at h
  case h_2 => simp at h
  rename_i i hi
  cases hg : i.agg && as.all plainB with
  | false => simp [hg] at h
  | true =>
   simp only [hg, cond_true] at h
   simp only [Bool.and_eq_true, List.all_eq_true] at hg
   split at h
   case h_2 => simp at h
   rename_i cs hcs
   simp only [Option.some.injEq, Prod.mk.injEq, true_and] at h
   obtain ⟨rfl, rfl⟩ := h
   exact done_build hE (hE T i hi) hg.1 hH hop ha hg.2 hcs
 | buildSlice T len parts =>
  simp only [stepW] at h
  have ha : F2 (rel w ok H m) as (parts.toList.map fun p => a.eval p.2) := by simpa [Op.operands, Function.comp_def] using ha
  split at h
  case h_2 => simp at h
  rename_i iT hiT
  split at h
  case h_2 => simp at h
  rename_i e he
  split at h
  case h_2 => simp at h
  rename_i i hi
  cases hg : natsEq (parts.toList.map (·.1)) (rangeFrom 0 len) && Nat.ble (len * i.ty.sz) 16777216 with
  | false => simp [hg] at h
  | true =>
   simp only [hg, cond_true] at h
   simp only [Bool.and_eq_true] at hg
   split at h
   case h_2 => simp at h
   rename_i xs hxs
   simp only [Option.some.injEq, Prod.mk.injEq, true_and] at h
   obtain ⟨rfl, rfl⟩ := h
   exact done_buildSlice (hE T iT hiT) he (hE e i hi) hH hb (hh rfl) hop hrd (fun j x hx hj => hrd' x hx j hj) (natsEq_eq hg.1) (Nat.le_of_ble_eq_true hg.2) ha hxs
 | load T X =>
  obtain _ | ⟨p, _ | ⟨y, r⟩⟩ := as <;> simp only [stepW, reduceCtorEq] at h
  obtain ⟨u, e, hp⟩ := ha.one
  simp only [Op.operands, List.map_cons, List.map_nil, List.cons.injEq, and_true] at e
  subst e
  have go : ∀ {cs : List AV} {ad : Addr} {us : List Value}, a.eval X = .pointer (some ad) → Cells w ad us → F2 (rel1 w ok H m) cs us → (match takeW E T cs with | some a => some (true, a, []) | none => none) = some (true, av, ups) → Done P o a w ok base H m av ups := by
   intro cs ad us e hc hf h
   split at h
   case h_2 => simp at h
   rename_i z hz
   simp only [Option.some.injEq, Prod.mk.injEq, true_and] at h
   obtain ⟨rfl, rfl⟩ := h
   exact done_load hE hH hop e hc hf hz
  split at h
  ·rename_i id off
   split at h
   ·rename_i cs hr
    obtain ⟨b, us, e, hc, hf⟩ := box_cells hH (.inl (hrd _ _ hr)) hp
    exact go e hc hf h
   ·rename_i cs hr
    obtain ⟨b, us, e, hc, hf⟩ := box_cells hH (.inr (hrd _ _ hr)) hp
    exact go e hc hf h
   ·simp at h
  ·rename_i id i off
   split at h
   ·rename_i e' t xs hr
    obtain ⟨b, us, e, hc, hf⟩ := elem_cells hH (hrd _ _ hr) hp
    exact go e hc hf h
   ·rename_i e' e2 t xs hr
    cases hg : Nat.beq off 0 && slOf E T t with
    | false => simp [hg] at h
    | true =>
     simp only [hg, cond_true, Option.some.injEq, Prod.mk.injEq, true_and] at h
     obtain ⟨rfl, rfl⟩ := h
     simp only [Bool.and_eq_true] at hg
     obtain rfl := Nat.eq_of_beq_eq_true hg.1
     have hs := hg.2
     unfold slOf at hs
     split at hs
     case h_2 => simp at hs
     rename_i iT hiT
     cases hag : iT.agg with
     | true => simp [hag] at hs
     | false => exact done_takeOut hE hiT hag hH (hh rfl) hop (hrd _ _ hr) hp
   ·simp at h
  ·rename_i cs
   obtain ⟨ad, us, e, hc, hf⟩ := rp_load hp
   exact go e hc hf h
  ·simp at h
 | store T X Y =>
  obtain _ | ⟨p, _ | ⟨x, _ | ⟨z, r⟩⟩⟩ := as <;> simp only [stepW, reduceCtorEq] at h
  obtain ⟨u1, u2, e, hp, hx⟩ := ha.two
  simp only [Op.operands, List.map_cons, List.map_nil, List.cons.injEq, and_true] at e
  obtain ⟨rfl, rfl⟩ := e
  split at h
  case h_2 => simp at h
  rename_i iT hiT
  cases hg : Nat.beq (cellsOf x).length iT.ty.sz && plainB x with
  | false => simp [hg] at h
  | true =>
   simp only [hg, cond_true] at h
   simp only [Bool.and_eq_true] at hg
   split at h
   ·rename_i id off
    split at h
    case h_2 => simp at h
    rename_i cs hr
    split at h
    case h_2 => simp at h
    rename_i cs' hk
    simp only [Option.some.injEq, Prod.mk.injEq, true_and] at h
    obtain ⟨rfl, rfl⟩ := h
    exact done_store_pb (hE T iT hiT) hH hop (hrd _ _ hr) hp hx hg.2 (Nat.eq_of_beq_eq_true hg.1) hk
   ·rename_i id i off
    split at h
    case h_3 => simp at h
    case h_2 =>
     rename_i e e2 t xs j nd hr
     split at h
     case h_2 => simp at h
     rename_i q
     split at h
     case h_2 => simp at h
     rename_i e' t' ys hq
     split at h
     case isFalse => simp at h
     rename_i ht
     subst ht
     cases hg2 : Nat.beq e' e2 && Nat.beq off 0 && !Nat.beq q id with
     | false => simp [hg2] at h
     | true =>
      simp only [hg2, cond_true, Option.some.injEq, Prod.mk.injEq] at h
      obtain ⟨hij, rfl, rfl⟩ := h
      simp only [Bool.and_eq_true, Bool.not_eq_true'] at hg2
      obtain rfl := Nat.eq_of_beq_eq_true hg2.1.1
      obtain rfl := Nat.eq_of_beq_eq_true hg2.1.2
      obtain rfl := Nat.eq_of_beq_eq_true hij
      have hne : q ≠ id := fun e => by rw [e] at hg2; simp at hg2
      exact done_putIn (hE T iT hiT) (Nat.eq_of_beq_eq_true hg.1).symm hH hop (hrd _ _ hr) (hrd _ _ hq) hne hp hx
    rename_i e t xs hr
    split at h
    case h_2 => simp at h
    rename_i cs' hk
    split at h
    case h_2 => simp at h
    rename_i y hy
    cases hno : ownIn id (cellsOf x) with
    | true => simp [hno] at h
    | false =>
     simp only [hno, cond_false, Option.some.injEq, Prod.mk.injEq, true_and] at h
     obtain ⟨rfl, rfl⟩ := h
     exact done_store_pe (hE T iT hiT) hH hop hrd (fun j hj => hrd' x (by simp) j hj) (hrd _ _ hr) hp hx hg.2 (Nat.eq_of_beq_eq_true hg.1) hk hy (ownIn_no hno)
   ·simp at h
 | nilCheck X =>
  obtain _ | ⟨x, _ | ⟨y, r⟩⟩ := as <;> simp only [stepW, reduceCtorEq] at h
  obtain ⟨u, e, hx⟩ := ha.one
  simp only [Op.operands, List.map_cons, List.map_nil, List.cons.injEq, and_true] at e
  subst e
  split at h <;> simp only [reduceCtorEq, Option.some.injEq, Prod.mk.injEq, true_and] at h <;> obtain ⟨rfl, rfl⟩ := h
  ·have hx' : rel1 w ok H m (.pb _ _) (a.eval X) := hx
   exact done_nilCheck hH hop hx (.inl hx'.1)
  ·have hx' : rel1 w ok H m (.pe _ _ _) (a.eval X) := hx
   exact done_nilCheck hH hop hx (.inl hx'.1)
  ·have hx' : rel1 w ok H m (.rp _) (a.eval X) := hx
   obtain ⟨ad, us, e, _⟩ := hx'
   exact done_nilCheck hH hop hx (.inl ⟨ad, e⟩)
  ·have hx' := hx
   obtain ⟨us, vs, e, _⟩ := hx'
   exact done_nilCheck hH hop hx (.inr ⟨_, _, _, e⟩)
 | binOp op T X Y T' =>
  obtain _ | ⟨x, _ | ⟨y, _ | ⟨z, r⟩⟩⟩ := as <;> simp only [stepW, reduceCtorEq] at h
  obtain ⟨u1, u2, e, hx, hy⟩ := ha.two
  simp only [Op.operands, List.map_cons, List.map_nil, List.cons.injEq, and_true] at e
  obtain ⟨rfl, rfl⟩ := e
  split at h
  case h_2 => simp at h
  rename_i c z hz
  simp only [Option.some.injEq, Prod.mk.injEq] at h
  obtain ⟨rfl, rfl, rfl⟩ := h
  unfold binW at hz
  split at hz
  ·cases hB : slT E T with
   | false => simp [hB] at hz
   | true =>
    simp only [hB, cond_true] at hz
    obtain ⟨e, he⟩ := slT_ok hE hB
    exact done_nilq he hH hop hx hy hz
  ·exact done_int hH hop hx hy hz
  ·cases hB : boolT E T with
   | false => simp [hB] at hz
   | true => simp only [hB, cond_true] at hz; exact done_bool (boolT_ok hE hB) hH hop hx hy hz
  ·exact done_str hH hop hx hy hz
  ·simp at hz
 | unOp op T X =>
  obtain _ | ⟨x, _ | ⟨y, r⟩⟩ := as <;> simp only [stepW, reduceCtorEq] at h
  obtain ⟨u, e, hx⟩ := ha.one
  simp only [Op.operands, List.map_cons, List.map_nil, List.cons.injEq, and_true] at e
  subst e
  split at h <;> simp only [negW, notW, notB, reduceCtorEq, Option.some.injEq, Prod.mk.injEq, true_and] at h <;> obtain ⟨rfl, rfl⟩ := h
  ·exact done_neg hH hop hx
  ·exact done_xor hH hop hx
  ·exact done_not hH hop hx
 | convert S D X =>
  obtain _ | ⟨x, _ | ⟨y, r⟩⟩ := as <;> simp only [stepW, reduceCtorEq] at h
  obtain ⟨u, e, hx⟩ := ha.one
  simp only [Op.operands, List.map_cons, List.map_nil, List.cons.injEq, and_true] at e
  subst e
  split at h
  case h_2 => simp at h
  rename_i s d hs hd
  have hS := hE S s hs
  have hD := hE D d hd
  split at h
  ·split at h
   case h_2 => simp at h
   rename_i k hk
   simp only [convW, Option.some.injEq, Prod.mk.injEq, true_and] at h
   obtain ⟨rfl, rfl⟩ := h
   exact done_conv (hD.ik k hk) hS.un hH hop hx
  ·cases hB : d.str && s.str with
   | false => simp [hB] at h
   | true =>
    simp only [hB, cond_true, Option.some.injEq, Prod.mk.injEq, true_and] at h
    obtain ⟨rfl, rfl⟩ := h
    simp only [Bool.and_eq_true] at hB
    exact done_convS (hD.st hB.1) (hS.st hB.2) hH hop hx
  ·split at h
   case h_2 => simp at h
   rename_i e he
   split at h
   case h_2 => simp at h
   rename_i ie xs hie hl
   cases hB : d.str && isU8 ie.ik with
   | false => simp [hB] at h
   | true =>
    simp only [hB, cond_true, Option.some.injEq, Prod.mk.injEq, true_and] at h
    obtain ⟨rfl, rfl⟩ := h
    simp only [Bool.and_eq_true] at hB
    have hu : ie.ik = some .u8 := by
     have h2 := hB.2
     unfold isU8 at h2
     split at h2
     ·assumption
     ·simp at h2
    exact done_convB (hD.st hB.1) (hS.el e he) ((hE e ie hie).ik _ hu) hH hop (src_rd hrd hH hx hl)
 | makeFunc fn first caps =>
  cases fn with
  | func g =>
   simp only [stepW] at h
   cases hg : (as.take first.size).all plainB && (as.drop first.size).all leafB with
   | false => simp [hg] at h
   | true =>
    simp only [hg, cond_true, Option.some.injEq, Prod.mk.injEq, true_and] at h
    obtain ⟨rfl, rfl⟩ := h
    simp only [Bool.and_eq_true, List.all_eq_true] at hg
    have ha : F2 (rel w ok H m) as (first.toList.map a.eval ++ caps.toList.map a.eval) := by simpa [Op.operands] using ha
    have h1 := ha.take first.size
    have h2 := ha.drop first.size
    rw [List.take_left' (by simp)] at h1
    rw [List.drop_left' (by simp)] at h2
    refine done_makeFunc hH hop (h1.imp fun x u hx hr => ?_) (h2.imp fun x u hx hr => ?_)
    ·have := hg.1 x hx
     cases x <;> first | exact hr | (simp [plainB, leafB] at this; done)
    ·have := hg.2 x hx
     cases x <;> first | exact hr | (simp [leafB] at this; done)
  | _ => simp [stepW] at h
 | makeSlice T L C =>
  obtain _ | ⟨x, _ | ⟨y, _ | ⟨z, r⟩⟩⟩ := as <;> simp only [stepW, reduceCtorEq] at h
  obtain ⟨u1, u2, e, hx, hy⟩ := ha.two
  simp only [Op.operands, List.map_cons, List.map_nil, List.cons.injEq, and_true] at e
  obtain ⟨rfl, rfl⟩ := e
  have go : ∀ {k' : IntKind}, (∀ k n, a.eval L = .int k n → ∃ k', a.eval C = .int k' n) → stepW.mk E x nid T = some (true, av, ups) → Done P o a w ok base H m av ups := by
   intro k' hC h
   unfold stepW.mk at h
   split at h
   case h_2 => simp at h
   rename_i k n
   split at h
   case h_2 => simp at h
   rename_i iT hiT
   split at h
   case h_2 => simp at h
   rename_i e he
   split at h
   case h_2 => simp at h
   rename_i i hi
   simp only [mkW, Option.some.injEq, Prod.mk.injEq, Bool.and_eq_true, decide_eq_true_eq] at h
   obtain ⟨⟨h0, h1⟩, rfl, rfl⟩ := h
   have hL := rd_int hx
   obtain ⟨k', hC⟩ := hC _ _ hL
   have hm : ∀ q : Nat, (∃ t' e2, i.ty = .sl t' ∧ mkRow e i.ty i.elem q = .rows e e2 t' (List.replicate q [])) ∨ mkRow e i.ty i.elem q = .row e i.ty (List.replicate q i.ty.z) := by
    intro q
    generalize i.ty = ty
    generalize i.elem = el
    cases ty <;> cases el <;> first | exact .inr rfl | exact .inl ⟨_, _, rfl, rfl⟩
   rcases hm _ with ⟨t', e2, hty, hm⟩ | hm
   ·rw [hm]
    exact done_makeRows (hE T iT hiT) he (hE e i hi) hty hH hb (hh rfl) hop hL hC h0 h1
   ·rw [hm]
    exact done_makeSlice (hE T iT hiT) he (hE e i hi) hH hb (hh rfl) hop hL hC h0 h1
  split at h
  ·rename_i p q
   cases hB : Nat.beq p q with
   | false => simp [hB] at h
   | true =>
    have := Nat.eq_of_beq_eq_true hB
    subst this
    simp only [hB, cond_true] at h
    exact go (k' := .i64) (fun k n h => ⟨k, h⟩) h
  ·rename_i k1 p k2 q
   split at h
   case isFalse => simp at h
   rename_i hpq
   subst hpq
   exact go (k' := .i64) (fun k n h => ⟨k2, by simp [Act.eval] at h ⊢; exact h.2⟩) h
  ·simp at h
 | slice T X lo hi mx =>
  cases mx with
  | some z => simp [stepW] at h
  | none =>
  obtain _ | ⟨x, r⟩ := as <;> simp only [stepW, reduceCtorEq] at h
  cases hB : slicedB E rd T x with
  | false => simp [hB] at h
  | true =>
   simp only [hB, cond_true] at h
   split at h
   ·obtain ⟨u, e, hx⟩ := ha.one
    simp [Op.operands] at e
    exact done_slice hE hH hop hrd (e ▸ hx) (.inl ⟨rfl, rfl⟩) (.inl ⟨rfl, rfl⟩) hB h
   ·obtain ⟨u, u2, e, hx, h2⟩ := ha.two
    simp [Op.operands] at e
    exact done_slice hE hH hop hrd (e.1 ▸ hx) (.inl ⟨rfl, rfl⟩) (.inr ⟨_, _, by rw [← rd_int h2, ← e.2]; rfl, rfl⟩) hB h
   ·obtain ⟨u, u2, e, hx, h2⟩ := ha.two
    simp [Op.operands] at e
    exact done_slice hE hH hop hrd (e.1 ▸ hx) (.inr ⟨_, _, by rw [← rd_int h2, ← e.2]; rfl, rfl⟩) (.inl ⟨rfl, rfl⟩) hB h
   ·obtain ⟨u, u2, u3, e, hx, h2, h3⟩ := ha.three
    simp [Op.operands] at e
    exact done_slice hE hH hop hrd (e.1 ▸ hx) (.inr ⟨_, _, by rw [← rd_int h2, ← e.2.1]; rfl, rfl⟩) (.inr ⟨_, _, by rw [← rd_int h3, ← e.2.2]; rfl, rfl⟩) hB h
   ·simp at h
 | fieldAddr S X f =>
  obtain _ | ⟨x, _ | ⟨y, r⟩⟩ := as <;> simp only [stepW, reduceCtorEq] at h
  obtain ⟨u, e, hx⟩ := ha.one
  simp only [Op.operands, List.map_cons, List.map_nil, List.cons.injEq, and_true] at e
  subst e
  split at h
  case h_2 => simp at h
  rename_i i hi
  cases hg : i.agg with
  | false => simp [hg] at h
  | true =>
   simp only [hg, cond_true] at h
   split at h
   case h_2 => simp at h
   rename_i off T hf
   split at h
   case h_2 => simp at h
   rename_i iT hiT
   split at h <;> simp only [reduceCtorEq, Option.some.injEq, Prod.mk.injEq, true_and] at h <;> obtain ⟨rfl, rfl⟩ := h
   ·obtain ⟨ad, e1, e2⟩ := pb_field (d := off) hx
    exact done_fieldAddr hH hop (hE S i hi) hg hf (hE T iT hiT) e1 e2
   ·obtain ⟨ad, e1, e2⟩ := pe_field (d := off) hx
    exact done_fieldAddr hH hop (hE S i hi) hg hf (hE T iT hiT) e1 e2
   ·obtain ⟨ad, e1, e2⟩ := rp_field (d := off) hx
    exact done_fieldAddr hH hop (hE S i hi) hg hf (hE T iT hiT) e1 e2
 | field S X f =>
  obtain _ | ⟨x, _ | ⟨y, r⟩⟩ := as <;> simp only [stepW, reduceCtorEq] at h
  obtain ⟨u, e, hx⟩ := ha.one
  simp only [Op.operands, List.map_cons, List.map_nil, List.cons.injEq, and_true] at e
  subst e
  split at h
  case h_2 => simp at h
  rename_i i hi
  cases hg : i.agg with
  | false => simp [hg] at h
  | true =>
   simp only [hg, cond_true] at h
   split at h
   case h_2 => simp at h
   rename_i off T hf
   split at h
   case h_2 => simp at h
   rename_i cs
   split at h
   case h_2 => simp at h
   rename_i z hz
   simp only [Option.some.injEq, Prod.mk.injEq, true_and] at h
   obtain ⟨rfl, rfl⟩ := h
   exact done_field hE hH hop (hE S i hi) hg hf hx hz
 | indexAddr T X I =>
  obtain _ | ⟨x, _ | ⟨y, _ | ⟨z, r⟩⟩⟩ := as <;> simp only [stepW, reduceCtorEq] at h
  obtain ⟨u1, u2, e, hx, hy⟩ := ha.two
  simp only [Op.operands, List.map_cons, List.map_nil, List.cons.injEq, and_true] at e
  obtain ⟨rfl, rfl⟩ := e
  split at h
  case h_2 => simp at h
  rename_i iT hiT
  split at h
  case h_2 => simp at h
  rename_i e he
  split at h
  case h_2 => simp at h
  rename_i ie hie
  split at h
  case h_2 => simp at h
  rename_i k i
  split at h
  ·split at h
   case isFalse => simp at h
   rename_i ht
   subst ht
   simp only [ixW, Option.some.injEq, Prod.mk.injEq, Bool.and_eq_true, decide_eq_true_eq] at h
   obtain ⟨⟨h0, h1⟩, rfl, rfl⟩ := h
   exact done_index_v (hE T iT hiT) he (hE e ie hie) hH hop hx hy h0 h1
  ·split at h
   ·rename_i hr
    split at h
    case isFalse => simp at h
    rename_i ht
    subst ht
    simp only [ixW, Option.some.injEq, Prod.mk.injEq, Bool.and_eq_true, decide_eq_true_eq] at h
    obtain ⟨⟨h0, h1⟩, rfl, rfl⟩ := h
    exact done_index_own (hE T iT hiT) he (hE e ie hie) hH hop (hrd _ _ hr) hx hy h0 h1
   ·rename_i hr
    split at h
    case isFalse => simp at h
    rename_i ht
    subst ht
    simp only [ixW, Option.some.injEq, Prod.mk.injEq, Bool.and_eq_true, decide_eq_true_eq] at h
    obtain ⟨⟨h0, h1⟩, rfl, rfl⟩ := h
    exact done_indexF (hE T iT hiT) he (hE e ie hie) hH hop (hrd _ _ hr) hx hy h0 h1
   ·rename_i hr
    split at h
    case isFalse => simp at h
    rename_i ht
    simp only [ixW, Option.some.injEq, Prod.mk.injEq, Bool.and_eq_true, decide_eq_true_eq] at h
    obtain ⟨⟨h0, h1⟩, rfl, rfl⟩ := h
    exact done_index_rows (hE T iT hiT) he (hE e ie hie) (by rw [← ht]; rfl) hH hop (hrd _ _ hr) rfl hx hy h0 h1
   ·rename_i hr
    split at h
    case isFalse => simp at h
    rename_i ht
    simp only [ixW, Option.some.injEq, Prod.mk.injEq, Bool.and_eq_true, decide_eq_true_eq] at h
    obtain ⟨⟨h0, h1⟩, rfl, rfl⟩ := h
    exact done_index_rows (hE T iT hiT) he (hE e ie hie) (by rw [← ht]; rfl) hH hop (hrd _ _ hr) rfl hx hy h0 h1
   ·simp at h
  ·simp at h
 | index T X I =>
  obtain _ | ⟨x, _ | ⟨y, _ | ⟨z, r⟩⟩⟩ := as <;> simp only [stepW, reduceCtorEq] at h
  obtain ⟨u1, u2, e, hx, hy⟩ := ha.two
  simp only [Op.operands, List.map_cons, List.map_nil, List.cons.injEq, and_true] at e
  obtain ⟨rfl, rfl⟩ := e
  split at h
  case h_2 => simp at h
  rename_i iT s k i hiT
  cases hB : iT.str with
  | false => simp [hB] at h
  | true =>
   simp only [hB, cond_true, chW, Option.some.injEq, Prod.mk.injEq, Bool.and_eq_true, decide_eq_true_eq] at h
   obtain ⟨⟨h0, h1⟩, rfl, rfl⟩ := h
   exact done_indexS ((hE T iT hiT).st hB) hH hop hx hy h0 h1
 | extract X i =>
  obtain _ | ⟨x, _ | ⟨y, r⟩⟩ := as <;> simp only [stepW, reduceCtorEq] at h
  obtain ⟨u, e, hx⟩ := ha.one
  simp only [Op.operands, List.map_cons, List.map_nil, List.cons.injEq, and_true] at e
  subst e
  split at h
  case h_2 => simp at h
  rename_i vs
  split at h
  case h_2 => simp at h
  rename_i z hz
  simp only [Option.some.injEq, Prod.mk.injEq, true_and] at h
  obtain ⟨rfl, rfl⟩ := h
  exact done_extract hH hop hx hz fun u hu => rel2_rel hu
 | _ => simp [stepW] at h
end
end Go.Proofs.YtlfdikofmfhefaaGreatDoor.Ev
set_option linter.unusedVariables false
set_option linter.unusedSimpArgs false
namespace Go.Proofs.YtlfdikofmfhefaaGreatDoor.Ev
open Go Go.RowKit
def mz : Nat → Value := fun _ => .pointer none
def relN1 (w : World) (ok : Nat → Prop) (mR : Nat → Value) (k : Nat) : AV → Value → Prop
 | .nw _ _ _, u => (∃ p n c, u = .slice p n c) ∧ u = mR k
 | x, u => rel1 w ok [] mz x u
def relL1 (w : World) (ok : Nat → Prop) (mR : Nat → Value) : Nat → List AV → List Value → Prop
 | _, [], [] => True
 | k, x :: xs, u :: us => relN1 w ok mR k x u ∧ relL1 w ok mR (k + (rows1 x).length) xs us
 | _, _, _ => False
def relN2 (w : World) (ok : Nat → Prop) (mR : Nat → Value) (k : Nat) : AV → Value → Prop
 | .agg cs, u => ∃ us : List Value, u = .agg us.toArray ∧ relL1 w ok mR k cs us
 | x, u => relN1 w ok mR k x u
def relL2 (w : World) (ok : Nat → Prop) (mR : Nat → Value) : Nat → List AV → List Value → Prop
 | _, [], [] => True
 | k, x :: xs, u :: us => relN2 w ok mR k x u ∧ relL2 w ok mR (k + (rows2 x).length) xs us
 | _, _, _ => False
def relNA (w : World) (ok : Nat → Prop) (mR : Nat → Value) : AV → Value → Prop
 | .tup cs, u => ∃ us : List Value, u = .tuple us.toArray ∧ relL2 w ok mR 0 cs us
 | .fn g fs cs, u => ∃ us vs : List Value, u = .func (.func g) us.toArray vs.toArray ∧ F2 (rel2 w ok [] mz) fs us ∧ F2 (rel1 w ok [] mz) cs vs
 | x, u => relN2 w ok mR 0 x u
def ResRel (size : Nat) (ok : Nat → Prop) (w' : World) (av : AV) (u : Value) : Prop :=
 ∃ okR mR, HRel w' okR size (rowsA av) mR ∧ relNA w' okR mR av u ∧ ∀ k, okR k → ok k ∨ size ≤ k
def CallSpec (P : Program) (I : World → Prop) (g : Nat) (args : List AV) (av : AV) : Prop :=
 ∀ (w : World) (ok : Nat → Prop) (us : List Value), I w → (∀ k, ok k → k < w.heap.size) → F2 (rel w ok [] mz) args us →
  ((callFunc g us.toArray).run P w = .ok (.enter g us.toArray) w ∧ Calls P g us.toArray w (fun e w' => ∃ u, e = .returned u ∧ Below w.heap.size w w' ∧ ResRel w.heap.size ok w' av u)) ∨
  ∃ u, (callFunc g us.toArray).run P w = .ok (.value u) w ∧ ResRel w.heap.size ok w av u
theorem callFunc_enter {P : Program} {g : Nat} {fn : Func} (hf : P.funcs[g]? = some fn) (h1 : (fn.name == "runtime.NumGoroutine") = false) (h2 : fn.body.isNone = false) (vs : Array Value) (w : World) :
  (callFunc g vs).run P w = .ok (.enter g vs) w := by
 have h1 : ¬ fn.name = "runtime.NumGoroutine" := by simpa using h1
 have h2 : ¬ fn.body = none := by intro h; simp [h] at h2
 simp [callFunc, hf, h1, h2]
section
variable {P : Program} {E : Env} {o : Oper} {a : Act} {w : World} {ok : Nat → Prop} {base : Nat} {H : List Row} {m : Nat → Value}
theorem rel0_grow {ok' : Nat → Prop} (h1 : ∀ k, ok k → ok' k) {x : AV} {u : Value} (h : rel0 w ok x u) : rel0 w ok' x u := rel0_move ⟨Nat.le_refl _, fun k hk _ => ⟨rfl, h1 k hk⟩⟩ h
theorem Rd_grow {ok' : Nat → Prop} (h1 : ∀ k, ok k → ok' k) {t : Ty} {x : t.D} {cs : List Value} (h : Rd w ok t x cs) : Rd w ok' t x cs := Rd_move (fun k hk _ => ⟨rfl, h1 k hk⟩) h
theorem cell0_rel {ok' : Nat → Prop} (h1 : ∀ k, ok k → ok' k) {x : AV} {u : Value} (h : rel1 w ok H m x u) : rel0 w ok' (cell0 x) u := by
 cases x <;> first | exact Rd_grow h1 h | exact h | trivial
theorem F2.mapL {α β γ : Type} {r : α → β → Prop} {s : γ → β → Prop} {f : α → γ} : ∀ {xs : List α} {ys : List β}, F2 r xs ys → (∀ x y, x ∈ xs → r x y → s (f x) y) → F2 s (xs.map f) ys
 | _, _, .nil, _ => .nil
 | _, _, .cons h t, hf => .cons (hf _ _ List.mem_cons_self h) (F2.mapL t fun x y hx => hf x y (List.mem_cons_of_mem _ hx))
theorem rp_grow {ok' : Nat → Prop} (h1 : ∀ k, ok k → ok' k) {cs : List AV} {u : Value} (h : rel1 w ok H m (.rp cs) u) : rel1 w ok' [] mz (.rp cs) u := by
 obtain ⟨ad, us, rfl, hk, hl, hc, hf⟩ := h
 exact ⟨ad, us, rfl, h1 _ hk, hl, hc, hf.imp fun _ _ _ h => rel0_grow h1 h⟩
theorem shown1_rel {ids : List Nat} {x : AV} {u : Value} (hH : HRel w ok base H m) (hi : ∀ i ∈ ids1 x, i ∈ ids) (h : rel1 w ok H m x u) :
  rel1 w (okF w ok (fun j => j ∈ ids) H m) [] mz (shown1 (rdOf H ids) x) u := by
 have h1 : ∀ k, ok k → okF w ok (fun j => j ∈ ids) H m k := fun k hk => .inl hk
 cases x with
 | v t x => exact Rd_grow h1 h
 | nl => exact h
 | un => trivial
 | rp cs => exact rp_grow h1 h
 | own id =>
  have hm : id ∈ ids := hi id (List.mem_singleton.2 rfl)
  simp only [shown1, rdOf_mem hm]
  simp only [rel1] at h
  cases hq : H[id]? with
  | none => trivial
  | some r =>
   rw [hq] at h
   cases r with
   | row e t xs => rw [h.2]; exact row_rd hH hq h1 fun k hk => .inr ⟨id, _, hm, hq, rfl, hk⟩
   | frz t xs => exact Rd_grow h1 h.2
   | rows e e2 t xs => rw [h.2]; exact rows_rd hH hq h1 fun k hk => .inr ⟨id, _, hm, hq, rfl, hk⟩
   | _ => trivial
 | pb id off =>
  have hm : id ∈ ids := hi id (List.mem_singleton.2 rfl)
  have h' : rel w ok H m (.pb id off) u := h
  simp only [shown1, rdOf_mem hm]
  cases hq : H[id]? with
  | none => trivial
  | some r =>
   cases r with
   | box cs =>
    obtain ⟨b, us, rfl, hc, hf⟩ := box_cells hH (.inl hq) h'
    obtain ⟨b', T, cur, hmb, _, hh, _⟩ := hH.hp id _ hq
    simp only [rel1, hq] at h
    obtain ⟨_, b2, hm2, hu⟩ := h
    simp only [Value.pointer.injEq, Option.some.injEq, Addr.mk.injEq, and_true] at hu
    rw [hm2] at hmb
    simp only [Value.pointer.injEq, Option.some.injEq, Addr.mk.injEq, and_true] at hmb
    subst hmb
    subst hu
    exact ⟨_, us, rfl, .inr ⟨id, _, hm, hq, rfl, by rw [hm2]; rfl⟩, heap_lt hh, hc, hf.mapL fun x y _ h => cell0_rel h1 h⟩
   | fbx cs =>
    obtain ⟨b, us, rfl, hc, hf⟩ := box_cells hH (.inr hq) h'
    obtain ⟨b', T, cur, hmb, hob, hh, _⟩ := hH.hp id _ hq
    simp only [rel1, hq] at h
    obtain ⟨_, b2, hm2, hu⟩ := h
    simp only [Value.pointer.injEq, Option.some.injEq, Addr.mk.injEq, and_true] at hu
    rw [hm2] at hmb
    simp only [Value.pointer.injEq, Option.some.injEq, Addr.mk.injEq, and_true] at hmb
    subst hmb
    subst hu
    exact ⟨_, us, rfl, .inl hob, heap_lt hh, hc, hf.mapL fun x y _ h => cell0_rel h1 h⟩
   | _ => trivial
 | pe id i off => trivial
 | _ => exact h.elim
theorem shown2_rel {ids : List Nat} {x : AV} {u : Value} (hH : HRel w ok base H m) (hi : ∀ i ∈ ids2 x, i ∈ ids) (h : rel2 w ok H m x u) :
  rel2 w (okF w ok (fun j => j ∈ ids) H m) [] mz (shown2 (rdOf H ids) x) u := by
 have leaf : rel1 w ok H m x u → (∀ i ∈ ids1 x, i ∈ ids) → rel2 w (okF w ok (fun j => j ∈ ids) H m) [] mz (shown1 (rdOf H ids) x) u := fun h hi => rel1_rel2 (shown1_rel hH hi h)
 cases x with
 | agg cs =>
  obtain ⟨us, rfl, hf⟩ := h
  exact ⟨us, rfl, hf.mapL fun x y hx h => shown1_rel hH (fun i hi' => hi i (List.mem_flatMap.2 ⟨x, hx, hi'⟩)) h⟩
 | _ => exact leaf h hi
theorem shown_rel {ids : List Nat} {x : AV} {u : Value} (hH : HRel w ok base H m) (hi : ∀ i ∈ idsA x, i ∈ ids) (h : rel w ok H m x u) :
  rel w (okF w ok (fun j => j ∈ ids) H m) [] mz (shown (rdOf H ids) x) u := by
 have key : (∀ i ∈ ids2 x, i ∈ ids) → rel2 w ok H m x u → rel2 w (okF w ok (fun j => j ∈ ids) H m) [] mz (shown2 (rdOf H ids) x) u := shown2_rel hH
 cases x with
 | fn g fs cs =>
  obtain ⟨us, vs, rfl, h1, h2⟩ := h
  refine ⟨us, vs, rfl, h1.mapL fun x y hx h => shown2_rel hH (fun i hi' => hi i ?_) h, h2.mapL fun x y hx h => shown1_rel hH (fun i hi' => hi i ?_) h⟩
  ·exact List.mem_append_left _ (List.mem_flatMap.2 ⟨x, hx, hi'⟩)
  ·exact List.mem_append_right _ (List.mem_flatMap.2 ⟨x, hx, hi'⟩)
 | tup cs => trivial
 | agg cs => exact key hi h
 | _ => exact rel2_rel (key hi h)
theorem ids_of2 {x : AV} {u : Value} (h : rel2 w ok H m x u) : idsA x = ids2 x := by
 cases x <;> first | rfl | exact h.elim
theorem ids_of1 {x : AV} {u : Value} (h : rel1 w ok H m x u) : idsA x = ids1 x := by
 cases x <;> first | rfl | exact h.elim
theorem stay_mem {rd : Nat → Option Row} {i j : Nat} {r : Row} : (j, r) ∈ stay rd i ↔ j = i ∧ ((∃ e t xs, rd i = some (.row e t xs) ∧ r = .frz t xs) ∨ (∃ cs, rd i = some (.box cs) ∧ r = .fbx cs) ∨ ∃ e e2 t xs, rd i = some (.rows e e2 t xs) ∧ r = .frz (.sl t) xs) := by
 unfold stay
 cases h : rd i with
 | none => simp
 | some q =>
  cases q with
  | row e t xs =>
   simp only [List.mem_singleton, Prod.mk.injEq, Option.some.injEq, Row.row.injEq, reduceCtorEq, false_and, exists_false, or_false]
   constructor
   ·rintro ⟨rfl, rfl⟩; exact ⟨rfl, e, t, xs, ⟨rfl, rfl, HEq.rfl⟩, rfl⟩
   ·rintro ⟨rfl, e', t', xs', ⟨rfl, rfl, h⟩, rfl⟩; cases h; exact ⟨rfl, rfl⟩
  | box cs =>
   simp only [List.mem_singleton, Prod.mk.injEq, Option.some.injEq, Row.box.injEq, reduceCtorEq, false_and, exists_false, false_or, or_false]
   constructor
   ·rintro ⟨rfl, rfl⟩; exact ⟨rfl, cs, rfl, rfl⟩
   ·rintro ⟨rfl, cs', rfl, rfl⟩; exact ⟨rfl, rfl⟩
  | rows e e2 t xs =>
   simp only [List.mem_singleton, Prod.mk.injEq, Option.some.injEq, Row.rows.injEq, reduceCtorEq, false_and, exists_false, false_or, or_false]
   constructor
   ·rintro ⟨rfl, rfl⟩; exact ⟨rfl, e, e2, t, xs, ⟨rfl, rfl, rfl, HEq.rfl⟩, rfl⟩
   ·rintro ⟨rfl, e', e2', t', xs', ⟨rfl, rfl, rfl, h⟩, rfl⟩; cases h; exact ⟨rfl, rfl⟩
  | _ => simp
theorem stay_at (ids : List Nat) (id : Nat) : FrzAt (fun j => j ∈ ids) H (setH H (ids.flatMap (stay (rdOf H ids)))) id := by
 have hmem : ∀ r, (id, r) ∈ ids.flatMap (stay (rdOf H ids)) ↔ id ∈ ids ∧ ((∃ e t xs, H[id]? = some (.row e t xs) ∧ r = .frz t xs) ∨ (∃ cs, H[id]? = some (.box cs) ∧ r = .fbx cs) ∨ ∃ e e2 t xs, H[id]? = some (.rows e e2 t xs) ∧ r = .frz (.sl t) xs) := by
  intro r
  rw [List.mem_flatMap]
  constructor
  ·rintro ⟨i, hi, h⟩
   obtain ⟨rfl, h⟩ := stay_mem.1 h
   rw [rdOf_mem hi] at h
   exact ⟨hi, h⟩
  ·rintro ⟨hi, h⟩
   exact ⟨id, hi, stay_mem.2 ⟨rfl, by rw [rdOf_mem hi]; exact h⟩⟩
 by_cases hs : id ∈ ids
 ·refine .inr ⟨hs, ?_⟩
  have no : (∀ r : Row, ¬ ((∃ e t xs, H[id]? = some (.row e t xs) ∧ r = .frz t xs) ∨ (∃ cs, H[id]? = some (.box cs) ∧ r = .fbx cs) ∨ ∃ e e2 t xs, H[id]? = some (.rows e e2 t xs) ∧ r = .frz (.sl t) xs)) → (setH H (ids.flatMap (stay (rdOf H ids))))[id]? = H[id]? := fun h1 => setH_other _ _ fun hm => by
   obtain ⟨r, hr⟩ := fsts_mem.1 hm
   exact h1 r ((hmem r).1 hr).2
  cases hq : H[id]? with
  | none => exact (no (by simp [hq])).trans hq
  | some q =>
   cases q with
   | row e t xs =>
    refine setH_mem _ _ (get_lt hq) ((hmem _).2 ⟨hs, .inl ⟨e, t, xs, hq, rfl⟩⟩) fun r hr => ?_
    rcases ((hmem r).1 hr).2 with ⟨e', t', xs', h, rfl⟩ | ⟨cs, h, _⟩ | ⟨_, _, _, _, h, _⟩
    ·rw [hq] at h
     simp only [Option.some.injEq, Row.row.injEq] at h
     obtain ⟨rfl, rfl, h⟩ := h
     cases h
     rfl
    ·rw [hq] at h; simp at h
    ·rw [hq] at h; simp at h
   | box cs =>
    refine setH_mem _ _ (get_lt hq) ((hmem _).2 ⟨hs, .inr (.inl ⟨cs, hq, rfl⟩)⟩) fun r hr => ?_
    rcases ((hmem r).1 hr).2 with ⟨e', t', xs', h, rfl⟩ | ⟨cs', h, rfl⟩ | ⟨_, _, _, _, h, _⟩
    ·rw [hq] at h; simp at h
    ·rw [hq] at h
     simp only [Option.some.injEq, Row.box.injEq] at h
     rw [h]
    ·rw [hq] at h; simp at h
   | rows e e2 t xs =>
    refine setH_mem _ _ (get_lt hq) ((hmem _).2 ⟨hs, .inr (.inr ⟨e, e2, t, xs, hq, rfl⟩)⟩) fun r hr => ?_
    rcases ((hmem r).1 hr).2 with ⟨e', t', xs', h, rfl⟩ | ⟨cs', h, rfl⟩ | ⟨e', e2', t', xs', h, rfl⟩
    ·rw [hq] at h; simp at h
    ·rw [hq] at h; simp at h
    ·rw [hq] at h
     simp only [Option.some.injEq, Row.rows.injEq] at h
     obtain ⟨rfl, rfl, rfl, h⟩ := h
     cases h
     rfl
   | _ => exact (no (by simp [hq])).trans hq
 ·exact .inl ⟨hs, setH_other _ _ fun hm => by
   obtain ⟨r, hr⟩ := fsts_mem.1 hm
   exact hs ((hmem r).1 hr).1⟩
end
end Go.Proofs.YtlfdikofmfhefaaGreatDoor.Ev
set_option linter.unusedVariables false
set_option linter.unusedSimpArgs false
namespace Go.Proofs.YtlfdikofmfhefaaGreatDoor.Ev
open Go Go.RowKit
theorem numbered_mem {i : Nat} {r : Row} : ∀ {rows : List Row} {nid : Nat}, (i, r) ∈ numbered nid rows ↔ nid ≤ i ∧ rows[i - nid]? = some r
 | [], nid => by simp [numbered]
 | q :: rows, nid => by
  simp only [numbered, List.mem_cons, Prod.mk.injEq, numbered_mem (rows := rows)]
  constructor
  ·rintro (⟨rfl, rfl⟩ | ⟨h1, h2⟩)
   ·simp
   ·refine ⟨by omega, ?_⟩
    rw [show i - nid = (i - (nid + 1)) + 1 by omega]
    simpa using h2
  ·rintro ⟨h1, h2⟩
   by_cases h : i = nid
   ·subst h
    simp only [Nat.sub_self, List.getElem?_cons_zero, Option.some.injEq] at h2
    exact .inl ⟨rfl, h2.symm⟩
   ·refine .inr ⟨by omega, ?_⟩
    rw [show i - nid = (i - (nid + 1)) + 1 by omega] at h2
    simpa using h2
theorem numbered_fsts {i : Nat} {rows : List Row} {nid : Nat} : i ∈ fsts (numbered nid rows) ↔ nid ≤ i ∧ i < nid + rows.length := by
 rw [fsts_mem]
 constructor
 ·rintro ⟨r, h⟩
  obtain ⟨h1, h2⟩ := numbered_mem.1 h
  have := (List.getElem?_eq_some_iff.1 h2).1
  exact ⟨h1, by omega⟩
 ·rintro ⟨h1, h2⟩
  exact ⟨rows[i - nid], numbered_mem.2 ⟨h1, List.getElem?_eq_getElem (by omega)⟩⟩
theorem numbered_get {H : List Row} {rows : List Row} {nid j : Nat} (hl : nid + rows.length ≤ H.length) (hj : j < rows.length) : (setH H (numbered nid rows))[nid + j]? = rows[j]? := by
 rw [List.getElem?_eq_getElem hj]
 refine setH_mem _ _ (by omega) (numbered_mem.2 ⟨by omega, ?_⟩) fun q hq => ?_
 ·rw [Nat.add_sub_cancel_left]; exact List.getElem?_eq_getElem hj
 ·have := (numbered_mem.1 hq).2
  rw [Nat.add_sub_cancel_left, List.getElem?_eq_getElem hj] at this
  simpa using this.symm
def isRowB : Row → Bool
 | .row _ _ _ => true
 | _ => false
section
variable {P : Program} {E : Env} {o : Oper} {a : Act} {w w' : World} {ok ok1 okR : Nat → Prop} {base : Nat} {H H1 : List Row} {m mR : Nat → Value}
theorem adopt {nid : Nat} {rows : List Row} (hH : HRel w ok1 base H1 m) (hb : base ≤ w.heap.size) (hB : Below w.heap.size w w') (hR : HRel w' okR w.heap.size rows mR) (hok : ∀ k, okR k → ok1 k ∨ w.heap.size ≤ k)
  (hrow : ∀ r ∈ rows, isRowB r = true) (hhole : ∀ j, j < rows.length → H1[nid + j]? = some .hole) :
  ∃ ok2 m2, HRel w' ok2 base (setH H1 (numbered nid rows)) m2 ∧ HStep w w' ok1 ok2 H1 (setH H1 (numbered nid rows)) m m2 ∧ (∀ k, okR k → ok2 k) ∧ (∀ k, ok2 k → ok1 k ∨ base ≤ k) ∧
   ∀ j r, rows[j]? = some r → (setH H1 (numbered nid rows))[nid + j]? = some r ∧ m2 (nid + j) = mR j := by
 have hlen : ∀ j, j < rows.length → nid + rows.length ≤ H1.length := fun j hj => by
  have := get_lt (hhole (rows.length - 1) (by omega))
  omega
 have hget : ∀ j r, rows[j]? = some r → (setH H1 (numbered nid rows))[nid + j]? = some r := fun j r h => by
  have hj := (List.getElem?_eq_some_iff.1 h).1
  rw [numbered_get (hlen j hj) hj, h]
 have hout : ∀ i, ¬ (nid ≤ i ∧ i < nid + rows.length) → (setH H1 (numbered nid rows))[i]? = H1[i]? := fun i hi => setH_other _ _ fun hm => hi (numbered_fsts.1 hm)
 have hm2 : ∀ j, j < rows.length → (fun i => if nid ≤ i ∧ i < nid + rows.length then mR (i - nid) else m i) (nid + j) = mR j := fun j hj => by
  show (if nid ≤ nid + j ∧ nid + j < nid + rows.length then mR (nid + j - nid) else m (nid + j)) = mR j
  rw [if_pos (by omega), Nat.add_sub_cancel_left]
 have hmo : ∀ i, ¬ (nid ≤ i ∧ i < nid + rows.length) → (fun i => if nid ≤ i ∧ i < nid + rows.length then mR (i - nid) else m i) i = m i := fun i hi => if_neg hi
 generalize (fun i => if nid ≤ i ∧ i < nid + rows.length then mR (i - nid) else m i) = m2 at hm2 hmo
 have hst : HStep w w' ok1 (fun k => ok1 k ∨ okR k) H1 (setH H1 (numbered nid rows)) m m2 := ⟨⟨hB.size, fun k hk hl => ⟨hB.block k hl, .inl hk⟩⟩, fun id r hr hh => by
  have hi : ¬ (nid ≤ id ∧ id < nid + rows.length) := fun ⟨h1, h2⟩ => by
   have := hhole (id - nid) (by omega)
   rw [show nid + (id - nid) = id by omega, hr] at this
   simp only [Option.some.injEq] at this
   exact hh this
  exact ⟨hmo id hi, r, by rw [hout id hi]; exact hr, .same r⟩⟩
 refine ⟨_, m2, ?_, hst, fun k hk => .inr hk, fun k hk => hk.elim .inl fun hk => (hok k hk).imp (fun h => h) fun h => Nat.le_trans hb h, fun j r hj => ⟨hget j r hj, hm2 j (List.getElem?_eq_some_iff.1 hj).1⟩⟩
 have inC : ∀ i r, (nid ≤ i ∧ i < nid + rows.length) → (setH H1 (numbered nid rows))[i]? = some r → ∃ j, i = nid + j ∧ j < rows.length ∧ rows[j]? = some r ∧ m2 i = mR j := by
  rintro i r ⟨h1, h2⟩ hr
  obtain ⟨j, rfl⟩ := Nat.exists_eq_add_of_le h1
  have hj : j < rows.length := by omega
  refine ⟨j, rfl, hj, ?_, hm2 j hj⟩
  rw [numbered_get (hlen j hj) hj] at hr
  exact hr
 refine hH.upd (fun i => nid ≤ i ∧ i < nid + rows.length) hst (fun k hk _ => hB.block k hk) (fun i hi => ⟨hout i hi, hmo i hi⟩) ?_ ?_ ?_ ?_
 ·intro i r hc hr
  obtain ⟨j, rfl, hj, hrj, hmj⟩ := inC i r hc hr
  have hrr := hrow r (List.mem_of_getElem? hrj)
  have hrel := hR.hp j r hrj
  rw [hmj]
  cases r with
  | row e t xs =>
   obtain ⟨us, hf, ho⟩ := hrel
   refine ⟨⟨us, hf.imp fun _ _ _ h => Rd_grow (fun k hk => .inr hk) h, ho.1, ?_⟩, fun _ k hk => ⟨?_, ?_⟩⟩
   ·rcases ho.2 with h | ⟨g, cap, cur, h1, h2, h3⟩
    ·exact .inl h
    ·exact .inr ⟨g, cap, cur, h1, by omega, h3⟩
   ·rintro (h | h)
    ·have := (RowRel.lt (hR.hp j _ hrj) rfl k hk).1
     have := hH.lt k h
     omega
    ·exact hR.sep j _ k hrj rfl hk h
   ·exact .inl (RowRel.lt (hR.hp j _ hrj) rfl k hk).1
  | _ => simp [isRowB] at hrr
 ·intro i j ri rj k hi hj hri hrj hli hlj h1 h2
  obtain ⟨p, rfl, hp, hrp, hmp⟩ := inC i ri hi hri
  obtain ⟨q, rfl, hq, hrq, hmq⟩ := inC j rj hj hrj
  rw [hmp] at h1
  rw [hmq] at h2
  rw [hR.dst p q ri rj k hrp hrq hli hlj h1 h2]
 ·rintro k (h | h)
  ·exact Nat.lt_of_lt_of_le (hH.lt k h) hB.size
  ·exact hR.lt k h
 ·rintro k (h | h) hk
  ·exact .inl h
  ·rcases hok k h with h | h
   ·exact .inl h
   ·omega
section
variable {ok2 : Nat → Prop} {H2 : List Row} {m2 : Nat → Value} {rows : List Row} {nid : Nat}
theorem res0 (h1 : ∀ k, okR k → ok2 k) {x : AV} {u : Value} (h : rel1 w' okR [] mz x u) : rel1 w' ok2 H2 m2 x u := by
 have e : ∀ id : Nat, ([] : List Row)[id]? = none := fun _ => rfl
 cases x with
 | v t x => exact Rd_grow h1 h
 | nl => exact h
 | un => trivial
 | rp cs =>
  obtain ⟨ad, us, rfl, hk, hl, hc, hf⟩ := h
  exact ⟨ad, us, rfl, h1 _ hk, hl, hc, hf.imp fun _ _ _ h => rel0_grow h1 h⟩
 | own id => simp only [rel1, e] at h; exact h.2.elim
 | pb id off => simp only [rel1, e] at h; exact h.2.elim
 | pe id i off => simp only [rel1, e] at h; exact h.2.elim
 | _ => exact h.elim
theorem resL1 (hm : ∀ j r, rows[j]? = some r → H2[nid + j]? = some r ∧ m2 (nid + j) = mR j) (h1 : ∀ k, okR k → ok2 k) :
  ∀ {cs : List AV} {us : List Value} {k : Nat}, relL1 w' okR mR k cs us → (∀ j r, (rowsL1 cs)[j]? = some r → rows[k + j]? = some r) → F2 (rel1 w' ok2 H2 m2) (adL1 (nid + k) cs) us
 | [], [], k, _, _ => .nil
 | [], _ :: _, k, h, _ => h.elim
 | _ :: _, [], k, h, _ => h.elim
 | x :: cs, u :: us, k, ⟨h, ht⟩, hr => by
  have hr' : ∀ j r, (rowsL1 cs)[j]? = some r → rows[k + (rows1 x).length + j]? = some r := fun j r hj => by
   rw [Nat.add_assoc]
   refine hr _ r ?_
   show ((x :: cs).flatMap rows1)[_]? = _
   rw [List.flatMap_cons, List.getElem?_append_right (by omega), Nat.add_sub_cancel_left]
   exact hj
  have ih := resL1 hm h1 ht hr'
  cases x with
  | nw e t xs =>
   have h0 : rows[k]? = some (.row e t xs) := hr 0 _ rfl
   obtain ⟨e1, e2⟩ := hm k _ h0
   refine .cons ?_ ih
   obtain ⟨hs, hu⟩ := (h : (∃ p n c, u = .slice p n c) ∧ u = mR k)
   simp only [rel1, e1]
   exact ⟨hs, by rw [e2]; exact hu⟩
  | _ => exact .cons (res0 h1 h) ih
theorem res2 (hm : ∀ j r, rows[j]? = some r → H2[nid + j]? = some r ∧ m2 (nid + j) = mR j) (h1 : ∀ k, okR k → ok2 k) {x : AV} {u : Value} {k : Nat} (h : relN2 w' okR mR k x u)
  (hr : ∀ j r, (rows2 x)[j]? = some r → rows[k + j]? = some r) : rel2 w' ok2 H2 m2 (ad2 (nid + k) x) u := by
 cases x with
 | agg cs =>
  obtain ⟨us, rfl, hl⟩ := h
  exact ⟨us, rfl, resL1 hm h1 hl hr⟩
 | nw e t xs =>
  have h0 : rows[k]? = some (.row e t xs) := hr 0 _ rfl
  obtain ⟨e1, e2⟩ := hm k _ h0
  obtain ⟨hs, hu⟩ := (h : (∃ p n c, u = .slice p n c) ∧ u = mR k)
  show rel1 w' ok2 H2 m2 (.own (nid + k)) u
  simp only [rel1, e1]
  exact ⟨hs, by rw [e2]; exact hu⟩
 | tup cs => exact (h : False).elim
 | fn g fs cs => exact (h : False).elim
 | _ => exact rel1_rel2 (res0 h1 h)
theorem resL2 (hm : ∀ j r, rows[j]? = some r → H2[nid + j]? = some r ∧ m2 (nid + j) = mR j) (h1 : ∀ k, okR k → ok2 k) :
  ∀ {cs : List AV} {us : List Value} {k : Nat}, relL2 w' okR mR k cs us → (∀ j r, (cs.flatMap rows2)[j]? = some r → rows[k + j]? = some r) → F2 (rel2 w' ok2 H2 m2) (adL2 (nid + k) cs) us
 | [], [], k, _, _ => .nil
 | [], _ :: _, k, h, _ => h.elim
 | _ :: _, [], k, h, _ => h.elim
 | x :: cs, u :: us, k, ⟨h, ht⟩, hr => by
  have hr' : ∀ j r, (cs.flatMap rows2)[j]? = some r → rows[k + (rows2 x).length + j]? = some r := fun j r hj => by
   rw [Nat.add_assoc]
   refine hr _ r ?_
   rw [List.flatMap_cons, List.getElem?_append_right (by omega), Nat.add_sub_cancel_left]
   exact hj
  refine .cons (res2 hm h1 h fun j r hj => hr j r ?_) ?_
  ·rw [List.flatMap_cons, List.getElem?_append_left (List.getElem?_eq_some_iff.1 hj).1]
   exact hj
  ·have := resL2 hm h1 ht hr'
   rw [← Nat.add_assoc] at this
   exact this
theorem resA (hm : ∀ j r, rows[j]? = some r → H2[nid + j]? = some r ∧ m2 (nid + j) = mR j) (h1 : ∀ k, okR k → ok2 k) {x : AV} {u : Value} (h : relNA w' okR mR x u) (hr : rows = rowsA x) : rel w' ok2 H2 m2 (adA nid x) u := by
 subst hr
 have two : relN2 w' okR mR 0 x u → (rowsA x = rows2 x) → rel2 w' ok2 H2 m2 (ad2 nid x) u := fun h e => res2 (k := 0) hm h1 h fun j r hj => by rw [Nat.zero_add, e]; exact hj
 cases x with
 | tup cs =>
  obtain ⟨us, rfl, hl⟩ := h
  exact ⟨us, rfl, resL2 (k := 0) hm h1 hl fun j r hj => by rw [Nat.zero_add]; exact hj⟩
 | agg cs => exact two h rfl
 | fn g fs cs =>
  obtain ⟨us, vs, rfl, hf, hc⟩ := h
  refine ⟨us, vs, rfl, hf.imp fun x u _ h => ?_, hc.imp fun _ _ _ h => res0 h1 h⟩
  cases x with
  | agg cs =>
   obtain ⟨us, rfl, hl⟩ := h
   exact ⟨us, rfl, hl.imp fun _ _ _ h => res0 h1 h⟩
  | _ => exact rel1_rel2 (res0 h1 h)
 | nw e t xs => exact rel2_rel (two h rfl)
 | _ => exact rel2_rel (two h rfl)
end
theorem rows1_row {x : AV} : ∀ r ∈ rows1 x, isRowB r = true := by cases x <;> simp [rows1, isRowB]
theorem rows2_row {x : AV} : ∀ r ∈ rows2 x, isRowB r = true := by
 have key := rows1_row (x := x)
 cases x with
 | agg cs =>
  intro r hr
  obtain ⟨c, _, hc⟩ := List.mem_flatMap.1 (hr : r ∈ cs.flatMap rows1)
  exact rows1_row r hc
 | _ => exact key
theorem rowsA_row {x : AV} : ∀ r ∈ rowsA x, isRowB r = true := by
 have key := rows2_row (x := x)
 cases x with
 | tup cs =>
  intro r hr
  obtain ⟨c, _, hc⟩ := List.mem_flatMap.1 (hr : r ∈ cs.flatMap rows2)
  exact rows2_row r hc
 | _ => exact key
theorem flat1_rows {x : AV} (h : flat1 x = true) : rows1 x = [] := by cases x <;> first | rfl | simp [flat1] at h
theorem flat1_rel {okA okB : Nat → Prop} {HA HB : List Row} {mA mB : Nat → Value} {x : AV} {u : Value} (h : flat1 x = true) (hr : rel1 w okA HA mA x u) : rel1 w okB HB mB x u := by
 cases x with
 | v t x =>
  cases t with
  | int k => exact hr
  | bool => exact hr
  | str => exact hr
  | sl t => simp [flat1] at h
  | pair a b => simp [flat1] at h
 | nl => exact hr
 | un => trivial
 | _ => simp [flat1] at h
theorem flat2_rel {okA okB : Nat → Prop} {HA HB : List Row} {mA mB : Nat → Value} {x : AV} {u : Value} (h : flat2 x = true) (hr : rel2 w okA HA mA x u) : rel2 w okB HB mB x u := by
 have one : flat1 x = true → rel1 w okA HA mA x u → rel2 w okB HB mB x u := fun h hr => rel1_rel2 (flat1_rel h hr)
 cases x with
 | agg cs =>
  obtain ⟨us, rfl, hf⟩ := hr
  simp only [flat2, List.all_eq_true] at h
  exact ⟨us, rfl, hf.imp fun x _ hx hr => flat1_rel (h x hx) hr⟩
 | _ => exact one h hr
theorem flat_rel {okA okB : Nat → Prop} {HA HB : List Row} {mA mB : Nat → Value} {x : AV} {u : Value} (h : flat x = true) (hr : rel w okA HA mA x u) : rel w okB HB mB x u := by
 have two : flat2 x = true → rel2 w okA HA mA x u → rel2 w okB HB mB x u := flat2_rel
 cases x with
 | tup cs =>
  obtain ⟨us, rfl, hf⟩ := hr
  simp only [flat, List.all_eq_true] at h
  exact ⟨us, rfl, hf.imp fun x _ hx hr => flat2_rel (h x hx) hr⟩
 | fn g fs cs => simp [flat, flat2, flat1] at h
 | agg cs => exact two h hr
 | _ => exact rel2_rel (two h hr)
theorem flat2_rows {x : AV} (h : flat2 x = true) : rows2 x = [] := by
 have key : flat1 x = true → rows1 x = [] := flat1_rows
 cases x with
 | agg cs =>
  simp only [flat2, List.all_eq_true] at h
  show cs.flatMap rows1 = []
  rw [List.flatMap_eq_nil_iff]
  exact fun c hc => flat1_rows (h c hc)
 | _ => exact key h
theorem flat_rows {x : AV} (h : flat x = true) : rowsA x = [] := by
 have key : flat2 x = true → rows2 x = [] := flat2_rows
 cases x with
 | tup cs =>
  simp only [flat, List.all_eq_true] at h
  show cs.flatMap rows2 = []
  rw [List.flatMap_eq_nil_iff]
  exact fun c hc => flat2_rows (h c hc)
 | _ => exact key h
def Does (P : Program) (o : Oper) (a : Act) (w : World) (ok : Nat → Prop) (base : Nat) (H : List Row) (m : Nat → Value) (av : AV) (ups : List (Nat × Row)) : Prop :=
 ∀ (K : Act → World → Prop) (Q : Exit → Act → World → Prop),
  (∀ u w' ok' m', Below base w w' → HRel w' ok' base (setH H ups) m' → HStep w w' ok ok' H (setH H ups) m m' → rel w' ok' (setH H ups) m' av u → (∀ k, ok' k → ok k ∨ base ≤ k) → K (a.put o.dst u) w') → o.wp P a w K Q
theorem Done.does {av : AV} {ups : List (Nat × Row)} (h : Done P o a w ok base H m av ups) : Does P o a w ok base H m av ups := by
 intro K Q hK
 obtain ⟨u, w', ok', m', hg, h2, h3, h4, h5, h6⟩ := h
 have hk := hK u w' ok' m' h2 h3 h4 h5 h6
 unfold Oper.wp
 rcases hg with hg | ⟨hg, rfl⟩
 ·rw [hg]; exact hk
 ·rw [hg]; exact hk
theorem F2.append_inv {α β : Type} {r : α → β → Prop} {x : α} {xs : List α} {ys : List β} (h : F2 r (x :: xs) ys) : ∃ y ys', ys = y :: ys' ∧ r x y ∧ F2 r xs ys' := by
 cases h with
 | cons h t => exact ⟨_, _, rfl, h, t⟩
theorem call_does {I : World → Prop} (hI : I w) {c : Call} {g nid : Nat} {fs cs args : List AV} {av : AV} {f : Operand} (hH : HRel w ok base H m) (hb : base ≤ w.heap.size) (ho : o.op = .call c) (hc : c.callee = .value f)
  (ha : F2 (rel w ok H m) (.fn g fs cs :: args) (o.op.operands.toList.map a.eval))
  (hS : CallSpec P I g ((fs ++ args ++ cs).map (shown (rdOf H ((AV.fn g fs cs :: args).flatMap idsA)))) av) (hhole : ∀ j, j < (rowsA av).length → H[nid + j]? = some .hole) :
  Does P o a w ok base H m (adA nid av) ((bif flat av then [] else ((AV.fn g fs cs :: args).flatMap idsA).flatMap (stay (rdOf H ((AV.fn g fs cs :: args).flatMap idsA)))) ++ numbered nid (rowsA av)) := by
 intro K Q hK
 generalize hids : (AV.fn g fs cs :: args).flatMap idsA = ids at hS hK
 have hid : ∀ x ∈ AV.fn g fs cs :: args, ∀ i ∈ idsA x, i ∈ ids := fun x hx i hi => by subst hids; exact List.mem_flatMap.2 ⟨x, hx, hi⟩
 rw [ho] at ha
 have hop : (Op.call c).operands.toList.map a.eval = a.eval f :: c.args.toList.map a.eval := by simp [Op.operands, Call.operands, hc]
 rw [hop] at ha
 obtain ⟨y, ys, e, hf, hargs⟩ := ha.append_inv
 simp only [List.cons.injEq] at e
 obtain ⟨rfl, rfl⟩ := e
 obtain ⟨us, vs, hfe, hfs, hcs⟩ := hf
 -- what is shown
 have hsh : F2 (rel w (okF w ok (fun j => j ∈ ids) H m) [] mz) ((fs ++ args ++ cs).map (shown (rdOf H ids))) (us ++ c.args.toList.map a.eval ++ vs) := by
  rw [List.map_append, List.map_append]
  refine ((hfs.mapL fun x u hx h => ?_).append (hargs.mapL fun x u hx h => ?_)).append (hcs.mapL fun x u hx h => ?_)
  ·exact shown_rel hH (fun i hi => hid _ List.mem_cons_self i (List.mem_append_left _ (List.mem_flatMap.2 ⟨x, hx, by rw [ids_of2 h] at hi; exact hi⟩))) (rel2_rel h)
  ·exact shown_rel hH (fun i hi => hid x (List.mem_cons_of_mem _ hx) i hi) h
  ·exact shown_rel hH (fun i hi => hid _ List.mem_cons_self i (List.mem_append_right _ (List.mem_flatMap.2 ⟨x, hx, by rw [ids_of1 h] at hi; exact hi⟩))) (rel2_rel (rel1_rel2 h))
 obtain ⟨hH1, hst1⟩ := freeze_ok (fun j => j ∈ ids) hH (stay_at ids)
 have hcall := hS w _ _ hI (fun k hk => hH1.lt k hk) hsh
 have hrun : ∀ n w', (callFunc g (us ++ c.args.toList.map a.eval ++ vs).toArray).run P w = .ok n w' → (execOp a.eval o).run P w = .ok n w' := by
  intro n w' hn
  rw [execOp.eq_def]
  have e : (us ++ c.args.toList.map a.eval ++ vs).toArray = us.toArray ++ c.args.map a.eval ++ vs.toArray := by
   apply Array.ext'; simp
  rw [e] at hn
  have hfree : ∀ A : Array Value, A = us.toArray ++ c.args.map a.eval ++ vs.toArray → (callFunc g A).run P w = .ok n w' := fun A hA => by rw [hA]; exact hn
  simp [ho, resolve, hc, Deferred.ofValue, hfe, invoke]
  refine hfree _ ?_
  simp
 suffices fin : ∀ u w', Below w.heap.size w w' → ResRel w.heap.size (okF w ok (fun j => j ∈ ids) H m) w' av u → K (a.put o.dst u) w' by
  unfold Oper.wp
  rcases hcall with ⟨hent, hcall⟩ | ⟨u, hent, hres⟩
  ·rw [hrun _ _ hent, Oper.upon_enter]
   refine hcall.mono fun e w' he => ?_
   obtain ⟨u, rfl, hB, hres⟩ := he
   exact fin u w' hB hres
  ·rw [hrun _ _ hent, Oper.upon_value]
   exact fin u w (Below.refl _ _) hres
 intro u w' hB hres
 obtain ⟨okR, mR, hR, hres, hok⟩ := hres
 cases hfl : flat av with
 | true =>
  have hr0 := flat_rows hfl
  refine hK u w' ok m (hB.mono hb) ?_ ?_ ?_ fun k hk => .inl hk
  ·rw [hfl, hr0]
   exact hH.grow hB (fun k hk => hk) fun k hk => ⟨Nat.lt_of_lt_of_le (hH.lt k hk) hB.size, .inl hk⟩
  ·rw [hfl, hr0]
   exact HStep.world (moves_grow hB fun k hk => hk) H m
  ·rw [hfl, hr0]
   have h1 : rel w' okR [] mz (adA nid av) u := resA (H2 := []) (m2 := mz) (rows := []) (nid := nid) (fun j r h => by simp at h) (fun k hk => hk) hres hr0.symm
   have hfa : flat (adA nid av) = true := by
    have e1 : ∀ x, flat1 x = true → ad2 nid x = x := fun x hx => by cases x <;> first | rfl | simp [flat1] at hx
    have eL1 : ∀ (cs : List AV) n, (∀ x ∈ cs, flat1 x = true) → adL1 n cs = cs := by
     intro cs
     induction cs with
     | nil => intro n _; rfl
     | cons x cs ih =>
      intro n hx
      have h1 := hx x List.mem_cons_self
      have h2 := fun n => ih n fun y hy => hx y (List.mem_cons_of_mem _ hy)
      cases x <;> first | (simp only [adL1, h2]; done) | simp [flat1] at h1
    have e2 : ∀ x n, flat2 x = true → ad2 n x = x := fun x n hx => by
     cases x with
     | agg cs => simp only [flat2, List.all_eq_true] at hx; simp only [ad2, eL1 cs n hx]
     | nw e t xs => simp [flat2, flat1] at hx
     | _ => rfl
    have eL2 : ∀ (cs : List AV) n, (∀ x ∈ cs, flat2 x = true) → adL2 n cs = cs := by
     intro cs
     induction cs with
     | nil => intro n _; rfl
     | cons x cs ih =>
      intro n hx
      simp only [adL2, e2 x n (hx x List.mem_cons_self), ih _ fun y hy => hx y (List.mem_cons_of_mem _ hy)]
    have eA : adA nid av = av := by
     cases av with
     | tup cs => simp only [flat, List.all_eq_true] at hfl; simp only [adA, eL2 cs nid hfl]
     | agg cs => exact e2 (.agg cs) _ hfl
     | nw e t xs => simp [flat, flat2, flat1] at hfl
     | _ => rfl
    rw [eA]
    exact hfl
   exact flat_rel hfa h1
 | false =>
  obtain ⟨ok2, m2, h1, h2, h3, h5, h4⟩ := adopt (nid := nid) hH1 hb hB hR hok rowsA_row (fun j hj => by
   have := hhole j hj
   rcases stay_at (H := H) ids (nid + j) with ⟨_, e⟩ | ⟨_, e⟩
   ·exact e.trans this
   ·rw [this] at e; exact e)
  refine hK u w' ok2 m2 (hB.mono hb) ?_ ?_ ?_ fun k hk => (h5 k hk).elim (okF_bd hH k) .inr
  ·rw [hfl, setH_append]; exact h1
  ·rw [hfl, setH_append]; exact hst1.trans h2
  ·rw [hfl, setH_append]; exact resA h4 h3 hres rfl
def MDone (P : Program) (g : Nat) (size : Nat) (w : World) (ok : Nat → Prop) (u : Value) (e : Nat) (t : Ty) (n : Nat) (ys : List t.D) (res : Option AV) (v : Value) (w' : World) : Prop :=
 Below size w w' ∧ w.heap.size ≤ w'.heap.size ∧ (∀ k, k < w.heap.size → mblk u ≠ some k → w'.heap[k]? = w.heap[k]?) ∧
 ∃ okR x cs, (∀ k, ok k → okR k) ∧ (∀ k, okR k → (ok k ∨ w.heap.size ≤ k) ∧ k < w'.heap.size) ∧
  F2 (Rd w' okR t) ys cs ∧ w'.ownsRow size e t.sz x ys.length cs.flatten ∧ (∀ k, mblk x = some k → ¬ okR k ∧ (mblk u = some k ∨ w.heap.size ≤ k)) ∧
  match res with
  | some av => ys.length = n ∧ x = u ∧ rel w' okR [] mz av v
  | none => x = v ∧ ∃ p n c, v = .slice p n c
def MSpec (P : Program) (I : World → Prop) (g p : Nat) (args : List AV) (e : Nat) (t : Ty) (xs ys : List t.D) (res : Option AV) : Prop :=
 ∀ (w1 w : World) (ok : Nat → Prop) (us : List Value) (u : Value), I w1 → Below w1.heap.size w1 w → (∀ k, ok k → k < w.heap.size) → F2 (rel w ok [] mz) args us → us[p]? = some u → (∃ q n c, u = .slice q n c) →
  (∃ cs, F2 (Rd w ok t) xs cs ∧ w.ownsRow w1.heap.size e t.sz u xs.length cs.flatten) → (∀ k, mblk u = some k → ¬ ok k) →
  ((callFunc g us.toArray).run P w = .ok (.enter g us.toArray) w ∧ Calls P g us.toArray w (fun ex w' => ∃ v, ex = .returned v ∧ MDone P g w1.heap.size w ok u e t xs.length ys res v w'))
theorem F2.setL {α β : Type} {r : α → β → Prop} {x : α} (hx : ∀ y, r x y) : ∀ {xs : List α} {ys : List β} (p : Nat), F2 r xs ys → F2 r (xs.set p x) ys
 | _, _, _, .nil => .nil
 | _, _, 0, .cons _ t => .cons (hx _) t
 | _, _, p + 1, .cons h t => .cons h (F2.setL hx p t)
theorem Rd_flatT {okB : Nat → Prop} {wB : World} : ∀ {t : Ty} (_ : flatT t = true) {x : t.D} {cs : List Value}, Rd w ok t x cs → Rd wB okB t x cs
 | .int _, _, _, _, h => h
 | .bool, _, _, _, h => h
 | .str, _, _, _, h => h
 | .sl _, hf, _, _, _ => by simp [flatT] at hf
 | .pair a b, hf, p, cs, h => by
  simp only [flatT, Bool.and_eq_true] at hf
  simp only [Rd] at h ⊢
  obtain ⟨c1, c2, e, h1, h2⟩ := h
  exact ⟨c1, c2, e, Rd_flatT hf.1 h1, Rd_flatT hf.2 h2⟩
theorem rdIn_sub {H : List Row} {ids rest : List Nat} (h : ∀ i ∈ rest, i ∈ ids) : rdIn (rdOf H ids) rest = rdOf H rest := by
 funext i
 unfold rdIn rdOf
 cases hm : memN i rest with
 | false => rfl
 | true => simp only [cond_true, memN_iff.2 (h i (memN_iff.1 hm))]
section
variable {okA okB : Nat → Prop} {HA : List Row} {id nid e : Nat} {t : Ty} {xs ys : List t.D} {x : Value} {cs : List Value}
theorem mput_in {cs : List (List Value)} (hH : HRel w okA base HA m) (hr : HA[id]? = some (.row e t xs)) (hl : ys.length = xs.length) (hsz : w.heap.size ≤ w'.heap.size) (hw : ∀ k, k < w.heap.size → mblk (m id) ≠ some k → w'.heap[k]? = w.heap[k]?)
  (h1 : ∀ k, okA k → okB k) (h2 : ∀ k, okB k → (okA k ∨ w.heap.size ≤ k) ∧ k < w'.heap.size) (hf : F2 (Rd w' okB t) ys cs) (ho : w'.ownsRow base e t.sz (m id) ys.length cs.flatten) (hb : ∀ k, mblk (m id) = some k → ¬ okB k) :
  HRel w' okB base (HA.set id (.row e t ys)) m ∧ HStep w w' okA okB HA (HA.set id (.row e t ys)) m m := by
 have hlt := get_lt hr
 have hset : (HA.set id (.row e t ys))[id]? = some (.row e t ys) := by simp [hlt]
 have hst : HStep w w' okA okB HA (HA.set id (.row e t ys)) m m := ⟨⟨hsz, fun k hk hkl => ⟨hw k hkl fun e => hb k e (h1 k hk), h1 k hk⟩⟩, fun j r hj _ => by
  refine ⟨rfl, ?_⟩
  by_cases hji : j = id
  ·subst hji
   rw [hr] at hj
   obtain rfl := Option.some.inj hj
   exact ⟨_, hset, .row e t xs ys hl⟩
  ·exact ⟨r, by rw [List.getElem?_set_ne (Ne.symm hji)]; exact hj, .same r⟩⟩
 refine ⟨hH.upd (fun j => j = id) hst (fun k hk hc => hw k hk fun e => hc id _ rfl hr rfl e) (fun j hj => ⟨List.getElem?_set_ne (Ne.symm hj), rfl⟩) ?_ ?_ (fun k hk => (h2 k hk).2) ?_, hst⟩
 ·rintro j r rfl hj
  rw [hset] at hj
  obtain rfl := Option.some.inj hj
  exact ⟨⟨cs, hf, ho⟩, fun _ k hk => ⟨hb k hk, .inr ⟨j, _, rfl, hr, rfl, hk⟩⟩⟩
 ·rintro i j ri rj k rfl rfl _ _ _ _ _ _; rfl
 ·intro k hk hkl
  rcases (h2 k hk).1 with h | h
  ·exact .inl h
  ·omega
theorem mput_out {cs : List (List Value)} (hH : HRel w okA base HA m) (hr : HA[id]? = some (.row e t xs)) (hh : HA[nid]? = some .hole) (hsz : w.heap.size ≤ w'.heap.size) (hw : ∀ k, k < w.heap.size → mblk (m id) ≠ some k → w'.heap[k]? = w.heap[k]?)
  (h1 : ∀ k, okA k → okB k) (h2 : ∀ k, okB k → (okA k ∨ w.heap.size ≤ k) ∧ k < w'.heap.size) (hf : F2 (Rd w' okB t) ys cs) (ho : w'.ownsRow base e t.sz x ys.length cs.flatten) (hb : ∀ k, mblk x = some k → ¬ okB k ∧ (mblk (m id) = some k ∨ w.heap.size ≤ k)) (hA : ∀ k, mblk (m id) = some k → ¬ okA k) :
  HRel w' okB base ((HA.set id .dead).set nid (.row e t ys)) (updM m nid x) ∧ HStep w w' okA okB HA ((HA.set id .dead).set nid (.row e t ys)) m (updM m nid x) := by
 have hlt := get_lt hr
 have hlt' := get_lt hh
 have hne : nid ≠ id := by rintro rfl; rw [hr] at hh; simp at hh
 have g1 : ((HA.set id .dead).set nid (.row e t ys))[id]? = some .dead := by rw [List.getElem?_set_ne hne]; simp [hlt]
 have g2 : ((HA.set id .dead).set nid (.row e t ys))[nid]? = some (.row e t ys) := by simp [hlt']
 have g3 : ∀ j, j ≠ id → j ≠ nid → ((HA.set id .dead).set nid (.row e t ys))[j]? = HA[j]? := fun j h h' => by rw [List.getElem?_set_ne (Ne.symm h'), List.getElem?_set_ne (Ne.symm h)]
 have hst : HStep w w' okA okB HA ((HA.set id .dead).set nid (.row e t ys)) m (updM m nid x) := ⟨⟨hsz, fun k hk hkl => ⟨hw k hkl fun e => hA k e hk, h1 k hk⟩⟩, fun j r hj hjh => by
  have hjn : j ≠ nid := by rintro rfl; rw [hh] at hj; exact hjh (Option.some.inj hj).symm
  refine ⟨updM_ne m x hjn, ?_⟩
  by_cases hji : j = id
  ·subst hji; exact ⟨_, g1, .dead r⟩
  ·exact ⟨r, by rw [g3 j hji hjn]; exact hj, .same r⟩⟩
 refine ⟨hH.upd (fun j => j = id ∨ j = nid) hst (fun k hk hc => hw k hk fun e => hc id _ (.inl rfl) hr rfl e) (fun j hj => ⟨g3 j (fun e => hj (.inl e)) (fun e => hj (.inr e)), updM_ne m x fun e => hj (.inr e)⟩) ?_ ?_ (fun k hk => (h2 k hk).2) ?_, hst⟩
 ·rintro j r (rfl | rfl) hj
  ·rw [g1] at hj
   obtain rfl := Option.some.inj hj
   exact ⟨trivial, fun hl => by simp [Row.live] at hl⟩
  ·rw [g2] at hj
   obtain rfl := Option.some.inj hj
   rw [updM_same]
   refine ⟨⟨cs, hf, ho⟩, fun _ k hk => ⟨(hb k hk).1, ?_⟩⟩
   rcases (hb k hk).2 with h | h
   ·exact .inr ⟨id, _, .inl rfl, hr, rfl, h⟩
   ·exact .inl h
 ·rintro i j ri rj k (rfl | rfl) (rfl | rfl) hi hj hli hlj _ _
  ·rfl
  ·rw [g1] at hi; obtain rfl := Option.some.inj hi; simp [Row.live] at hli
  ·rw [g1] at hj; obtain rfl := Option.some.inj hj; simp [Row.live] at hlj
  ·rfl
 ·intro k hk hkl
  rcases (h2 k hk).1 with h | h
  ·exact .inl h
  ·omega
end
theorem mcall_does {I : World → Prop} {w0 : World} (hI : I w0) (hbw : Below w0.heap.size w0 w) {c : Call} {g p id nid e : Nat} {t : Ty} {xs ys : List t.D} {ids : List Nat} {args : List AV} {res : Option AV} {f : Operand} (hH : HRel w ok w0.heap.size H m) (ho : o.op = .call c) (hc : c.callee = .value f)
  (ha : F2 (rel w ok H m) (.fn g [] [] :: args) (o.op.operands.toList.map a.eval)) (hids : (AV.fn g [] [] :: args).flatMap idsA = ids)
  (hp : args[p]? = some (.own id)) (hrow : rdOf H ids id = some (.row e t xs)) (hnr : memN id (restA p args) = false) (hfl : flatO res = true)
  (hS : MSpec P I g p ((args.set p .un).map (shown (rdIn (rdOf H ids) (restA p args)))) e t xs ys res) (hhole : H[nid]? = some .hole) :
  Does P o a w ok w0.heap.size H m (mval nid res) (mups t (rdOf H ids) (restA p args) id nid e res ys) := by
 intro K Q hK
 have hsub : ∀ i ∈ restA p args, i ∈ ids := by
  intro i hi
  rw [← hids]
  obtain ⟨y, hy, hi⟩ := List.mem_flatMap.1 (hi : i ∈ (args.set p .un).flatMap idsA)
  have : y ∈ args ∨ y = .un := by
   rcases List.mem_or_eq_of_mem_set hy with h | h
   ·exact .inl h
   ·exact .inr h
  rcases this with h | rfl
  ·exact List.mem_flatMap.2 ⟨y, List.mem_cons_of_mem _ h, hi⟩
  ·simp [idsA, ids2, ids1] at hi
 have hidr : id ∉ restA p args := fun h => by rw [memN_iff.2 h] at hnr; simp at hnr
 rw [rdIn_sub hsub] at hS
 have hrdin : ∀ res : Option AV, mups t (rdOf H ids) (restA p args) id nid e res ys = (bif flatT t then [] else (restA p args).flatMap (stay (rdOf H (restA p args)))) ++ (match res with | some _ => [(id, .row e t ys)] | none => [(id, .dead), (nid, .row e t ys)]) := fun res => by
  unfold mups; rw [rdIn_sub hsub]; cases res <;> rfl
 rw [hrdin res] at hK
 have hrow : H[id]? = some (.row e t xs) := by
  unfold rdOf at hrow
  cases hm : memN id ids with
  | false => simp [hm] at hrow
  | true => simpa [hm] using hrow
 generalize hrest : restA p args = rest at hS hK hidr
 rw [ho] at ha
 have hop : (Op.call c).operands.toList.map a.eval = a.eval f :: c.args.toList.map a.eval := by simp [Op.operands, Call.operands, hc]
 rw [hop] at ha
 obtain ⟨y, ys', e0, hf, hargs⟩ := ha.append_inv
 simp only [List.cons.injEq] at e0
 obtain ⟨rfl, rfl⟩ := e0
 obtain ⟨us, vs, hfe, hfs, hcs⟩ := hf
 cases hfs
 cases hcs
 obtain ⟨u, hu, hru⟩ := hargs.get hp
 simp only [rel, rel2, rel1, hrow] at hru
 obtain ⟨husl, hum⟩ := hru
 have hsh : F2 (rel w (okF w ok (fun j => j ∈ rest) H m) [] mz) ((args.set p .un).map (shown (rdOf H rest))) (c.args.toList.map a.eval) := by
  refine (hargs.setL (fun _ => trivial) p).mapL fun x u hx h => shown_rel hH (fun i hi => ?_) h
  rw [← hrest]
  exact List.mem_flatMap.2 ⟨x, hx, hi⟩
 obtain ⟨hH1, hst1⟩ := freeze_ok (fun j => j ∈ rest) hH (stay_at rest)
 have hH1id : (setH H (rest.flatMap (stay (rdOf H rest))))[id]? = some (.row e t xs) := by
  rcases stay_at (H := H) rest id with ⟨_, e⟩ | ⟨h, _⟩
  ·rw [e]; exact hrow
  ·exact absurd h hidr
 have hH1n : (setH H (rest.flatMap (stay (rdOf H rest))))[nid]? = some .hole := by
  rcases stay_at (H := H) rest nid with ⟨_, e⟩ | ⟨_, e⟩
  ·exact e.trans hhole
  ·rw [hhole] at e; exact e
 have hsep : ∀ k, mblk (m id) = some k → ¬ okF w ok (fun j => j ∈ rest) H m k := fun k hk h => hH1.sep id _ k hH1id rfl hk h
 obtain ⟨cs0, hf0, ho0⟩ := hH.hp id _ hrow
 have hcall := hS w0 w _ _ u hI hbw (fun k hk => hH1.lt k hk) hsh hu husl ⟨cs0, hf0.imp fun _ _ _ h => Rd_grow (fun k hk => .inl hk) h, by rw [hum]; exact ho0⟩ (by rw [hum]; exact hsep)
 have hrun : ∀ n w', (callFunc g (c.args.toList.map a.eval).toArray).run P w = .ok n w' → (execOp a.eval o).run P w = .ok n w' := by
  intro n w' hn
  rw [execOp.eq_def]
  have e9 : (c.args.toList.map a.eval).toArray = c.args.map a.eval := by apply Array.ext'; simp
  rw [e9] at hn
  have hfree : ∀ A : Array Value, A = c.args.map a.eval → (callFunc g A).run P w = .ok n w' := fun A hA => by rw [hA]; exact hn
  simp [ho, resolve, hc, Deferred.ofValue, hfe, invoke]
  refine hfree _ ?_
  simp
 unfold Oper.wp
 obtain ⟨hent, hcall⟩ := hcall
 rw [hrun _ _ hent, Oper.upon_enter]
 refine hcall.mono fun ex w' he => ?_
 obtain ⟨v, rfl, hB, hsz, hw, okR, x, cs1, g1, g2, g3, g4, g5, g6⟩ := he
 rw [hum] at hw g5
 -- what may be read behind the call
 have fin : ∀ (HA : List Row) (okA okB : Nat → Prop), HRel w okA w0.heap.size HA m → HStep w w ok okA H HA m m → HA[id]? = some (.row e t xs) → HA[nid]? = some .hole → (∀ k, okA k → okB k) → (∀ k, okB k → (okA k ∨ w.heap.size ≤ k) ∧ k < w'.heap.size) → (∀ k, okA k → ok k ∨ w0.heap.size ≤ k) →
   F2 (Rd w' okB t) ys cs1 → (∀ k, okB k → okR k) → (∀ av, res = some av → rel w' okB [] mz av v) → HA = setH H (bif flatT t then [] else rest.flatMap (stay (rdOf H rest))) →
   K (a.put o.dst v) w' := by
  intro HA okA okB hHA hstA hA1 hA2 k1 k2 k3 k4 k5 k6 hHAe
  have hbd : ∀ k, okB k → ok k ∨ w0.heap.size ≤ k := fun k hk => by
   rcases (k2 k hk).1 with h | h
   ·exact k3 k h
   ·exact .inr (Nat.le_trans hbw.size h)
  cases res with
  | some av =>
   obtain ⟨f1, rfl, f3⟩ := g6
   obtain ⟨q1, q2⟩ := mput_in hHA hA1 f1 hsz hw k1 k2 k4 (by rw [hum] at g4; exact g4) (fun k hk h => (g5 k (by rw [hum]; exact hk)).1 (k5 k h))
   refine hK v w' okB m hB ?_ ?_ ?_ hbd
   ·rw [setH_append, ← hHAe]; exact q1
   ·rw [setH_append, ← hHAe]; exact hstA.trans q2
   ·exact flat_rel hfl (k6 av rfl)
  | none =>
   obtain ⟨rfl, hsl⟩ := g6
   obtain ⟨q1, q2⟩ := mput_out hHA hA1 hA2 hsz hw k1 k2 k4 g4 (fun k hk => ⟨fun h => (g5 k hk).1 (k5 k h), (g5 k hk).2⟩) (fun k hk h => hHA.sep id _ k hA1 rfl hk h)
   refine hK x w' okB (updM m nid x) hB ?_ ?_ ?_ hbd
   ·rw [setH_append, ← hHAe]; exact q1
   ·rw [setH_append, ← hHAe]; exact hstA.trans q2
   ·have hn : (setH H ((bif flatT t then [] else rest.flatMap (stay (rdOf H rest))) ++ [(id, .dead), (nid, .row e t ys)]))[nid]? = some (.row e t ys) := by
     rw [setH_append, ← hHAe]
     show ((HA.set id .dead).set nid (.row e t ys))[nid]? = _
     have := get_lt hA2
     simp [this]
    show rel1 w' okB _ _ (.own nid) x
    simp only [rel1, hn]
    exact ⟨hsl, (updM_same m nid x).symm⟩
 cases hft : flatT t with
 | true =>
  refine fin H ok ok hH (HStep.refl w ok H m) hrow hhole (fun k hk => hk) (fun k hk => ⟨.inl hk, Nat.lt_of_lt_of_le (hH.lt k hk) hsz⟩) (fun k hk => .inl hk) (g3.imp fun _ _ _ h => Rd_flatT hft h) (fun k hk => g1 k (.inl hk)) (fun av hav => ?_) (by rw [hft]; rfl)
  subst hav
  exact flat_rel hfl g6.2.2
 | false =>
  refine fin _ _ okR hH1 hst1 hH1id hH1n g1 g2 (okF_bd hH) g3 (fun k hk => hk) (fun av hav => ?_) (by rw [hft]; rfl)
  subst hav
  exact g6.2.2
end
end Go.Proofs.YtlfdikofmfhefaaGreatDoor.Ev
