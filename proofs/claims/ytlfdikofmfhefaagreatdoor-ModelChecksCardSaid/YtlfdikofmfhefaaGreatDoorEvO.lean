/-
Regions: what the evaluator's run over the operations says, the machine does; first where the order is the text's.
Conditions: the callees keep their contracts; the table of types is the program's.
Regions whose order is open: what isn't ordered doesn't meet, so any order comes to the same.
Conditions: as before; the machine follows 'mixedOrders' (so that any order is a linear extension of the edges).
Regions whose order is open, done: any order comes to what the evaluator says.
Conditions: as before.
-/
import Derived.Test.YtlfdikofmfhefaaGreatDoorEvL
import Derived.Tactics
import Derived.Orders
set_option linter.unusedVariables false
set_option linter.unusedSimpArgs false
namespace Go.Proofs.YtlfdikofmfhefaaGreatDoor.Ev
open Go Go.RowKit
def CallsOk (P : Program) (E : Env) : Prop := ∀ g h, look g E.calls = some h → ∀ args κ r, h args κ = some r → ∃ av, κ av = some r ∧ CallSpec P E.inv g args av
def MCallsOk (P : Program) (E : Env) : Prop := ∀ g p h, look g E.mcalls = some (p, h) → ∀ args e t xs κ r, h args e t xs κ = some r → ∃ res ys, κ res ys = some r ∧ MSpec P E.inv g p args e t xs ys res
structure EOk (P : Program) (E : Env) : Prop where
  ty : TyOk P E
  calls : CallsOk P E
  keepI : ∀ w w' : World, E.inv w → Below w.heap.size w w' → E.inv w'
  mcalls : MCallsOk P E
structure Ev where
  rd : List Nat
  wr : List Nat
  val : AV
  ups : List (Nat × Row)
def Ev.recd (e : Ev) : Rec := ⟨e.rd, e.wr⟩
def upd (σ : St) (o : Oper) (e : Ev) : St := putT { σ with hp := setH σ.hp e.ups } o.dst e.val
def ExecAt (P : Program) (E : Env) (o : Oper) (nid : Nat) (σ : St) (e : Ev) : Prop :=
 ∃ as, getOs σ o.op.operands.toList = some as ∧ e.rd = idsO o.op as ∧ e.wr = fsts e.ups ∧ inIds e.rd nid (newsO o) (fsts e.ups) = true ∧
  ((isCall o.op = false ∧ stepW E o.op nid as (rdOf σ.hp e.rd) = some (true, e.val, e.ups)) ∨
   (∃ c f g fs cs args av, o.op = .call c ∧ c.callee = .value f ∧ as = .fn g fs cs :: args ∧ CallSpec P E.inv g ((fs ++ args ++ cs).map (shown (rdOf σ.hp e.rd))) av ∧ (rowsA av).length ≤ most ∧
    e.val = adA nid av ∧ e.ups = (bif flat av then [] else e.rd.flatMap (stay (rdOf σ.hp e.rd))) ++ numbered nid (rowsA av)) ∨
   ∃ c f g p id et t xs ys args res, o.op = .call c ∧ c.callee = .value f ∧ as = .fn g [] [] :: args ∧ args[p]? = some (.own id) ∧ rdOf σ.hp e.rd id = some (.row et t xs) ∧ memN id (restA p args) = false ∧ flatO res = true ∧
    MSpec P E.inv g p ((args.set p .un).map (shown (rdIn (rdOf σ.hp e.rd) (restA p args)))) et t xs ys res ∧ e.val = mval nid res ∧ e.ups = mups t (rdOf σ.hp e.rd) (restA p args) id nid et res ys)
def Asked (all : List Oper) (o : Oper) (σ : St) (b : Bool) : Prop := match o.guard with
 | none => b = true
 | some (g, want) => ∃ (s : Nat), guardS all g = some s ∧ ((∃ x : Bool, σ.tm[s]? = some (.v .bool x) ∧ b = (x == want)) ∨ (σ.tm[s]? = some (.tup []) ∧ b = false))
def EvAt (P : Program) (E : Env) (all : List Oper) (o : Oper) (nid : Nat) (σ : St) (e : Ev) : Prop :=
 (Asked all o σ true ∧ ExecAt P E o nid σ e) ∨ (Asked all o σ false ∧ e = ⟨[], [], .tup [], []⟩)
def Trace (P : Program) (E : Env) (all : List Oper) : List Oper → Nat → St → List Ev → St → Prop
 | [], _, σ, [], σ' => σ = σ'
 | o :: r, nid, σ, e :: es, σ' => EvAt P E all o nid σ e ∧ Trace P E all r (nid + newsO o) (upd σ o e) es σ'
 | _, _, _, _, _ => False
theorem fsts_append (a b : List (Nat × Row)) : fsts (a ++ b) = fsts a ++ fsts b := by
 induction a with
 | nil => rfl
 | cons x a ih => obtain ⟨i, r⟩ := x; simp only [List.cons_append, fsts, ih]
theorem inIds_iff {l : List Nat} {nid n : Nat} : ∀ {ids : List Nat}, inIds l nid n ids = true ↔ ∀ i ∈ ids, i ∈ l ∨ (nid ≤ i ∧ i < nid + n)
 | [] => by simp [inIds]
 | i :: r => by
  simp only [inIds, Bool.and_eq_true, Bool.or_eq_true, memN_iff, Nat.ble_eq, Nat.blt_eq, inIds_iff (ids := r), List.mem_cons, forall_eq_or_imp]
section
variable {P : Program} {E : Env} {all : List Oper} {o : Oper} {a : Act} {w w0 : World} {ok o0 : Nat → Prop} {m : Nat → Value} {σ : St} {nid : Nat}
theorem idsO_call {o : Op} {c : Call} {as : List AV} (h : o = .call c) : idsO o as = as.flatMap idsA := by rw [h]; rfl
theorem idsO_sub {o : Op} {as : List AV} {i : Nat} (h : i ∈ idsO o as) : i ∈ as.flatMap idsA := by
 unfold idsO at h
 split at h
 ·cases h
 ·cases h
 ·exact h
theorem stepW_idsO {E : Env} {o : Op} {nid : Nat} {as : List AV} {H : List Row} : stepW E o nid as (rdOf H (idsO o as)) = stepW E o nid as (rdOf H (as.flatMap idsA)) := by
 unfold idsO
 split
 ·obtain _ | ⟨x, _ | ⟨y, r⟩⟩ := as <;> rfl
 ·obtain _ | ⟨x, _ | ⟨y, r⟩⟩ := as <;> rfl
 ·rfl
theorem execW_ev {κ : Rec → St → Option AV} {r : AV} (hE : EOk P E) (h : execW E o nid σ κ = some r) : ∃ e, ExecAt P E o nid σ e ∧ κ e.recd (upd σ o e) = some r := by
 unfold execW at h
 split at h
 ·simp at h
 ·rename_i as has
  cases hc : isCall o.op with
  | false =>
   simp only [hc, cond_false] at h
   split at h
   ·rename_i c x ups hs
    cases hi : inIds (idsO o.op as) nid (newsO o) (fsts ups) with
    | false => simp [hi] at h
    | true =>
     cases c with
     | false => simp [hi] at h
     | true =>
      simp only [hi, cond_true] at h
      exact ⟨⟨idsO o.op as, fsts ups, x, ups⟩, ⟨as, has, rfl, rfl, hi, .inl ⟨hc, hs⟩⟩, h⟩
   ·simp at h
  | true =>
   simp only [hc, cond_true] at h
   split at h
   case h_2 => simp at h
   rename_i g fs cs args
   have hcc : ∃ c fo, o.op = .call c ∧ c.callee = .value fo := by
    unfold isCall at hc
    split at hc
    ·rename_i c hop
     split at hc
     ·rename_i fo hfo; exact ⟨c, fo, hop, hfo⟩
     ·simp at hc
    ·simp at hc
   have hn : newsO o = most := by unfold newsO; rw [hc]; rfl
   split at h
   ·-- a call that writes
    rename_i mh hmh
    obtain ⟨p, mf⟩ := mh
    split at h
    case h_2 => simp at h
    unfold mexec at h
    simp only at h
    split at h
    case h_2 => simp at h
    rename_i id hp
    split at h
    case h_2 => simp at h
    rename_i et t xs hrow
    cases hnr : memN id (restA p args) with
    | true => simp [hnr] at h
    | false =>
     simp only [hnr, cond_false] at h
     obtain ⟨res, ys, h1, h2⟩ := hE.mcalls g p mf hmh _ _ _ _ _ _ h
     cases hfl : flatO res with
     | false => simp [hfl] at h1
     | true =>
      simp only [hfl, cond_true] at h1
      obtain ⟨c, fo, hop, hfo⟩ := hcc
      generalize hids : (AV.fn g [] [] :: args).flatMap idsA = ids at *
      have hsub : ∀ i ∈ restA p args, i ∈ ids := by
       intro i hi
       rw [← hids]
       obtain ⟨y, hy, hi⟩ := List.mem_flatMap.1 (hi : i ∈ (args.set p .un).flatMap idsA)
       rcases List.mem_or_eq_of_mem_set hy with h | rfl
       ·exact List.mem_flatMap.2 ⟨y, List.mem_cons_of_mem _ h, hi⟩
       ·simp [idsA, ids2, ids1] at hi
      have hid : id ∈ ids := by
       rw [← hids]
       exact List.mem_flatMap.2 ⟨.own id, List.mem_cons_of_mem _ (List.mem_of_getElem? hp), by simp [idsA, ids2, ids1]⟩
      refine ⟨⟨ids, fsts (mups t (rdOf σ.hp ids) (restA p args) id nid et res ys), mval nid res, mups t (rdOf σ.hp ids) (restA p args) id nid et res ys⟩,
       ⟨_, has, hids.symm.trans (idsO_call hop).symm, rfl, ?_, .inr (.inr ⟨c, fo, g, p, id, et, t, xs, ys, args, res, hop, hfo, rfl, hp, hrow, hnr, hfl, h2, rfl, rfl⟩)⟩, h1⟩
      rw [inIds_iff]
      intro i hi
      unfold mups at hi
      rw [fsts_append, List.mem_append] at hi
      rcases hi with hi | hi
      ·left
       cases hft : flatT t with
       | true => simp [hft, fsts] at hi
       | false =>
        simp only [hft, cond_false] at hi
        obtain ⟨q, hq⟩ := fsts_mem.1 hi
        obtain ⟨j, hj, hq⟩ := List.mem_flatMap.1 hq
        rw [(stay_mem.1 hq).1]
        exact hsub j hj
      ·cases res with
       | some av =>
        simp only [fsts, List.mem_singleton] at hi
        exact .inl (hi ▸ hid)
       | none =>
        simp only [fsts, List.mem_cons, List.not_mem_nil, or_false] at hi
        rcases hi with rfl | rfl
        ·exact .inl hid
        ·right; rw [hn]; unfold most; omega
   split at h
   case h_2 => simp at h
   rename_i f hf
   obtain ⟨av, h1, h2⟩ := hE.calls g f hf _ _ _ h
   cases hl : Nat.ble (rowsA av).length most with
   | false => simp [hl] at h1
   | true =>
    have hl' := Nat.le_of_ble_eq_true hl
    simp only [hl, cond_true] at h1
    obtain ⟨c, fo, hop, hfo⟩ := hcc
    generalize hids : (AV.fn g fs cs :: args).flatMap idsA = ids at *
    refine ⟨⟨ids, fsts ((bif flat av then [] else ids.flatMap (stay (rdOf σ.hp ids))) ++ numbered nid (rowsA av)), adA nid av, (bif flat av then [] else ids.flatMap (stay (rdOf σ.hp ids))) ++ numbered nid (rowsA av)⟩,
     ⟨_, has, hids.symm.trans (idsO_call hop).symm, rfl, ?_, .inr (.inl ⟨c, fo, g, fs, cs, args, av, hop, hfo, rfl, h2, hl', rfl, rfl⟩)⟩, ?_⟩
    ·rw [inIds_iff]
     intro i hi
     rw [fsts_append, List.mem_append] at hi
     rcases hi with hi | hi
     ·left
      cases hfl : flat av with
      | true => simp [hfl, fsts] at hi
      | false =>
       simp only [hfl, cond_false] at hi
       obtain ⟨q, hq⟩ := fsts_mem.1 hi
       obtain ⟨j, hj, hq⟩ := List.mem_flatMap.1 hq
       rw [(stay_mem.1 hq).1]
       exact hj
     ·right
      have := numbered_fsts.1 hi
      have hn : newsO o = most := by unfold newsO; rw [hc]; rfl
      rw [hn]
      omega
    ·unfold Ev.recd upd
     rw [fsts_append]
     cases hfl : flat av with
     | true => simpa [hfl, fsts] using h1
     | false => simpa [hfl] using h1
theorem set_self {α : Type} : ∀ {l : List α} {i : Nat} {x : α}, l[i]? = some x → l.set i x = l
 | [], _, _, h => by simp at h
 | y :: l, 0, x, h => by simp only [List.getElem?_cons_zero, Option.some.injEq] at h; rw [h]; rfl
 | y :: l, i + 1, x, h => by simp only [List.getElem?_cons_succ] at h; rw [List.set_cons_succ, set_self h]
theorem setB_self {s : Nat} {x : Bool} (h : σ.tm[s]? = some (.v .bool x)) : setB σ s x = σ := by
 unfold setB
 rw [set_self h]
theorem runOps_trace (hE : EOk P E) : ∀ {ops : List Oper} {nid : Nat} {tr : List Rec} {σ : St} {κ : List Rec → St → Option AV} {r : AV}, runOps E all ops nid tr σ κ = some r →
  ∃ es σ', Trace P E all ops nid σ es σ' ∧ κ (tr ++ es.map Ev.recd) σ' = some r
 | [], nid, tr, σ, κ, r, h => ⟨[], σ, rfl, by simpa [runOps] using h⟩
 | o :: ops, nid, tr, σ, κ, r, h => by
  have run : Asked all o σ true → execW E o nid σ (fun c σ' => runOps E all ops (nid + newsO o) (tr ++ [c]) σ' κ) = some r → ∃ es σ', Trace P E all (o :: ops) nid σ es σ' ∧ κ (tr ++ es.map Ev.recd) σ' = some r := by
   intro hA h
   obtain ⟨e, he, h⟩ := execW_ev hE h
   obtain ⟨es, σ', h1, h2⟩ := runOps_trace hE h
   exact ⟨e :: es, σ', ⟨.inl ⟨hA, he⟩, h1⟩, by simpa using h2⟩
  have skip : Asked all o σ false → runOps E all ops (nid + newsO o) (tr ++ [⟨[], []⟩]) (putT σ o.dst (.tup [])) κ = some r → ∃ es σ', Trace P E all (o :: ops) nid σ es σ' ∧ κ (tr ++ es.map Ev.recd) σ' = some r := by
   intro hA h
   obtain ⟨es, σ', h1, h2⟩ := runOps_trace hE h
   exact ⟨⟨[], [], .tup [], []⟩ :: es, σ', ⟨.inr ⟨hA, rfl⟩, h1⟩, by simpa [Ev.recd] using h2⟩
  simp only [runOps] at h
  split at h
  ·rename_i hg
   exact run (by simp [Asked, hg]) h
  ·rename_i g b hg
   split at h
   case h_2 => simp at h
   rename_i s hs
   split at h
   rotate_left
   ·rename_i hx
    exact skip (by unfold Asked; rw [hg]; exact ⟨s, hs, .inr ⟨hx, rfl⟩⟩) h
   ·simp at h
   rename_i x hx
   have asked : ∀ y : Bool, y = (@BEq.beq Bool _ x b) → Asked all o σ y := fun y hy => by
    unfold Asked
    rw [hg]
    exact ⟨s, hs, .inl ⟨x, hx, hy⟩⟩
   have hsb := setB_self hx
   cases x <;> simp only [runOps.onB, cond_true, cond_false] at h <;> rw [hsb] at h
   ·cases b
    ·exact run (asked true rfl) h
    ·exact skip (asked false rfl) h
   ·cases b
    ·exact skip (asked false rfl) h
    ·exact run (asked true rfl) h
theorem constW_rel {v : Value} {x : AV} {H : List Row} (h : constW v = some x) : rel w ok H m x v := by
 unfold constW at h
 split at h <;> simp only [Option.some.injEq, reduceCtorEq] at h <;> subst h
 ·exact mk_bool
 ·exact mk_int
 ·exact mk_str
 ·rfl
theorem getO_rel {x : Operand} {v : AV} (hR : F2 (rel w ok σ.hp m) σ.tm a.tmps.toList) (h : getO σ x = some v) : rel w ok σ.hp m v (a.eval x) := by
 cases x with
 | tmp t =>
  obtain ⟨u, hu, hr⟩ := hR.get (h : σ.tm[t]? = some v)
  rw [Array.getElem?_toList] at hu
  have : a.eval (.tmp t) = u := by simp [Act.eval, Array.getD_eq_getD_getElem?, hu]
  rw [this]; exact hr
 | const c => exact constW_rel h
 | func f =>
  simp only [getO, Option.some.injEq] at h
  subst h
  exact ⟨[], [], rfl, .nil, .nil⟩
 | global g => simp [getO] at h
theorem getOs_rel (hR : F2 (rel w ok σ.hp m) σ.tm a.tmps.toList) : ∀ {xs : List Operand} {vs : List AV}, getOs σ xs = some vs → F2 (rel w ok σ.hp m) vs (xs.map a.eval)
 | [], vs, h => by simp only [getOs, Option.some.injEq] at h; subst h; exact .nil
 | x :: xs, vs, h => by
  simp only [getOs] at h
  split at h
  case h_2 => simp at h
  rename_i v hv
  split at h
  case h_2 => simp at h
  rename_i vs' hvs
  simp only [Option.some.injEq] at h
  subst h
  exact .cons (getO_rel hR hv) (getOs_rel hR hvs)
theorem ids1_hole {H : List Row} {x : AV} {u : Value} (h : rel1 w ok H m x u) : ∀ i ∈ ids1 x, H[i]? ≠ some .hole := by
 intro i hi hq
 cases x with
 | own j => rw [List.mem_singleton.1 (hi : i ∈ [j])] at hq; simp only [rel1, hq] at h; exact h.2
 | pb j _ => rw [List.mem_singleton.1 (hi : i ∈ [j])] at hq; simp only [rel1, hq] at h; exact h.2
 | pe j _ _ => rw [List.mem_singleton.1 (hi : i ∈ [j])] at hq; simp only [rel1, hq] at h; exact h.2
 | _ => simp [ids1] at hi
theorem F2.mem {α β : Type} {r : α → β → Prop} : ∀ {xs : List α} {ys : List β} {x : α}, F2 r xs ys → x ∈ xs → ∃ y, r x y
 | _, _, _, .nil, h => by simp at h
 | _, _, x, @F2.cons _ _ _ _ y _ _ h t, hm => by
  rcases List.mem_cons.1 hm with rfl | hm
  ·exact ⟨y, h⟩
  ·exact F2.mem t hm
theorem ids2_hole {H : List Row} {x : AV} {u : Value} (h : rel2 w ok H m x u) : ∀ i ∈ ids2 x, H[i]? ≠ some .hole := by
 have key : rel1 w ok H m x u → ∀ i ∈ ids1 x, H[i]? ≠ some .hole := ids1_hole
 cases x with
 | agg cs =>
  obtain ⟨us, rfl, hf⟩ := h
  intro i hi
  obtain ⟨c, hc, hi⟩ := List.mem_flatMap.1 (hi : i ∈ cs.flatMap ids1)
  obtain ⟨y, hy⟩ := hf.mem hc
  exact ids1_hole hy i hi
 | _ => exact key h
theorem idsA_hole {H : List Row} {x : AV} {u : Value} (h : rel w ok H m x u) : ∀ i ∈ idsA x, H[i]? ≠ some .hole := by
 have key : rel2 w ok H m x u → ∀ i ∈ ids2 x, H[i]? ≠ some .hole := ids2_hole
 cases x with
 | tup cs =>
  obtain ⟨us, rfl, hf⟩ := h
  intro i hi
  obtain ⟨c, hc, hi⟩ := List.mem_flatMap.1 (hi : i ∈ cs.flatMap ids2)
  obtain ⟨y, hy⟩ := hf.mem hc
  exact ids2_hole hy i hi
 | fn g fs cs =>
  obtain ⟨us, vs, rfl, h1, h2⟩ := h
  intro i hi
  rcases List.mem_append.1 (hi : i ∈ fs.flatMap ids2 ++ cs.flatMap ids1) with hi | hi
  ·obtain ⟨c, hc, hi⟩ := List.mem_flatMap.1 hi
   obtain ⟨y, hy⟩ := h1.mem hc
   exact ids2_hole hy i hi
  ·obtain ⟨c, hc, hi⟩ := List.mem_flatMap.1 hi
   obtain ⟨y, hy⟩ := h2.mem hc
   exact ids1_hole hy i hi
 | agg cs => exact key h
 | _ => exact key h
def NextOp (P : Program) (ops : Array Oper) (Q : Exit → Act → World → Prop) (o : Oper) (K : Act → World → Prop) (a : Act) (w : World) : Prop :=
 if Region.wanted o (yielded ops a.tmps) then o.wp P a w K Q ∨ (o.asks P a w ∧ LetsOut Q) else K (a.put o.dst undef) w
theorem put_tmps (a : Act) (d : Option Tmp) (v : Value) : (a.put d v).tmps.toList = (match d with | some d => a.tmps.toList.set d v | none => a.tmps.toList) ∧ (a.put d v).defers = a.defers := by
 cases d with
 | none => exact ⟨rfl, rfl⟩
 | some d => exact ⟨by simp [Act.put], rfl⟩
theorem ev_next (hI : E.inv w0) {ops : Array Oper} {Q : Exit → Act → World → Prop} {e : Ev} {K : Act → World → Prop} (hE : EOk P E) (hall : all = ops.toList) (hR : Rel w0 o0 σ a w ok m) (hh : ∀ j, j < newsO o → σ.hp[nid + j]? = some .hole)
  (he : EvAt P E all o nid σ e) (hK : ∀ a' w' ok' m', Rel w0 o0 (upd σ o e) a' w' ok' m' → K a' w') : NextOp P ops Q o K a w := by
 have hwant : ∀ b, Asked all o σ b → Region.wanted o (yielded ops a.tmps) = b := by
  intro b hb
  unfold Asked at hb
  unfold Region.wanted
  cases hg : o.guard with
  | none => rw [hg] at hb; exact hb.symm
  | some gw =>
   obtain ⟨g, want⟩ := gw
   rw [hg] at hb
   obtain ⟨s, hs, hb⟩ := hb
   have hy : ∀ u, a.tmps[s]? = some u → yielded ops a.tmps g = (match u with | .bool b => some b | _ => none) := by
    intro u hu
    unfold guardS at hs
    subst hall
    rw [Array.getElem?_toList] at hs
    unfold yielded
    cases hq : ops[g]? with
    | none => simp [hq] at hs
    | some o' =>
     simp only [hq] at hs
     simp only [Option.bind_some, hs, hu]
     cases u <;> rfl
   rcases hb with ⟨x, hx, rfl⟩ | ⟨hx, rfl⟩
   ·obtain ⟨u, hu, hr⟩ := hR.tm.get hx
    rw [Array.getElem?_toList] at hu
    rw [rd_bool hr] at hu
    simp only [hy _ hu]
    cases x <;> cases want <;> rfl
   ·obtain ⟨u, hu, hr⟩ := hR.tm.get hx
    rw [Array.getElem?_toList] at hu
    obtain ⟨us, rfl, hn⟩ := hr
    simp only [hy _ hu]
    cases want <;> rfl
 unfold NextOp
 rcases he with ⟨hA, as, has, hrd, hwr, hin, hx⟩ | ⟨hA, rfl⟩
 ·rw [hwant true hA]
  simp only [if_true]
  left
  have ha := getOs_rel hR.tm has
  have does : Does P o a w ok w0.heap.size σ.hp m e.val e.ups := by
   rcases hx with ⟨hc, hs⟩ | ⟨c, f, g, fs, cs, args, av, hop, hcf, rfl, hS, hl, hv, hu⟩ | ⟨c, f, g, p, id, et, t, xs, ys, args, res, hop, hcf, rfl, hp, hrow, hnr, hfl, hS, hv, hu⟩
   ·rw [hrd, stepW_idsO] at hs
    refine (step_sound hE.ty hR.hr hR.bw.size (fun hn => ?_) ha hs).does
    have := hh 0 (by unfold newsO; rw [hc, cond_false, hn]; omega)
    simpa using this
   ·rw [hrd, idsO_call hop] at hS hu
    rw [hv, hu]
    refine call_does (hE.keepI w0 w hI hR.bw) hR.hr hR.bw.size hop hcf ha hS fun j hj => hh j ?_
    have : isCall o.op = true := by unfold isCall; rw [hop]; simp [hcf]
    unfold newsO
    rw [this]
    simp only [cond_true]
    omega
   ·rw [hrd, idsO_call hop] at hS hu hrow
    rw [hv, hu]
    refine mcall_does hI hR.bw hR.hr hop hcf ha rfl hp hrow hnr hfl hS ?_
    have h1 : isCall o.op = true := by unfold isCall; rw [hop]; simp [hcf]
    have := hh 0 (by unfold newsO most; rw [h1]; simp)
    simpa using this
  refine does K Q fun u w' ok' m' hB hH hst hr hbd => hK _ w' ok' m' ?_
  have htm : F2 (rel w' ok' (setH σ.hp e.ups) m') σ.tm a.tmps.toList := hR.tm.imp fun x y _ h => rel_step hst h
  obtain ⟨e1, e2⟩ := put_tmps a o.dst u
  refine ⟨?_, by rw [e2]; exact hR.df, ?_, hR.bw.trans hB, fun k hk => (hbd k hk).elim (hR.bd k) .inr⟩
  ·rw [e1]
   unfold upd putT
   cases o.dst with
   | none => exact htm
   | some d => exact htm.set d hr
  ·unfold upd putT
   cases o.dst <;> exact hH
 ·rw [hwant false hA]
  simp only [Bool.false_eq_true, if_false]
  refine hK _ w ok m ?_
  obtain ⟨e1, e2⟩ := put_tmps a o.dst undef
  refine ⟨?_, by rw [e2]; exact hR.df, ?_, hR.bw, hR.bd⟩
  ·rw [e1]
   unfold upd putT
   cases o.dst with
   | none => exact hR.tm
   | some d => exact hR.tm.set d ⟨[], rfl, .nil⟩
  ·unfold upd putT
   cases o.dst <;> exact hR.hr
theorem upd_hp (σ : St) (o : Oper) (e : Ev) : (upd σ o e).hp = setH σ.hp e.ups := by
 unfold upd putT
 cases o.dst <;> rfl
theorem ev_holes {e : Ev} (hR : Rel w0 o0 σ a w ok m) (he : EvAt P E all o nid σ e) {i : Nat} (hi : σ.hp[i]? = some .hole) (hn : ¬ (nid ≤ i ∧ i < nid + newsO o)) : (upd σ o e).hp[i]? = some .hole := by
 rw [upd_hp]
 rcases he with ⟨_, as, has, hrd, _, hin, _⟩ | ⟨_, rfl⟩
 ·rw [setH_other, hi]
  intro hm
  rcases inIds_iff.1 hin i hm with h | h
  ·rw [hrd] at h
   obtain ⟨x, hx, hix⟩ := List.mem_flatMap.1 (idsO_sub h)
   obtain ⟨u, hu⟩ := (getOs_rel hR.tm has).mem hx
   exact idsA_hole hu i hix hi
  ·exact hn h
 ·exact hi
theorem trace_list (hI : E.inv w0) {ops : Array Oper} {Q : Exit → Act → World → Prop} (hE : EOk P E) (hall : all = ops.toList) : ∀ {l : List Oper} {nid : Nat} {σ : St} {es : List Ev} {σ' : St} {a : Act} {w : World} {ok : Nat → Prop} {m : Nat → Value},
  Trace P E all l nid σ es σ' → Rel w0 o0 σ a w ok m → (∀ j, j < newsAll l → σ.hp[nid + j]? = some .hole) → (∀ a' w' ok' m', Rel w0 o0 σ' a' w' ok' m' → Q .normal a' w') → wpList P ops Q l a w
 | [], _, σ, [], σ', a, w, ok, m, ht, hR, _, hQ => by
  have ht : σ = σ' := ht
  subst ht
  exact hQ _ _ _ _ hR
 | o :: l, nid, σ, e :: es, σ', a, w, ok, m, ⟨he, ht⟩, hR, hh, hQ => by
  -- the place of what is still to come stays free
  have hh2 : ∀ j, j < newsAll l → (upd σ o e).hp[nid + newsO o + j]? = some .hole := fun j hj => ev_holes hR he (by rw [Nat.add_assoc]; exact hh _ (by simp only [newsAll]; omega)) (by omega)
  exact ev_next hI (Q := Q) (K := wpList P ops Q l) hE hall hR (fun j hj => hh j (by simp only [newsAll]; omega)) he fun a' w' ok' m' hR' => trace_list hI hE hall ht hR' hh2 hQ
end
end Go.Proofs.YtlfdikofmfhefaaGreatDoor.Ev
set_option linter.unusedVariables false
set_option linter.unusedSimpArgs false
namespace Go.Proofs.YtlfdikofmfhefaaGreatDoor.Ev
open Go Go.RowKit
def foldB (b : Nat → Bool) : List (Oper × Ev) → Nat → St → St
 | [], _, σ => σ
 | (o, e) :: r, i, σ => foldB b r (i + 1) (bif b i then upd σ o e else σ)
theorem upd_tm (σ : St) (o : Oper) (e : Ev) : (upd σ o e).tm = match o.dst with | some d => σ.tm.set d e.val | none => σ.tm := by
 unfold upd putT
 cases o.dst <;> rfl
theorem upd_tlen (σ : St) (o : Oper) (e : Ev) : (upd σ o e).tm.length = σ.tm.length := by
 rw [upd_tm]; cases o.dst <;> simp
theorem upd_hlen (σ : St) (o : Oper) (e : Ev) : (upd σ o e).hp.length = σ.hp.length := by
 rw [upd_hp, setH_length]
theorem setH_agree {i : Nat} : ∀ {ups : List (Nat × Row)} {H H' : List Row}, H.length = H'.length → H[i]? = H'[i]? → (setH H ups)[i]? = (setH H' ups)[i]?
 | [], _, _, _, h => h
 | (j, r) :: ups, H, H', hl, h => by
  simp only [setH]
  refine setH_agree (by simp [hl]) ?_
  by_cases hj : j = i
  ·subst hj
   by_cases hlt : j < H.length
   ·simp [hlt, hl ▸ hlt]
   ·rw [List.getElem?_eq_none (by simp; omega), List.getElem?_eq_none (by simp; omega)]
  ·rw [List.getElem?_set_ne hj, List.getElem?_set_ne hj]; exact h
theorem upd_agreeT {σ σ' : St} {s : Nat} (o : Oper) (e : Ev) (hl : σ.tm.length = σ'.tm.length) (h : σ.tm[s]? = σ'.tm[s]?) : (upd σ o e).tm[s]? = (upd σ' o e).tm[s]? := by
 rw [upd_tm, upd_tm]
 cases o.dst with
 | none => exact h
 | some d =>
  simp only
  by_cases hj : d = s
  ·subst hj
   rcases Nat.lt_or_ge d σ.tm.length with hlt | hlt
   ·simp [hlt, hl ▸ hlt]
   ·rw [List.getElem?_eq_none (l := σ.tm.set d e.val) (by rw [List.length_set]; exact hlt), List.getElem?_eq_none (l := σ'.tm.set d e.val) (by rw [List.length_set, ← hl]; exact hlt)]
  ·rw [List.getElem?_set_ne hj, List.getElem?_set_ne hj]; exact h
theorem upd_offT {σ : St} {s : Nat} {o : Oper} (e : Ev) (h : o.dst ≠ some s) : (upd σ o e).tm[s]? = σ.tm[s]? := by
 rw [upd_tm]
 cases hd : o.dst with
 | none => rfl
 | some d => exact List.getElem?_set_ne fun e => h (by rw [hd, e])
theorem upd_offH {σ : St} {i : Nat} {o : Oper} {e : Ev} (h : i ∉ fsts e.ups) : (upd σ o e).hp[i]? = σ.hp[i]? := by
 rw [upd_hp]; exact setH_other _ _ h
theorem foldB_agreeT {b b' : Nat → Bool} {s : Nat} : ∀ {l : List (Oper × Ev)} {i : Nat} {σ σ' : St}, σ.tm.length = σ'.tm.length → σ.tm[s]? = σ'.tm[s]? →
  (∀ k o e, l[k]? = some (o, e) → b (i + k) = b' (i + k) ∨ o.dst ≠ some s) → (foldB b l i σ).tm[s]? = (foldB b' l i σ').tm[s]?
 | [], _, _, _, _, h, _ => h
 | (o, e) :: l, i, σ, σ', hl, h, hd => by
  simp only [foldB]
  have hd' : ∀ k o e, l[k]? = some (o, e) → b (i + 1 + k) = b' (i + 1 + k) ∨ o.dst ≠ some s := fun k o e hk => by
   have := hd (k + 1) o e (by simpa using hk)
   rw [show i + 1 + k = i + (k + 1) by omega]; exact this
  refine foldB_agreeT ?_ ?_ hd'
  ·cases b i <;> cases b' i <;> simp [upd_tlen, hl]
  ·rcases hd 0 o e rfl with hb | hb
   ·rw [Nat.add_zero] at hb
    rw [hb]
    cases b' i
    ·exact h
    ·exact upd_agreeT o e hl h
   ·cases b i <;> cases b' i <;> simp only [cond_true, cond_false]
    ·exact h
    ·rw [upd_offT e hb]; exact h
    ·rw [upd_offT e hb]; exact h
    ·exact upd_agreeT o e hl h
theorem upd_agreeH {σ σ' : St} {s : Nat} (o : Oper) (e : Ev) (hl : σ.hp.length = σ'.hp.length) (h : σ.hp[s]? = σ'.hp[s]?) : (upd σ o e).hp[s]? = (upd σ' o e).hp[s]? := by
 rw [upd_hp, upd_hp]; exact setH_agree hl h
theorem foldB_agreeH {b b' : Nat → Bool} {s : Nat} : ∀ {l : List (Oper × Ev)} {i : Nat} {σ σ' : St}, σ.hp.length = σ'.hp.length → σ.hp[s]? = σ'.hp[s]? →
  (∀ k o e, l[k]? = some (o, e) → b (i + k) = b' (i + k) ∨ s ∉ fsts e.ups) → (foldB b l i σ).hp[s]? = (foldB b' l i σ').hp[s]?
 | [], _, _, _, _, h, _ => h
 | (o, e) :: l, i, σ, σ', hl, h, hd => by
  simp only [foldB]
  have hd' : ∀ k o e, l[k]? = some (o, e) → b (i + 1 + k) = b' (i + 1 + k) ∨ s ∉ fsts e.ups := fun k o e hk => by
   have := hd (k + 1) o e (by simpa using hk)
   rw [show i + 1 + k = i + (k + 1) by omega]; exact this
  refine foldB_agreeH ?_ ?_ hd'
  ·cases b i <;> cases b' i <;> simp [upd_hlen, hl]
  ·rcases hd 0 o e rfl with hb | hb
   ·rw [Nat.add_zero] at hb
    rw [hb]
    cases b' i
    ·exact h
    ·exact upd_agreeH o e hl h
   ·cases b i <;> cases b' i <;> simp only [cond_true, cond_false]
    ·exact h
    ·rw [upd_offH hb]; exact h
    ·rw [upd_offH hb]; exact h
    ·exact upd_agreeH o e hl h
theorem foldB_none {b : Nat → Bool} : ∀ {l : List (Oper × Ev)} {i : Nat} {σ : St}, (∀ k, i ≤ k → b k = false) → foldB b l i σ = σ
 | [], _, _, _ => rfl
 | (o, e) :: l, i, σ, h => by
  simp only [foldB, h i (Nat.le_refl _), cond_false]
  exact foldB_none fun k hk => h k (by omega)
theorem foldB_congr {b b' : Nat → Bool} : ∀ {l : List (Oper × Ev)} {i : Nat} {σ : St}, (∀ k, k < l.length → b (i + k) = b' (i + k)) → foldB b l i σ = foldB b' l i σ
 | [], _, _, _ => rfl
 | (o, e) :: l, i, σ, h => by
  simp only [foldB]
  have h0 := h 0 (by simp)
  rw [Nat.add_zero] at h0
  rw [h0]
  exact foldB_congr fun k hk => by
   have := h (k + 1) (by simp; omega)
   rw [show i + 1 + k = i + (k + 1) by omega]; exact this
theorem setH_comm1 {i : Nat} {r : Row} : ∀ {ups : List (Nat × Row)} {H : List Row}, i ∉ fsts ups → setH (H.set i r) ups = (setH H ups).set i r
 | [], _, _ => rfl
 | (j, q) :: ups, H, h => by
  simp only [fsts, List.mem_cons, not_or] at h
  simp only [setH]
  rw [List.set_comm _ _ h.1, setH_comm1 h.2]
theorem setH_comm : ∀ {u v : List (Nat × Row)} {H : List Row}, (∀ i ∈ fsts u, i ∉ fsts v) → setH (setH H u) v = setH (setH H v) u
 | [], _, _, _ => rfl
 | (i, r) :: u, v, H, h => by
  simp only [setH]
  rw [setH_comm fun j hj => h j (by simp [fsts, hj])]
  rw [setH_comm1 (h i (by simp [fsts]))]
theorem upd_comm {σ : St} {o o' : Oper} {e e' : Ev} (h1 : ∀ d, o.dst = some d → o'.dst ≠ some d) (h2 : ∀ i ∈ fsts e.ups, i ∉ fsts e'.ups) : upd (upd σ o e) o' e' = upd (upd σ o' e') o e := by
 have ext : ∀ σ σ' : St, σ.tm = σ'.tm → σ.hp = σ'.hp → σ = σ' := fun σ σ' h h' => by cases σ; cases σ'; cases h; cases h'; rfl
 refine ext _ _ ?_ ?_
 ·rw [upd_tm, upd_tm, upd_tm, upd_tm]
  cases hd : o.dst with
  | none => rfl
  | some d =>
   cases hd' : o'.dst with
   | none => rfl
   | some d' =>
    refine List.set_comm _ _ fun e => h1 d hd ?_
    rw [hd', e]
 ·rw [upd_hp, upd_hp, upd_hp, upd_hp]
  exact setH_comm h2
theorem foldB_push {b : Nat → Bool} {o : Oper} {e : Ev} : ∀ {l : List (Oper × Ev)} {i : Nat} {σ : St}, (∀ k o' e', l[k]? = some (o', e') → b (i + k) = true → (∀ d, o'.dst = some d → o.dst ≠ some d) ∧ ∀ j ∈ fsts e'.ups, j ∉ fsts e.ups) →
  upd (foldB b l i σ) o e = foldB b l i (upd σ o e)
 | [], _, _, _ => rfl
 | (o', e') :: l, i, σ, h => by
  simp only [foldB]
  have ih := fun σ => foldB_push (b := b) (o := o) (e := e) (l := l) (i := i + 1) (σ := σ) fun k o' e' hk hb => h (k + 1) o' e' (by simpa using hk) (by rw [show i + (k + 1) = i + 1 + k by omega]; exact hb)
  rw [ih]
  cases hb : b i with
  | false => rfl
  | true =>
   obtain ⟨h1, h2⟩ := h 0 o' e' rfl (by rw [Nat.add_zero]; exact hb)
   simp only [cond_true]
   rw [upd_comm h1 h2]
def addB (b : Nat → Bool) (j : Nat) : Nat → Bool := fun i => b i || Nat.beq i j
theorem addB_ne {b : Nat → Bool} {i j : Nat} (h : i ≠ j) : addB b j i = b i := by
 unfold addB
 have : Nat.beq i j = false := by cases hb : Nat.beq i j with
  | false => rfl
  | true => exact absurd (Nat.eq_of_beq_eq_true hb) h
 rw [this, Bool.or_false]
theorem addB_self {b : Nat → Bool} {j : Nat} : addB b j j = true := by unfold addB; simp
theorem foldB_insert {b : Nat → Bool} {j : Nat} {o : Oper} {e : Ev} : ∀ {l : List (Oper × Ev)} {i : Nat} {σ : St}, i ≤ j → l[j - i]? = some (o, e) → b j = false →
  (∀ k o' e', l[k]? = some (o', e') → j < i + k → b (i + k) = true → (∀ d, o'.dst = some d → o.dst ≠ some d) ∧ ∀ q ∈ fsts e'.ups, q ∉ fsts e.ups) →
  upd (foldB b l i σ) o e = foldB (addB b j) l i σ
 | [], _, _, _, h, _, _ => by simp at h
 | (o', e') :: l, i, σ, hij, hl, hb, h => by
  have h' : ∀ k o' e', l[k]? = some (o', e') → j < i + 1 + k → b (i + 1 + k) = true → (∀ d, o'.dst = some d → o.dst ≠ some d) ∧ ∀ q ∈ fsts e'.ups, q ∉ fsts e.ups := fun k o1 e1 hk hj hbk =>
   h (k + 1) o1 e1 (by simpa using hk) (by omega) (by rw [show i + (k + 1) = i + 1 + k by omega]; exact hbk)
  by_cases hji : j = i
  ·subst hji
   simp only [Nat.sub_self, List.getElem?_cons_zero, Option.some.injEq, Prod.mk.injEq] at hl
   obtain ⟨rfl, rfl⟩ := hl
   simp only [foldB, hb, addB_self, cond_true, cond_false]
   rw [foldB_push fun k o1 e1 hk hbk => h' k o1 e1 hk (by omega) hbk]
   exact foldB_congr fun k _ => (addB_ne (by omega)).symm
  ·simp only [foldB]
   rw [addB_ne (by omega)]
   refine foldB_insert (by omega) ?_ hb h'
   rw [show j - i = (j - (i + 1)) + 1 by omega, List.getElem?_cons_succ] at hl
   exact hl
theorem elder_ok : ∀ {l : List Oper} {i : Nat}, elder l i = true → ∀ k o, l[k]? = some o → ∀ e ∈ o.after, Region.binds .any e = true → e.on < i + k
 | [], _, _, k, o, h => by simp at h
 | o :: l, i, h, k, o', hk => by
  simp only [elder, Bool.and_eq_true, List.all_eq_true, List.mem_filter, Nat.blt_eq] at h
  cases k with
  | zero =>
   simp only [List.getElem?_cons_zero, Option.some.injEq] at hk
   subst hk
   intro e he hb
   exact h.1 e ⟨by simpa using he, hb⟩
  | succ k =>
   intro e he hb
   have := elder_ok h.2 k o' (by simpa using hk) e he hb
   omega
theorem predsL_ok : ∀ {l : List Oper} {acc : List (List Nat)}, (∀ j, j < acc.length → (predsL l acc)[j]? = acc[j]?) ∧
  ∀ k o, l[k]? = some o → ∀ p ∈ (predsL l acc).getD (acc.length + k) [], ∃ e ∈ o.after, Region.binds .any e = true ∧ (p = e.on ∨ p ∈ (predsL l acc).getD e.on [])
 | [], acc => ⟨fun _ _ => rfl, fun k o h => by simp at h⟩
 | o :: l, acc => by
  simp only [predsL]
  generalize hX : ((o.after.toList.filter bindsE).flatMap fun e => e.on :: acc.getD e.on []) = X
  obtain ⟨h1, h2⟩ := predsL_ok (l := l) (acc := acc ++ [X])
  have hlow : ∀ j, j < acc.length → (predsL l (acc ++ [X]))[j]? = acc[j]? := fun j hj => by
   rw [h1 j (by simp; omega), List.getElem?_append_left hj]
  refine ⟨hlow, fun k o' hk => ?_⟩
  cases k with
  | zero =>
   simp only [List.getElem?_cons_zero, Option.some.injEq] at hk
   subst hk
   intro p hp
   have : (predsL l (acc ++ [X])).getD (acc.length + 0) [] = X := by
    rw [List.getD_eq_getElem?_getD, h1 _ (by simp)]
    simp
   rw [this, ← hX] at hp
   obtain ⟨e, he, hp⟩ := List.mem_flatMap.1 hp
   obtain ⟨he, hb⟩ := List.mem_filter.1 he
   refine ⟨e, by simpa using he, hb, ?_⟩
   rcases List.mem_cons.1 hp with rfl | hp
   ·exact .inl rfl
   ·right
    by_cases hl : e.on < acc.length
    ·rw [List.getD_eq_getElem?_getD, hlow _ hl, ← List.getD_eq_getElem?_getD]; exact hp
    ·rw [List.getD_eq_getElem?_getD, List.getElem?_eq_none (by omega)] at hp; simp at hp
  | succ k =>
   have := h2 k o' (by simpa using hk)
   rw [show (acc ++ [X]).length + k = acc.length + (k + 1) by simp; omega] at this
   exact this
theorem apartAll_ok {all : List Oper} {ps : List (List Nat)} {y : Oper} {q : Rec} {j : Nat} : ∀ {l : List (Oper × Rec)} {i : Nat}, apartAll all ps y q j l i = true →
  ∀ k x p, l[k]? = some (x, p) → (i + k) ∈ ps.getD j [] ∨ apartO all x y p q = true
 | [], _, _, k, x, p, h => by simp at h
 | (x, p) :: l, i, h, k, x', p', hk => by
  simp only [apartAll, Bool.and_eq_true, Bool.or_eq_true, memN_iff] at h
  cases k with
  | zero =>
   simp only [List.getElem?_cons_zero, Option.some.injEq, Prod.mk.injEq] at hk
   obtain ⟨rfl, rfl⟩ := hk
   exact h.1
  | succ k =>
   have := apartAll_ok h.2 k x' p' (by simpa using hk)
   rw [show i + (k + 1) = i + 1 + k by omega]; exact this
theorem indepL_ok {all : List Oper} {ps : List (List Nat)} : ∀ {l pre : List (Oper × Rec)}, indepL all ps pre l pre.length = true →
  ∀ i j x p y q, i < j → pre.length ≤ j → (pre ++ l)[i]? = some (x, p) → (pre ++ l)[j]? = some (y, q) → i ∈ ps.getD j [] ∨ apartO all x y p q = true
 | [], pre, _, i, j, x, p, y, q, hij, hj, hi, hq => by
  rw [List.append_nil, List.getElem?_eq_none hj] at hq; simp at hq
 | (y0, q0) :: l, pre, h, i, j, x, p, y, q, hij, hj, hi, hq => by
  simp only [indepL, Bool.and_eq_true] at h
  by_cases hjp : j = pre.length
  ·subst hjp
   rw [List.getElem?_append_right (Nat.le_refl _), Nat.sub_self] at hq
   simp only [List.getElem?_cons_zero, Option.some.injEq, Prod.mk.injEq] at hq
   obtain ⟨rfl, rfl⟩ := hq
   rw [List.getElem?_append_left hij] at hi
   have := apartAll_ok h.1 i x p hi
   rw [Nat.zero_add] at this; exact this
  ·have e : pre ++ (y0, q0) :: l = (pre ++ [(y0, q0)]) ++ l := by simp
   rw [e] at hi hq
   exact indepL_ok (l := l) (pre := pre ++ [(y0, q0)]) (by simpa using h.2) i j x p y q hij (by simp; omega) hi hq
theorem apartL_ok {a b : List Nat} (h : apartL a b = true) : ∀ x ∈ a, x ∉ b := by
 intro x hx hb
 simp only [apartL, List.all_eq_true, Bool.not_eq_true'] at h
 have := h x hx
 rw [memN_iff.2 hb] at this
 simp at this
structure Apart (all : List Oper) (x y : Oper) (p q : Ev) : Prop where
  d1 : ∀ d, x.dst = some d → d ∉ rdS all y
  d2 : ∀ d, x.dst = some d → y.dst ≠ some d
  d3 : ∀ d, y.dst = some d → d ∉ rdS all x
  h1 : ∀ i ∈ p.wr, i ∉ q.rd
  h2 : ∀ i ∈ p.wr, i ∉ q.wr
  h3 : ∀ i ∈ q.wr, i ∉ p.rd
theorem apart_of {all : List Oper} {x y : Oper} {p q : Ev} (h : apartO all x y p.recd q.recd = true) : Apart all x y p q := by
 simp only [apartO, Bool.and_eq_true] at h
 obtain ⟨⟨⟨⟨⟨h1, h2⟩, h3⟩, h4⟩, h5⟩, h6⟩ := h
 have h4 := apartL_ok h4
 have h5 := apartL_ok h5
 have h6 := apartL_ok h6
 exact ⟨fun d hd => apartL_ok h1 d (by simp [hd]), fun d hd he => apartL_ok h2 d (by simp [hd]) (by simp [he]), fun d hd => apartL_ok h3 d (by simp [hd]), h4, h5, h6⟩
theorem Apart.symm {all : List Oper} {x y : Oper} {p q : Ev} (h : Apart all x y p q) : Apart all y x q p :=
 ⟨h.d3, fun d hd he => h.d2 d he hd, h.d1, h.h3, fun i hi hj => h.h2 i hj hi, h.h1⟩
end Go.Proofs.YtlfdikofmfhefaaGreatDoor.Ev
set_option linter.unusedVariables false
set_option linter.unusedSimpArgs false
namespace Go.Proofs.YtlfdikofmfhefaaGreatDoor.Ev
open Go Go.RowKit
section
variable {P : Program} {E : Env} {all : List Oper}
theorem getOs_agree {σ σ' : St} : ∀ {l : List Operand}, (∀ s ∈ tmpsOf l, σ.tm[s]? = σ'.tm[s]?) → getOs σ l = getOs σ' l
 | [], _ => rfl
 | x :: l, h => by
  have ih := getOs_agree (σ := σ) (σ' := σ') (l := l) (by cases x with
   | tmp t => exact fun s hs => h s (List.mem_cons_of_mem _ hs)
   | _ => exact h)
  have hx : getO σ x = getO σ' x := by
   cases x with
   | tmp t => exact h t List.mem_cons_self
   | _ => rfl
  simp only [getOs, hx, ih]
theorem EvAt.move {o : Oper} {nid : Nat} {σ σ' : St} {e : Ev} (h : EvAt P E all o nid σ e) (hs : ∀ s ∈ rdS all o, σ.tm[s]? = σ'.tm[s]?) (hi : ∀ i ∈ e.rd, σ.hp[i]? = σ'.hp[i]?) : EvAt P E all o nid σ' e := by
 have hask : ∀ b, Asked all o σ b → Asked all o σ' b := by
  intro b hb
  unfold Asked at hb ⊢
  cases hg : o.guard with
  | none => rw [hg] at hb; exact hb
  | some gw =>
   obtain ⟨g, want⟩ := gw
   rw [hg] at hb
   obtain ⟨s, h1, h2⟩ := hb
   refine ⟨s, h1, ?_⟩
   rw [← hs s ?_]
   ·exact h2
   ·unfold rdS
    rw [hg]
    refine List.mem_append_right _ ?_
    simp [h1]
 rcases h with ⟨h1, as, h2, h3, h4, h5, h6⟩ | ⟨h1, h2⟩
 ·refine .inl ⟨hask _ h1, as, ?_, h3, h4, h5, ?_⟩
  ·rw [← getOs_agree (σ := σ) fun s hs' => hs s (List.mem_append_left _ hs')]; exact h2
  ·have e1 : rdOf σ'.hp e.rd = rdOf σ.hp e.rd := by
    funext i
    unfold rdOf
    cases hm : memN i e.rd with
    | false => rfl
    | true => simp only [cond_true]; exact (hi i (memN_iff.1 hm)).symm
   rw [e1]
   exact h6
 ·exact .inr ⟨hask _ h1, h2⟩
theorem blt_iff {a b : Nat} : Nat.blt a b = true ↔ a < b := by rw [Nat.blt_eq]
theorem newsAll_take_le {l : List Oper} : ∀ {i : Nat} {o : Oper}, l[i]? = some o → newsAll (l.take i) + newsO o ≤ newsAll l := by
 induction l with
 | nil => intro i o h; simp at h
 | cons x l ih =>
  intro i o h
  cases i with
  | zero =>
   simp only [List.getElem?_cons_zero, Option.some.injEq] at h
   subst h
   rw [List.take_zero]
   show 0 + newsO x ≤ newsO x + newsAll l
   omega
  | succ i =>
   have := ih (i := i) (o := o) (by simpa using h)
   rw [List.take_succ_cons]
   show newsO x + newsAll (l.take i) + newsO o ≤ newsO x + newsAll l
   omega
theorem newsAll_take_lt {l : List Oper} {i j : Nat} {o : Oper} (hij : i < j) (h : l[i]? = some o) : newsAll (l.take i) + newsO o ≤ newsAll (l.take j) := by
 have h1 : (l.take j)[i]? = some o := by rw [List.getElem?_take_of_lt hij]; exact h
 have := newsAll_take_le h1
 rw [List.take_take, Nat.min_eq_left (Nat.le_of_lt hij)] at this
 exact this
theorem trace_at : ∀ {l : List Oper} {i0 nid : Nat} {σ : St} {es : List Ev} {σ' : St}, Trace P E all l nid σ es σ' →
  es.length = l.length ∧ σ' = foldB (fun _ => true) (l.zip es) i0 σ ∧
  ∀ j o e, l[j]? = some o → es[j]? = some e → EvAt P E all o (nid + newsAll (l.take j)) (foldB (fun i => Nat.blt i (i0 + j)) (l.zip es) i0 σ) e
 | [], i0, nid, σ, [], σ', h => ⟨rfl, (h : σ = σ').symm, fun j o e hj => by simp at hj⟩
 | [], i0, nid, σ, _ :: _, σ', h => h.elim
 | o :: l, i0, nid, σ, [], σ', h => h.elim
 | o :: l, i0, nid, σ, e :: es, σ', ⟨he, ht⟩ => by
  obtain ⟨h1, h2, h3⟩ := trace_at (i0 := i0 + 1) ht
  refine ⟨by simp [h1], by rw [h2]; rfl, fun j o' e' hj he' => ?_⟩
  cases j with
  | zero =>
   simp only [List.getElem?_cons_zero, Option.some.injEq] at hj he'
   subst hj; subst he'
   rw [foldB_none fun k hk => by
    cases hb : Nat.blt k (i0 + 0) with
    | false => rfl
    | true => have := blt_iff.1 hb; omega]
   simpa [newsAll] using he
  | succ j =>
   have := h3 j o' e' (by simpa using hj) (by simpa using he')
   have hb : Nat.blt i0 (i0 + (j + 1)) = true := blt_iff.2 (by omega)
   simp only [List.zip_cons_cons, foldB, hb, cond_true, List.take_succ_cons, newsAll]
   rw [show i0 + (j + 1) = i0 + 1 + j by omega, show nid + (newsO o + newsAll (l.take j)) = nid + newsO o + newsAll (l.take j) by omega]
   exact this
theorem filter_drop {α : Type} {p q : α → Bool} : ∀ {l : List α}, (∀ x ∈ l, q x = true → p x = true) → (∃ x ∈ l, p x = true ∧ q x = false) → (l.filter q).length < (l.filter p).length
 | [], _, h => by simp at h
 | x :: l, hq, ⟨y, hy, h1, h2⟩ => by
  have hle : ∀ {l : List α}, (∀ x ∈ l, q x = true → p x = true) → (l.filter q).length ≤ (l.filter p).length := by
   intro l
   induction l with
   | nil => intro _; simp
   | cons z l ih =>
    intro h
    have ih := ih fun x hx => h x (List.mem_cons_of_mem _ hx)
    have hz := h z List.mem_cons_self
    cases hqz : q z with
    | true => simp [List.filter_cons, hqz, hz hqz]; exact ih
    | false => cases hpz : p z <;> simp [List.filter_cons, hqz, hpz] <;> omega
  have hq' : ∀ x ∈ l, q x = true → p x = true := fun x hx => hq x (List.mem_cons_of_mem _ hx)
  rcases List.mem_cons.1 hy with rfl | hy
  ·have := hle hq'
   simp [List.filter_cons, h1, h2]
   omega
  ·have := filter_drop hq' ⟨y, hy, h1, h2⟩
   have hx := hq x List.mem_cons_self
   cases hqx : q x with
   | true => simp [List.filter_cons, hqx, hx hqx]; exact this
   | false => cases hpx : p x <;> simp [List.filter_cons, hqx, hpx] <;> omega
theorem any_sound {w0 : World} (hI : E.inv w0) {o0 : Nat → Prop} {ops : Array Oper} {Q : Exit → Act → World → Prop} {es : List Ev} {σ0 : St} {n0 : Nat} (hE : EOk P E) (hall : all = ops.toList) (hlen : es.length = all.length)
  (hev : ∀ j o e, all[j]? = some o → es[j]? = some e → EvAt P E all o (n0 + newsAll (all.take j)) (foldB (fun i => Nat.blt i j) (all.zip es) 0 σ0) e)
  (hel : ∀ j o, all[j]? = some o → ∀ e ∈ o.after, Region.binds .any e = true → e.on < j)
  (hwr : ∀ (j : Nat) (o : Oper) (e : Ev), all[j]? = some o → es[j]? = some e → e.wr = fsts e.ups)
  (hap : ∀ i j x p y q, i < j → all[i]? = some x → es[i]? = some p → all[j]? = some y → es[j]? = some q → i ∈ (predsL all []).getD j [] ∨ Apart all x y p q)
  (hQ : ∀ a w ok m, Rel w0 o0 (foldB (fun _ => true) (all.zip es) 0 σ0) a w ok m → Q .normal a w) :
  ∀ (fuel : Nat) (listed : Array Bool) (b : Nat → Bool) (a : Act) (w : World) (ok : Nat → Prop) (m : Nat → Value),
   listed.size = all.length → (∀ i, i < all.length → listed[i]? = some (b i)) →
   (∀ i o, b i = true → all[i]? = some o → ∀ e ∈ o.after, Region.binds .any e = true → b e.on = true) →
   ((List.range all.length).filter (fun i => !b i)).length ≤ fuel →
   (∀ i o, b i = false → all[i]? = some o → ∀ j, j < newsO o → (foldB b (all.zip es) 0 σ0).hp[n0 + newsAll (all.take i) + j]? = some .hole) →
   Rel w0 o0 (foldB b (all.zip es) 0 σ0) a w ok m → wpAny P .any ops Q fuel listed a w := by
 have hzip : ∀ k o e, (all.zip es)[k]? = some (o, e) ↔ all[k]? = some o ∧ es[k]? = some e := fun k o e => List.getElem?_zip_eq_some
 have hpred : ∀ (b : Nat → Bool), (∀ i o, b i = true → all[i]? = some o → ∀ e ∈ o.after, Region.binds .any e = true → b e.on = true) →
   ∀ j o, all[j]? = some o → (∀ e ∈ o.after, Region.binds .any e = true → b e.on = true) → ∀ p ∈ (predsL all []).getD j [], b p = true := by
  intro b hdc j
  induction j using Nat.strongRecOn with
  | ind j ih =>
   intro o ho hb p hp
   have := (predsL_ok (l := all) (acc := [])).2 j o ho p (by simpa using hp)
   obtain ⟨e, he, hbe, rfl | hp⟩ := this
   ·exact hb e he hbe
   ·have hlt := hel j o ho e he hbe
    have hj := (List.getElem?_eq_some_iff.1 ho).1
    exact ih e.on hlt _ (List.getElem?_eq_getElem (by omega)) (hdc e.on _ (hb e he hbe) (List.getElem?_eq_getElem (by omega))) p hp
 have done : ∀ (b : Nat → Bool) (a : Act) (w : World) (ok : Nat → Prop) (m : Nat → Value), (∀ i, i < all.length → b i = true) → Rel w0 o0 (foldB b (all.zip es) 0 σ0) a w ok m → Q .normal a w := by
  intro b a w ok m hb hR
  rw [foldB_congr (b' := fun _ => true) fun k hk => by rw [Nat.zero_add]; exact hb k (by simp at hk; omega)] at hR
  exact hQ a w ok m hR
 have hready : ∀ (listed : Array Bool) (b : Nat → Bool), listed.size = all.length → (∀ i, i < all.length → listed[i]? = some (b i)) → Region.ready .any ops listed = [] → ∀ i, i < all.length → b i = true := by
  intro listed b hs hl hr i
  induction i using Nat.strongRecOn with
  | ind i ih =>
   intro hi
   cases hb : b i with
   | true => rfl
   | false =>
    exfalso
    have hm : i ∈ Region.ready .any ops listed := by
     rw [mem_ready]
     have hoi : ops[i]? = some all[i] := by
      rw [← Array.getElem?_toList, ← hall]
      exact List.getElem?_eq_getElem hi
     refine ⟨by rw [Array.getD_eq_getD_getElem?, hl i hi, hb]; rfl, all[i], hoi, fun e he hbe => ?_⟩
     have hlt := hel i _ (List.getElem?_eq_getElem hi) e he hbe
     rw [Array.getD_eq_getD_getElem?, hl e.on (by omega), ih e.on hlt (by omega)]
     rfl
    rw [hr] at hm
    simp at hm
 intro fuel
 induction fuel with
 | zero =>
  intro listed b a w ok m hs hl hdc hf hh hR
  have hb : ∀ i, i < all.length → b i = true := fun i hi => by
   cases hb : b i with
   | true => rfl
   | false =>
    have : i ∈ (List.range all.length).filter (fun i => !b i) := List.mem_filter.2 ⟨List.mem_range.2 hi, by simp [hb]⟩
    rw [List.eq_nil_of_length_eq_zero (by omega : ((List.range all.length).filter (fun i => !b i)).length = 0)] at this
    simp at this
  refine ⟨?_, done b a w ok m hb hR⟩
  cases hr : Region.ready .any ops listed with
  | nil => rfl
  | cons i r =>
   exfalso
   have hm : i ∈ Region.ready .any ops listed := by rw [hr]; exact List.mem_cons_self
   obtain ⟨h1, o, ho, _⟩ := mem_ready.1 hm
   have hi : i < all.length := by rw [hall, Array.length_toList]; exact (Array.getElem?_eq_some_iff.1 ho).1
   rw [Array.getD_eq_getD_getElem?, hl i hi, hb i hi] at h1
   simp at h1
 | succ fuel ihf =>
  intro listed b a w ok m hs hl hdc hf hh hR
  refine ⟨fun hr => done b a w ok m (hready listed b hs hl hr) hR, fun i hi => ?_⟩
  obtain ⟨h1, o, ho, hedges⟩ := mem_ready.1 hi
  have hil : i < all.length := by rw [hall, Array.length_toList]; exact (Array.getElem?_eq_some_iff.1 ho).1
  have hao : all[i]? = some o := by rw [hall, Array.getElem?_toList]; exact ho
  have hbi : b i = false := by
   rw [Array.getD_eq_getD_getElem?, hl i hil] at h1
   simpa using h1
  have hbe : ∀ e ∈ o.after, Region.binds .any e = true → b e.on = true := fun e he hb => by
   have := hedges e he hb
   have hlt := hel i o hao e he hb
   rw [Array.getD_eq_getD_getElem?, hl e.on (by omega)] at this
   simpa using this
  have hei : es[i]? = some es[i] := List.getElem?_eq_getElem (by omega)
  generalize hee : es[i] = e at hei
  -- what is not ordered with i is apart from it
  have apart : ∀ k x p, all[k]? = some x → es[k]? = some p → ((k < i ∧ b k = false) ∨ (i < k ∧ b k = true)) → Apart all o x e p := by
   intro k x p hk hpk hc
   rcases hc with ⟨hlt, hbk⟩ | ⟨hlt, hbk⟩
   ·rcases hap k i x p o e hlt hk hpk hao hei with h | h
    ·have := hpred b hdc i o hao hbe k h
     rw [hbk] at this; simp at this
    ·exact h.symm
   ·rcases hap i k o e x p hlt hao hei hk hpk with h | h
    ·have := hpred b hdc k x hk (hdc k x hbk hk) i h
     rw [hbi] at this; simp at this
    ·exact h
  have hEv : EvAt P E all o (n0 + newsAll (all.take i)) (foldB b (all.zip es) 0 σ0) e := by
   refine (hev i o e hao hei).move (fun s hs' => foldB_agreeT rfl rfl fun k x p hk => ?_) (fun q hq => foldB_agreeH rfl rfl fun k x p hk => ?_)
   ·obtain ⟨hk1, hk2⟩ := (hzip k x p).1 hk
    rw [Nat.zero_add]
    by_cases hki : k < i
    ·have hbl : Nat.blt k i = true := blt_iff.2 hki
     rw [hbl]
     cases hbk : b k with
     | true => exact .inl rfl
     | false => exact .inr fun hd => (apart k x p hk1 hk2 (.inl ⟨hki, hbk⟩)).d3 s hd hs'
    ·have hbl : Nat.blt k i = false := by
      cases h : Nat.blt k i with
      | false => rfl
      | true => exact absurd (blt_iff.1 h) hki
     rw [hbl]
     cases hbk : b k with
     | false => exact .inl rfl
     | true =>
      have : k ≠ i := by rintro rfl; rw [hbi] at hbk; simp at hbk
      exact .inr fun hd => (apart k x p hk1 hk2 (.inr ⟨by omega, hbk⟩)).d3 s hd hs'
   ·obtain ⟨hk1, hk2⟩ := (hzip k x p).1 hk
    rw [Nat.zero_add, ← hwr k x p hk1 hk2]
    by_cases hki : k < i
    ·have hbl : Nat.blt k i = true := blt_iff.2 hki
     rw [hbl]
     cases hbk : b k with
     | true => exact .inl rfl
     | false => exact .inr fun hd => (apart k x p hk1 hk2 (.inl ⟨hki, hbk⟩)).h3 q hd hq
    ·have hbl : Nat.blt k i = false := by
      cases h : Nat.blt k i with
      | false => rfl
      | true => exact absurd (blt_iff.1 h) hki
     rw [hbl]
     cases hbk : b k with
     | false => exact .inl rfl
     | true =>
      have : k ≠ i := by rintro rfl; rw [hbi] at hbk; simp at hbk
      exact .inr fun hd => (apart k x p hk1 hk2 (.inr ⟨by omega, hbk⟩)).h3 q hd hq
  have hins : upd (foldB b (all.zip es) 0 σ0) o e = foldB (addB b i) (all.zip es) 0 σ0 := by
   refine foldB_insert (Nat.zero_le _) (by rw [Nat.sub_zero]; exact (hzip i o e).2 ⟨hao, hei⟩) hbi fun k x p hk hik hbk => ?_
   obtain ⟨hk1, hk2⟩ := (hzip k x p).1 hk
   rw [Nat.zero_add] at hik hbk
   have hA := apart k x p hk1 hk2 (.inr ⟨hik, hbk⟩)
   refine ⟨fun d hd ho' => hA.d2 d ho' hd, fun q hq hq' => ?_⟩
   rw [← hwr k x p hk1 hk2] at hq
   rw [← hwr i o e hao hei] at hq'
   exact hA.h2 q hq' hq
  have := ev_next hI (Q := Q) (K := wpAny P .any ops Q fuel (listed.setIfInBounds i true)) hE hall hR (fun j hj => hh i o hbi hao j hj) hEv (fun a' w' ok' m' hR' => by
   rw [hins] at hR'
   refine ihf (listed.setIfInBounds i true) (addB b i) a' w' ok' m' (by simp [hs]) (fun k hk => ?_) (fun k x hbk hk e' he' hb' => ?_) ?_ (fun k x hbk hk j hj => ?_) hR'
   ·by_cases hki : k = i
    ·subst hki; rw [addB_self]; simp [hs, hil]
    ·rw [addB_ne hki, Array.getElem?_setIfInBounds_ne (Ne.symm hki)]; exact hl k hk
   ·have base : b e'.on = true := by
     by_cases hki : k = i
     ·subst hki
      rw [hao] at hk
      simp only [Option.some.injEq] at hk
      subst hk
      exact hbe e' he' hb'
     ·rw [addB_ne hki] at hbk
      exact hdc k x hbk hk e' he' hb'
    unfold addB
    rw [base, Bool.true_or]
   ·have := filter_drop (p := fun k => !b k) (q := fun k => !addB b i k) (l := List.range all.length) (fun k _ hk => by
     by_cases hki : k = i
     ·subst hki; rw [addB_self] at hk; simp at hk
     ·rw [addB_ne hki] at hk; exact hk) ⟨i, List.mem_range.2 hil, by simp [hbi], by simp [addB_self]⟩
    omega
   ·have hki : k ≠ i := by rintro rfl; rw [addB_self] at hbk; simp at hbk
    rw [addB_ne hki] at hbk
    rw [← hins]
    refine ev_holes hR hEv (hh k x hbk hk j hj) fun hc => ?_
    rcases Nat.lt_or_gt_of_ne hki with hlt | hlt
    ·have := newsAll_take_lt hlt hk
     omega
    ·have := newsAll_take_lt hlt hao
     omega)
  unfold wpOp
  rw [ho]
  exact this
end
end Go.Proofs.YtlfdikofmfhefaaGreatDoor.Ev
