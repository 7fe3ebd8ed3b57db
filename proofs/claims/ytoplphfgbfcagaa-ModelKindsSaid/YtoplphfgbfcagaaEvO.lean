/-
Regions: what the evaluator's run over the operations says, the machine does; first where the order is the text's.
Conditions: the callees keep their contracts; the table of types is the program's.
-/
import Derived.Test.YtoplphfgbfcagaaEvN
import Derived.Tactics
set_option linter.unusedVariables false
set_option linter.unusedSimpArgs false
namespace Go.Proofs.Ytoplphfgbfcagaa.Ev
open Go Go.RowKit

def CallsOk (P : Program) (E : Env) : Prop := ∀ g h, look g E.calls = some h → ∀ args κ r, h args κ = some r → ∃ av, κ av = some r ∧ CallSpec P g args av
structure EOk (P : Program) (E : Env) : Prop where
  ty : TyOk P E
  calls : CallsOk P E

/-- What became of one operation. -/
structure Ev where
  rd : List Nat
  wr : List Nat
  val : AV
  ups : List (Nat × Row)
def Ev.recd (e : Ev) : Rec := ⟨e.rd, e.wr⟩
def upd (σ : St) (o : Oper) (e : Ev) : St := putT { σ with hp := setH σ.hp e.ups } o.dst e.val
def ExecAt (P : Program) (E : Env) (o : Oper) (nid : Nat) (σ : St) (e : Ev) : Prop :=
  ∃ as, getOs σ o.op.operands.toList = some as ∧ e.rd = as.flatMap idsA ∧ e.wr = fsts e.ups ∧ inIds e.rd nid (newsO o) (fsts e.ups) = true ∧
    ((isCall o.op = false ∧ stepW E o.op nid as (rdOf σ.hp e.rd) = some (true, e.val, e.ups)) ∨
     ∃ c f g fs cs args av, o.op = .call c ∧ c.callee = .value f ∧ as = .fn g fs cs :: args ∧ CallSpec P g ((fs ++ args ++ cs).map (shown (rdOf σ.hp e.rd))) av ∧ (rowsA av).length ≤ most ∧
       e.val = adA nid av ∧ e.ups = (bif flat av then [] else e.rd.flatMap (stay (rdOf σ.hp e.rd))) ++ numbered nid (rowsA av))
def Asked (all : List Oper) (o : Oper) (σ : St) (b : Bool) : Prop := match o.guard with
  | none => b = true
  | some (g, want) => ∃ (s : Nat), guardS all g = some s ∧ ((∃ x : Bool, σ.tm[s]? = some (.v .bool x) ∧ b = (x == want)) ∨ (σ.tm[s]? = some (.tup []) ∧ b = false))
def EvAt (P : Program) (E : Env) (all : List Oper) (o : Oper) (nid : Nat) (σ : St) (e : Ev) : Prop :=
  (Asked all o σ true ∧ ExecAt P E o nid σ e) ∨ (Asked all o σ false ∧ e = ⟨[], [], .tup [], []⟩)
def Trace (P : Program) (E : Env) (all : List Oper) : List Oper → Nat → St → List Ev → St → Prop
  | [], _, σ, [], σ' => σ = σ'
  | o :: r, nid, σ, e :: es, σ' => EvAt P E all o nid σ e ∧ Trace P E all r (nid + newsO o) (upd σ o e) es σ'
  | _, _, _, _, _ => False

theorem fsts_append (a b : List (Nat × Row)) : fsts (a ++ b) = fsts a ++ fsts b := by
  induction a with
  | nil => rfl
  | cons x a ih => obtain ⟨i, r⟩ := x; simp only [List.cons_append, fsts, ih]
theorem inIds_iff {l : List Nat} {nid n : Nat} : ∀ {ids : List Nat}, inIds l nid n ids = true ↔ ∀ i ∈ ids, i ∈ l ∨ (nid ≤ i ∧ i < nid + n)
  | [] => by simp [inIds]
  | i :: r => by
    simp only [inIds, Bool.and_eq_true, Bool.or_eq_true, memN_iff, Nat.ble_eq, Nat.blt_eq, inIds_iff (ids := r), List.mem_cons, forall_eq_or_imp]

section
variable {P : Program} {E : Env} {all : List Oper} {o : Oper} {a : Act} {w w0 : World} {ok o0 : Nat → Prop} {m : Nat → Value} {σ : St} {nid : Nat}

theorem execW_ev {κ : Rec → St → Option AV} {r : AV} (hE : EOk P E) (h : execW E o nid σ κ = some r) : ∃ e, ExecAt P E o nid σ e ∧ κ e.recd (upd σ o e) = some r := by
  unfold execW at h
  split at h
  · simp at h
  · rename_i as has
    cases hc : isCall o.op with
    | false =>
      simp only [hc, cond_false] at h
      split at h
      · rename_i c x ups hs
        cases hi : inIds (as.flatMap idsA) nid (newsO o) (fsts ups) with
        | false => simp [hi] at h
        | true =>
          cases c with
          | false => simp [hi] at h
          | true =>
            simp only [hi, cond_true] at h
            exact ⟨⟨as.flatMap idsA, fsts ups, x, ups⟩, ⟨as, has, rfl, rfl, hi, .inl ⟨hc, hs⟩⟩, h⟩
      · simp at h
    | true =>
      simp only [hc, cond_true] at h
      split at h
      case h_2 => simp at h
      rename_i g fs cs args
      split at h
      case h_2 => simp at h
      rename_i f hf
      obtain ⟨av, h1, h2⟩ := hE.calls g f hf _ _ _ h
      cases hl : Nat.ble (rowsA av).length most with
      | false => simp [hl] at h1
      | true =>
        have hl' := Nat.le_of_ble_eq_true hl
        simp only [hl, cond_true] at h1
        have hcc : ∃ c fo, o.op = .call c ∧ c.callee = .value fo := by
          unfold isCall at hc
          split at hc
          · rename_i c hop
            split at hc
            · rename_i fo hfo; exact ⟨c, fo, hop, hfo⟩
            · simp at hc
          · simp at hc
        obtain ⟨c, fo, hop, hfo⟩ := hcc
        generalize hids : (AV.fn g fs cs :: args).flatMap idsA = ids at *
        refine ⟨⟨ids, fsts ((bif flat av then [] else ids.flatMap (stay (rdOf σ.hp ids))) ++ numbered nid (rowsA av)), adA nid av, (bif flat av then [] else ids.flatMap (stay (rdOf σ.hp ids))) ++ numbered nid (rowsA av)⟩,
          ⟨_, has, hids.symm, rfl, ?_, .inr ⟨c, fo, g, fs, cs, args, av, hop, hfo, rfl, h2, hl', rfl, rfl⟩⟩, ?_⟩
        · rw [inIds_iff]
          intro i hi
          rw [fsts_append, List.mem_append] at hi
          rcases hi with hi | hi
          · left
            cases hfl : flat av with
            | true => simp [hfl, fsts] at hi
            | false =>
              simp only [hfl, cond_false] at hi
              obtain ⟨q, hq⟩ := fsts_mem.1 hi
              obtain ⟨j, hj, hq⟩ := List.mem_flatMap.1 hq
              rw [(stay_mem.1 hq).1]
              exact hj
          · right
            have := numbered_fsts.1 hi
            have hn : newsO o = most := by unfold newsO; rw [hc]; rfl
            rw [hn]
            omega
        · unfold Ev.recd upd
          rw [fsts_append]
          cases hfl : flat av with
          | true => simpa [hfl, fsts] using h1
          | false => simpa [hfl] using h1

theorem set_self {α : Type} : ∀ {l : List α} {i : Nat} {x : α}, l[i]? = some x → l.set i x = l
  | [], _, _, h => by simp at h
  | y :: l, 0, x, h => by simp only [List.getElem?_cons_zero, Option.some.injEq] at h; rw [h]; rfl
  | y :: l, i + 1, x, h => by simp only [List.getElem?_cons_succ] at h; rw [List.set_cons_succ, set_self h]
theorem setB_self {s : Nat} {x : Bool} (h : σ.tm[s]? = some (.v .bool x)) : setB σ s x = σ := by
  unfold setB
  rw [set_self h]

theorem runOps_trace (hE : EOk P E) : ∀ {ops : List Oper} {nid : Nat} {tr : List Rec} {σ : St} {κ : List Rec → St → Option AV} {r : AV}, runOps E all ops nid tr σ κ = some r →
    ∃ es σ', Trace P E all ops nid σ es σ' ∧ κ (tr ++ es.map Ev.recd) σ' = some r
  | [], nid, tr, σ, κ, r, h => ⟨[], σ, rfl, by simpa [runOps] using h⟩
  | o :: ops, nid, tr, σ, κ, r, h => by
    have run : Asked all o σ true → execW E o nid σ (fun c σ' => runOps E all ops (nid + newsO o) (tr ++ [c]) σ' κ) = some r → ∃ es σ', Trace P E all (o :: ops) nid σ es σ' ∧ κ (tr ++ es.map Ev.recd) σ' = some r := by
      intro hA h
      obtain ⟨e, he, h⟩ := execW_ev hE h
      obtain ⟨es, σ', h1, h2⟩ := runOps_trace hE h
      exact ⟨e :: es, σ', ⟨.inl ⟨hA, he⟩, h1⟩, by simpa using h2⟩
    have skip : Asked all o σ false → runOps E all ops (nid + newsO o) (tr ++ [⟨[], []⟩]) (putT σ o.dst (.tup [])) κ = some r → ∃ es σ', Trace P E all (o :: ops) nid σ es σ' ∧ κ (tr ++ es.map Ev.recd) σ' = some r := by
      intro hA h
      obtain ⟨es, σ', h1, h2⟩ := runOps_trace hE h
      exact ⟨⟨[], [], .tup [], []⟩ :: es, σ', ⟨.inr ⟨hA, rfl⟩, h1⟩, by simpa [Ev.recd] using h2⟩
    simp only [runOps] at h
    split at h
    · rename_i hg
      exact run (by simp [Asked, hg]) h
    · rename_i g b hg
      split at h
      case h_2 => simp at h
      rename_i s hs
      split at h
      rotate_left
      · rename_i hx
        exact skip (by unfold Asked; rw [hg]; exact ⟨s, hs, .inr ⟨hx, rfl⟩⟩) h
      · simp at h
      rename_i x hx
      have asked : ∀ y : Bool, y = (@BEq.beq Bool _ x b) → Asked all o σ y := fun y hy => by
        unfold Asked
        rw [hg]
        exact ⟨s, hs, .inl ⟨x, hx, hy⟩⟩
      have hsb := setB_self hx
      cases x <;> simp only [runOps.onB, cond_true, cond_false] at h <;> rw [hsb] at h
      · cases b
        · exact run (asked true rfl) h
        · exact skip (asked false rfl) h
      · cases b
        · exact skip (asked false rfl) h
        · exact run (asked true rfl) h

/-! ### operands -/
theorem constW_rel {v : Value} {x : AV} {H : List Row} (h : constW v = some x) : rel w ok H m x v := by
  unfold constW at h
  split at h <;> simp only [Option.some.injEq, reduceCtorEq] at h <;> subst h
  · exact mk_bool
  · exact mk_int
  · exact mk_str
  · rfl
theorem getO_rel {x : Operand} {v : AV} (hR : F2 (rel w ok σ.hp m) σ.tm a.tmps.toList) (h : getO σ x = some v) : rel w ok σ.hp m v (a.eval x) := by
  cases x with
  | tmp t =>
    obtain ⟨u, hu, hr⟩ := hR.get (h : σ.tm[t]? = some v)
    rw [Array.getElem?_toList] at hu
    have : a.eval (.tmp t) = u := by simp [Act.eval, Array.getD_eq_getD_getElem?, hu]
    rw [this]; exact hr
  | const c => exact constW_rel h
  | func f =>
    simp only [getO, Option.some.injEq] at h
    subst h
    exact ⟨[], [], rfl, .nil, .nil⟩
  | global g => simp [getO] at h
theorem getOs_rel (hR : F2 (rel w ok σ.hp m) σ.tm a.tmps.toList) : ∀ {xs : List Operand} {vs : List AV}, getOs σ xs = some vs → F2 (rel w ok σ.hp m) vs (xs.map a.eval)
  | [], vs, h => by simp only [getOs, Option.some.injEq] at h; subst h; exact .nil
  | x :: xs, vs, h => by
    simp only [getOs] at h
    split at h
    case h_2 => simp at h
    rename_i v hv
    split at h
    case h_2 => simp at h
    rename_i vs' hvs
    simp only [Option.some.injEq] at h
    subst h
    exact .cons (getO_rel hR hv) (getOs_rel hR hvs)

/-- What is named is no free place. -/
theorem ids1_hole {H : List Row} {x : AV} {u : Value} (h : rel1 w ok H m x u) : ∀ i ∈ ids1 x, H[i]? ≠ some .hole := by
  intro i hi hq
  cases x with
  | own j => rw [List.mem_singleton.1 (hi : i ∈ [j])] at hq; simp only [rel1, hq] at h; exact h.2
  | pb j _ => rw [List.mem_singleton.1 (hi : i ∈ [j])] at hq; simp only [rel1, hq] at h; exact h.2
  | pe j _ _ => rw [List.mem_singleton.1 (hi : i ∈ [j])] at hq; simp only [rel1, hq] at h; exact h.2
  | _ => simp [ids1] at hi
theorem F2.mem {α β : Type} {r : α → β → Prop} : ∀ {xs : List α} {ys : List β} {x : α}, F2 r xs ys → x ∈ xs → ∃ y, r x y
  | _, _, _, .nil, h => by simp at h
  | _, _, x, @F2.cons _ _ _ _ y _ _ h t, hm => by
    rcases List.mem_cons.1 hm with rfl | hm
    · exact ⟨y, h⟩
    · exact F2.mem t hm
theorem ids2_hole {H : List Row} {x : AV} {u : Value} (h : rel2 w ok H m x u) : ∀ i ∈ ids2 x, H[i]? ≠ some .hole := by
  have key : rel1 w ok H m x u → ∀ i ∈ ids1 x, H[i]? ≠ some .hole := ids1_hole
  cases x with
  | agg cs =>
    obtain ⟨us, rfl, hf⟩ := h
    intro i hi
    obtain ⟨c, hc, hi⟩ := List.mem_flatMap.1 (hi : i ∈ cs.flatMap ids1)
    obtain ⟨y, hy⟩ := hf.mem hc
    exact ids1_hole hy i hi
  | _ => exact key h
theorem idsA_hole {H : List Row} {x : AV} {u : Value} (h : rel w ok H m x u) : ∀ i ∈ idsA x, H[i]? ≠ some .hole := by
  have key : rel2 w ok H m x u → ∀ i ∈ ids2 x, H[i]? ≠ some .hole := ids2_hole
  cases x with
  | tup cs =>
    obtain ⟨us, rfl, hf⟩ := h
    intro i hi
    obtain ⟨c, hc, hi⟩ := List.mem_flatMap.1 (hi : i ∈ cs.flatMap ids2)
    obtain ⟨y, hy⟩ := hf.mem hc
    exact ids2_hole hy i hi
  | fn g fs cs =>
    obtain ⟨us, vs, rfl, h1, h2⟩ := h
    intro i hi
    rcases List.mem_append.1 (hi : i ∈ fs.flatMap ids2 ++ cs.flatMap ids1) with hi | hi
    · obtain ⟨c, hc, hi⟩ := List.mem_flatMap.1 hi
      obtain ⟨y, hy⟩ := h1.mem hc
      exact ids2_hole hy i hi
    · obtain ⟨c, hc, hi⟩ := List.mem_flatMap.1 hi
      obtain ⟨y, hy⟩ := h2.mem hc
      exact ids1_hole hy i hi
  | agg cs => exact key h
  | _ => exact key h

/-- The next operation, by the machine. -/
def NextOp (P : Program) (ops : Array Oper) (Q : Exit → Act → World → Prop) (o : Oper) (K : Act → World → Prop) (a : Act) (w : World) : Prop :=
  if Region.wanted o (yielded ops a.tmps) then o.wp P a w K Q ∨ (o.asks P a w ∧ LetsOut Q) else K (a.put o.dst undef) w

theorem put_tmps (a : Act) (d : Option Tmp) (v : Value) : (a.put d v).tmps.toList = (match d with | some d => a.tmps.toList.set d v | none => a.tmps.toList) ∧ (a.put d v).defers = a.defers := by
  cases d with
  | none => exact ⟨rfl, rfl⟩
  | some d => exact ⟨by simp [Act.put], rfl⟩

theorem ev_next {ops : Array Oper} {Q : Exit → Act → World → Prop} {e : Ev} {K : Act → World → Prop} (hE : EOk P E) (hall : all = ops.toList) (hR : Rel w0 o0 σ a w ok m) (hh : ∀ j, j < newsO o → σ.hp[nid + j]? = some .hole)
    (he : EvAt P E all o nid σ e) (hK : ∀ a' w' ok' m', Rel w0 o0 (upd σ o e) a' w' ok' m' → K a' w') : NextOp P ops Q o K a w := by
  have hwant : ∀ b, Asked all o σ b → Region.wanted o (yielded ops a.tmps) = b := by
    intro b hb
    unfold Asked at hb
    unfold Region.wanted
    cases hg : o.guard with
    | none => rw [hg] at hb; exact hb.symm
    | some gw =>
      obtain ⟨g, want⟩ := gw
      rw [hg] at hb
      obtain ⟨s, hs, hb⟩ := hb
      have hy : ∀ u, a.tmps[s]? = some u → yielded ops a.tmps g = (match u with | .bool b => some b | _ => none) := by
        intro u hu
        unfold guardS at hs
        subst hall
        rw [Array.getElem?_toList] at hs
        unfold yielded
        cases hq : ops[g]? with
        | none => simp [hq] at hs
        | some o' =>
          simp only [hq] at hs
          simp only [Option.bind_some, hs, hu]
          cases u <;> rfl
      rcases hb with ⟨x, hx, rfl⟩ | ⟨hx, rfl⟩
      · obtain ⟨u, hu, hr⟩ := hR.tm.get hx
        rw [Array.getElem?_toList] at hu
        rw [rd_bool hr] at hu
        simp only [hy _ hu]
        cases x <;> cases want <;> rfl
      · obtain ⟨u, hu, hr⟩ := hR.tm.get hx
        rw [Array.getElem?_toList] at hu
        obtain ⟨us, rfl, hn⟩ := hr
        simp only [hy _ hu]
        cases want <;> rfl
  unfold NextOp
  rcases he with ⟨hA, as, has, hrd, hwr, hin, hx⟩ | ⟨hA, rfl⟩
  · rw [hwant true hA]
    simp only [if_true]
    left
    have ha := getOs_rel hR.tm has
    have does : Does P o a w ok w0.heap.size σ.hp m e.val e.ups := by
      rcases hx with ⟨hc, hs⟩ | ⟨c, f, g, fs, cs, args, av, hop, hcf, rfl, hS, hl, hv, hu⟩
      · rw [hrd] at hs
        refine (step_sound hE.ty hR.hr hR.bw.size (fun hn => ?_) ha hs).does
        have := hh 0 (by unfold newsO; rw [hc, cond_false, hn]; omega)
        simpa using this
      · rw [hrd] at hS hu
        rw [hv, hu]
        refine call_does hR.hr hR.bw.size hop hcf ha hS fun j hj => hh j ?_
        have : isCall o.op = true := by unfold isCall; rw [hop]; simp [hcf]
        unfold newsO
        rw [this]
        simp only [cond_true]
        omega
    refine does K Q fun u w' ok' m' hB hH hst hr hbd => hK _ w' ok' m' ?_
    have htm : F2 (rel w' ok' (setH σ.hp e.ups) m') σ.tm a.tmps.toList := hR.tm.imp fun x y _ h => rel_step hst h
    obtain ⟨e1, e2⟩ := put_tmps a o.dst u
    refine ⟨?_, by rw [e2]; exact hR.df, ?_, hR.bw.trans hB, fun k hk => (hbd k hk).elim (hR.bd k) .inr⟩
    · rw [e1]
      unfold upd putT
      cases o.dst with
      | none => exact htm
      | some d => exact htm.set d hr
    · unfold upd putT
      cases o.dst <;> exact hH
  · rw [hwant false hA]
    simp only [Bool.false_eq_true, if_false]
    refine hK _ w ok m ?_
    obtain ⟨e1, e2⟩ := put_tmps a o.dst undef
    refine ⟨?_, by rw [e2]; exact hR.df, ?_, hR.bw, hR.bd⟩
    · rw [e1]
      unfold upd putT
      cases o.dst with
      | none => exact hR.tm
      | some d => exact hR.tm.set d ⟨[], rfl, .nil⟩
    · unfold upd putT
      cases o.dst <;> exact hR.hr

theorem upd_hp (σ : St) (o : Oper) (e : Ev) : (upd σ o e).hp = setH σ.hp e.ups := by
  unfold upd putT
  cases o.dst <;> rfl
/-- Free places stay free, but for the operation's own. -/
theorem ev_holes {e : Ev} (hR : Rel w0 o0 σ a w ok m) (he : EvAt P E all o nid σ e) {i : Nat} (hi : σ.hp[i]? = some .hole) (hn : ¬ (nid ≤ i ∧ i < nid + newsO o)) : (upd σ o e).hp[i]? = some .hole := by
  rw [upd_hp]
  rcases he with ⟨_, as, has, hrd, _, hin, _⟩ | ⟨_, rfl⟩
  · rw [setH_other, hi]
    intro hm
    rcases inIds_iff.1 hin i hm with h | h
    · rw [hrd] at h
      obtain ⟨x, hx, hix⟩ := List.mem_flatMap.1 h
      obtain ⟨u, hu⟩ := (getOs_rel hR.tm has).mem hx
      exact idsA_hole hu i hix hi
    · exact hn h
  · exact hi

theorem trace_list {ops : Array Oper} {Q : Exit → Act → World → Prop} (hE : EOk P E) (hall : all = ops.toList) : ∀ {l : List Oper} {nid : Nat} {σ : St} {es : List Ev} {σ' : St} {a : Act} {w : World} {ok : Nat → Prop} {m : Nat → Value},
    Trace P E all l nid σ es σ' → Rel w0 o0 σ a w ok m → (∀ j, j < newsAll l → σ.hp[nid + j]? = some .hole) → (∀ a' w' ok' m', Rel w0 o0 σ' a' w' ok' m' → Q .normal a' w') → wpList P ops Q l a w
  | [], _, σ, [], σ', a, w, ok, m, ht, hR, _, hQ => by
    have ht : σ = σ' := ht
    subst ht
    exact hQ _ _ _ _ hR
  | o :: l, nid, σ, e :: es, σ', a, w, ok, m, ⟨he, ht⟩, hR, hh, hQ => by
    -- the place of what is still to come stays free
    have hh2 : ∀ j, j < newsAll l → (upd σ o e).hp[nid + newsO o + j]? = some .hole := fun j hj => ev_holes hR he (by rw [Nat.add_assoc]; exact hh _ (by simp only [newsAll]; omega)) (by omega)
    exact ev_next (Q := Q) (K := wpList P ops Q l) hE hall hR (fun j hj => hh j (by simp only [newsAll]; omega)) he fun a' w' ok' m' hR' => trace_list hE hall ht hR' hh2 hQ
end
end Go.Proofs.Ytoplphfgbfcagaa.Ev
