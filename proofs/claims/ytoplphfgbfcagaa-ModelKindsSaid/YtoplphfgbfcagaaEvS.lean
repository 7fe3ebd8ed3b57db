/-
A whole call: what the evaluator answers is the callee's contract.
Conditions: the environment is sound; the function is the program's, with a body.
-/
import Derived.Test.YtoplphfgbfcagaaEvR
set_option linter.unusedVariables false
set_option linter.unusedSimpArgs false
namespace Go.Proofs.Ytoplphfgbfcagaa.Ev
open Go Go.RowKit

section
variable {P : Program} {E : Env} {w w0 : World} {ok o0 : Nat → Prop} {base : Nat} {H : List Row} {m : Nat → Value} {σ : St} {a : Act}

/-! ### results, fetched -/
def fetch (a : Act) : ResultVar → Sem Value
  | .tmp t => pure (a.tmps.getD t undef)
  | .cell c t => do loadVar t (← asAddr (a.tmps.getD c undef))
theorem resW_ok {rv : ResultVar} {x : AV} (hE : TyOk P E) (hR : Rel w0 o0 σ a w ok m) (h : resW E σ rv = some x) :
    ∃ u, (fetch a rv).run P w = .ok u w ∧ rel w ok σ.hp m x u := by
  cases rv with
  | tmp t =>
    simp only [resW] at h
    split at h
    case h_2 => simp at h
    rename_i y hy
    simp only [Option.some.injEq] at h
    subst h
    have := getO_rel (x := .tmp t) hR.tm hy
    exact ⟨a.tmps.getD t undef, by simp [fetch], this⟩
  | cell c T =>
    simp only [resW] at h
    split at h
    case h_2 => simp at h
    rename_i id off hc
    have hp := getO_rel (x := .tmp c) hR.tm hc
    have hev : a.tmps.getD c undef = a.eval (.tmp c) := rfl
    have go : ∀ {cs : List AV}, (σ.hp[id]? = some (.box cs) ∨ σ.hp[id]? = some (.fbx cs)) → takeW E T (cs.drop off) = some x →
        ∃ u, (fetch a (.cell c T)).run P w = .ok u w ∧ rel w ok σ.hp m x u := by
      intro cs hb ht
      obtain ⟨b, us, e, hcl, hf⟩ := box_cells hR.hr hb hp
      obtain ⟨u, hr, hu⟩ := load_ok hE hcl hf ht
      refine ⟨u, ?_, rel2_rel hu⟩
      simp only [fetch]
      rw [hev, e]
      simp [asAddr, hr]
    split at h
    · rename_i cs hb; exact go (.inl hb) h
    · rename_i cs hb; exact go (.inr hb) h
    · simp at h
theorem resWs_ok (hE : TyOk P E) (hR : Rel w0 o0 σ a w ok m) : ∀ {rs : List ResultVar} {as : List AV}, resWs E σ rs = some as →
    ∃ us, (rs.mapM (fetch a)).run P w = .ok us w ∧ F2 (rel w ok σ.hp m) as us
  | [], as, h => by simp only [resWs, Option.some.injEq] at h; subst h; exact ⟨[], by simp, .nil⟩
  | r :: rs, as, h => by
    simp only [resWs] at h
    split at h
    case h_2 => simp at h
    rename_i x hx
    split at h
    case h_2 => simp at h
    rename_i xs hxs
    simp only [Option.some.injEq] at h
    subst h
    obtain ⟨u, h1, h2⟩ := resW_ok hE hR hx
    obtain ⟨us, h3, h4⟩ := resWs_ok hE hR hxs
    refine ⟨u :: us, ?_, .cons h2 h4⟩
    rw [List.mapM_cons]
    simp [h1, h3]

/-! ### results, handed over -/
theorem shown1_rel' (ids : List Nat) {x : AV} {u : Value} (hH : HRel w ok base H m) (h : rel1 w ok H m x u) :
    rel1 w (okF ok (fun j => j ∈ ids) H m) [] mz (shown1 (rdOf H ids) x) u := by
  by_cases hi : ∀ i ∈ ids1 x, i ∈ ids
  · exact shown1_rel hH hi h
  · have out : ∀ i, i ∉ ids → rdOf H ids i = none := fun i hn => by
      unfold rdOf
      cases hm : memN i ids with
      | false => rfl
      | true => exact absurd (memN_iff.1 hm) hn
    cases x with
    | own id =>
      have hn : id ∉ ids := fun hm => hi fun i hi' => by rw [List.mem_singleton.1 (hi' : i ∈ [id])]; exact hm
      simp only [shown1, out id hn]
      trivial
    | pb id off =>
      have hn : id ∉ ids := fun hm => hi fun i hi' => by rw [List.mem_singleton.1 (hi' : i ∈ [id])]; exact hm
      simp only [shown1, out id hn]
      trivial
    | pe id i off => trivial
    | _ => exact absurd (fun i hi' => by simp [ids1] at hi') hi
theorem relN1_of {okR : Nat → Prop} {mR : Nat → Value} {k : Nat} {x : AV} {u : Value} (h : rel1 w okR [] mz x u) : relN1 w okR mR k x u := by
  cases x <;> first | exact h | exact h.elim
theorem shown1_rows {rd : Nat → Option Row} {x : AV} : rows1 (shown1 rd x) = [] := by
  unfold shown1
  split <;> first | rfl | (split <;> rfl)

def nx1 (H : List Row) (ns : List Nat) (x : AV) : List Nat := (nw1 H x).filter fun i => memN i ns
def nx2 (H : List Row) (ns : List Nat) (x : AV) : List Nat := (nw2 H x).filter fun i => memN i ns
theorem nx1_row {ns : List Nat} {x : AV} {i : Nat} (h : i ∈ nx1 H ns x) : x = .own i ∧ (∃ e t xs, H[i]? = some (.row e t xs)) ∧ i ∈ ns := by
  obtain ⟨h1, h2⟩ := List.mem_filter.1 h
  unfold nw1 at h1
  split at h1
  · rename_i id
    split at h1
    · rename_i e t xs hr
      have := List.mem_singleton.1 h1
      subst this
      exact ⟨rfl, ⟨e, t, xs, hr⟩, memN_iff.1 h2⟩
    · simp at h1
  · simp at h1

section
variable {ns rest : List Nat} {okR : Nat → Prop} {mR : Nat → Value} {rowOf : Nat → Row}
theorem fin1_ok (hH : HRel w ok base H m) (hm : ∀ k i, ns[k]? = some i → mR k = m i) (hro : ∀ i e t xs, i ∈ ns → H[i]? = some (.row e t xs) → rowOf i = .row e t xs) {x : AV} {u : Value} {k : Nat} (h : rel1 w ok H m x u)
    (hk : ∀ j i, (nx1 H ns x)[j]? = some i → ns[k + j]? = some i) :
    relN1 w (okF ok (fun j => j ∈ rest) H m) mR k (fin1 H ns rest x) u ∧ rows1 (fin1 H ns rest x) = (nx1 H ns x).map rowOf := by
  have other : (∀ id, x ≠ .own id) → fin1 H ns rest x = shown1 (rdOf H rest) x ∧ nx1 H ns x = [] := fun hn => by
    cases x <;> first | exact ⟨rfl, rfl⟩ | exact absurd rfl (hn _)
  by_cases hx : ∃ id, x = .own id
  · obtain ⟨id, rfl⟩ := hx
    cases hb : memN id ns with
    | false =>
      have e1 : fin1 H ns rest (.own id) = shown1 (rdOf H rest) (.own id) := by simp only [fin1, hb, cond_false]
      have e2 : nx1 H ns (.own id) = [] := by
        unfold nx1
        rw [List.filter_eq_nil_iff]
        intro i hi
        have : i = id := by
          unfold nw1 at hi
          simp only at hi
          split at hi
          · exact List.mem_singleton.1 hi
          · simp at hi
        rw [this, hb]
        simp
      rw [e1, e2]
      exact ⟨relN1_of (shown1_rel' rest hH h), shown1_rows⟩
    | true =>
      have hin := memN_iff.1 hb
      simp only [rel1] at h
      cases hq : H[id]? with
      | none => rw [hq] at h; exact h.2.elim
      | some q =>
        rw [hq] at h
        have e0 : ∀ (_ : ∀ e t xs, q ≠ .row e t xs), fin1 H ns rest (.own id) = .un ∧ nx1 H ns (.own id) = [] := fun hn => by
          constructor
          · simp only [fin1, hb, cond_true, hq]
            cases q <;> first | rfl | exact absurd rfl (hn _ _ _)
          · unfold nx1 nw1
            simp only [hq]
            cases q <;> first | rfl | exact absurd rfl (hn _ _ _)
        cases q with
        | row e t xs =>
          have e1 : fin1 H ns rest (.own id) = .nw e t xs := by simp only [fin1, hb, cond_true, hq]
          have e2 : nx1 H ns (.own id) = [id] := by unfold nx1 nw1; simp [hq, hb]
          rw [e1, e2]
          refine ⟨⟨h.1, ?_⟩, ?_⟩
          · rw [hm k id (hk 0 id (by rw [e2]; rfl))]; exact h.2
          · simp only [rows1, List.map_cons, List.map_nil, hro id e t xs hin hq]
        | _ =>
          obtain ⟨e1, e2⟩ := e0 (by simp)
          rw [e1, e2]
          exact ⟨trivial, rfl⟩
  · obtain ⟨e1, e2⟩ := other fun id e => hx ⟨id, e⟩
    rw [e1, e2]
    exact ⟨relN1_of (shown1_rel' rest hH h), shown1_rows⟩
theorem finL1_ok (hH : HRel w ok base H m) (hm : ∀ k i, ns[k]? = some i → mR k = m i) (hro : ∀ i e t xs, i ∈ ns → H[i]? = some (.row e t xs) → rowOf i = .row e t xs) :
    ∀ {cs : List AV} {us : List Value} {k : Nat}, F2 (rel1 w ok H m) cs us → (∀ j i, (cs.flatMap (nx1 H ns))[j]? = some i → ns[k + j]? = some i) →
      relL1 w (okF ok (fun j => j ∈ rest) H m) mR k (cs.map (fin1 H ns rest)) us ∧ (cs.map (fin1 H ns rest)).flatMap rows1 = (cs.flatMap (nx1 H ns)).map rowOf
  | [], _, k, .nil, _ => ⟨trivial, rfl⟩
  | x :: cs, _, k, @F2.cons _ _ _ _ u _ us h t, hk => by
    obtain ⟨h1, h2⟩ := fin1_ok (rest := rest) hH hm hro h fun j i hj => hk j i (by rw [List.flatMap_cons, List.getElem?_append_left (List.getElem?_eq_some_iff.1 hj).1]; exact hj)
    obtain ⟨h3, h4⟩ := finL1_ok hH hm hro (k := k + (rows1 (fin1 H ns rest x)).length) t fun j i hj => by
      rw [h2, List.length_map, Nat.add_assoc]
      exact hk _ i (by rw [List.flatMap_cons, List.getElem?_append_right (by omega), Nat.add_sub_cancel_left]; exact hj)
    refine ⟨⟨h1, h3⟩, ?_⟩
    rw [List.map_cons, List.flatMap_cons, h2, h4, List.flatMap_cons, List.map_append]
theorem nx2_agg {cs : List AV} : nx2 H ns (.agg cs) = cs.flatMap (nx1 H ns) := by
  show (cs.flatMap (nw1 H)).filter _ = _
  rw [List.filter_flatMap]
  rfl
theorem fin2_ok (hH : HRel w ok base H m) (hm : ∀ k i, ns[k]? = some i → mR k = m i) (hro : ∀ i e t xs, i ∈ ns → H[i]? = some (.row e t xs) → rowOf i = .row e t xs) {x : AV} {u : Value} {k : Nat} (h : rel w ok H m x u)
    (hk : ∀ j i, (nx2 H ns x)[j]? = some i → ns[k + j]? = some i) :
    relN2 w (okF ok (fun j => j ∈ rest) H m) mR k (fin2 H ns rest x) u ∧ rows2 (fin2 H ns rest x) = (nx2 H ns x).map rowOf ∧ ∀ cs, fin2 H ns rest x ≠ .tup cs := by
  have notup : ∀ x, (∀ cs, x ≠ AV.agg cs) → ∀ cs, fin1 H ns rest x ≠ .tup cs ∧ fin1 H ns rest x ≠ .agg cs := by
    intro x hx cs
    have hs : ∀ rd, shown1 rd x ≠ .tup cs ∧ shown1 rd x ≠ .agg cs := fun rd => by
      unfold shown1
      split <;> first | (constructor <;> simp; done) | (split <;> constructor <;> simp)
    cases x with
    | own id =>
      simp only [fin1]
      cases memN id ns with
      | true =>
        simp only [cond_true]
        split <;> constructor <;> simp
      | false => exact hs (rdOf H rest)
    | _ => exact hs (rdOf H rest)
  have one : (∀ cs, x ≠ .agg cs) → rel1 w ok H m x u → (nx2 H ns x = nx1 H ns x) → fin2 H ns rest x = fin1 H ns rest x →
      relN2 w (okF ok (fun j => j ∈ rest) H m) mR k (fin2 H ns rest x) u ∧ rows2 (fin2 H ns rest x) = (nx2 H ns x).map rowOf ∧ ∀ cs, fin2 H ns rest x ≠ .tup cs := fun hx h e1 e2 => by
    rw [e1] at hk
    obtain ⟨h1, h2⟩ := fin1_ok (rest := rest) hH hm hro h hk
    rw [e2, e1]
    have hn := notup x hx
    refine ⟨?_, ?_, fun cs => (hn cs).1⟩
    · cases hf : fin1 H ns rest x <;> rw [hf] at h1 <;> first | exact h1 | exact absurd hf (hn _).2
    · cases hf : fin1 H ns rest x <;> rw [hf] at h2 <;> first | exact h2 | exact absurd hf (hn _).2
  cases x with
  | agg cs =>
    obtain ⟨us, rfl, hf⟩ := h
    rw [nx2_agg] at hk
    obtain ⟨h1, h2⟩ := finL1_ok (rest := rest) hH hm hro hf hk
    exact ⟨⟨us, rfl, h1⟩, by rw [nx2_agg]; exact h2, by simp [fin2]⟩
  | tup cs => exact ⟨trivial, rfl, by simp [fin2, fin1, shown1]⟩
  | fn g fs cs => exact ⟨trivial, rfl, by simp [fin2, fin1, shown1]⟩
  | _ => exact one (by simp) h rfl rfl
theorem finL2_ok (hH : HRel w ok base H m) (hm : ∀ k i, ns[k]? = some i → mR k = m i) (hro : ∀ i e t xs, i ∈ ns → H[i]? = some (.row e t xs) → rowOf i = .row e t xs) :
    ∀ {cs : List AV} {us : List Value} {k : Nat}, F2 (rel w ok H m) cs us → (∀ j i, (cs.flatMap (nx2 H ns))[j]? = some i → ns[k + j]? = some i) →
      relL2 w (okF ok (fun j => j ∈ rest) H m) mR k (cs.map (fin2 H ns rest)) us ∧ (cs.map (fin2 H ns rest)).flatMap rows2 = (cs.flatMap (nx2 H ns)).map rowOf
  | [], _, k, .nil, _ => ⟨trivial, rfl⟩
  | x :: cs, _, k, @F2.cons _ _ _ _ u _ us h t, hk => by
    obtain ⟨h1, h2, _⟩ := fin2_ok (rest := rest) hH hm hro h fun j i hj => hk j i (by rw [List.flatMap_cons, List.getElem?_append_left (List.getElem?_eq_some_iff.1 hj).1]; exact hj)
    obtain ⟨h3, h4⟩ := finL2_ok hH hm hro (k := k + (rows2 (fin2 H ns rest x)).length) t fun j i hj => by
      rw [h2, List.length_map, Nat.add_assoc]
      exact hk _ i (by rw [List.flatMap_cons, List.getElem?_append_right (by omega), Nat.add_sub_cancel_left]; exact hj)
    refine ⟨⟨h1, h3⟩, ?_⟩
    rw [List.map_cons, List.flatMap_cons, h2, h4, List.flatMap_cons, List.map_append]
end

theorem finW_ok {ns : List Nat} {as : List AV} {us : List Value} {r : AV} (hH : HRel w ok base H m) (ha : F2 (rel w ok H m) as us) (hns : ns = as.flatMap (nx2 H ns)) (h : (bif nodupN ns then some (tupW (as.map (fin2 H ns (restN ns (as.flatMap idsA))))) else none) = some r) :
    ∃ okR mR, HRel w okR base (rowsA r) mR ∧ relNA w okR mR r (if h : us.toArray.size = 1 then us.toArray[0] else .tuple us.toArray) ∧ ∀ k, okR k → ok k ∨ base ≤ k := by
  cases hn : nodupN ns with
  | false => simp [hn] at h
  | true =>
    simp only [hn, cond_true, Option.some.injEq] at h
    generalize hrest : restN ns (as.flatMap idsA) = rest at h
    have hrn : ∀ i, i ∈ ns → i ∉ rest := by
      have : ∀ (l : List Nat) i, i ∈ restN ns l → i ∉ ns := by
        intro l
        induction l with
        | nil => intro i hi; simp [restN] at hi
        | cons j l ih =>
          intro i hi
          simp only [restN] at hi
          cases hb : memN j ns with
          | true => rw [hb] at hi; exact ih i hi
          | false =>
            rw [hb] at hi
            rcases List.mem_cons.1 hi with rfl | hi
            · intro hm; rw [memN_iff.2 hm] at hb; simp at hb
            · exact ih i hi
      intro i hi hr
      rw [← hrest] at hr
      exact this _ i hr hi
    obtain ⟨hH1, _⟩ := freeze_ok (fun j => j ∈ rest) hH (stay_at rest)
    have hT := tidy_hrel (o := ns) hn hH1
    have hrow : ∀ i e t xs, i ∈ ns → H[i]? = some (.row e t xs) → renR ns ((setH H (rest.flatMap (stay (rdOf H rest)))).getD i .dead) = .row e t xs := by
      intro i e t xs hi hq
      rcases stay_at (H := H) rest i with ⟨_, e1⟩ | ⟨h1, _⟩
      · rw [List.getD_eq_getElem?_getD, e1, hq]; rfl
      · exact absurd h1 (hrn i hi)
    have hmk : ∀ k i, ns[k]? = some i → (fun j => m (ns.getD j 0)) k = m i := fun k i hk => by
      show m (ns.getD k 0) = m i
      rw [List.getD_eq_getElem?_getD, hk]
      rfl
    obtain ⟨h1, h2⟩ := finL2_ok (rest := rest) (k := 0) (ns := ns) (mR := fun j => m (ns.getD j 0)) (rowOf := fun i => renR ns ((setH H (rest.flatMap (stay (rdOf H rest)))).getD i .dead)) hH hmk hrow ha (fun j i hj => by
      rw [Nat.zero_add, hns]; exact hj)
    rw [← hns] at h2
    have single : ∀ x u, as = [x] → us = [u] → (∀ cs, fin2 H ns rest x ≠ .tup cs) := fun x u e1 e2 => by
      subst e1; subst e2
      cases ha with
      | cons hx _ => exact (fin2_ok (rest := rest) (k := 0) (ns := ns) (mR := fun j => m (ns.getD j 0)) (rowOf := fun i => renR ns ((setH H (rest.flatMap (stay (rdOf H rest)))).getD i .dead)) hH hmk hrow hx (fun j i hj => by
          rw [Nat.zero_add, hns]; simpa using hj)).2.2
    have hrows : rowsA r = ns.map fun i => renR ns ((setH H (rest.flatMap (stay (rdOf H rest)))).getD i .dead) := by
      rw [← h2, ← h]
      cases ha with
      | nil => rfl
      | @cons x u as' us' hx t =>
        cases t with
        | nil =>
          have hs := single x u rfl rfl
          show rowsA (fin2 H ns rest x) = _
          simp only [List.map_cons, List.map_nil, List.flatMap_cons, List.flatMap_nil, List.append_nil]
          cases hf : fin2 H ns rest x <;> first | rfl | exact absurd hf (hs _)
        | cons h' t' => rfl
    refine ⟨_, _, by rw [hrows]; exact hT, ?_, okF_bd hH⟩
    subst h
    cases ha with
    | nil => exact ⟨[], rfl, trivial⟩
    | @cons x u as' us' hx t =>
      cases t with
      | nil =>
        have hs := single x u rfl rfl
        have hu : (if h : [u].toArray.size = 1 then [u].toArray[0] else Value.tuple [u].toArray) = u := rfl
        rw [hu]
        show relNA w _ _ (fin2 H ns rest x) u
        have h1 := h1.1
        cases hf : fin2 H ns rest x <;> rw [hf] at h1 <;> first | exact h1 | exact absurd hf (hs _)
      | @cons x' u' as'' us'' h' t' =>
        have hu : (if h : (u :: u' :: us'').toArray.size = 1 then (u :: u' :: us'').toArray[0] else Value.tuple (u :: u' :: us'').toArray) = Value.tuple (u :: u' :: us'').toArray := by
          rw [dif_neg (by simp)]
        rw [hu]
        exact ⟨_, rfl, h1⟩

theorem end_ok {fn : Func} {own : Bool} {r : AV} (hE : TyOk P E) (hR : Rel w0 o0 σ a w ok m) (h : endW E own fn.results.toList σ = some r) :
    a.defers = [] ∧ ∃ v, (results fn a.tmps).run P w = .ok v w ∧ Below w0.heap.size w0 w ∧ ResRel w0.heap.size o0 w r v := by
  unfold endW at h
  split at h
  case h_2 => simp at h
  rename_i as has
  obtain ⟨us, h1, h2⟩ := resWs_ok hE hR has
  unfold endW.finW at h
  generalize hns : (bif own then as.flatMap (nw2 σ.hp) else []) = ns at h
  have hnx : ns = as.flatMap (nx2 σ.hp ns) := by
    cases own with
    | true =>
      simp only [cond_true] at hns
      have : ∀ l : List AV, (∀ x ∈ l, ∀ i ∈ nw2 σ.hp x, i ∈ ns) → l.flatMap (nx2 σ.hp ns) = l.flatMap (nw2 σ.hp) := by
        intro l
        induction l with
        | nil => intro _; rfl
        | cons x l ih =>
          intro hx
          rw [List.flatMap_cons, List.flatMap_cons, ih fun y hy => hx y (List.mem_cons_of_mem _ hy)]
          congr 1
          unfold nx2
          rw [List.filter_eq_self]
          exact fun i hi => memN_iff.2 (hx x List.mem_cons_self i hi)
      rw [this as fun x hx i hi => by rw [← hns]; exact List.mem_flatMap.2 ⟨x, hx, hi⟩]
      exact hns.symm
    | false =>
      simp only [cond_false] at hns
      subst hns
      symm
      rw [List.flatMap_eq_nil_iff]
      intro x _
      unfold nx2
      rw [List.filter_eq_nil_iff]
      intro i _
      simp [memN]
  obtain ⟨okR, mR, g1, g2, g3⟩ := finW_ok hR.hr h2 hnx h
  refine ⟨hR.df, _, ?_, hR.bw, okR, mR, g1, g2, fun k hk => (g3 k hk).elim (hR.bd k) .inr⟩
  have e : results fn a.tmps = (do
      let vs ← fn.results.mapM (fetch a)
      pure (if h : vs.size = 1 then vs[0] else .tuple vs)) := rfl
  rw [e, Array.mapM_eq_mapM_toList]
  simp [h1]

theorem callW_ok {fn : Func} {c : Code} {f k : Nat} {own : Bool} {args : List AV} {r : AV} (hE : EOk P E) (hmix : P.follows .mixedOrders = true) (hf : P.funcs[f]? = some fn) (hname : (fn.name == "runtime.NumGoroutine") = false) (hbody : fn.body = some c)
    (h : callW E own fn k args = some r) : CallSpec P f args r := by
  intro w ok us hok ha
  refine .inl ⟨callFunc_enter hf hname (by rw [hbody]; rfl) _ _, ?_⟩
  unfold callW at h
  have hbo : bodyOf fn = c := by unfold bodyOf; rw [hbody]; rfl
  rw [hbo] at h
  refine calls_of_wp hf hbody ?_
  have hR : Rel w ok (startW fn args) { tmps := us.toArray ++ Array.replicate (fn.ntmps - us.toArray.size) undef, defers := [] } w ok mz := by
    refine ⟨?_, rfl, ⟨hok, fun id r h => by simp [startW] at h, fun id r k h => by simp [startW] at h, fun i j ri rj k h => by simp [startW] at h⟩, Below.refl _ _, fun k hk => .inl hk⟩
    have hl := ha.length
    simp only [startW, Array.toList_append, Array.toList_replicate, List.size_toArray]
    rw [← hl]
    refine ha.append ?_
    generalize fn.ntmps - args.length = q
    induction q with
    | zero => exact .nil
    | succ q ih => exact .cons trivial ih
  have fin : ∀ (σ : St) (a : Act) (w' : World) (ok' : Nat → Prop) (m' : Nat → Value), endW E own fn.results.toList σ = some r → Rel w ok σ a w' ok' m' →
      a.defers = [] ∧ ∃ v, (results fn a.tmps).run P w' = .ok v w' ∧ ∃ u, Ending.returned v = Ending.returned u ∧ Below w.heap.size w w' ∧ ResRel w.heap.size ok w' r u := by
    intro σ a w' ok' m' he hR'
    obtain ⟨h1, v, h2, h3, h4⟩ := end_ok hE.ty hR' he
    exact ⟨h1, v, h2, v, rfl, h3, h4⟩
  exact runC_ok hE hmix (fun c K σ a w ok m Q h hR hK => loopF_ok hE hmix k c K σ a w ok m Q h hR hK) c _ _ _ _ _ _ _ h hR
    ⟨fun σ a w' ok' m' he hR' => fin σ a w' ok' m' he hR', fun σ a w' ok' m' he hR' => fin σ a w' ok' m' he hR', fun id k σ a w' ok' m' hk => by simp [look] at hk⟩
end
end Go.Proofs.Ytoplphfgbfcagaa.Ev
