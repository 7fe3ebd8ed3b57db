/-
slices.Reverse, in place, at elements of one cell: off the shelf.
Conditions: at most 2000 elements.
-/
import Derived.Shelf.SlicesE.Reverse
import Derived.Test.YtohdaehblenokaaProg
import Derived.Test.YtohdaehblenokaaGo
import Derived.KernelRfl
set_option linter.unusedVariables false
set_option maxRecDepth 100000
namespace Go.Proofs
open Go Go.Shelf Go.RowKit Go.Lib Go.Sort
def Try.rvI_ren : Go.Shelf.Ren :=
 {f := fun x => match x with
   | 35 => 15
   | n => n
  t := fun x => match x with
   | 0 => 0
   | 3 => 3
   | 4 => 4
   | 22 => 27
   | 23 => 3
   | n => n
  g := fun n => n }
def Try.rvR_ren : Go.Shelf.Ren :=
 {f := fun x => match x with
   | 35 => 17
   | n => n
  t := fun x => match x with
   | 0 => 0
   | 3 => 3
   | 4 => 4
   | 22 => 29
   | 23 => 27
   | n => n
  g := fun n => n }
theorem Try.rvI : SlLaysE.n35 Try.prog Try.rvI_ren where
 mixed := by kernel_rfl
 f35 := ⟨Try.f15.name, by kernel_rfl, by kernel_rfl⟩
 t0 := by kernel_rfl
 a0 := fun w => by kernel_rfl
 z0 := fun w => by kernel_rfl
 v0 := fun w => by kernel_rfl
 t3 := by kernel_rfl
 a3 := fun w => by kernel_rfl
 z3 := fun w => by kernel_rfl
 v3 := fun w => by kernel_rfl
 t4 := by kernel_rfl
 a4 := fun w => by kernel_rfl
 z4 := fun w => by kernel_rfl
 v4 := fun w => by kernel_rfl
 t22 := by kernel_rfl
 a22 := fun w => by kernel_rfl
 z22 := fun w => by kernel_rfl
 v22 := fun w => by kernel_rfl
 a23 := fun w => by kernel_rfl
 z23 := fun w => by kernel_rfl
theorem Try.rvR : SlLaysE.n35 Try.prog Try.rvR_ren where
 mixed := by kernel_rfl
 f35 := ⟨Try.f17.name, by kernel_rfl, by kernel_rfl⟩
 t0 := by kernel_rfl
 a0 := fun w => by kernel_rfl
 z0 := fun w => by kernel_rfl
 v0 := fun w => by kernel_rfl
 t3 := by kernel_rfl
 a3 := fun w => by kernel_rfl
 z3 := fun w => by kernel_rfl
 v3 := fun w => by kernel_rfl
 t4 := by kernel_rfl
 a4 := fun w => by kernel_rfl
 z4 := fun w => by kernel_rfl
 v4 := fun w => by kernel_rfl
 t22 := by kernel_rfl
 a22 := fun w => by kernel_rfl
 z22 := fun w => by kernel_rfl
 v22 := fun w => by kernel_rfl
 a23 := fun w => by kernel_rfl
 z23 := fun w => by kernel_rfl
namespace Ytohdaehblenokaa.Ev
abbrev OneV := { v : Value // v.oneCell' = true }
instance : Inhabited OneV := ⟨⟨.int .i64 0, rfl⟩⟩
theorem holdsE {α : Type} [Inhabited α] {enc : α → Value} {w : World} {g : Nat} {cur : Array Value} {e : TypeId} {ss : List α} (hb : w.heap[g]? = some (.cells cur e (0, 0))) (ht : cur.toList.take ss.length = ss.map enc) : Holds enc w g 0 ss.toArray := by
 intro j hj
 have hj' : j < ss.length := by simpa using hj
 refine ⟨?_, by simp [World.frozen?, hb]⟩
 have h1 : (cur.toList.take ss.length)[j]? = (ss.map enc)[j]? := by rw [ht]
 rw [List.getElem?_take_of_lt hj'] at h1
 simp only [World.cell?, hb, Nat.zero_add]
 simp only [Option.isSome_none, Bool.false_eq_true, if_false]
 rw [← Array.getElem?_toList, h1]
 simp [hj']
theorem heapE {α : Type} [Inhabited α] {enc : α → Value} {w : World} {g n : Nat} {cur : Array Value} {e : TypeId} {fr : Nat × Nat} (d : Array α) (hb : w.heap[g]? = some (.cells cur e fr)) :
  (putRow enc (Sort.ahead w n) g 0 d).heap[g]? = some (.cells (putCells enc 0 d cur) e fr) := by
 simp [putRow, mapBlock, Sort.ahead, Array.getElem?_modify, hb, onCells]
theorem grownE {α : Type} [Inhabited α] {enc : α → Value} {w : World} {g n : Nat} (d : Array α) : w.grownBy (putRow enc (Sort.ahead w n) g 0 d) (some g) := by
 refine ⟨rfl, rfl, rfl, by simp, fun k hk hne => ?_⟩
 have : g ≠ k := fun e => hne (by rw [e])
 simp [putRow, mapBlock, Sort.ahead, Array.getElem?_modify, this]
theorem takeE {α : Type} [Inhabited α] {enc : α → Value} (cur : Array Value) (ts : List α) (h : ts.length ≤ cur.size) : (putCells enc 0 ts.toArray cur).toList.take ts.length = ts.map enc := by
 apply List.ext_getElem?
 intro j
 by_cases hj : j < ts.length
 ·rw [List.getElem?_take_of_lt hj, Array.getElem?_toList]
  simp [putCells, hj, show j < cur.size by omega]
 ·rw [List.getElem?_take_eq_none (by omega), List.getElem?_eq_none (by simp; omega)]
theorem F2.reverse {α β : Type} {r : α → β → Prop} : ∀ {xs : List α} {ys : List β}, F2 r xs ys → F2 r xs.reverse ys.reverse
 | _, _, .nil => .nil
 | _, _, .cons h t => by
  rw [List.reverse_cons, List.reverse_cons]
  exact (F2.reverse t).append (.cons h .nil)
theorem ones {w : World} {ok : Nat → Prop} {t : Ty} (one : ∀ (x : t.D) (c : List Value), Rd w ok t x c → ∃ u : OneV, c = [u.1]) : ∀ {xs : List t.D} {cs : List (List Value)}, F2 (Rd w ok t) xs cs → ∃ zs : List OneV, cs = zs.map (fun z => [z.1]) ∧ zs.length = xs.length
 | _, _, .nil => ⟨[], rfl, rfl⟩
 | _, _, .cons h t => by
  obtain ⟨zs, rfl, hl⟩ := ones one t
  obtain ⟨u, rfl⟩ := one _ _ h
  exact ⟨u :: zs, rfl, by rw [List.length_cons, List.length_cons, hl]⟩
theorem flat_onesV (zs : List OneV) : (zs.map fun z => [z.1]).flatten = zs.map Subtype.val := by
 induction zs with
 | nil => rfl
 | cons z zs ih => rw [List.map_cons, List.flatten_cons, ih]; rfl
theorem rev_mspec {P : Program} {I : World → Prop} {ρ : Ren} (L : SlLaysE.n35 P ρ) {g e : Nat} (hg : ρ.f 35 = g) {t : Ty} (h1 : t.sz = 1) (one : ∀ (w : World) (ok : Nat → Prop) (x : t.D) (c : List Value), Rd w ok t x c → ∃ u : OneV, c = [u.1])
  (hent : ∀ (vs : Array Value) (w : World), (callFunc g vs).run P w = .ok (.enter g vs) w) (xs : List t.D) (hle : xs.length ≤ 2000) : MSpec P I g 0 [.un] e t xs xs.reverse (some (.tup [])) := by
 subst hg
 intro w1 w ok us u hI hB hok ha hu hsl hrow hsep
 refine ⟨hent _ _, ?_⟩
 obtain ⟨cs, hcs, hl, hown⟩ := hrow
 obtain ⟨zs, rfl, hzl⟩ := ones (one w ok) hcs
 rw [flat_onesV] at hown
 cases ha with
 | cons h1' h2 =>
  cases h2
  have hu := Option.some.inj (show some _ = some _ from hu)
  subst hu
  have crev : (zs.map fun z : OneV => [z.1]).reverse = zs.reverse.map fun z => [z.1] := List.map_reverse.symm
  rcases hown with ⟨rfl, h0⟩ | ⟨b, cap, cur, rfl, hg, hb, hn, hcap, hcur, htake⟩
  ·have hx : xs = [] := List.length_eq_zero_iff.mp h0
   subst hx
   have hB0 : RowKit.Below w1.heap.size w w := RowKit.Below.refl _ w
   refine Calls.mono (AnyE.slices_Reverse_empty L none 0 w) ?_
   rintro ex w' ⟨rfl, rfl⟩
   refine ⟨_, rfl, hB0, Nat.le_refl _, fun k _ _ => rfl, ok, .slice none 0 0, [], fun k h => h, fun k h => ⟨.inl h, hok k h⟩, .nil, ⟨by simp, .inl ⟨rfl, rfl⟩⟩, fun k h => ⟨hsep k h, .inl h⟩, rfl, rfl, [], rfl, .nil⟩
  ·have htake : cur.toList.take zs.length = zs.map Subtype.val := by
    rw [← htake, hzl, h1, Nat.mul_one]
   have hH : Holds (Subtype.val : OneV → Value) w b 0 zs.toArray := holdsE hb htake
   have hsz : b < w.heap.size := (Array.getElem?_eq_some_iff.1 hb).1
   have C := AnyE.slices_Reverse L (Subtype.val : OneV → Value) (fun x => x.2) b 0 cap zs w hH (by omega)
   rw [hzl] at C
   refine Calls.mono C ?_
   rintro ex w' ⟨rfl, n, rfl⟩
   have G := grownE (enc := (Subtype.val : OneV → Value)) (w := w) (g := b) (n := n) zs.reverse.toArray
   have O := heapE (enc := (Subtype.val : OneV → Value)) (n := n) zs.reverse.toArray hb
   have hs1 : cur.size = cap := by rw [hcur, h1]; exact Nat.mul_one cap
   have hrl : zs.reverse.length = xs.length := by rw [List.length_reverse, hzl]
   have tk := takeE (enc := (Subtype.val : OneV → Value)) cur zs.reverse (by rw [hrl]; omega)
   refine ⟨_, rfl, below_grown hB hg G, G.size, fun k hk hm => G.block k hk (fun e => hm e.symm), ok, .slice (some ⟨b, 0, none⟩) xs.length cap, (zs.map fun z : OneV => [z.1]).reverse, fun k hk => hk, fun k hk => ⟨.inl hk, Nat.lt_of_lt_of_le (hok k hk) G.size⟩, ?_, ?_, fun k hk => ⟨hsep k hk, .inl hk⟩, List.length_reverse, rfl, [], rfl, .nil⟩
   ·refine (F2.reverse hcs).imp fun x c _ hx => Rd_move (fun k hk hlt => ⟨G.block k hlt (fun e => ?_), hk⟩) hx
    exact hsep b rfl (by rw [← Option.some.inj e]; exact hk)
   ·rw [crev, flat_onesV, List.length_reverse]
    refine ⟨by rw [List.length_map, hrl, h1, Nat.mul_one], .inr ⟨b, cap, _, rfl, hg, O, hn, hcap, by rw [h1]; show (putCells _ 0 _ cur).size = cap * 1; simp [putCells, hs1], ?_⟩⟩
    rw [h1, Nat.mul_one, ← hrl]
    exact tk
theorem okM728 : MHandOk Try.prog inv 15 h_revI := by
 intro args e t xs κ r h
 change h_revIF args e t xs κ = some r at h
 unfold h_revIF at h
 split at h
 case h_2 => simp at h
 split at h
 case h_2 => simp at h
 rename_i xs _ _
 cases hc : Nat.beq e 3 && Nat.ble (List.length xs) 2000 with
 | false => simp [hc] at h
 | true =>
  simp only [hc, cond_true] at h
  obtain ⟨he, hp⟩ := (Bool.and_eq_true _ _).mp hc
  have he := Nat.eq_of_beq_eq_true he
  subst he
  refine ⟨_, _, h, ?_⟩
  exact rev_mspec (t := .int .i64) Try.rvI rfl rfl (fun w ok x c h => ⟨⟨.int .i64 x, rfl⟩, h⟩) (fun vs w => callFunc_enter (show Try.prog.funcs[15]? = some Try.f15 by kernel_rfl) (by kernel_rfl) (by kernel_rfl) vs w) xs (Nat.le_of_ble_eq_true hp)
theorem okM729 : MHandOk Try.prog inv 17 h_revR := by
 intro args e t xs κ r h
 change h_revRF args e t xs κ = some r at h
 unfold h_revRF at h
 split at h
 case h_2 => simp at h
 split at h
 case h_2 => simp at h
 rename_i xs _ _
 cases hc : Nat.beq e 27 && Nat.ble (List.length xs) 2000 with
 | false => simp [hc] at h
 | true =>
  simp only [hc, cond_true] at h
  obtain ⟨he, hp⟩ := (Bool.and_eq_true _ _).mp hc
  have he := Nat.eq_of_beq_eq_true he
  subst he
  refine ⟨_, _, h, ?_⟩
  refine rev_mspec (t := .sl (.int .i64)) Try.rvR rfl rfl (fun w ok x c h => ?_) (fun vs w => callFunc_enter (show Try.prog.funcs[17]? = some Try.f17 by kernel_rfl) (by kernel_rfl) (by kernel_rfl) vs w) xs (Nat.le_of_ble_eq_true hp)
  unfold Rd at h
  obtain ⟨a, n, e, _⟩ := h
  exact ⟨⟨.slice a (List.length x) n, rfl⟩, e⟩
end Ytohdaehblenokaa.Ev
end Go.Proofs
