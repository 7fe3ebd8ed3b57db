/-
Contracts: lex.run, lex.Name, model.variables.
Conditions: as the handlers ask.
Whether a model may be: what both functions answer; the answers are the same.
Conditions: small models (at most 2000 of each, lists of at most 1000).
Seat 'a': what the arguments read as; a law's call by its contract.
Conditions: none.
Seat 'a': what every row of it shares: the table, a world for the witness.
Conditions: none.
-/
import Derived.Test.YtlfdikofmfhefaaGreatDoorIe
import Derived.Test.YtlfdikofmfhefaaGreatDoorEvR
import Derived.Test.YtlfdikofmfhefaaGreatDoorIc
import Derived.Test.YtlfdikofmfhefaaGreatDoorBh
import Derived.Test.YtlfdikofmfhefaaGreatDoorCards
import Derived.Test.YtlfdikofmfhefaaGreatDoorTie
import Derived.ProofKit
import Derived.OpenShut
import Derived.Carry
import Derived.Deep.DeepHandedRow
import Derived.Lib.LaidTab
set_option linter.unusedVariables false
set_option linter.unusedSimpArgs false
set_option maxRecDepth 100000
namespace Go.Proofs
open Go Go.RowKit Go.WideMaps Go.Maps
theorem Tryz.vars_none (w : World) (pn : Option Addr) (cn : Nat) (vd vc : Value) (g o : Int) :
  Calls Tryz.prog 22 #[.agg #[.slice pn 0 cn, vd, vc, .int .i64 g, .int .i64 o]] w fun e w' => e = .returned (.int .i64 0) ∧ Below w.heap.size w w' := by
 have hmm := @run_makeMap Tryz.prog
 have k1 : keyOf Tryz.prog 9 (.string ⟨#[118, 97, 114]⟩) = some (YtlfdikofmfhefaaGreatDoor.Ev.keyL ⟨#[118, 97, 114]⟩) := keyOf_string_mk Tryz.undS (by unfold maxLen; decide)
 have k2 : keyOf Tryz.prog 9 (.string ⟨#[99, 111, 110, 115, 116, 114, 97, 105, 110, 116]⟩) = some (YtlfdikofmfhefaaGreatDoor.Ev.keyL ⟨#[99, 111, 110, 115, 116, 114, 97, 105, 110, 116]⟩) := keyOf_string_mk Tryz.undS (by unfold maxLen; decide)
 have k3 : keyOf Tryz.prog 9 (.string ⟨#[115, 111, 108, 118, 101]⟩) = some (YtlfdikofmfhefaaGreatDoor.Ev.keyL ⟨#[115, 111, 108, 118, 101]⟩) := keyOf_string_mk Tryz.undS (by unfold maxLen; decide)
 have pe : ∀ n : Int, (Lit.int .i64 n).wf = true → plainElem (H := Unit) Tryz.prog 3 (.int .i64 n) = some (YtlfdikofmfhefaaGreatDoor.Ev.i64D n, []) := fun n h => plainElem_int Tryz.undI h
 have o0 := World.ownsMap_made (w.alloc (.cells #[.slice pn 0 cn, vd, vc, .int .i64 g, .int .i64 o] 27)) Tryz.prog 9 (plainElem (H := Unit) Tryz.prog 3)
 rw [World.size_alloc] at o0
 obtain ⟨w1, r1, o1, g1⟩ := o0.update Tryz.keyed Tryz.undMap (by unfold maxLen; omega) k1 (pe 1 (by decide))
 obtain ⟨w2, r2, o2, g2⟩ := o1.update Tryz.keyed Tryz.undMap (by unfold maxLen; omega) k2 (pe 1 (by decide))
 obtain ⟨w3, r3, o3, g3⟩ := o2.update Tryz.keyed Tryz.undMap (by unfold maxLen; omega) k3 (pe 1 (by decide))
 have G := (g1.trans g2).trans g3
 have hB3 : Below w.heap.size w w3 := ⟨G.os, G.tape, G.output, Nat.le_trans (by rw [World.size_alloc, World.size_alloc]; omega) G.size, fun k hk => (G.block k (by rw [World.size_alloc, World.size_alloc]; omega) (fun e => by have := Option.some.inj e; omega)).trans (by
  rw [Below.heap_alloc _ _ k (by rw [World.size_alloc]; omega), Below.heap_alloc _ _ k hk])⟩
 have hbx : w3.heap[w.heap.size]? = some (.cells #[.slice pn 0 cn, vd, vc, .int .i64 g, .int .i64 o] 27) :=
  (G.block w.heap.size (by rw [World.size_alloc, World.size_alloc]; omega) (fun e => by have := Option.some.inj e; omega)).trans (by
   rw [Below.heap_alloc _ _ _ (by rw [World.size_alloc]; omega)]
   show (w.heap.push _)[w.heap.size]? = _
   simp)
 have hc0 : w3.cell? ⟨w.heap.size, 0, none⟩ = some (.slice pn 0 cn) := by rw [YtlfdikofmfhefaaGreatDoor.Ev.cell_box hbx]; rfl
 go_enter Tryz.func22, Tryz.ntmps22
 go_wp2
 refine wp_loop_rounds 1 ?_
 rw [rounds_succ]
 go_wp2
 go_ret
 exact ⟨rfl, hB3⟩
namespace YtlfdikofmfhefaaGreatDoor.Ev
theorem spec_bool {I : World → Prop} {f : Nat} {fn : Func} {args : List AV} {b : Bool} (hf : Tryz.prog.funcs[f]? = some fn) (h1 : (fn.name == "runtime.NumGoroutine") = false) (h2 : fn.body.isNone = false) (h : CallSpec Tryz.prog I f args (.v .bool b)) {us : List Value} {W : World} (hI : I W) (hr : F2 (rel W (oldB W) [] mz) args us) :
  Calls Tryz.prog f us.toArray W fun e w' => e = .returned (.bool b) ∧ Below W.heap.size W w' := by
 have hent := callFunc_enter hf h1 h2 us.toArray W
 rcases h W (oldB W) us hI (fun _ h => h) hr with ⟨_, h⟩ | ⟨u, h, _⟩
 ·refine h.mono fun e w' he => ?_
  obtain ⟨u, rfl, hB, okR, mR, _, hr, _⟩ := he
  have hr : rel w' okR [] mz (.v .bool b) u := hr
  rw [rd_bool hr]
  exact ⟨rfl, hB⟩
 ·rw [hent] at h
  simp at h
theorem cs654 (c : Int) : CallSpec Go.Proofs.Tryz.prog inv 99 [.v (.int .i32) c] (.v .bool (innerI c)) := callW_ok (own := false) (k := 1) F654.eok mixed Go.Proofs.Tryz.func99 (by kernel_rfl) (show Go.Proofs.Tryz.f99.body = some (bodyOf Go.Proofs.Tryz.f99) by kernel_rfl) (F654.sem 1 c)
theorem cs653 (s : ByteArray) : CallSpec Go.Proofs.Tryz.prog inv 98 [.v .str s, .fn 99 [] []] (.v (.int .i64) (runD s)) := by
 intro w ok us hI hok ha
 cases ha with
 | cons h1 h2 =>
  cases h2 with
  | cons h3 h4 =>
   cases h4
   have e1 := rd_str h1
   subst e1
   obtain ⟨fs, vs, rfl, hf, hv⟩ := h3
   cases hf
   cases hv
   refine .inl ⟨callFunc_enter Go.Proofs.Tryz.func98 (by kernel_rfl) (by kernel_rfl) _ _, ?_⟩
   refine (Go.Proofs.Tryz.run_any s w fun c W hW => spec_bool Go.Proofs.Tryz.func99 (by kernel_rfl) (by kernel_rfl) (cs654 c) (keep_inv w W hI hW) (.cons rfl .nil)).mono ?_
   rintro e w' ⟨rfl, hB⟩
   exact ⟨_, rfl, hB, flat_res hok hB.size⟩
theorem ok653 : HandOk Go.Proofs.Tryz.prog inv 98 h_run := by
 intro args κ r h
 unfold h_run at h
 split at h
 case h_2 => simp at h
 rename_i x0
 cases hp : pullA .str x0 with
 | none => simp [hp] at h
 | some s =>
  simp only [hp] at h
  refine ⟨_, h, spec_args (args' := [.v .str s, .fn 99 [] []]) (fun w okk us hf => ?_) (cs653 s)⟩
  cases hf with
  | cons a b => exact .cons (pullA_rel hp a) b
theorem F596.eok : EOk Go.Proofs.Tryz.prog F596.E := eo (calls_cons ok652 (calls_cons ok653 calls_nil))
theorem cs596 (s : ByteArray) : CallSpec Go.Proofs.Tryz.prog inv 50 [.v .str s] (.v .bool (nameX s)) := callW_ok (own := false) (k := 1) F596.eok mixed Go.Proofs.Tryz.func50 (by kernel_rfl) (show Go.Proofs.Tryz.f50.body = some (bodyOf Go.Proofs.Tryz.f50) by kernel_rfl) (F596.sem 1 s)
theorem cs597 (l : List Int) : CallSpec Go.Proofs.Tryz.prog inv 51 [.v (.sl (.int .i64)) l] (.v .bool (listedX l)) := callW_ok (own := false) (k := 1) F597.eok mixed Go.Proofs.Tryz.func51 (by kernel_rfl) (show Go.Proofs.Tryz.f51.body = some (bodyOf Go.Proofs.Tryz.f51) by kernel_rfl) (F597.sem 1 l)
theorem strs_flat {w : World} {ok : Nat → Prop} : ∀ {ns : List ByteArray} {us : List (List Value)}, F2 (Rd w ok .str) ns us → us.flatten = ns.map Value.string
 | [], _, .nil => rfl
 | x :: xs, _, .cons h t => by
  have h1 : _ = [Value.string x] := h
  rw [List.flatten_cons, strs_flat t, h1]
  rfl
theorem sls_flat {w : World} {ok : Nat → Prop} {t : Ty} : ∀ {ds : List (List t.D)} {us : List (List Value)}, F2 (Rd w ok (.sl t)) ds us → us.flatten.length = ds.length ∧ ∀ j (hj : j < us.flatten.length) (hd : j < ds.length), Rd w ok (.sl t) ds[j] [us.flatten[j]]
 | [], _, .nil => ⟨rfl, fun j hj => by simp at hj⟩
 | x :: xs, _, .cons h t' => by
  obtain ⟨h1, h2⟩ := sls_flat t'
  have h' := h
  unfold Rd at h'
  obtain ⟨a, c, e, _⟩ := h'
  subst e
  refine ⟨by rw [List.flatten_cons, List.length_append, h1, List.length_cons, List.length_cons]; simp; omega, fun j hj hd => ?_⟩
  cases j with
  | zero => exact h
  | succ j =>
   have := h2 j (by simp at hj; simpa using hj) (by simpa using hd)
   simpa using this
theorem cs546 (ns : List ByteArray) (ds : List (List Int)) (cs : List Con) (g o : Int) (hn : ns.length ≤ 2000) (hl : ns.length = ds.length) (hsz : ∀ s ∈ ns, s.size ≤ 1000) :
  CallSpec Tryz.prog inv 22 [.agg [.v (.sl .str) ns, .v (.sl (.sl (.int .i64))) ds, .v (.sl ConT) cs, .v (.int .i64) g, .v (.int .i64) o]] (.v (.int .i64) (varsGo [] ns ds)) := by
 intro w ok us hI hok ha
 cases ha with
 | cons h1 h2 =>
  cases h2
  obtain ⟨vs, rfl, hf⟩ := h1
  cases hf with
  | cons a1 hf =>
   cases hf with
   | cons a2 hf =>
    cases hf with
    | cons a3 hf =>
     cases hf with
     | cons a4 hf =>
      cases hf with
      | cons a5 hf =>
       cases hf
       rename_i v1 v2 v3 v4 v5
       have e4 : v4 = .int .i64 g := rd_int (H := []) (m := mz) (show rel w ok [] mz (.v (.int .i64) g) v4 from a4)
       have e5 : v5 = .int .i64 o := rd_int (H := []) (m := mz) (show rel w ok [] mz (.v (.int .i64) o) v5 from a5)
       subst e4 e5
       have a1 : Rd w ok (.sl .str) ns [v1] := a1
       have a2 : Rd w ok (.sl (.sl (.int .i64))) ds [v2] := a2
       unfold Rd at a1 a2
       obtain ⟨p1, c1, e1, _, _, x1⟩ := a1
       obtain ⟨p2, c2, e2, _, _, x2⟩ := a2
       have e1 := (List.cons.inj e1).1
       have e2 := (List.cons.inj e2).1
       subst e1 e2
       refine .inl ⟨callFunc_enter Tryz.func22 (by kernel_rfl) (by kernel_rfl) _ _, ?_⟩
       by_cases hne : ns = []
       ·subst hne
        have hd0 : ds = [] := List.length_eq_zero_iff.mp hl.symm
        subst hd0
        refine (Tryz.vars_none w p1 c1 _ v3 g o).mono ?_
        rintro e w' ⟨rfl, hB⟩
        exact ⟨_, rfl, hB, flat_res hok hB.size⟩
       ·have hdn : ds ≠ [] := fun q => hne (List.length_eq_zero_iff.mp (by rw [hl, q]; rfl))
        obtain ⟨an, us1, rfl, ho1, hF1, hC1⟩ := x1 hne
        obtain ⟨ad, us2, rfl, ho2, hF2, hC2⟩ := x2 hdn
        have f1 := strs_flat hF1
        obtain ⟨f2, f3⟩ := sls_flat hF2
        have hl' : ds.length = ns.length := hl.symm
        have K := Tryz.vars_any w ns ds an ad c1 c2 (fun j => us2.flatten.getD j undef) v3 g o hl' hn hsz (hok _ ho1) (hok _ ho2)
         (fun j hj => hC1 j _ (by rw [f1, List.getElem?_map, List.getElem?_eq_getElem hj, List.getD_eq_getElem?_getD, List.getElem?_eq_getElem hj]; rfl))
         (fun j hj => hC2 j _ (by rw [List.getD_eq_getElem?_getD, List.getElem?_eq_getElem (show j < us2.flatten.length by rw [f2]; exact hj)]; rfl))
         (fun s W hW => spec_bool Tryz.func50 (by kernel_rfl) (by kernel_rfl) (cs596 s) (keep_inv w W hI hW) (.cons rfl .nil))
         (fun i W hi hW => spec_bool Tryz.func51 (by kernel_rfl) (by kernel_rfl) (cs597 (ds.getD i [])) (keep_inv w W hI hW) (.cons (by
          have := f3 i (by rw [f2]; exact hi) hi
          show Rd W (oldB W) (.sl (.int .i64)) (ds.getD i []) [us2.flatten.getD i undef]
          rw [List.getD_eq_getElem?_getD, List.getD_eq_getElem?_getD, List.getElem?_eq_getElem hi, List.getElem?_eq_getElem (show i < us2.flatten.length by rw [f2]; exact hi)]
          exact Rd_move (fun k hk hlt => ⟨hW.block k hlt, Nat.lt_of_lt_of_le hlt hW.size⟩) this) .nil))
        have K : Calls Tryz.prog 22 #[.agg #[.slice (some an) ns.length c1, .slice (some ad) ds.length c2, v3, .int .i64 g, .int .i64 o]] w (fun e w' => e = .returned (.int .i64 (varsGo [] ns ds)) ∧ RowKit.Below w.heap.size w w') := by
         rw [hl']
         exact K
        refine Calls.mono K ?_
        rintro e w' ⟨rfl, hB⟩
        exact ⟨_, rfl, hB, flat_res hok hB.size⟩
theorem ok546 : HandOk Tryz.prog inv 22 h_varsX := hand_if fun xs hc => by
 have hc := (Bool.and_eq_true _ _).mp hc
 have hm := hc.1
 unfold modelB at hm
 simp only [Bool.and_eq_true, Nat.ble_eq] at hm
 exact cs546 xs.1.1 xs.1.2.1 xs.1.2.2.1 xs.1.2.2.2.1 xs.1.2.2.2.2 hm.1 (of_decide_eq_true hc.2) (fun s hs => Nat.le_of_ble_eq_true (List.all_eq_true.mp hm.2.2.2.1 s hs))
end YtlfdikofmfhefaaGreatDoor.Ev
end Go.Proofs
set_option linter.unusedVariables false
set_option linter.unusedSimpArgs false
set_option maxRecDepth 100000
namespace Go.Proofs.YtlfdikofmfhefaaGreatDoor.Ev
open Go Go.RowKit
theorem name_same (s : ByteArray) : nameX s = nameY s := by
 have w1 : ∀ d i, 0 < i → wordYGo s d i = runGo s d i := by
  intro d
  induction d with
  | zero => intro i _; rfl
  | succ d ih =>
   intro i hi
   show (if !(letterI (byteW s i)) && (decide (i = 0) || (!(digitI (byteW s i)) && !(decide (byteW s i = 95)))) then i else wordYGo s d (i + 1)) = if innerI (byteW s i) then runGo s d (i + 1) else i
   rw [ih (i + 1) (by omega), decide_eq_false (show ¬ i = 0 by omega)]
   unfold innerI
   cases letterI (byteW s i) <;> cases digitI (byteW s i) <;> cases decide (byteW s i = 95) <;> rfl
 unfold nameX nameY
 by_cases h0 : s.size = 0
 ·have e : strEq s ⟨#[]⟩ = true := by
   rw [strEq_iff]
   cases s with
   | mk d => rw [Array.eq_empty_of_size_eq_zero (show d.size = 0 from h0)]
  have w : wordY s = 0 := by unfold wordY; rw [h0]; rfl
  rw [e, w]
  rfl
 ·have e : strEq s ⟨#[]⟩ = false := by
   cases q : strEq s ⟨#[]⟩ with
   | false => rfl
   | true =>
    have := strEq_iff.mp q
    rw [this] at h0
    exact absurd rfl h0
  obtain ⟨d, hd⟩ : ∃ d, s.size = d + 1 := ⟨s.size - 1, by omega⟩
  have wy : wordY s = ((if letterI (byteW s 0) then runGo s d 1 else 0 : Nat) : Int) := by
   unfold wordY
   rw [hd]
   show ((if !(letterI (byteW s 0)) && (decide (0 = 0) || (!(digitI (byteW s 0)) && !(decide (byteW s 0 = 95)))) then 0 else wordYGo s d 1 : Nat) : Int) = _
   rw [w1 d 1 (by omega)]
   cases letterI (byteW s 0) <;> rfl
  have wx : runD s = ((if innerI (byteW s 0) then runGo s d 1 else 0 : Nat) : Int) := by
   unfold runD
   rw [hd]
   rfl
  rw [e, wy, wx]
  cases hl : letterI (byteW s 0) with
  | false => simp
  | true =>
   have hi : innerI (byteW s 0) = true := by unfold innerI; rw [hl]; rfl
   rw [hi, if_pos rfl]
   generalize runGo s d 1 = r
   rw [Bool.eq_iff_iff]
   simp
   omega
theorem met_range (ns : List ByteArray) {i : Nat} (hi : i ≤ ns.length) (s : ByteArray) : (metK ns i).any (fun t => strEq t s) = (List.range i).any (fun k => strEq (ns.getD k ByteArray.empty) s) := by
 unfold metK
 rw [List.any_reverse]
 have e : ns.take i = (List.range i).map fun k => ns.getD k ByteArray.empty := by
  apply List.ext_getElem
  ·simp [hi]
  ·intro k h1 h2
   have : k < ns.length := by simp at h1; omega
   simp [this]
 rw [e, List.any_map]
 rfl
theorem vars_both (ns : List ByteArray) (ds : List (List Int)) (hl : ds.length = ns.length) : ∀ d i, i + d = ns.length → varsGo (metK ns i) (ns.drop i) (ds.drop i) = varsYGo ns ds d i := by
 intro d
 induction d with
 | zero =>
  intro i h
  obtain rfl : i = ns.length := by omega
  rw [List.drop_length]
  cases ds.drop ns.length <;> rfl
 | succ d ih =>
  intro i h
  have h1 : i < ns.length := by omega
  have ed : ∀ k, k < ns.length → ns.getD k ByteArray.empty = ns.getD k ⟨#[]⟩ := fun k _ => rfl
  rw [vars_step h1 (by omega), ← metK_succ h1, ih (i + 1) (by omega), name_same, met_range ns (by omega), listed_same]
  show _ = if !(nameY (ns.getD i ByteArray.empty)) || keptS (ns.getD i ByteArray.empty) then 7 else if (List.range i).any (fun k => strEq (ns.getD k ByteArray.empty) (ns.getD i ByteArray.empty)) then 8 else
   if refE (ds.getD i []) ≠ 0 ∨ eqL (refL (ds.getD i [])) (ds.getD i []) = false then 3 else varsYGo ns ds d (i + 1)
  rw [ed i h1]
  congr 2
  generalize ds.getD i [] = dd
  by_cases e : refE dd = 0
  ·rw [decide_eq_true e]
   cases eqL (refL dd) dd <;> simp [e]
  ·rw [decide_eq_false e]
   simp [e]
theorem goal_same (m : ModelP) : goalX m = goalY m := by
 unfold goalX goalY withinD
 generalize m.2.2.2.1 = g
 generalize m.2.2.2.2 = o
 generalize m.1.length = n
 by_cases h : g = 0
 ·rw [decide_eq_true h, Bool.eq_iff_iff]
  subst h
  simp
 ·rw [decide_eq_false h, Bool.eq_iff_iff]
  simp
  omega
theorem cons_congr {r r' : Con → Int} (h : ∀ c, r c = r' c) : ∀ (i : Nat) (l : List Con), consGo r i l = consGo r' i l
 | _, [] => rfl
 | i, c :: cs => by
  show (if r c = 0 then consGo r (i + 1) cs else some ((i : Int), r c)) = if r' c = 0 then consGo r' (i + 1) cs else some ((i : Int), r' c)
  rw [h, cons_congr h (i + 1) cs]
theorem check_same (m : ModelP) : checkX m = checkY m := by
 unfold checkX checkY
 by_cases h1 : m.1.length ≠ m.2.1.length
 ·rw [if_pos h1, if_pos h1]
 ·rw [if_neg h1, if_neg h1]
  have hl : m.2.1.length = m.1.length := by omega
  have hv : varsX m = varsY m := vars_both m.1 m.2.1 hl m.1.length 0 (by omega)
  rw [hv, cons_congr (fun c => right_all c (m.1.length : Int) (by omega)), goal_same]
def outT (r : Int × Int) : Option AV := some (.tup [.v (.int .i64) r.1, .v (.int .i64) r.2])
theorem consGo_step (r : Con → Int) {cs : List Con} {i : Nat} (h : i < cs.length) (d : Con) : consGo r i (cs.drop i) = if r (cs.getD i d) = 0 then consGo r (i + 1) (cs.drop (i + 1)) else some ((i : Int), r (cs.getD i d)) := by
 rw [List.drop_eq_getElem_cons h, List.getD_eq_getElem?_getD, List.getElem?_eq_getElem h]
 rfl
theorem small_get {cs : List Con} (hs : ∀ c ∈ cs, smallC c = true) {i : Nat} (h : i < cs.length) (d : Con) : smallC (cs.getD i d) = true := by
 rw [List.getD_eq_getElem?_getD, List.getElem?_eq_getElem h]
 exact hs _ (List.getElem_mem h)
theorem F512.loop (k : Nat) (ns : List ByteArray) (ds : List (List Int)) (cs : List Con) (g o : Int) (hs : ∀ c ∈ cs, smallC c = true) (hc : cs.length ≤ 2000) : ∀ d i n, i + d = cs.length → d < n →
  F512.l1_1_1_0_1_0 n (F512.kt k [1, 1, 1, 0, 1, 0]) cs (cs.length : Int) (i : Int) ns ds cs g o = match consGo (fun c => rightG c (ns.length : Int)) i (cs.drop i) with
   | some r => outT r
   | none => exitK (F512.kt k [1, 1, 1, 0, 1, 0]) 1 ⟨slots 53 [(1, .pb 0 0)], [.box [.v (.sl .str) ns, .v (.sl (.sl (.int .i64))) ds, .v (.sl ConT) cs, .v (.int .i64) g, .v (.int .i64) o]]⟩ := by
 intro d
 induction d with
 | zero =>
  intro i n h1 h2
  obtain ⟨n, rfl⟩ : ∃ n', n = n' + 1 := ⟨n - 1, by omega⟩
  obtain rfl : i = cs.length := by omega
  rw [List.drop_length]
  exact (F512.l1_1_1_0_1_0_eq ..).trans self_lt'
 | succ d ih =>
  intro i n h1 h2
  obtain ⟨n, rfl⟩ : ∃ n', n = n' + 1 := ⟨n - 1, by omega⟩
  have hi : i < cs.length := by omega
  have w : IntKind.i64.wrap ((i : Int) + 1) = ((i + 1 : Nat) : Int) := by rw [wrap_ok (by omega) (by omega)]; omega
  rw [consGo_step _ hi ((0 : Int), ([], ([], ([], ([], ([], ((0 : Int), [])))))))]
  refine (F512.l1_1_1_0_1_0_eq ..).trans ((bT' (lt_natG hi)).trans ((bT' (in_natG hi)).trans ?_))
  rw [Int.toNat_natCast, w]
  refine (bT' (small_get hs hi _)).trans ?_
  by_cases e : rightG (cs.getD i ((0 : Int), ([], ([], ([], ([], ([], ((0 : Int), [])))))))) (ns.length : Int) = 0
  ·rw [if_pos e, decide_eq_true e]
   exact (bF' rfl).trans (ih (i + 1) n (by omega) (by omega))
  ·rw [if_neg e, decide_eq_false e]
   exact (bT' rfl).trans (F512.c0 k _ _)
structure Small2 (ns : List ByteArray) (ds : List (List Int)) (cs : List Con) (g o : Int) : Prop where
  hn : ns.length ≤ 2000
  hd : ds.length ≤ 2000
  hc : cs.length ≤ 2000
  hz : ∀ s ∈ ns, s.size ≤ 1000
  hl : ∀ l ∈ ds, l.length ≤ 1000
  hs : ∀ c ∈ cs, smallC c = true
  all : modelB (ns, (ds, (cs, (g, o)))) = true
theorem small2_of {ns : List ByteArray} {ds : List (List Int)} {cs : List Con} {g o : Int} (h : modelB (ns, (ds, (cs, (g, o)))) = true) : Small2 ns ds cs g o := by
 have h' := h
 unfold modelB at h'
 simp only [Bool.and_eq_true, Nat.ble_eq] at h'
 exact ⟨h'.1, h'.2.1, h'.2.2.1, fun s hs => Nat.le_of_ble_eq_true (List.all_eq_true.mp h'.2.2.2.1 s hs), fun l hl => Nat.le_of_ble_eq_true (List.all_eq_true.mp h'.2.2.2.2.1 l hl), fun c hc => List.all_eq_true.mp h'.2.2.2.2.2 c hc, h⟩
theorem F512.sem (ns : List ByteArray) (ds : List (List Int)) (cs : List Con) (g o : Int) (h : modelB (ns, (ds, (cs, (g, o)))) = true) :
  callW F512.E false F512.fn 4000 [.agg [.v (.sl .str) ns, .v (.sl (.sl (.int .i64))) ds, .v (.sl ConT) cs, .v (.int .i64) g, .v (.int .i64) o]] = outT (checkX (ns, (ds, (cs, (g, o))))) := by
 have S := small2_of h
 refine (F512.start_eq 4000 ns ds cs g o).trans ?_
 unfold checkX
 by_cases h1 : ns.length = ds.length
 ·rw [if_neg (by simpa using h1), decide_eq_true (show (ns.length : Int) = (ds.length : Int) by omega)]
  refine (bF' rfl).trans ?_
  by_cases h2 : (ns.length : Int) > 256
  ·rw [if_pos (.inl h2)]
   exact bT' (decide_eq_true h2)
  ·refine (bF' (decide_eq_false h2)).trans ?_
   by_cases h3 : (cs.length : Int) > 1024
   ·rw [if_pos (.inr h3)]
    exact bT' (decide_eq_true h3)
   ·refine (bF' (decide_eq_false h3)).trans ?_
    rw [if_neg (by simp only; omega)]
    have hv : varsB2 (ns, (ds, (cs, (g, o)))) = true := by
     unfold varsB2
     rw [h, decide_eq_true (show ns.length = ds.length from h1)]
     rfl
    refine (bT' hv).trans ?_
    by_cases h4 : varsX (ns, (ds, (cs, (g, o)))) = 0
    ·rw [if_neg (by simpa using h4), decide_eq_true h4]
     refine (bF' rfl).trans ((F512.loop 4000 ns ds cs g o S.hs S.hc cs.length 0 4000 (by omega) (by have := S.hc; omega)).trans ?_)
     show (match consGo (fun c => rightG c (ns.length : Int)) 0 cs with
      | some r => outT r
      | none => exitK (F512.kt 4000 [1, 1, 1, 0, 1, 0]) 1 ⟨slots 53 [(1, .pb 0 0)], [.box [.v (.sl .str) ns, .v (.sl (.sl (.int .i64))) ds, .v (.sl ConT) cs, .v (.int .i64) g, .v (.int .i64) o]]⟩) = outT (match consGo (fun c => rightG c (ns.length : Int)) 0 cs with
      | some r => r
      | none => if goalX (ns, (ds, (cs, (g, o)))) then (-1, 0) else (-1, 17))
     cases consGo (fun c => rightG c (ns.length : Int)) 0 cs with
     | some r => rfl
     | none =>
      refine (F512.c1 4000 ns ds cs g o).trans ((bT' (Nat.ble_eq_true_of_le S.hn)).trans ?_)
      cases goalX (ns, (ds, (cs, (g, o)))) <;> rfl
    ·rw [if_pos (by simpa using h4), decide_eq_false h4]
     rfl
 ·rw [if_pos (by simpa using h1), decide_eq_false (show ¬ (ns.length : Int) = (ds.length : Int) by omega)]
  rfl
theorem ref_len {l : List Int} (h : l.length ≤ 1000) : (refL l).length ≤ 1000 := by
 unfold refL
 cases okL l with
 | false => simp
 | true =>
  have := (refGo_spec l [] List.Pairwise.nil).2.2
  show (refOf l).length ≤ 1000
  have e : (refOf l).length ≤ l.length + 0 := this
  omega
theorem F513.inner (n0 : Nat) (K : Conts) (ns : List ByteArray) (ds : List (List Int)) (cs : List Con) (g o : Int) {i : Nat} (hi : i < ns.length) (hn : ns.length ≤ 2000) (n : Nat) (h : i < n) :
  F513.l1_1_1_0_1_0_0_1_0_0_1_1_0_1_0 n K (i : Int) 0 ns ds cs g o = bif (List.range i).any (fun k => strEq (ns.getD k ByteArray.empty) (ns.getD i ByteArray.empty)) then K.ret ⟨slots 162 [(2, .v (.int .i64) (-1 : Int)), (3, .v (.int .i64) (8 : Int))], []⟩
   else exitK K 2 ⟨slots 162 [(1, .pb 0 0), (4, .v (.int .i64) (i : Int))], [.box [.v (.sl .str) ns, .v (.sl (.sl (.int .i64))) ds, .v (.sl ConT) cs, .v (.int .i64) g, .v (.int .i64) o]]⟩ :=
 any_range (fun n j => F513.l1_1_1_0_1_0_0_1_0_0_1_1_0_1_0 n K (i : Int) j ns ds cs g o) i (fun k => strEq (ns.getD k ByteArray.empty) (ns.getD i ByteArray.empty)) _ _ 0 (by omega)
  (fun n _ => (F513.l1_1_1_0_1_0_0_1_0_0_1_1_0_1_0_eq ..).trans self_lt')
  (fun n j hj _ => by
   refine (F513.l1_1_1_0_1_0_0_1_0_0_1_1_0_1_0_eq ..).trans ((bT' (lt_natG hj)).trans ((bT' (in_natG (show j < ns.length by omega))).trans (bT' (in_natG hi)))) ) n (by omega)
theorem F513.names (k : Nat) (ns : List ByteArray) (ds : List (List Int)) (cs : List Con) (g o : Int) (S : Small2 ns ds cs g o) (hl : ds.length = ns.length) : ∀ d i n, i + d = ns.length → d + 2000 < n →
  F513.l1_1_1_0_1_0 n (F513.kt k [1, 1, 1, 0, 1, 0]) (i : Int) ns ds cs g o = if varsYGo ns ds d i ≠ 0 then outT (-1, varsYGo ns ds d i) else
   exitK (F513.kt k [1, 1, 1, 0, 1, 0]) 0 ⟨slots 162 [(1, .pb 0 0)], [.box [.v (.sl .str) ns, .v (.sl (.sl (.int .i64))) ds, .v (.sl ConT) cs, .v (.int .i64) g, .v (.int .i64) o]]⟩ := by
 intro d
 induction d with
 | zero =>
  intro i n h1 h2
  obtain ⟨n, rfl⟩ : ∃ n', n = n' + 1 := ⟨n - 1, by omega⟩
  obtain rfl : i = ns.length := by omega
  rw [if_neg (by show ¬ (0 : Int) ≠ 0; simp)]
  exact (F513.l1_1_1_0_1_0_eq ..).trans self_lt'
 | succ d ih =>
  intro i n h1 h2
  obtain ⟨n, rfl⟩ : ∃ n', n = n' + 1 := ⟨n - 1, by omega⟩
  have hn := S.hn
  have hi : i < ns.length := by omega
  have hm : ns.getD i ByteArray.empty ∈ ns := by rw [List.getD_eq_getElem?_getD, List.getElem?_eq_getElem hi]; exact List.getElem_mem _
  have hd : (ds.getD i []).length ≤ 1000 := S.hl _ (by rw [List.getD_eq_getElem?_getD, List.getElem?_eq_getElem (show i < ds.length by omega)]; exact List.getElem_mem _)
  have w : IntKind.i64.wrap ((i : Int) + 1) = ((i + 1 : Nat) : Int) := by rw [wrap_ok (by omega) (by omega)]; omega
  have st := F513.l1_1_1_0_1_0_eq n (F513.kt k [1, 1, 1, 0, 1, 0]) (i : Int) ns ds cs g o
  rw [Int.toNat_natCast] at st
  have st := st.trans ((bT' (lt_natG hi)).trans ((bT' (in_natG hi)).trans (bT' (Nat.ble_eq_true_of_le (S.hz _ hm)))))
  have e0 : varsYGo ns ds (d + 1) i = if !(nameY (ns.getD i ByteArray.empty)) || keptS (ns.getD i ByteArray.empty) then 7 else if (List.range i).any (fun k => strEq (ns.getD k ByteArray.empty) (ns.getD i ByteArray.empty)) then 8 else
   if refE (ds.getD i []) ≠ 0 ∨ eqL (refL (ds.getD i [])) (ds.getD i []) = false then 3 else varsYGo ns ds d (i + 1) := rfl
  rw [e0]
  unfold keptS
  cases q0 : nameY (ns.getD i ByteArray.empty) with
  | false =>
   rw [q0] at st
   exact st.trans ((bT' rfl).trans (F513.c0 k _ _))
  | true =>
   rw [q0] at st
   have st := st.trans ((bF' rfl).trans (bT' (in_natG hi)))
   cases q1 : strEq (ns.getD i ByteArray.empty) ⟨#[118, 97, 114]⟩ with
   | true =>
    rw [q1] at st
    exact st.trans ((bT' rfl).trans (F513.c0 k _ _))
   | false =>
    rw [q1] at st
    have st := st.trans ((bF' rfl).trans (bT' (in_natG hi)))
    cases q2 : strEq (ns.getD i ByteArray.empty) ⟨#[99, 111, 110, 115, 116, 114, 97, 105, 110, 116]⟩ with
    | true =>
     rw [q2] at st
     exact st.trans ((bT' rfl).trans (F513.c0 k _ _))
    | false =>
     rw [q2] at st
     have st := st.trans ((bF' rfl).trans (bT' (in_natG hi)))
     cases q3 : strEq (ns.getD i ByteArray.empty) ⟨#[115, 111, 108, 118, 101]⟩ with
     | true =>
      rw [q3] at st
      exact st.trans ((bT' rfl).trans (F513.c0 k _ _))
     | false =>
      rw [q3] at st
      have st := st.trans ((bF' rfl).trans (F513.inner n _ ns ds cs g o hi hn n (by omega)))
      cases q4 : (List.range i).any (fun k => strEq (ns.getD k ByteArray.empty) (ns.getD i ByteArray.empty)) with
      | true =>
       rw [q4] at st
       exact st.trans ((bT' rfl).trans ((F513.c2 ..).trans (F513.c0 k _ _)))
      | false =>
       rw [q4] at st
       have e3 := F513.c3 n (F513.kt k [1, 1, 1, 0, 1, 0]) (i : Int) ns ds cs g o
       rw [Int.toNat_natCast, w] at e3
       have st := st.trans ((bF' rfl).trans (e3.trans ((bT' (in_natG (show i < ds.length by omega))).trans ((bT' (Nat.ble_eq_true_of_le hd)).trans ((bT' (in_natG (show i < ds.length by omega))).trans (bT' (Nat.ble_eq_true_of_le (ref_len hd))))))))
       by_cases q5 : refE (ds.getD i []) = 0
       ·rw [decide_eq_true q5] at st
        have st := st.trans (bF' rfl)
        cases q6 : eqL (refL (ds.getD i [])) (ds.getD i []) with
        | true =>
         rw [q6] at st
         have st := st.trans ((bF' rfl).trans (ih (i + 1) n (by omega) (by omega)))
         refine st.trans ?_
         rw [if_neg (show ¬ (refE (ds.getD i []) ≠ 0 ∨ true = false) by simpa using q5)]
         rfl
        | false =>
         rw [q6] at st
         refine st.trans ((bT' rfl).trans ((F513.c0 k _ _).trans ?_))
         rw [if_pos (show refE (ds.getD i []) ≠ 0 ∨ false = false from .inr rfl)]
         rfl
       ·rw [decide_eq_false q5] at st
        refine st.trans ((bT' rfl).trans ((F513.c0 k _ _).trans ?_))
        rw [if_pos (show refE (ds.getD i []) ≠ 0 ∨ eqL (refL (ds.getD i [])) (ds.getD i []) = false from .inl q5)]
        rfl
theorem F513.cons (k : Nat) (ns : List ByteArray) (ds : List (List Int)) (cs : List Con) (g o : Int) (S : Small2 ns ds cs g o) : ∀ d i n, i + d = cs.length → d < n →
  F513.l1_1_1_1_0_1_0 n (F513.kt k [1, 1, 1, 1, 0, 1, 0]) (i : Int) ns ds cs g o = match consGo (fun c => rightD c (ns.length : Int)) i (cs.drop i) with
   | some r => outT r
   | none => exitK (F513.kt k [1, 1, 1, 1, 0, 1, 0]) 4 ⟨slots 162 [(1, .pb 0 0)], [.box [.v (.sl .str) ns, .v (.sl (.sl (.int .i64))) ds, .v (.sl ConT) cs, .v (.int .i64) g, .v (.int .i64) o]]⟩ := by
 intro d
 induction d with
 | zero =>
  intro i n h1 h2
  obtain ⟨n, rfl⟩ : ∃ n', n = n' + 1 := ⟨n - 1, by omega⟩
  obtain rfl : i = cs.length := by omega
  rw [List.drop_length]
  exact (F513.l1_1_1_1_0_1_0_eq ..).trans self_lt'
 | succ d ih =>
  intro i n h1 h2
  obtain ⟨n, rfl⟩ : ∃ n', n = n' + 1 := ⟨n - 1, by omega⟩
  have hi : i < cs.length := by omega
  have hcl := S.hc
  have hnl := S.hn
  have w : IntKind.i64.wrap ((i : Int) + 1) = ((i + 1 : Nat) : Int) := by rw [wrap_ok (by omega) (by omega)]; omega
  have rn : rightNB (ns.length : Int) = true := by
   unfold rightNB
   rw [decide_eq_true (show (0 : Int) ≤ (ns.length : Int) by omega), decide_eq_true (show (ns.length : Int) ≤ 1000000 by omega)]
   rfl
  rw [consGo_step _ hi ((0 : Int), ([], ([], ([], ([], ([], ((0 : Int), [])))))))]
  refine (F513.l1_1_1_1_0_1_0_eq ..).trans ((bT' (lt_natG hi)).trans ((bT' (in_natG hi)).trans ?_))
  rw [Int.toNat_natCast, w]
  refine (bT' (by rw [small_get S.hs hi _, rn]; rfl)).trans ?_
  by_cases e : rightD (cs.getD i ((0 : Int), ([], ([], ([], ([], ([], ((0 : Int), [])))))))) (ns.length : Int) = 0
  ·rw [if_pos e, decide_eq_true e]
   exact (bF' rfl).trans (ih (i + 1) n (by omega) (by omega))
  ·rw [if_neg e, decide_eq_false e]
   exact (bT' rfl).trans (F513.c4 k _ _)
theorem F513.sem (ns : List ByteArray) (ds : List (List Int)) (cs : List Con) (g o : Int) (h : modelB (ns, (ds, (cs, (g, o)))) = true) :
  callW F513.E false F513.fn 6000 [.agg [.v (.sl .str) ns, .v (.sl (.sl (.int .i64))) ds, .v (.sl ConT) cs, .v (.int .i64) g, .v (.int .i64) o]] = outT (checkY (ns, (ds, (cs, (g, o))))) := by
 have S := small2_of h
 have hnl := S.hn
 have hcl := S.hc
 refine (F513.start_eq 6000 ns ds cs g o).trans ?_
 unfold checkY
 by_cases h1 : ns.length = ds.length
 ·rw [if_neg (by simpa using h1), decide_eq_true (show (ns.length : Int) = (ds.length : Int) by omega)]
  refine (bF' rfl).trans ?_
  by_cases h2 : (ns.length : Int) > 256
  ·rw [if_pos (.inl h2)]
   exact bT' (decide_eq_true h2)
  ·refine (bF' (decide_eq_false h2)).trans ?_
   by_cases h3 : (cs.length : Int) > 1024
   ·rw [if_pos (.inr h3)]
    exact bT' (decide_eq_true h3)
   ·refine (bF' (decide_eq_false h3)).trans ?_
    rw [if_neg (by simp only; omega)]
    refine (F513.names 6000 ns ds cs g o S h1.symm ns.length 0 6000 (by omega) (by omega)).trans ?_
    have ev : varsY (ns, (ds, (cs, (g, o)))) = varsYGo ns ds ns.length 0 := rfl
    rw [ev]
    by_cases h4 : varsYGo ns ds ns.length 0 = 0
    ·rw [if_neg (by simpa using h4), if_neg (by simpa using h4)]
     refine (F513.c1 ..).trans ((F513.cons 6000 ns ds cs g o S cs.length 0 6000 (by omega) (by omega)).trans ?_)
     show (match consGo (fun c => rightD c (ns.length : Int)) 0 cs with
      | some r => outT r
      | none => exitK (F513.kt 6000 [1, 1, 1, 1, 0, 1, 0]) 4 ⟨slots 162 [(1, .pb 0 0)], [.box [.v (.sl .str) ns, .v (.sl (.sl (.int .i64))) ds, .v (.sl ConT) cs, .v (.int .i64) g, .v (.int .i64) o]]⟩) = outT (match consGo (fun c => rightD c (ns.length : Int)) 0 cs with
      | some r => r
      | none => if goalY (ns, (ds, (cs, (g, o)))) then (-1, 0) else (-1, 17))
     cases consGo (fun c => rightD c (ns.length : Int)) 0 cs with
     | some r => rfl
     | none =>
      refine (F513.c5 6000 ns ds cs g o).trans ?_
      unfold goalY
      show _ = outT (if (!(decide (g < 0) || (decide (g > 2) || ((decide (g = 0) && !(decide (o = 0))) || (decide (g > 0) && (decide (o < 0) || decide (o ≥ (ns.length : Int)))))))) = true then (-1, 0) else (-1, 17))
      cases decide (g < 0) <;> cases decide (g > 2) <;> cases decide (g = 0) <;> cases decide (o = 0) <;> cases decide (g > 0) <;> cases decide (o < 0) <;> cases decide (o ≥ (ns.length : Int)) <;> rfl
    ·rw [if_pos (by simpa using h4), if_pos (by simpa using h4)]
 ·rw [if_pos (by simpa using h1), decide_eq_false (show ¬ (ns.length : Int) = (ds.length : Int) by omega)]
  rfl
theorem F512.eok : EOk Go.Proofs.Tryz.prog F512.E := eo (calls_cons ok546 (calls_cons ok76 (calls_cons ok548 calls_nil)))
theorem ok512 : HandOk Go.Proofs.Tryz.prog inv 7 h_checkX := hand_if fun xs hc => callW_ok (own := false) (k := 4000) F512.eok mixed Go.Proofs.Tryz.func7 (by kernel_rfl) (show Go.Proofs.Tryz.f7.body = some (bodyOf Go.Proofs.Tryz.f7) by kernel_rfl) (F512.sem xs.1.1 xs.1.2.1 xs.1.2.2.1 xs.1.2.2.2.1 xs.1.2.2.2.2 hc)
theorem F513.eok : EOk Go.Proofs.Tryz.prog F513.E := eo (calls_cons ok549 (calls_cons ok70A (calls_cons ok551 (calls_cons ok51 calls_nil))))
theorem ok513 : HandOk Go.Proofs.Tryz.prog inv 8 h_checkY := hand_if fun xs hc => callW_ok (own := false) (k := 6000) F513.eok mixed Go.Proofs.Tryz.func8 (by kernel_rfl) (show Go.Proofs.Tryz.f8.body = some (bodyOf Go.Proofs.Tryz.f8) by kernel_rfl) (F513.sem xs.1.1 xs.1.2.1 xs.1.2.2.1 xs.1.2.2.2.1 xs.1.2.2.2.2 hc)
end Go.Proofs.YtlfdikofmfhefaaGreatDoor.Ev
set_option linter.unusedVariables false
set_option maxRecDepth 100000
namespace Go.Proofs.YtlfdikofmfhefaaGreatDoor.Ev
open Go Go.RowKit
def T : {t : Ty} → t.D → Prop := fun _ => True
theorem rds_u8 : Rds Go.Proofs.Tryz.prog 5 (.int .u8) (fun (n : Int) => 0 ≤ n ∧ n < 256) := rds_weak (rds_int Go.Proofs.Tryz.underlying5) fun (z : Int) (h : IntKind.u8.min ≤ z ∧ z ≤ IntKind.u8.max) => (by
 have h1 : (0 : Int) ≤ z := h.1
 have h2 : z ≤ 255 := h.2
 exact ⟨h1, by omega⟩)
theorem rds_u8s : Rds Go.Proofs.Tryz.prog 28 (.sl (.int .u8)) U8s := rds_slice Go.Proofs.Tryz.underlying28 (of_decide_eq_true (by kernel_rfl)) rds_u8
theorem rds_i8 : Rds Go.Proofs.Tryz.prog 74 (.int .i8) (fun (n : Int) => -128 ≤ n ∧ n ≤ 127) := rds_weak (rds_int Go.Proofs.Tryz.underlying74) fun (z : Int) (h : IntKind.i8.min ≤ z ∧ z ≤ IntKind.i8.max) => h
theorem rds_i8s : Rds Go.Proofs.Tryz.prog 73 (.sl (.int .i8)) I8s := rds_slice Go.Proofs.Tryz.underlying73 (of_decide_eq_true (by kernel_rfl)) rds_i8
theorem rds_i16 : Rds Go.Proofs.Tryz.prog 76 (.int .i16) T := rds_weak (rds_int Go.Proofs.Tryz.underlying76) fun _ _ => trivial
theorem rds_i64 : Rds Go.Proofs.Tryz.prog 3 (.int .i64) T := rds_weak (rds_int Go.Proofs.Tryz.underlying3) fun _ _ => trivial
theorem rds_i64s : Rds Go.Proofs.Tryz.prog 29 (.sl (.int .i64)) T := rds_weak (rds_slice Go.Proofs.Tryz.underlying29 (of_decide_eq_true (by kernel_rfl)) rds_i64) fun _ _ => trivial
theorem rds_rows : Rds Go.Proofs.Tryz.prog 24 (.sl (.sl (.int .i64))) T := rds_weak (rds_slice Go.Proofs.Tryz.underlying24 (of_decide_eq_true (by kernel_rfl)) rds_i64s) fun _ _ => trivial
theorem rds_small : Rds Go.Proofs.Tryz.prog 78 SmallT (fun (z : Small) => (0 ≤ z.1 ∧ z.1 < 256) ∧ U8s z.2.1 ∧ U8s z.2.2.1) := rds_weak
 (rds_struct (total := 6) Go.Proofs.Tryz.underlying78 (by kernel_rfl) (rdsF_cons (by kernel_rfl) rds_u8 (rdsF_cons (by kernel_rfl) rds_u8s (rdsF_cons (by kernel_rfl) rds_u8s (rdsF_cons (by kernel_rfl) rds_i8s (rdsF_cons (by kernel_rfl) rds_i16 (rdsF_last (by kernel_rfl) rds_u8)))))))
 fun z h => ⟨h.1, h.2.1, h.2.2.1⟩
theorem rds_con : Rds Go.Proofs.Tryz.prog 31 ConT T := rds_weak
 (rds_struct (total := 8) Go.Proofs.Tryz.underlying31 (by kernel_rfl) (rdsF_cons (by kernel_rfl) rds_i64 (rdsF_cons (by kernel_rfl) rds_i64s (rdsF_cons (by kernel_rfl) rds_i64s (rdsF_cons (by kernel_rfl) rds_i64s (rdsF_cons (by kernel_rfl) rds_i64s (rdsF_cons (by kernel_rfl) rds_i64s (rdsF_cons (by kernel_rfl) rds_i64 (rdsF_last (by kernel_rfl) rds_rows)))))))))
 fun z h => trivial
theorem law_calls {I : World → Prop} {f : Nat} {fn : Func} {args : List AV} (hf : Go.Proofs.Tryz.prog.funcs[f]? = some fn) (h1 : (fn.name == "runtime.NumGoroutine") = false) (h2 : fn.body.isNone = false) (h : CallSpec Go.Proofs.Tryz.prog I f args (.v .bool true)) {us : List Value} {W : World} (hI : I W) (hr : F2 (rel W (oldB W) [] mz) args us) :
  Calls Go.Proofs.Tryz.prog f us.toArray W fun e w' => e = .returned (.bool true) ∧ Below W.heap.size W w' := by
 have hent := callFunc_enter hf h1 h2 us.toArray W
 rcases h W (oldB W) us hI (fun _ h => h) hr with ⟨_, h⟩ | ⟨u, h, _⟩
 ·refine h.mono fun e w' he => ?_
  obtain ⟨u, rfl, hB, okR, mR, _, hr, _⟩ := he
  have hr : rel w' okR [] mz (.v .bool true) u := hr
  rw [rd_bool hr]
  exact ⟨rfl, hB⟩
 ·rw [hent] at h
  simp at h
end Go.Proofs.YtlfdikofmfhefaaGreatDoor.Ev
set_option linter.unusedVariables false
namespace Go.Proofs.YtlfdikofmfhefaaGreatDoor
open Go.ChangeShapes Go.WideShapes Go.ChangeAt Go.RowKit
theorem Tryz.own : ownKnob Tryz.prog.godebug = none := by kernel_rfl
theorem Tryz.laidOut : laidOutB Tryz.prog = true := by kernel_rfl
theorem Tryz.gTab : Tryz.prog.globalNamed "math/bits.deBruijn64tab" = some 0 := by kernel_rfl
theorem Tryz.gTabType : (Tryz.prog.globals[0]?).map (·.type) = some 162 := by kernel_rfl
theorem Tryz.cells162 : Tryz.prog.cellsOf 162 = 64 := by kernel_rfl
theorem Tryz.cells5' : Tryz.prog.cellsOf 5 = 1 := by kernel_rfl
def tabI : List Int := Lib.deBruijn64tab.map fun (n : Nat) => (n : Int)
def laidL {H : Type} : List (String × DataW H) := [("math/bits.deBruijn64tab", Rows.laid_math_bits_deBruijn64tab)]
theorem laid_tab {W : World} (h : laidMetH Tryz.prog laidL W) : Lib.TabIs Tryz.prog W "math/bits.deBruijn64tab" .u8 tabI :=
 Lib.tabIs_of_head (rest := []) Tryz.gTab Tryz.gTabType Tryz.underlying162 Tryz.underlying5 Tryz.cells5' Tryz.cells162 h
theorem inv_laid {W : World} (h : laidMetH Tryz.prog laidL W) : YtlfdikofmfhefaaGreatDoor.Ev.inv W := by
 intro j hj
 have h1 := (laid_tab h).cell Tryz.gTab j (by simpa [tabI] using hj)
 rw [h1]
 simp [tabI, List.getD, hj]
noncomputable def laidWorld (os : Os) : World :=
 {World.holding Tryz.prog os ⟨#[], #[], []⟩ with heap := (World.holding Tryz.prog os ⟨#[], #[], []⟩).heap.modify 0 fun
   | .cells _ t frozen => .cells (tabI.map fun n => Value.int .u8 n).toArray t frozen
   | o => o }
def nilS : Value := .slice none 0 0
def conD {H : Type} : DataW H := .agg [.lit (.int .i64 0), .nil, .nil, .nil, .nil, .nil, .lit (.int .i64 0), .nil]
end Go.Proofs.YtlfdikofmfhefaaGreatDoor
