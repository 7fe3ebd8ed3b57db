/-
model.variables: a map that the call makes (walked by hand): which names and domains may not be.
Conditions: as many domains as names, at most 2000; names of at most 1000 bytes.
-/
import Derived.WalkKit
import Derived.LoopTactic
import Derived.Maps.Own
import Derived.Maps.OwnOps
import Derived.Maps.Views
import Derived.StringKeys
import Derived.Test.YtlfdikofmfhefaaGreatDoorProg
import Derived.Test.YtlfdikofmfhefaaGreatDoorIe
set_option linter.unusedVariables false
set_option linter.unusedSimpArgs false
set_option maxRecDepth 1000000
set_option maxHeartbeats 4000000
namespace Go.Proofs
open Go Go.RowKit Go.WideMaps Go.Maps
namespace YtlfdikofmfhefaaGreatDoor.Ev
def keyL (s : ByteArray) : Lit := .string s.data.toList
def i64D (n : Int) : DataW Unit := .lit (.int .i64 n)
def D0 : DataW Unit := (((.map [] : DataW Unit).put (keyL ⟨#[118, 97, 114]⟩) (i64D 1)).put (keyL ⟨#[99, 111, 110, 115, 116, 114, 97, 105, 110, 116]⟩) (i64D 1)).put (keyL ⟨#[115, 111, 108, 118, 101]⟩) (i64D 1)
def Dm : List ByteArray → DataW Unit
 | [] => D0
 | s :: met => (Dm met).put (keyL s) (i64D 2)
theorem key_inj {s t : ByteArray} (h : keyL s = keyL t) : s = t := by
 have h : s.data.toList = t.data.toList := Lit.string.inj h
 cases s; cases t
 congr 1
 exact Array.ext' h
theorem key_lit (s : ByteArray) : WideAt.IsKeyLit (keyL s) := trivial
theorem d0_map : IsMap D0 := ((isMap_empty.put _ _).put _ _).put _ _
theorem dm_map : ∀ met, IsMap (Dm met)
 | [] => d0_map
 | s :: met => (dm_map met).put _ _
theorem d0_at (s : ByteArray) : D0.atKey (keyL s) (i64D 0) = i64D (if keptS s then 1 else 0) := by
 unfold D0 keptS
 by_cases h3 : s = ⟨#[115, 111, 108, 118, 101]⟩
 ·rw [← h3, atKey_put_same ((isMap_empty.put _ _).put _ _) (key_lit s)]
  have : strEq s s = true := strEq_iff.mpr rfl
  rw [this]
  simp
 ·rw [atKey_put_other fun e => h3 (key_inj e)]
  have e3 : strEq s ⟨#[115, 111, 108, 118, 101]⟩ = false := by
   cases q : strEq s ⟨#[115, 111, 108, 118, 101]⟩ with
   | false => rfl
   | true => exact absurd (strEq_iff.mp q) h3
  rw [e3]
  by_cases h2 : s = ⟨#[99, 111, 110, 115, 116, 114, 97, 105, 110, 116]⟩
  ·rw [← h2, atKey_put_same (isMap_empty.put _ _) (key_lit s)]
   have : strEq s s = true := strEq_iff.mpr rfl
   rw [this]
   simp
  ·rw [atKey_put_other fun e => h2 (key_inj e)]
   have e2 : strEq s ⟨#[99, 111, 110, 115, 116, 114, 97, 105, 110, 116]⟩ = false := by
    cases q : strEq s ⟨#[99, 111, 110, 115, 116, 114, 97, 105, 110, 116]⟩ with
    | false => rfl
    | true => exact absurd (strEq_iff.mp q) h2
   rw [e2]
   by_cases h1 : s = ⟨#[118, 97, 114]⟩
   ·rw [← h1, atKey_put_same isMap_empty (key_lit s)]
    have : strEq s s = true := strEq_iff.mpr rfl
    rw [this]
    rfl
   ·rw [atKey_put_other fun e => h1 (key_inj e)]
    have e1 : strEq s ⟨#[118, 97, 114]⟩ = false := by
     cases q : strEq s ⟨#[118, 97, 114]⟩ with
     | false => rfl
     | true => exact absurd (strEq_iff.mp q) h1
    rw [e1]
    rfl
theorem dm_at (s : ByteArray) : ∀ met : List ByteArray, (Dm met).atKey (keyL s) (i64D 0) = i64D (if met.any (fun t => strEq t s) then 2 else if keptS s then 1 else 0)
 | [] => d0_at s
 | t :: met => by
  have ih := dm_at s met
  show ((Dm met).put (keyL t) (i64D 2)).atKey (keyL s) (i64D 0) = _
  rw [List.any_cons]
  by_cases h : s = t
  ·rw [h, atKey_put_same (dm_map met) (key_lit t)]
   have : strEq t t = true := strEq_iff.mpr rfl
   rw [this]
   simp
  ·rw [atKey_put_other fun e => h (key_inj e), ih]
   have e1 : strEq t s = false := by
    cases q : strEq t s with
    | false => rfl
    | true => exact absurd (strEq_iff.mp q).symm h
   rw [e1, Bool.false_or]
theorem grown_below {w w' : World} (h : Below w.heap.size w w') (row : Option Nat) : w.grownBy w' row := ⟨h.os, h.tape, h.output, h.size, fun k hk _ => h.block k hk⟩
theorem i64D_inj {a b : Int} (h : i64D a = i64D b) : a = b := (Lit.int.inj (DataW.lit.inj h)).2
theorem cell_box {W : World} {b : Nat} {cs : Array Value} {t : TypeId} (h : W.heap[b]? = some (.cells cs t)) (j : Nat) : W.cell? ⟨b, j, none⟩ = cs[j]? := by simp [World.cell?, h]
def metK (ns : List ByteArray) (k : Nat) : List ByteArray := (ns.take k).reverse
theorem metK_succ {ns : List ByteArray} {k : Nat} (h : k < ns.length) : metK ns (k + 1) = ns.getD k ⟨#[]⟩ :: metK ns k := by
 unfold metK
 rw [List.take_add_one, List.getElem?_eq_getElem h, List.getD_eq_getElem?_getD, List.getElem?_eq_getElem h]
 simp
theorem vars_step {met ns : List ByteArray} {ds : List (List Int)} {k : Nat} (h1 : k < ns.length) (h2 : k < ds.length) :
  varsGo met (ns.drop k) (ds.drop k) = if !(nameX (ns.getD k ⟨#[]⟩)) || keptS (ns.getD k ⟨#[]⟩) then 7 else if met.any (fun t => strEq t (ns.getD k ⟨#[]⟩)) then 8 else if !(listedX (ds.getD k [])) then 3 else varsGo (ns.getD k ⟨#[]⟩ :: met) (ns.drop (k + 1)) (ds.drop (k + 1)) := by
 rw [List.drop_eq_getElem_cons h1, List.drop_eq_getElem_cons h2, List.getD_eq_getElem?_getD, List.getElem?_eq_getElem h1, List.getD_eq_getElem?_getD, List.getElem?_eq_getElem h2]
 rfl
end YtlfdikofmfhefaaGreatDoor.Ev
theorem Tryz.keyed : Keyed Tryz.prog 9 := string_keyed (by kernel_rfl)
theorem Tryz.zeroI (w : World) : (zeroValue 3).run Tryz.prog w = .ok (.int .i64 0) w := by kernel_rfl
theorem Tryz.undMap : Tryz.prog.underlying 90 = some (.map 9 3) := by kernel_rfl
theorem Tryz.undI : Tryz.prog.underlying 3 = some (.int .i64) := by kernel_rfl
theorem Tryz.undS : Tryz.prog.underlying 9 = some .string := by kernel_rfl
theorem Tryz.vars_any (w : World) (ns : List ByteArray) (ds : List (List Int)) (an ad : Addr) (cn cd : Nat) (dv : Nat → Value) (vc : Value) (g o : Int) (hl : ds.length = ns.length) (hle : ns.length ≤ 2000)
  (hsz : ∀ s ∈ ns, s.size ≤ 1000) (hba : an.block < w.heap.size) (hbd : ad.block < w.heap.size)
  (hcn : ∀ j, j < ns.length → w.cell? (an.add j) = some (.string (ns.getD j ⟨#[]⟩))) (hcd : ∀ j, j < ds.length → w.cell? (ad.add j) = some (dv j))
  (hN : ∀ (s : ByteArray) (W : World), Below w.heap.size w W → Calls Tryz.prog 50 #[.string s] W fun e w' => e = .returned (.bool (YtlfdikofmfhefaaGreatDoor.Ev.nameX s)) ∧ Below W.heap.size W w')
  (hL : ∀ (i : Nat) (W : World), i < ds.length → Below w.heap.size w W → Calls Tryz.prog 51 #[dv i] W fun e w' => e = .returned (.bool (YtlfdikofmfhefaaGreatDoor.Ev.listedX (ds.getD i []))) ∧ Below W.heap.size W w') :
  Calls Tryz.prog 22 #[.agg #[.slice (some an) ns.length cn, .slice (some ad) ns.length cd, vc, .int .i64 g, .int .i64 o]] w fun e w' => e = .returned (.int .i64 (YtlfdikofmfhefaaGreatDoor.Ev.varsGo [] ns ds)) ∧ Below w.heap.size w w' := by
 have hmm := @run_makeMap Tryz.prog
 have ea : ∀ (a : Addr) (k : Nat), (a.add k).block = a.block := fun a k => by unfold Addr.add; split <;> rfl
 have k1 : keyOf Tryz.prog 9 (.string ⟨#[118, 97, 114]⟩) = some (YtlfdikofmfhefaaGreatDoor.Ev.keyL ⟨#[118, 97, 114]⟩) := keyOf_string_mk Tryz.undS (by unfold maxLen; decide)
 have k2 : keyOf Tryz.prog 9 (.string ⟨#[99, 111, 110, 115, 116, 114, 97, 105, 110, 116]⟩) = some (YtlfdikofmfhefaaGreatDoor.Ev.keyL ⟨#[99, 111, 110, 115, 116, 114, 97, 105, 110, 116]⟩) := keyOf_string_mk Tryz.undS (by unfold maxLen; decide)
 have k3 : keyOf Tryz.prog 9 (.string ⟨#[115, 111, 108, 118, 101]⟩) = some (YtlfdikofmfhefaaGreatDoor.Ev.keyL ⟨#[115, 111, 108, 118, 101]⟩) := keyOf_string_mk Tryz.undS (by unfold maxLen; decide)
 have pe : ∀ n : Int, (Lit.int .i64 n).wf = true → plainElem (H := Unit) Tryz.prog 3 (.int .i64 n) = some (YtlfdikofmfhefaaGreatDoor.Ev.i64D n, []) := fun n h => plainElem_int Tryz.undI h
 have o0 := World.ownsMap_made (w.alloc (.cells #[.slice (some an) ns.length cn, .slice (some ad) ns.length cd, vc, .int .i64 g, .int .i64 o] 27)) Tryz.prog 9 (plainElem (H := Unit) Tryz.prog 3)
 rw [World.size_alloc] at o0
 obtain ⟨w1, r1, o1, g1⟩ := o0.update Tryz.keyed Tryz.undMap (by unfold maxLen; omega) k1 (pe 1 (by decide))
 obtain ⟨w2, r2, o2, g2⟩ := o1.update Tryz.keyed Tryz.undMap (by unfold maxLen; omega) k2 (pe 1 (by decide))
 obtain ⟨w3, r3, o3, g3⟩ := o2.update Tryz.keyed Tryz.undMap (by unfold maxLen; omega) k3 (pe 1 (by decide))
 have o3 : w3.ownsMap Tryz.prog 9 (plainElem Tryz.prog 3) (w.heap.size + 1) 3 (YtlfdikofmfhefaaGreatDoor.Ev.Dm []) := o3
 have G := (g1.trans g2).trans g3
 have hB3 : Below w.heap.size w w3 := ⟨G.os, G.tape, G.output, Nat.le_trans (by rw [World.size_alloc, World.size_alloc]; omega) G.size, fun k hk => (G.block k (by rw [World.size_alloc, World.size_alloc]; omega) (fun e => by have := Option.some.inj e; omega)).trans (by
  rw [Below.heap_alloc _ _ k (by rw [World.size_alloc]; omega), Below.heap_alloc _ _ k hk])⟩
 have hbx : w3.heap[w.heap.size]? = some (.cells #[.slice (some an) ns.length cn, .slice (some ad) ns.length cd, vc, .int .i64 g, .int .i64 o] 27) :=
  (G.block w.heap.size (by rw [World.size_alloc, World.size_alloc]; omega) (fun e => by have := Option.some.inj e; omega)).trans (by
   rw [Below.heap_alloc _ _ _ (by rw [World.size_alloc]; omega)]
   show (w.heap.push _)[w.heap.size]? = _
   simp)
 have hc0 : w3.cell? ⟨w.heap.size, 0, none⟩ = some (.slice (some an) ns.length cn) := by rw [YtlfdikofmfhefaaGreatDoor.Ev.cell_box hbx]; rfl
 go_enter Tryz.func22, Tryz.ntmps22
 go_wp2
 clear r1 r2 r3 o0 o1 o2 g1 g2 g3 G
 go_loopw [11] (fun i wr => ∃ k : Nat, k ≤ ns.length ∧ i = .int .i64 k ∧ wr.ownsMap Tryz.prog 9 (plainElem Tryz.prog 3) (w.heap.size + 1) (3 + k) (YtlfdikofmfhefaaGreatDoor.Ev.Dm (YtlfdikofmfhefaaGreatDoor.Ev.metK ns k)) ∧
   wr.heap[w.heap.size]? = some (.cells #[.slice (some an) ns.length cn, .slice (some ad) ns.length cd, vc, .int .i64 g, .int .i64 o] 27) ∧ Below w.heap.size w wr ∧
   (∀ t ∈ YtlfdikofmfhefaaGreatDoor.Ev.metK ns k, YtlfdikofmfhefaaGreatDoor.Ev.keptS t = false) ∧ YtlfdikofmfhefaaGreatDoor.Ev.varsGo (YtlfdikofmfhefaaGreatDoor.Ev.metK ns k) (ns.drop k) (ds.drop k) = YtlfdikofmfhefaaGreatDoor.Ev.varsGo [] ns ds)
  (fun i _ => ns.length - (intOf i).toNat)
 case atStart => exact ⟨0, Nat.zero_le _, rfl, o3, hbx, hB3, (by intro t h; simp [YtlfdikofmfhefaaGreatDoor.Ev.metK] at h), rfl⟩
 case round =>
  obtain ⟨k, hk, rfl, hown, hbox, hB, hfree, hrest⟩ := hrel
  clear o3 hbx hB3 hc0
  by_cases hlt : k < ns.length
  ·obtain ⟨s, hs⟩ : ∃ s, s = ns.getD k ⟨#[]⟩ := ⟨_, rfl⟩
   have hcx : wr.cell? (an.add k) = some (.string s) := by rw [hs]; exact (hB.cell (p := an.add k) (by rw [ea]; exact hba)).trans (hcn k hlt)
   have hss : s.size ≤ 1000 := hsz s (by rw [hs, List.getD_eq_getElem?_getD, List.getElem?_eq_getElem hlt]; exact List.getElem_mem _)
   have hkey : keyOf Tryz.prog 9 (.string s) = some (YtlfdikofmfhefaaGreatDoor.Ev.keyL s) := keyOf_string_mk Tryz.undS (by unfold maxLen; omega)
   have hval := hrest.symm.trans (YtlfdikofmfhefaaGreatDoor.Ev.vars_step (met := YtlfdikofmfhefaaGreatDoor.Ev.metK ns k) hlt (show k < ds.length by omega))
   have hsucc := YtlfdikofmfhefaaGreatDoor.Ev.metK_succ hlt
   rw [← hs] at hval hsucc
   clear hs
   have hC := hN s wr hB
   have hlB : w.heap.size < wr.heap.size := (Array.getElem?_eq_some_iff.1 hbox).1
   cases hn : YtlfdikofmfhefaaGreatDoor.Ev.nameX s with
   | false =>
    rw [hn] at hC hval
    go_wp2_with (go_at_call 50; refine hC.mono ?_; rintro e W' ⟨rfl, hW⟩)
    go_wp2
    go_ret
    exact ⟨by rw [hval]; rfl, hB.trans (hW.mono hB.size)⟩
   | true =>
    rw [hn] at hC hval
    go_wp2_with (go_at_call 50; refine hC.mono ?_; rintro e W' ⟨rfl, hW⟩)
    have hB1 : Below w.heap.size w W' := hB.trans (hW.mono hB.size)
    have hown1 := hown.kept (YtlfdikofmfhefaaGreatDoor.Ev.grown_below hW none) (by simp)
    obtain ⟨c, hrun, hat, _⟩ := hown1.lookup_int Tryz.keyed Tryz.undMap Tryz.undI (Tryz.zeroI _) hkey
    have hc := YtlfdikofmfhefaaGreatDoor.Ev.i64D_inj (hat.symm.trans (YtlfdikofmfhefaaGreatDoor.Ev.dm_at s _))
    cases hm : (YtlfdikofmfhefaaGreatDoor.Ev.metK ns k).any (fun t => YtlfdikofmfhefaaGreatDoor.Ev.strEq t s) with
    | true =>
     rw [hm, if_pos rfl] at hc
     subst hc
     have hkp : YtlfdikofmfhefaaGreatDoor.Ev.keptS s = false := by
      obtain ⟨t, ht, he⟩ := List.any_eq_true.mp hm
      rw [← YtlfdikofmfhefaaGreatDoor.Ev.strEq_iff.mp he]
      exact hfree t ht
     rw [hm, hkp] at hval
     go_wp2
     go_ret
     exact ⟨by rw [hval]; rfl, hB1⟩
    | false =>
     rw [hm] at hc hval
     cases hkp : YtlfdikofmfhefaaGreatDoor.Ev.keptS s with
     | true =>
      rw [hkp] at hc hval
      have hc2 : c = 1 := hc
      clear hc
      subst hc2
      go_wp2
      all_goals (try rw [hrun])
      go_wp2
      go_ret
      exact ⟨by rw [hval]; rfl, hB1⟩
     | false =>
      rw [hkp] at hc hval
      have hc2 : c = 0 := hc
      clear hc
      subst hc2
      have hbox1 := (hW.block _ hlB).trans hbox
      have hc1 : W'.cell? ⟨w.heap.size, 1, none⟩ = some (.slice (some ad) ns.length cd) := by rw [YtlfdikofmfhefaaGreatDoor.Ev.cell_box hbox1]; rfl
      have hcy : W'.cell? (ad.add k) = some (dv k) := (hB1.cell (p := ad.add k) (by rw [ea]; exact hbd)).trans (hcd k (by omega))
      have hD := hL k W' (by omega) hB1
      go_wp2_with fail
      all_goals (try rw [hrun])
      go_wp2_with fail
      all_goals (try rw [hrun])
      go_wp2_with fail
      cases hls : YtlfdikofmfhefaaGreatDoor.Ev.listedX (ds.getD k []) with
      | false =>
       rw [hls] at hD hval
       go_wp2_with (go_at_call 51; refine hD.mono ?_; rintro e W2 ⟨rfl, hW2⟩)
       go_wp2
       go_ret
       exact ⟨by rw [hval]; rfl, hB1.trans (hW2.mono hB1.size)⟩
      | true =>
       rw [hls] at hD hval
       go_wp2_with (go_at_call 51; refine hD.mono ?_; rintro e W2 ⟨rfl, hW2⟩)
       have hB2 : Below w.heap.size w W2 := hB1.trans (hW2.mono hB1.size)
       have hown2 := hown1.kept (YtlfdikofmfhefaaGreatDoor.Ev.grown_below hW2 none) (by simp)
       obtain ⟨w4, hr4, ho4, hg4⟩ := hown2.update Tryz.keyed Tryz.undMap (by unfold maxLen; omega) hkey (pe 2 (by decide))
       have hlB1 : w.heap.size < W'.heap.size := (Array.getElem?_eq_some_iff.1 hbox1).1
       have hbox2 := (hW2.block _ hlB1).trans hbox1
       have hlB2 : w.heap.size < W2.heap.size := (Array.getElem?_eq_some_iff.1 hbox2).1
       have hbox4 := (hg4.block w.heap.size hlB2 (fun e => by have := Option.some.inj e; omega)).trans hbox2
       have hB4 : Below w.heap.size w w4 := hB2.trans ⟨hg4.os, hg4.tape, hg4.output, hg4.size, fun j hj => hg4.block j (by omega) (fun e => by have := Option.some.inj e; omega)⟩
       go_wp2
       all_goals (try rw [hr4])
       all_goals (try simp only [Result.andThen])
       go_wp2
       go_roundw
       case rel =>
        refine ⟨k + 1, by omega, by go_num, ?_, hbox4, hB4, ?_, ?_⟩
        ·rw [hsucc]
         exact ho4
        ·rw [hsucc]
         intro t ht
         rcases List.mem_cons.mp ht with rfl | ht
         ·exact hkp
         ·exact hfree t ht
        ·rw [hsucc, hval]
         rfl
       case measure => simp [intOf]; omega
  ·have hk : k = ns.length := by omega
   subst hk
   go_wp2
   go_ret
   refine ⟨?_, hB⟩
   rw [← hrest, List.drop_length]
   have : ∀ m d, YtlfdikofmfhefaaGreatDoor.Ev.varsGo m [] d = 0 := fun m d => by cases d <;> rfl
   rw [this]
   rfl
end Go.Proofs
