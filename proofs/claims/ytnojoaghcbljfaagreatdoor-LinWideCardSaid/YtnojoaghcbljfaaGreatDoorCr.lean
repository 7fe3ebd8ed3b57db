/-
Seat 'a': constraints that may not be are filtered to nothing: ElemRefuses, ReifRefuses: what the laws' functions answer.
Conditions: none.
-/
import Derived.Test.YtnojoaghcbljfaaGreatDoorCg
set_option linter.unusedVariables false
set_option linter.unusedSimpArgs false
set_option maxRecDepth 100000
namespace Go.Proofs.YtnojoaghcbljfaaGreatDoor.Ev
open Go Go.RowKit
def Good (l : List (List Int)) : Prop := ∀ x ∈ l, okL x = true ∨ x = []
theorem empty_dom {x : List Int} (h : okL x = true ∨ x = []) : emptyD (ofD x).1 = !(decide (x.length ≠ 0)) := by
 rcases h with h | rfl
 ·have h1 := size_ofD h
  have h2 : x ≠ [] := by
   rintro rfl
   cases h
  have h3 : x.length ≠ 0 := fun e => h2 (List.length_eq_zero_iff.mp e)
  unfold emptyD
  simp [h1, h2]
 ·rfl
theorem empty_doms : ∀ {l : List (List Int)}, Good l → (List.any (domsL l) emptyD) = !(l.all fun x => decide (x.length ≠ 0))
 | [], _ => rfl
 | x :: l, h => by
  have h1 := empty_dom (h x List.mem_cons_self)
  have h2 := empty_doms (l := l) fun y hy => h y (List.mem_cons_of_mem _ hy)
  have e : domsL (x :: l) = (ofD x).1 :: domsL l := rfl
  rw [e, List.any_cons, List.all_cons, h1, h2]
  cases decide (x.length ≠ 0) <;> rfl
theorem fits_same {c : Con} {l : List (List Int)} (hl : Good l) (lo hi : Int) : fitsD c (domsL l) lo hi = fitsR c l lo hi := by
 unfold fitsD fitsR
 rw [right_same c 256 (by omega), empty_doms hl]
 have e : (domsL l).length = l.length := by unfold domsL; simp
 rw [e]
 simp
structure Refuser (lo hi : Int) (F : Con → List Dom → List Dom × Bool) : Prop where
  kind : ∀ c, fitsB c lo hi = true
  no : ∀ c d, fitsD c d lo hi = false → F c d = ([], false)
  len : ∀ c d, fitsD c d lo hi = true → (F c d).2 = true → (F c d).1.length = d.length
theorem bT {α : Type} {b : Bool} {x y : α} (h : b = true) : (bif b then x else y) = x := by rw [h]; rfl
theorem bF {α : Type} {b : Bool} {x y : α} (h : b = false) : (bif b then x else y) = y := by rw [h]; rfl
theorem F82.eok : EOk Go.Proofs.Tryz.prog F82.E := eo calls_nil
theorem ok82 : HandOk Go.Proofs.Tryz.prog inv 102 h_inL := hand_un fun xs => spec_fits fun hx => callW_ok (own := false) (k := xs.1.length + 1) F82.eok mixed Go.Proofs.Tryz.func102 (by kernel_rfl) (show Go.Proofs.Tryz.f102.body = some (bodyOf Go.Proofs.Tryz.f102) by kernel_rfl) (F82.sem xs.1 xs.2.1 xs.2.2.1 (hx (.v (.sl (.int .i64)) xs.1) (by simp [argsN, argA])).1)
theorem F81k1.eok : EOk Go.Proofs.Tryz.prog F81k1.E := eo (calls_cons ok53 (calls_cons ok100 calls_nil))
theorem F81k2.eok : EOk Go.Proofs.Tryz.prog F81k2.E := eo (calls_cons ok53 (calls_cons ok100 calls_nil))
theorem F81k3.eok : EOk Go.Proofs.Tryz.prog F81k3.E := eo (calls_cons ok53 (calls_cons ok100 calls_nil))
theorem F81k4.eok : EOk Go.Proofs.Tryz.prog F81k4.E := eo (calls_cons ok53 (calls_cons ok100 calls_nil))
theorem ok81 : HandOk Go.Proofs.Tryz.prog inv 101 h_arityD := hand_if fun xs hc => spec_fits fun hx => by
 obtain ⟨⟨k, c⟩, s, u⟩ := xs
 have hc2 := (Bool.and_eq_true _ _).mp hc
 have hs : @Eq ByteArray s (shapeS k) := (fun (a b : ByteArray) (h : decide (a = b) = true) => of_decide_eq_true h) s (shapeS k) hc2.2
 have hk := kind_cases hc2.1
 simp only at hk
 rcases hk with rfl | rfl | rfl | rfl
 ·have e : s = ⟨#[99, 86, 107]⟩ := hs.trans rfl
  subst e
  exact callW_ok (own := false) (k := c.2.2.2.2.2.2.length + 1) F81k1.eok mixed Go.Proofs.Tryz.func101 (by kernel_rfl) (show Go.Proofs.Tryz.f101.body = some (bodyOf Go.Proofs.Tryz.f101) by kernel_rfl) (F81k1.sem c ((hx (.agg (explode ConT ((1 : Int), c))) (by simp [argsN, argA])) (.v (.sl (.sl (.int .i64))) c.2.2.2.2.2.2) (by simp [explode])).1)
 ·have e : s = ⟨#[99, 86, 107]⟩ := hs.trans rfl
  subst e
  exact callW_ok (own := false) (k := c.2.2.2.2.2.2.length + 1) F81k2.eok mixed Go.Proofs.Tryz.func101 (by kernel_rfl) (show Go.Proofs.Tryz.f101.body = some (bodyOf Go.Proofs.Tryz.f101) by kernel_rfl) (F81k2.sem c ((hx (.agg (explode ConT ((2 : Int), c))) (by simp [argsN, argA])) (.v (.sl (.sl (.int .i64))) c.2.2.2.2.2.2) (by simp [explode])).1)
 ·have e : s = ⟨#[99, 86, 107]⟩ := hs.trans rfl
  subst e
  exact callW_ok (own := false) (k := c.2.2.2.2.2.2.length + 1) F81k3.eok mixed Go.Proofs.Tryz.func101 (by kernel_rfl) (show Go.Proofs.Tryz.f101.body = some (bodyOf Go.Proofs.Tryz.f101) by kernel_rfl) (F81k3.sem c ((hx (.agg (explode ConT ((3 : Int), c))) (by simp [argsN, argA])) (.v (.sl (.sl (.int .i64))) c.2.2.2.2.2.2) (by simp [explode])).1)
 ·have e : s = ⟨#[99, 86, 107, 119]⟩ := hs.trans rfl
  subst e
  exact callW_ok (own := false) (k := c.2.2.2.2.2.2.length + 1) F81k4.eok mixed Go.Proofs.Tryz.func101 (by kernel_rfl) (show Go.Proofs.Tryz.f101.body = some (bodyOf Go.Proofs.Tryz.f101) by kernel_rfl) (F81k4.sem c ((hx (.agg (explode ConT ((4 : Int), c))) (by simp [argsN, argA])) (.v (.sl (.sl (.int .i64))) c.2.2.2.2.2.2) (by simp [explode])).1)
theorem F83k1.eok : EOk Go.Proofs.Tryz.prog F83k1.E := eo (calls_cons ok82 calls_nil)
theorem F83k2.eok : EOk Go.Proofs.Tryz.prog F83k2.E := eo (calls_cons ok82 calls_nil)
theorem F83k3.eok : EOk Go.Proofs.Tryz.prog F83k3.E := eo (calls_cons ok82 calls_nil)
theorem F83k4.eok : EOk Go.Proofs.Tryz.prog F83k4.E := eo (calls_cons ok82 calls_nil)
theorem ok83 : HandOk Go.Proofs.Tryz.prog inv 103 h_coefsD := hand_if fun xs hc => spec_fits fun hx => by
 obtain ⟨⟨k, c⟩, u⟩ := xs
 have hk := kind_cases hc
 simp only at hk
 rcases hk with rfl | rfl | rfl | rfl
 ·exact callW_ok (own := false) (k := c.2.2.2.2.2.2.length + 1) F83k1.eok mixed Go.Proofs.Tryz.func103 (by kernel_rfl) (show Go.Proofs.Tryz.f103.body = some (bodyOf Go.Proofs.Tryz.f103) by kernel_rfl) (F83k1.sem c ((hx (.agg (explode ConT ((1 : Int), c))) (by simp [argsN, argA])) (.v (.sl (.sl (.int .i64))) c.2.2.2.2.2.2) (by simp [explode])).1)
 ·exact callW_ok (own := false) (k := c.2.2.2.2.2.2.length + 1) F83k2.eok mixed Go.Proofs.Tryz.func103 (by kernel_rfl) (show Go.Proofs.Tryz.f103.body = some (bodyOf Go.Proofs.Tryz.f103) by kernel_rfl) (F83k2.sem c ((hx (.agg (explode ConT ((2 : Int), c))) (by simp [argsN, argA])) (.v (.sl (.sl (.int .i64))) c.2.2.2.2.2.2) (by simp [explode])).1)
 ·exact callW_ok (own := false) (k := c.2.2.2.2.2.2.length + 1) F83k3.eok mixed Go.Proofs.Tryz.func103 (by kernel_rfl) (show Go.Proofs.Tryz.f103.body = some (bodyOf Go.Proofs.Tryz.f103) by kernel_rfl) (F83k3.sem c ((hx (.agg (explode ConT ((3 : Int), c))) (by simp [argsN, argA])) (.v (.sl (.sl (.int .i64))) c.2.2.2.2.2.2) (by simp [explode])).1)
 ·exact callW_ok (own := false) (k := c.2.2.2.2.2.2.length + 1) F83k4.eok mixed Go.Proofs.Tryz.func103 (by kernel_rfl) (show Go.Proofs.Tryz.f103.body = some (bodyOf Go.Proofs.Tryz.f103) by kernel_rfl) (F83k4.sem c ((hx (.agg (explode ConT ((4 : Int), c))) (by simp [argsN, argA])) (.v (.sl (.sl (.int .i64))) c.2.2.2.2.2.2) (by simp [explode])).1)
theorem F51k1.eok : EOk Go.Proofs.Tryz.prog F51k1.E := eo (calls_cons ok52 (calls_cons ok81 (calls_cons ok82 (calls_cons ok83 calls_nil))))
theorem F51k2.eok : EOk Go.Proofs.Tryz.prog F51k2.E := eo (calls_cons ok52 (calls_cons ok81 (calls_cons ok82 (calls_cons ok83 calls_nil))))
theorem F51k3.eok : EOk Go.Proofs.Tryz.prog F51k3.E := eo (calls_cons ok52 (calls_cons ok81 (calls_cons ok82 (calls_cons ok83 calls_nil))))
theorem F51k4.eok : EOk Go.Proofs.Tryz.prog F51k4.E := eo (calls_cons ok52 (calls_cons ok81 (calls_cons ok82 (calls_cons ok83 calls_nil))))
theorem ok51 : HandOk Go.Proofs.Tryz.prog inv 64 h_rightR := hand_if fun xs hc => by
 obtain ⟨⟨k, c⟩, n, u⟩ := xs
 have hc2 := (Bool.and_eq_true _ _).mp hc
 have hn : @LE.le Int _ n 1000000 := (fun (a : Int) (h : smallN a = true) => of_decide_eq_true h) n hc2.1
 have hk := kind_cases hc2.2
 simp only at hk
 rcases hk with rfl | rfl | rfl | rfl
 ·exact callW_ok (own := false) (k := 1) F51k1.eok mixed Go.Proofs.Tryz.func64 (by kernel_rfl) (show Go.Proofs.Tryz.f64.body = some (bodyOf Go.Proofs.Tryz.f64) by kernel_rfl) (F51k1.sem 1 c n hn)
 ·exact callW_ok (own := false) (k := 1) F51k2.eok mixed Go.Proofs.Tryz.func64 (by kernel_rfl) (show Go.Proofs.Tryz.f64.body = some (bodyOf Go.Proofs.Tryz.f64) by kernel_rfl) (F51k2.sem 1 c n hn)
 ·exact callW_ok (own := false) (k := 1) F51k3.eok mixed Go.Proofs.Tryz.func64 (by kernel_rfl) (show Go.Proofs.Tryz.f64.body = some (bodyOf Go.Proofs.Tryz.f64) by kernel_rfl) (F51k3.sem 1 c n hn)
 ·exact callW_ok (own := false) (k := 1) F51k4.eok mixed Go.Proofs.Tryz.func64 (by kernel_rfl) (show Go.Proofs.Tryz.f64.body = some (bodyOf Go.Proofs.Tryz.f64) by kernel_rfl) (F51k4.sem 1 c n hn)
theorem F25.sem2 (c : Con) (d : List (List Int)) (f l : Int) (h : fitsB c f l = true) (hA : c.2.1.length ≤ maxLen) (hB : c.2.2.1.length ≤ maxLen) (hd : d.length ≤ maxLen) :
  callW F25.E false F25.fn (d.length + 1) [.agg (explode ConT c), .v (.sl (.sl (.int .i64))) d, .v (.int .i64) f, .v (.int .i64) l] = some (.v .bool (fitsR c d f l)) := by
 refine (F25.start_eq (d.length + 1) c d f l).trans ?_
 have hm1 := lenMax hA
 have hm2 := lenMax hB
 have hm3 := lenMax hd
 unfold fitsR lenCB
 by_cases h1 : c.1 < f
 ·have h1' : ¬ f ≤ c.1 := by omega
  simp only [h1, h1', decide_true, decide_false, cond_true, Bool.false_and]
 ·have h1' : f ≤ c.1 := by omega
  by_cases h2 : c.1 > l
  ·have h2' : ¬ c.1 ≤ l := by omega
   simp only [h1, h1', h2, h2', decide_true, decide_false, cond_true, cond_false, Bool.false_and, Bool.and_false]
  ·have h2' : c.1 ≤ l := by omega
   have hk : kindB c = true := by
    unfold fitsB at h
    simp only [h1', h2', decide_true, Bool.and_true, Bool.not_true, Bool.false_or] at h
    exact h
   simp only [h1, h1', h2, h2', hk, decide_true, decide_false, cond_true, cond_false, Bool.true_and]
   have hsl : F25.l1_1_1_1_0_1_0 (d.length + 1) (F25.kt (d.length + 1) [1, 1, 1, 1, 0, 1, 0]) d 0 = some (.v .bool (d.all fun x => decide (x.length ≠ 0))) := by
    rw [search_loop (fun n i => F25.l1_1_1_1_0_1_0 n (F25.kt (d.length + 1) [1, 1, 1, 1, 0, 1, 0]) d i) d [] (fun x => decide ((x.length : Int) = 0)) (fun _ => (F25.kt (d.length + 1) [1, 1, 1, 1, 0, 1, 0]).ret ⟨slots 49 [(8, .v .bool false)], []⟩) _ hd (fun n i => F25.l1_1_1_1_0_1_0_eq n _ d i) (d.length + 1) 0 (by omega) (by omega) (by omega)]
    simp only [F25.c0, F25.c1]
    have e : d.drop (Int.toNat 0) = d := rfl
    rw [e, bif_no, ← all_any]
    congr 2
    congr 1
    funext x
    by_cases hx : x.length = 0
    ·simp [hx]
    ·have hx' : ¬ (x.length : Int) = 0 := by omega
     simp [hx]
   rw [hsl]
   by_cases h4 : d.length = c.2.1.length + c.2.2.1.length
   ·have h4' : (d.length : Int) = IntKind.i64.wrap ((c.2.1.length : Int) + (c.2.2.1.length : Int)) := by rw [wrap_ok (by omega) (by omega)]; omega
    rw [← h4']
    simp only [h4, decide_true, Bool.not_true, cond_false, Bool.true_and, Bool.and_true]
    by_cases h3 : rightR c 256 = 0
    ·simp only [h3, decide_true, Bool.not_true, cond_false, Bool.true_and]
    ·simp only [h3, decide_false, Bool.not_false, cond_true, Bool.false_and]
   ·have hw : (d.length : Int) = IntKind.i64.wrap ((c.2.1.length : Int) + (c.2.2.1.length : Int)) → False := by
     intro e
     rw [IntKind.wrap_i64] at e
     omega
    have hw' : ¬ (d.length : Int) = IntKind.i64.wrap ((c.2.1.length : Int) + (c.2.2.1.length : Int)) := hw
    simp only [hw', h4, decide_false, Bool.not_false, cond_true, Bool.false_and, Bool.and_false]
theorem F25.eok : EOk Go.Proofs.Tryz.prog F25.E := eo (calls_cons ok51 calls_nil)
theorem ok25 : HandOk Go.Proofs.Tryz.prog inv 33 h_fitsR := hand_if fun xs hc => spec_fits fun hx => callW_ok (own := false) (k := xs.2.1.length + 1) F25.eok mixed Go.Proofs.Tryz.func33 (by kernel_rfl) (show Go.Proofs.Tryz.f33.body = some (bodyOf Go.Proofs.Tryz.f33) by kernel_rfl) (F25.sem2 xs.1 xs.2.1 xs.2.2.1 xs.2.2.2.1 hc ((hx (.agg (explode ConT xs.1)) (by simp [argsN, argA])) (.v (.sl (.int .i64)) xs.1.2.1) (by simp [explode])).1 ((hx (.agg (explode ConT xs.1)) (by simp [argsN, argA])) (.v (.sl (.int .i64)) xs.1.2.2.1) (by simp [explode])).1 (hx (.v (.sl LI) xs.2.1) (by simp [argsN, argA])).1)
end Go.Proofs.YtnojoaghcbljfaaGreatDoor.Ev
