/-
Two rows in order: what the program and the document keep is what is in a solution. Plain lists.
Conditions: none.
-/
import Derived.Test.YtnojoaghcbljfaaGreatDoorLb
import Derived.Test.YtnojoaghcbljfaaGreatDoorDb
set_option linter.unusedVariables false
set_option linter.unusedSimpArgs false
set_option maxRecDepth 10000
namespace Go.Proofs.YtnojoaghcbljfaaGreatDoor.Ev
open Go
def canG : List (List Int) → List (List Int) → Bool
 | x :: xs, y :: ys => if minL x < maxL y then true else if minL x > maxL y then false else canG xs ys
 | _, _ => true
theorem some_row : ∀ {l : List (List Int)}, (∀ x ∈ l, x ≠ []) → ∃ r, InP r l
 | [], _ => ⟨[], .nil⟩
 | x :: l, h => by
  obtain ⟨r, hr⟩ := some_row fun y hy => h y (List.mem_cons_of_mem _ hy)
  obtain ⟨v, hv⟩ := List.exists_mem_of_ne_nil _ (h x List.mem_cons_self)
  exact ⟨v :: r, .cons hv hr⟩
theorem can_iff : ∀ {a b : List (List Int)}, a.length = b.length → (∀ x ∈ a, x ≠ []) → (∀ x ∈ b, x ≠ []) → (canG a b = true ↔ ∃ p q, InP p a ∧ InP q b ∧ lexR p q = true)
 | [], [], _, _, _ => ⟨fun _ => ⟨[], [], .nil, .nil, rfl⟩, fun _ => rfl⟩
 | [], _ :: _, h, _, _ => by simp at h
 | _ :: _, [], h, _, _ => by simp at h
 | x :: a, y :: b, h, ha, hb => by
  have ih := can_iff (a := a) (b := b) (by simpa using h) (fun z hz => ha z (List.mem_cons_of_mem _ hz)) (fun z hz => hb z (List.mem_cons_of_mem _ hz))
  obtain ⟨m1, m2⟩ := minL_spec (ha x List.mem_cons_self)
  obtain ⟨n1, n2⟩ := maxL_spec (hb y List.mem_cons_self)
  unfold canG
  by_cases c1 : minL x < maxL y
  ·rw [if_pos c1]
   refine ⟨fun _ => ?_, fun _ => rfl⟩
   obtain ⟨p, hp⟩ := some_row fun z hz => ha z (List.mem_cons_of_mem _ hz)
   obtain ⟨q, hq⟩ := some_row fun z hz => hb z (List.mem_cons_of_mem _ hz)
   refine ⟨minL x :: p, maxL y :: q, .cons m2 hp, .cons n2 hq, ?_⟩
   unfold lexR
   rw [if_neg (by omega)]
   exact decide_eq_true c1
  ·rw [if_neg c1]
   have key : ∀ u v, u ∈ x → v ∈ y → u ≤ v → u = minL x ∧ v = maxL y ∧ minL x = maxL y := fun u v hu hv huv => by
    have := m1 u hu
    have := n1 v hv
    omega
   by_cases c2 : minL x > maxL y
   ·rw [if_pos c2]
    refine ⟨fun h => (by cases h), ?_⟩
    rintro ⟨p, q, hp, hq, hl⟩
    cases hp with
    | cons h1 t1 =>
     cases hq with
     | cons h2 t2 =>
      rename_i u p v q
      unfold lexR at hl
      have := m1 u h1
      have := n1 v h2
      rw [if_neg (by omega), decide_eq_true_eq] at hl
      omega
   ·rw [if_neg c2, ih]
    have e : minL x = maxL y := by omega
    constructor
    ·rintro ⟨p, q, hp, hq, hl⟩
     refine ⟨minL x :: p, maxL y :: q, .cons m2 hp, .cons n2 hq, ?_⟩
     unfold lexR
     rw [if_pos e]
     exact hl
    ·rintro ⟨p, q, hp, hq, hl⟩
     cases hp with
     | cons h1 t1 =>
      cases hq with
      | cons h2 t2 =>
       rename_i u p v q
       unfold lexR at hl
       by_cases huv : u = v
       ·rw [if_pos huv] at hl
        exact ⟨p, q, t1, t2, hl⟩
       ·rw [if_neg huv, decide_eq_true_eq] at hl
        have := key u v h1 h2 (by omega)
        omega
theorem inp_set : ∀ {l : List (List Int)} {r : List Int} {i : Nat} {v : Int}, i < l.length → v ∈ l.getD i [] → (InP r (l.set i [v]) ↔ InP r l ∧ r.getD i 0 = v)
 | [], _, i, _, h, _ => by simp at h
 | x :: l, r, 0, v, _, hv => by
  have hv : v ∈ x := hv
  constructor
  ·intro h
   cases h with
   | cons h1 t =>
    have := List.mem_singleton.mp h1
    subst this
    exact ⟨.cons hv t, rfl⟩
  ·rintro ⟨h, e⟩
   cases h with
   | cons h1 t => exact .cons (List.mem_singleton.mpr e) t
 | x :: l, r, i + 1, v, h, hv => by
  have ih := fun r => inp_set (l := l) (r := r) (i := i) (v := v) (by simpa using h) hv
  constructor
  ·intro h
   cases h with
   | cons h1 t =>
    obtain ⟨t1, t2⟩ := (ih _).mp t
    exact ⟨.cons h1 t1, t2⟩
  ·rintro ⟨h, e⟩
   cases h with
   | cons h1 t => exact .cons h1 ((ih _).mpr ⟨t, e⟩)
theorem inp_split : ∀ {a b : List (List Int)} {r : List Int}, InP r (a ++ b) → InP (r.take a.length) a ∧ InP (r.drop a.length) b
 | [], b, r, h => ⟨.nil, h⟩
 | x :: a, b, _, .cons h t => by
  obtain ⟨h1, h2⟩ := inp_split t
  exact ⟨.cons h h1, h2⟩
def LexS (n : Nat) (r : List Int) : Prop := lexR (r.take n) (r.drop n) = true
theorem can_rows {a b : List (List Int)} (h : a.length = b.length) (ha : ∀ x ∈ a, x ≠ []) (hb : ∀ x ∈ b, x ≠ []) : canG a b = true ↔ ∃ r, LexS a.length r ∧ InP r (a ++ b) := by
 rw [can_iff h ha hb]
 constructor
 ·rintro ⟨p, q, hp, hq, hl⟩
  have e : p.length = a.length := F2.length hp
  refine ⟨p ++ q, ?_, hp.append hq⟩
  unfold LexS
  rw [← e, List.take_left, List.drop_left]
  exact hl
 ·rintro ⟨r, hl, hr⟩
  obtain ⟨h1, h2⟩ := inp_split hr
  exact ⟨_, _, h1, h2, hl⟩
theorem can_set {a b : List (List Int)} (h : a.length = b.length) (hab : ∀ x ∈ a ++ b, x ≠ []) {i : Nat} (hi : i < a.length + b.length) {v : Int} (hv : v ∈ (a ++ b).getD i []) :
  canG (((a ++ b).set i [v]).take a.length) (((a ++ b).set i [v]).drop a.length) = true ↔ ∃ r, LexS a.length r ∧ InP r (a ++ b) ∧ r.getD i 0 = v := by
 have hl : ((a ++ b).set i [v]).length = a.length + b.length := by simp
 have ne : ∀ x ∈ (a ++ b).set i [v], x ≠ [] := fun x hx => by
  rcases List.mem_or_eq_of_mem_set hx with hx | rfl
  ·exact hab x hx
  ·simp
 have l1 : (((a ++ b).set i [v]).take a.length).length = a.length := by rw [List.length_take, hl]; omega
 have l2 : (((a ++ b).set i [v]).drop a.length).length = b.length := by rw [List.length_drop, hl]; omega
 rw [can_rows (by rw [l1, l2, h]) (fun x hx => ne x (List.mem_of_mem_take hx)) (fun x hx => ne x (List.mem_of_mem_drop hx)), l1, List.take_append_drop]
 constructor
 ·rintro ⟨r, g1, g2⟩
  obtain ⟨g3, g4⟩ := (inp_set (by simpa using hi) hv).mp g2
  exact ⟨r, g1, g3, g4⟩
 ·rintro ⟨r, g1, g2, g3⟩
  exact ⟨r, g1, (inp_set (by simpa using hi) hv).mpr ⟨g2, g3⟩⟩
theorem rising_ends : ∀ {l : List Int}, Rising l → l ≠ [] → l.getD 0 0 = minL l ∧ l.getD (l.length - 1) 0 = maxL l := by
 intro l hr hne
 obtain ⟨m1, m2⟩ := minL_spec hne
 obtain ⟨n1, n2⟩ := maxL_spec hne
 have hp : 0 < l.length := List.length_pos_iff.mpr hne
 have mono : ∀ i j, i < j → (hj : j < l.length) → l.getD i 0 < l.getD j 0 := fun i j hij hj => by
  have := List.pairwise_iff_getElem.mp hr i j (by omega) hj hij
  rw [List.getD_eq_getElem?_getD, List.getD_eq_getElem?_getD, List.getElem?_eq_getElem (show i < l.length by omega), List.getElem?_eq_getElem hj]
  exact this
 constructor
 ·obtain ⟨j, hj, e⟩ := List.getElem_of_mem m2
  have e : l.getD j 0 = minL l := by rw [List.getD_eq_getElem?_getD, List.getElem?_eq_getElem hj]; exact e
  have := m1 _ (getD_mem hp 0)
  by_cases h0 : j = 0
  ·rw [← e, h0]
  ·have := mono 0 j (by omega) hj
   omega
 ·obtain ⟨j, hj, e⟩ := List.getElem_of_mem n2
  have e : l.getD j 0 = maxL l := by rw [List.getD_eq_getElem?_getD, List.getElem?_eq_getElem hj]; exact e
  have := n1 _ (getD_mem (show l.length - 1 < l.length by omega) 0)
  by_cases h0 : j = l.length - 1
  ·rw [← e, h0]
  ·have := mono j (l.length - 1) (by omega) (by omega)
   omega
theorem min_ofD {x : List Int} (h : okL x = true) : minD (ofD x).1 = minL x := by
 obtain ⟨a, b⟩ := (ends_ofD h).1
 obtain ⟨c, d⟩ := minL_spec (okL_iff.mp h).1
 have := b _ d
 have := c _ a
 omega
theorem max_ofD {x : List Int} (h : okL x = true) : maxD (ofD x).1 = maxL x := by
 obtain ⟨a, b⟩ := (ends_ofD h).2
 obtain ⟨c, d⟩ := maxL_spec (okL_iff.mp h).1
 have := b _ d
 have := c _ a
 omega
theorem meet_ends {x y : List Int} (hx : okL x = true) (hy : okL y = true) (h : ¬ minL x < maxL y) : meetD (ofD x).1 (ofD y).1 = decide (minL x = maxL y) := by
 rw [Bool.eq_iff_iff, meet_iff hx hy, decide_eq_true_eq]
 obtain ⟨c, d⟩ := minL_spec (okL_iff.mp hx).1
 obtain ⟨c', d'⟩ := maxL_spec (okL_iff.mp hy).1
 constructor
 ·rintro ⟨v, h1, h2⟩
  have := c v h1
  have := c' v h2
  omega
 ·intro e
  exact ⟨minL x, d, by rw [e]; exact d'⟩
theorem rest_eq : ∀ {a b : List (List Int)}, (∀ x ∈ a, okL x = true) → (∀ x ∈ b, okL x = true) → restGo (domsL a) (domsL b) = canG a b
 | [], b, _, _ => by cases b <;> rfl
 | _ :: _, [], _, _ => rfl
 | x :: a, y :: b, ha, hb => by
  have ih := rest_eq (fun z hz => ha z (List.mem_cons_of_mem _ hz)) (fun z hz => hb z (List.mem_cons_of_mem _ hz))
  have hx := ha x List.mem_cons_self
  have hy := hb y List.mem_cons_self
  show (decide (minD (ofD x).1 < maxD (ofD y).1) || (meetD (ofD x).1 (ofD y).1 && restGo (domsL a) (domsL b))) = canG (x :: a) (y :: b)
  unfold canG
  rw [min_ofD hx, max_ofD hy, ih]
  by_cases c1 : minL x < maxL y
  ·rw [if_pos c1, decide_eq_true c1]
   rfl
  ·rw [if_neg c1, decide_eq_false c1, meet_ends hx hy c1]
   by_cases c2 : minL x > maxL y
   ·rw [if_pos c2, decide_eq_false (by omega)]
    rfl
   ·rw [if_neg c2, decide_eq_true (by omega)]
    rfl
section
variable {x y : Dom} {a b : List Dom}
theorem even_succ (i : Nat) : evenAt (x :: a) (y :: b) (i + 1) = (meetD x y && evenAt a b i) := by
 unfold evenAt
 rw [List.range_succ_eq_map, List.all_cons, List.all_map]
 rfl
theorem below_succ (i : Nat) : belowAt (x :: a) (y :: b) (i + 1) = (decide (minD x < maxD y) || (meetD x y && belowAt a b i)) := by
 unfold belowAt
 rw [List.range_succ_eq_map, List.any_cons, List.any_map]
 have e0 : (evenAt (x :: a) (y :: b) 0 && lessAt (x :: a) (y :: b) 0) = decide (minD x < maxD y) := rfl
 have e1 : ((fun j => evenAt (x :: a) (y :: b) j && lessAt (x :: a) (y :: b) j) ∘ Nat.succ) = fun j => meetD x y && (evenAt a b j && lessAt a b j) := by
  funext j
  show (evenAt (x :: a) (y :: b) (j + 1) && lessAt (x :: a) (y :: b) (j + 1)) = _
  rw [even_succ, Bool.and_assoc]
  rfl
 rw [e0, e1]
 congr 1
 generalize List.range i = l
 induction l with
 | nil => cases meetD x y <;> rfl
 | cons j l ih =>
  rw [List.any_cons, List.any_cons, ih]
  cases meetD x y <;> rfl
end
def leftN (a b : List Dom) (i : Nat) (v : Int) : Bool := belowAt a b i || (evenAt a b i && (decide (v < maxD (b.getD i dom0)) || (hasD (b.getD i dom0) v && restGo (a.drop (i + 1)) (b.drop (i + 1)))))
def rightN (a b : List Dom) (i : Nat) (v : Int) : Bool := belowAt a b i || (evenAt a b i && (decide (v > minD (a.getD i dom0)) || (hasD (a.getD i dom0) v && restGo (a.drop (i + 1)) (b.drop (i + 1)))))
theorem known_get {α : Type} {n i : Nat} (f : Nat → α) (h : i < n) (d : α) : ((List.range n).map f).getD i d = f i := by
 rw [List.getD_eq_getElem?_getD, List.getElem?_map, List.getElem?_range h]
 rfl
theorem leftR_eq {a b : List Dom} {i : Nat} (hi : i < a.length) (v : Int) : leftR (knownR a b) (i : Int) v = leftN a b i v := by
 unfold leftR leftN knownR
 have e : ((i : Int) + 1).toNat = i + 1 := by omega
 simp only [Int.toNat_natCast, e]
 rw [known_get _ (by omega), known_get _ (by omega), known_get _ (by omega)]
theorem rightR_eq {a b : List Dom} {i : Nat} (hi : i < a.length) (v : Int) : rightR2 (knownR a b) (i : Int) v = rightN a b i v := by
 unfold rightR2 rightN knownR
 have e : ((i : Int) + 1).toNat = i + 1 := by omega
 simp only [Int.toNat_natCast, e]
 rw [known_get _ (by omega), known_get _ (by omega), known_get _ (by omega)]
theorem one_ends (v : Int) : minL [v] = v ∧ maxL [v] = v := by
 have h1 := (minL_spec (xs := [v]) (by simp)).2
 have h2 := (maxL_spec (xs := [v]) (by simp)).2
 exact ⟨List.mem_singleton.mp h1, List.mem_singleton.mp h2⟩
theorem step_eq {x y : List Int} (hx : okL x = true) (hy : okL y = true) (r : Bool) :
  (decide (minD (ofD x).1 < maxD (ofD y).1) || (meetD (ofD x).1 (ofD y).1 && r)) = if minL x < maxL y then true else if minL x > maxL y then false else r := by
 rw [min_ofD hx, max_ofD hy]
 by_cases c1 : minL x < maxL y
 ·rw [if_pos c1, decide_eq_true c1]
  rfl
 ·rw [if_neg c1, decide_eq_false c1, meet_ends hx hy c1]
  by_cases c2 : minL x > maxL y
  ·rw [if_pos c2, decide_eq_false (by omega)]
   rfl
  ·rw [if_neg c2, decide_eq_true (by omega)]
   rfl
theorem bool_step (p m q e s : Bool) : ((p || (m && q)) || ((m && e) && s)) = (p || (m && (q || (e && s)))) := by cases p <;> cases m <;> cases q <;> cases e <;> cases s <;> rfl
theorem left_can : ∀ {a b : List (List Int)} {i : Nat} {v : Int}, (∀ x ∈ a, okL x = true) → (∀ x ∈ b, okL x = true) → i < a.length → i < b.length → leftN (domsL a) (domsL b) i v = canG (a.set i [v]) b
 | [], _, i, _, _, _, h, _ => by simp at h
 | _ :: _, [], i, _, _, _, _, h => by simp at h
 | x :: a, y :: b, 0, v, ha, hb, _, _ => by
  have hy := hb y List.mem_cons_self
  have r := rest_eq (fun z hz => ha z (List.mem_cons_of_mem _ hz)) (fun z hz => hb z (List.mem_cons_of_mem _ hz))
  show (false || (true && (decide (v < maxD (ofD y).1) || (hasD (ofD y).1 v && restGo (domsL a) (domsL b))))) = canG ([v] :: a) (y :: b)
  unfold canG
  rw [r, max_ofD hy, has_ofD hy, (one_ends v).1]
  obtain ⟨c, d⟩ := maxL_spec (okL_iff.mp hy).1
  by_cases c1 : v < maxL y
  ·rw [if_pos c1, decide_eq_true c1]
   rfl
  ·rw [if_neg c1, decide_eq_false c1]
   by_cases c2 : v > maxL y
   ·rw [if_pos c2, decide_eq_false (fun hm => by have := c v hm; omega)]
    rfl
   ·have e : v = maxL y := by omega
    rw [if_neg c2, decide_eq_true (by rw [e]; exact d)]
    rfl
 | x :: a, y :: b, i + 1, v, ha, hb, h1, h2 => by
  have hx := ha x List.mem_cons_self
  have hy := hb y List.mem_cons_self
  have ih := left_can (a := a) (b := b) (i := i) (v := v) (fun z hz => ha z (List.mem_cons_of_mem _ hz)) (fun z hz => hb z (List.mem_cons_of_mem _ hz)) (by simpa using h1) (by simpa using h2)
  have e : leftN (domsL (x :: a)) (domsL (y :: b)) (i + 1) v = (decide (minD (ofD x).1 < maxD (ofD y).1) || (meetD (ofD x).1 (ofD y).1 && leftN (domsL a) (domsL b) i v)) := by
   unfold leftN
   show (belowAt ((ofD x).1 :: domsL a) ((ofD y).1 :: domsL b) (i + 1) || (evenAt ((ofD x).1 :: domsL a) ((ofD y).1 :: domsL b) (i + 1) && _)) = _
   rw [even_succ, below_succ, bool_step]
   rfl
  rw [e, ih, step_eq hx hy]
  rfl
theorem right_can : ∀ {a b : List (List Int)} {i : Nat} {v : Int}, (∀ x ∈ a, okL x = true) → (∀ x ∈ b, okL x = true) → i < a.length → i < b.length → rightN (domsL a) (domsL b) i v = canG a (b.set i [v])
 | [], _, i, _, _, _, h, _ => by simp at h
 | _ :: _, [], i, _, _, _, _, h => by simp at h
 | x :: a, y :: b, 0, v, ha, hb, _, _ => by
  have hx := ha x List.mem_cons_self
  have r := rest_eq (fun z hz => ha z (List.mem_cons_of_mem _ hz)) (fun z hz => hb z (List.mem_cons_of_mem _ hz))
  show (false || (true && (decide (v > minD (ofD x).1) || (hasD (ofD x).1 v && restGo (domsL a) (domsL b))))) = canG (x :: a) ([v] :: b)
  unfold canG
  rw [r, min_ofD hx, has_ofD hx, (one_ends v).2]
  obtain ⟨c, d⟩ := minL_spec (okL_iff.mp hx).1
  by_cases c1 : minL x < v
  ·rw [if_pos c1, decide_eq_true (show v > minL x from c1)]
   rfl
  ·rw [if_neg c1, decide_eq_false (show ¬ v > minL x from c1)]
   by_cases c2 : minL x > v
   ·rw [if_pos c2, decide_eq_false (fun hm => by have := c v hm; omega)]
    rfl
   ·have e : v = minL x := by omega
    rw [if_neg c2, decide_eq_true (by rw [e]; exact d)]
    rfl
 | x :: a, y :: b, i + 1, v, ha, hb, h1, h2 => by
  have hx := ha x List.mem_cons_self
  have hy := hb y List.mem_cons_self
  have ih := right_can (a := a) (b := b) (i := i) (v := v) (fun z hz => ha z (List.mem_cons_of_mem _ hz)) (fun z hz => hb z (List.mem_cons_of_mem _ hz)) (by simpa using h1) (by simpa using h2)
  have e : rightN (domsL (x :: a)) (domsL (y :: b)) (i + 1) v = (decide (minD (ofD x).1 < maxD (ofD y).1) || (meetD (ofD x).1 (ofD y).1 && rightN (domsL a) (domsL b) i v)) := by
   unfold rightN
   show (belowAt ((ofD x).1 :: domsL a) ((ofD y).1 :: domsL b) (i + 1) || (evenAt ((ofD x).1 :: domsL a) ((ofD y).1 :: domsL b) (i + 1) && _)) = _
   rw [even_succ, below_succ, bool_step]
   rfl
  rw [e, ih, step_eq hx hy]
  rfl
def lexiP (n : Nat) (l : List (List Int)) : List (List Int) := lexiL ((domsL l).take n) ((domsL l).drop n)
theorem lexiP_len {n : Nat} {l : List (List Int)} (h : l.length = n + n) : (lexiP n l).length = n + n := by
 unfold lexiP lexiL
 simp [doms_len, h]
theorem lexiP_mem {n : Nat} {l : List (List Int)} (hl : l.length = n + n) (ok : ∀ x ∈ l, okL x = true) {i : Nat} (hi : i < n + n) (v : Int) :
  v ∈ (lexiP n l).getD i [] ↔ ∃ r, LexS n r ∧ InP r l ∧ r.getD i 0 = v := by
 have e : l = l.take n ++ l.drop n := (List.take_append_drop n l).symm
 have l1 : (l.take n).length = n := by rw [List.length_take]; omega
 have l2 : (l.drop n).length = n := by rw [List.length_drop]; omega
 have oka : ∀ x ∈ l.take n, okL x = true := fun x hx => ok x (List.mem_of_mem_take hx)
 have okb : ∀ x ∈ l.drop n, okL x = true := fun x hx => ok x (List.mem_of_mem_drop hx)
 have dt : (domsL l).take n = domsL (l.take n) := by unfold domsL; rw [List.map_take]
 have dd : (domsL l).drop n = domsL (l.drop n) := by unfold domsL; rw [List.map_drop]
 have hab : ∀ x ∈ l.take n ++ l.drop n, x ≠ [] := by rw [← e]; exact fun x hx => (okL_iff.mp (ok x hx)).1
 have fin : ∀ p : Bool, (v ∈ l.getD i [] → (p = true ↔ canG ((l.set i [v]).take n) ((l.set i [v]).drop n) = true)) → (v ∈ l.getD i [] ∧ p = true ↔ ∃ r, LexS n r ∧ InP r l ∧ r.getD i 0 = v) := fun p hp => by
  have key : v ∈ l.getD i [] → (canG ((l.set i [v]).take n) ((l.set i [v]).drop n) = true ↔ ∃ r, LexS n r ∧ InP r l ∧ r.getD i 0 = v) := fun hv => by
   have := can_set (a := l.take n) (b := l.drop n) (by rw [l1, l2]) hab (i := i) (by rw [l1, l2]; omega) (v := v) (by rw [← e]; exact hv)
   rw [← e, l1] at this
   exact this
  constructor
  ·rintro ⟨h1, h2⟩
   exact (key h1).mp ((hp h1).mp h2)
  ·rintro ⟨r, h1, h2, rfl⟩
   have hm : r.getD i 0 ∈ l.getD i [] := h2.getD (by have : r.length = l.length := F2.length h2; omega) 0 []
   exact ⟨hm, (hp hm).mpr ((key hm).mpr ⟨r, h1, h2, rfl⟩)⟩
 have lm : ∀ {m : List (List Int)} {j : Nat}, j < m.length → (∀ x ∈ m, okL x = true) → (v ∈ listD ((domsL m).getD j dom0) ↔ v ∈ m.getD j []) := fun {m j} hj hm => by
  rw [doms_get hj]
  exact (list_ofD (hm _ (getD_mem hj []))).1 v
 unfold lexiP lexiL
 rw [dt, dd, doms_len, doms_len, l1, l2]
 by_cases h : i < n
 ·rw [List.getD_eq_getElem?_getD, List.getElem?_append_left (by simpa using h), ← List.getD_eq_getElem?_getD, known_get _ h]
  unfold keptL
  rw [List.mem_filter, lm (by omega) oka, leftR_eq (by rw [doms_len]; omega), left_can oka okb (by omega) (by omega)]
  have e1 : (l.take n).getD i [] = l.getD i [] := by
   rw [List.getD_eq_getElem?_getD, List.getD_eq_getElem?_getD, List.getElem?_take_of_lt h]
  have e2 : (l.take n).set i [v] = (l.set i [v]).take n := by rw [List.take_set]
  have e3 : l.drop n = (l.set i [v]).drop n := by rw [List.drop_set_of_lt h]
  rw [e1]
  refine fin _ fun _ => ?_
  rw [e2, ← e3]
 ·have hin : i - n < n := by omega
  rw [List.getD_eq_getElem?_getD, List.getElem?_append_right (by simp; omega), ← List.getD_eq_getElem?_getD]
  have e0 : i - ((List.range n).map fun (i : Nat) => keptL ((domsL (l.take n)).getD i dom0) (leftR (knownR (domsL (l.take n)) (domsL (l.drop n))) (i : Int))).length = i - n := by simp
  rw [e0, known_get _ hin]
  unfold keptL
  rw [List.mem_filter, lm (by omega) okb, rightR_eq (by rw [doms_len]; omega), right_can oka okb (by omega) (by omega)]
  have e1 : (l.drop n).getD (i - n) [] = l.getD i [] := by
   rw [List.getD_eq_getElem?_getD, List.getD_eq_getElem?_getD, List.getElem?_drop]
   congr 2
   omega
  have e2 : (l.drop n).set (i - n) [v] = (l.set i [v]).drop n := by rw [List.drop_set, if_neg h]
  have e3 : l.take n = (l.set i [v]).take n := by rw [List.take_set_of_le (by omega)]
  rw [e1]
  refine fin _ fun _ => ?_
  rw [e2, ← e3]
end Go.Proofs.YtnojoaghcbljfaaGreatDoor.Ev
