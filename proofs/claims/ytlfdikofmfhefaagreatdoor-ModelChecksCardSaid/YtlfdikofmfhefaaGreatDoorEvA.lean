/-
An evaluator for the model's code over typed values: the values, the heap of what a call makes for itself, and how they stand to the machine's values and worlds.
No condition.
The evaluator: what one operation, a region, a function's code give, over the typed values.
No condition.
The evaluator's relation, moved: to a later world, to a heap that has changed.
Conditions: what is read stays as it was; each row changes as rows may.
What one operation of the machine gives is what the evaluator's step says: operations that change no heap.
Conditions: the table of types is the program's; the operands' values stand in the relation.
-/
import Derived.Below
import Derived.Deep.Draws
import Derived.OwnWalk
import Derived.Laws.OwnMore
import Derived.Laws.MakeOwn
import Derived.Orders
import Derived.Tactics
import Derived.KernelRfl
import Derived.Laws.BytesArg
import Derived.Maps.AppendAt
import Derived.Laws.Strings
import Derived.Laws.BytesString
set_option linter.unusedVariables false
set_option linter.unusedSimpArgs false
namespace Go.Proofs.YtlfdikofmfhefaaGreatDoor.Ev
open Go Go.RowKit
inductive Ty where
  | int (k : IntKind)
  | bool
  | str
  | sl (t : Ty)
  | pair (a b : Ty)
  deriving DecidableEq
def Ty.D : Ty → Type
 | .int _ => Int
 | .bool => Bool
 | .str => ByteArray
 | .sl t => List t.D
 | .pair a b => a.D × b.D
def Ty.sz : Ty → Nat
 | .pair a b => a.sz + b.sz
 | _ => 1
def Ty.z : (t : Ty) → t.D
 | .int _ => (0 : Int)
 | .bool => false
 | .str => (⟨#[]⟩ : ByteArray)
 | .sl _ => []
 | .pair a b => (a.z, b.z)
inductive AV where
  | v (t : Ty) (x : t.D)
  | nl
  | own (id : Nat)
  | pb (id off : Nat)
  | pe (id i off : Nat)
  | rp (cs : List AV)
  | fn (g : Nat) (first caps : List AV)
  | agg (cs : List AV)
  | tup (cs : List AV)
  | un
  | nw (e : Nat) (t : Ty) (xs : List t.D)
inductive Row where
  | hole
  | dead
  | row (e : Nat) (t : Ty) (xs : List t.D)
  | frz (t : Ty) (xs : List t.D)
  | box (cs : List AV)
  | fbx (cs : List AV)
  | rows (e e2 : Nat) (t : Ty) (xs : List (List t.D))
  | rowx (e e2 : Nat) (t : Ty) (xs : List (List t.D)) (i nid : Nat)
  | gst (F O : Nat → Prop) (w0 : World) (v : Value)
def Row.live : Row → Bool
 | .row _ _ _ => true
 | .box _ => true
 | .rows _ _ _ _ => true
 | .rowx _ _ _ _ _ _ => true
 | .gst _ _ _ _ => true
 | _ => false
def Row.fz : Row → Bool
 | .row _ _ _ => true
 | .box _ => true
 | .rows _ _ _ _ => true
 | _ => false
def Row.isG : Row → Bool
 | .gst _ _ _ _ => true
 | _ => false
theorem Row.fz_live {r : Row} (h : r.fz = true) : r.live = true := by cases r <;> first | rfl | simp [Row.fz] at h
structure St where
  tm : List AV
  hp : List Row
def explode : (t : Ty) → t.D → List AV
 | .pair a b, p => explode a p.1 ++ explode b p.2
 | .int k, n => [.v (.int k) n]
 | .bool, b => [.v .bool b]
 | .str, s => [.v .str s]
 | .sl t, l => [.v (.sl t) l]
def zeroCells : Ty → List AV
 | .pair a b => zeroCells a ++ zeroCells b
 | .int k => [.v (.int k) (0 : Int)]
 | .bool => [.v .bool false]
 | .str => [.v .str (⟨#[]⟩ : ByteArray)]
 | .sl _ => [.nl]
inductive F2 {α β : Type} (r : α → β → Prop) : List α → List β → Prop
  | nil : F2 r [] []
  | cons {a b as bs} : r a b → F2 r as bs → F2 r (a :: as) (b :: bs)
def Cells (w : World) (ad : Addr) (cs : List Value) : Prop := ∀ j u, cs[j]? = some u → w.cell? (ad.add j) = some u
def Lc (n c : Nat) : Prop := n ≤ c ∧ c ≤ maxLen
theorem Lc0 : Lc 0 0 := ⟨Nat.le_refl _, Nat.zero_le _⟩
def Rd (w : World) (ok : Nat → Prop) : (t : Ty) → t.D → List Value → Prop
 | .int k, n, cs => cs = [.int k n]
 | .bool, b, cs => cs = [.bool b]
 | .str, s, cs => cs = [.string s]
 | .sl t, xs, cs => ∃ a c, cs = [.slice a xs.length c] ∧ Lc xs.length c ∧ (a = none → xs = [] ∧ c = 0) ∧
   (xs ≠ [] → ∃ ad us, a = some ad ∧ ok ad.block ∧ F2 (fun x u => Rd w ok t x u) xs us ∧ Cells w ad us.flatten)
 | .pair a b, p, cs => ∃ c1 c2, cs = c1 ++ c2 ∧ Rd w ok a p.1 c1 ∧ Rd w ok b p.2 c2
def rel0 (w : World) (ok : Nat → Prop) : AV → Value → Prop
 | .v t x, u => Rd w ok t x [u]
 | .nl, u => u = .slice none 0 0
 | .un, _ => True
 | _, _ => False
def rel1 (w : World) (ok : Nat → Prop) (H : List Row) (m : Nat → Value) : AV → Value → Prop
 | .v t x, u => Rd w ok t x [u]
 | .nl, u => u = .slice none 0 0
 | .own id, u => (∃ p n c, u = .slice p n c) ∧ match H[id]? with
  | some (.row _ _ _) => u = m id
  | some (.rows _ _ _ _) => u = m id
  | some (.rowx _ _ _ _ _ _) => u = m id
  | some (.frz t xs) => Rd w ok (.sl t) xs [u]
  | some .dead => True
  | _ => False
 | .pb id off, u => (∃ ad, u = .pointer (some ad)) ∧ match H[id]? with
  | some (.box _) => ∃ b, m id = .pointer (some ⟨b, 0, none⟩) ∧ u = .pointer (some ⟨b, off, none⟩)
  | some (.fbx _) => ∃ b, m id = .pointer (some ⟨b, 0, none⟩) ∧ u = .pointer (some ⟨b, off, none⟩)
  | some .dead => True
  | _ => False
 | .pe id i off, u => (∃ ad, u = .pointer (some ad)) ∧ match H[id]? with
  | some (.row _ t xs) => i < xs.length ∧ ∃ b n c, m id = .slice (some ⟨b, 0, none⟩) n c ∧ u = .pointer (some ⟨b, i * t.sz + off, none⟩)
  | some (.rows _ _ _ xs) => i < xs.length ∧ ∃ b n c, m id = .slice (some ⟨b, 0, none⟩) n c ∧ u = .pointer (some ⟨b, i + off, none⟩)
  | some (.rowx _ _ _ xs _ _) => i < xs.length ∧ ∃ b n c, m id = .slice (some ⟨b, 0, none⟩) n c ∧ u = .pointer (some ⟨b, i + off, none⟩)
  | some (.frz _ _) => True
  | some .dead => True
  | _ => False
 | .rp cs, u => ∃ ad us, u = .pointer (some ad) ∧ ok ad.block ∧ ad.block < w.heap.size ∧ Cells w ad us ∧ F2 (rel0 w ok) cs us
 | .un, _ => True
 | _, _ => False
def rel2 (w : World) (ok : Nat → Prop) (H : List Row) (m : Nat → Value) : AV → Value → Prop
 | .agg cs, u => ∃ us : List Value, u = .agg us.toArray ∧ F2 (rel1 w ok H m) cs us
 | x, u => rel1 w ok H m x u
def rel (w : World) (ok : Nat → Prop) (H : List Row) (m : Nat → Value) : AV → Value → Prop
 | .tup cs, u => ∃ us : List Value, u = .tuple us.toArray ∧ F2 (rel2 w ok H m) cs us
 | .fn g fs cs, u => ∃ us vs : List Value, u = .func (.func g) us.toArray vs.toArray ∧ F2 (rel2 w ok H m) fs us ∧ F2 (rel1 w ok H m) cs vs
 | x, u => rel2 w ok H m x u
def mblk : Value → Option Nat
 | .slice (some a) _ _ => some a.block
 | .pointer (some a) => some a.block
 | _ => none
structure Nst (w : World) (ok : Nat → Prop) (base e2 : Nat) (t : Ty) (xs : List (List t.D)) (us : List Value) (out : Nat → Prop) : Prop where
  len : us.length = xs.length
  own : ∀ (j : Nat) x v, ¬ out j → xs[j]? = some x → us[j]? = some v → ∃ vs, F2 (Rd w ok t) x vs ∧ w.ownsRow base e2 t.sz v x.length vs.flatten
  dst : ∀ (i j : Nat) v v' k, ¬ out i → ¬ out j → us[i]? = some v → us[j]? = some v' → mblk v = some k → mblk v' = some k → i = j
def cellAt (w : World) : Value → Nat → Option Value
 | .slice (some a) _ _, j => w.cell? (a.add j)
 | _, _ => none
abbrev RB (w : World) (u : Value) : Row → Nat → Prop
 | .rows _ _ _ xs, k => mblk u = some k ∨ ∃ j v, j < xs.length ∧ cellAt w u j = some v ∧ mblk v = some k
 | .rowx _ _ _ xs i _, k => mblk u = some k ∨ ∃ j v, j ≠ i ∧ j < xs.length ∧ cellAt w u j = some v ∧ mblk v = some k
 | .gst F _ _ _, k => F k
 | _, k => mblk u = some k
def RowRel (w : World) (ok : Nat → Prop) (base : Nat) (H : List Row) (m : Nat → Value) (u : Value) : Row → Prop
 | .row e t xs => ∃ us, F2 (Rd w ok t) xs us ∧ w.ownsRow base e t.sz u xs.length us.flatten
 | .box cs => ∃ b T cur, u = .pointer (some ⟨b, 0, none⟩) ∧ base ≤ b ∧ w.heap[b]? = some (.cells cur T (0, 0)) ∧ F2 (rel1 w ok H m) cs cur.toList
 | .fbx cs => ∃ b T cur, u = .pointer (some ⟨b, 0, none⟩) ∧ ok b ∧ w.heap[b]? = some (.cells cur T (0, 0)) ∧ F2 (rel1 w ok H m) cs cur.toList
 | .rows e e2 t xs => ∃ us, w.ownsRow base e 1 u xs.length us ∧ Nst w ok base e2 t xs us (fun _ => False) ∧ ∀ (j : Nat) v k, us[j]? = some v → mblk v = some k → mblk u ≠ some k
 | .rowx e e2 t xs i nid => ∃ us, w.ownsRow base e 1 u xs.length us ∧ i < xs.length ∧ us[i]? = some (m nid) ∧ (∃ q, H[nid]? = some q ∧ q ≠ .hole) ∧ Nst w ok base e2 t xs us (fun j => j = i) ∧ ∀ (j : Nat) v k, j ≠ i → us[j]? = some v → mblk v = some k → mblk u ≠ some k
 | .gst F O w0 v => (∀ k, F k → base ≤ k ∧ k < w.heap.size ∧ w.heap[k]? = w0.heap[k]?) ∧ (∀ k, O k → ok k ∧ w.heap[k]? = w0.heap[k]?) ∧ m 1 = v ∧ ∃ q, H[1]? = some q ∧ q ≠ .hole
 | _ => True
structure HRel (w : World) (ok : Nat → Prop) (base : Nat) (H : List Row) (m : Nat → Value) : Prop where
  lt : ∀ k, ok k → k < w.heap.size
  hp : ∀ id r, H[id]? = some r → RowRel w ok base H m (m id) r
  sep : ∀ id r k, H[id]? = some r → r.live = true → RB w (m id) r k → ¬ ok k
  dst : ∀ i j ri rj k, H[i]? = some ri → H[j]? = some rj → ri.live = true → rj.live = true → RB w (m i) ri k → RB w (m j) rj k → i = j
structure Rel (w0 : World) (o0 : Nat → Prop) (σ : St) (a : Act) (w : World) (ok : Nat → Prop) (m : Nat → Value) : Prop where
  tm : F2 (rel w ok σ.hp m) σ.tm a.tmps.toList
  df : a.defers = []
  hr : HRel w ok w0.heap.size σ.hp m
  bw : Below w0.heap.size w0 w
  bd : ∀ k, ok k → o0 k ∨ w0.heap.size ≤ k
theorem F2.imp {α β : Type} {r s : α → β → Prop} {xs : List α} {ys : List β} (h : F2 r xs ys) (hrs : ∀ a b, a ∈ xs → r a b → s a b) : F2 s xs ys := by
 induction h with
 | nil => exact .nil
 | cons h _ ih => exact .cons (hrs _ _ (by simp) h) (ih fun a b ha => hrs a b (by simp [ha]))
theorem F2.length {α β : Type} {r : α → β → Prop} {xs : List α} {ys : List β} (h : F2 r xs ys) : xs.length = ys.length := by
 induction h with
 | nil => rfl
 | cons _ _ ih => simp [ih]
theorem F2.get {α β : Type} {r : α → β → Prop} {xs : List α} {ys : List β} (h : F2 r xs ys) : ∀ {i : Nat} {x : α}, xs[i]? = some x → ∃ y, ys[i]? = some y ∧ r x y := by
 induction h with
 | nil => intro i x hx; simp at hx
 | cons h _ ih =>
  intro i x hx
  cases i with
  | zero => simp at hx; subst hx; exact ⟨_, rfl, h⟩
  | succ i => simp at hx; simpa using ih hx
theorem F2.set {α β : Type} {r : α → β → Prop} {xs : List α} {ys : List β} (h : F2 r xs ys) (i : Nat) {x : α} {y : β} (hxy : r x y) : F2 r (xs.set i x) (ys.set i y) := by
 induction h generalizing i with
 | nil => exact .nil
 | cons h t ih =>
  cases i with
  | zero => exact .cons hxy t
  | succ i => exact .cons h (ih i)
theorem F2.append {α β : Type} {r : α → β → Prop} {xs xs' : List α} {ys ys' : List β} (h : F2 r xs ys) (h' : F2 r xs' ys') : F2 r (xs ++ xs') (ys ++ ys') := by
 induction h with
 | nil => exact h'
 | cons h _ ih => exact .cons h ih
theorem F2.drop {α β : Type} {r : α → β → Prop} {xs : List α} {ys : List β} (h : F2 r xs ys) (n : Nat) : F2 r (xs.drop n) (ys.drop n) := by
 induction h generalizing n with
 | nil => simp; exact .nil
 | cons h t ih =>
  cases n with
  | zero => exact .cons h t
  | succ n => simpa using ih n
theorem F2.take {α β : Type} {r : α → β → Prop} {xs : List α} {ys : List β} (h : F2 r xs ys) (n : Nat) : F2 r (xs.take n) (ys.take n) := by
 induction h generalizing n with
 | nil => simp; exact .nil
 | cons h t ih =>
  cases n with
  | zero => exact .nil
  | succ n => simpa using .cons h (ih n)
theorem Rd_len {w : World} {ok : Nat → Prop} : ∀ {t : Ty} {x : t.D} {cs : List Value}, Rd w ok t x cs → cs.length = t.sz
 | .int _, _, _, h => by simp only [Rd] at h; subst h; rfl
 | .bool, _, _, h => by simp only [Rd] at h; subst h; rfl
 | .str, _, _, h => by simp only [Rd] at h; subst h; rfl
 | .sl _, _, _, h => by simp only [Rd] at h; obtain ⟨_, _, rfl, _⟩ := h; rfl
 | .pair a b, _, _, h => by
  simp only [Rd] at h
  obtain ⟨c1, c2, rfl, h1, h2⟩ := h
  rw [List.length_append, Rd_len h1, Rd_len h2]; rfl
theorem Rd_one {w : World} {ok : Nat → Prop} : ∀ {t : Ty} {x : t.D} {cs : List Value}, Rd w ok t x cs → ∀ u ∈ cs, u.oneCell' = true
 | .int _, _, _, h => by simp only [Rd] at h; subst h; simp [Value.oneCell']
 | .bool, _, _, h => by simp only [Rd] at h; subst h; simp [Value.oneCell']
 | .str, _, _, h => by simp only [Rd] at h; subst h; simp [Value.oneCell']
 | .sl _, _, _, h => by simp only [Rd] at h; obtain ⟨_, _, rfl, _⟩ := h; simp [Value.oneCell']
 | .pair a b, _, _, h => by
  simp only [Rd] at h
  obtain ⟨c1, c2, rfl, h1, h2⟩ := h
  intro u hu
  rcases List.mem_append.1 hu with hu | hu
  ·exact Rd_one h1 u hu
  ·exact Rd_one h2 u hu
theorem Ty.sz_pos : ∀ t : Ty, 0 < t.sz
 | .int _ | .bool | .str | .sl _ => by simp [Ty.sz]
 | .pair a b => by have := Ty.sz_pos a; simp [Ty.sz]; omega
theorem Cells.lt {w : World} {ad : Addr} {cs : List Value} (h : Cells w ad cs) (hc : cs ≠ []) : ad.block < w.heap.size := by
 cases cs with
 | nil => exact absurd rfl hc
 | cons c cs =>
  have := World.block_lt_of_cell? w _ (h 0 c rfl)
  have e : (ad.add 0).block = ad.block := by simp [Addr.add]
  rwa [e] at this
theorem add_block (ad : Addr) (j : Nat) : (ad.add j).block = ad.block := by unfold Addr.add; split <;> rfl
theorem Cells.move {w w' : World} {ad : Addr} {cs : List Value} (h : Cells w ad cs) (hb : w'.heap[ad.block]? = w.heap[ad.block]?) : Cells w' ad cs := fun j u hu =>
 (World.cell?_of_block (by rw [add_block]; exact hb)).trans (h j u hu)
theorem Rd_move {w w' : World} {ok ok' : Nat → Prop} (hm : ∀ k, ok k → k < w.heap.size → w'.heap[k]? = w.heap[k]? ∧ ok' k) :
  ∀ {t : Ty} {x : t.D} {cs : List Value}, Rd w ok t x cs → Rd w' ok' t x cs
 | .int _, _, _, h => h
 | .bool, _, _, h => h
 | .str, _, _, h => h
 | .sl t, xs, cs, h => by
  simp only [Rd] at h ⊢
  obtain ⟨a, c, hcs, hl, hn, hx⟩ := h
  refine ⟨a, c, hcs, hl, hn, fun hne => ?_⟩
  obtain ⟨ad, us, rfl, hok, hf, hc⟩ := hx hne
  have hus : us.flatten ≠ [] := by
   cases hf with
   | nil => exact absurd rfl hne
   | cons h1 _ =>
    intro e
    have := Rd_len h1
    have hp := Ty.sz_pos t
    simp at e
    rw [e.1] at this
    simp at this
    omega
  have hlt := hc.lt hus
  obtain ⟨hb, hok'⟩ := hm _ hok hlt
  exact ⟨ad, us, rfl, hok', hf.imp fun x u _ h => Rd_move hm h, hc.move hb⟩
 | .pair a b, p, cs, h => by
  simp only [Rd] at h ⊢
  obtain ⟨c1, c2, rfl, h1, h2⟩ := h
  exact ⟨c1, c2, rfl, Rd_move hm h1, Rd_move hm h2⟩
end Go.Proofs.YtlfdikofmfhefaaGreatDoor.Ev
set_option linter.unusedVariables false
namespace Go.Proofs.YtlfdikofmfhefaaGreatDoor.Ev
open Go Go.RowKit
structure TInfo where
  ty : Ty
  agg : Bool
  bytes : Nat
  elem : Option Nat
  fl : List (Nat × Nat)
  ik : Option IntKind
  str : Bool
abbrev MHand := Nat × (List AV → Nat → (t : Ty) → List t.D → (Option AV → List t.D → Option AV) → Option AV)
structure Env where
  tt : List (Nat × TInfo)
  calls : List (Nat × (List AV → (AV → Option AV) → Option AV))
  keep : List (Nat × List Nat)
  exk : List (Nat × List Nat) := []
  fin : Option (List Nat) := none
  inv : World → Prop := fun _ => True
  mcalls : List (Nat × MHand) := []
def look {α : Type} (k : Nat) : List (Nat × α) → Option α
 | [] => none
 | (j, x) :: r => bif Nat.beq j k then some x else look k r
def cellsOf : AV → List AV
 | .agg cs => cs
 | x => [x]
def castD {t t' : Ty} (h : t' = t) (x : t'.D) : t.D := h ▸ x
def strN (xs : List Int) : ByteArray := ⟨(xs.map fun n => UInt8.ofNat n.toNat).toArray⟩
def isU8 : Option IntKind → Bool
 | some .u8 => true
 | _ => false
def leafD (rd : Nat → Option Row) (t : Ty) (c : AV) : Option t.D :=
 match c with
 | .v t' x => if h : t' = t then some (castD h x) else none
 | .nl => match t with | .sl _ => some [] | _ => none
 | .own id => match t with
  | .sl e => match rd id with
   | some (.row _ t' xs) => if h : t' = e then some (castD (congrArg Ty.sl h) xs) else none
   | some (.frz t' xs) => if h : t' = e then some (castD (congrArg Ty.sl h) xs) else none
   | _ => none
  | _ => none
 | _ => none
def implode (rd : Nat → Option Row) : (t : Ty) → List AV → Option (t.D × List AV)
 | .pair a b, cs => match implode rd a cs with
  | some (x, cs') => match implode rd b cs' with
   | some (y, r) => some ((x, y), r)
   | none => none
  | none => none
 | .int k, c :: cs => match leafD rd (.int k) c with | some x => some (x, cs) | none => none
 | .bool, c :: cs => match leafD rd .bool c with | some x => some (x, cs) | none => none
 | .str, c :: cs => match leafD rd .str c with | some x => some (x, cs) | none => none
 | .sl t, c :: cs => match leafD rd (.sl t) c with | some x => some (x, cs) | none => none
 | _, [] => none
def leafB : AV → Bool
 | .v (.pair _ _) _ => false
 | .v _ _ => true
 | .nl => true
 | .own _ => true
 | .pb _ _ => true
 | .pe _ _ _ => true
 | .rp _ => true
 | _ => false
def plainB : AV → Bool
 | .agg cs => cs.all leafB
 | x => leafB x
def toD (rd : Nat → Option Row) (t : Ty) (a : AV) : Option t.D :=
 bif plainB a then (match implode rd t (cellsOf a) with
 | some (x, []) => some x
 | _ => none) else none
def frz1 (rd : Nat → Option Row) : AV → List (Nat × Row)
 | .own id => match rd id with
  | some (.row _ t xs) => [(id, .frz t xs)]
  | _ => []
 | _ => []
def frz (rd : Nat → Option Row) (a : AV) : List (Nat × Row) := (cellsOf a).flatMap (frz1 rd)
def ownIn (i : Nat) : List AV → Bool
 | [] => false
 | .own j :: r => Nat.beq i j || ownIn i r
 | _ :: r => ownIn i r
def toDs (rd : Nat → Option Row) (t : Ty) : List AV → Option (List t.D)
 | [] => some []
 | a :: as => match toD rd t a with
  | some x => match toDs rd t as with
   | some xs => some (x :: xs)
   | none => none
  | none => none
def bitsW (op : BinOp) (k : IntKind) (x y : Int) : Int :=
 match op with
 | .and => k.wrap (BitVec.ofInt k.bits x &&& BitVec.ofInt k.bits y).toNat
 | .or => k.wrap (BitVec.ofInt k.bits x ||| BitVec.ofInt k.bits y).toNat
 | .xor => k.wrap (BitVec.ofInt k.bits x ^^^ BitVec.ofInt k.bits y).toNat
 | _ => k.wrap (BitVec.ofInt k.bits x &&& ~~~ (BitVec.ofInt k.bits y)).toNat
def shlW (k : IntKind) (x y : Int) : Int := k.wrap (x * 2 ^ min y.toNat k.bits)
def shrW (k : IntKind) (x y : Int) : Int := x.fdiv (2 ^ min y.toNat k.bits)
def intW (op : BinOp) (k : IntKind) (x y : Int) : Option (Bool × AV) :=
 match op with
 | .add => some (true, .v (.int k) (k.wrap (x + y)))
 | .sub => some (true, .v (.int k) (k.wrap (x - y)))
 | .mul => some (true, .v (.int k) (k.wrap (x * y)))
 | .quo => some (!decide (y = 0), .v (.int k) (k.wrap (x.tdiv y)))
 | .rem => some (!decide (y = 0), .v (.int k) (x.tmod y))
 | .and => some (true, .v (.int k) (bitsW .and k x y))
 | .or => some (true, .v (.int k) (bitsW .or k x y))
 | .xor => some (true, .v (.int k) (bitsW .xor k x y))
 | .andNot => some (true, .v (.int k) (bitsW .andNot k x y))
 | .eql => some (true, .v .bool (decide (x = y)))
 | .neq => some (true, .v .bool (!decide (x = y)))
 | .lss => some (true, .v .bool (decide (x < y)))
 | .leq => some (true, .v .bool (decide (x ≤ y)))
 | .gtr => some (true, .v .bool (decide (x > y)))
 | .geq => some (true, .v .bool (decide (x ≥ y)))
 | _ => none
def u8sEq : List UInt8 → List UInt8 → Bool
 | [], [] => true
 | a :: as, b :: bs => Nat.beq a.toNat b.toNat && u8sEq as bs
 | _, _ => false
def strEq (s t : ByteArray) : Bool := u8sEq s.data.toList t.data.toList
abbrev Step0 := Option (Bool × AV × List (Nat × Row))
def iiW (op : BinOp) (k k' : IntKind) (a b : Int) : Option (Bool × AV) :=
 match op with
 | .shl => some (decide (0 ≤ b), .v (.int k) (shlW k a b))
 | .shr => some (decide (0 ≤ b), .v (.int k) (shrW k a b))
 | _ => if k = k' then intW op k a b else none
def bbW (op : BinOp) (a b : Bool) : Option (Bool × AV) :=
 match op with
 | .eql => some (true, .v .bool (a == b))
 | .neq => some (true, .v .bool (!(a == b)))
 | _ => none
def ssW (op : BinOp) (s t : ByteArray) : Option (Bool × AV) :=
 match op with
 | .add => some (decide (s.size + t.size ≤ 9223372036854775807), .v .str (s ++ t))
 | .eql => some (true, .v .bool (strEq s t))
 | .neq => some (true, .v .bool (!strEq s t))
 | _ => none
def nlW (op : BinOp) (n : Nat) : Option (Bool × AV) :=
 match op with
 | .eql => some (!decide (n = 0), .v .bool false)
 | .neq => some (!decide (n = 0), .v .bool true)
 | _ => none
def binW (bt sl : Bool) (op : BinOp) (x y : AV) : Option (Bool × AV) :=
 match x, y with
 | .v (.sl _) xs, .nl => bif sl then nlW op xs.length else none
 | .v (.int k) a, .v (.int k') b => iiW op k k' a b
 | .v .bool a, .v .bool b => bif bt then bbW op a b else none
 | .v .str s, .v .str t => ssW op s t
 | _, _ => none
def negW (k : IntKind) (n : Int) : Step0 := some (true, .v (.int k) (k.wrap (0 - n)), [])
def notW (k : IntKind) (n : Int) : Step0 := some (true, .v (.int k) (bitsW .xor k (if k.signed then -1 else k.max) n), [])
def notB (b : Bool) : Step0 := some (true, .v .bool (!b), [])
def maxW (k : IntKind) (x y : Int) : Step0 := some (true, .v (.int k) (if y > x then y else x : Int), [])
def minW (k : IntKind) (x y : Int) : Step0 := some (true, .v (.int k) (if y < x then y else x : Int), [])
def convW (k : IntKind) (n : Int) : Step0 := some (true, .v (.int k) (k.wrap n), [])
abbrev Step := Option (Bool × AV × List (Nat × Row))
def E_ti (E : Env) (t : Nat) : Option TInfo := look t E.tt
def boolT (E : Env) (t : Nat) : Bool := match E_ti E t with
 | some i => if i.ty = .bool then true else false
 | none => false
def slT (E : Env) (t : Nat) : Bool := match E_ti E t with
 | some i => match i.elem with
  | some _ => true
  | none => false
 | none => false
def constW : Value → Option AV
 | .bool b => some (.v .bool b)
 | .int k n => some (.v (.int k) n)
 | .string s => some (.v .str s)
 | .slice none 0 0 => some .nl
 | _ => none
def getO (σ : St) : Operand → Option AV
 | .tmp t => σ.tm[t]?
 | .const v => constW v
 | .func f => some (.fn f [] [])
 | .global _ => none
def getOs (σ : St) : List Operand → Option (List AV)
 | [] => some []
 | o :: os => match getO σ o with
  | some a => match getOs σ os with
   | some as => some (a :: as)
   | none => none
  | none => none
def takeW (E : Env) (T : Nat) (cs : List AV) : Option AV :=
 match E_ti E T with
 | some i => bif i.agg then (bif Nat.ble i.ty.sz cs.length then some (.agg (cs.take i.ty.sz)) else none) else cs.head?
 | none => none
def pokeW (cs new : List AV) (off : Nat) : Option (List AV) :=
 bif Nat.ble (off + new.length) cs.length then some (cs.take off ++ new ++ cs.drop (off + new.length)) else none
def fillW (fl : List (Nat × Nat)) (tt : List (Nat × TInfo)) : List (Nat × AV) → List AV → Option (List AV)
 | [], cs => some cs
 | (i, a) :: r, cs => match fl[i]? with
  | some (off, T) => match look T tt with
   | some ti => bif Nat.beq ti.ty.sz (cellsOf a).length then (match pokeW cs (cellsOf a) off with
    | some cs' => fillW fl tt r cs'
    | none => none) else none
   | none => none
  | none => none
def lenW (rd : Nat → Option Row) : AV → Option Int
 | .v (.sl _) xs => some (List.length xs : Int)
 | .v .str s => some (s.size : Int)
 | .nl => some 0
 | .own id => match rd id with
  | some (.row _ _ xs) => some (xs.length : Int)
  | some (.frz _ xs) => some (xs.length : Int)
  | _ => none
 | _ => none
def strB : AV → Bool
 | .v .str _ => true
 | _ => false
def lenB (E : Env) (T : Nat) (x : AV) : Bool := match E_ti E T with
 | some i => bif strB x then i.str else i.elem.isSome
 | none => false
def LIM : Nat := 140737488355328
def app2 {α : Type} (xs ys : List α) : List α := xs ++ ys
def appW (e : Nat) (i : TInfo) (nid : Nat) (rd : Nat → Option Row) (s : AV) (ys : List i.ty.D) : Step :=
 match s with
 | .nl => some (decide (ys.length * i.bytes ≤ LIM), .own nid, [(nid, .row e i.ty ys)])
 | .own id => match rd id with
  | some (.row e' t xs) => if h : t = i.ty then (bif Nat.beq e' e then some (decide ((xs.length + ys.length) * i.bytes ≤ LIM), .own nid, [(id, .dead), (nid, .row e i.ty (app2 (castD (congrArg Ty.sl h) xs) ys))]) else none) else none
  | _ => none
 | _ => none
def sliceW (rd : Nat → Option Row) (lo hi : Option Int) (x : AV) : Step :=
 match x with
 | .v .str s =>
  match lo, hi with
  | none, none => some (true, .v .str s, [])
  | none, some h => some (decide (0 ≤ h) && decide (h ≤ s.size), .v .str (s.extract 0 h.toNat), [])
  | some l, none => some (decide (0 ≤ l) && decide (l ≤ s.size), .v .str (s.extract l.toNat s.size), [])
  | some l, some h => some (decide (0 ≤ l) && decide (l ≤ h) && decide (h ≤ s.size), .v .str (s.extract l.toNat h.toNat), [])
 | .v (.sl t) xs => go t xs []
 | .own id => match rd id with
  | some (.row _ t xs) => go t xs [(id, .frz t xs)]
  | some (.frz t xs) => go t xs []
  | _ => none
 | _ => none
 where
 go (t : Ty) (xs : List t.D) (ups : List (Nat × Row)) : Step :=
  match lo, hi with
  | none, none => some (true, .v (.sl t) xs, ups)
  | none, some h => some (decide (0 ≤ h) && decide (h ≤ xs.length), .v (.sl t) (xs.take h.toNat), ups)
  | some l, none => some (decide (0 ≤ l) && decide (l ≤ xs.length), .v (.sl t) (xs.drop l.toNat), ups)
  | some l, some h => some (decide (0 ≤ l) && decide (l ≤ h) && decide (h ≤ xs.length), .v (.sl t) ((xs.take h.toNat).drop l.toNat), ups)
def elT (E : Env) (i : TInfo) (t : Ty) : Bool := match i.elem with
 | some e => (match E_ti E e with
  | some ie => if ie.ty = t then true else false
  | none => false)
 | none => false
def slicedB (E : Env) (rd : Nat → Option Row) (T : Nat) (x : AV) : Bool := match E_ti E T with
 | some i => (match x with
  | .v .str _ => i.str
  | .v (.sl t) _ => elT E i t
  | .own id => (match rd id with
   | some (.row _ t _) => elT E i t
   | some (.frz t _) => elT E i t
   | _ => false)
  | _ => false)
 | none => false
def ixW (t : Ty) (xs : List t.D) (i : Int) (p : AV) : Step := some (decide (0 ≤ i) && decide (i < xs.length), p, [])
def byteW (s : ByteArray) (i : Nat) : Int := if h : i < s.size then ((s[i]'h).toNat : Int) else 0
def chW (s : ByteArray) (i : Int) : Step := some (decide (0 ≤ i) && decide (i < s.size), .v (.int .u8) (byteW s i.toNat), [])
def rangeFrom : Nat → Nat → List Nat
 | _, 0 => []
 | a, n + 1 => a :: rangeFrom (a + 1) n
def natsEq : List Nat → List Nat → Bool
 | [], [] => true
 | a :: as, b :: bs => Nat.beq a b && natsEq as bs
 | _, _ => false
def mkRow (e : Nat) (t : Ty) (el : Option Nat) (n : Nat) : Row := match t, el with
 | .sl t', some e2 => .rows e e2 t' (List.replicate n [])
 | t, _ => .row e t (List.replicate n t.z)
def mkW (nid e : Nat) (i : TInfo) (n : Int) : Step := some (decide (0 ≤ n) && decide (n.toNat * i.bytes ≤ LIM), .own nid, [(nid, mkRow e i.ty i.elem n.toNat)])
def slOf (E : Env) (T : Nat) (t : Ty) : Bool := match E_ti E T with
 | some iT => bif iT.agg then false else (if iT.ty = .sl t then true else false)
 | none => false
def stepW (E : Env) (o : Op) (nid : Nat) (as : List AV) (rd : Nat → Option Row) : Step :=
 match o, as with
 | .move _, [x] => some (true, x, [])
 | .assign _, [x] => some (true, x, [])
 | .pick _ _ _, [c, a, b] => match c with
  | .v .bool x => match a, b with
   | .v ta xa, .v tb xb => if h : tb = ta then some (true, .v ta (bif x then xa else castD h xb), []) else none
   | _, _ => some (true, (bif x then a else b), [])
  | _ => none
 | .alloc T, [] => match E_ti E T with
  | some i => some (true, .pb nid 0, [(nid, .box (zeroCells i.ty))])
  | none => none
 | .box T _, [x] => match E_ti E T with
  | some i => bif plainB x then some (true, .pb nid 0, [(nid, .box (cellsOf x))]) else none
  | none => none
 | .build T parts, as => match E_ti E T with
  | some i => bif i.agg && as.all plainB then (match fillW i.fl E.tt ((parts.toList.map (·.1)).zip as) (zeroCells i.ty) with
   | some cs => some (true, .agg cs, [])
   | none => none) else none
  | none => none
 | .buildSlice T len parts, as => match E_ti E T with
  | some iT => match iT.elem with
   | some e => match E_ti E e with
    | some i => bif natsEq (parts.toList.map (·.1)) (rangeFrom 0 len) && Nat.ble (len * i.ty.sz) 16777216 then (match toDs rd i.ty as with
     | some xs => some (true, .own nid, as.flatMap (frz rd) ++ [(nid, .row e i.ty xs)])
     | none => none) else none
    | none => none
   | none => none
  | none => none
 | .load T _, [p] => match p with
  | .pb id off => match rd id with
   | some (.box cs) => match takeW E T (cs.drop off) with
    | some a => some (true, a, [])
    | none => none
   | some (.fbx cs) => match takeW E T (cs.drop off) with
    | some a => some (true, a, [])
    | none => none
   | _ => none
  | .pe id i off => match rd id with
   | some (.row _ t xs) => match takeW E T ((explode t (xs.getD i t.z)).drop off) with
    | some a => some (true, a, [])
    | none => none
   | some (.rows e e2 t xs) => bif Nat.beq off 0 && slOf E T t then some (true, .own nid, [(id, .rowx e e2 t xs i nid), (nid, .row e2 t (xs.getD i []))]) else none
   | _ => none
  | .rp cs => match takeW E T cs with
   | some a => some (true, a, [])
   | none => none
  | _ => none
 | .store T _ _, [p, x] => match E_ti E T with
  | some iT => bif Nat.beq (cellsOf x).length iT.ty.sz && plainB x then (match p with
   | .pb id off => match rd id with
    | some (.box cs) => match pokeW cs (cellsOf x) off with
     | some cs' => some (true, .un, [(id, .box cs')])
     | none => none
    | _ => none
   | .pe id i off => match rd id with
    | some (.row e t xs) => match pokeW (explode t (xs.getD i t.z)) (cellsOf x) off with
     | some cs' => match toD rd t (.agg cs') with
      | some y => bif ownIn id (cellsOf x) then none else some (true, .un, frz rd x ++ [(id, .row e t (xs.set i y))])
      | none => none
     | none => none
    | some (.rowx e e2 t xs j nd) => (match x with
     | .own q => (match rd q with
      | some (.row e' t' ys) => if h : t' = t then (bif Nat.beq e' e2 && Nat.beq off 0 && !Nat.beq q id then some (Nat.beq i j, .un, [(id, .rows e e2 t (xs.set i (castD (congrArg Ty.sl h) ys))), (q, .dead)]) else none) else none
      | _ => none)
     | _ => none)
    | _ => none
   | _ => none) else none
  | none => none
 | .nilCheck _, [x] => match x with
  | .pb _ _ => some (true, x, [])
  | .pe _ _ _ => some (true, x, [])
  | .rp _ => some (true, x, [])
  | .fn _ _ _ => some (true, x, [])
  | _ => none
 | .binOp op T _ _ _, [x, y] => match binW (boolT E T) (slT E T) op x y with
  | some (c, a) => some (c, a, [])
  | none => none
 | .unOp op _ _, [x] => match op, x with
  | .neg, .v (.int k) n => negW k n
  | .xor, .v (.int k) n => notW k n
  | .not, .v .bool b => notB b
  | _, _ => none
 | .convert src dst _, [x] => match E_ti E src, E_ti E dst with
  | some s, some d => match x with
   | .v (.int _) n => match d.ik with
    | some k => convW k n
    | none => none
   | .v .str t => bif d.str && s.str then some (true, x, []) else none
   | y => match s.elem with
    | some e => match E_ti E e, leafD rd (.sl (.int .u8)) y with
     | some ie, some xs => bif d.str && isU8 ie.ik then some (true, .v .str (strN xs), []) else none
     | _, _ => none
    | none => none
  | _, _ => none
 | .makeFunc (.func g) first caps, as => bif (as.take first.size).all plainB && (as.drop first.size).all leafB then some (true, .fn g (as.take first.size) (as.drop first.size), []) else none
 | .makeSlice T l c, [x, _] => match l, c with
  | .tmp a, .tmp b => bif Nat.beq a b then mk x nid T else none
  | .const (.int _ a), .const (.int _ b) => if a = b then mk x nid T else none
  | _, _ => none
 | .slice T _ lo hi none, as => match as with
  | x :: r => bif slicedB E rd T x then (match lo, hi, r with
   | none, none, [] => sliceW rd none none x
   | none, some _, [.v (.int _) h] => sliceW rd none (some h) x
   | some _, none, [.v (.int _) l] => sliceW rd (some l) none x
   | some _, some _, [.v (.int _) l, .v (.int _) h] => sliceW rd (some l) (some h) x
   | _, _, _ => none) else none
  | [] => none
 | .fieldAddr S _ f, [p] => match E_ti E S with
  | some i => bif i.agg then (match i.fl[f]? with
   | some (off, T) => match E_ti E T with
    | some _ => match p with
     | .pb id o => some (true, .pb id (o + off), [])
     | .pe id j o => some (true, .pe id j (o + off), [])
     | .rp cs => some (true, .rp (cs.drop off), [])
     | _ => none
    | none => none
   | none => none) else none
  | none => none
 | .field S _ f, [x] => match E_ti E S with
  | some i => bif i.agg then (match i.fl[f]? with
   | some (off, T) => match x with
    | .agg cs => match takeW E T (cs.drop off) with
     | some a => some (true, a, [])
     | none => none
    | _ => none
   | none => none) else none
  | none => none
 | .indexAddr T _ _, [x, ix] => match E_ti E T with
  | some iT => match iT.elem with
   | some e => match E_ti E e with
    | some ie => match ix with
     | .v (.int _) i => match x with
      | .v (.sl t) xs => if t = ie.ty then ixW t xs i (.rp (explode t (xs.getD i.toNat t.z))) else none
      | .own id => match rd id with
       | some (.row _ t xs) => if t = ie.ty then ixW t xs i (.pe id i.toNat 0) else none
       | some (.frz t xs) => if t = ie.ty then ixW t xs i (.rp (explode t (xs.getD i.toNat t.z))) else none
       | some (.rows _ _ t xs) => if Ty.sl t = ie.ty then ixW (.sl t) xs i (.pe id i.toNat 0) else none
       | some (.rowx _ _ t xs _ _) => if Ty.sl t = ie.ty then ixW (.sl t) xs i (.pe id i.toNat 0) else none
       | _ => none
      | _ => none
     | _ => none
    | none => none
   | none => none
  | none => none
 | .index T _ _, [x, ix] => match E_ti E T, x, ix with
  | some iT, .v .str s, .v (.int _) i => bif iT.str then chW s i else none
  | _, _, _ => none
 | .extract _ i, [x] => match x with
  | .tup vs => match vs[i]? with
   | some a => some (true, a, [])
   | none => none
  | _ => none
 | .call c, as => match c.callee, as with
  | .builtin .len, [x] => match c.argTypes.toList with
   | [T] => bif lenB E T x then (match lenW rd x with
    | some n => some (true, .v (.int .i64) n, [])
    | none => none) else none
   | _ => none
  | .builtin .append, [s, x] => match c.argTypes.toList with
   | [T, T'] => bif Nat.beq T T' then (match E_ti E T with
    | some iT => match iT.elem with
     | some e => match E_ti E e with
      | some i => match leafD rd (.sl i.ty) x with
       | some ys => appW e i nid rd s ys
       | none => none
      | none => none
     | none => none
    | none => none) else none
   | _ => none
  | .builtin .max, [.v (.int k) x, .v (.int k') y] => if k' = k then maxW k x y else none
  | .builtin .min, [.v (.int k) x, .v (.int k') y] => if k' = k then minW k x y else none
  | _, _ => none
 | _, _ => none
 where
 mk (x : AV) (nid T : Nat) : Step := match x with
  | .v (.int _) n => match E_ti E T with
   | some iT => match iT.elem with
    | some e => match E_ti E e with
     | some i => mkW nid e i n
     | none => none
    | none => none
   | none => none
  | _ => none
def ids1 : AV → List Nat
 | .own i => [i]
 | .pb i _ => [i]
 | .pe i _ _ => [i]
 | _ => []
def ids2 : AV → List Nat
 | .agg cs => cs.flatMap ids1
 | x => ids1 x
def idsA : AV → List Nat
 | .tup cs => cs.flatMap ids2
 | .fn _ fs cs => fs.flatMap ids2 ++ cs.flatMap ids1
 | x => ids2 x
def memN (n : Nat) : List Nat → Bool
 | [] => false
 | m :: r => Nat.beq m n || memN n r
def rdOf (H : List Row) (l : List Nat) (i : Nat) : Option Row := bif memN i l then H[i]? else none
def setH (H : List Row) : List (Nat × Row) → List Row
 | [] => H
 | (i, r) :: us => setH (H.set i r) us
def putT (σ : St) (d : Option Nat) (a : AV) : St := match d with
 | some d => { σ with tm := σ.tm.set d a }
 | none => σ
def news : Op → Nat
 | .alloc _ => 1
 | .box _ _ => 1
 | .buildSlice _ _ _ => 1
 | .makeSlice _ _ _ => 1
 | .load _ _ => 1
 | .call _ => 1
 | _ => 0
def cell0 : AV → AV
 | .v t x => .v t x
 | .nl => .nl
 | _ => .un
def shown1 (rd : Nat → Option Row) : AV → AV
 | .own id => match rd id with
  | some (.row _ t xs) => .v (.sl t) xs
  | some (.frz t xs) => .v (.sl t) xs
  | some (.rows _ _ t xs) => .v (.sl (.sl t)) xs
  | _ => .un
 | .nl => .nl
 | .pb id off => match rd id with
  | some (.box cs) => .rp ((cs.drop off).map cell0)
  | some (.fbx cs) => .rp ((cs.drop off).map cell0)
  | _ => .un
 | .v t x => .v t x
 | .rp cs => .rp cs
 | _ => .un
def shown2 (rd : Nat → Option Row) : AV → AV
 | .agg cs => .agg (cs.map (shown1 rd))
 | x => shown1 rd x
def shown (rd : Nat → Option Row) : AV → AV
 | .fn g fs cs => .fn g (fs.map (shown2 rd)) (cs.map (shown1 rd))
 | x => shown2 rd x
def stay (rd : Nat → Option Row) (i : Nat) : List (Nat × Row) := match rd i with
 | some (.row _ t xs) => [(i, .frz t xs)]
 | some (.box cs) => [(i, .fbx cs)]
 | some (.rows _ _ t xs) => [(i, .frz (.sl t) xs)]
 | _ => []
def flat1 : AV → Bool
 | .v (.int _) _ => true
 | .v .bool _ => true
 | .v .str _ => true
 | .nl => true
 | .un => true
 | _ => false
def flat2 : AV → Bool
 | .agg cs => cs.all flat1
 | x => flat1 x
def flat : AV → Bool
 | .tup cs => cs.all flat2
 | x => flat2 x
def rows1 : AV → List Row
 | .nw e t xs => [.row e t xs]
 | _ => []
def adL1 (nid : Nat) : List AV → List AV
 | [] => []
 | .nw _ _ _ :: r => .own nid :: adL1 (nid + 1) r
 | a :: r => a :: adL1 nid r
def rowsL1 (cs : List AV) : List Row := cs.flatMap rows1
def rows2 : AV → List Row
 | .agg cs => rowsL1 cs
 | x => rows1 x
def ad2 (nid : Nat) : AV → AV
 | .agg cs => .agg (adL1 nid cs)
 | .nw _ _ _ => .own nid
 | x => x
def adL2 (nid : Nat) : List AV → List AV
 | [] => []
 | a :: r => ad2 nid a :: adL2 (nid + (rows2 a).length) r
def rowsA : AV → List Row
 | .tup cs => cs.flatMap rows2
 | x => rows2 x
def adA (nid : Nat) : AV → AV
 | .tup cs => .tup (adL2 nid cs)
 | x => ad2 nid x
def numbered (i : Nat) : List Row → List (Nat × Row)
 | [] => []
 | r :: rs => (i, r) :: numbered (i + 1) rs
structure Rec where
  rd : List Nat
  wr : List Nat
def fsts : List (Nat × Row) → List Nat
 | [] => []
 | (i, _) :: r => i :: fsts r
def isCall : Op → Bool
 | .call c => match c.callee with
  | .value _ => true
  | _ => false
 | _ => false
def most : Nat := 3
def newsO (o : Oper) : Nat := bif isCall o.op then most else news o.op
def inIds (l : List Nat) (nid n : Nat) : List Nat → Bool
 | [] => true
 | i :: r => (memN i l || (Nat.ble nid i && Nat.blt i (nid + n))) && inIds l nid n r
def flatT : Ty → Bool
 | .int _ => true
 | .bool => true
 | .str => true
 | .sl _ => false
 | .pair a b => flatT a && flatT b
def rdIn (rd : Nat → Option Row) (l : List Nat) (i : Nat) : Option Row := bif memN i l then rd i else none
def restA (p : Nat) (args : List AV) : List Nat := (args.set p .un).flatMap idsA
def mups (t : Ty) (rd : Nat → Option Row) (rest : List Nat) (id nid e : Nat) (res : Option AV) (ys : List t.D) : List (Nat × Row) :=
 (bif flatT t then [] else rest.flatMap (stay (rdIn rd rest))) ++ (match res with
  | some _ => [(id, .row e t ys)]
  | none => [(id, .dead), (nid, .row e t ys)])
def mval (nid : Nat) : Option AV → AV
 | some av => av
 | none => .own nid
def flatO : Option AV → Bool
 | some av => flat av
 | none => true
def mexec (mh : MHand) (as args : List AV) (nid : Nat) (o : Oper) (σ : St) (κ : Rec → St → Option AV) : Option AV :=
 match args[mh.1]? with
 | some (.own id) => match rdOf σ.hp (as.flatMap idsA) id with
  | some (.row e t xs) => bif memN id (restA mh.1 args) then none else
    mh.2 ((args.set mh.1 .un).map (shown (rdIn (rdOf σ.hp (as.flatMap idsA)) (restA mh.1 args)))) e t xs fun res ys =>
     bif flatO res then κ ⟨as.flatMap idsA, fsts (mups t (rdOf σ.hp (as.flatMap idsA)) (restA mh.1 args) id nid e res ys)⟩
      (putT { σ with hp := setH σ.hp (mups t (rdOf σ.hp (as.flatMap idsA)) (restA mh.1 args) id nid e res ys) } o.dst (mval nid res)) else none
  | _ => none
 | _ => none
def idsO (o : Op) (as : List AV) : List Nat := match o with
 | .move _ => []
 | .assign _ => []
 | _ => as.flatMap idsA
def execW (E : Env) (o : Oper) (nid : Nat) (σ : St) (κ : Rec → St → Option AV) : Option AV :=
 match getOs σ o.op.operands.toList with
 | none => none
 | some as =>
  bif isCall o.op then
   match as with
   | .fn g fs cs :: args =>
    match look g E.mcalls with
    | some mh => (match fs, cs with
     | [], [] => mexec mh as args nid o σ κ
     | _, _ => none)
    | none =>
    match look g E.calls with
    | some h => h ((fs ++ args ++ cs).map (shown (rdOf σ.hp (as.flatMap idsA)))) (fun av =>
      bif Nat.ble (rowsA av).length most then
       κ ⟨as.flatMap idsA, (bif flat av then [] else fsts ((as.flatMap idsA).flatMap (stay (rdOf σ.hp (as.flatMap idsA))))) ++ fsts (numbered nid (rowsA av))⟩
        (putT { σ with hp := setH σ.hp ((bif flat av then [] else (as.flatMap idsA).flatMap (stay (rdOf σ.hp (as.flatMap idsA)))) ++ numbered nid (rowsA av)) } o.dst (adA nid av))
      else none)
    | none => none
   | _ => none
  else
   match stepW E o.op nid as (rdOf σ.hp (idsO o.op as)) with
   | some (c, a, ups) => bif inIds (idsO o.op as) nid (newsO o) (fsts ups) then (bif c then κ ⟨idsO o.op as, fsts ups⟩ (putT { σ with hp := setH σ.hp ups } o.dst a) else none) else none
   | none => none
def guardS (all : List Oper) (g : Nat) : Option Nat := match all[g]? with
 | some o => o.dst
 | none => none
def setB (σ : St) (s : Nat) (b : Bool) : St := { σ with tm := σ.tm.set s (.v .bool b) }
def runOps (E : Env) (all : List Oper) : List Oper → Nat → List Rec → St → (List Rec → St → Option AV) → Option AV
 | [], _, tr, σ, κ => κ tr σ
 | o :: r, nid, tr, σ, κ =>
  match o.guard with
  | none => execW E o nid σ (fun c σ' => runOps E all r (nid + newsO o) (tr ++ [c]) σ' κ)
  | some (g, b) => match guardS all g with
   | some s => match σ.tm[s]? with
    | some (.v .bool x) => onB x
      (bif b then execW E o nid (setB σ s true) (fun c σ' => runOps E all r (nid + newsO o) (tr ++ [c]) σ' κ)
       else runOps E all r (nid + newsO o) (tr ++ [⟨[], []⟩]) (putT (setB σ s true) o.dst (.tup [])) κ)
      (bif b then runOps E all r (nid + newsO o) (tr ++ [⟨[], []⟩]) (putT (setB σ s false) o.dst (.tup [])) κ
       else execW E o nid (setB σ s false) (fun c σ' => runOps E all r (nid + newsO o) (tr ++ [c]) σ' κ))
    | some (.tup []) => runOps E all r (nid + newsO o) (tr ++ [⟨[], []⟩]) (putT σ o.dst (.tup [])) κ
    | _ => none
   | none => none
 where
 onB (x : Bool) (t e : Option AV) : Option AV := bif x then t else e
def bindsE (e : Edge) : Bool := Region.binds .any e
def predsL : List Oper → List (List Nat) → List (List Nat)
 | [], acc => acc
 | o :: r, acc => predsL r (acc ++ [(o.after.toList.filter bindsE).flatMap fun e => e.on :: acc.getD e.on []])
def elder : List Oper → Nat → Bool
 | [], _ => true
 | o :: r, i => ((o.after.toList.filter bindsE).all fun e => Nat.blt e.on i) && elder r (i + 1)
def tmpsOf : List Operand → List Nat
 | [] => []
 | .tmp t :: r => t :: tmpsOf r
 | _ :: r => tmpsOf r
def rdS (all : List Oper) (o : Oper) : List Nat := tmpsOf o.op.operands.toList ++ (match o.guard with
 | some (g, _) => (guardS all g).toList
 | none => [])
def apartL (a b : List Nat) : Bool := a.all fun x => !memN x b
def apartO (all : List Oper) (x y : Oper) (p q : Rec) : Bool :=
 apartL x.dst.toList (rdS all y) && apartL x.dst.toList y.dst.toList && apartL y.dst.toList (rdS all x) &&
 apartL p.wr q.rd && apartL p.wr q.wr && apartL q.wr p.rd
def apartAll (all : List Oper) (ps : List (List Nat)) (y : Oper) (q : Rec) (j : Nat) : List (Oper × Rec) → Nat → Bool
 | [], _ => true
 | (x, p) :: r, i => (memN i (ps.getD j []) || apartO all x y p q) && apartAll all ps y q j r (i + 1)
def indepL (all : List Oper) (ps : List (List Nat)) : List (Oper × Rec) → List (Oper × Rec) → Nat → Bool
 | _, [], _ => true
 | pre, (y, q) :: r, j => apartAll all ps y q j pre 0 && indepL all ps (pre ++ [(y, q)]) r (j + 1)
def indep (all : List Oper) (tr : List Rec) : Bool := elder all 0 && indepL all (predsL all []) [] (all.zip tr) 0
def keepT (keep : List Nat) : Nat → List AV → List AV
 | _, [] => []
 | i, a :: r => (bif memN i keep then a else .un) :: keepT keep (i + 1) r
def dedupN : List Nat → List Nat → List Nat
 | acc, [] => acc
 | acc, a :: r => bif memN a acc then dedupN acc r else dedupN (acc ++ [a]) r
def inner (H : List Row) (i : Nat) : List Nat := match H[i]? with
 | some (.box cs) => cs.flatMap ids1
 | some (.fbx cs) => cs.flatMap ids1
 | _ => []
def there (H : List Row) (i : Nat) : Bool := match H[i]? with
 | some .dead => false
 | some .hole => false
 | none => false
 | _ => true
def placeN (n : Nat) : List Nat → Nat → Option Nat
 | [], _ => none
 | m :: r, i => bif Nat.beq m n then some i else placeN n r (i + 1)
def ren1 (o : List Nat) : AV → AV
 | .own i => match placeN i o 0 with
  | some j => .own j
  | none => .un
 | .pb i f => match placeN i o 0 with
  | some j => .pb j f
  | none => .un
 | .pe i k f => match placeN i o 0 with
  | some j => .pe j k f
  | none => .un
 | a => a
def ren2 (o : List Nat) : AV → AV
 | .agg cs => .agg (cs.map (ren1 o))
 | a => ren1 o a
def renA (o : List Nat) : AV → AV
 | .tup cs => .tup (cs.map (ren2 o))
 | .fn g fs cs => .fn g (fs.map (ren2 o)) (cs.map (ren1 o))
 | a => ren2 o a
def renR (o : List Nat) : Row → Row
 | .box cs => .box (cs.map (ren1 o))
 | .fbx cs => .fbx (cs.map (ren1 o))
 | .rowx _ _ _ _ _ _ => .dead
 | .gst F O w0 v => bif Nat.beq (o.getD 1 0) 1 && Nat.blt 1 o.length then .gst F O w0 v else .dead
 | r => r
def nodupN : List Nat → Bool
 | [] => true
 | a :: r => !memN a r && nodupN r
def preN : List Row → List Nat
 | .gst _ _ _ _ :: _ => [0, 1]
 | _ => []
def orderN (H : List Row) (tm : List AV) : List Nat :=
 let o1 := dedupN (preN H) (tm.flatMap idsA)
 let o2 := dedupN o1 (o1.flatMap (inner H))
 let o3 := dedupN o2 (o2.flatMap (inner H))
 o3.filter (there H)
def tidyBy (o : List Nat) (σ : St) : St := { tm := σ.tm.map (renA o), hp := o.map fun i => renR o (σ.hp.getD i .dead) }
def settle1 (H : List Row) (i : Nat) : List Row := match H[i]? with
 | some (.rowx e e2 t xs j nid) => (match H[nid]? with
  | some (.row e' t' ys) => if h : t' = t then (bif Nat.beq e' e2 && !Nat.beq nid i then (H.set i (.rows e e2 t (xs.set j (castD (congrArg Ty.sl h) ys)))).set nid .dead else H) else H
  | _ => H)
 | _ => H
def settleL : List Nat → List Row → List Row
 | [], H => H
 | i :: r, H => settleL r (settle1 H i)
def settle (σ : St) : St := { σ with hp := settleL (rangeFrom 0 σ.hp.length) σ.hp }
def tidy0 (keep : List Nat) (σ : St) : Option St :=
 bif nodupN (orderN σ.hp (keepT keep 0 σ.tm)) then some (tidyBy (orderN σ.hp (keepT keep 0 σ.tm)) { σ with tm := keepT keep 0 σ.tm }) else none
def tidy (keep : List Nat) (σ : St) : Option St := tidy0 keep (settle σ)
def keyOf : Code → Option Nat
 | .region id _ _ => some id
 | .seq a b => match keyOf a with
  | some k => some k
  | none => keyOf b
 | .cond _ x y => match keyOf x with
  | some k => some k
  | none => keyOf y
 | .block _ c => keyOf c
 | .scope c => keyOf c
 | .loop c => keyOf c
 | _ => none
def lift1 (E : Env) (s e : Nat) (σ : St) : St := match σ.tm[s]? with
 | some .nl => match E_ti E e with
  | some i => { tm := σ.tm.set s (.own σ.hp.length), hp := σ.hp ++ [.row e i.ty []] }
  | none => σ
 | _ => σ
def lift2 (E : Env) (s e f : Nat) (σ : St) : St := match σ.tm[s]? with
 | some (.pb id _) => match σ.hp[id]? with
  | some (.box cs) => match cs[f]? with
   | some .nl => match E_ti E e with
    | some i => { σ with hp := σ.hp.set id (.box (cs.set f (.own σ.hp.length))) ++ [.row e i.ty []] }
    | none => σ
   | _ => σ
  | _ => σ
 | _ => σ
def liftL (E : Env) : List Nat → St → St
 | [], σ => σ
 | n :: r, σ => liftL E r (bif Nat.ble 10000 n then (bif Nat.ble 100000000 n then lift2 E (n % 10000) (n / 10000 % 10000) (n / 100000000 - 1) σ else lift1 E (n % 10000) (n / 10000) σ) else σ)
def tidyAt (E : Env) (c : Code) (σ : St) : Option St := match keyOf c with
 | some k => match look k E.keep with
  | some l => tidy l (liftL E l σ)
  | none => some σ
 | none => some σ
def tidyEx (E : Env) (id : Nat) (σ : St) : Option St := match look id E.exk with
 | some l => tidy l σ
 | none => some σ
def tidyRet (E : Env) (σ : St) : Option St := match E.fin with
 | some l => tidy l σ
 | none => some σ
def slots (n : Nat) : List (Nat × AV) → List AV
 | [] => List.replicate n .un
 | (i, a) :: r => (slots n r).set i a
structure Conts where
  nrm : St → Option AV
  ret : St → Option AV
  ex : List (Nat × (St → Option AV))
def padH (n : Nat) (σ : St) : St := { σ with hp := σ.hp ++ List.replicate n .hole }
def newsAll : List Oper → Nat
 | [] => 0
 | o :: r => newsO o + newsAll r
def runC (E : Env) (lp : Code → Conts → St → Option AV) : Code → Conts → St → Option AV
 | .skip, K, σ => K.nrm σ
 | .label _, K, σ => K.nrm σ
 | .scope c, K, σ => runC E lp c K σ
 | .region _ ops draw, K, σ => runOps E ops.toList ops.toList σ.hp.length [] (padH (newsAll ops.toList) σ) (fun tr σ' =>
   bif !draw || indep ops.toList tr then K.nrm σ' else none)
 | .seq a b, K, σ => runC E lp a { K with nrm := fun σ' => match tidyAt E b σ' with
   | some σ'' => runC E lp b K σ''
   | none => none } σ
 | .cond (.tmp c) x y, K, σ => match σ.tm[c]? with
  | some (.v .bool t) => runOps.onB t (runC E lp x K (setB σ c true)) (runC E lp y K (setB σ c false))
  | _ => none
 | .cond (.const (.bool b)) x y, K, σ => bif b then runC E lp x K σ else runC E lp y K σ
 | .block id c, K, σ => runC E lp c { K with ex := (id, K.nrm) :: K.ex } σ
 | .loop c, K, σ => match tidyAt E c σ with
  | some σ' => lp c K σ'
  | none => none
 | .exit id, K, σ => match look id K.ex with
  | some k => (match tidyEx E id σ with
   | some σ' => k σ'
   | none => none)
  | none => none
 | .ret, K, σ => match tidyRet E σ with
  | some σ' => K.ret σ'
  | none => none
 | _, _, _ => none
def loopF (E : Env) : Nat → Code → Conts → St → Option AV
 | 0, _, _, _ => none
 | n + 1, c, K, σ => runC E (loopF E n) c { K with nrm := fun σ' => match tidyAt E c σ' with
   | some σ'' => loopF E n c K σ''
   | none => none } σ
def resW (E : Env) (σ : St) : ResultVar → Option AV
 | .tmp t => match σ.tm[t]? with
  | some a => some a
  | none => none
 | .cell t T => match σ.tm[t]? with
  | some (.pb id off) => match σ.hp[id]? with
   | some (.box cs) => takeW E T (cs.drop off)
   | some (.fbx cs) => takeW E T (cs.drop off)
   | _ => none
  | _ => none
def resWs (E : Env) (σ : St) : List ResultVar → Option (List AV)
 | [] => some []
 | r :: rs => match resW E σ r with
  | some a => match resWs E σ rs with
   | some as => some (a :: as)
   | none => none
  | none => none
def nw1 (H : List Row) : AV → List Nat
 | .own id => match H[id]? with
  | some (.row _ _ _) => [id]
  | _ => []
 | _ => []
def nw2 (H : List Row) : AV → List Nat
 | .agg cs => cs.flatMap (nw1 H)
 | x => nw1 H x
def fin1 (H : List Row) (ns rest : List Nat) : AV → AV
 | .own id => bif memN id ns then (match H[id]? with
  | some (.row e t xs) => .nw e t xs
  | _ => .un) else shown1 (rdOf H rest) (.own id)
 | x => shown1 (rdOf H rest) x
def fin2 (H : List Row) (ns rest : List Nat) : AV → AV
 | .agg cs => .agg (cs.map (fin1 H ns rest))
 | x => fin1 H ns rest x
def tupW : List AV → AV
 | [a] => a
 | as => .tup as
def restN (ns : List Nat) : List Nat → List Nat
 | [] => []
 | i :: r => bif memN i ns then restN ns r else i :: restN ns r
def endW (E : Env) (own : Bool) (rs : List ResultVar) (σ : St) : Option AV := match resWs E σ rs with
 | some as => finW (bif own then as.flatMap (nw2 σ.hp) else []) as
 | none => none
 where
 finW (ns : List Nat) (as : List AV) : Option AV := bif nodupN ns then some (tupW (as.map (fin2 σ.hp ns (restN ns (as.flatMap idsA))))) else none
def startW (fn : Func) (as : List AV) : St := { tm := as ++ List.replicate (fn.ntmps - as.length) .un, hp := [] }
def bodyOf (fn : Func) : Code := fn.body.getD .skip
def callW (E : Env) (own : Bool) (fn : Func) (k : Nat) (as : List AV) : Option AV :=
 runC E (loopF E k) (bodyOf fn) { nrm := endW E own fn.results.toList, ret := endW E own fn.results.toList, ex := [] } (startW fn as)
def atC (E : Env) (n : Nat) : List Nat → Code → Conts → List Nat → Code × Conts
 | ms, .seq a b, K, 0 :: p => atC E n ms a { K with nrm := fun σ' => match tidyAt E b σ' with
   | some σ'' => runC E (loopF E n) b K σ''
   | none => none } p
 | ms, .seq _ b, K, 1 :: p => atC E n ms b K p
 | ms, .cond _ x _, K, 0 :: p => atC E n ms x K p
 | ms, .cond _ _ y, K, 1 :: p => atC E n ms y K p
 | ms, .scope c, K, 0 :: p => atC E n ms c K p
 | ms, .block id c, K, 0 :: p => atC E n ms c { K with ex := (id, K.nrm) :: K.ex } p
 | m :: ms, .loop c, K, 0 :: p => atC E m ms c { K with nrm := fun σ' => match tidyAt E c σ' with
   | some σ'' => loopF E m c K σ''
   | none => none } p
 | _, c, K, _ => (c, K)
def contAt (E : Env) (n : Nat) (c : Code) (K : Conts) (p : List Nat) : Conts := (atC E n [] c K p).2
def subC : List Nat → Code → Code
 | 0 :: p, .seq a _ => subC p a
 | 1 :: p, .seq _ b => subC p b
 | 0 :: p, .cond _ x _ => subC p x
 | 1 :: p, .cond _ _ y => subC p y
 | 0 :: p, .block _ c => subC p c
 | 0 :: p, .scope c => subC p c
 | 0 :: p, .loop c => subC p c
 | _, c => c
def inLoop : Code → Code
 | .loop c => c
 | c => c
def loopK (E : Env) (n : Nat) (c : Code) (K : Conts) : Conts := { K with nrm := fun σ' => match tidyAt E c σ' with
   | some σ'' => loopF E n c K σ''
   | none => none }
def exitK (K : Conts) (i : Nat) (σ : St) : Option AV := match look i K.ex with
 | some f => f σ
 | none => none
end Go.Proofs.YtlfdikofmfhefaaGreatDoor.Ev
set_option linter.unusedVariables false
set_option linter.unusedSimpArgs false
namespace Go.Proofs.YtlfdikofmfhefaaGreatDoor.Ev
open Go Go.RowKit
structure Moves (w w' : World) (ok ok' : Nat → Prop) : Prop where
  sz : w.heap.size ≤ w'.heap.size
  blk : ∀ k, ok k → k < w.heap.size → w'.heap[k]? = w.heap[k]? ∧ ok' k
theorem Moves.refl (w : World) (ok : Nat → Prop) : Moves w w ok ok := ⟨Nat.le_refl _, fun _ h _ => ⟨rfl, h⟩⟩
theorem Moves.trans {w w' w'' : World} {ok ok' ok'' : Nat → Prop} (h : Moves w w' ok ok') (h' : Moves w' w'' ok' ok'') : Moves w w'' ok ok'' := ⟨Nat.le_trans h.sz h'.sz, fun k hk hl =>
 ⟨(h'.blk k (h.blk k hk hl).2 (Nat.lt_of_lt_of_le hl h.sz)).1.trans (h.blk k hk hl).1, (h'.blk k (h.blk k hk hl).2 (Nat.lt_of_lt_of_le hl h.sz)).2⟩⟩
theorem Moves.of_below {w w' : World} {ok : Nat → Prop} (h : Below w.heap.size w w') : Moves w w' ok ok := ⟨h.size, fun k hk hl => ⟨h.block k hl, hk⟩⟩
theorem Moves.of_grown {w w' : World} {ok : Nat → Prop} {row : Option Nat} (h : w.grownBy w' row) (hr : ∀ k, row = some k → ¬ ok k) : Moves w w' ok ok := ⟨h.size, fun k hk hl =>
 ⟨h.block k hl (fun e => hr k e.symm hk), hk⟩⟩
theorem Moves.rd {w w' : World} {ok ok' : Nat → Prop} (h : Moves w w' ok ok') {t : Ty} {x : t.D} {cs : List Value} (hr : Rd w ok t x cs) : Rd w' ok' t x cs := Rd_move h.blk hr
def Row.nl : Row → Option Nat
 | .rows _ _ _ xs => some xs.length
 | .rowx _ _ _ xs _ _ => some xs.length
 | _ => none
inductive Trans (w : World) (ok : Nat → Prop) (u : Value) : Row → Row → Prop
  | same (r) : Trans w ok u r r
  | dead (r) : Trans w ok u r .dead
  | frz (e t xs ys) : Rd w ok (.sl t) ys [u] → Trans w ok u (.row e t xs) (.frz t ys)
  | row (e t xs ys) : ys.length = xs.length → Trans w ok u (.row e t xs) (.row e t ys)
  | fbx (cs cs') : Trans w ok u (.box cs) (.fbx cs')
  | box (cs cs') : Trans w ok u (.box cs) (.box cs')
  | nest {r r' : Row} {n : Nat} (h1 : r.nl = some n) (h2 : r'.nl = some n) : Trans w ok u r r'
  | nfrz {r : Row} {t : Ty} {ys : List t.D} {n : Nat} (h1 : r.nl = some n) (hx : Rd w ok (.sl t) ys [u]) : Trans w ok u r (.frz t ys)
structure HStep (w w' : World) (ok ok' : Nat → Prop) (H H' : List Row) (m m' : Nat → Value) : Prop where
  mv : Moves w w' ok ok'
  tr : ∀ id r, H[id]? = some r → r ≠ .hole → m' id = m id ∧ ∃ r', H'[id]? = some r' ∧ Trans w' ok' (m id) r r'
theorem rel0_move {w w' : World} {ok ok' : Nat → Prop} (h : Moves w w' ok ok') {a : AV} {u : Value} (hr : rel0 w ok a u) : rel0 w' ok' a u := by
 cases a <;> simp only [rel0] at hr ⊢ <;> first | exact h.rd hr | exact hr | trivial
theorem rp_move {w w' : World} {ok ok' : Nat → Prop} (h : Moves w w' ok ok') {cs : List AV} {u : Value}
  (hr : ∃ ad us, u = .pointer (some ad) ∧ ok ad.block ∧ ad.block < w.heap.size ∧ Cells w ad us ∧ F2 (rel0 w ok) cs us) :
  ∃ ad us, u = .pointer (some ad) ∧ ok' ad.block ∧ ad.block < w'.heap.size ∧ Cells w' ad us ∧ F2 (rel0 w' ok') cs us := by
 obtain ⟨ad, us, rfl, hk, hl, hc, hf⟩ := hr
 obtain ⟨hb, hk'⟩ := h.blk _ hk hl
 exact ⟨ad, us, rfl, hk', Nat.lt_of_lt_of_le hl h.sz, hc.move hb, hf.imp fun _ _ _ h' => rel0_move h h'⟩
theorem rel1_step {w w' : World} {ok ok' : Nat → Prop} {H H' : List Row} {m m' : Nat → Value} (h : HStep w w' ok ok' H H' m m') {a : AV} {u : Value}
  (hr : rel1 w ok H m a u) : rel1 w' ok' H' m' a u := by
 cases a with
 | v t x => exact h.mv.rd hr
 | nl => exact hr
 | un => trivial
 | rp cs => exact rp_move h.mv hr
 | agg cs => exact hr.elim
 | tup cs => exact hr.elim
 | fn g f c => exact hr.elim
 | nw e t xs => exact hr.elim
 | own id =>
  simp only [rel1] at hr ⊢
  refine ⟨hr.1, ?_⟩
  replace hr := hr.2
  cases hH : H[id]? with
  | none => rw [hH] at hr; exact hr.elim
  | some r =>
   rw [hH] at hr
   have hh : r ≠ .hole := by rintro rfl; exact hr
   obtain ⟨hm, r', hr', ht⟩ := h.tr id r hH hh
   rw [hr', hm]
   cases ht with
   | same => cases r <;> first | exact hr | exact h.mv.rd hr
   | dead => trivial
   | frz e t xs ys hx => simp only at hr ⊢; rw [hr]; exact hx
   | row e t xs ys _ => exact hr
   | fbx => exact hr.elim
   | box => exact hr.elim
   | nest h1 h2 =>
    have hu : u = m id := by cases r <;> first | exact hr | simp [Row.nl] at h1
    cases r' <;> first | exact hu | simp [Row.nl] at h2
   | nfrz h1 hx =>
    have hu : u = m id := by cases r <;> first | exact hr | simp [Row.nl] at h1
    subst hu
    exact hx
 | pb id off =>
  simp only [rel1] at hr ⊢
  refine ⟨hr.1, ?_⟩
  replace hr := hr.2
  cases hH : H[id]? with
  | none => rw [hH] at hr; exact hr.elim
  | some r =>
   rw [hH] at hr
   have hh : r ≠ .hole := by rintro rfl; exact hr
   obtain ⟨hm, r', hr', ht⟩ := h.tr id r hH hh
   rw [hr', hm]
   cases ht with
   | same => exact hr
   | dead => trivial
   | frz e t xs ys hx => exact hr.elim
   | row e t xs ys _ => exact hr.elim
   | fbx => exact hr
   | box => exact hr
   | nest h1 h2 => cases r <;> first | exact hr.elim | simp [Row.nl] at h1
   | nfrz h1 hx => cases r <;> first | exact hr.elim | simp [Row.nl] at h1
 | pe id i off =>
  simp only [rel1] at hr ⊢
  refine ⟨hr.1, ?_⟩
  replace hr := hr.2
  cases hH : H[id]? with
  | none => rw [hH] at hr; exact hr.elim
  | some r =>
   rw [hH] at hr
   have hh : r ≠ .hole := by rintro rfl; exact hr
   obtain ⟨hm, r', hr', ht⟩ := h.tr id r hH hh
   rw [hr', hm]
   cases ht with
   | same => exact hr
   | dead => trivial
   | frz e t xs ys hx => trivial
   | row e t xs ys hl => simp only at hr ⊢; rw [hl]; exact hr
   | fbx => exact hr.elim
   | box => exact hr.elim
   | @nest _ _ n h1 h2 =>
    have hu : i < n ∧ ∃ b n c, m id = .slice (some ⟨b, 0, none⟩) n c ∧ u = .pointer (some ⟨b, i + off, none⟩) := by
     cases r <;> first | (simp only [Row.nl, Option.some.injEq] at h1; subst h1; exact hr) | simp [Row.nl] at h1
    cases r' <;> first | (simp only [Row.nl, Option.some.injEq] at h2; subst h2; exact hu) | simp [Row.nl] at h2
   | nfrz h1 hx => trivial
theorem rel2_step {w w' : World} {ok ok' : Nat → Prop} {H H' : List Row} {m m' : Nat → Value} (h : HStep w w' ok ok' H H' m m') {a : AV} {u : Value}
  (hr : rel2 w ok H m a u) : rel2 w' ok' H' m' a u := by
 cases a with
 | agg cs =>
  obtain ⟨us, rfl, hf⟩ := hr
  exact ⟨us, rfl, hf.imp fun _ _ _ h' => rel1_step h h'⟩
 | _ => simp only [rel2] at hr ⊢; exact rel1_step h hr
theorem rel_step {w w' : World} {ok ok' : Nat → Prop} {H H' : List Row} {m m' : Nat → Value} (h : HStep w w' ok ok' H H' m m') {a : AV} {u : Value}
  (hr : rel w ok H m a u) : rel w' ok' H' m' a u := by
 cases a with
 | tup cs =>
  obtain ⟨us, rfl, hf⟩ := hr
  exact ⟨us, rfl, hf.imp fun _ _ _ h' => rel2_step h h'⟩
 | fn g fs cs =>
  obtain ⟨us, vs, rfl, hf, hc⟩ := hr
  exact ⟨us, vs, rfl, hf.imp fun _ _ _ h' => rel2_step h h', hc.imp fun _ _ _ h' => rel1_step h h'⟩
 | _ => simp only [rel] at hr ⊢; exact rel2_step h hr
theorem ownsRow_move {w w' : World} {base e size n : Nat} {v : Value} {xs : List Value} (h : w.ownsRow base e size v n xs)
  (hm : ∀ k, mblk v = some k → w'.heap[k]? = w.heap[k]?) : w'.ownsRow base e size v n xs := by
 obtain ⟨h1, h2⟩ := h
 refine ⟨h1, ?_⟩
 rcases h2 with h2 | ⟨g, cap, cur, rfl, hg, hh, r⟩
 ·exact .inl h2
 ·exact .inr ⟨g, cap, cur, rfl, hg, (hm g rfl).trans hh, r⟩
theorem heap_lt {w : World} {k : Nat} {o : Obj} (h : w.heap[k]? = some o) : k < w.heap.size := (Array.getElem?_eq_some_iff.1 h).1
theorem ownsRow_blk {w : World} {base e size n : Nat} {v : Value} {xs : List Value} (h : w.ownsRow base e size v n xs) : ∀ k, mblk v = some k → base ≤ k ∧ k < w.heap.size := by
 intro k hk
 rcases h.2 with ⟨rfl, _⟩ | ⟨g, cap, cur, rfl, hg, hh, _⟩
 ·simp [mblk] at hk
 ·simp only [mblk, Option.some.injEq] at hk
  subst hk
  exact ⟨hg, heap_lt hh⟩
theorem ownsRow_cellAt {w : World} {base e n : Nat} {v : Value} {xs : List Value} (h : w.ownsRow base e 1 v n xs) {j : Nat} (hj : j < n) : cellAt w v j = xs[j]? := by
 rcases h.2 with ⟨_, h0⟩ | ⟨g, cap, cur, hv, _⟩
 ·omega
 ·have hlt : j < xs.length := by have := h.1; omega
  have hc := h.cells (g := g) (by rw [hv]; rfl) j xs[j] (List.getElem?_eq_getElem hlt)
  rw [List.getElem?_eq_getElem hlt, hv]
  exact hc
theorem Nst.lt {w : World} {ok : Nat → Prop} {base e2 : Nat} {t : Ty} {xs : List (List t.D)} {us : List Value} {out : Nat → Prop} (h : Nst w ok base e2 t xs us out) {j k : Nat} {v : Value} (ho : ¬ out j) (hj : us[j]? = some v) (hk : mblk v = some k) : base ≤ k ∧ k < w.heap.size := by
 have hl : j < xs.length := by rw [← h.len]; exact (List.getElem?_eq_some_iff.1 hj).1
 obtain ⟨vs, _, hown⟩ := h.own j _ v ho (List.getElem?_eq_getElem hl) hj
 exact ownsRow_blk hown k hk
theorem RowRel.lt {w : World} {ok : Nat → Prop} {base : Nat} {H : List Row} {m : Nat → Value} {u : Value} {r : Row} (h : RowRel w ok base H m u r) (hl : r.live = true) :
  ∀ k, RB w u r k → base ≤ k ∧ k < w.heap.size := by
 intro k hk
 cases r with
 | row e t xs =>
  obtain ⟨us, _, h⟩ := h
  exact ownsRow_blk h k hk
 | box cs =>
  obtain ⟨b, T, cur, rfl, hb, hh, _⟩ := h
  have hk : mblk (.pointer (some ⟨b, 0, none⟩)) = some k := hk
  simp only [mblk, Option.some.injEq] at hk
  subst hk
  exact ⟨hb, heap_lt hh⟩
 | rows e e2 t xs =>
  obtain ⟨us, h1, h2, _⟩ := h
  rcases hk with hk | ⟨j, v, hj, hc, hk⟩
  ·exact ownsRow_blk h1 k hk
  ·rw [ownsRow_cellAt h1 hj] at hc
   exact h2.lt (fun h => h) hc hk
 | rowx e e2 t xs i nid =>
  obtain ⟨us, h1, _, _, _, h2, _⟩ := h
  rcases hk with hk | ⟨j, v, hne, hj, hc, hk⟩
  ·exact ownsRow_blk h1 k hk
  ·rw [ownsRow_cellAt h1 hj] at hc
   exact h2.lt hne hc hk
 | gst F O w0 v => exact ⟨(h.1 k hk).1, (h.1 k hk).2.1⟩
 | _ => simp [Row.live] at hl
theorem cellAt_same {w w' : World} {u : Value} (hb : ∀ k, mblk u = some k → w'.heap[k]? = w.heap[k]?) (j : Nat) : cellAt w' u j = cellAt w u j := by
 cases u with
 | slice p n c =>
  cases p with
  | none => rfl
  | some a => exact World.cell?_of_block (by rw [add_block]; exact hb a.block rfl)
 | _ => rfl
theorem RB.same {w w' : World} {u : Value} {r : Row} {k : Nat} (hb' : r.isG = false → ∀ k, mblk u = some k → w'.heap[k]? = w.heap[k]?) (h : RB w' u r k) : RB w u r k := by
 cases hG : r.isG with
 | true => cases r <;> first | exact h | simp [Row.isG] at hG
 | false =>
 have hb := hb' hG
 cases r with
 | rows e e2 t xs =>
  rcases h with h | ⟨j, v, hj, hc, hk⟩
  ·exact .inl h
  ·exact .inr ⟨j, v, hj, by rw [← cellAt_same hb]; exact hc, hk⟩
 | rowx e e2 t xs i nid =>
  rcases h with h | ⟨j, v, hne, hj, hc, hk⟩
  ·exact .inl h
  ·exact .inr ⟨j, v, hne, hj, by rw [← cellAt_same hb]; exact hc, hk⟩
 | _ => exact h
theorem RB.self {w : World} {u : Value} {r : Row} {k : Nat} (h : mblk u = some k) (hG : r.isG = false := by rfl) : RB w u r k := by
 cases r <;> first | exact h | exact .inl h | simp [Row.isG] at hG
theorem Nst.move {w w' : World} {ok ok' : Nat → Prop} {base e2 : Nat} {t : Ty} {xs : List (List t.D)} {us : List Value} {out : Nat → Prop} (h : Nst w ok base e2 t xs us out) (hm : Moves w w' ok ok')
  (hb : ∀ j v k, ¬ out j → us[j]? = some v → mblk v = some k → w'.heap[k]? = w.heap[k]?) : Nst w' ok' base e2 t xs us out where
 len := h.len
 own := fun j x v ho hx hv => by
  obtain ⟨vs, hf, hown⟩ := h.own j x v ho hx hv
  exact ⟨vs, hf.imp fun _ _ _ h => hm.rd h, ownsRow_move hown (hb j v · ho hv)⟩
 dst := h.dst
theorem Trans.not_hole {w : World} {ok : Nat → Prop} {u : Value} {r r' : Row} (h : Trans w ok u r r') (hr : r ≠ .hole) : r' ≠ .hole := by
 cases h <;> first | exact hr | simp | skip
 case nest h1 h2 => rintro rfl; simp [Row.nl] at h2
theorem RowRel.step {w w' : World} {ok ok' : Nat → Prop} {base : Nat} {H H' : List Row} {m m' : Nat → Value} {u : Value} {r : Row} (hs : HStep w w' ok ok' H H' m m')
  (h : RowRel w ok base H m u r) (hlt : ∀ k, ok k → k < w.heap.size) (hb : r.live = true → ∀ k, RB w u r k → w'.heap[k]? = w.heap[k]?) : RowRel w' ok' base H' m' u r := by
 cases r with
 | hole => trivial
 | dead => trivial
 | frz => trivial
 | row e t xs =>
  obtain ⟨us, hf, ho⟩ := h
  exact ⟨us, hf.imp fun _ _ _ h => hs.mv.rd h, ownsRow_move ho (hb rfl)⟩
 | box cs =>
  obtain ⟨b, T, cur, rfl, hbs, hh, hc⟩ := h
  exact ⟨b, T, cur, rfl, hbs, (hb rfl b rfl).trans hh, hc.imp fun _ _ _ h => rel1_step hs h⟩
 | fbx cs =>
  obtain ⟨b, T, cur, rfl, hbs, hh, hc⟩ := h
  obtain ⟨e1, e2⟩ := hs.mv.blk b hbs (heap_lt hh)
  exact ⟨b, T, cur, rfl, e2, e1.trans hh, hc.imp fun _ _ _ h => rel1_step hs h⟩
 | rows e e2 t xs =>
  obtain ⟨us, h1, h2, h3⟩ := h
  refine ⟨us, ownsRow_move h1 fun k hk => hb rfl k (.inl hk), h2.move hs.mv fun j v k _ hj hk => hb rfl k (.inr ⟨j, v, ?_, ?_, hk⟩), h3⟩
  ·rw [← h2.len]; exact (List.getElem?_eq_some_iff.1 hj).1
  ·rw [ownsRow_cellAt h1 (by rw [← h2.len]; exact (List.getElem?_eq_some_iff.1 hj).1)]; exact hj
 | gst F O w0 v =>
  obtain ⟨h1, h2, h3, q, hq, hne⟩ := h
  obtain ⟨e1, q', hq', ht⟩ := hs.tr 1 q hq hne
  refine ⟨fun k hk => ?_, fun k hk => ?_, by rw [e1]; exact h3, q', hq', ht.not_hole hne⟩
  ·obtain ⟨g1, g2, g3⟩ := h1 k hk
   exact ⟨g1, Nat.lt_of_lt_of_le g2 hs.mv.sz, (hb rfl k hk).trans g3⟩
  ·obtain ⟨g1, g2⟩ := h2 k hk
   obtain ⟨f1, f2⟩ := hs.mv.blk k g1 (hlt k g1)
   exact ⟨f2, f1.trans g2⟩
 | rowx e e2 t xs i nid =>
  obtain ⟨us, h1, h4, h5, ⟨q, hq, hne⟩, h2, h3⟩ := h
  obtain ⟨e1, q', hq', ht⟩ := hs.tr nid q hq hne
  refine ⟨us, ownsRow_move h1 fun k hk => hb rfl k (.inl hk), h4, by rw [e1]; exact h5, ⟨q', hq', ht.not_hole hne⟩, h2.move hs.mv fun j v k ho hj hk => hb rfl k (.inr ⟨j, v, ho, ?_, ?_, hk⟩), h3⟩
  ·rw [← h2.len]; exact (List.getElem?_eq_some_iff.1 hj).1
  ·rw [ownsRow_cellAt h1 (by rw [← h2.len]; exact (List.getElem?_eq_some_iff.1 hj).1)]; exact hj
theorem HRel.upd {w w' : World} {ok ok' : Nat → Prop} {base : Nat} {H H' : List Row} {m m' : Nat → Value} (C : Nat → Prop) (h : HRel w ok base H m)
  (hs : HStep w w' ok ok' H H' m m')
  (hw : ∀ k, k < w.heap.size → (∀ id r, C id → H[id]? = some r → r.live = true → ¬ RB w (m id) r k) → w'.heap[k]? = w.heap[k]?)
  (hC : ∀ id, ¬ C id → H'[id]? = H[id]? ∧ m' id = m id)
  (hn : ∀ id r, C id → H'[id]? = some r → RowRel w' ok' base H' m' (m' id) r ∧ (r.live = true → ∀ k, RB w' (m' id) r k → ¬ ok' k ∧
   (w.heap.size ≤ k ∨ ∃ j q, C j ∧ H[j]? = some q ∧ q.live = true ∧ RB w (m j) q k)))
  (hd : ∀ i j ri rj k, C i → C j → H'[i]? = some ri → H'[j]? = some rj → ri.live = true → rj.live = true → RB w' (m' i) ri k → RB w' (m' j) rj k → i = j)
  (hlt : ∀ k, ok' k → k < w'.heap.size)
  (hok : ∀ k, ok' k → k < w.heap.size → ok k ∨ ∃ j q, C j ∧ H[j]? = some q ∧ q.live = true ∧ RB w (m j) q k) : HRel w' ok' base H' m' := by
 have old : ∀ id r, ¬ C id → H[id]? = some r → r.live = true → ∀ k, RB w (m id) r k → k < w.heap.size ∧ (∀ j q, C j → H[j]? = some q → q.live = true → ¬ RB w (m j) q k) := by
  intro id r hc hr hl k hk
  refine ⟨((h.hp id r hr).lt hl k hk).2, fun j q hj hq hql hjk => ?_⟩
  have := h.dst id j r q k hr hq hl hql hk hjk
  subst this
  exact hc hj
 have back : ∀ id r, ¬ C id → H[id]? = some r → r.live = true → ∀ k, RB w' (m id) r k → RB w (m id) r k := fun id r hc hr hl k hk => RB.same (fun hG k' hk' => by
  obtain ⟨h1, h2⟩ := old id r hc hr hl k' (RB.self hk' hG)
  exact hw k' h1 fun j q hj hq hql => h2 j q hj hq hql) hk
 refine ⟨hlt, ?_, ?_, ?_⟩
 ·intro id r hr
  by_cases hc : C id
  ·exact (hn id r hc hr).1
  ·obtain ⟨e1, e2⟩ := hC id hc
   rw [e1] at hr
   rw [e2]
   refine (h.hp id r hr).step hs h.lt fun hl k hk => ?_
   obtain ⟨hlt', hne⟩ := old id r hc hr hl k hk
   exact hw k hlt' fun j q hj hq hql => hne j q hj hq hql
 ·intro id r k hr hl hk hok'
  by_cases hc : C id
  ·exact ((hn id r hc hr).2 hl k hk).1 hok'
  ·obtain ⟨e1, e2⟩ := hC id hc
   rw [e1] at hr
   rw [e2] at hk
   obtain ⟨hlt', hne⟩ := old id r hc hr hl k (back id r hc hr hl k hk)
   rcases hok k hok' hlt' with ho | ⟨j, q, hj, hq, hql, hjk⟩
   ·exact h.sep id r k hr hl (back id r hc hr hl k hk) ho
   ·exact hne j q hj hq hql hjk
 ·intro i j ri rj k hi hj hli hlj hki hkj
  by_cases hci : C i <;> by_cases hcj : C j
  ·exact hd i j ri rj k hci hcj hi hj hli hlj hki hkj
  ·exfalso
   obtain ⟨e1, e2⟩ := hC j hcj
   rw [e1] at hj
   rw [e2] at hkj
   obtain ⟨hlt', hne⟩ := old j rj hcj hj hlj k (back j rj hcj hj hlj k hkj)
   rcases ((hn i ri hci hi).2 hli k hki).2 with hge | ⟨a, q, ha, hq, hql, hak⟩
   ·omega
   ·exact hne a q ha hq hql hak
  ·exfalso
   obtain ⟨e1, e2⟩ := hC i hci
   rw [e1] at hi
   rw [e2] at hki
   obtain ⟨hlt', hne⟩ := old i ri hci hi hli k (back i ri hci hi hli k hki)
   rcases ((hn j rj hcj hj).2 hlj k hkj).2 with hge | ⟨a, q, ha, hq, hql, hak⟩
   ·omega
   ·exact hne a q ha hq hql hak
  ·obtain ⟨e1, e2⟩ := hC i hci
   obtain ⟨e3, e4⟩ := hC j hcj
   rw [e1] at hi
   rw [e2] at hki
   rw [e3] at hj
   rw [e4] at hkj
   exact h.dst i j ri rj k hi hj hli hlj (back i ri hci hi hli k hki) (back j rj hcj hj hlj k hkj)
theorem Trans.move {w w' : World} {ok ok' : Nat → Prop} {u : Value} {r r' : Row} (hm : Moves w w' ok ok') (h : Trans w ok u r r') : Trans w' ok' u r r' := by
 cases h with
 | same => exact .same _
 | dead => exact .dead _
 | frz e t xs ys h => exact .frz e t xs ys (hm.rd h)
 | row e t xs ys h => exact .row e t xs ys h
 | fbx => exact .fbx _ _
 | box => exact .box _ _
 | nest h1 h2 => exact .nest h1 h2
 | nfrz h1 h => exact .nfrz h1 (hm.rd h)
theorem Trans.trans {w w' : World} {ok ok' : Nat → Prop} {u : Value} {r r1 r2 : Row} (hm : Moves w w' ok ok') (h : Trans w ok u r r1) (h' : Trans w' ok' u r1 r2) : Trans w' ok' u r r2 := by
 cases h with
 | same => exact h'
 | dead =>
  cases h' with
  | nest h1 h2 => simp [Row.nl] at h1
  | nfrz h1 h => simp [Row.nl] at h1
  | _ => exact .dead _
 | frz e t xs ys h =>
  cases h' with
  | same => exact .frz e t xs ys (hm.rd h)
  | dead => exact .dead _
  | nest h1 h2 => simp [Row.nl] at h1
  | nfrz h1 h => simp [Row.nl] at h1
 | row e t xs ys h =>
  cases h' with
  | same => exact .row e t xs ys h
  | dead => exact .dead _
  | frz _ _ _ zs h2 => exact .frz e t xs zs h2
  | row _ _ _ zs h2 => exact .row e t xs zs (h2.trans h)
  | nest h1 h2 => simp [Row.nl] at h1
  | nfrz h1 h => simp [Row.nl] at h1
 | fbx cs cs' =>
  cases h' with
  | same => exact .fbx _ _
  | dead => exact .dead _
  | nest h1 h2 => simp [Row.nl] at h1
  | nfrz h1 h => simp [Row.nl] at h1
 | box cs cs' =>
  cases h' with
  | same => exact .box _ _
  | dead => exact .dead _
  | fbx => exact .fbx _ _
  | box => exact .box _ _
  | nest h1 h2 => simp [Row.nl] at h1
  | nfrz h1 h => simp [Row.nl] at h1
 | nest h1 h2 =>
  cases h' with
  | same => exact .nest h1 h2
  | dead => exact .dead _
  | frz e t xs ys h => simp [Row.nl] at h2
  | row e t xs ys h => simp [Row.nl] at h2
  | fbx cs cs' => simp [Row.nl] at h2
  | box cs cs' => simp [Row.nl] at h2
  | nest h3 h4 => rw [h2] at h3; obtain rfl := Option.some.inj h3; exact .nest h1 h4
  | nfrz h3 h => exact .nfrz h1 h
 | nfrz h1 h =>
  cases h' with
  | same => exact .nfrz h1 (hm.rd h)
  | dead => exact .dead _
  | nest h1 h2 => simp [Row.nl] at h1
  | nfrz h1 h => simp [Row.nl] at h1
theorem HStep.trans {w w1 w2 : World} {ok ok1 ok2 : Nat → Prop} {H H1 H2 : List Row} {m m1 m2 : Nat → Value} (h : HStep w w1 ok ok1 H H1 m m1) (h' : HStep w1 w2 ok1 ok2 H1 H2 m1 m2) :
  HStep w w2 ok ok2 H H2 m m2 := ⟨h.mv.trans h'.mv, fun id r hr hh => by
 obtain ⟨e1, r1, hr1, t1⟩ := h.tr id r hr hh
 obtain ⟨e2, r2, hr2, t2⟩ := h'.tr id r1 hr1 (t1.not_hole hh)
 refine ⟨e2.trans e1, r2, hr2, ?_⟩
 rw [e1] at t2
 exact t1.trans h'.mv t2⟩
theorem HStep.refl (w : World) (ok : Nat → Prop) (H : List Row) (m : Nat → Value) : HStep w w ok ok H H m m :=
 ⟨Moves.refl w ok, fun id r hr _ => ⟨rfl, r, hr, .same r⟩⟩
theorem HStep.world {w w' : World} {ok ok' : Nat → Prop} (h : Moves w w' ok ok') (H : List Row) (m : Nat → Value) : HStep w w' ok ok' H H m m :=
 ⟨h, fun id r hr _ => ⟨rfl, r, hr, .same r⟩⟩
def updM (m : Nat → Value) (i : Nat) (u : Value) : Nat → Value := fun j => if j = i then u else m j
theorem updM_same (m : Nat → Value) (i : Nat) (u : Value) : updM m i u i = u := by simp [updM]
theorem updM_ne (m : Nat → Value) {i j : Nat} (u : Value) (h : j ≠ i) : updM m i u j = m j := by simp [updM, h]
theorem HStep.add {w w' : World} {ok ok' : Nat → Prop} {H : List Row} {m : Nat → Value} {nid : Nat} (hh : H[nid]? = some .hole) (r : Row) (u : Value) (hm : Moves w w' ok ok') :
  HStep w w' ok ok' H (H.set nid r) m (updM m nid u) := ⟨hm, fun id q hq hne => by
 have : id ≠ nid := by rintro rfl; rw [hh] at hq; simp at hq; exact hne hq.symm
 exact ⟨updM_ne m u this, q, by rw [List.getElem?_set_ne (Ne.symm this)]; exact hq, .same q⟩⟩
theorem HRel.add {w w' : World} {ok : Nat → Prop} {base : Nat} {H : List Row} {m : Nat → Value} {nid : Nat} (h : HRel w ok base H m) (hh : H[nid]? = some .hole) (r : Row) (u : Value)
  (hb : Below w.heap.size w w') (hr : RowRel w' ok base (H.set nid r) (updM m nid u) u r) (hu : r.live = true → ∀ k, RB w' u r k → w.heap.size ≤ k) :
  HRel w' ok base (H.set nid r) (updM m nid u) := by
 have hnl : nid < H.length := by
  rcases Nat.lt_or_ge nid H.length with hl | hl
  ·exact hl
  ·rw [List.getElem?_eq_none hl] at hh; simp at hh
 have hset : (H.set nid r)[nid]? = some r := by simp [hnl]
 refine h.upd (fun i => i = nid) (HStep.add hh r u (Moves.of_below hb)) (fun k hk _ => hb.block k hk) (fun id hid => ⟨List.getElem?_set_ne (Ne.symm hid), updM_ne m u hid⟩) ?_ ?_ ?_ ?_
 ·rintro id q rfl hq
  rw [hset] at hq
  simp only [Option.some.injEq] at hq
  subst hq
  rw [updM_same]
  exact ⟨hr, fun hl k hk => ⟨fun ho => by have := h.lt k ho; have := hu hl k hk; omega, .inl (hu hl k hk)⟩⟩
 ·rintro i j ri rj k rfl rfl _ _ _ _ _ _
  rfl
 ·exact fun k hk => Nat.lt_of_lt_of_le (h.lt k hk) hb.size
 ·exact fun k hk _ => .inl hk
theorem HRel.grow {w w' : World} {ok ok' : Nat → Prop} {base : Nat} {H : List Row} {m : Nat → Value} (h : HRel w ok base H m) (hb : Below w.heap.size w w')
  (h1 : ∀ k, ok k → ok' k) (h2 : ∀ k, ok' k → k < w'.heap.size ∧ (ok k ∨ w.heap.size ≤ k)) : HRel w' ok' base H m :=
 h.upd (fun _ => False) (HStep.world ⟨hb.size, fun k hk hl => ⟨hb.block k hl, h1 k hk⟩⟩ H m) (fun k hk _ => hb.block k hk) (fun _ _ => ⟨rfl, rfl⟩) (fun _ _ hf => hf.elim) (fun _ _ _ _ _ hf => hf.elim)
  (fun k hk => (h2 k hk).1) (fun k hk hl => by rcases (h2 k hk).2 with h | h; exact .inl h; omega)
theorem moves_grow {w w' : World} {ok ok' : Nat → Prop} (hb : Below w.heap.size w w') (h1 : ∀ k, ok k → ok' k) : Moves w w' ok ok' := ⟨hb.size, fun k hk hl => ⟨hb.block k hl, h1 k hk⟩⟩
theorem rel0_rel1 {w : World} {ok : Nat → Prop} {H : List Row} {m : Nat → Value} {a : AV} {u : Value} (h : rel0 w ok a u) : rel1 w ok H m a u := by
 cases a <;> simp only [rel0] at h <;> first | exact h | trivial
theorem explode_rel {w : World} {ok : Nat → Prop} : ∀ {t : Ty} {x : t.D} {cs : List Value}, Rd w ok t x cs → F2 (rel0 w ok) (explode t x) cs
 | .int k, n, cs, h => by have h' := h; simp only [Rd] at h'; subst h'; exact .cons h .nil
 | .bool, b, cs, h => by have h' := h; simp only [Rd] at h'; subst h'; exact .cons h .nil
 | .str, s, cs, h => by have h' := h; simp only [Rd] at h'; subst h'; exact .cons h .nil
 | .sl t, l, cs, h => by have h' := h; simp only [Rd] at h'; obtain ⟨a, c, rfl, _⟩ := h'; exact .cons h .nil
 | .pair a b, p, cs, h => by
  simp only [Rd] at h
  obtain ⟨c1, c2, rfl, h1, h2⟩ := h
  exact (explode_rel h1).append (explode_rel h2)
theorem flat_drop {sz : Nat} : ∀ {us : List (List Value)} (_ : ∀ p ∈ us, p.length = sz) {i : Nat} {p : List Value}, us[i]? = some p → ∃ r, us.flatten.drop (i * sz) = p ++ r
 | [], _, i, p, h => by simp at h
 | q :: us, hs, 0, p, h => by simp at h; subst h; exact ⟨us.flatten, by simp⟩
 | q :: us, hs, i + 1, p, h => by
  have hq := hs q (by simp)
  simp at h
  obtain ⟨r, hr⟩ := flat_drop (fun p hp => hs p (by simp [hp])) h
  refine ⟨r, ?_⟩
  rw [List.flatten_cons, Nat.add_mul, Nat.one_mul, Nat.add_comm, ← List.drop_drop, ← hq, List.drop_left, hq, hr]
theorem F2.lens {w : World} {ok : Nat → Prop} {t : Ty} {xs : List t.D} {us : List (List Value)} (h : F2 (Rd w ok t) xs us) : ∀ p ∈ us, p.length = t.sz := by
 induction h with
 | nil => simp
 | cons h _ ih =>
  intro p hp
  rcases List.mem_cons.1 hp with rfl | hp
  ·exact Rd_len h
  ·exact ih p hp
theorem F2.flat_one {w : World} {ok : Nat → Prop} {t : Ty} {xs : List t.D} {us : List (List Value)} (h : F2 (Rd w ok t) xs us) : ∀ u ∈ us.flatten, u.oneCell' = true := by
 induction h with
 | nil => simp
 | cons h _ ih =>
  intro p hp
  rw [List.flatten_cons] at hp
  rcases List.mem_append.1 hp with hp | hp
  ·exact Rd_one h p hp
  ·exact ih p hp
theorem F2.flat_len {w : World} {ok : Nat → Prop} {t : Ty} {xs : List t.D} {us : List (List Value)} (h : F2 (Rd w ok t) xs us) : us.flatten.length = xs.length * t.sz := by
 induction h with
 | nil => simp
 | cons h _ ih => rw [List.flatten_cons, List.length_append, ih, Rd_len h, List.length_cons, Nat.add_mul]; omega
theorem add_add (ad : Addr) (i j : Nat) (h : ad.spot = none) : (ad.add i).add j = ad.add (i + j) := by
 cases ad with
 | mk b o s =>
  simp only at h
  subst h
  simp only [Addr.add]
  repeat' split
  all_goals simp_all
  all_goals omega
theorem Cells.drop {w : World} {ad : Addr} {cs : List Value} (h : Cells w ad cs) (hs : ad.spot = none) (i : Nat) : Cells w (ad.add i) (cs.drop i) := fun j u hu => by
 rw [add_add ad i j hs]
 exact h _ u (by simpa [List.getElem?_drop] using hu)
theorem Cells.left {w : World} {ad : Addr} {c1 c2 : List Value} (h : Cells w ad (c1 ++ c2)) : Cells w ad c1 := fun j u hu => h j u (by
 have hj : j < c1.length := (List.getElem?_eq_some_iff.1 hu).1
 rw [List.getElem?_append_left hj]; exact hu)
theorem Cells.take {w : World} {ad : Addr} {cs : List Value} (h : Cells w ad cs) (n : Nat) : Cells w ad (cs.take n) := fun j u hu => h j u (by
 rw [List.getElem?_take] at hu
 split at hu
 ·exact hu
 ·simp at hu)
theorem Cells.spot {w : World} {ad : Addr} {cs : List Value} (h : Cells w ad cs) (hc : cs ≠ []) : ad.spot = none := by
 cases cs with
 | nil => exact absurd rfl hc
 | cons c cs =>
  have := h 0 c rfl
  have e : ad.add 0 = ad := by simp [Addr.add]
  rw [e] at this
  unfold World.cell? at this
  split at this
  ·split at this
   ·simp at this
   ·rename_i hn; cases hs : ad.spot with
    | none => rfl
    | some => simp [hs] at hn
  ·simp at this
end Go.Proofs.YtlfdikofmfhefaaGreatDoor.Ev
set_option linter.unusedVariables false
set_option linter.unusedSimpArgs false
namespace Go.Proofs.YtlfdikofmfhefaaGreatDoor.Ev
open Go Go.RowKit
def vzOk : Ty → List Value → Option (List Value)
 | .pair a b, vs => match vzOk a vs with
  | some r => vzOk b r
  | none => none
 | .int k, .int k' n :: r => if k' = k then (if n = 0 then some r else none) else none
 | .bool, .bool b :: r => bif b then none else some r
 | .str, .string s :: r => match s.data.toList with
  | [] => some r
  | _ => none
 | .sl _, .slice none 0 0 :: r => some r
 | _, _ => none
structure TOk (P : Program) (t : Nat) (i : TInfo) : Prop where
  inf : ∃ f z, P.info? t = some f ∧ f.size = i.ty.sz ∧ f.bytes = i.bytes ∧ f.zero = some z ∧ vzOk i.ty z.cells.toList = some []
  pos : 0 < i.bytes
  ag : i.agg = true → ∃ fs, P.underlying t = some (.struct fs) ∧ fs.toList.map (fun f => (f.offset, f.type)) = i.fl ∧ fs.toList.all (fun f => (P.info? f.type).isSome) = true
  nag : i.agg = false → ∀ w, (isAgg t).run P w = .ok false w
  el : ∀ e, i.elem = some e → P.underlying t = some (.slice e)
  ik : ∀ k, i.ik = some k → P.underlying t = some (.int k)
  st : i.str = true → P.underlying t = some .string
  bo : i.ty = .bool → P.underlying t = some .bool
  un : ∃ d, P.underlying t = some d
def isPairB : Ty → Bool
 | .pair _ _ => true
 | _ => false
def pairsEq : List (Nat × Nat) → List (Nat × Nat) → Bool
 | [], [] => true
 | (a, b) :: r, (c, d) :: s => Nat.beq a c && Nat.beq b d && pairsEq r s
 | _, _ => false
theorem pairsEq_eq : ∀ {a b : List (Nat × Nat)}, pairsEq a b = true → a = b
 | [], [], _ => rfl
 | (a, b) :: r, (c, d) :: s, h => by
  simp only [pairsEq, Bool.and_eq_true, Nat.beq_eq] at h
  obtain ⟨⟨rfl, rfl⟩, h⟩ := h
  rw [pairsEq_eq h]
 | [], _ :: _, h => by simp [pairsEq] at h
 | _ :: _, [], h => by simp [pairsEq] at h
def chkT (P : Program) (t : Nat) (i : TInfo) : Bool :=
 match P.info? t, P.underlying t with
 | some f, some d =>
  Nat.beq f.size i.ty.sz && Nat.beq f.bytes i.bytes && Nat.blt 0 i.bytes &&
  (match f.zero with
   | some z => (match vzOk i.ty z.cells.toList with
    | some [] => true
    | _ => false)
   | none => false) &&
  (match d with
   | .struct fs => i.agg && fs.toList.all (fun f => (P.info? f.type).isSome) && pairsEq (fs.toList.map (fun f => (f.offset, f.type))) i.fl && i.elem.isNone && i.ik.isNone && !i.str && isPairB i.ty
   | .slice e => !i.agg && (match i.elem with
    | some e' => Nat.beq e e'
    | none => false) && i.ik.isNone && !i.str && (match i.ty with | .sl _ => true | _ => false)
   | .int k => !i.agg && i.elem.isNone && (match i.ik with
    | some k' => if k' = k then true else false
    | none => false) && !i.str && (match i.ty with | .int _ => true | _ => false)
   | .string => !i.agg && i.elem.isNone && i.ik.isNone && i.str && (match i.ty with | .str => true | _ => false)
   | .bool => !i.agg && i.elem.isNone && i.ik.isNone && !i.str && (match i.ty with | .bool => true | _ => false)
   | _ => false)
 | _, _ => false
theorem run_isAgg_of {P : Program} {t : Nat} {d : TypeDesc} (h : P.underlying t = some d) (w : World) :
  (isAgg t).run P w = .ok (match d with | .struct _ => true | .array _ _ => true | _ => false) w := by
 simp only [isAgg, Sem.run_bind, run_underlying h, Result.andThen_ok]
 cases d <;> rfl
theorem chkT_ok {P : Program} {t : Nat} {i : TInfo} (h : chkT P t i = true) : TOk P t i := by
 unfold chkT at h
 cases hf : P.info? t with
 | none => simp [hf] at h
 | some f =>
  cases hd : P.underlying t with
  | none => simp [hf, hd] at h
  | some d =>
   simp only [hf, hd, Bool.and_eq_true] at h
   obtain ⟨⟨⟨⟨h1, h2⟩, h3⟩, h4⟩, h5⟩ := h
   have h1 : f.size = i.ty.sz := Nat.eq_of_beq_eq_true h1
   have h2 : f.bytes = i.bytes := Nat.eq_of_beq_eq_true h2
   have hz : ∃ z, f.zero = some z ∧ vzOk i.ty z.cells.toList = some [] := by
    cases hz : f.zero with
    | none => simp [hz] at h4
    | some z =>
     refine ⟨z, rfl, ?_⟩
     simp only [hz] at h4
     cases hv : vzOk i.ty z.cells.toList with
     | none => simp [hv] at h4
     | some l => cases l with
      | nil => rfl
      | cons => simp [hv] at h4
   obtain ⟨z, hz, hz'⟩ := hz
   have hp : 0 < i.bytes := by simp [Nat.blt] at h3; omega
   have hi := fun w => run_isAgg_of hd w
   cases d <;> simp only [Bool.and_eq_true, Bool.not_eq_true', Bool.false_eq_true] at h5
   case bool =>
    obtain ⟨⟨⟨⟨g1, g2⟩, g3⟩, g4⟩, g5⟩ := h5
    exact ⟨⟨f, z, hf, h1, h2, hz, hz'⟩, hp, fun e => by simp [g1] at e, fun _ w => by simpa using hi w, fun e he => by simp [he] at g2, fun k hk => by simp [hk] at g3, fun e => by simp [g4] at e, fun _ => hd, _, hd⟩
   case int k =>
    obtain ⟨⟨⟨⟨g1, g2⟩, g3⟩, g4⟩, g5⟩ := h5
    refine ⟨⟨f, z, hf, h1, h2, hz, hz'⟩, hp, fun e => by simp [g1] at e, fun _ w => by simpa using hi w, fun e he => by simp [he] at g2, fun k hk => ?_, fun e => by simp [g4] at e, fun e => by simp [e] at g5, _, hd⟩
    simp only [hk] at g3
    split at g3
    ·rename_i e; rw [hd, e]
    ·simp at g3
   case string =>
    obtain ⟨⟨⟨⟨g1, g2⟩, g3⟩, g4⟩, g5⟩ := h5
    exact ⟨⟨f, z, hf, h1, h2, hz, hz'⟩, hp, fun e => by simp [g1] at e, fun _ w => by simpa using hi w, fun e he => by simp [he] at g2, fun k hk => by simp [hk] at g3, fun _ => hd, fun e => by simp [e] at g5, _, hd⟩
   case slice e =>
    obtain ⟨⟨⟨⟨g1, g2⟩, g3⟩, g4⟩, g5⟩ := h5
    refine ⟨⟨f, z, hf, h1, h2, hz, hz'⟩, hp, fun e => by simp [g1] at e, fun _ w => by simpa using hi w, fun e' he => ?_, fun k hk => by simp [hk] at g3, fun e => by simp [g4] at e, fun e => by simp [e] at g5, _, hd⟩
    simp only [he] at g2
    rw [hd, Nat.eq_of_beq_eq_true g2]
   case struct fs =>
    obtain ⟨⟨⟨⟨⟨⟨g1, g0⟩, g2⟩, g3⟩, g4⟩, g5⟩, g6⟩ := h5
    exact ⟨⟨f, z, hf, h1, h2, hz, hz'⟩, hp, fun _ => ⟨fs, hd, pairsEq_eq g2, g0⟩, fun e => by simp [g1] at e, fun e he => by simp [he] at g3, fun k hk => by simp [hk] at g4, fun e => by simp [g5] at e, fun e => by simp [e, isPairB] at g6, _, hd⟩
def chkAll (P : Program) : List (Nat × TInfo) → Bool
 | [] => true
 | (t, i) :: r => chkT P t i && chkAll P r
theorem look_mem {α : Type} {k : Nat} {x : α} : ∀ {l : List (Nat × α)}, look k l = some x → (k, x) ∈ l
 | [], h => by simp [look] at h
 | (j, y) :: r, h => by
  simp only [look] at h
  cases hb : Nat.beq j k with
  | true =>
   rw [hb] at h
   simp only [cond_true, Option.some.injEq] at h
   rw [Nat.eq_of_beq_eq_true hb, h]
   exact List.mem_cons_self
  | false =>
   rw [hb] at h
   exact List.mem_cons_of_mem _ (look_mem h)
theorem chkAll_ok {P : Program} : ∀ {l : List (Nat × TInfo)}, chkAll P l = true → ∀ t i, (t, i) ∈ l → TOk P t i
 | [], _, _, _, h => by simp at h
 | (t', i') :: r, h, t, i, hm => by
  simp only [chkAll, Bool.and_eq_true] at h
  cases hm with
  | head => exact chkT_ok h.1
  | tail _ hm => exact chkAll_ok h.2 t i hm
def TyOk (P : Program) (E : Env) : Prop := ∀ t i, E_ti E t = some i → TOk P t i
theorem tyOk_of {P : Program} {E : Env} (h : chkAll P E.tt = true) : TyOk P E := fun t i hl => chkAll_ok h t i (look_mem hl)
def Gives (P : Program) (o : Oper) (a : Act) (w : World) (u : Value) (w' : World) : Prop :=
 (execOp a.eval o).run P w = .ok (.value u) w' ∨ ((execOp a.eval o).run P w = .ok .skip w' ∧ u = undef)
def Done (P : Program) (o : Oper) (a : Act) (w : World) (ok : Nat → Prop) (base : Nat) (H : List Row) (m : Nat → Value) (av : AV) (ups : List (Nat × Row)) : Prop :=
 ∃ u w' ok' m', Gives P o a w u w' ∧ Below base w w' ∧ HRel w' ok' base (setH H ups) m' ∧ HStep w w' ok ok' H (setH H ups) m m' ∧ rel w' ok' (setH H ups) m' av u ∧ ∀ k, ok' k → ok k ∨ base ≤ k
section
variable {P : Program} {E : Env} {o : Oper} {a : Act} {w : World} {ok : Nat → Prop} {base : Nat} {H : List Row} {m : Nat → Value}
theorem Done.pure {av : AV} {u : Value} (hH : HRel w ok base H m) (h : (execOp a.eval o).run P w = .ok (.value u) w) (hr : rel w ok H m av u) : Done P o a w ok base H m av [] :=
 ⟨u, w, ok, m, .inl h, Below.refl _ _, hH, HStep.refl _ _ _ _, hr, fun k hk => .inl hk⟩
theorem rd_int {k : IntKind} {n : Int} {u : Value} (h : rel w ok H m (.v (.int k) n) u) : u = .int k n := by
 have h : Rd w ok (.int k) n [u] := h
 simpa [Rd] using h
theorem rd_bool {b : Bool} {u : Value} (h : rel w ok H m (.v .bool b) u) : u = .bool b := by
 have h : Rd w ok .bool b [u] := h
 simpa [Rd] using h
theorem rd_str {s : ByteArray} {u : Value} (h : rel w ok H m (.v .str s) u) : u = .string s := by
 have h : Rd w ok .str s [u] := h
 simpa [Rd] using h
theorem mk_int {k : IntKind} {n : Int} : rel w ok H m (.v (.int k) n) (.int k n) := by show Rd w ok (.int k) n _; simp [Rd]
theorem mk_bool {b : Bool} : rel w ok H m (.v .bool b) (.bool b) := by show Rd w ok .bool b _; simp [Rd]
theorem mk_str {s : ByteArray} : rel w ok H m (.v .str s) (.string s) := by show Rd w ok .str s _; simp [Rd]
theorem F2.one {α β : Type} {r : α → β → Prop} {x : α} {ys : List β} (h : F2 r [x] ys) : ∃ y, ys = [y] ∧ r x y := by
 cases h with
 | cons h t => cases t; exact ⟨_, rfl, h⟩
theorem F2.two {α β : Type} {r : α → β → Prop} {x x' : α} {ys : List β} (h : F2 r [x, x'] ys) : ∃ y y', ys = [y, y'] ∧ r x y ∧ r x' y' := by
 cases h with
 | cons h t => obtain ⟨y', rfl, h'⟩ := t.one; exact ⟨_, _, rfl, h, h'⟩
theorem F2.three {α β : Type} {r : α → β → Prop} {x x' x'' : α} {ys : List β} (h : F2 r [x, x', x''] ys) : ∃ y y' y'', ys = [y, y', y''] ∧ r x y ∧ r x' y' ∧ r x'' y'' := by
 cases h with
 | cons h t => obtain ⟨y', y'', rfl, h', h''⟩ := t.two; exact ⟨_, _, _, rfl, h, h', h''⟩
theorem done_move {X : Operand} {x : AV} (hH : HRel w ok base H m) (ho : o.op = .move X ∨ o.op = .assign X) (hx : rel w ok H m x (a.eval X)) : Done P o a w ok base H m x [] :=
 Done.pure hH (by rcases ho with ho | ho <;> simp [execOp, ho]) hx
theorem done_pick {C X Y : Operand} {c : Bool} {x y : AV} (hH : HRel w ok base H m) (ho : o.op = .pick C X Y) (hc : rel w ok H m (.v .bool c) (a.eval C))
  (hx : rel w ok H m x (a.eval X)) (hy : rel w ok H m y (a.eval Y)) : Done P o a w ok base H m (bif c then x else y) [] := by
 refine Done.pure (u := bif c then a.eval X else a.eval Y) hH ?_ ?_
 ·rw [execOp.eq_def]
  simp only [ho, rd_bool hc]
  cases c <;> simp [asBool]
 ·cases c
  ·exact hy
  ·exact hx
theorem done_int {op : BinOp} {T T' : TypeId} {X Y : Operand} {k k' : IntKind} {x y : Int} {av : AV} (hH : HRel w ok base H m) (ho : o.op = .binOp op T X Y T')
  (hx : rel w ok H m (.v (.int k) x) (a.eval X)) (hy : rel w ok H m (.v (.int k') y) (a.eval Y)) (h : iiW op k k' x y = some (true, av)) : Done P o a w ok base H m av [] := by
 have hX := rd_int hx
 have hY := rd_int hy
 have go : ∀ u, (Go.binOp op T (.int k x) (.int k' y)).run P w = .ok u w → (execOp a.eval o).run P w = .ok (.value u) w := by
  intro u hu
  rw [execOp.eq_def]
  simp only [ho, hX, hY]
  have he : (eqGuard op T X Y (.int k x) (.int k' y)).run P w = .ok () w := by
   unfold eqGuard
   split <;> rfl
  simp [Sem.run_bind, he, hu]
 cases op <;> simp only [iiW] at h
 case shl =>
  simp only [Option.some.injEq, Prod.mk.injEq, decide_eq_true_eq] at h
  obtain ⟨h0, rfl⟩ := h
  exact Done.pure hH (go _ (by simp [Go.binOp, Op.shift, show ¬ y < 0 by omega, shlW])) mk_int
 case shr =>
  simp only [Option.some.injEq, Prod.mk.injEq, decide_eq_true_eq] at h
  obtain ⟨h0, rfl⟩ := h
  exact Done.pure hH (go _ (by simp [Go.binOp, Op.shift, show ¬ y < 0 by omega, shrW])) mk_int
 all_goals
  split at h
  case isFalse => simp at h
  rename_i e
  subst e
  simp only [intW, Option.some.injEq, Prod.mk.injEq, Bool.not_eq_true', decide_eq_false_iff_not, true_and, reduceCtorEq] at h
 case add => subst h; exact Done.pure hH (go _ (by simp [Go.binOp, Op.intArith])) mk_int
 case sub => subst h; exact Done.pure hH (go _ (by simp [Go.binOp, Op.intArith])) mk_int
 case mul => subst h; exact Done.pure hH (go _ (by simp [Go.binOp, Op.intArith])) mk_int
 case quo => obtain ⟨h0, rfl⟩ := h; exact Done.pure hH (go _ (by simp [Go.binOp, Op.intDiv, h0])) mk_int
 case rem => obtain ⟨h0, rfl⟩ := h; exact Done.pure hH (go _ (by simp [Go.binOp, Op.intDiv, h0])) mk_int
 case and => subst h; exact Done.pure hH (go _ (by simp [Go.binOp, Op.intBits, bitsW])) mk_int
 case or => subst h; exact Done.pure hH (go _ (by simp [Go.binOp, Op.intBits, bitsW])) mk_int
 case xor => subst h; exact Done.pure hH (go _ (by simp [Go.binOp, Op.intBits, bitsW])) mk_int
 case andNot => subst h; exact Done.pure hH (go _ (by simp [Go.binOp, Op.intBits, bitsW])) mk_int
 case eql => subst h; exact Done.pure hH (go _ (by simp [Go.binOp, Op.intCmp]; rfl)) mk_bool
 case neq => subst h; exact Done.pure hH (go _ (by simp [Go.binOp, Op.intCmp]; rfl)) mk_bool
 case lss => subst h; exact Done.pure hH (go _ (by simp [Go.binOp, Op.intCmp])) mk_bool
 case leq => subst h; exact Done.pure hH (go _ (by simp [Go.binOp, Op.intCmp])) mk_bool
 case gtr => subst h; exact Done.pure hH (go _ (by simp [Go.binOp, Op.intCmp])) mk_bool
 case geq => subst h; exact Done.pure hH (go _ (by simp [Go.binOp, Op.intCmp])) mk_bool
theorem done_bool {op : BinOp} {T T' : TypeId} {X Y : Operand} {x y : Bool} {av : AV} (hT : P.underlying T = some .bool) (hH : HRel w ok base H m) (ho : o.op = .binOp op T X Y T')
  (hx : rel w ok H m (.v .bool x) (a.eval X)) (hy : rel w ok H m (.v .bool y) (a.eval Y)) (h : bbW op x y = some (true, av)) : Done P o a w ok base H m av [] := by
 have hX := rd_bool hx
 have hY := rd_bool hy
 have go : ∀ u, (Go.binOp op T (.bool x) (.bool y)).run P w = .ok u w → (execOp a.eval o).run P w = .ok (.value u) w := by
  intro u hu
  rw [execOp.eq_def]
  simp only [ho, hX, hY]
  have he : (eqGuard op T X Y (.bool x) (.bool y)).run P w = .ok () w := by
   unfold eqGuard
   split <;> rfl
  simp [Sem.run_bind, he, hu]
 have heq : (Op.equal T (.bool x) (.bool y)).run P w = .ok (x == y) w := by
  have go1 : ∀ d, (Op.equalIn (d + 1) T (.bool x) (.bool y)).run P w = .ok (x == y) w := by
   intro d
   simp [Op.equalIn, run_underlying hT]
  exact go1 9999
 cases op <;> simp only [bbW, Option.some.injEq, Prod.mk.injEq, true_and, reduceCtorEq] at h
 case eql => subst h; exact Done.pure hH (go _ (by simp [Go.binOp, heq])) mk_bool
 case neq => subst h; exact Done.pure hH (go _ (by simp [Go.binOp, heq])) mk_bool
theorem done_nilq {op : BinOp} {T T' e : TypeId} {X Y : Operand} {t : Ty} {xs : List t.D} {av : AV} (hT : P.underlying T = some (.slice e)) (hH : HRel w ok base H m) (ho : o.op = .binOp op T X Y T')
  (hx : rel w ok H m (.v (.sl t) xs) (a.eval X)) (hy : rel w ok H m .nl (a.eval Y)) (h : nlW op xs.length = some (true, av)) : Done P o a w ok base H m av [] := by
 have hx : Rd w ok (.sl t) xs [a.eval X] := hx
 obtain ⟨ad, c, hX, _, _, hne⟩ := hx
 have hX : a.eval X = .slice ad xs.length c := (List.cons.inj hX).1
 have hY : a.eval Y = .slice none 0 0 := hy
 have hn : xs.length ≠ 0 := by
  cases op <;> simp only [nlW, Option.some.injEq, Prod.mk.injEq, Bool.not_eq_true', decide_eq_false_iff_not, reduceCtorEq] at h
  ·exact h.1
  ·exact h.1
 obtain ⟨ad', us, rfl, _⟩ := hne (fun h => hn (by rw [h]; rfl))
 have go : ∀ u, (Go.binOp op T (.slice (some ad') xs.length c) (.slice none 0 0)).run P w = .ok u w → (execOp a.eval o).run P w = .ok (.value u) w := by
  intro u hu
  rw [execOp.eq_def]
  simp only [ho, hX, hY]
  have he : (eqGuard op T X Y (.slice (some ad') xs.length c) (.slice none 0 0)).run P w = .ok () w := by
   unfold eqGuard
   split <;> rfl
  simp [Sem.run_bind, he, hu]
 have heq : (Op.equal T (.slice (some ad') xs.length c) (.slice none 0 0)).run P w = .ok false w := by
  have go1 : ∀ d, (Op.equalIn (d + 1) T (.slice (some ad') xs.length c) (.slice none 0 0)).run P w = .ok false w := by
   intro d
   simp [Op.equalIn, run_underlying hT]
  exact go1 9999
 cases op <;> simp only [nlW, Option.some.injEq, Prod.mk.injEq, reduceCtorEq] at h
 case eql => obtain ⟨_, rfl⟩ := h; exact Done.pure hH (go _ (by simp [Go.binOp, heq])) mk_bool
 case neq => obtain ⟨_, rfl⟩ := h; exact Done.pure hH (go _ (by simp [Go.binOp, heq])) mk_bool
theorem u8sEq_eq : ∀ {a b : List UInt8}, u8sEq a b = (a == b)
 | [], [] => rfl
 | a :: as, b :: bs => by
  simp only [u8sEq, u8sEq_eq (a := as), List.cons_beq_cons]
  congr 1
  cases h : Nat.beq a.toNat b.toNat with
  | true => have := UInt8.toNat_inj.1 (Nat.eq_of_beq_eq_true h); simp [this]
  | false =>
   symm
   rw [beq_eq_false_iff_ne]
   rintro rfl
   simp at h
 | [], _ :: _ => rfl
 | _ :: _, [] => rfl
theorem strEq_eq (s t : ByteArray) : strEq s t = (s.toList == t.toList) := by
 unfold strEq
 rw [u8sEq_eq, ByteArray.toList_eq, ByteArray.toList_eq]
theorem done_str {op : BinOp} {T T' : TypeId} {X Y : Operand} {x y : ByteArray} {av : AV} (hH : HRel w ok base H m) (ho : o.op = .binOp op T X Y T')
  (hx : rel w ok H m (.v .str x) (a.eval X)) (hy : rel w ok H m (.v .str y) (a.eval Y)) (h : ssW op x y = some (true, av)) : Done P o a w ok base H m av [] := by
 have hX := rd_str hx
 have hY := rd_str hy
 have go : ∀ u, (Go.binOp op T (.string x) (.string y)).run P w = .ok u w → (execOp a.eval o).run P w = .ok (.value u) w := by
  intro u hu
  rw [execOp.eq_def]
  simp only [ho, hX, hY]
  have he : (eqGuard op T X Y (.string x) (.string y)).run P w = .ok () w := by
   unfold eqGuard
   split <;> rfl
  simp [Sem.run_bind, he, hu]
 cases op <;> simp only [ssW, Option.some.injEq, Prod.mk.injEq, true_and, decide_eq_true_eq, reduceCtorEq] at h
 case add =>
  obtain ⟨h0, rfl⟩ := h
  refine Done.pure hH (go _ ?_) mk_str
  have hm : IntKind.i64.max = 9223372036854775807 := by decide
  have : (x.size : Int) + (y.size : Int) ≤ 9223372036854775807 := by omega
  simp [Go.binOp, Op.stringOp, hm, this]
 case eql => subst h; exact Done.pure hH (go _ (by simp [Go.binOp, Op.stringOp, strEq_eq])) mk_bool
 case neq => subst h; exact Done.pure hH (go _ (by simp [Go.binOp, Op.stringOp, strEq_eq])) mk_bool
theorem done_neg {T : TypeId} {X : Operand} {k : IntKind} {n : Int} (hH : HRel w ok base H m) (ho : o.op = .unOp .neg T X) (hx : rel w ok H m (.v (.int k) n) (a.eval X)) :
  Done P o a w ok base H m (.v (.int k) (k.wrap (0 - n))) [] :=
 Done.pure (u := .int k (k.wrap (0 - n))) hH (by rw [execOp.eq_def]; simp [ho, rd_int hx, Op.unary, Op.intArith]) mk_int
theorem done_xor {T : TypeId} {X : Operand} {k : IntKind} {n : Int} (hH : HRel w ok base H m) (ho : o.op = .unOp .xor T X) (hx : rel w ok H m (.v (.int k) n) (a.eval X)) :
  Done P o a w ok base H m (.v (.int k) (bitsW .xor k (if k.signed then -1 else k.max) n)) [] :=
 Done.pure (u := .int k (bitsW .xor k (if k.signed then -1 else k.max) n)) hH (by rw [execOp.eq_def]; simp [ho, rd_int hx, Op.unary, Op.intBits, bitsW]) mk_int
theorem done_not {T : TypeId} {X : Operand} {b : Bool} (hH : HRel w ok base H m) (ho : o.op = .unOp .not T X) (hx : rel w ok H m (.v .bool b) (a.eval X)) :
  Done P o a w ok base H m (.v .bool (!b)) [] :=
 Done.pure (u := .bool (!b)) hH (by rw [execOp.eq_def]; simp [ho, rd_bool hx, Op.unary]) mk_bool
theorem done_conv {S D : TypeId} {X : Operand} {k k' : IntKind} {n : Int} (hD : P.underlying D = some (.int k')) (hS : ∃ d, P.underlying S = some d) (hH : HRel w ok base H m) (ho : o.op = .convert S D X)
  (hx : rel w ok H m (.v (.int k) n) (a.eval X)) : Done P o a w ok base H m (.v (.int k') (k'.wrap n)) [] := by
 obtain ⟨d, hd⟩ := hS
 refine Done.pure (u := .int k' (k'.wrap n)) hH ?_ mk_int
 rw [execOp.eq_def]
 simp only [ho, rd_int hx]
 simp [Go.convert, run_underlying hd, run_underlying hD, Conv.intToInt]
theorem done_convS {S D : TypeId} {X : Operand} {s : ByteArray} (hD : P.underlying D = some .string) (hS : P.underlying S = some .string) (hH : HRel w ok base H m) (ho : o.op = .convert S D X)
  (hx : rel w ok H m (.v .str s) (a.eval X)) : Done P o a w ok base H m (.v .str s) [] := by
 refine Done.pure (u := .string s) hH ?_ mk_str
 rw [execOp.eq_def]
 simp only [ho, rd_str hx]
 simp [Go.convert, run_underlying hS, run_underlying hD]
theorem done_extract {X : Operand} {vs : List AV} {i : Nat} {x : AV} (hH : HRel w ok base H m) (ho : o.op = .extract X i) (hx : rel w ok H m (.tup vs) (a.eval X)) (hi : vs[i]? = some x) (hr2 : ∀ u, rel2 w ok H m x u → rel w ok H m x u) :
  Done P o a w ok base H m x [] := by
 obtain ⟨us, hu, hf⟩ := hx
 obtain ⟨u, hu', hr⟩ := hf.get hi
 refine Done.pure (u := u) hH ?_ (hr2 u hr)
 rw [execOp.eq_def]
 simp [ho, hu, Instr.extract, hu']
theorem done_makeFunc {g : Nat} {fs cs : Array Operand} {as : List AV} (hH : HRel w ok base H m) (ho : o.op = .makeFunc (.func g) fs cs)
  (hf : F2 (rel2 w ok H m) (as.take fs.size) (fs.toList.map a.eval)) (hc : F2 (rel1 w ok H m) (as.drop fs.size) (cs.toList.map a.eval)) :
  Done P o a w ok base H m (.fn g (as.take fs.size) (as.drop fs.size)) [] := by
 refine Done.pure (u := .func (.func g) (fs.map a.eval) (cs.map a.eval)) hH ?_ ⟨fs.toList.map a.eval, cs.toList.map a.eval, ?_, hf, hc⟩
 ·rw [execOp.eq_def]
  simp [ho, Instr.makeFunc]
 ·have e : ∀ l : Array Operand, l.map a.eval = (l.toList.map a.eval).toArray := fun l => by apply Array.ext'; simp
  rw [e, e]
theorem done_len {X : Operand} {T : Array TypeId} {x : AV} {n : Int} (hH : HRel w ok base H m) (ho : o.op = .call { callee := .builtin .len, args := #[X], argTypes := T })
  (hu : ∃ u : Value, a.eval X = u ∧ (Builtin.len_ T o.type #[u]).run P w = .ok (.int .i64 n) w) : Done P o a w ok base H m (.v (.int .i64) n) [] := by
 obtain ⟨u, hu, hr⟩ := hu
 refine Done.pure (u := .int .i64 n) hH ?_ mk_int
 rw [execOp.eq_def]
 simp [ho, resolve, invoke, builtin, hu, hr]
end
end Go.Proofs.YtlfdikofmfhefaaGreatDoor.Ev
