/-
An evaluator for the model's code over typed values: the values, the heap of what a call makes for itself, and how they stand to the machine's values and worlds.
No condition.
-/
import Derived.Below
import Derived.Deep.Draws
import Derived.OwnWalk
import Derived.Laws.OwnMore
import Derived.Laws.MakeOwn
import Derived.Orders
import Derived.Tactics
import Derived.KernelRfl
set_option linter.unusedVariables false
set_option linter.unusedSimpArgs false
namespace Go.Proofs.Ytoplphfgbfcagaa.Ev
open Go Go.RowKit

/-! ### types and values -/
inductive Ty where
  | int (k : IntKind)
  | bool
  | str
  | sl (t : Ty)
  | pair (a b : Ty)
  deriving DecidableEq

def Ty.D : Ty → Type
  | .int _ => Int
  | .bool => Bool
  | .str => ByteArray
  | .sl t => List t.D
  | .pair a b => a.D × b.D
def Ty.sz : Ty → Nat
  | .pair a b => a.sz + b.sz
  | _ => 1
def Ty.z : (t : Ty) → t.D
  | .int _ => (0 : Int)
  | .bool => false
  | .str => (⟨#[]⟩ : ByteArray)
  | .sl _ => []
  | .pair a b => (a.z, b.z)

inductive AV where
  | v (t : Ty) (x : t.D)
  | nl
  | own (id : Nat)
  | pb (id off : Nat)
  | pe (id i off : Nat)
  | rp (cs : List AV)
  | fn (g : Nat) (first caps : List AV)
  | agg (cs : List AV)
  | tup (cs : List AV)
  | un
  | nw (e : Nat) (t : Ty) (xs : List t.D)

inductive Row where
  | hole
  | dead
  | row (e : Nat) (t : Ty) (xs : List t.D)
  | frz (t : Ty) (xs : List t.D)
  | box (cs : List AV)
  | fbx (cs : List AV)

def Row.live : Row → Bool
  | .row _ _ _ => true
  | .box _ => true
  | _ => false

structure St where
  tm : List AV
  hp : List Row

/-- A value's cells, each told for itself. -/
def explode : (t : Ty) → t.D → List AV
  | .pair a b, p => explode a p.1 ++ explode b p.2
  | .int k, n => [.v (.int k) n]
  | .bool, b => [.v .bool b]
  | .str, s => [.v .str s]
  | .sl t, l => [.v (.sl t) l]
def zeroCells : Ty → List AV
  | .pair a b => zeroCells a ++ zeroCells b
  | .int k => [.v (.int k) (0 : Int)]
  | .bool => [.v .bool false]
  | .str => [.v .str (⟨#[]⟩ : ByteArray)]
  | .sl _ => [.nl]

/-! ### the relation -/
inductive F2 {α β : Type} (r : α → β → Prop) : List α → List β → Prop
  | nil : F2 r [] []
  | cons {a b as bs} : r a b → F2 r as bs → F2 r (a :: as) (b :: bs)

def Cells (w : World) (ad : Addr) (cs : List Value) : Prop := ∀ j u, cs[j]? = some u → w.cell? (ad.add j) = some u

def Rd (w : World) (ok : Nat → Prop) : (t : Ty) → t.D → List Value → Prop
  | .int k, n, cs => cs = [.int k n]
  | .bool, b, cs => cs = [.bool b]
  | .str, s, cs => cs = [.string s]
  | .sl t, xs, cs => ∃ a c, cs = [.slice a xs.length c] ∧ xs.length ≤ c ∧ (a = none → xs = [] ∧ c = 0) ∧
      (xs ≠ [] → ∃ ad us, a = some ad ∧ ok ad.block ∧ F2 (fun x u => Rd w ok t x u) xs us ∧ Cells w ad us.flatten)
  | .pair a b, p, cs => ∃ c1 c2, cs = c1 ++ c2 ∧ Rd w ok a p.1 c1 ∧ Rd w ok b p.2 c2

def rel0 (w : World) (ok : Nat → Prop) : AV → Value → Prop
  | .v t x, u => Rd w ok t x [u]
  | .nl, u => u = .slice none 0 0
  | .un, _ => True
  | _, _ => False

def rel1 (w : World) (ok : Nat → Prop) (H : List Row) (m : Nat → Value) : AV → Value → Prop
  | .v t x, u => Rd w ok t x [u]
  | .nl, u => u = .slice none 0 0
  | .own id, u => (∃ p n c, u = .slice p n c) ∧ match H[id]? with
    | some (.row _ _ _) => u = m id
    | some (.frz t xs) => Rd w ok (.sl t) xs [u]
    | some .dead => True
    | _ => False
  | .pb id off, u => (∃ ad, u = .pointer (some ad)) ∧ match H[id]? with
    | some (.box _) => ∃ b, m id = .pointer (some ⟨b, 0, none⟩) ∧ u = .pointer (some ⟨b, off, none⟩)
    | some (.fbx _) => ∃ b, m id = .pointer (some ⟨b, 0, none⟩) ∧ u = .pointer (some ⟨b, off, none⟩)
    | some .dead => True
    | _ => False
  | .pe id i off, u => (∃ ad, u = .pointer (some ad)) ∧ match H[id]? with
    | some (.row _ t xs) => i < xs.length ∧ ∃ b n c, m id = .slice (some ⟨b, 0, none⟩) n c ∧ u = .pointer (some ⟨b, i * t.sz + off, none⟩)
    | some (.frz _ _) => True
    | some .dead => True
    | _ => False
  | .rp cs, u => ∃ ad us, u = .pointer (some ad) ∧ ok ad.block ∧ ad.block < w.heap.size ∧ Cells w ad us ∧ F2 (rel0 w ok) cs us
  | .un, _ => True
  | _, _ => False
def rel2 (w : World) (ok : Nat → Prop) (H : List Row) (m : Nat → Value) : AV → Value → Prop
  | .agg cs, u => ∃ us : List Value, u = .agg us.toArray ∧ F2 (rel1 w ok H m) cs us
  | x, u => rel1 w ok H m x u
def rel (w : World) (ok : Nat → Prop) (H : List Row) (m : Nat → Value) : AV → Value → Prop
  | .tup cs, u => ∃ us : List Value, u = .tuple us.toArray ∧ F2 (rel2 w ok H m) cs us
  | .fn g fs cs, u => ∃ us vs : List Value, u = .func (.func g) us.toArray vs.toArray ∧ F2 (rel2 w ok H m) fs us ∧ F2 (rel1 w ok H m) cs vs
  | x, u => rel2 w ok H m x u

def mblk : Value → Option Nat
  | .slice (some a) _ _ => some a.block
  | .pointer (some a) => some a.block
  | _ => none

def RowRel (w : World) (ok : Nat → Prop) (base : Nat) (H : List Row) (m : Nat → Value) (u : Value) : Row → Prop
  | .row e t xs => ∃ us, F2 (Rd w ok t) xs us ∧ w.ownsRow base e t.sz u xs.length us.flatten
  | .box cs => ∃ b T cur, u = .pointer (some ⟨b, 0, none⟩) ∧ base ≤ b ∧ w.heap[b]? = some (.cells cur T (0, 0)) ∧ F2 (rel1 w ok H m) cs cur.toList
  | .fbx cs => ∃ b T cur, u = .pointer (some ⟨b, 0, none⟩) ∧ ok b ∧ w.heap[b]? = some (.cells cur T (0, 0)) ∧ F2 (rel1 w ok H m) cs cur.toList
  | _ => True

/-- The heap of what the call has made, by its machine values: each row in a block of its own, from 'base' on, that no read value hangs on. -/
structure HRel (w : World) (ok : Nat → Prop) (base : Nat) (H : List Row) (m : Nat → Value) : Prop where
  lt : ∀ k, ok k → k < w.heap.size
  hp : ∀ id r, H[id]? = some r → RowRel w ok base H m (m id) r
  sep : ∀ id r k, H[id]? = some r → r.live = true → mblk (m id) = some k → ¬ ok k
  dst : ∀ i j ri rj k, H[i]? = some ri → H[j]? = some rj → ri.live = true → rj.live = true → mblk (m i) = some k → mblk (m j) = some k → i = j

structure Rel (w0 : World) (o0 : Nat → Prop) (σ : St) (a : Act) (w : World) (ok : Nat → Prop) (m : Nat → Value) : Prop where
  tm : F2 (rel w ok σ.hp m) σ.tm a.tmps.toList
  df : a.defers = []
  hr : HRel w ok w0.heap.size σ.hp m
  bw : Below w0.heap.size w0 w
  bd : ∀ k, ok k → o0 k ∨ w0.heap.size ≤ k

/-! ### small lemmas -/
theorem F2.imp {α β : Type} {r s : α → β → Prop} {xs : List α} {ys : List β} (h : F2 r xs ys) (hrs : ∀ a b, a ∈ xs → r a b → s a b) : F2 s xs ys := by
  induction h with
  | nil => exact .nil
  | cons h _ ih => exact .cons (hrs _ _ (by simp) h) (ih fun a b ha => hrs a b (by simp [ha]))
theorem F2.length {α β : Type} {r : α → β → Prop} {xs : List α} {ys : List β} (h : F2 r xs ys) : xs.length = ys.length := by
  induction h with
  | nil => rfl
  | cons _ _ ih => simp [ih]
theorem F2.get {α β : Type} {r : α → β → Prop} {xs : List α} {ys : List β} (h : F2 r xs ys) : ∀ {i : Nat} {x : α}, xs[i]? = some x → ∃ y, ys[i]? = some y ∧ r x y := by
  induction h with
  | nil => intro i x hx; simp at hx
  | cons h _ ih =>
    intro i x hx
    cases i with
    | zero => simp at hx; subst hx; exact ⟨_, rfl, h⟩
    | succ i => simp at hx; simpa using ih hx
theorem F2.get' {α β : Type} {r : α → β → Prop} {xs : List α} {ys : List β} (h : F2 r xs ys) : ∀ {i : Nat} {y : β}, ys[i]? = some y → ∃ x, xs[i]? = some x ∧ r x y := by
  induction h with
  | nil => intro i x hx; simp at hx
  | cons h _ ih =>
    intro i x hx
    cases i with
    | zero => simp at hx; subst hx; exact ⟨_, rfl, h⟩
    | succ i => simp at hx; simpa using ih hx
theorem F2.set {α β : Type} {r : α → β → Prop} {xs : List α} {ys : List β} (h : F2 r xs ys) (i : Nat) {x : α} {y : β} (hxy : r x y) : F2 r (xs.set i x) (ys.set i y) := by
  induction h generalizing i with
  | nil => exact .nil
  | cons h t ih =>
    cases i with
    | zero => exact .cons hxy t
    | succ i => exact .cons h (ih i)
theorem F2.append {α β : Type} {r : α → β → Prop} {xs xs' : List α} {ys ys' : List β} (h : F2 r xs ys) (h' : F2 r xs' ys') : F2 r (xs ++ xs') (ys ++ ys') := by
  induction h with
  | nil => exact h'
  | cons h _ ih => exact .cons h ih
theorem F2.drop {α β : Type} {r : α → β → Prop} {xs : List α} {ys : List β} (h : F2 r xs ys) (n : Nat) : F2 r (xs.drop n) (ys.drop n) := by
  induction h generalizing n with
  | nil => simp; exact .nil
  | cons h t ih =>
    cases n with
    | zero => exact .cons h t
    | succ n => simpa using ih n
theorem F2.take {α β : Type} {r : α → β → Prop} {xs : List α} {ys : List β} (h : F2 r xs ys) (n : Nat) : F2 r (xs.take n) (ys.take n) := by
  induction h generalizing n with
  | nil => simp; exact .nil
  | cons h t ih =>
    cases n with
    | zero => exact .nil
    | succ n => simpa using .cons h (ih n)
theorem F2.split {α β : Type} {r : α → β → Prop} : ∀ {xs xs' : List α} {ys : List β}, F2 r (xs ++ xs') ys → ∃ y1 y2, ys = y1 ++ y2 ∧ F2 r xs y1 ∧ F2 r xs' y2
  | [], _, ys, h => ⟨[], ys, rfl, .nil, h⟩
  | _ :: xs, _, _, .cons h t => by
    obtain ⟨y1, y2, rfl, h1, h2⟩ := F2.split t
    exact ⟨_ :: y1, y2, rfl, .cons h h1, h2⟩

theorem Rd_len {w : World} {ok : Nat → Prop} : ∀ {t : Ty} {x : t.D} {cs : List Value}, Rd w ok t x cs → cs.length = t.sz
  | .int _, _, _, h => by simp only [Rd] at h; subst h; rfl
  | .bool, _, _, h => by simp only [Rd] at h; subst h; rfl
  | .str, _, _, h => by simp only [Rd] at h; subst h; rfl
  | .sl _, _, _, h => by simp only [Rd] at h; obtain ⟨_, _, rfl, _⟩ := h; rfl
  | .pair a b, _, _, h => by
    simp only [Rd] at h
    obtain ⟨c1, c2, rfl, h1, h2⟩ := h
    rw [List.length_append, Rd_len h1, Rd_len h2]; rfl
theorem Rd_one {w : World} {ok : Nat → Prop} : ∀ {t : Ty} {x : t.D} {cs : List Value}, Rd w ok t x cs → ∀ u ∈ cs, u.oneCell' = true
  | .int _, _, _, h => by simp only [Rd] at h; subst h; simp [Value.oneCell']
  | .bool, _, _, h => by simp only [Rd] at h; subst h; simp [Value.oneCell']
  | .str, _, _, h => by simp only [Rd] at h; subst h; simp [Value.oneCell']
  | .sl _, _, _, h => by simp only [Rd] at h; obtain ⟨_, _, rfl, _⟩ := h; simp [Value.oneCell']
  | .pair a b, _, _, h => by
    simp only [Rd] at h
    obtain ⟨c1, c2, rfl, h1, h2⟩ := h
    intro u hu
    rcases List.mem_append.1 hu with hu | hu
    · exact Rd_one h1 u hu
    · exact Rd_one h2 u hu
theorem Ty.sz_pos : ∀ t : Ty, 0 < t.sz
  | .int _ | .bool | .str | .sl _ => by simp [Ty.sz]
  | .pair a b => by have := Ty.sz_pos a; simp [Ty.sz]; omega
theorem Cells.lt {w : World} {ad : Addr} {cs : List Value} (h : Cells w ad cs) (hc : cs ≠ []) : ad.block < w.heap.size := by
  cases cs with
  | nil => exact absurd rfl hc
  | cons c cs =>
    have := World.block_lt_of_cell? w _ (h 0 c rfl)
    have e : (ad.add 0).block = ad.block := by simp [Addr.add]
    rwa [e] at this
theorem add_block (ad : Addr) (j : Nat) : (ad.add j).block = ad.block := by unfold Addr.add; split <;> rfl
theorem Cells.move {w w' : World} {ad : Addr} {cs : List Value} (h : Cells w ad cs) (hb : w'.heap[ad.block]? = w.heap[ad.block]?) : Cells w' ad cs := fun j u hu =>
  (World.cell?_of_block (by rw [add_block]; exact hb)).trans (h j u hu)
theorem Rd_move {w w' : World} {ok ok' : Nat → Prop} (hm : ∀ k, ok k → k < w.heap.size → w'.heap[k]? = w.heap[k]? ∧ ok' k) :
    ∀ {t : Ty} {x : t.D} {cs : List Value}, Rd w ok t x cs → Rd w' ok' t x cs
  | .int _, _, _, h => h
  | .bool, _, _, h => h
  | .str, _, _, h => h
  | .sl t, xs, cs, h => by
    simp only [Rd] at h ⊢
    obtain ⟨a, c, hcs, hl, hn, hx⟩ := h
    refine ⟨a, c, hcs, hl, hn, fun hne => ?_⟩
    obtain ⟨ad, us, rfl, hok, hf, hc⟩ := hx hne
    have hus : us.flatten ≠ [] := by
      cases hf with
      | nil => exact absurd rfl hne
      | cons h1 _ =>
        intro e
        have := Rd_len h1
        have hp := Ty.sz_pos t
        simp at e
        rw [e.1] at this
        simp at this
        omega
    have hlt := hc.lt hus
    obtain ⟨hb, hok'⟩ := hm _ hok hlt
    exact ⟨ad, us, rfl, hok', hf.imp fun x u _ h => Rd_move hm h, hc.move hb⟩
  | .pair a b, p, cs, h => by
    simp only [Rd] at h ⊢
    obtain ⟨c1, c2, rfl, h1, h2⟩ := h
    exact ⟨c1, c2, rfl, Rd_move hm h1, Rd_move hm h2⟩
end Go.Proofs.Ytoplphfgbfcagaa.Ev
