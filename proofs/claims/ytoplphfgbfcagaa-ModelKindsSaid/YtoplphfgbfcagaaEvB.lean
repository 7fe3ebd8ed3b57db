/-
The evaluator: what one operation, a region, a function's code give, over the typed values.
No condition.
-/
import Derived.Test.YtoplphfgbfcagaaEvA
import Derived.Laws.BytesArg
set_option linter.unusedVariables false
namespace Go.Proofs.Ytoplphfgbfcagaa.Ev
open Go Go.RowKit

structure TInfo where
  ty : Ty
  agg : Bool
  bytes : Nat
  elem : Option Nat
  fl : List (Nat × Nat)
  ik : Option IntKind
  str : Bool

structure Env where
  tt : List (Nat × TInfo)
  calls : List (Nat × (List AV → (AV → Option AV) → Option AV))
  keep : List (Nat × List Nat)
  exk : List (Nat × List Nat) := []
  fin : Option (List Nat) := none

def look {α : Type} (k : Nat) : List (Nat × α) → Option α
  | [] => none
  | (j, x) :: r => bif Nat.beq j k then some x else look k r

/-! ### typed contents -/
def cellsOf : AV → List AV
  | .agg cs => cs
  | x => [x]
def castD {t t' : Ty} (h : t' = t) (x : t'.D) : t.D := h ▸ x
def slD (t : Ty) : (t' : Ty) → t'.D → Option (List t.D)
  | .sl t', xs => if h : t' = t then some (h ▸ xs) else none
  | _, _ => none
def leafD (rd : Nat → Option Row) (t : Ty) (c : AV) : Option t.D :=
  match c with
  | .v t' x => if h : t' = t then some (castD h x) else none
  | .nl => match t with | .sl _ => some [] | _ => none
  | .own id => match t with
    | .sl e => match rd id with
      | some (.row _ t' xs) => if h : t' = e then some (castD (congrArg Ty.sl h) xs) else none
      | some (.frz t' xs) => if h : t' = e then some (castD (congrArg Ty.sl h) xs) else none
      | _ => none
    | _ => none
  | _ => none
def implode (rd : Nat → Option Row) : (t : Ty) → List AV → Option (t.D × List AV)
  | .pair a b, cs => match implode rd a cs with
    | some (x, cs') => match implode rd b cs' with
      | some (y, r) => some ((x, y), r)
      | none => none
    | none => none
  | .int k, c :: cs => match leafD rd (.int k) c with | some x => some (x, cs) | none => none
  | .bool, c :: cs => match leafD rd .bool c with | some x => some (x, cs) | none => none
  | .str, c :: cs => match leafD rd .str c with | some x => some (x, cs) | none => none
  | .sl t, c :: cs => match leafD rd (.sl t) c with | some x => some (x, cs) | none => none
  | _, [] => none
def leafB : AV → Bool
  | .v (.pair _ _) _ => false
  | .v _ _ => true
  | .nl => true
  | .own _ => true
  | .pb _ _ => true
  | .pe _ _ _ => true
  | .rp _ => true
  | _ => false
def plainB : AV → Bool
  | .agg cs => cs.all leafB
  | x => leafB x
def toD (rd : Nat → Option Row) (t : Ty) (a : AV) : Option t.D :=
  bif plainB a then (match implode rd t (cellsOf a) with
  | some (x, []) => some x
  | _ => none) else none
def frz1 (rd : Nat → Option Row) : AV → List (Nat × Row)
  | .own id => match rd id with
    | some (.row _ t xs) => [(id, .frz t xs)]
    | _ => []
  | _ => []
def frz (rd : Nat → Option Row) (a : AV) : List (Nat × Row) := (cellsOf a).flatMap (frz1 rd)
def ownIn (i : Nat) : List AV → Bool
  | [] => false
  | .own j :: r => Nat.beq i j || ownIn i r
  | _ :: r => ownIn i r
def toDs (rd : Nat → Option Row) (t : Ty) : List AV → Option (List t.D)
  | [] => some []
  | a :: as => match toD rd t a with
    | some x => match toDs rd t as with
      | some xs => some (x :: xs)
      | none => none
    | none => none

/-! ### arithmetic -/
def bitsW (op : BinOp) (k : IntKind) (x y : Int) : Int :=
  match op with
  | .and => k.wrap (BitVec.ofInt k.bits x &&& BitVec.ofInt k.bits y).toNat
  | .or => k.wrap (BitVec.ofInt k.bits x ||| BitVec.ofInt k.bits y).toNat
  | .xor => k.wrap (BitVec.ofInt k.bits x ^^^ BitVec.ofInt k.bits y).toNat
  | _ => k.wrap (BitVec.ofInt k.bits x &&& ~~~ (BitVec.ofInt k.bits y)).toNat
def shlW (k : IntKind) (x y : Int) : Int := k.wrap (x * 2 ^ min y.toNat k.bits)
def shrW (k : IntKind) (x y : Int) : Int := x.fdiv (2 ^ min y.toNat k.bits)
def intW (op : BinOp) (k : IntKind) (x y : Int) : Option (Bool × AV) :=
  match op with
  | .add => some (true, .v (.int k) (k.wrap (x + y)))
  | .sub => some (true, .v (.int k) (k.wrap (x - y)))
  | .mul => some (true, .v (.int k) (k.wrap (x * y)))
  | .quo => some (!decide (y = 0), .v (.int k) (k.wrap (x.tdiv y)))
  | .rem => some (!decide (y = 0), .v (.int k) (x.tmod y))
  | .and => some (true, .v (.int k) (bitsW .and k x y))
  | .or => some (true, .v (.int k) (bitsW .or k x y))
  | .xor => some (true, .v (.int k) (bitsW .xor k x y))
  | .andNot => some (true, .v (.int k) (bitsW .andNot k x y))
  | .eql => some (true, .v .bool (decide (x = y)))
  | .neq => some (true, .v .bool (!decide (x = y)))
  | .lss => some (true, .v .bool (decide (x < y)))
  | .leq => some (true, .v .bool (decide (x ≤ y)))
  | .gtr => some (true, .v .bool (decide (x > y)))
  | .geq => some (true, .v .bool (decide (x ≥ y)))
  | _ => none
def u8sEq : List UInt8 → List UInt8 → Bool
  | [], [] => true
  | a :: as, b :: bs => Nat.beq a.toNat b.toNat && u8sEq as bs
  | _, _ => false
def strEq (s t : ByteArray) : Bool := u8sEq s.data.toList t.data.toList
abbrev Step0 := Option (Bool × AV × List (Nat × Row))
def iiW (op : BinOp) (k k' : IntKind) (a b : Int) : Option (Bool × AV) :=
  match op with
  | .shl => some (decide (0 ≤ b), .v (.int k) (shlW k a b))
  | .shr => some (decide (0 ≤ b), .v (.int k) (shrW k a b))
  | _ => if k = k' then intW op k a b else none
def bbW (op : BinOp) (a b : Bool) : Option (Bool × AV) :=
  match op with
  | .eql => some (true, .v .bool (a == b))
  | .neq => some (true, .v .bool (!(a == b)))
  | _ => none
def ssW (op : BinOp) (s t : ByteArray) : Option (Bool × AV) :=
  match op with
  | .add => some (decide (s.size + t.size ≤ 9223372036854775807), .v .str (s ++ t))
  | .eql => some (true, .v .bool (strEq s t))
  | .neq => some (true, .v .bool (!strEq s t))
  | _ => none
def binW (bt : Bool) (op : BinOp) (x y : AV) : Option (Bool × AV) :=
  match x, y with
  | .v (.int k) a, .v (.int k') b => iiW op k k' a b
  | .v .bool a, .v .bool b => bif bt then bbW op a b else none
  | .v .str s, .v .str t => ssW op s t
  | _, _ => none
def negW (k : IntKind) (n : Int) : Step0 := some (true, .v (.int k) (k.wrap (0 - n)), [])
def notW (k : IntKind) (n : Int) : Step0 := some (true, .v (.int k) (bitsW .xor k (if k.signed then -1 else k.max) n), [])
def notB (b : Bool) : Step0 := some (true, .v .bool (!b), [])
def maxW (k : IntKind) (x y : Int) : Step0 := some (true, .v (.int k) (if y > x then y else x : Int), [])
def minW (k : IntKind) (x y : Int) : Step0 := some (true, .v (.int k) (if y < x then y else x : Int), [])
def convW (k : IntKind) (n : Int) : Step0 := some (true, .v (.int k) (k.wrap n), [])

/-! ### one operation: 'the condition, the value, what becomes of the heap' -/
abbrev Step := Option (Bool × AV × List (Nat × Row))

def E_ti (E : Env) (t : Nat) : Option TInfo := look t E.tt

def boolT (E : Env) (t : Nat) : Bool := match E_ti E t with
  | some i => if i.ty = .bool then true else false
  | none => false
def constW : Value → Option AV
  | .bool b => some (.v .bool b)
  | .int k n => some (.v (.int k) n)
  | .string s => some (.v .str s)
  | .slice none 0 0 => some .nl
  | _ => none

def getO (σ : St) : Operand → Option AV
  | .tmp t => σ.tm[t]?
  | .const v => constW v
  | .func f => some (.fn f [] [])
  | .global _ => none
def getOs (σ : St) : List Operand → Option (List AV)
  | [] => some []
  | o :: os => match getO σ o with
    | some a => match getOs σ os with
      | some as => some (a :: as)
      | none => none
    | none => none

def takeW (E : Env) (T : Nat) (cs : List AV) : Option AV :=
  match E_ti E T with
  | some i => bif i.agg then (bif Nat.ble i.ty.sz cs.length then some (.agg (cs.take i.ty.sz)) else none) else cs.head?
  | none => none
def pokeW (cs new : List AV) (off : Nat) : Option (List AV) :=
  bif Nat.ble (off + new.length) cs.length then some (cs.take off ++ new ++ cs.drop (off + new.length)) else none
def fillW (fl : List (Nat × Nat)) (tt : List (Nat × TInfo)) : List (Nat × AV) → List AV → Option (List AV)
  | [], cs => some cs
  | (i, a) :: r, cs => match fl[i]? with
    | some (off, T) => match look T tt with
      | some ti => bif Nat.beq ti.ty.sz (cellsOf a).length then (match pokeW cs (cellsOf a) off with
        | some cs' => fillW fl tt r cs'
        | none => none) else none
      | none => none
    | none => none
def lenW (rd : Nat → Option Row) : AV → Option Int
  | .v (.sl _) xs => some (List.length xs : Int)
  | .v .str s => some (s.size : Int)
  | .nl => some 0
  | .own id => match rd id with
    | some (.row _ _ xs) => some (xs.length : Int)
    | some (.frz _ xs) => some (xs.length : Int)
    | _ => none
  | _ => none
def strB : AV → Bool
  | .v .str _ => true
  | _ => false
def lenB (E : Env) (T : Nat) (x : AV) : Bool := match E_ti E T with
  | some i => bif strB x then i.str else i.elem.isSome
  | none => false
def LIM : Nat := 140737488355328
def app2 {α : Type} (xs ys : List α) : List α := xs ++ ys
def len2 {α : Type} (xs : List α) : Nat := xs.length
def appW (e : Nat) (i : TInfo) (nid : Nat) (rd : Nat → Option Row) (s : AV) (ys : List i.ty.D) : Step :=
  match s with
  | .nl => some (decide (ys.length * i.bytes ≤ LIM), .own nid, [(nid, .row e i.ty ys)])
  | .own id => match rd id with
    | some (.row e' t xs) => if h : t = i.ty then (bif Nat.beq e' e then some (decide ((xs.length + ys.length) * i.bytes ≤ LIM), .own nid, [(id, .dead), (nid, .row e i.ty (app2 (castD (congrArg Ty.sl h) xs) ys))]) else none) else none
    | _ => none
  | _ => none
def sliceW (rd : Nat → Option Row) (lo hi : Option Int) (x : AV) : Step :=
  match x with
  | .v .str s =>
    match lo, hi with
    | none, none => some (true, .v .str s, [])
    | none, some h => some (decide (0 ≤ h) && decide (h ≤ s.size), .v .str (s.extract 0 h.toNat), [])
    | some l, none => some (decide (0 ≤ l) && decide (l ≤ s.size), .v .str (s.extract l.toNat s.size), [])
    | some l, some h => some (decide (0 ≤ l) && decide (l ≤ h) && decide (h ≤ s.size), .v .str (s.extract l.toNat h.toNat), [])
  | .v (.sl t) xs => go t xs []
  | .own id => match rd id with
    | some (.row _ t xs) => go t xs [(id, .frz t xs)]
    | some (.frz t xs) => go t xs []
    | _ => none
  | _ => none
  where
  go (t : Ty) (xs : List t.D) (ups : List (Nat × Row)) : Step :=
    match lo, hi with
    | none, none => some (true, .v (.sl t) xs, ups)
    | none, some h => some (decide (0 ≤ h) && decide (h ≤ xs.length), .v (.sl t) (xs.take h.toNat), ups)
    | some l, none => some (decide (0 ≤ l) && decide (l ≤ xs.length), .v (.sl t) (xs.drop l.toNat), ups)
    | some l, some h => some (decide (0 ≤ l) && decide (l ≤ h) && decide (h ≤ xs.length), .v (.sl t) ((xs.take h.toNat).drop l.toNat), ups)
def elT (E : Env) (i : TInfo) (t : Ty) : Bool := match i.elem with
  | some e => (match E_ti E e with
    | some ie => if ie.ty = t then true else false
    | none => false)
  | none => false
def slicedB (E : Env) (rd : Nat → Option Row) (T : Nat) (x : AV) : Bool := match E_ti E T with
  | some i => (match x with
    | .v .str _ => i.str
    | .v (.sl t) _ => elT E i t
    | .own id => (match rd id with
      | some (.row _ t _) => elT E i t
      | some (.frz t _) => elT E i t
      | _ => false)
    | _ => false)
  | none => false
def ixW (t : Ty) (xs : List t.D) (i : Int) (p : AV) : Step := some (decide (0 ≤ i) && decide (i < xs.length), p, [])
def byteW (s : ByteArray) (i : Nat) : Int := if h : i < s.size then ((s[i]'h).toNat : Int) else 0
def chW (s : ByteArray) (i : Int) : Step := some (decide (0 ≤ i) && decide (i < s.size), .v (.int .u8) (byteW s i.toNat), [])
def optI : Option AV → Option (Option Int)
  | none => some none
  | some (.v (.int _) n) => some (some n)
  | _ => none
def rangeFrom : Nat → Nat → List Nat
  | _, 0 => []
  | a, n + 1 => a :: rangeFrom (a + 1) n
def natsEq : List Nat → List Nat → Bool
  | [], [] => true
  | a :: as, b :: bs => Nat.beq a b && natsEq as bs
  | _, _ => false

def mkW (nid e : Nat) (i : TInfo) (n : Int) : Step := some (decide (0 ≤ n) && decide (n.toNat * i.bytes ≤ LIM), .own nid, [(nid, .row e i.ty (List.replicate n.toNat i.ty.z))])
def stepW (E : Env) (o : Op) (nid : Nat) (as : List AV) (rd : Nat → Option Row) : Step :=
  match o, as with
  | .move _, [x] => some (true, x, [])
  | .assign _, [x] => some (true, x, [])
  | .pick _ _ _, [c, a, b] => match c with
    | .v .bool x => match a, b with
      | .v ta xa, .v tb xb => if h : tb = ta then some (true, .v ta (bif x then xa else castD h xb), []) else none
      | _, _ => some (true, (bif x then a else b), [])
    | _ => none
  | .alloc T, [] => match E_ti E T with
    | some i => some (true, .pb nid 0, [(nid, .box (zeroCells i.ty))])
    | none => none
  | .box T _, [x] => match E_ti E T with
    | some i => bif plainB x then some (true, .pb nid 0, [(nid, .box (cellsOf x))]) else none
    | none => none
  | .build T parts, as => match E_ti E T with
    | some i => bif i.agg && as.all plainB then (match fillW i.fl E.tt ((parts.toList.map (·.1)).zip as) (zeroCells i.ty) with
      | some cs => some (true, .agg cs, [])
      | none => none) else none
    | none => none
  | .buildSlice T len parts, as => match E_ti E T with
    | some iT => match iT.elem with
      | some e => match E_ti E e with
        | some i => bif natsEq (parts.toList.map (·.1)) (rangeFrom 0 len) && Nat.ble (len * i.ty.sz) 16777216 then (match toDs rd i.ty as with
          | some xs => some (true, .own nid, as.flatMap (frz rd) ++ [(nid, .row e i.ty xs)])
          | none => none) else none
        | none => none
      | none => none
    | none => none
  | .load T _, [p] => match p with
    | .pb id off => match rd id with
      | some (.box cs) => match takeW E T (cs.drop off) with
        | some a => some (true, a, [])
        | none => none
      | some (.fbx cs) => match takeW E T (cs.drop off) with
        | some a => some (true, a, [])
        | none => none
      | _ => none
    | .pe id i off => match rd id with
      | some (.row _ t xs) => match takeW E T ((explode t (xs.getD i t.z)).drop off) with
        | some a => some (true, a, [])
        | none => none
      | _ => none
    | .rp cs => match takeW E T cs with
      | some a => some (true, a, [])
      | none => none
    | _ => none
  | .store T _ _, [p, x] => match E_ti E T with
    | some iT => bif Nat.beq (cellsOf x).length iT.ty.sz && plainB x then (match p with
      | .pb id off => match rd id with
        | some (.box cs) => match pokeW cs (cellsOf x) off with
          | some cs' => some (true, .un, [(id, .box cs')])
          | none => none
        | _ => none
      | .pe id i off => match rd id with
        | some (.row e t xs) => match pokeW (explode t (xs.getD i t.z)) (cellsOf x) off with
          | some cs' => match toD rd t (.agg cs') with
            | some y => bif ownIn id (cellsOf x) then none else some (true, .un, frz rd x ++ [(id, .row e t (xs.set i y))])
            | none => none
          | none => none
        | _ => none
      | _ => none) else none
    | none => none
  | .nilCheck _, [x] => match x with
    | .pb _ _ => some (true, x, [])
    | .pe _ _ _ => some (true, x, [])
    | .rp _ => some (true, x, [])
    | .fn _ _ _ => some (true, x, [])
    | _ => none
  | .binOp op T _ _ _, [x, y] => match binW (boolT E T) op x y with
    | some (c, a) => some (c, a, [])
    | none => none
  | .unOp op _ _, [x] => match op, x with
    | .neg, .v (.int k) n => negW k n
    | .xor, .v (.int k) n => notW k n
    | .not, .v .bool b => notB b
    | _, _ => none
  | .convert src dst _, [x] => match E_ti E src, E_ti E dst with
    | some s, some d => match x with
      | .v (.int _) n => match d.ik with
        | some k => convW k n
        | none => none
      | .v .str t => bif d.str && s.str then some (true, x, []) else none
      | _ => none
    | _, _ => none
  | .makeFunc (.func g) first caps, as => bif (as.take first.size).all plainB && (as.drop first.size).all leafB then some (true, .fn g (as.take first.size) (as.drop first.size), []) else none
  | .makeSlice T l c, [x, _] => match l, c with
    | .tmp a, .tmp b => bif Nat.beq a b then mk x nid T else none
    | .const (.int _ a), .const (.int _ b) => if a = b then mk x nid T else none
    | _, _ => none
  | .slice T _ lo hi none, as => match as with
    | x :: r => bif slicedB E rd T x then (match lo, hi, r with
      | none, none, [] => sliceW rd none none x
      | none, some _, [.v (.int _) h] => sliceW rd none (some h) x
      | some _, none, [.v (.int _) l] => sliceW rd (some l) none x
      | some _, some _, [.v (.int _) l, .v (.int _) h] => sliceW rd (some l) (some h) x
      | _, _, _ => none) else none
    | [] => none
  | .fieldAddr S _ f, [p] => match E_ti E S with
    | some i => bif i.agg then (match i.fl[f]? with
      | some (off, T) => match E_ti E T with
        | some _ => match p with
          | .pb id o => some (true, .pb id (o + off), [])
          | .pe id j o => some (true, .pe id j (o + off), [])
          | .rp cs => some (true, .rp (cs.drop off), [])
          | _ => none
        | none => none
      | none => none) else none
    | none => none
  | .field S _ f, [x] => match E_ti E S with
    | some i => bif i.agg then (match i.fl[f]? with
      | some (off, T) => match x with
        | .agg cs => match takeW E T (cs.drop off) with
          | some a => some (true, a, [])
          | none => none
        | _ => none
      | none => none) else none
    | none => none
  | .indexAddr T _ _, [x, ix] => match E_ti E T with
    | some iT => match iT.elem with
      | some e => match E_ti E e with
        | some ie => match ix with
          | .v (.int _) i => match x with
            | .v (.sl t) xs => if t = ie.ty then ixW t xs i (.rp (explode t (xs.getD i.toNat t.z))) else none
            | .own id => match rd id with
              | some (.row _ t xs) => if t = ie.ty then ixW t xs i (.pe id i.toNat 0) else none
              | some (.frz t xs) => if t = ie.ty then ixW t xs i (.rp (explode t (xs.getD i.toNat t.z))) else none
              | _ => none
            | _ => none
          | _ => none
        | none => none
      | none => none
    | none => none
  | .index T _ _, [x, ix] => match E_ti E T, x, ix with
    | some iT, .v .str s, .v (.int _) i => bif iT.str then chW s i else none
    | _, _, _ => none
  | .extract _ i, [x] => match x with
    | .tup vs => match vs[i]? with
      | some a => some (true, a, [])
      | none => none
    | _ => none
  | .call c, as => match c.callee, as with
    | .builtin .len, [x] => match c.argTypes.toList with
      | [T] => bif lenB E T x then (match lenW rd x with
        | some n => some (true, .v (.int .i64) n, [])
        | none => none) else none
      | _ => none
    | .builtin .append, [s, x] => match c.argTypes.toList with
      | [T, T'] => bif Nat.beq T T' then (match E_ti E T with
        | some iT => match iT.elem with
          | some e => match E_ti E e with
            | some i => match leafD rd (.sl i.ty) x with
              | some ys => appW e i nid rd s ys
              | none => none
            | none => none
          | none => none
        | none => none) else none
      | _ => none
    | .builtin .max, [.v (.int k) x, .v (.int k') y] => if k' = k then maxW k x y else none
    | .builtin .min, [.v (.int k) x, .v (.int k') y] => if k' = k then minW k x y else none
    | _, _ => none
  | _, _ => none
  where
  mk (x : AV) (nid T : Nat) : Step := match x with
    | .v (.int _) n => match E_ti E T with
      | some iT => match iT.elem with
        | some e => match E_ti E e with
          | some i => mkW nid e i n
          | none => none
        | none => none
      | none => none
    | _ => none

/-! ### regions -/
def ids1 : AV → List Nat
  | .own i => [i]
  | .pb i _ => [i]
  | .pe i _ _ => [i]
  | _ => []
def ids2 : AV → List Nat
  | .agg cs => cs.flatMap ids1
  | x => ids1 x
def idsA : AV → List Nat
  | .tup cs => cs.flatMap ids2
  | .fn _ fs cs => fs.flatMap ids2 ++ cs.flatMap ids1
  | x => ids2 x
def memN (n : Nat) : List Nat → Bool
  | [] => false
  | m :: r => Nat.beq m n || memN n r
def rdOf (H : List Row) (l : List Nat) (i : Nat) : Option Row := bif memN i l then H[i]? else none
def setH (H : List Row) : List (Nat × Row) → List Row
  | [] => H
  | (i, r) :: us => setH (H.set i r) us
def putT (σ : St) (d : Option Nat) (a : AV) : St := match d with
  | some d => { σ with tm := σ.tm.set d a }
  | none => σ
def news : Op → Nat
  | .alloc _ => 1
  | .box _ _ => 1
  | .buildSlice _ _ _ => 1
  | .makeSlice _ _ _ => 1
  | .call _ => 1
  | _ => 0
/-- A value handed to a call: what is the caller's own is shown as it is now. -/
def cell0 : AV → AV
  | .v t x => .v t x
  | .nl => .nl
  | _ => .un
def shown1 (rd : Nat → Option Row) : AV → AV
  | .own id => match rd id with
    | some (.row _ t xs) => .v (.sl t) xs
    | some (.frz t xs) => .v (.sl t) xs
    | _ => .un
  | .nl => .nl
  | .pb id off => match rd id with
    | some (.box cs) => .rp ((cs.drop off).map cell0)
    | some (.fbx cs) => .rp ((cs.drop off).map cell0)
    | _ => .un
  | .v t x => .v t x
  | .rp cs => .rp cs
  | _ => .un
def shown2 (rd : Nat → Option Row) : AV → AV
  | .agg cs => .agg (cs.map (shown1 rd))
  | x => shown1 rd x
def shown (rd : Nat → Option Row) : AV → AV
  | .fn g fs cs => .fn g (fs.map (shown2 rd)) (cs.map (shown1 rd))
  | x => shown2 rd x
/-- What is shown for good: it is written no more. -/
def stay (rd : Nat → Option Row) (i : Nat) : List (Nat × Row) := match rd i with
  | some (.row _ t xs) => [(i, .frz t xs)]
  | some (.box cs) => [(i, .fbx cs)]
  | _ => []
def flat1 : AV → Bool
  | .v (.int _) _ => true
  | .v .bool _ => true
  | .v .str _ => true
  | .nl => true
  | .un => true
  | _ => false
def flat2 : AV → Bool
  | .agg cs => cs.all flat1
  | x => flat1 x
def flat : AV → Bool
  | .tup cs => cs.all flat2
  | x => flat2 x
/-- A call's own rows, taken over by the caller. -/
def rows1 : AV → List Row
  | .nw e t xs => [.row e t xs]
  | _ => []
def adL1 (nid : Nat) : List AV → List AV
  | [] => []
  | .nw _ _ _ :: r => .own nid :: adL1 (nid + 1) r
  | a :: r => a :: adL1 nid r
def rowsL1 (cs : List AV) : List Row := cs.flatMap rows1
def rows2 : AV → List Row
  | .agg cs => rowsL1 cs
  | x => rows1 x
def ad2 (nid : Nat) : AV → AV
  | .agg cs => .agg (adL1 nid cs)
  | .nw _ _ _ => .own nid
  | x => x
def adL2 (nid : Nat) : List AV → List AV
  | [] => []
  | a :: r => ad2 nid a :: adL2 (nid + (rows2 a).length) r
def rowsA : AV → List Row
  | .tup cs => cs.flatMap rows2
  | x => rows2 x
def adA (nid : Nat) : AV → AV
  | .tup cs => .tup (adL2 nid cs)
  | x => ad2 nid x
def numbered (i : Nat) : List Row → List (Nat × Row)
  | [] => []
  | r :: rs => (i, r) :: numbered (i + 1) rs

structure Rec where
  rd : List Nat
  wr : List Nat

def fsts : List (Nat × Row) → List Nat
  | [] => []
  | (i, _) :: r => i :: fsts r
def isCall : Op → Bool
  | .call c => match c.callee with
    | .value _ => true
    | _ => false
  | _ => false
/-- Up to so many rows a call hands back as its caller's own. -/
def most : Nat := 3
def newsO (o : Oper) : Nat := bif isCall o.op then most else news o.op

/-- What is written are rows that were named, or new ones. -/
def inIds (l : List Nat) (nid n : Nat) : List Nat → Bool
  | [] => true
  | i :: r => (memN i l || (Nat.ble nid i && Nat.blt i (nid + n))) && inIds l nid n r
def execW (E : Env) (o : Oper) (nid : Nat) (σ : St) (κ : Rec → St → Option AV) : Option AV :=
  match getOs σ o.op.operands.toList with
  | none => none
  | some as =>
    bif isCall o.op then
      match as with
      | .fn g fs cs :: args =>
        match look g E.calls with
        | some h => h ((fs ++ args ++ cs).map (shown (rdOf σ.hp (as.flatMap idsA)))) (fun av =>
            bif Nat.ble (rowsA av).length most then
              κ ⟨as.flatMap idsA, (bif flat av then [] else fsts ((as.flatMap idsA).flatMap (stay (rdOf σ.hp (as.flatMap idsA))))) ++ fsts (numbered nid (rowsA av))⟩
                (putT { σ with hp := setH σ.hp ((bif flat av then [] else (as.flatMap idsA).flatMap (stay (rdOf σ.hp (as.flatMap idsA)))) ++ numbered nid (rowsA av)) } o.dst (adA nid av))
            else none)
        | none => none
      | _ => none
    else
      match stepW E o.op nid as (rdOf σ.hp (as.flatMap idsA)) with
      | some (c, a, ups) => bif inIds (as.flatMap idsA) nid (newsO o) (fsts ups) then (bif c then κ ⟨as.flatMap idsA, fsts ups⟩ (putT { σ with hp := setH σ.hp ups } o.dst a) else none) else none
      | none => none

def guardS (all : List Oper) (g : Nat) : Option Nat := match all[g]? with
  | some o => o.dst
  | none => none
def setB (σ : St) (s : Nat) (b : Bool) : St := { σ with tm := σ.tm.set s (.v .bool b) }

def runOps (E : Env) (all : List Oper) : List Oper → Nat → List Rec → St → (List Rec → St → Option AV) → Option AV
  | [], _, tr, σ, κ => κ tr σ
  | o :: r, nid, tr, σ, κ =>
    match o.guard with
    | none => execW E o nid σ (fun c σ' => runOps E all r (nid + newsO o) (tr ++ [c]) σ' κ)
    | some (g, b) => match guardS all g with
      | some s => match σ.tm[s]? with
        | some (.v .bool x) => onB x
            (bif b then execW E o nid (setB σ s true) (fun c σ' => runOps E all r (nid + newsO o) (tr ++ [c]) σ' κ)
              else runOps E all r (nid + newsO o) (tr ++ [⟨[], []⟩]) (putT (setB σ s true) o.dst (.tup [])) κ)
            (bif b then runOps E all r (nid + newsO o) (tr ++ [⟨[], []⟩]) (putT (setB σ s false) o.dst (.tup [])) κ
              else execW E o nid (setB σ s false) (fun c σ' => runOps E all r (nid + newsO o) (tr ++ [c]) σ' κ))
        | some (.tup []) => runOps E all r (nid + newsO o) (tr ++ [⟨[], []⟩]) (putT σ o.dst (.tup [])) κ
        | _ => none
      | none => none
  where
  onB (x : Bool) (t e : Option AV) : Option AV := bif x then t else e

/-! ### a region whose order is open: what isn't ordered must not meet -/
def bindsE (e : Edge) : Bool := Region.binds .any e
def predsL : List Oper → List (List Nat) → List (List Nat)
  | [], acc => acc
  | o :: r, acc => predsL r (acc ++ [(o.after.toList.filter bindsE).flatMap fun e => e.on :: acc.getD e.on []])
def elder : List Oper → Nat → Bool
  | [], _ => true
  | o :: r, i => ((o.after.toList.filter bindsE).all fun e => Nat.blt e.on i) && elder r (i + 1)
def tmpsOf : List Operand → List Nat
  | [] => []
  | .tmp t :: r => t :: tmpsOf r
  | _ :: r => tmpsOf r
def rdS (all : List Oper) (o : Oper) : List Nat := tmpsOf o.op.operands.toList ++ (match o.guard with
  | some (g, _) => (guardS all g).toList
  | none => [])
def apartL (a b : List Nat) : Bool := a.all fun x => !memN x b
def apartO (all : List Oper) (x y : Oper) (p q : Rec) : Bool :=
  apartL x.dst.toList (rdS all y) && apartL x.dst.toList y.dst.toList && apartL y.dst.toList (rdS all x) &&
  apartL p.wr q.rd && apartL p.wr q.wr && apartL q.wr p.rd
def apartAll (all : List Oper) (ps : List (List Nat)) (y : Oper) (q : Rec) (j : Nat) : List (Oper × Rec) → Nat → Bool
  | [], _ => true
  | (x, p) :: r, i => (memN i (ps.getD j []) || apartO all x y p q) && apartAll all ps y q j r (i + 1)
def indepL (all : List Oper) (ps : List (List Nat)) : List (Oper × Rec) → List (Oper × Rec) → Nat → Bool
  | _, [], _ => true
  | pre, (y, q) :: r, j => apartAll all ps y q j pre 0 && indepL all ps (pre ++ [(y, q)]) r (j + 1)
def indep (all : List Oper) (tr : List Rec) : Bool := elder all 0 && indepL all (predsL all []) [] (all.zip tr) 0

/-! ### a state is tidied: slots that are read no more are forgotten, rows get numbers anew -/
def keepT (keep : List Nat) : Nat → List AV → List AV
  | _, [] => []
  | i, a :: r => (bif memN i keep then a else .un) :: keepT keep (i + 1) r
def dedupN : List Nat → List Nat → List Nat
  | acc, [] => acc
  | acc, a :: r => bif memN a acc then dedupN acc r else dedupN (acc ++ [a]) r
def inner (H : List Row) (i : Nat) : List Nat := match H[i]? with
  | some (.box cs) => cs.flatMap ids1
  | some (.fbx cs) => cs.flatMap ids1
  | _ => []
def there (H : List Row) (i : Nat) : Bool := match H[i]? with
  | some .dead => false
  | some .hole => false
  | none => false
  | _ => true
def placeN (n : Nat) : List Nat → Nat → Option Nat
  | [], _ => none
  | m :: r, i => bif Nat.beq m n then some i else placeN n r (i + 1)
def ren1 (o : List Nat) : AV → AV
  | .own i => match placeN i o 0 with
    | some j => .own j
    | none => .un
  | .pb i f => match placeN i o 0 with
    | some j => .pb j f
    | none => .un
  | .pe i k f => match placeN i o 0 with
    | some j => .pe j k f
    | none => .un
  | a => a
def ren2 (o : List Nat) : AV → AV
  | .agg cs => .agg (cs.map (ren1 o))
  | a => ren1 o a
def renA (o : List Nat) : AV → AV
  | .tup cs => .tup (cs.map (ren2 o))
  | .fn g fs cs => .fn g (fs.map (ren2 o)) (cs.map (ren1 o))
  | a => ren2 o a
def renR (o : List Nat) : Row → Row
  | .box cs => .box (cs.map (ren1 o))
  | .fbx cs => .fbx (cs.map (ren1 o))
  | r => r
def nodupN : List Nat → Bool
  | [] => true
  | a :: r => !memN a r && nodupN r
def orderN (H : List Row) (tm : List AV) : List Nat :=
  let o1 := dedupN [] (tm.flatMap idsA)
  let o2 := dedupN o1 (o1.flatMap (inner H))
  let o3 := dedupN o2 (o2.flatMap (inner H))
  o3.filter (there H)
def tidyBy (o : List Nat) (σ : St) : St := { tm := σ.tm.map (renA o), hp := o.map fun i => renR o (σ.hp.getD i .dead) }
def tidy (keep : List Nat) (σ : St) : Option St :=
  bif nodupN (orderN σ.hp (keepT keep 0 σ.tm)) then some (tidyBy (orderN σ.hp (keepT keep 0 σ.tm)) { σ with tm := keepT keep 0 σ.tm }) else none
def keyOf : Code → Option Nat
  | .region id _ _ => some id
  | .seq a b => match keyOf a with
    | some k => some k
    | none => keyOf b
  | .cond _ x y => match keyOf x with
    | some k => some k
    | none => keyOf y
  | .block _ c => keyOf c
  | .loop c => keyOf c
  | _ => none
def tidyAt (E : Env) (c : Code) (σ : St) : Option St := match keyOf c with
  | some k => match look k E.keep with
    | some l => tidy l σ
    | none => some σ
  | none => some σ

def tidyEx (E : Env) (id : Nat) (σ : St) : Option St := match look id E.exk with
  | some l => tidy l σ
  | none => some σ
def tidyRet (E : Env) (σ : St) : Option St := match E.fin with
  | some l => tidy l σ
  | none => some σ
/-- A list of slots: those that are named, the others empty. -/
def slots (n : Nat) : List (Nat × AV) → List AV
  | [] => List.replicate n .un
  | (i, a) :: r => (slots n r).set i a

/-! ### code -/
structure Conts where
  nrm : St → Option AV
  ret : St → Option AV
  ex : List (Nat × (St → Option AV))

def padH (n : Nat) (σ : St) : St := { σ with hp := σ.hp ++ List.replicate n .hole }
def newsAll : List Oper → Nat
  | [] => 0
  | o :: r => newsO o + newsAll r

def runC (E : Env) (lp : Code → Conts → St → Option AV) : Code → Conts → St → Option AV
  | .skip, K, σ => K.nrm σ
  | .region _ ops draw, K, σ => runOps E ops.toList ops.toList σ.hp.length [] (padH (newsAll ops.toList) σ) (fun tr σ' =>
      bif !draw || indep ops.toList tr then K.nrm σ' else none)
  | .seq a b, K, σ => runC E lp a { K with nrm := fun σ' => match tidyAt E b σ' with
      | some σ'' => runC E lp b K σ''
      | none => none } σ
  | .cond (.tmp c) x y, K, σ => match σ.tm[c]? with
    | some (.v .bool t) => runOps.onB t (runC E lp x K (setB σ c true)) (runC E lp y K (setB σ c false))
    | _ => none
  | .cond (.const (.bool b)) x y, K, σ => bif b then runC E lp x K σ else runC E lp y K σ
  | .block id c, K, σ => runC E lp c { K with ex := (id, K.nrm) :: K.ex } σ
  | .loop c, K, σ => match tidyAt E c σ with
    | some σ' => lp c K σ'
    | none => none
  | .exit id, K, σ => match look id K.ex with
    | some k => (match tidyEx E id σ with
      | some σ' => k σ'
      | none => none)
    | none => none
  | .ret, K, σ => match tidyRet E σ with
    | some σ' => K.ret σ'
    | none => none
  | _, _, _ => none

def loopF (E : Env) : Nat → Code → Conts → St → Option AV
  | 0, _, _, _ => none
  | n + 1, c, K, σ => runC E (loopF E n) c { K with nrm := fun σ' => match tidyAt E c σ' with
      | some σ'' => loopF E n c K σ''
      | none => none } σ

/-! ### a function -/
def resW (E : Env) (σ : St) : ResultVar → Option AV
  | .tmp t => match σ.tm[t]? with
    | some a => some a
    | none => none
  | .cell t T => match σ.tm[t]? with
    | some (.pb id off) => match σ.hp[id]? with
      | some (.box cs) => takeW E T (cs.drop off)
      | some (.fbx cs) => takeW E T (cs.drop off)
      | _ => none
    | _ => none
def resWs (E : Env) (σ : St) : List ResultVar → Option (List AV)
  | [] => some []
  | r :: rs => match resW E σ r with
    | some a => match resWs E σ rs with
      | some as => some (a :: as)
      | none => none
    | none => none
/-- The results: own rows are handed over ('own'), or all is shown. -/
def nw1 (H : List Row) : AV → List Nat
  | .own id => match H[id]? with
    | some (.row _ _ _) => [id]
    | _ => []
  | _ => []
def nw2 (H : List Row) : AV → List Nat
  | .agg cs => cs.flatMap (nw1 H)
  | x => nw1 H x
def fin1 (H : List Row) (ns rest : List Nat) : AV → AV
  | .own id => bif memN id ns then (match H[id]? with
    | some (.row e t xs) => .nw e t xs
    | _ => .un) else shown1 (rdOf H rest) (.own id)
  | x => shown1 (rdOf H rest) x
def fin2 (H : List Row) (ns rest : List Nat) : AV → AV
  | .agg cs => .agg (cs.map (fin1 H ns rest))
  | x => fin1 H ns rest x
def tupW : List AV → AV
  | [a] => a
  | as => .tup as
def restN (ns : List Nat) : List Nat → List Nat
  | [] => []
  | i :: r => bif memN i ns then restN ns r else i :: restN ns r
def endW (E : Env) (own : Bool) (rs : List ResultVar) (σ : St) : Option AV := match resWs E σ rs with
  | some as => finW (bif own then as.flatMap (nw2 σ.hp) else []) as
  | none => none
  where
  finW (ns : List Nat) (as : List AV) : Option AV := bif nodupN ns then some (tupW (as.map (fin2 σ.hp ns (restN ns (as.flatMap idsA))))) else none
def startW (fn : Func) (as : List AV) : St := { tm := as ++ List.replicate (fn.ntmps - as.length) .un, hp := [] }
def bodyOf (fn : Func) : Code := fn.body.getD .skip
def callW (E : Env) (own : Bool) (fn : Func) (k : Nat) (as : List AV) : Option AV :=
  runC E (loopF E k) (bodyOf fn) { nrm := endW E own fn.results.toList, ret := endW E own fn.results.toList, ex := [] } (startW fn as)

/-! ### a point in a function's code, by the way to it -/
def atC (E : Env) (n : Nat) : List Nat → Code → Conts → List Nat → Code × Conts
  | ms, .seq a b, K, 0 :: p => atC E n ms a { K with nrm := fun σ' => match tidyAt E b σ' with
      | some σ'' => runC E (loopF E n) b K σ''
      | none => none } p
  | ms, .seq _ b, K, 1 :: p => atC E n ms b K p
  | ms, .cond _ x _, K, 0 :: p => atC E n ms x K p
  | ms, .cond _ _ y, K, 1 :: p => atC E n ms y K p
  | ms, .block id c, K, 0 :: p => atC E n ms c { K with ex := (id, K.nrm) :: K.ex } p
  | m :: ms, .loop c, K, 0 :: p => atC E m ms c { K with nrm := fun σ' => match tidyAt E c σ' with
      | some σ'' => loopF E m c K σ''
      | none => none } p
  | _, c, K, _ => (c, K)
def contAt (E : Env) (n : Nat) (c : Code) (K : Conts) (p : List Nat) : Conts := (atC E n [] c K p).2
def subC : List Nat → Code → Code
  | 0 :: p, .seq a _ => subC p a
  | 1 :: p, .seq _ b => subC p b
  | 0 :: p, .cond _ x _ => subC p x
  | 1 :: p, .cond _ _ y => subC p y
  | 0 :: p, .block _ c => subC p c
  | 0 :: p, .loop c => subC p c
  | _, c => c
def inLoop : Code → Code
  | .loop c => c
  | c => c
def loopK (E : Env) (n : Nat) (c : Code) (K : Conts) : Conts := { K with nrm := fun σ' => match tidyAt E c σ' with
      | some σ'' => loopF E n c K σ''
      | none => none }
def exitK (K : Conts) (i : Nat) (σ : St) : Option AV := match look i K.ex with
  | some f => f σ
  | none => none
end Go.Proofs.Ytoplphfgbfcagaa.Ev
