/-
The words and shapes of all kinds: what the functions answer, in plain words; the table of types; what the calls' handlers are.
Conditions: none.
-/
import Derived.Test.YtoplphfgbfcagaaEvS
import Derived.Test.YtoplphfgbfcagaaProg
import Derived.KernelRfl
import Derived.Lib.Bytealg
set_option linter.unusedVariables false
namespace Go.Proofs.Ytoplphfgbfcagaa.Ev
open Go
def tt : List (Nat × TInfo) := [(2, ⟨(.int .i64), false, 8, none, [], some .i64, false⟩),
 (3, ⟨(.int .i64), false, 8, none, [], some .i64, false⟩),
 (4, ⟨.bool, false, 1, none, [], none, false⟩),
 (5, ⟨(.int .u8), false, 1, none, [], some .u8, false⟩),
 (6, ⟨(.int .u8), false, 1, none, [], some .u8, false⟩),
 (7, ⟨(.pair (.int .i64) (.pair (.int .i64) (.pair .bool (.int .u8)))), true, 24, none, [(0, 2), (1, 3), (2, 4), (3, 6)], none, false⟩),
 (8, ⟨(.pair (.int .i64) (.pair (.int .i64) (.pair .bool (.int .u8)))), true, 24, none, [(0, 2), (1, 3), (2, 4), (3, 6)], none, false⟩),
 (9, ⟨.str, false, 16, none, [], none, true⟩),
 (10, ⟨.str, false, 16, none, [], none, true⟩),
 (11, ⟨.str, false, 16, none, [], none, true⟩),
 (12, ⟨(.int .u64), false, 8, none, [], some .u64, false⟩),
 (13, ⟨(.pair .str (.int .u64)), true, 24, none, [(0, 9), (1, 12)], none, false⟩),
 (14, ⟨(.pair .str (.int .u64)), true, 24, none, [(0, 9), (1, 12)], none, false⟩),
 (21, ⟨(.int .i32), false, 4, none, [], some .i32, false⟩),
 (22, ⟨(.sl .str), false, 24, some 9, [], none, false⟩),
 (32, ⟨(.sl (.pair .str .str)), false, 24, some 35, [], none, false⟩),
 (34, ⟨(.pair .str .str), true, 32, none, [(0, 9), (1, 9)], none, false⟩),
 (35, ⟨(.pair .str .str), true, 32, none, [(0, 9), (1, 9)], none, false⟩),
 (39, ⟨(.int .i64), false, 8, none, [], some .i64, false⟩),
 (41, ⟨(.sl (.int .i64)), false, 24, some 3, [], none, false⟩),
 (42, ⟨(.sl (.sl (.int .i64))), false, 24, some 41, [], none, false⟩),
 (43, ⟨(.pair (.int .i64) (.pair (.sl (.int .i64)) (.pair (.sl (.int .i64)) (.pair (.sl (.int .i64)) (.pair (.sl (.int .i64)) (.pair (.sl (.int .i64)) (.pair (.int .i64) (.sl (.sl (.int .i64)))))))))), true, 160, none, [(0, 3), (1, 41), (2, 41), (3, 41), (4, 41), (5, 41), (6, 3), (7, 42)], none, false⟩),
 (44, ⟨(.pair (.int .i64) (.pair (.sl (.int .i64)) (.pair (.sl (.int .i64)) (.pair (.sl (.int .i64)) (.pair (.sl (.int .i64)) (.pair (.sl (.int .i64)) (.pair (.int .i64) (.sl (.sl (.int .i64)))))))))), true, 160, none, [(0, 3), (1, 41), (2, 41), (3, 41), (4, 41), (5, 41), (6, 3), (7, 42)], none, false⟩),
 (69, ⟨(.int .u64), false, 8, none, [], some .u64, false⟩),
 (73, ⟨(.int .u32), false, 4, none, [], some .u32, false⟩),
 (77, ⟨(.int .i64), false, 8, none, [], some .i64, false⟩),
 (86, ⟨(.int .u64), false, 8, none, [], some .u64, false⟩),
 (87, ⟨(.int .u64), false, 8, none, [], some .u64, false⟩),
 (103, ⟨(.int .u8), false, 1, none, [], some .u8, false⟩),
 (104, ⟨(.int .u8), false, 1, none, [], some .u8, false⟩),
 (107, ⟨(.int .i32), false, 4, none, [], some .i32, false⟩),
 (108, ⟨(.int .i32), false, 4, none, [], some .i32, false⟩)]
def wordsL : List ByteArray := [⟨#[]⟩, ⟨#[108, 105, 110, 95, 101, 113]⟩, ⟨#[108, 105, 110, 95, 108, 101]⟩, ⟨#[108, 105, 110, 95, 110, 101]⟩, ⟨#[108, 105, 110, 95, 114, 101, 105, 102]⟩, ⟨#[116, 105, 109, 101, 115]⟩, ⟨#[100, 105, 118]⟩, ⟨#[109, 111, 100]⟩, ⟨#[97, 98, 115]⟩, ⟨#[109, 105, 110]⟩, ⟨#[109, 97, 120]⟩, ⟨#[101, 108, 101, 109, 101, 110, 116]⟩, ⟨#[99, 108, 97, 117, 115, 101]⟩, ⟨#[101, 113, 95, 114, 101, 105, 102]⟩, ⟨#[108, 101, 95, 114, 101, 105, 102]⟩, ⟨#[101, 113, 95, 105, 109, 112]⟩, ⟨#[108, 101, 95, 105, 109, 112]⟩, ⟨#[97, 108, 108, 95, 100, 105, 102, 102, 101, 114, 101, 110, 116]⟩, ⟨#[116, 97, 98, 108, 101]⟩, ⟨#[99, 117, 109, 117, 108, 97, 116, 105, 118, 101]⟩, ⟨#[99, 105, 114, 99, 117, 105, 116]⟩, ⟨#[103, 99, 99]⟩, ⟨#[108, 101, 120, 95, 108, 101]⟩, ⟨#[105, 110, 118, 101, 114, 115, 101]⟩]
def shapesL : List ByteArray := [⟨#[]⟩, ⟨#[99, 86, 107]⟩, ⟨#[99, 86, 107]⟩, ⟨#[99, 86, 107]⟩, ⟨#[99, 86, 107, 119]⟩, ⟨#[118, 118, 118]⟩, ⟨#[118, 118, 118]⟩, ⟨#[118, 118, 118]⟩, ⟨#[118, 118]⟩, ⟨#[118, 118, 118]⟩, ⟨#[118, 118, 118]⟩, ⟨#[118, 99, 118]⟩, ⟨#[86, 87]⟩, ⟨#[118, 107, 119]⟩, ⟨#[118, 107, 119]⟩, ⟨#[118, 107, 119]⟩, ⟨#[118, 107, 119]⟩, ⟨#[86]⟩, ⟨#[86, 114]⟩, ⟨#[86, 99, 100, 107]⟩, ⟨#[86]⟩, ⟨#[86, 99, 100, 101]⟩, ⟨#[86, 87]⟩, ⟨#[86, 87]⟩]
def formsL : List (ByteArray × ByteArray) := [(⟨#[108, 105, 110, 95, 101, 113]⟩, ⟨#[99, 86, 107]⟩), (⟨#[108, 105, 110, 95, 108, 101]⟩, ⟨#[99, 86, 107]⟩), (⟨#[108, 105, 110, 95, 110, 101]⟩, ⟨#[99, 86, 107]⟩), (⟨#[108, 105, 110, 95, 114, 101, 105, 102]⟩, ⟨#[99, 86, 107, 119]⟩), (⟨#[116, 105, 109, 101, 115]⟩, ⟨#[118, 118, 118]⟩), (⟨#[100, 105, 118]⟩, ⟨#[118, 118, 118]⟩), (⟨#[109, 111, 100]⟩, ⟨#[118, 118, 118]⟩), (⟨#[97, 98, 115]⟩, ⟨#[118, 118]⟩), (⟨#[109, 105, 110]⟩, ⟨#[118, 118, 118]⟩), (⟨#[109, 97, 120]⟩, ⟨#[118, 118, 118]⟩), (⟨#[101, 108, 101, 109, 101, 110, 116]⟩, ⟨#[118, 99, 118]⟩), (⟨#[99, 108, 97, 117, 115, 101]⟩, ⟨#[86, 87]⟩), (⟨#[101, 113, 95, 114, 101, 105, 102]⟩, ⟨#[118, 107, 119]⟩), (⟨#[108, 101, 95, 114, 101, 105, 102]⟩, ⟨#[118, 107, 119]⟩), (⟨#[101, 113, 95, 105, 109, 112]⟩, ⟨#[118, 107, 119]⟩), (⟨#[108, 101, 95, 105, 109, 112]⟩, ⟨#[118, 107, 119]⟩), (⟨#[97, 108, 108, 95, 100, 105, 102, 102, 101, 114, 101, 110, 116]⟩, ⟨#[86]⟩), (⟨#[116, 97, 98, 108, 101]⟩, ⟨#[86, 114]⟩), (⟨#[99, 117, 109, 117, 108, 97, 116, 105, 118, 101]⟩, ⟨#[86, 99, 100, 107]⟩), (⟨#[99, 105, 114, 99, 117, 105, 116]⟩, ⟨#[86]⟩), (⟨#[103, 99, 99]⟩, ⟨#[86, 99, 100, 101]⟩), (⟨#[108, 101, 120, 95, 108, 101]⟩, ⟨#[86, 87]⟩), (⟨#[105, 110, 118, 101, 114, 115, 101]⟩, ⟨#[86, 87]⟩)]
abbrev Hand := List AV → (AV → Option AV) → Option AV
def callH (E : Env) (own : Bool) (fn : Func) (k : Nat) : Hand := fun args κ => match callW E own fn k args with
  | some r => κ r
  | none => none
def no : Nat → Option Row := fun _ => none
def idxI (s : ByteArray) (c : Int) : Int := Lib.indexByte s.data.toList c.toNat.toUInt8
def cntI (s : ByteArray) (c : Int) : Int := (Lib.countByte s.data.toList c.toNat.toUInt8 : Nat)
def growB (n : Int) : Bool := decide (0 < n) && decide (n ≤ 1000000)
def hIndexByte : Hand := fun args κ => match args with
  | [.v .str s, .v (.int .u8) c] => κ (.v (.int .i64) (idxI s c))
  | _ => none
def hCountByte : Hand := fun args κ => match args with
  | [.v .str s, .v (.int .u8) c] => κ (.v (.int .i64) (cntI s c))
  | _ => none
def hGrow : Hand := fun args κ => match args with
  | [.nl, .v (.int .i64) n] => bif growB n then κ (.nw 3 (.int .i64) []) else none
  | _ => none
def c0 : List (Nat × Hand) := [(51, hIndexByte), (43, hCountByte), (37, hGrow)]

noncomputable def c1 : List (Nat × Hand) := (44, callH ⟨tt, c0, [], [], none⟩ false Go.Proofs.Try.f44 100) :: c0
noncomputable def c2 : List (Nat × Hand) := (36, callH ⟨tt, c1, [], [], none⟩ false Go.Proofs.Try.f36 100) :: c1
noncomputable def c3 : List (Nat × Hand) := (28, callH ⟨tt, c2, [], [], none⟩ false Go.Proofs.Try.f28 100) :: c2
noncomputable def c4 : List (Nat × Hand) := (18, callH ⟨tt, c3, [], [], none⟩ false Go.Proofs.Try.f18 100) :: c3
noncomputable def c5 : List (Nat × Hand) := (34, callH ⟨tt, c4, [], [], none⟩ false Go.Proofs.Try.f34 100) :: c4
noncomputable def c6 : List (Nat × Hand) := (24, callH ⟨tt, c5, [], [], none⟩ false Go.Proofs.Try.f24 100) :: c5
noncomputable def c7 : List (Nat × Hand) := (25, callH ⟨tt, c6, [], [], none⟩ false Go.Proofs.Try.f25 100) :: c6
noncomputable def c8 : List (Nat × Hand) := (16, callH ⟨tt, c7, [], [], none⟩ false Go.Proofs.Try.f16 100) :: c7
noncomputable def c9 : List (Nat × Hand) := (17, callH ⟨tt, c8, [], [], none⟩ false Go.Proofs.Try.f17 100) :: c8
noncomputable def c10 : List (Nat × Hand) := (38, callH ⟨tt, c9, [], [], none⟩ false Go.Proofs.Try.f38 100) :: c9
noncomputable def c11 : List (Nat × Hand) := (21, callH ⟨tt, c10, [], [], none⟩ false Go.Proofs.Try.f21 100) :: c10
noncomputable def c12 : List (Nat × Hand) := (29, callH ⟨tt, c11, [], [], none⟩ false Go.Proofs.Try.f29 100) :: c11
noncomputable def c13 : List (Nat × Hand) := (19, callH ⟨tt, c12, [], [], none⟩ false Go.Proofs.Try.f19 100) :: c12
noncomputable def c14 : List (Nat × Hand) := (30, callH ⟨tt, c13, [], [], none⟩ false Go.Proofs.Try.f30 100) :: c13
noncomputable def c15 : List (Nat × Hand) := (20, callH ⟨tt, c14, [], [], none⟩ false Go.Proofs.Try.f20 100) :: c14
noncomputable def c16 : List (Nat × Hand) := (31, callH ⟨tt, c15, [], [], none⟩ false Go.Proofs.Try.f31 100) :: c15
noncomputable def c17 : List (Nat × Hand) := (22, callH ⟨tt, c16, [], [], none⟩ false Go.Proofs.Try.f22 100) :: c16
noncomputable def c18 : List (Nat × Hand) := (23, callH ⟨tt, c17, [], [], none⟩ false Go.Proofs.Try.f23 100) :: c17
noncomputable def c19 : List (Nat × Hand) := (11, callH ⟨tt, c18, [], [], none⟩ false Go.Proofs.Try.f11 100) :: c18
noncomputable def c20 : List (Nat × Hand) := (5, callH ⟨tt, c19, [], [], none⟩ false Go.Proofs.Try.f5 100) :: c19
noncomputable def c21 : List (Nat × Hand) := (13, callH ⟨tt, c20, [], [], none⟩ false Go.Proofs.Try.f13 100) :: c20
noncomputable def c22 : List (Nat × Hand) := (12, callH ⟨tt, c21, [], [], none⟩ false Go.Proofs.Try.f12 100) :: c21
noncomputable def c23 : List (Nat × Hand) := (6, callH ⟨tt, c22, [], [], none⟩ false Go.Proofs.Try.f6 100) :: c22
noncomputable def c24 : List (Nat × Hand) := (7, callH ⟨tt, c23, [], [], none⟩ false Go.Proofs.Try.f7 100) :: c23
noncomputable def c25 : List (Nat × Hand) := (15, callH ⟨tt, c24, [], [], none⟩ false Go.Proofs.Try.f15 100) :: c24
noncomputable def cAll : List (Nat × Hand) := c25
end Go.Proofs.Ytoplphfgbfcagaa.Ev
