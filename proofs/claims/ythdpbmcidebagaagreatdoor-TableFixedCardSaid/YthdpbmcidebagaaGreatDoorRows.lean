/-
  NARROWER THAN 'FOR EVERY INPUT', by the rows' own cells (each row's printed sentence says how): ElemFilters: laid · ElemRefuses: laid · ElemFixed: laid · ElemKeeps: laid · ReifFilters: laid · ReifRefuses: laid · ReifFixed: laid · TableFilters: laid · TableRefuses: laid · TableKeeps: laid · TableFixed: laid · ReifKeeps: laid.
  DERIVED. THE GIVEN ROWS OF THIS SEAT. 12 by the template 'for every input the law returns true; each argument reads behind the call as it read before'; 0 by the template 'total and deterministic' (their statements: YthdpbmcidebagaaGreatDoorTotals.lean).
  GIVEN WITH THE SEED: the statements are not yours to turn. If you find one false, say at which input.
  Laid BY PROGRAM, IN A SANDBOX (cutbox-rows.mjs): the forced cells as the released guide's own fill.sh prints them over the translation f02769461ea7d728… (all of the seat's roots in one cut). By AI agents, Wed Nov 11 2026. No macro, syntax, notation, axiom, sorry.
-/
import Derived.Test.YthdpbmcidebagaaGreatDoorChecked
import GoSem.Claim
import GoSem.ClaimJoined
import GoSem.ClaimMapViews
import Derived.JoinedTies
import Derived.KernelRfl
namespace Go.Proofs.YthdpbmcidebagaaGreatDoor
/- THE CELL 'sum', in the pinned program and in every row, IS THE sha256 OF THE DUMP (.gsa) THAT YthdpbmcidebagaaGreatDoorProg.lean LOADS. Nothing in Lean hashes anything: it is a label: what it is worth is what the hold of that sum in a sandbox is worth. -/
noncomputable def Tryz.pinned : Pinned := { name := "ythdpbmcidebagaagreatdoor", sum := "f02769461ea7d728947ae421378d31b61d17e2ac34ef443921080633f9d5c9f4", checked := Tryz.checked }
namespace Rows
def none {H : Type} : Left H := { results := [], args := [] }

/- WHAT THE LISTED PACKAGE-LEVEL VARIABLES READ AS WHEN THE CALL BEGINS. Each datum BY PROGRAM (the guide's laid-datum.mjs) off the statement by which the dump's own 'gosem.cut.vars' lays the variable. In a bare row this is a premise. The card (YthdpbmcidebagaaGreatDoorCards.lean) ties it to the program's text. -/
def laid_math_bits_deBruijn64tab {H : Type} : DataW H := .agg [.lit (.int .u8 0), .lit (.int .u8 1), .lit (.int .u8 56), .lit (.int .u8 2), .lit (.int .u8 57), .lit (.int .u8 49), .lit (.int .u8 28), .lit (.int .u8 3), .lit (.int .u8 61), .lit (.int .u8 58), .lit (.int .u8 42), .lit (.int .u8 50), .lit (.int .u8 38), .lit (.int .u8 29), .lit (.int .u8 17), .lit (.int .u8 4), .lit (.int .u8 62), .lit (.int .u8 47), .lit (.int .u8 59), .lit (.int .u8 36), .lit (.int .u8 45), .lit (.int .u8 43), .lit (.int .u8 51), .lit (.int .u8 22), .lit (.int .u8 53), .lit (.int .u8 39), .lit (.int .u8 33), .lit (.int .u8 30), .lit (.int .u8 24), .lit (.int .u8 18), .lit (.int .u8 12), .lit (.int .u8 5), .lit (.int .u8 63), .lit (.int .u8 55), .lit (.int .u8 48), .lit (.int .u8 27), .lit (.int .u8 60), .lit (.int .u8 41), .lit (.int .u8 37), .lit (.int .u8 16), .lit (.int .u8 46), .lit (.int .u8 35), .lit (.int .u8 44), .lit (.int .u8 21), .lit (.int .u8 52), .lit (.int .u8 32), .lit (.int .u8 23), .lit (.int .u8 11), .lit (.int .u8 54), .lit (.int .u8 26), .lit (.int .u8 40), .lit (.int .u8 15), .lit (.int .u8 34), .lit (.int .u8 20), .lit (.int .u8 31), .lit (.int .u8 10), .lit (.int .u8 25), .lit (.int .u8 14), .lit (.int .u8 19), .lit (.int .u8 9), .lit (.int .u8 13), .lit (.int .u8 8), .lit (.int .u8 7), .lit (.int .u8 6)]

/-- 'jigsawlaw13.ElemFilters': WHATEVER THE INPUT: true; the input reads as it did. -/
def elemFiltersSpec : ChangeSpec := { name := "elemFilters", fn := fun _ => fun
  | [d1, d2] => { results := [.lit (.bool true)], args := [d1, d2] }
  | _ => none }
def elemFiltersRow : OpenClaim := { program := "ythdpbmcidebagaagreatdoor", sum := "f02769461ea7d728947ae421378d31b61d17e2ac34ef443921080633f9d5c9f4", func := "jigsaw/jigsawlaw13.ElemFilters", spec := "elemFilters", inPlace := ["internal/bytealg.IndexByteString", "internal/bytealg.IndexString", "internal/bytealg.CountString"], unfollowed := true, recurses := true, named := ["math/bits.deBruijn64tab", "internal/bytealg.MaxLen"], apart := false, laid := [("math/bits.deBruijn64tab", laid_math_bits_deBruijn64tab)] }
def ElemFiltersSaid : Prop := elemFiltersRow.holds Tryz.pinned (OpenSpec.ofChange elemFiltersSpec)

/-- ITS FALSE NEIGHBOUR: 'it returns false'. Refute it at one input. -/
def elemFiltersWrong : ChangeSpec := { name := "elemFilters", fn := fun _ => fun
  | [d1, d2] => { results := [.lit (.bool false)], args := [d1, d2] }
  | _ => none }
def ElemFiltersWrongFalsely : Prop := elemFiltersRow.holds Tryz.pinned (OpenSpec.ofChange elemFiltersWrong)

/-- 'jigsawlaw13.ElemRefuses': WHATEVER THE INPUT: true; the input reads as it did. -/
def elemRefusesSpec : ChangeSpec := { name := "elemRefuses", fn := fun _ => fun
  | [d1, d2, d3] => { results := [.lit (.bool true)], args := [d1, d2, d3] }
  | _ => none }
def elemRefusesRow : OpenClaim := { program := "ythdpbmcidebagaagreatdoor", sum := "f02769461ea7d728947ae421378d31b61d17e2ac34ef443921080633f9d5c9f4", func := "jigsaw/jigsawlaw13.ElemRefuses", spec := "elemRefuses", inPlace := ["internal/bytealg.IndexByteString", "internal/bytealg.IndexString", "internal/bytealg.CountString"], unfollowed := true, recurses := true, named := ["math/bits.deBruijn64tab", "internal/bytealg.MaxLen"], apart := false, laid := [("math/bits.deBruijn64tab", laid_math_bits_deBruijn64tab)] }
def ElemRefusesSaid : Prop := elemRefusesRow.holds Tryz.pinned (OpenSpec.ofChange elemRefusesSpec)

/-- ITS FALSE NEIGHBOUR: 'it returns false'. Refute it at one input. -/
def elemRefusesWrong : ChangeSpec := { name := "elemRefuses", fn := fun _ => fun
  | [d1, d2, d3] => { results := [.lit (.bool false)], args := [d1, d2, d3] }
  | _ => none }
def ElemRefusesWrongFalsely : Prop := elemRefusesRow.holds Tryz.pinned (OpenSpec.ofChange elemRefusesWrong)

/-- 'jigsawlaw13.ElemFixed': WHATEVER THE INPUT: true; the input reads as it did. -/
def elemFixedSpec : ChangeSpec := { name := "elemFixed", fn := fun _ => fun
  | [d1, d2, d3] => { results := [.lit (.bool true)], args := [d1, d2, d3] }
  | _ => none }
def elemFixedRow : OpenClaim := { program := "ythdpbmcidebagaagreatdoor", sum := "f02769461ea7d728947ae421378d31b61d17e2ac34ef443921080633f9d5c9f4", func := "jigsaw/jigsawlaw13.ElemFixed", spec := "elemFixed", inPlace := ["internal/bytealg.IndexByteString", "internal/bytealg.IndexString", "internal/bytealg.CountString"], unfollowed := true, recurses := true, named := ["math/bits.deBruijn64tab", "internal/bytealg.MaxLen"], apart := false, laid := [("math/bits.deBruijn64tab", laid_math_bits_deBruijn64tab)] }
def ElemFixedSaid : Prop := elemFixedRow.holds Tryz.pinned (OpenSpec.ofChange elemFixedSpec)

/-- ITS FALSE NEIGHBOUR: 'it returns false'. Refute it at one input. -/
def elemFixedWrong : ChangeSpec := { name := "elemFixed", fn := fun _ => fun
  | [d1, d2, d3] => { results := [.lit (.bool false)], args := [d1, d2, d3] }
  | _ => none }
def ElemFixedWrongFalsely : Prop := elemFixedRow.holds Tryz.pinned (OpenSpec.ofChange elemFixedWrong)

/-- 'jigsawlaw13.ElemKeeps': WHATEVER THE INPUT: true; the input reads as it did. -/
def elemKeepsSpec : ChangeSpec := { name := "elemKeeps", fn := fun _ => fun
  | [d1, d2] => { results := [.lit (.bool true)], args := [d1, d2] }
  | _ => none }
def elemKeepsRow : OpenClaim := { program := "ythdpbmcidebagaagreatdoor", sum := "f02769461ea7d728947ae421378d31b61d17e2ac34ef443921080633f9d5c9f4", func := "jigsaw/jigsawlaw13.ElemKeeps", spec := "elemKeeps", inPlace := ["internal/bytealg.IndexByteString", "internal/bytealg.IndexString", "internal/bytealg.CountString"], unfollowed := true, recurses := true, named := ["math/bits.deBruijn64tab", "internal/bytealg.MaxLen"], apart := false, laid := [("math/bits.deBruijn64tab", laid_math_bits_deBruijn64tab)] }
def ElemKeepsSaid : Prop := elemKeepsRow.holds Tryz.pinned (OpenSpec.ofChange elemKeepsSpec)

/-- ITS FALSE NEIGHBOUR: 'it returns false'. Refute it at one input. -/
def elemKeepsWrong : ChangeSpec := { name := "elemKeeps", fn := fun _ => fun
  | [d1, d2] => { results := [.lit (.bool false)], args := [d1, d2] }
  | _ => none }
def ElemKeepsWrongFalsely : Prop := elemKeepsRow.holds Tryz.pinned (OpenSpec.ofChange elemKeepsWrong)

/-- 'jigsawlaw15.ReifFilters': WHATEVER THE INPUT: true; the input reads as it did. -/
def reifFiltersSpec : ChangeSpec := { name := "reifFilters", fn := fun _ => fun
  | [d1, d2] => { results := [.lit (.bool true)], args := [d1, d2] }
  | _ => none }
def reifFiltersRow : OpenClaim := { program := "ythdpbmcidebagaagreatdoor", sum := "f02769461ea7d728947ae421378d31b61d17e2ac34ef443921080633f9d5c9f4", func := "jigsaw/jigsawlaw15.ReifFilters", spec := "reifFilters", inPlace := ["internal/bytealg.IndexByteString", "internal/bytealg.IndexString", "internal/bytealg.CountString"], unfollowed := true, recurses := true, named := ["math/bits.deBruijn64tab", "internal/bytealg.MaxLen"], apart := false, laid := [("math/bits.deBruijn64tab", laid_math_bits_deBruijn64tab)] }
def ReifFiltersSaid : Prop := reifFiltersRow.holds Tryz.pinned (OpenSpec.ofChange reifFiltersSpec)

/-- ITS FALSE NEIGHBOUR: 'it returns false'. Refute it at one input. -/
def reifFiltersWrong : ChangeSpec := { name := "reifFilters", fn := fun _ => fun
  | [d1, d2] => { results := [.lit (.bool false)], args := [d1, d2] }
  | _ => none }
def ReifFiltersWrongFalsely : Prop := reifFiltersRow.holds Tryz.pinned (OpenSpec.ofChange reifFiltersWrong)

/-- 'jigsawlaw15.ReifRefuses': WHATEVER THE INPUT: true; the input reads as it did. -/
def reifRefusesSpec : ChangeSpec := { name := "reifRefuses", fn := fun _ => fun
  | [d1, d2, d3] => { results := [.lit (.bool true)], args := [d1, d2, d3] }
  | _ => none }
def reifRefusesRow : OpenClaim := { program := "ythdpbmcidebagaagreatdoor", sum := "f02769461ea7d728947ae421378d31b61d17e2ac34ef443921080633f9d5c9f4", func := "jigsaw/jigsawlaw15.ReifRefuses", spec := "reifRefuses", inPlace := ["internal/bytealg.IndexByteString", "internal/bytealg.IndexString", "internal/bytealg.CountString"], unfollowed := true, recurses := true, named := ["math/bits.deBruijn64tab", "internal/bytealg.MaxLen"], apart := false, laid := [("math/bits.deBruijn64tab", laid_math_bits_deBruijn64tab)] }
def ReifRefusesSaid : Prop := reifRefusesRow.holds Tryz.pinned (OpenSpec.ofChange reifRefusesSpec)

/-- ITS FALSE NEIGHBOUR: 'it returns false'. Refute it at one input. -/
def reifRefusesWrong : ChangeSpec := { name := "reifRefuses", fn := fun _ => fun
  | [d1, d2, d3] => { results := [.lit (.bool false)], args := [d1, d2, d3] }
  | _ => none }
def ReifRefusesWrongFalsely : Prop := reifRefusesRow.holds Tryz.pinned (OpenSpec.ofChange reifRefusesWrong)

/-- 'jigsawlaw15.ReifFixed': WHATEVER THE INPUT: true; the input reads as it did. -/
def reifFixedSpec : ChangeSpec := { name := "reifFixed", fn := fun _ => fun
  | [d1, d2, d3] => { results := [.lit (.bool true)], args := [d1, d2, d3] }
  | _ => none }
def reifFixedRow : OpenClaim := { program := "ythdpbmcidebagaagreatdoor", sum := "f02769461ea7d728947ae421378d31b61d17e2ac34ef443921080633f9d5c9f4", func := "jigsaw/jigsawlaw15.ReifFixed", spec := "reifFixed", inPlace := ["internal/bytealg.IndexByteString", "internal/bytealg.IndexString", "internal/bytealg.CountString"], unfollowed := true, recurses := true, named := ["math/bits.deBruijn64tab", "internal/bytealg.MaxLen"], apart := false, laid := [("math/bits.deBruijn64tab", laid_math_bits_deBruijn64tab)] }
def ReifFixedSaid : Prop := reifFixedRow.holds Tryz.pinned (OpenSpec.ofChange reifFixedSpec)

/-- ITS FALSE NEIGHBOUR: 'it returns false'. Refute it at one input. -/
def reifFixedWrong : ChangeSpec := { name := "reifFixed", fn := fun _ => fun
  | [d1, d2, d3] => { results := [.lit (.bool false)], args := [d1, d2, d3] }
  | _ => none }
def ReifFixedWrongFalsely : Prop := reifFixedRow.holds Tryz.pinned (OpenSpec.ofChange reifFixedWrong)

/-- 'jigsawlaw17.TableFilters': WHATEVER THE INPUT: true; the input reads as it did. -/
def tableFiltersSpec : ChangeSpec := { name := "tableFilters", fn := fun _ => fun
  | [d1, d2] => { results := [.lit (.bool true)], args := [d1, d2] }
  | _ => none }
def tableFiltersRow : OpenClaim := { program := "ythdpbmcidebagaagreatdoor", sum := "f02769461ea7d728947ae421378d31b61d17e2ac34ef443921080633f9d5c9f4", func := "jigsaw/jigsawlaw17.TableFilters", spec := "tableFilters", inPlace := ["internal/bytealg.IndexByteString", "internal/bytealg.IndexString", "internal/bytealg.CountString"], unfollowed := true, recurses := true, named := ["math/bits.deBruijn64tab", "internal/bytealg.MaxLen"], apart := false, laid := [("math/bits.deBruijn64tab", laid_math_bits_deBruijn64tab)] }
def TableFiltersSaid : Prop := tableFiltersRow.holds Tryz.pinned (OpenSpec.ofChange tableFiltersSpec)

/-- ITS FALSE NEIGHBOUR: 'it returns false'. Refute it at one input. -/
def tableFiltersWrong : ChangeSpec := { name := "tableFilters", fn := fun _ => fun
  | [d1, d2] => { results := [.lit (.bool false)], args := [d1, d2] }
  | _ => none }
def TableFiltersWrongFalsely : Prop := tableFiltersRow.holds Tryz.pinned (OpenSpec.ofChange tableFiltersWrong)

/-- 'jigsawlaw17.TableRefuses': WHATEVER THE INPUT: true; the input reads as it did. -/
def tableRefusesSpec : ChangeSpec := { name := "tableRefuses", fn := fun _ => fun
  | [d1, d2, d3] => { results := [.lit (.bool true)], args := [d1, d2, d3] }
  | _ => none }
def tableRefusesRow : OpenClaim := { program := "ythdpbmcidebagaagreatdoor", sum := "f02769461ea7d728947ae421378d31b61d17e2ac34ef443921080633f9d5c9f4", func := "jigsaw/jigsawlaw17.TableRefuses", spec := "tableRefuses", inPlace := ["internal/bytealg.IndexByteString", "internal/bytealg.IndexString", "internal/bytealg.CountString"], unfollowed := true, recurses := true, named := ["math/bits.deBruijn64tab", "internal/bytealg.MaxLen"], apart := false, laid := [("math/bits.deBruijn64tab", laid_math_bits_deBruijn64tab)] }
def TableRefusesSaid : Prop := tableRefusesRow.holds Tryz.pinned (OpenSpec.ofChange tableRefusesSpec)

/-- ITS FALSE NEIGHBOUR: 'it returns false'. Refute it at one input. -/
def tableRefusesWrong : ChangeSpec := { name := "tableRefuses", fn := fun _ => fun
  | [d1, d2, d3] => { results := [.lit (.bool false)], args := [d1, d2, d3] }
  | _ => none }
def TableRefusesWrongFalsely : Prop := tableRefusesRow.holds Tryz.pinned (OpenSpec.ofChange tableRefusesWrong)

/-- 'jigsawlaw17.TableKeeps': WHATEVER THE INPUT: true; the input reads as it did. -/
def tableKeepsSpec : ChangeSpec := { name := "tableKeeps", fn := fun _ => fun
  | [d1, d2] => { results := [.lit (.bool true)], args := [d1, d2] }
  | _ => none }
def tableKeepsRow : OpenClaim := { program := "ythdpbmcidebagaagreatdoor", sum := "f02769461ea7d728947ae421378d31b61d17e2ac34ef443921080633f9d5c9f4", func := "jigsaw/jigsawlaw17.TableKeeps", spec := "tableKeeps", inPlace := ["internal/bytealg.IndexByteString", "internal/bytealg.IndexString", "internal/bytealg.CountString"], unfollowed := true, recurses := true, named := ["math/bits.deBruijn64tab", "internal/bytealg.MaxLen"], apart := false, laid := [("math/bits.deBruijn64tab", laid_math_bits_deBruijn64tab)] }
def TableKeepsSaid : Prop := tableKeepsRow.holds Tryz.pinned (OpenSpec.ofChange tableKeepsSpec)

/-- ITS FALSE NEIGHBOUR: 'it returns false'. Refute it at one input. -/
def tableKeepsWrong : ChangeSpec := { name := "tableKeeps", fn := fun _ => fun
  | [d1, d2] => { results := [.lit (.bool false)], args := [d1, d2] }
  | _ => none }
def TableKeepsWrongFalsely : Prop := tableKeepsRow.holds Tryz.pinned (OpenSpec.ofChange tableKeepsWrong)

/-- 'jigsawlaw17.TableFixed': WHATEVER THE INPUT: true; the input reads as it did. -/
def tableFixedSpec : ChangeSpec := { name := "tableFixed", fn := fun _ => fun
  | [d1, d2, d3] => { results := [.lit (.bool true)], args := [d1, d2, d3] }
  | _ => none }
def tableFixedRow : OpenClaim := { program := "ythdpbmcidebagaagreatdoor", sum := "f02769461ea7d728947ae421378d31b61d17e2ac34ef443921080633f9d5c9f4", func := "jigsaw/jigsawlaw17.TableFixed", spec := "tableFixed", inPlace := ["internal/bytealg.IndexByteString", "internal/bytealg.IndexString", "internal/bytealg.CountString"], unfollowed := true, recurses := true, named := ["math/bits.deBruijn64tab", "internal/bytealg.MaxLen"], apart := false, laid := [("math/bits.deBruijn64tab", laid_math_bits_deBruijn64tab)] }
def TableFixedSaid : Prop := tableFixedRow.holds Tryz.pinned (OpenSpec.ofChange tableFixedSpec)

/-- ITS FALSE NEIGHBOUR: 'it returns false'. Refute it at one input. -/
def tableFixedWrong : ChangeSpec := { name := "tableFixed", fn := fun _ => fun
  | [d1, d2, d3] => { results := [.lit (.bool false)], args := [d1, d2, d3] }
  | _ => none }
def TableFixedWrongFalsely : Prop := tableFixedRow.holds Tryz.pinned (OpenSpec.ofChange tableFixedWrong)

/-- 'jigsawlaw15.ReifKeeps': WHATEVER THE INPUT: true; the input reads as it did. -/
def reifKeepsSpec : ChangeSpec := { name := "reifKeeps", fn := fun _ => fun
  | [d1, d2] => { results := [.lit (.bool true)], args := [d1, d2] }
  | _ => none }
def reifKeepsRow : OpenClaim := { program := "ythdpbmcidebagaagreatdoor", sum := "f02769461ea7d728947ae421378d31b61d17e2ac34ef443921080633f9d5c9f4", func := "jigsaw/jigsawlaw15.ReifKeeps", spec := "reifKeeps", inPlace := ["internal/bytealg.IndexByteString", "internal/bytealg.IndexString", "internal/bytealg.CountString"], unfollowed := true, recurses := true, named := ["math/bits.deBruijn64tab", "internal/bytealg.MaxLen"], apart := false, laid := [("math/bits.deBruijn64tab", laid_math_bits_deBruijn64tab)] }
def ReifKeepsSaid : Prop := reifKeepsRow.holds Tryz.pinned (OpenSpec.ofChange reifKeepsSpec)

/-- ITS FALSE NEIGHBOUR: 'it returns false'. Refute it at one input. -/
def reifKeepsWrong : ChangeSpec := { name := "reifKeeps", fn := fun _ => fun
  | [d1, d2] => { results := [.lit (.bool false)], args := [d1, d2] }
  | _ => none }
def ReifKeepsWrongFalsely : Prop := reifKeepsRow.holds Tryz.pinned (OpenSpec.ofChange reifKeepsWrong)

/- THE SECOND FORM. 'bulk': how many values and letters a reading holds, each counted each time it is reached (what is shared counts as often as it is met; a slice's spare places count too). A statement '..UptoSaid' is the law's where the arguments, and the package variables that the reading takes, are together of bulk at most 1048576: NARROWER than '..Said'. Prove '..Said' where nothing that the law and all that it calls make is longer than what came in: it says more and counts as full. Else prove '..UptoSaid'. A law counts once. -/
mutual
def uptoBulk {H : Type} : DataW H → Nat
  | .lit (.string bytes) => bytes.length + 1
  | .lit _ => 1
  | .nil => 1
  | .ptr d => uptoBulk d + 1
  | .slice elems spare => uptoBulkAll elems + uptoBulkAll spare + 1
  | .agg parts => uptoBulkAll parts + 1
  | .iface _ d => uptoBulk d + 1
  | .map entries => uptoBulkEntries entries + 1
  | .held _ => 1
def uptoBulkAll {H : Type} : List (DataW H) → Nat
  | [] => 0
  | d :: r => uptoBulk d + uptoBulkAll r
def uptoBulkEntries {H : Type} : List (Lit × DataW H) → Nat
  | [] => 0
  | x :: r => uptoBulkEntry x + uptoBulkEntries r
def uptoBulkEntry {H : Type} : Lit × DataW H → Nat
  | (.string bytes, d) => bytes.length + uptoBulk d + 1
  | (_, d) => uptoBulk d + 1
 end
def uptoSmall : (H : Type) → List (DataW H) → Bool := fun _ ds => decide (uptoBulkAll ds ≤ 1048576)
def OpenSpec.upto (s : _root_.Go.ChangeSpec) : _root_.Go.OpenSpec := { _root_.Go.OpenSpec.ofChange s with cond := some uptoSmall }

/-- 'jigsawlaw13.ElemFilters', WHERE WHAT IT READS IS OF BULK AT MOST 1048576: true; the input reads as it did. -/
def elemFiltersUptoRow : OpenClaim := { program := "ythdpbmcidebagaagreatdoor", sum := "f02769461ea7d728947ae421378d31b61d17e2ac34ef443921080633f9d5c9f4", func := "jigsaw/jigsawlaw13.ElemFilters", spec := "elemFilters", inPlace := ["internal/bytealg.IndexByteString", "internal/bytealg.IndexString", "internal/bytealg.CountString"], unfollowed := true, recurses := true, named := ["math/bits.deBruijn64tab", "internal/bytealg.MaxLen"], apart := false, laid := [("math/bits.deBruijn64tab", laid_math_bits_deBruijn64tab)], narrowed := true }
def ElemFiltersUptoSaid : Prop := elemFiltersUptoRow.holds Tryz.pinned (OpenSpec.upto elemFiltersSpec)

/-- 'jigsawlaw13.ElemRefuses', WHERE WHAT IT READS IS OF BULK AT MOST 1048576: true; the input reads as it did. -/
def elemRefusesUptoRow : OpenClaim := { program := "ythdpbmcidebagaagreatdoor", sum := "f02769461ea7d728947ae421378d31b61d17e2ac34ef443921080633f9d5c9f4", func := "jigsaw/jigsawlaw13.ElemRefuses", spec := "elemRefuses", inPlace := ["internal/bytealg.IndexByteString", "internal/bytealg.IndexString", "internal/bytealg.CountString"], unfollowed := true, recurses := true, named := ["math/bits.deBruijn64tab", "internal/bytealg.MaxLen"], apart := false, laid := [("math/bits.deBruijn64tab", laid_math_bits_deBruijn64tab)], narrowed := true }
def ElemRefusesUptoSaid : Prop := elemRefusesUptoRow.holds Tryz.pinned (OpenSpec.upto elemRefusesSpec)

/-- 'jigsawlaw13.ElemFixed', WHERE WHAT IT READS IS OF BULK AT MOST 1048576: true; the input reads as it did. -/
def elemFixedUptoRow : OpenClaim := { program := "ythdpbmcidebagaagreatdoor", sum := "f02769461ea7d728947ae421378d31b61d17e2ac34ef443921080633f9d5c9f4", func := "jigsaw/jigsawlaw13.ElemFixed", spec := "elemFixed", inPlace := ["internal/bytealg.IndexByteString", "internal/bytealg.IndexString", "internal/bytealg.CountString"], unfollowed := true, recurses := true, named := ["math/bits.deBruijn64tab", "internal/bytealg.MaxLen"], apart := false, laid := [("math/bits.deBruijn64tab", laid_math_bits_deBruijn64tab)], narrowed := true }
def ElemFixedUptoSaid : Prop := elemFixedUptoRow.holds Tryz.pinned (OpenSpec.upto elemFixedSpec)

/-- 'jigsawlaw13.ElemKeeps', WHERE WHAT IT READS IS OF BULK AT MOST 1048576: true; the input reads as it did. -/
def elemKeepsUptoRow : OpenClaim := { program := "ythdpbmcidebagaagreatdoor", sum := "f02769461ea7d728947ae421378d31b61d17e2ac34ef443921080633f9d5c9f4", func := "jigsaw/jigsawlaw13.ElemKeeps", spec := "elemKeeps", inPlace := ["internal/bytealg.IndexByteString", "internal/bytealg.IndexString", "internal/bytealg.CountString"], unfollowed := true, recurses := true, named := ["math/bits.deBruijn64tab", "internal/bytealg.MaxLen"], apart := false, laid := [("math/bits.deBruijn64tab", laid_math_bits_deBruijn64tab)], narrowed := true }
def ElemKeepsUptoSaid : Prop := elemKeepsUptoRow.holds Tryz.pinned (OpenSpec.upto elemKeepsSpec)

/-- 'jigsawlaw15.ReifFilters', WHERE WHAT IT READS IS OF BULK AT MOST 1048576: true; the input reads as it did. -/
def reifFiltersUptoRow : OpenClaim := { program := "ythdpbmcidebagaagreatdoor", sum := "f02769461ea7d728947ae421378d31b61d17e2ac34ef443921080633f9d5c9f4", func := "jigsaw/jigsawlaw15.ReifFilters", spec := "reifFilters", inPlace := ["internal/bytealg.IndexByteString", "internal/bytealg.IndexString", "internal/bytealg.CountString"], unfollowed := true, recurses := true, named := ["math/bits.deBruijn64tab", "internal/bytealg.MaxLen"], apart := false, laid := [("math/bits.deBruijn64tab", laid_math_bits_deBruijn64tab)], narrowed := true }
def ReifFiltersUptoSaid : Prop := reifFiltersUptoRow.holds Tryz.pinned (OpenSpec.upto reifFiltersSpec)

/-- 'jigsawlaw15.ReifRefuses', WHERE WHAT IT READS IS OF BULK AT MOST 1048576: true; the input reads as it did. -/
def reifRefusesUptoRow : OpenClaim := { program := "ythdpbmcidebagaagreatdoor", sum := "f02769461ea7d728947ae421378d31b61d17e2ac34ef443921080633f9d5c9f4", func := "jigsaw/jigsawlaw15.ReifRefuses", spec := "reifRefuses", inPlace := ["internal/bytealg.IndexByteString", "internal/bytealg.IndexString", "internal/bytealg.CountString"], unfollowed := true, recurses := true, named := ["math/bits.deBruijn64tab", "internal/bytealg.MaxLen"], apart := false, laid := [("math/bits.deBruijn64tab", laid_math_bits_deBruijn64tab)], narrowed := true }
def ReifRefusesUptoSaid : Prop := reifRefusesUptoRow.holds Tryz.pinned (OpenSpec.upto reifRefusesSpec)

/-- 'jigsawlaw15.ReifFixed', WHERE WHAT IT READS IS OF BULK AT MOST 1048576: true; the input reads as it did. -/
def reifFixedUptoRow : OpenClaim := { program := "ythdpbmcidebagaagreatdoor", sum := "f02769461ea7d728947ae421378d31b61d17e2ac34ef443921080633f9d5c9f4", func := "jigsaw/jigsawlaw15.ReifFixed", spec := "reifFixed", inPlace := ["internal/bytealg.IndexByteString", "internal/bytealg.IndexString", "internal/bytealg.CountString"], unfollowed := true, recurses := true, named := ["math/bits.deBruijn64tab", "internal/bytealg.MaxLen"], apart := false, laid := [("math/bits.deBruijn64tab", laid_math_bits_deBruijn64tab)], narrowed := true }
def ReifFixedUptoSaid : Prop := reifFixedUptoRow.holds Tryz.pinned (OpenSpec.upto reifFixedSpec)

/-- 'jigsawlaw17.TableFilters', WHERE WHAT IT READS IS OF BULK AT MOST 1048576: true; the input reads as it did. -/
def tableFiltersUptoRow : OpenClaim := { program := "ythdpbmcidebagaagreatdoor", sum := "f02769461ea7d728947ae421378d31b61d17e2ac34ef443921080633f9d5c9f4", func := "jigsaw/jigsawlaw17.TableFilters", spec := "tableFilters", inPlace := ["internal/bytealg.IndexByteString", "internal/bytealg.IndexString", "internal/bytealg.CountString"], unfollowed := true, recurses := true, named := ["math/bits.deBruijn64tab", "internal/bytealg.MaxLen"], apart := false, laid := [("math/bits.deBruijn64tab", laid_math_bits_deBruijn64tab)], narrowed := true }
def TableFiltersUptoSaid : Prop := tableFiltersUptoRow.holds Tryz.pinned (OpenSpec.upto tableFiltersSpec)

/-- 'jigsawlaw17.TableRefuses', WHERE WHAT IT READS IS OF BULK AT MOST 1048576: true; the input reads as it did. -/
def tableRefusesUptoRow : OpenClaim := { program := "ythdpbmcidebagaagreatdoor", sum := "f02769461ea7d728947ae421378d31b61d17e2ac34ef443921080633f9d5c9f4", func := "jigsaw/jigsawlaw17.TableRefuses", spec := "tableRefuses", inPlace := ["internal/bytealg.IndexByteString", "internal/bytealg.IndexString", "internal/bytealg.CountString"], unfollowed := true, recurses := true, named := ["math/bits.deBruijn64tab", "internal/bytealg.MaxLen"], apart := false, laid := [("math/bits.deBruijn64tab", laid_math_bits_deBruijn64tab)], narrowed := true }
def TableRefusesUptoSaid : Prop := tableRefusesUptoRow.holds Tryz.pinned (OpenSpec.upto tableRefusesSpec)

/-- 'jigsawlaw17.TableKeeps', WHERE WHAT IT READS IS OF BULK AT MOST 1048576: true; the input reads as it did. -/
def tableKeepsUptoRow : OpenClaim := { program := "ythdpbmcidebagaagreatdoor", sum := "f02769461ea7d728947ae421378d31b61d17e2ac34ef443921080633f9d5c9f4", func := "jigsaw/jigsawlaw17.TableKeeps", spec := "tableKeeps", inPlace := ["internal/bytealg.IndexByteString", "internal/bytealg.IndexString", "internal/bytealg.CountString"], unfollowed := true, recurses := true, named := ["math/bits.deBruijn64tab", "internal/bytealg.MaxLen"], apart := false, laid := [("math/bits.deBruijn64tab", laid_math_bits_deBruijn64tab)], narrowed := true }
def TableKeepsUptoSaid : Prop := tableKeepsUptoRow.holds Tryz.pinned (OpenSpec.upto tableKeepsSpec)

/-- 'jigsawlaw17.TableFixed', WHERE WHAT IT READS IS OF BULK AT MOST 1048576: true; the input reads as it did. -/
def tableFixedUptoRow : OpenClaim := { program := "ythdpbmcidebagaagreatdoor", sum := "f02769461ea7d728947ae421378d31b61d17e2ac34ef443921080633f9d5c9f4", func := "jigsaw/jigsawlaw17.TableFixed", spec := "tableFixed", inPlace := ["internal/bytealg.IndexByteString", "internal/bytealg.IndexString", "internal/bytealg.CountString"], unfollowed := true, recurses := true, named := ["math/bits.deBruijn64tab", "internal/bytealg.MaxLen"], apart := false, laid := [("math/bits.deBruijn64tab", laid_math_bits_deBruijn64tab)], narrowed := true }
def TableFixedUptoSaid : Prop := tableFixedUptoRow.holds Tryz.pinned (OpenSpec.upto tableFixedSpec)

/-- 'jigsawlaw15.ReifKeeps', WHERE WHAT IT READS IS OF BULK AT MOST 1048576: true; the input reads as it did. -/
def reifKeepsUptoRow : OpenClaim := { program := "ythdpbmcidebagaagreatdoor", sum := "f02769461ea7d728947ae421378d31b61d17e2ac34ef443921080633f9d5c9f4", func := "jigsaw/jigsawlaw15.ReifKeeps", spec := "reifKeeps", inPlace := ["internal/bytealg.IndexByteString", "internal/bytealg.IndexString", "internal/bytealg.CountString"], unfollowed := true, recurses := true, named := ["math/bits.deBruijn64tab", "internal/bytealg.MaxLen"], apart := false, laid := [("math/bits.deBruijn64tab", laid_math_bits_deBruijn64tab)], narrowed := true }
def ReifKeepsUptoSaid : Prop := reifKeepsUptoRow.holds Tryz.pinned (OpenSpec.upto reifKeepsSpec)

end Rows
end Go.Proofs.YthdpbmcidebagaaGreatDoor
