/-
  NARROWER THAN 'FOR EVERY INPUT', by the rows' own cells (each row's printed sentence says how): TableRows: laid · LexiFilters: laid · LexiRefuses: laid · LexiFixed: laid · LexiKeeps: laid · LexiLong: laid · LinFilters: laid · LinRefuses: laid · LinFixed: laid · LinKeeps: laid · LinWide: laid.
  DERIVED. THE GIVEN ROWS OF THIS SEAT. 11 by the template 'for every input the law returns true; each argument reads behind the call as it read before'; 0 by the template 'total and deterministic' (their statements: YtnojoaghcbljfaaGreatDoorTotals.lean).
  GIVEN WITH THE SEED: the statements are not yours to turn. If you find one false, say at which input.
  Laid BY PROGRAM, IN A SANDBOX (cutbox-rows.mjs): the forced cells as the released guide's own fill.sh prints them over the translation e794d513f04a0412… (all of the seat's roots in one cut). By AI agents, Wed Nov 11 2026. No macro, syntax, notation, axiom, sorry.
-/
import Derived.Test.YtnojoaghcbljfaaGreatDoorChecked
import GoSem.Claim
import GoSem.ClaimJoined
import GoSem.ClaimMapViews
import Derived.JoinedTies
import Derived.KernelRfl
namespace Go.Proofs.YtnojoaghcbljfaaGreatDoor
/- THE CELL 'sum', in the pinned program and in every row, IS THE sha256 OF THE DUMP (.gsa) THAT YtnojoaghcbljfaaGreatDoorProg.lean LOADS. Nothing in Lean hashes anything: it is a label: what it is worth is what the hold of that sum in a sandbox is worth. -/
noncomputable def Tryz.pinned : Pinned := { name := "ytnojoaghcbljfaagreatdoor", sum := "e794d513f04a04125ac995a0dc10ddb18b41a42e3d07bef6aaa0684bdffad7ac", checked := Tryz.checked }
namespace Rows
def none {H : Type} : Left H := { results := [], args := [] }

/- WHAT THE LISTED PACKAGE-LEVEL VARIABLES READ AS WHEN THE CALL BEGINS. Each datum BY PROGRAM (the guide's laid-datum.mjs) off the statement by which the dump's own 'gosem.cut.vars' lays the variable. In a bare row this is a premise. The card (YtnojoaghcbljfaaGreatDoorCards.lean) ties it to the program's text. -/
def laid_math_bits_deBruijn64tab {H : Type} : DataW H := .agg [.lit (.int .u8 0), .lit (.int .u8 1), .lit (.int .u8 56), .lit (.int .u8 2), .lit (.int .u8 57), .lit (.int .u8 49), .lit (.int .u8 28), .lit (.int .u8 3), .lit (.int .u8 61), .lit (.int .u8 58), .lit (.int .u8 42), .lit (.int .u8 50), .lit (.int .u8 38), .lit (.int .u8 29), .lit (.int .u8 17), .lit (.int .u8 4), .lit (.int .u8 62), .lit (.int .u8 47), .lit (.int .u8 59), .lit (.int .u8 36), .lit (.int .u8 45), .lit (.int .u8 43), .lit (.int .u8 51), .lit (.int .u8 22), .lit (.int .u8 53), .lit (.int .u8 39), .lit (.int .u8 33), .lit (.int .u8 30), .lit (.int .u8 24), .lit (.int .u8 18), .lit (.int .u8 12), .lit (.int .u8 5), .lit (.int .u8 63), .lit (.int .u8 55), .lit (.int .u8 48), .lit (.int .u8 27), .lit (.int .u8 60), .lit (.int .u8 41), .lit (.int .u8 37), .lit (.int .u8 16), .lit (.int .u8 46), .lit (.int .u8 35), .lit (.int .u8 44), .lit (.int .u8 21), .lit (.int .u8 52), .lit (.int .u8 32), .lit (.int .u8 23), .lit (.int .u8 11), .lit (.int .u8 54), .lit (.int .u8 26), .lit (.int .u8 40), .lit (.int .u8 15), .lit (.int .u8 34), .lit (.int .u8 20), .lit (.int .u8 31), .lit (.int .u8 10), .lit (.int .u8 25), .lit (.int .u8 14), .lit (.int .u8 19), .lit (.int .u8 9), .lit (.int .u8 13), .lit (.int .u8 8), .lit (.int .u8 7), .lit (.int .u8 6)]

/-- 'jigsawlaw17.TableRows': WHATEVER THE INPUT: true; the input reads as it did. -/
def tableRowsSpec : ChangeSpec := { name := "tableRows", fn := fun _ => fun
  | [d1, d2] => { results := [.lit (.bool true)], args := [d1, d2] }
  | _ => none }
def tableRowsRow : OpenClaim := { program := "ytnojoaghcbljfaagreatdoor", sum := "e794d513f04a04125ac995a0dc10ddb18b41a42e3d07bef6aaa0684bdffad7ac", func := "jigsaw/jigsawlaw17.TableRows", spec := "tableRows", inPlace := ["internal/bytealg.IndexByteString", "internal/bytealg.IndexString", "internal/bytealg.CountString"], unfollowed := true, recurses := true, named := ["math/bits.deBruijn64tab", "internal/bytealg.MaxLen"], apart := false, laid := [("math/bits.deBruijn64tab", laid_math_bits_deBruijn64tab)] }
def TableRowsSaid : Prop := tableRowsRow.holds Tryz.pinned (OpenSpec.ofChange tableRowsSpec)

/-- ITS FALSE NEIGHBOUR: 'it returns false'. Refute it at one input. -/
def tableRowsWrong : ChangeSpec := { name := "tableRows", fn := fun _ => fun
  | [d1, d2] => { results := [.lit (.bool false)], args := [d1, d2] }
  | _ => none }
def TableRowsWrongFalsely : Prop := tableRowsRow.holds Tryz.pinned (OpenSpec.ofChange tableRowsWrong)

/-- 'jigsawlaw21.LexiFilters': WHATEVER THE INPUT: true; the input reads as it did. -/
def lexiFiltersSpec : ChangeSpec := { name := "lexiFilters", fn := fun _ => fun
  | [d1, d2] => { results := [.lit (.bool true)], args := [d1, d2] }
  | _ => none }
def lexiFiltersRow : OpenClaim := { program := "ytnojoaghcbljfaagreatdoor", sum := "e794d513f04a04125ac995a0dc10ddb18b41a42e3d07bef6aaa0684bdffad7ac", func := "jigsaw/jigsawlaw21.LexiFilters", spec := "lexiFilters", inPlace := ["internal/bytealg.IndexByteString", "internal/bytealg.IndexString", "internal/bytealg.CountString"], unfollowed := true, recurses := true, named := ["math/bits.deBruijn64tab", "internal/bytealg.MaxLen"], apart := false, laid := [("math/bits.deBruijn64tab", laid_math_bits_deBruijn64tab)] }
def LexiFiltersSaid : Prop := lexiFiltersRow.holds Tryz.pinned (OpenSpec.ofChange lexiFiltersSpec)

/-- ITS FALSE NEIGHBOUR: 'it returns false'. Refute it at one input. -/
def lexiFiltersWrong : ChangeSpec := { name := "lexiFilters", fn := fun _ => fun
  | [d1, d2] => { results := [.lit (.bool false)], args := [d1, d2] }
  | _ => none }
def LexiFiltersWrongFalsely : Prop := lexiFiltersRow.holds Tryz.pinned (OpenSpec.ofChange lexiFiltersWrong)

/-- 'jigsawlaw21.LexiRefuses': WHATEVER THE INPUT: true; the input reads as it did. -/
def lexiRefusesSpec : ChangeSpec := { name := "lexiRefuses", fn := fun _ => fun
  | [d1, d2, d3] => { results := [.lit (.bool true)], args := [d1, d2, d3] }
  | _ => none }
def lexiRefusesRow : OpenClaim := { program := "ytnojoaghcbljfaagreatdoor", sum := "e794d513f04a04125ac995a0dc10ddb18b41a42e3d07bef6aaa0684bdffad7ac", func := "jigsaw/jigsawlaw21.LexiRefuses", spec := "lexiRefuses", inPlace := ["internal/bytealg.IndexByteString", "internal/bytealg.IndexString", "internal/bytealg.CountString"], unfollowed := true, recurses := true, named := ["math/bits.deBruijn64tab", "internal/bytealg.MaxLen"], apart := false, laid := [("math/bits.deBruijn64tab", laid_math_bits_deBruijn64tab)] }
def LexiRefusesSaid : Prop := lexiRefusesRow.holds Tryz.pinned (OpenSpec.ofChange lexiRefusesSpec)

/-- ITS FALSE NEIGHBOUR: 'it returns false'. Refute it at one input. -/
def lexiRefusesWrong : ChangeSpec := { name := "lexiRefuses", fn := fun _ => fun
  | [d1, d2, d3] => { results := [.lit (.bool false)], args := [d1, d2, d3] }
  | _ => none }
def LexiRefusesWrongFalsely : Prop := lexiRefusesRow.holds Tryz.pinned (OpenSpec.ofChange lexiRefusesWrong)

/-- 'jigsawlaw21.LexiFixed': WHATEVER THE INPUT: true; the input reads as it did. -/
def lexiFixedSpec : ChangeSpec := { name := "lexiFixed", fn := fun _ => fun
  | [d1, d2, d3] => { results := [.lit (.bool true)], args := [d1, d2, d3] }
  | _ => none }
def lexiFixedRow : OpenClaim := { program := "ytnojoaghcbljfaagreatdoor", sum := "e794d513f04a04125ac995a0dc10ddb18b41a42e3d07bef6aaa0684bdffad7ac", func := "jigsaw/jigsawlaw21.LexiFixed", spec := "lexiFixed", inPlace := ["internal/bytealg.IndexByteString", "internal/bytealg.IndexString", "internal/bytealg.CountString"], unfollowed := true, recurses := true, named := ["math/bits.deBruijn64tab", "internal/bytealg.MaxLen"], apart := false, laid := [("math/bits.deBruijn64tab", laid_math_bits_deBruijn64tab)] }
def LexiFixedSaid : Prop := lexiFixedRow.holds Tryz.pinned (OpenSpec.ofChange lexiFixedSpec)

/-- ITS FALSE NEIGHBOUR: 'it returns false'. Refute it at one input. -/
def lexiFixedWrong : ChangeSpec := { name := "lexiFixed", fn := fun _ => fun
  | [d1, d2, d3] => { results := [.lit (.bool false)], args := [d1, d2, d3] }
  | _ => none }
def LexiFixedWrongFalsely : Prop := lexiFixedRow.holds Tryz.pinned (OpenSpec.ofChange lexiFixedWrong)

/-- 'jigsawlaw21.LexiKeeps': WHATEVER THE INPUT: true; the input reads as it did. -/
def lexiKeepsSpec : ChangeSpec := { name := "lexiKeeps", fn := fun _ => fun
  | [d1, d2] => { results := [.lit (.bool true)], args := [d1, d2] }
  | _ => none }
def lexiKeepsRow : OpenClaim := { program := "ytnojoaghcbljfaagreatdoor", sum := "e794d513f04a04125ac995a0dc10ddb18b41a42e3d07bef6aaa0684bdffad7ac", func := "jigsaw/jigsawlaw21.LexiKeeps", spec := "lexiKeeps", inPlace := ["internal/bytealg.IndexByteString", "internal/bytealg.IndexString", "internal/bytealg.CountString"], unfollowed := true, recurses := true, named := ["math/bits.deBruijn64tab", "internal/bytealg.MaxLen"], apart := false, laid := [("math/bits.deBruijn64tab", laid_math_bits_deBruijn64tab)] }
def LexiKeepsSaid : Prop := lexiKeepsRow.holds Tryz.pinned (OpenSpec.ofChange lexiKeepsSpec)

/-- ITS FALSE NEIGHBOUR: 'it returns false'. Refute it at one input. -/
def lexiKeepsWrong : ChangeSpec := { name := "lexiKeeps", fn := fun _ => fun
  | [d1, d2] => { results := [.lit (.bool false)], args := [d1, d2] }
  | _ => none }
def LexiKeepsWrongFalsely : Prop := lexiKeepsRow.holds Tryz.pinned (OpenSpec.ofChange lexiKeepsWrong)

/-- 'jigsawlaw21.LexiLong': WHATEVER THE INPUT: true; the input reads as it did. -/
def lexiLongSpec : ChangeSpec := { name := "lexiLong", fn := fun _ => fun
  | [d] => { results := [.lit (.bool true)], args := [d] }
  | _ => none }
def lexiLongRow : OpenClaim := { program := "ytnojoaghcbljfaagreatdoor", sum := "e794d513f04a04125ac995a0dc10ddb18b41a42e3d07bef6aaa0684bdffad7ac", func := "jigsaw/jigsawlaw21.LexiLong", spec := "lexiLong", inPlace := ["internal/bytealg.IndexByteString", "internal/bytealg.IndexString", "internal/bytealg.CountString"], unfollowed := true, recurses := true, named := ["math/bits.deBruijn64tab", "internal/bytealg.MaxLen"], apart := false, laid := [("math/bits.deBruijn64tab", laid_math_bits_deBruijn64tab)] }
def LexiLongSaid : Prop := lexiLongRow.holds Tryz.pinned (OpenSpec.ofChange lexiLongSpec)

/-- ITS FALSE NEIGHBOUR: 'it returns false'. Refute it at one input. -/
def lexiLongWrong : ChangeSpec := { name := "lexiLong", fn := fun _ => fun
  | [d] => { results := [.lit (.bool false)], args := [d] }
  | _ => none }
def LexiLongWrongFalsely : Prop := lexiLongRow.holds Tryz.pinned (OpenSpec.ofChange lexiLongWrong)

/-- 'jigsawlaw10.LinFilters': WHATEVER THE INPUT: true; the input reads as it did. -/
def linFiltersSpec : ChangeSpec := { name := "linFilters", fn := fun _ => fun
  | [d1, d2] => { results := [.lit (.bool true)], args := [d1, d2] }
  | _ => none }
def linFiltersRow : OpenClaim := { program := "ytnojoaghcbljfaagreatdoor", sum := "e794d513f04a04125ac995a0dc10ddb18b41a42e3d07bef6aaa0684bdffad7ac", func := "jigsaw/jigsawlaw10.LinFilters", spec := "linFilters", inPlace := ["internal/bytealg.IndexByteString", "internal/bytealg.IndexString", "internal/bytealg.CountString"], unfollowed := true, recurses := true, named := ["math/bits.deBruijn64tab", "internal/bytealg.MaxLen"], apart := false, laid := [("math/bits.deBruijn64tab", laid_math_bits_deBruijn64tab)] }
def LinFiltersSaid : Prop := linFiltersRow.holds Tryz.pinned (OpenSpec.ofChange linFiltersSpec)

/-- ITS FALSE NEIGHBOUR: 'it returns false'. Refute it at one input. -/
def linFiltersWrong : ChangeSpec := { name := "linFilters", fn := fun _ => fun
  | [d1, d2] => { results := [.lit (.bool false)], args := [d1, d2] }
  | _ => none }
def LinFiltersWrongFalsely : Prop := linFiltersRow.holds Tryz.pinned (OpenSpec.ofChange linFiltersWrong)

/-- 'jigsawlaw10.LinRefuses': WHATEVER THE INPUT: true; the input reads as it did. -/
def linRefusesSpec : ChangeSpec := { name := "linRefuses", fn := fun _ => fun
  | [d1, d2, d3] => { results := [.lit (.bool true)], args := [d1, d2, d3] }
  | _ => none }
def linRefusesRow : OpenClaim := { program := "ytnojoaghcbljfaagreatdoor", sum := "e794d513f04a04125ac995a0dc10ddb18b41a42e3d07bef6aaa0684bdffad7ac", func := "jigsaw/jigsawlaw10.LinRefuses", spec := "linRefuses", inPlace := ["internal/bytealg.IndexByteString", "internal/bytealg.IndexString", "internal/bytealg.CountString"], unfollowed := true, recurses := true, named := ["math/bits.deBruijn64tab", "internal/bytealg.MaxLen"], apart := false, laid := [("math/bits.deBruijn64tab", laid_math_bits_deBruijn64tab)] }
def LinRefusesSaid : Prop := linRefusesRow.holds Tryz.pinned (OpenSpec.ofChange linRefusesSpec)

/-- ITS FALSE NEIGHBOUR: 'it returns false'. Refute it at one input. -/
def linRefusesWrong : ChangeSpec := { name := "linRefuses", fn := fun _ => fun
  | [d1, d2, d3] => { results := [.lit (.bool false)], args := [d1, d2, d3] }
  | _ => none }
def LinRefusesWrongFalsely : Prop := linRefusesRow.holds Tryz.pinned (OpenSpec.ofChange linRefusesWrong)

/-- 'jigsawlaw10.LinFixed': WHATEVER THE INPUT: true; the input reads as it did. -/
def linFixedSpec : ChangeSpec := { name := "linFixed", fn := fun _ => fun
  | [d1, d2, d3] => { results := [.lit (.bool true)], args := [d1, d2, d3] }
  | _ => none }
def linFixedRow : OpenClaim := { program := "ytnojoaghcbljfaagreatdoor", sum := "e794d513f04a04125ac995a0dc10ddb18b41a42e3d07bef6aaa0684bdffad7ac", func := "jigsaw/jigsawlaw10.LinFixed", spec := "linFixed", inPlace := ["internal/bytealg.IndexByteString", "internal/bytealg.IndexString", "internal/bytealg.CountString"], unfollowed := true, recurses := true, named := ["math/bits.deBruijn64tab", "internal/bytealg.MaxLen"], apart := false, laid := [("math/bits.deBruijn64tab", laid_math_bits_deBruijn64tab)] }
def LinFixedSaid : Prop := linFixedRow.holds Tryz.pinned (OpenSpec.ofChange linFixedSpec)

/-- ITS FALSE NEIGHBOUR: 'it returns false'. Refute it at one input. -/
def linFixedWrong : ChangeSpec := { name := "linFixed", fn := fun _ => fun
  | [d1, d2, d3] => { results := [.lit (.bool false)], args := [d1, d2, d3] }
  | _ => none }
def LinFixedWrongFalsely : Prop := linFixedRow.holds Tryz.pinned (OpenSpec.ofChange linFixedWrong)

/-- 'jigsawlaw10.LinKeeps': WHATEVER THE INPUT: true; the input reads as it did. -/
def linKeepsSpec : ChangeSpec := { name := "linKeeps", fn := fun _ => fun
  | [d1, d2] => { results := [.lit (.bool true)], args := [d1, d2] }
  | _ => none }
def linKeepsRow : OpenClaim := { program := "ytnojoaghcbljfaagreatdoor", sum := "e794d513f04a04125ac995a0dc10ddb18b41a42e3d07bef6aaa0684bdffad7ac", func := "jigsaw/jigsawlaw10.LinKeeps", spec := "linKeeps", inPlace := ["internal/bytealg.IndexByteString", "internal/bytealg.IndexString", "internal/bytealg.CountString"], unfollowed := true, recurses := true, named := ["math/bits.deBruijn64tab", "internal/bytealg.MaxLen"], apart := false, laid := [("math/bits.deBruijn64tab", laid_math_bits_deBruijn64tab)] }
def LinKeepsSaid : Prop := linKeepsRow.holds Tryz.pinned (OpenSpec.ofChange linKeepsSpec)

/-- ITS FALSE NEIGHBOUR: 'it returns false'. Refute it at one input. -/
def linKeepsWrong : ChangeSpec := { name := "linKeeps", fn := fun _ => fun
  | [d1, d2] => { results := [.lit (.bool false)], args := [d1, d2] }
  | _ => none }
def LinKeepsWrongFalsely : Prop := linKeepsRow.holds Tryz.pinned (OpenSpec.ofChange linKeepsWrong)

/-- 'jigsawlaw10.LinWide': WHATEVER THE INPUT: true; the input reads as it did. -/
def linWideSpec : ChangeSpec := { name := "linWide", fn := fun _ => fun
  | [d] => { results := [.lit (.bool true)], args := [d] }
  | _ => none }
def linWideRow : OpenClaim := { program := "ytnojoaghcbljfaagreatdoor", sum := "e794d513f04a04125ac995a0dc10ddb18b41a42e3d07bef6aaa0684bdffad7ac", func := "jigsaw/jigsawlaw10.LinWide", spec := "linWide", inPlace := ["internal/bytealg.IndexByteString", "internal/bytealg.IndexString", "internal/bytealg.CountString"], unfollowed := true, recurses := true, named := ["math/bits.deBruijn64tab", "internal/bytealg.MaxLen"], apart := false, laid := [("math/bits.deBruijn64tab", laid_math_bits_deBruijn64tab)] }
def LinWideSaid : Prop := linWideRow.holds Tryz.pinned (OpenSpec.ofChange linWideSpec)

/-- ITS FALSE NEIGHBOUR: 'it returns false'. Refute it at one input. -/
def linWideWrong : ChangeSpec := { name := "linWide", fn := fun _ => fun
  | [d] => { results := [.lit (.bool false)], args := [d] }
  | _ => none }
def LinWideWrongFalsely : Prop := linWideRow.holds Tryz.pinned (OpenSpec.ofChange linWideWrong)

/- THE SECOND FORM. 'bulk': how many values and letters a reading holds, each counted each time it is reached (what is shared counts as often as it is met; a slice's spare places count too). A statement '..UptoSaid' is the law's where the arguments, and the package variables that the reading takes, are together of bulk at most 1048576: NARROWER than '..Said'. Prove '..Said' where nothing that the law and all that it calls make is longer than what came in: it says more and counts as full. Else prove '..UptoSaid'. A law counts once. -/
mutual
def uptoBulk {H : Type} : DataW H → Nat
  | .lit (.string bytes) => bytes.length + 1
  | .lit _ => 1
  | .nil => 1
  | .ptr d => uptoBulk d + 1
  | .slice elems spare => uptoBulkAll elems + uptoBulkAll spare + 1
  | .agg parts => uptoBulkAll parts + 1
  | .iface _ d => uptoBulk d + 1
  | .map entries => uptoBulkEntries entries + 1
  | .held _ => 1
def uptoBulkAll {H : Type} : List (DataW H) → Nat
  | [] => 0
  | d :: r => uptoBulk d + uptoBulkAll r
def uptoBulkEntries {H : Type} : List (Lit × DataW H) → Nat
  | [] => 0
  | x :: r => uptoBulkEntry x + uptoBulkEntries r
def uptoBulkEntry {H : Type} : Lit × DataW H → Nat
  | (.string bytes, d) => bytes.length + uptoBulk d + 1
  | (_, d) => uptoBulk d + 1
 end
def uptoSmall : (H : Type) → List (DataW H) → Bool := fun _ ds => decide (uptoBulkAll ds ≤ 1048576)
def OpenSpec.upto (s : _root_.Go.ChangeSpec) : _root_.Go.OpenSpec := { _root_.Go.OpenSpec.ofChange s with cond := some uptoSmall }

/-- 'jigsawlaw17.TableRows', WHERE WHAT IT READS IS OF BULK AT MOST 1048576: true; the input reads as it did. -/
def tableRowsUptoRow : OpenClaim := { program := "ytnojoaghcbljfaagreatdoor", sum := "e794d513f04a04125ac995a0dc10ddb18b41a42e3d07bef6aaa0684bdffad7ac", func := "jigsaw/jigsawlaw17.TableRows", spec := "tableRows", inPlace := ["internal/bytealg.IndexByteString", "internal/bytealg.IndexString", "internal/bytealg.CountString"], unfollowed := true, recurses := true, named := ["math/bits.deBruijn64tab", "internal/bytealg.MaxLen"], apart := false, laid := [("math/bits.deBruijn64tab", laid_math_bits_deBruijn64tab)], narrowed := true }
def TableRowsUptoSaid : Prop := tableRowsUptoRow.holds Tryz.pinned (OpenSpec.upto tableRowsSpec)

/-- 'jigsawlaw21.LexiFilters', WHERE WHAT IT READS IS OF BULK AT MOST 1048576: true; the input reads as it did. -/
def lexiFiltersUptoRow : OpenClaim := { program := "ytnojoaghcbljfaagreatdoor", sum := "e794d513f04a04125ac995a0dc10ddb18b41a42e3d07bef6aaa0684bdffad7ac", func := "jigsaw/jigsawlaw21.LexiFilters", spec := "lexiFilters", inPlace := ["internal/bytealg.IndexByteString", "internal/bytealg.IndexString", "internal/bytealg.CountString"], unfollowed := true, recurses := true, named := ["math/bits.deBruijn64tab", "internal/bytealg.MaxLen"], apart := false, laid := [("math/bits.deBruijn64tab", laid_math_bits_deBruijn64tab)], narrowed := true }
def LexiFiltersUptoSaid : Prop := lexiFiltersUptoRow.holds Tryz.pinned (OpenSpec.upto lexiFiltersSpec)

/-- 'jigsawlaw21.LexiRefuses', WHERE WHAT IT READS IS OF BULK AT MOST 1048576: true; the input reads as it did. -/
def lexiRefusesUptoRow : OpenClaim := { program := "ytnojoaghcbljfaagreatdoor", sum := "e794d513f04a04125ac995a0dc10ddb18b41a42e3d07bef6aaa0684bdffad7ac", func := "jigsaw/jigsawlaw21.LexiRefuses", spec := "lexiRefuses", inPlace := ["internal/bytealg.IndexByteString", "internal/bytealg.IndexString", "internal/bytealg.CountString"], unfollowed := true, recurses := true, named := ["math/bits.deBruijn64tab", "internal/bytealg.MaxLen"], apart := false, laid := [("math/bits.deBruijn64tab", laid_math_bits_deBruijn64tab)], narrowed := true }
def LexiRefusesUptoSaid : Prop := lexiRefusesUptoRow.holds Tryz.pinned (OpenSpec.upto lexiRefusesSpec)

/-- 'jigsawlaw21.LexiFixed', WHERE WHAT IT READS IS OF BULK AT MOST 1048576: true; the input reads as it did. -/
def lexiFixedUptoRow : OpenClaim := { program := "ytnojoaghcbljfaagreatdoor", sum := "e794d513f04a04125ac995a0dc10ddb18b41a42e3d07bef6aaa0684bdffad7ac", func := "jigsaw/jigsawlaw21.LexiFixed", spec := "lexiFixed", inPlace := ["internal/bytealg.IndexByteString", "internal/bytealg.IndexString", "internal/bytealg.CountString"], unfollowed := true, recurses := true, named := ["math/bits.deBruijn64tab", "internal/bytealg.MaxLen"], apart := false, laid := [("math/bits.deBruijn64tab", laid_math_bits_deBruijn64tab)], narrowed := true }
def LexiFixedUptoSaid : Prop := lexiFixedUptoRow.holds Tryz.pinned (OpenSpec.upto lexiFixedSpec)

/-- 'jigsawlaw21.LexiKeeps', WHERE WHAT IT READS IS OF BULK AT MOST 1048576: true; the input reads as it did. -/
def lexiKeepsUptoRow : OpenClaim := { program := "ytnojoaghcbljfaagreatdoor", sum := "e794d513f04a04125ac995a0dc10ddb18b41a42e3d07bef6aaa0684bdffad7ac", func := "jigsaw/jigsawlaw21.LexiKeeps", spec := "lexiKeeps", inPlace := ["internal/bytealg.IndexByteString", "internal/bytealg.IndexString", "internal/bytealg.CountString"], unfollowed := true, recurses := true, named := ["math/bits.deBruijn64tab", "internal/bytealg.MaxLen"], apart := false, laid := [("math/bits.deBruijn64tab", laid_math_bits_deBruijn64tab)], narrowed := true }
def LexiKeepsUptoSaid : Prop := lexiKeepsUptoRow.holds Tryz.pinned (OpenSpec.upto lexiKeepsSpec)

/-- 'jigsawlaw21.LexiLong', WHERE WHAT IT READS IS OF BULK AT MOST 1048576: true; the input reads as it did. -/
def lexiLongUptoRow : OpenClaim := { program := "ytnojoaghcbljfaagreatdoor", sum := "e794d513f04a04125ac995a0dc10ddb18b41a42e3d07bef6aaa0684bdffad7ac", func := "jigsaw/jigsawlaw21.LexiLong", spec := "lexiLong", inPlace := ["internal/bytealg.IndexByteString", "internal/bytealg.IndexString", "internal/bytealg.CountString"], unfollowed := true, recurses := true, named := ["math/bits.deBruijn64tab", "internal/bytealg.MaxLen"], apart := false, laid := [("math/bits.deBruijn64tab", laid_math_bits_deBruijn64tab)], narrowed := true }
def LexiLongUptoSaid : Prop := lexiLongUptoRow.holds Tryz.pinned (OpenSpec.upto lexiLongSpec)

/-- 'jigsawlaw10.LinFilters', WHERE WHAT IT READS IS OF BULK AT MOST 1048576: true; the input reads as it did. -/
def linFiltersUptoRow : OpenClaim := { program := "ytnojoaghcbljfaagreatdoor", sum := "e794d513f04a04125ac995a0dc10ddb18b41a42e3d07bef6aaa0684bdffad7ac", func := "jigsaw/jigsawlaw10.LinFilters", spec := "linFilters", inPlace := ["internal/bytealg.IndexByteString", "internal/bytealg.IndexString", "internal/bytealg.CountString"], unfollowed := true, recurses := true, named := ["math/bits.deBruijn64tab", "internal/bytealg.MaxLen"], apart := false, laid := [("math/bits.deBruijn64tab", laid_math_bits_deBruijn64tab)], narrowed := true }
def LinFiltersUptoSaid : Prop := linFiltersUptoRow.holds Tryz.pinned (OpenSpec.upto linFiltersSpec)

/-- 'jigsawlaw10.LinRefuses', WHERE WHAT IT READS IS OF BULK AT MOST 1048576: true; the input reads as it did. -/
def linRefusesUptoRow : OpenClaim := { program := "ytnojoaghcbljfaagreatdoor", sum := "e794d513f04a04125ac995a0dc10ddb18b41a42e3d07bef6aaa0684bdffad7ac", func := "jigsaw/jigsawlaw10.LinRefuses", spec := "linRefuses", inPlace := ["internal/bytealg.IndexByteString", "internal/bytealg.IndexString", "internal/bytealg.CountString"], unfollowed := true, recurses := true, named := ["math/bits.deBruijn64tab", "internal/bytealg.MaxLen"], apart := false, laid := [("math/bits.deBruijn64tab", laid_math_bits_deBruijn64tab)], narrowed := true }
def LinRefusesUptoSaid : Prop := linRefusesUptoRow.holds Tryz.pinned (OpenSpec.upto linRefusesSpec)

/-- 'jigsawlaw10.LinFixed', WHERE WHAT IT READS IS OF BULK AT MOST 1048576: true; the input reads as it did. -/
def linFixedUptoRow : OpenClaim := { program := "ytnojoaghcbljfaagreatdoor", sum := "e794d513f04a04125ac995a0dc10ddb18b41a42e3d07bef6aaa0684bdffad7ac", func := "jigsaw/jigsawlaw10.LinFixed", spec := "linFixed", inPlace := ["internal/bytealg.IndexByteString", "internal/bytealg.IndexString", "internal/bytealg.CountString"], unfollowed := true, recurses := true, named := ["math/bits.deBruijn64tab", "internal/bytealg.MaxLen"], apart := false, laid := [("math/bits.deBruijn64tab", laid_math_bits_deBruijn64tab)], narrowed := true }
def LinFixedUptoSaid : Prop := linFixedUptoRow.holds Tryz.pinned (OpenSpec.upto linFixedSpec)

/-- 'jigsawlaw10.LinKeeps', WHERE WHAT IT READS IS OF BULK AT MOST 1048576: true; the input reads as it did. -/
def linKeepsUptoRow : OpenClaim := { program := "ytnojoaghcbljfaagreatdoor", sum := "e794d513f04a04125ac995a0dc10ddb18b41a42e3d07bef6aaa0684bdffad7ac", func := "jigsaw/jigsawlaw10.LinKeeps", spec := "linKeeps", inPlace := ["internal/bytealg.IndexByteString", "internal/bytealg.IndexString", "internal/bytealg.CountString"], unfollowed := true, recurses := true, named := ["math/bits.deBruijn64tab", "internal/bytealg.MaxLen"], apart := false, laid := [("math/bits.deBruijn64tab", laid_math_bits_deBruijn64tab)], narrowed := true }
def LinKeepsUptoSaid : Prop := linKeepsUptoRow.holds Tryz.pinned (OpenSpec.upto linKeepsSpec)

/-- 'jigsawlaw10.LinWide', WHERE WHAT IT READS IS OF BULK AT MOST 1048576: true; the input reads as it did. -/
def linWideUptoRow : OpenClaim := { program := "ytnojoaghcbljfaagreatdoor", sum := "e794d513f04a04125ac995a0dc10ddb18b41a42e3d07bef6aaa0684bdffad7ac", func := "jigsaw/jigsawlaw10.LinWide", spec := "linWide", inPlace := ["internal/bytealg.IndexByteString", "internal/bytealg.IndexString", "internal/bytealg.CountString"], unfollowed := true, recurses := true, named := ["math/bits.deBruijn64tab", "internal/bytealg.MaxLen"], apart := false, laid := [("math/bits.deBruijn64tab", laid_math_bits_deBruijn64tab)], narrowed := true }
def LinWideUptoSaid : Prop := linWideUptoRow.holds Tryz.pinned (OpenSpec.upto linWideSpec)

end Rows
end Go.Proofs.YtnojoaghcbljfaaGreatDoor
