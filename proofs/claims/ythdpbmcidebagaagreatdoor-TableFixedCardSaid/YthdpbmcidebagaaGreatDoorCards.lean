/-
  DERIVED. GIVEN WITH THE SEED: THE CARDS: each row of YthdpbmcidebagaaGreatDoorRows.lean that lists a variable, with what it lists TIED to the program's text (the seventh form; the later family's looks); each row that meets fmt, with fmt's text TOLD by the authors' own Lean function (tested against real Go, not proved from fmt's source: count such statements apart). THE CARD IS WHAT COUNTS. Prove the row's statement (the work); the ties are given (YthdpbmcidebagaaGreatDoorTie.lean); close each card by the builder's one call (the guide's Derived/Test/ToyasCard.lean, 'card_holds'). Laid BY PROGRAM, IN A SANDBOX (cutbox-door.mjs). By AI agents, Wed Nov 11 2026. No macro, syntax, notation, axiom, sorry.
-/
import Derived.Test.YthdpbmcidebagaaGreatDoorRows
import GoSem.ClaimSeven
namespace Go.Proofs.YthdpbmcidebagaaGreatDoor
namespace Rows

/-- THE TIED CARD OF 'jigsawlaw13.ElemFilters'. -/
def elemFiltersCard : Claim7 := { stood := { row := elemFiltersRow, standIns := [], harness := (true, "dcdceb9f3d0516e448c5cec9f9849504a726d6d3373792668441cb90de3d0619"), looks := false }, kinds := [], alts := [], laidByText := true, laidKinds := [.data], laidTests := true, laidLooks := .later }
def ElemFiltersCardSaid : Prop := Claim7.holds Tryz.pinned (.plain (OpenSpec.ofChange elemFiltersSpec)) elemFiltersCard

/-- THE TIED CARD OF 'jigsawlaw13.ElemRefuses'. -/
def elemRefusesCard : Claim7 := { stood := { row := elemRefusesRow, standIns := [], harness := (true, "dcdceb9f3d0516e448c5cec9f9849504a726d6d3373792668441cb90de3d0619"), looks := false }, kinds := [], alts := [], laidByText := true, laidKinds := [.data], laidTests := true, laidLooks := .later }
def ElemRefusesCardSaid : Prop := Claim7.holds Tryz.pinned (.plain (OpenSpec.ofChange elemRefusesSpec)) elemRefusesCard

/-- THE TIED CARD OF 'jigsawlaw13.ElemFixed'. -/
def elemFixedCard : Claim7 := { stood := { row := elemFixedRow, standIns := [], harness := (true, "dcdceb9f3d0516e448c5cec9f9849504a726d6d3373792668441cb90de3d0619"), looks := false }, kinds := [], alts := [], laidByText := true, laidKinds := [.data], laidTests := true, laidLooks := .later }
def ElemFixedCardSaid : Prop := Claim7.holds Tryz.pinned (.plain (OpenSpec.ofChange elemFixedSpec)) elemFixedCard

/-- THE TIED CARD OF 'jigsawlaw13.ElemKeeps'. -/
def elemKeepsCard : Claim7 := { stood := { row := elemKeepsRow, standIns := [], harness := (true, "dcdceb9f3d0516e448c5cec9f9849504a726d6d3373792668441cb90de3d0619"), looks := false }, kinds := [], alts := [], laidByText := true, laidKinds := [.data], laidTests := true, laidLooks := .later }
def ElemKeepsCardSaid : Prop := Claim7.holds Tryz.pinned (.plain (OpenSpec.ofChange elemKeepsSpec)) elemKeepsCard

/-- THE TIED CARD OF 'jigsawlaw15.ReifFilters'. -/
def reifFiltersCard : Claim7 := { stood := { row := reifFiltersRow, standIns := [], harness := (true, "dcdceb9f3d0516e448c5cec9f9849504a726d6d3373792668441cb90de3d0619"), looks := false }, kinds := [], alts := [], laidByText := true, laidKinds := [.data], laidTests := true, laidLooks := .later }
def ReifFiltersCardSaid : Prop := Claim7.holds Tryz.pinned (.plain (OpenSpec.ofChange reifFiltersSpec)) reifFiltersCard

/-- THE TIED CARD OF 'jigsawlaw15.ReifRefuses'. -/
def reifRefusesCard : Claim7 := { stood := { row := reifRefusesRow, standIns := [], harness := (true, "dcdceb9f3d0516e448c5cec9f9849504a726d6d3373792668441cb90de3d0619"), looks := false }, kinds := [], alts := [], laidByText := true, laidKinds := [.data], laidTests := true, laidLooks := .later }
def ReifRefusesCardSaid : Prop := Claim7.holds Tryz.pinned (.plain (OpenSpec.ofChange reifRefusesSpec)) reifRefusesCard

/-- THE TIED CARD OF 'jigsawlaw15.ReifFixed'. -/
def reifFixedCard : Claim7 := { stood := { row := reifFixedRow, standIns := [], harness := (true, "dcdceb9f3d0516e448c5cec9f9849504a726d6d3373792668441cb90de3d0619"), looks := false }, kinds := [], alts := [], laidByText := true, laidKinds := [.data], laidTests := true, laidLooks := .later }
def ReifFixedCardSaid : Prop := Claim7.holds Tryz.pinned (.plain (OpenSpec.ofChange reifFixedSpec)) reifFixedCard

/-- THE TIED CARD OF 'jigsawlaw17.TableFilters'. -/
def tableFiltersCard : Claim7 := { stood := { row := tableFiltersRow, standIns := [], harness := (true, "dcdceb9f3d0516e448c5cec9f9849504a726d6d3373792668441cb90de3d0619"), looks := false }, kinds := [], alts := [], laidByText := true, laidKinds := [.data], laidTests := true, laidLooks := .later }
def TableFiltersCardSaid : Prop := Claim7.holds Tryz.pinned (.plain (OpenSpec.ofChange tableFiltersSpec)) tableFiltersCard

/-- THE TIED CARD OF 'jigsawlaw17.TableRefuses'. -/
def tableRefusesCard : Claim7 := { stood := { row := tableRefusesRow, standIns := [], harness := (true, "dcdceb9f3d0516e448c5cec9f9849504a726d6d3373792668441cb90de3d0619"), looks := false }, kinds := [], alts := [], laidByText := true, laidKinds := [.data], laidTests := true, laidLooks := .later }
def TableRefusesCardSaid : Prop := Claim7.holds Tryz.pinned (.plain (OpenSpec.ofChange tableRefusesSpec)) tableRefusesCard

/-- THE TIED CARD OF 'jigsawlaw17.TableKeeps'. -/
def tableKeepsCard : Claim7 := { stood := { row := tableKeepsRow, standIns := [], harness := (true, "dcdceb9f3d0516e448c5cec9f9849504a726d6d3373792668441cb90de3d0619"), looks := false }, kinds := [], alts := [], laidByText := true, laidKinds := [.data], laidTests := true, laidLooks := .later }
def TableKeepsCardSaid : Prop := Claim7.holds Tryz.pinned (.plain (OpenSpec.ofChange tableKeepsSpec)) tableKeepsCard

/-- THE TIED CARD OF 'jigsawlaw17.TableFixed'. -/
def tableFixedCard : Claim7 := { stood := { row := tableFixedRow, standIns := [], harness := (true, "dcdceb9f3d0516e448c5cec9f9849504a726d6d3373792668441cb90de3d0619"), looks := false }, kinds := [], alts := [], laidByText := true, laidKinds := [.data], laidTests := true, laidLooks := .later }
def TableFixedCardSaid : Prop := Claim7.holds Tryz.pinned (.plain (OpenSpec.ofChange tableFixedSpec)) tableFixedCard

/-- THE TIED CARD OF 'jigsawlaw15.ReifKeeps'. -/
def reifKeepsCard : Claim7 := { stood := { row := reifKeepsRow, standIns := [], harness := (true, "dcdceb9f3d0516e448c5cec9f9849504a726d6d3373792668441cb90de3d0619"), looks := false }, kinds := [], alts := [], laidByText := true, laidKinds := [.data], laidTests := true, laidLooks := .later }
def ReifKeepsCardSaid : Prop := Claim7.holds Tryz.pinned (.plain (OpenSpec.ofChange reifKeepsSpec)) reifKeepsCard

/-- THE SECOND FORM's CARD OF 'jigsawlaw13.ElemFilters'. -/
def elemFiltersUptoCard : Claim7 := { stood := { row := elemFiltersUptoRow, standIns := [], harness := (true, "dcdceb9f3d0516e448c5cec9f9849504a726d6d3373792668441cb90de3d0619"), looks := false }, kinds := [], alts := [], laidByText := true, laidKinds := [.data], laidTests := true, laidLooks := .later }
def ElemFiltersUptoCardSaid : Prop := Claim7.holds Tryz.pinned (.plain (OpenSpec.upto elemFiltersSpec)) elemFiltersUptoCard

/-- THE SECOND FORM's CARD OF 'jigsawlaw13.ElemRefuses'. -/
def elemRefusesUptoCard : Claim7 := { stood := { row := elemRefusesUptoRow, standIns := [], harness := (true, "dcdceb9f3d0516e448c5cec9f9849504a726d6d3373792668441cb90de3d0619"), looks := false }, kinds := [], alts := [], laidByText := true, laidKinds := [.data], laidTests := true, laidLooks := .later }
def ElemRefusesUptoCardSaid : Prop := Claim7.holds Tryz.pinned (.plain (OpenSpec.upto elemRefusesSpec)) elemRefusesUptoCard

/-- THE SECOND FORM's CARD OF 'jigsawlaw13.ElemFixed'. -/
def elemFixedUptoCard : Claim7 := { stood := { row := elemFixedUptoRow, standIns := [], harness := (true, "dcdceb9f3d0516e448c5cec9f9849504a726d6d3373792668441cb90de3d0619"), looks := false }, kinds := [], alts := [], laidByText := true, laidKinds := [.data], laidTests := true, laidLooks := .later }
def ElemFixedUptoCardSaid : Prop := Claim7.holds Tryz.pinned (.plain (OpenSpec.upto elemFixedSpec)) elemFixedUptoCard

/-- THE SECOND FORM's CARD OF 'jigsawlaw13.ElemKeeps'. -/
def elemKeepsUptoCard : Claim7 := { stood := { row := elemKeepsUptoRow, standIns := [], harness := (true, "dcdceb9f3d0516e448c5cec9f9849504a726d6d3373792668441cb90de3d0619"), looks := false }, kinds := [], alts := [], laidByText := true, laidKinds := [.data], laidTests := true, laidLooks := .later }
def ElemKeepsUptoCardSaid : Prop := Claim7.holds Tryz.pinned (.plain (OpenSpec.upto elemKeepsSpec)) elemKeepsUptoCard

/-- THE SECOND FORM's CARD OF 'jigsawlaw15.ReifFilters'. -/
def reifFiltersUptoCard : Claim7 := { stood := { row := reifFiltersUptoRow, standIns := [], harness := (true, "dcdceb9f3d0516e448c5cec9f9849504a726d6d3373792668441cb90de3d0619"), looks := false }, kinds := [], alts := [], laidByText := true, laidKinds := [.data], laidTests := true, laidLooks := .later }
def ReifFiltersUptoCardSaid : Prop := Claim7.holds Tryz.pinned (.plain (OpenSpec.upto reifFiltersSpec)) reifFiltersUptoCard

/-- THE SECOND FORM's CARD OF 'jigsawlaw15.ReifRefuses'. -/
def reifRefusesUptoCard : Claim7 := { stood := { row := reifRefusesUptoRow, standIns := [], harness := (true, "dcdceb9f3d0516e448c5cec9f9849504a726d6d3373792668441cb90de3d0619"), looks := false }, kinds := [], alts := [], laidByText := true, laidKinds := [.data], laidTests := true, laidLooks := .later }
def ReifRefusesUptoCardSaid : Prop := Claim7.holds Tryz.pinned (.plain (OpenSpec.upto reifRefusesSpec)) reifRefusesUptoCard

/-- THE SECOND FORM's CARD OF 'jigsawlaw15.ReifFixed'. -/
def reifFixedUptoCard : Claim7 := { stood := { row := reifFixedUptoRow, standIns := [], harness := (true, "dcdceb9f3d0516e448c5cec9f9849504a726d6d3373792668441cb90de3d0619"), looks := false }, kinds := [], alts := [], laidByText := true, laidKinds := [.data], laidTests := true, laidLooks := .later }
def ReifFixedUptoCardSaid : Prop := Claim7.holds Tryz.pinned (.plain (OpenSpec.upto reifFixedSpec)) reifFixedUptoCard

/-- THE SECOND FORM's CARD OF 'jigsawlaw17.TableFilters'. -/
def tableFiltersUptoCard : Claim7 := { stood := { row := tableFiltersUptoRow, standIns := [], harness := (true, "dcdceb9f3d0516e448c5cec9f9849504a726d6d3373792668441cb90de3d0619"), looks := false }, kinds := [], alts := [], laidByText := true, laidKinds := [.data], laidTests := true, laidLooks := .later }
def TableFiltersUptoCardSaid : Prop := Claim7.holds Tryz.pinned (.plain (OpenSpec.upto tableFiltersSpec)) tableFiltersUptoCard

/-- THE SECOND FORM's CARD OF 'jigsawlaw17.TableRefuses'. -/
def tableRefusesUptoCard : Claim7 := { stood := { row := tableRefusesUptoRow, standIns := [], harness := (true, "dcdceb9f3d0516e448c5cec9f9849504a726d6d3373792668441cb90de3d0619"), looks := false }, kinds := [], alts := [], laidByText := true, laidKinds := [.data], laidTests := true, laidLooks := .later }
def TableRefusesUptoCardSaid : Prop := Claim7.holds Tryz.pinned (.plain (OpenSpec.upto tableRefusesSpec)) tableRefusesUptoCard

/-- THE SECOND FORM's CARD OF 'jigsawlaw17.TableKeeps'. -/
def tableKeepsUptoCard : Claim7 := { stood := { row := tableKeepsUptoRow, standIns := [], harness := (true, "dcdceb9f3d0516e448c5cec9f9849504a726d6d3373792668441cb90de3d0619"), looks := false }, kinds := [], alts := [], laidByText := true, laidKinds := [.data], laidTests := true, laidLooks := .later }
def TableKeepsUptoCardSaid : Prop := Claim7.holds Tryz.pinned (.plain (OpenSpec.upto tableKeepsSpec)) tableKeepsUptoCard

/-- THE SECOND FORM's CARD OF 'jigsawlaw17.TableFixed'. -/
def tableFixedUptoCard : Claim7 := { stood := { row := tableFixedUptoRow, standIns := [], harness := (true, "dcdceb9f3d0516e448c5cec9f9849504a726d6d3373792668441cb90de3d0619"), looks := false }, kinds := [], alts := [], laidByText := true, laidKinds := [.data], laidTests := true, laidLooks := .later }
def TableFixedUptoCardSaid : Prop := Claim7.holds Tryz.pinned (.plain (OpenSpec.upto tableFixedSpec)) tableFixedUptoCard

/-- THE SECOND FORM's CARD OF 'jigsawlaw15.ReifKeeps'. -/
def reifKeepsUptoCard : Claim7 := { stood := { row := reifKeepsUptoRow, standIns := [], harness := (true, "dcdceb9f3d0516e448c5cec9f9849504a726d6d3373792668441cb90de3d0619"), looks := false }, kinds := [], alts := [], laidByText := true, laidKinds := [.data], laidTests := true, laidLooks := .later }
def ReifKeepsUptoCardSaid : Prop := Claim7.holds Tryz.pinned (.plain (OpenSpec.upto reifKeepsSpec)) reifKeepsUptoCard
end Rows
end Go.Proofs.YthdpbmcidebagaaGreatDoor
