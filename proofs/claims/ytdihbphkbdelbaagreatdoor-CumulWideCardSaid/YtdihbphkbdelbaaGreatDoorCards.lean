/-
  DERIVED. GIVEN WITH THE SEED: THE CARDS: each row of YtdihbphkbdelbaaGreatDoorRows.lean that lists a variable, with what it lists TIED to the program's text (the seventh form; the later family's looks); each row that meets fmt, with fmt's text TOLD by the authors' own Lean function (tested against real Go, not proved from fmt's source: count such statements apart). THE CARD IS WHAT COUNTS. Prove the row's statement (the work); the ties are given (YtdihbphkbdelbaaGreatDoorTie.lean); close each card by the builder's one call (the guide's Derived/Test/ToyasCard.lean, 'card_holds'). Laid BY PROGRAM, IN A SANDBOX (cutbox-door.mjs). By AI agents, Wed Nov 11 2026. No macro, syntax, notation, axiom, sorry.
-/
import Derived.Test.YtdihbphkbdelbaaGreatDoorRows
import GoSem.ClaimSeven
namespace Go.Proofs.YtdihbphkbdelbaaGreatDoor
namespace Rows

/-- THE TIED CARD OF 'jigsawlaw06.ModelMany'. -/
def modelManyCard : Claim7 := { stood := { row := modelManyRow, standIns := [], harness := (true, "019347f2bfe231d692d2095d9155a4b649fad1bce218f68f6ba5e951087a3a3f"), looks := false }, kinds := [], alts := [], laidByText := true, laidKinds := [.data], laidTests := true, laidLooks := .later }
def ModelManyCardSaid : Prop := Claim7.holds Tryz.pinned (.plain (OpenSpec.ofChange modelManySpec)) modelManyCard

/-- THE TIED CARD OF 'jigsawlaw06.ModelChecks'. -/
def modelChecksCard : Claim7 := { stood := { row := modelChecksRow, standIns := [], harness := (true, "019347f2bfe231d692d2095d9155a4b649fad1bce218f68f6ba5e951087a3a3f"), looks := false }, kinds := [], alts := [], laidByText := true, laidKinds := [.data], laidTests := true, laidLooks := .later }
def ModelChecksCardSaid : Prop := Claim7.holds Tryz.pinned (.plain (OpenSpec.ofChange modelChecksSpec)) modelChecksCard

/-- THE TIED CARD OF 'jigsawlaw06.ModelEqual'. -/
def modelEqualCard : Claim7 := { stood := { row := modelEqualRow, standIns := [], harness := (true, "019347f2bfe231d692d2095d9155a4b649fad1bce218f68f6ba5e951087a3a3f"), looks := false }, kinds := [], alts := [], laidByText := true, laidKinds := [.data], laidTests := true, laidLooks := .later }
def ModelEqualCardSaid : Prop := Claim7.holds Tryz.pinned (.plain (OpenSpec.ofChange modelEqualSpec)) modelEqualCard

/-- THE TIED CARD OF 'jigsawlaw09.GroundSolves'. -/
def groundSolvesCard : Claim7 := { stood := { row := groundSolvesRow, standIns := [], harness := (true, "019347f2bfe231d692d2095d9155a4b649fad1bce218f68f6ba5e951087a3a3f"), looks := false }, kinds := [], alts := [], laidByText := true, laidKinds := [.data], laidTests := true, laidLooks := .later }
def GroundSolvesCardSaid : Prop := Claim7.holds Tryz.pinned (.plain (OpenSpec.ofChange groundSolvesSpec)) groundSolvesCard

/-- THE TIED CARD OF 'jigsawlaw18.CumulFilters'. -/
def cumulFiltersCard : Claim7 := { stood := { row := cumulFiltersRow, standIns := [], harness := (true, "019347f2bfe231d692d2095d9155a4b649fad1bce218f68f6ba5e951087a3a3f"), looks := false }, kinds := [], alts := [], laidByText := true, laidKinds := [.data], laidTests := true, laidLooks := .later }
def CumulFiltersCardSaid : Prop := Claim7.holds Tryz.pinned (.plain (OpenSpec.ofChange cumulFiltersSpec)) cumulFiltersCard

/-- THE TIED CARD OF 'jigsawlaw18.CumulRefuses'. -/
def cumulRefusesCard : Claim7 := { stood := { row := cumulRefusesRow, standIns := [], harness := (true, "019347f2bfe231d692d2095d9155a4b649fad1bce218f68f6ba5e951087a3a3f"), looks := false }, kinds := [], alts := [], laidByText := true, laidKinds := [.data], laidTests := true, laidLooks := .later }
def CumulRefusesCardSaid : Prop := Claim7.holds Tryz.pinned (.plain (OpenSpec.ofChange cumulRefusesSpec)) cumulRefusesCard

/-- THE TIED CARD OF 'jigsawlaw18.CumulFixed'. -/
def cumulFixedCard : Claim7 := { stood := { row := cumulFixedRow, standIns := [], harness := (true, "019347f2bfe231d692d2095d9155a4b649fad1bce218f68f6ba5e951087a3a3f"), looks := false }, kinds := [], alts := [], laidByText := true, laidKinds := [.data], laidTests := true, laidLooks := .later }
def CumulFixedCardSaid : Prop := Claim7.holds Tryz.pinned (.plain (OpenSpec.ofChange cumulFixedSpec)) cumulFixedCard

/-- THE TIED CARD OF 'jigsawlaw18.CumulKeeps'. -/
def cumulKeepsCard : Claim7 := { stood := { row := cumulKeepsRow, standIns := [], harness := (true, "019347f2bfe231d692d2095d9155a4b649fad1bce218f68f6ba5e951087a3a3f"), looks := false }, kinds := [], alts := [], laidByText := true, laidKinds := [.data], laidTests := true, laidLooks := .later }
def CumulKeepsCardSaid : Prop := Claim7.holds Tryz.pinned (.plain (OpenSpec.ofChange cumulKeepsSpec)) cumulKeepsCard

/-- THE TIED CARD OF 'jigsawlaw18.CumulWide'. -/
def cumulWideCard : Claim7 := { stood := { row := cumulWideRow, standIns := [], harness := (true, "019347f2bfe231d692d2095d9155a4b649fad1bce218f68f6ba5e951087a3a3f"), looks := false }, kinds := [], alts := [], laidByText := true, laidKinds := [.data], laidTests := true, laidLooks := .later }
def CumulWideCardSaid : Prop := Claim7.holds Tryz.pinned (.plain (OpenSpec.ofChange cumulWideSpec)) cumulWideCard

/-- THE SECOND FORM's CARD OF 'jigsawlaw06.ModelMany'. -/
def modelManyUptoCard : Claim7 := { stood := { row := modelManyUptoRow, standIns := [], harness := (true, "019347f2bfe231d692d2095d9155a4b649fad1bce218f68f6ba5e951087a3a3f"), looks := false }, kinds := [], alts := [], laidByText := true, laidKinds := [.data], laidTests := true, laidLooks := .later }
def ModelManyUptoCardSaid : Prop := Claim7.holds Tryz.pinned (.plain (OpenSpec.upto modelManySpec)) modelManyUptoCard

/-- THE SECOND FORM's CARD OF 'jigsawlaw06.ModelChecks'. -/
def modelChecksUptoCard : Claim7 := { stood := { row := modelChecksUptoRow, standIns := [], harness := (true, "019347f2bfe231d692d2095d9155a4b649fad1bce218f68f6ba5e951087a3a3f"), looks := false }, kinds := [], alts := [], laidByText := true, laidKinds := [.data], laidTests := true, laidLooks := .later }
def ModelChecksUptoCardSaid : Prop := Claim7.holds Tryz.pinned (.plain (OpenSpec.upto modelChecksSpec)) modelChecksUptoCard

/-- THE SECOND FORM's CARD OF 'jigsawlaw06.ModelEqual'. -/
def modelEqualUptoCard : Claim7 := { stood := { row := modelEqualUptoRow, standIns := [], harness := (true, "019347f2bfe231d692d2095d9155a4b649fad1bce218f68f6ba5e951087a3a3f"), looks := false }, kinds := [], alts := [], laidByText := true, laidKinds := [.data], laidTests := true, laidLooks := .later }
def ModelEqualUptoCardSaid : Prop := Claim7.holds Tryz.pinned (.plain (OpenSpec.upto modelEqualSpec)) modelEqualUptoCard

/-- THE SECOND FORM's CARD OF 'jigsawlaw09.GroundSolves'. -/
def groundSolvesUptoCard : Claim7 := { stood := { row := groundSolvesUptoRow, standIns := [], harness := (true, "019347f2bfe231d692d2095d9155a4b649fad1bce218f68f6ba5e951087a3a3f"), looks := false }, kinds := [], alts := [], laidByText := true, laidKinds := [.data], laidTests := true, laidLooks := .later }
def GroundSolvesUptoCardSaid : Prop := Claim7.holds Tryz.pinned (.plain (OpenSpec.upto groundSolvesSpec)) groundSolvesUptoCard

/-- THE SECOND FORM's CARD OF 'jigsawlaw18.CumulFilters'. -/
def cumulFiltersUptoCard : Claim7 := { stood := { row := cumulFiltersUptoRow, standIns := [], harness := (true, "019347f2bfe231d692d2095d9155a4b649fad1bce218f68f6ba5e951087a3a3f"), looks := false }, kinds := [], alts := [], laidByText := true, laidKinds := [.data], laidTests := true, laidLooks := .later }
def CumulFiltersUptoCardSaid : Prop := Claim7.holds Tryz.pinned (.plain (OpenSpec.upto cumulFiltersSpec)) cumulFiltersUptoCard

/-- THE SECOND FORM's CARD OF 'jigsawlaw18.CumulRefuses'. -/
def cumulRefusesUptoCard : Claim7 := { stood := { row := cumulRefusesUptoRow, standIns := [], harness := (true, "019347f2bfe231d692d2095d9155a4b649fad1bce218f68f6ba5e951087a3a3f"), looks := false }, kinds := [], alts := [], laidByText := true, laidKinds := [.data], laidTests := true, laidLooks := .later }
def CumulRefusesUptoCardSaid : Prop := Claim7.holds Tryz.pinned (.plain (OpenSpec.upto cumulRefusesSpec)) cumulRefusesUptoCard

/-- THE SECOND FORM's CARD OF 'jigsawlaw18.CumulFixed'. -/
def cumulFixedUptoCard : Claim7 := { stood := { row := cumulFixedUptoRow, standIns := [], harness := (true, "019347f2bfe231d692d2095d9155a4b649fad1bce218f68f6ba5e951087a3a3f"), looks := false }, kinds := [], alts := [], laidByText := true, laidKinds := [.data], laidTests := true, laidLooks := .later }
def CumulFixedUptoCardSaid : Prop := Claim7.holds Tryz.pinned (.plain (OpenSpec.upto cumulFixedSpec)) cumulFixedUptoCard

/-- THE SECOND FORM's CARD OF 'jigsawlaw18.CumulKeeps'. -/
def cumulKeepsUptoCard : Claim7 := { stood := { row := cumulKeepsUptoRow, standIns := [], harness := (true, "019347f2bfe231d692d2095d9155a4b649fad1bce218f68f6ba5e951087a3a3f"), looks := false }, kinds := [], alts := [], laidByText := true, laidKinds := [.data], laidTests := true, laidLooks := .later }
def CumulKeepsUptoCardSaid : Prop := Claim7.holds Tryz.pinned (.plain (OpenSpec.upto cumulKeepsSpec)) cumulKeepsUptoCard

/-- THE SECOND FORM's CARD OF 'jigsawlaw18.CumulWide'. -/
def cumulWideUptoCard : Claim7 := { stood := { row := cumulWideUptoRow, standIns := [], harness := (true, "019347f2bfe231d692d2095d9155a4b649fad1bce218f68f6ba5e951087a3a3f"), looks := false }, kinds := [], alts := [], laidByText := true, laidKinds := [.data], laidTests := true, laidLooks := .later }
def CumulWideUptoCardSaid : Prop := Claim7.holds Tryz.pinned (.plain (OpenSpec.upto cumulWideSpec)) cumulWideUptoCard
end Rows
end Go.Proofs.YtdihbphkbdelbaaGreatDoor
