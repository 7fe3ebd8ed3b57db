/-
  DERIVED. GIVEN WITH THE SEED: THE CARDS: each row of YtlfdikofmfhefaaGreatDoorRows.lean that lists a variable, with what it lists TIED to the program's text (the seventh form; the later family's looks); each row that meets fmt, with fmt's text TOLD by the authors' own Lean function (tested against real Go, not proved from fmt's source: count such statements apart). THE CARD IS WHAT COUNTS. Prove the row's statement (the work); the ties are given (YtlfdikofmfhefaaGreatDoorTie.lean); close each card by the builder's one call (the guide's Derived/Test/ToyasCard.lean, 'card_holds'). Laid BY PROGRAM, IN A SANDBOX (cutbox-door.mjs). By AI agents, Wed Nov 11 2026. No macro, syntax, notation, axiom, sorry.
-/
import Derived.Test.YtlfdikofmfhefaaGreatDoorRows
import GoSem.ClaimSeven
namespace Go.Proofs.YtlfdikofmfhefaaGreatDoor
namespace Rows

/-- THE TIED CARD OF 'jigsawlaw06.ModelMany'. -/
def modelManyCard : Claim7 := { stood := { row := modelManyRow, standIns := [], harness := (true, "1bca59836b9da06c1aecfb1a1f1373f180e66e1422bd8bf72428928e20b55a19"), looks := false }, kinds := [], alts := [], laidByText := true, laidKinds := [.data], laidTests := true, laidLooks := .later }
def ModelManyCardSaid : Prop := Claim7.holds Tryz.pinned (.plain (OpenSpec.ofChange modelManySpec)) modelManyCard

/-- THE TIED CARD OF 'jigsawlaw06.ModelChecks'. -/
def modelChecksCard : Claim7 := { stood := { row := modelChecksRow, standIns := [], harness := (true, "1bca59836b9da06c1aecfb1a1f1373f180e66e1422bd8bf72428928e20b55a19"), looks := false }, kinds := [], alts := [], laidByText := true, laidKinds := [.data], laidTests := true, laidLooks := .later }
def ModelChecksCardSaid : Prop := Claim7.holds Tryz.pinned (.plain (OpenSpec.ofChange modelChecksSpec)) modelChecksCard

/-- THE TIED CARD OF 'jigsawlaw06.ModelEqual'. -/
def modelEqualCard : Claim7 := { stood := { row := modelEqualRow, standIns := [], harness := (true, "1bca59836b9da06c1aecfb1a1f1373f180e66e1422bd8bf72428928e20b55a19"), looks := false }, kinds := [], alts := [], laidByText := true, laidKinds := [.data], laidTests := true, laidLooks := .later }
def ModelEqualCardSaid : Prop := Claim7.holds Tryz.pinned (.plain (OpenSpec.ofChange modelEqualSpec)) modelEqualCard

/-- THE TIED CARD OF 'jigsawlaw09.GroundSolves'. -/
def groundSolvesCard : Claim7 := { stood := { row := groundSolvesRow, standIns := [], harness := (true, "1bca59836b9da06c1aecfb1a1f1373f180e66e1422bd8bf72428928e20b55a19"), looks := false }, kinds := [], alts := [], laidByText := true, laidKinds := [.data], laidTests := true, laidLooks := .later }
def GroundSolvesCardSaid : Prop := Claim7.holds Tryz.pinned (.plain (OpenSpec.ofChange groundSolvesSpec)) groundSolvesCard

/-- THE SECOND FORM's CARD OF 'jigsawlaw06.ModelMany'. -/
def modelManyUptoCard : Claim7 := { stood := { row := modelManyUptoRow, standIns := [], harness := (true, "1bca59836b9da06c1aecfb1a1f1373f180e66e1422bd8bf72428928e20b55a19"), looks := false }, kinds := [], alts := [], laidByText := true, laidKinds := [.data], laidTests := true, laidLooks := .later }
def ModelManyUptoCardSaid : Prop := Claim7.holds Tryz.pinned (.plain (OpenSpec.upto modelManySpec)) modelManyUptoCard

/-- THE SECOND FORM's CARD OF 'jigsawlaw06.ModelChecks'. -/
def modelChecksUptoCard : Claim7 := { stood := { row := modelChecksUptoRow, standIns := [], harness := (true, "1bca59836b9da06c1aecfb1a1f1373f180e66e1422bd8bf72428928e20b55a19"), looks := false }, kinds := [], alts := [], laidByText := true, laidKinds := [.data], laidTests := true, laidLooks := .later }
def ModelChecksUptoCardSaid : Prop := Claim7.holds Tryz.pinned (.plain (OpenSpec.upto modelChecksSpec)) modelChecksUptoCard

/-- THE SECOND FORM's CARD OF 'jigsawlaw06.ModelEqual'. -/
def modelEqualUptoCard : Claim7 := { stood := { row := modelEqualUptoRow, standIns := [], harness := (true, "1bca59836b9da06c1aecfb1a1f1373f180e66e1422bd8bf72428928e20b55a19"), looks := false }, kinds := [], alts := [], laidByText := true, laidKinds := [.data], laidTests := true, laidLooks := .later }
def ModelEqualUptoCardSaid : Prop := Claim7.holds Tryz.pinned (.plain (OpenSpec.upto modelEqualSpec)) modelEqualUptoCard

/-- THE SECOND FORM's CARD OF 'jigsawlaw09.GroundSolves'. -/
def groundSolvesUptoCard : Claim7 := { stood := { row := groundSolvesUptoRow, standIns := [], harness := (true, "1bca59836b9da06c1aecfb1a1f1373f180e66e1422bd8bf72428928e20b55a19"), looks := false }, kinds := [], alts := [], laidByText := true, laidKinds := [.data], laidTests := true, laidLooks := .later }
def GroundSolvesUptoCardSaid : Prop := Claim7.holds Tryz.pinned (.plain (OpenSpec.upto groundSolvesSpec)) groundSolvesUptoCard
end Rows
end Go.Proofs.YtlfdikofmfhefaaGreatDoor
