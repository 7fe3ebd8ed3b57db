/-
  DERIVED. GIVEN WITH THE SEED: THE CARDS: each row of YtnojoaghcbljfaaGreatDoorRows.lean that lists a variable, with what it lists TIED to the program's text (the seventh form; the later family's looks); each row that meets fmt, with fmt's text TOLD by the authors' own Lean function (tested against real Go, not proved from fmt's source: count such statements apart). THE CARD IS WHAT COUNTS. Prove the row's statement (the work); the ties are given (YtnojoaghcbljfaaGreatDoorTie.lean); close each card by the builder's one call (the guide's Derived/Test/ToyasCard.lean, 'card_holds'). Laid BY PROGRAM, IN A SANDBOX (cutbox-door.mjs). By AI agents, Wed Nov 11 2026. No macro, syntax, notation, axiom, sorry.
-/
import Derived.Test.YtnojoaghcbljfaaGreatDoorRows
import GoSem.ClaimSeven
namespace Go.Proofs.YtnojoaghcbljfaaGreatDoor
namespace Rows

/-- THE TIED CARD OF 'jigsawlaw17.TableRows'. -/
def tableRowsCard : Claim7 := { stood := { row := tableRowsRow, standIns := [], harness := (true, "beb151bdef79d0c70f5b23f184d067cc2b94f4b2f2574069eacd1f0ddeb2924f"), looks := false }, kinds := [], alts := [], laidByText := true, laidKinds := [.data], laidTests := true, laidLooks := .later }
def TableRowsCardSaid : Prop := Claim7.holds Tryz.pinned (.plain (OpenSpec.ofChange tableRowsSpec)) tableRowsCard

/-- THE TIED CARD OF 'jigsawlaw21.LexiFilters'. -/
def lexiFiltersCard : Claim7 := { stood := { row := lexiFiltersRow, standIns := [], harness := (true, "beb151bdef79d0c70f5b23f184d067cc2b94f4b2f2574069eacd1f0ddeb2924f"), looks := false }, kinds := [], alts := [], laidByText := true, laidKinds := [.data], laidTests := true, laidLooks := .later }
def LexiFiltersCardSaid : Prop := Claim7.holds Tryz.pinned (.plain (OpenSpec.ofChange lexiFiltersSpec)) lexiFiltersCard

/-- THE TIED CARD OF 'jigsawlaw21.LexiRefuses'. -/
def lexiRefusesCard : Claim7 := { stood := { row := lexiRefusesRow, standIns := [], harness := (true, "beb151bdef79d0c70f5b23f184d067cc2b94f4b2f2574069eacd1f0ddeb2924f"), looks := false }, kinds := [], alts := [], laidByText := true, laidKinds := [.data], laidTests := true, laidLooks := .later }
def LexiRefusesCardSaid : Prop := Claim7.holds Tryz.pinned (.plain (OpenSpec.ofChange lexiRefusesSpec)) lexiRefusesCard

/-- THE TIED CARD OF 'jigsawlaw21.LexiFixed'. -/
def lexiFixedCard : Claim7 := { stood := { row := lexiFixedRow, standIns := [], harness := (true, "beb151bdef79d0c70f5b23f184d067cc2b94f4b2f2574069eacd1f0ddeb2924f"), looks := false }, kinds := [], alts := [], laidByText := true, laidKinds := [.data], laidTests := true, laidLooks := .later }
def LexiFixedCardSaid : Prop := Claim7.holds Tryz.pinned (.plain (OpenSpec.ofChange lexiFixedSpec)) lexiFixedCard

/-- THE TIED CARD OF 'jigsawlaw21.LexiKeeps'. -/
def lexiKeepsCard : Claim7 := { stood := { row := lexiKeepsRow, standIns := [], harness := (true, "beb151bdef79d0c70f5b23f184d067cc2b94f4b2f2574069eacd1f0ddeb2924f"), looks := false }, kinds := [], alts := [], laidByText := true, laidKinds := [.data], laidTests := true, laidLooks := .later }
def LexiKeepsCardSaid : Prop := Claim7.holds Tryz.pinned (.plain (OpenSpec.ofChange lexiKeepsSpec)) lexiKeepsCard

/-- THE TIED CARD OF 'jigsawlaw21.LexiLong'. -/
def lexiLongCard : Claim7 := { stood := { row := lexiLongRow, standIns := [], harness := (true, "beb151bdef79d0c70f5b23f184d067cc2b94f4b2f2574069eacd1f0ddeb2924f"), looks := false }, kinds := [], alts := [], laidByText := true, laidKinds := [.data], laidTests := true, laidLooks := .later }
def LexiLongCardSaid : Prop := Claim7.holds Tryz.pinned (.plain (OpenSpec.ofChange lexiLongSpec)) lexiLongCard

/-- THE TIED CARD OF 'jigsawlaw10.LinFilters'. -/
def linFiltersCard : Claim7 := { stood := { row := linFiltersRow, standIns := [], harness := (true, "beb151bdef79d0c70f5b23f184d067cc2b94f4b2f2574069eacd1f0ddeb2924f"), looks := false }, kinds := [], alts := [], laidByText := true, laidKinds := [.data], laidTests := true, laidLooks := .later }
def LinFiltersCardSaid : Prop := Claim7.holds Tryz.pinned (.plain (OpenSpec.ofChange linFiltersSpec)) linFiltersCard

/-- THE TIED CARD OF 'jigsawlaw10.LinRefuses'. -/
def linRefusesCard : Claim7 := { stood := { row := linRefusesRow, standIns := [], harness := (true, "beb151bdef79d0c70f5b23f184d067cc2b94f4b2f2574069eacd1f0ddeb2924f"), looks := false }, kinds := [], alts := [], laidByText := true, laidKinds := [.data], laidTests := true, laidLooks := .later }
def LinRefusesCardSaid : Prop := Claim7.holds Tryz.pinned (.plain (OpenSpec.ofChange linRefusesSpec)) linRefusesCard

/-- THE TIED CARD OF 'jigsawlaw10.LinFixed'. -/
def linFixedCard : Claim7 := { stood := { row := linFixedRow, standIns := [], harness := (true, "beb151bdef79d0c70f5b23f184d067cc2b94f4b2f2574069eacd1f0ddeb2924f"), looks := false }, kinds := [], alts := [], laidByText := true, laidKinds := [.data], laidTests := true, laidLooks := .later }
def LinFixedCardSaid : Prop := Claim7.holds Tryz.pinned (.plain (OpenSpec.ofChange linFixedSpec)) linFixedCard

/-- THE TIED CARD OF 'jigsawlaw10.LinKeeps'. -/
def linKeepsCard : Claim7 := { stood := { row := linKeepsRow, standIns := [], harness := (true, "beb151bdef79d0c70f5b23f184d067cc2b94f4b2f2574069eacd1f0ddeb2924f"), looks := false }, kinds := [], alts := [], laidByText := true, laidKinds := [.data], laidTests := true, laidLooks := .later }
def LinKeepsCardSaid : Prop := Claim7.holds Tryz.pinned (.plain (OpenSpec.ofChange linKeepsSpec)) linKeepsCard

/-- THE TIED CARD OF 'jigsawlaw10.LinWide'. -/
def linWideCard : Claim7 := { stood := { row := linWideRow, standIns := [], harness := (true, "beb151bdef79d0c70f5b23f184d067cc2b94f4b2f2574069eacd1f0ddeb2924f"), looks := false }, kinds := [], alts := [], laidByText := true, laidKinds := [.data], laidTests := true, laidLooks := .later }
def LinWideCardSaid : Prop := Claim7.holds Tryz.pinned (.plain (OpenSpec.ofChange linWideSpec)) linWideCard

/-- THE SECOND FORM's CARD OF 'jigsawlaw17.TableRows'. -/
def tableRowsUptoCard : Claim7 := { stood := { row := tableRowsUptoRow, standIns := [], harness := (true, "beb151bdef79d0c70f5b23f184d067cc2b94f4b2f2574069eacd1f0ddeb2924f"), looks := false }, kinds := [], alts := [], laidByText := true, laidKinds := [.data], laidTests := true, laidLooks := .later }
def TableRowsUptoCardSaid : Prop := Claim7.holds Tryz.pinned (.plain (OpenSpec.upto tableRowsSpec)) tableRowsUptoCard

/-- THE SECOND FORM's CARD OF 'jigsawlaw21.LexiFilters'. -/
def lexiFiltersUptoCard : Claim7 := { stood := { row := lexiFiltersUptoRow, standIns := [], harness := (true, "beb151bdef79d0c70f5b23f184d067cc2b94f4b2f2574069eacd1f0ddeb2924f"), looks := false }, kinds := [], alts := [], laidByText := true, laidKinds := [.data], laidTests := true, laidLooks := .later }
def LexiFiltersUptoCardSaid : Prop := Claim7.holds Tryz.pinned (.plain (OpenSpec.upto lexiFiltersSpec)) lexiFiltersUptoCard

/-- THE SECOND FORM's CARD OF 'jigsawlaw21.LexiRefuses'. -/
def lexiRefusesUptoCard : Claim7 := { stood := { row := lexiRefusesUptoRow, standIns := [], harness := (true, "beb151bdef79d0c70f5b23f184d067cc2b94f4b2f2574069eacd1f0ddeb2924f"), looks := false }, kinds := [], alts := [], laidByText := true, laidKinds := [.data], laidTests := true, laidLooks := .later }
def LexiRefusesUptoCardSaid : Prop := Claim7.holds Tryz.pinned (.plain (OpenSpec.upto lexiRefusesSpec)) lexiRefusesUptoCard

/-- THE SECOND FORM's CARD OF 'jigsawlaw21.LexiFixed'. -/
def lexiFixedUptoCard : Claim7 := { stood := { row := lexiFixedUptoRow, standIns := [], harness := (true, "beb151bdef79d0c70f5b23f184d067cc2b94f4b2f2574069eacd1f0ddeb2924f"), looks := false }, kinds := [], alts := [], laidByText := true, laidKinds := [.data], laidTests := true, laidLooks := .later }
def LexiFixedUptoCardSaid : Prop := Claim7.holds Tryz.pinned (.plain (OpenSpec.upto lexiFixedSpec)) lexiFixedUptoCard

/-- THE SECOND FORM's CARD OF 'jigsawlaw21.LexiKeeps'. -/
def lexiKeepsUptoCard : Claim7 := { stood := { row := lexiKeepsUptoRow, standIns := [], harness := (true, "beb151bdef79d0c70f5b23f184d067cc2b94f4b2f2574069eacd1f0ddeb2924f"), looks := false }, kinds := [], alts := [], laidByText := true, laidKinds := [.data], laidTests := true, laidLooks := .later }
def LexiKeepsUptoCardSaid : Prop := Claim7.holds Tryz.pinned (.plain (OpenSpec.upto lexiKeepsSpec)) lexiKeepsUptoCard

/-- THE SECOND FORM's CARD OF 'jigsawlaw21.LexiLong'. -/
def lexiLongUptoCard : Claim7 := { stood := { row := lexiLongUptoRow, standIns := [], harness := (true, "beb151bdef79d0c70f5b23f184d067cc2b94f4b2f2574069eacd1f0ddeb2924f"), looks := false }, kinds := [], alts := [], laidByText := true, laidKinds := [.data], laidTests := true, laidLooks := .later }
def LexiLongUptoCardSaid : Prop := Claim7.holds Tryz.pinned (.plain (OpenSpec.upto lexiLongSpec)) lexiLongUptoCard

/-- THE SECOND FORM's CARD OF 'jigsawlaw10.LinFilters'. -/
def linFiltersUptoCard : Claim7 := { stood := { row := linFiltersUptoRow, standIns := [], harness := (true, "beb151bdef79d0c70f5b23f184d067cc2b94f4b2f2574069eacd1f0ddeb2924f"), looks := false }, kinds := [], alts := [], laidByText := true, laidKinds := [.data], laidTests := true, laidLooks := .later }
def LinFiltersUptoCardSaid : Prop := Claim7.holds Tryz.pinned (.plain (OpenSpec.upto linFiltersSpec)) linFiltersUptoCard

/-- THE SECOND FORM's CARD OF 'jigsawlaw10.LinRefuses'. -/
def linRefusesUptoCard : Claim7 := { stood := { row := linRefusesUptoRow, standIns := [], harness := (true, "beb151bdef79d0c70f5b23f184d067cc2b94f4b2f2574069eacd1f0ddeb2924f"), looks := false }, kinds := [], alts := [], laidByText := true, laidKinds := [.data], laidTests := true, laidLooks := .later }
def LinRefusesUptoCardSaid : Prop := Claim7.holds Tryz.pinned (.plain (OpenSpec.upto linRefusesSpec)) linRefusesUptoCard

/-- THE SECOND FORM's CARD OF 'jigsawlaw10.LinFixed'. -/
def linFixedUptoCard : Claim7 := { stood := { row := linFixedUptoRow, standIns := [], harness := (true, "beb151bdef79d0c70f5b23f184d067cc2b94f4b2f2574069eacd1f0ddeb2924f"), looks := false }, kinds := [], alts := [], laidByText := true, laidKinds := [.data], laidTests := true, laidLooks := .later }
def LinFixedUptoCardSaid : Prop := Claim7.holds Tryz.pinned (.plain (OpenSpec.upto linFixedSpec)) linFixedUptoCard

/-- THE SECOND FORM's CARD OF 'jigsawlaw10.LinKeeps'. -/
def linKeepsUptoCard : Claim7 := { stood := { row := linKeepsUptoRow, standIns := [], harness := (true, "beb151bdef79d0c70f5b23f184d067cc2b94f4b2f2574069eacd1f0ddeb2924f"), looks := false }, kinds := [], alts := [], laidByText := true, laidKinds := [.data], laidTests := true, laidLooks := .later }
def LinKeepsUptoCardSaid : Prop := Claim7.holds Tryz.pinned (.plain (OpenSpec.upto linKeepsSpec)) linKeepsUptoCard

/-- THE SECOND FORM's CARD OF 'jigsawlaw10.LinWide'. -/
def linWideUptoCard : Claim7 := { stood := { row := linWideUptoRow, standIns := [], harness := (true, "beb151bdef79d0c70f5b23f184d067cc2b94f4b2f2574069eacd1f0ddeb2924f"), looks := false }, kinds := [], alts := [], laidByText := true, laidKinds := [.data], laidTests := true, laidLooks := .later }
def LinWideUptoCardSaid : Prop := Claim7.holds Tryz.pinned (.plain (OpenSpec.upto linWideSpec)) linWideUptoCard
end Rows
end Go.Proofs.YtnojoaghcbljfaaGreatDoor
