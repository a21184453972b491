/-
  DERIVED. GIVEN WITH THE SEED: THE CARDS: each row of YtnknoaolbjofiaaDoorRows.lean that lists a variable, with what it lists TIED to the program's text (the seventh form; the later family's looks); each row that meets fmt, with fmt's text TOLD by the authors' own Lean function (tested against real Go, not proved from fmt's source: count such statements apart). THE CARD IS WHAT COUNTS. Prove the row's statement (the work); the ties are given (YtnknoaolbjofiaaDoorTie.lean); close each card by the builder's one call (the guide's Derived/Test/ToyasCard.lean, 'card_holds'). Laid BY PROGRAM, IN A SANDBOX (cutbox-door.mjs). By AI agents, Wed Nov 11 2026. No macro, syntax, notation, axiom, sorry.
-/
import Derived.Test.YtnknoaolbjofiaaDoorRows
import GoSem.ClaimSeven
namespace Go.Proofs.YtnknoaolbjofiaaDoor
namespace Rows

/-- THE TIED CARD OF 'backreachlaw14.ClauseSpreads'. -/
def clauseSpreadsCard : Claim7 := { stood := { row := clauseSpreadsRow, standIns := [], harness := (true, "04cf22203cb59e6f0a95f45493d7fec32d235e719c41968df075d4a70bc09fad"), looks := true }, kinds := [], alts := [], laidByText := true, laidKinds := [.data, .data, .data], laidTests := true, laidLooks := .later }
def ClauseSpreadsCardSaid : Prop := Claim7.holds Tryd.pinned (.plain (OpenSpec.ofChange clauseSpreadsSpec)) clauseSpreadsCard

/-- THE TIED CARD OF 'backreachlaw14.ClauseMore'. -/
def clauseMoreCard : Claim7 := { stood := { row := clauseMoreRow, standIns := [], harness := (true, "04cf22203cb59e6f0a95f45493d7fec32d235e719c41968df075d4a70bc09fad"), looks := true }, kinds := [], alts := [], laidByText := true, laidKinds := [.data, .data, .data], laidTests := true, laidLooks := .later }
def ClauseMoreCardSaid : Prop := Claim7.holds Tryd.pinned (.plain (OpenSpec.ofChange clauseMoreSpec)) clauseMoreCard

/-- THE TIED CARD OF 'backreachlaw14.ClauseIdle'. -/
def clauseIdleCard : Claim7 := { stood := { row := clauseIdleRow, standIns := [], harness := (true, "04cf22203cb59e6f0a95f45493d7fec32d235e719c41968df075d4a70bc09fad"), looks := true }, kinds := [], alts := [], laidByText := true, laidKinds := [.data, .data, .data], laidTests := true, laidLooks := .later }
def ClauseIdleCardSaid : Prop := Claim7.holds Tryd.pinned (.plain (OpenSpec.ofChange clauseIdleSpec)) clauseIdleCard

/-- THE TIED CARD OF 'backreachlaw14.ClauseTells'. -/
def clauseTellsCard : Claim7 := { stood := { row := clauseTellsRow, standIns := [], harness := (true, "04cf22203cb59e6f0a95f45493d7fec32d235e719c41968df075d4a70bc09fad"), looks := true }, kinds := [], alts := [], laidByText := true, laidKinds := [.data, .data, .data], laidTests := true, laidLooks := .later }
def ClauseTellsCardSaid : Prop := Claim7.holds Tryd.pinned (.plain (OpenSpec.ofChange clauseTellsSpec)) clauseTellsCard

/-- THE TIED CARD OF 'backreachlaw14.ClauseModels'. -/
def clauseModelsCard : Claim7 := { stood := { row := clauseModelsRow, standIns := [], harness := (true, "04cf22203cb59e6f0a95f45493d7fec32d235e719c41968df075d4a70bc09fad"), looks := true }, kinds := [], alts := [], laidByText := true, laidKinds := [.data, .data, .data], laidTests := true, laidLooks := .later }
def ClauseModelsCardSaid : Prop := Claim7.holds Tryd.pinned (.plain (OpenSpec.ofChange clauseModelsSpec)) clauseModelsCard

/-- THE TIED CARD OF 'backreachlaw14.ClauseParses'. -/
def clauseParsesCard : Claim7 := { stood := { row := clauseParsesRow, standIns := [], harness := (true, "04cf22203cb59e6f0a95f45493d7fec32d235e719c41968df075d4a70bc09fad"), looks := true }, kinds := [], alts := [], laidByText := true, laidKinds := [.data, .data, .data, .data, .sentinel, .sentinel, .pinned], laidTests := true, laidLooks := .later }
def ClauseParsesCardSaid : Prop := Claim7.holds Tryd.pinned (.plain (OpenSpec.ofChange clauseParsesSpec)) clauseParsesCard

/-- THE TIED CARD OF 'backreachlaw14.ClauseBack'. -/
def clauseBackCard : Claim7 := { stood := { row := clauseBackRow, standIns := [], harness := (true, "04cf22203cb59e6f0a95f45493d7fec32d235e719c41968df075d4a70bc09fad"), looks := true }, kinds := [], alts := [], laidByText := true, laidKinds := [.data, .data, .data, .data, .sentinel, .sentinel, .pinned], laidTests := true, laidLooks := .later }
def ClauseBackCardSaid : Prop := Claim7.holds Tryd.pinned (.plain (OpenSpec.ofChange clauseBackSpec)) clauseBackCard

/-- THE SECOND FORM's CARD OF 'backreachlaw14.ClauseSpreads'. -/
def clauseSpreadsUptoCard : Claim7 := { stood := { row := clauseSpreadsUptoRow, standIns := [], harness := (true, "04cf22203cb59e6f0a95f45493d7fec32d235e719c41968df075d4a70bc09fad"), looks := true }, kinds := [], alts := [], laidByText := true, laidKinds := [.data, .data, .data], laidTests := true, laidLooks := .later }
def ClauseSpreadsUptoCardSaid : Prop := Claim7.holds Tryd.pinned (.plain (OpenSpec.upto clauseSpreadsSpec)) clauseSpreadsUptoCard

/-- THE SECOND FORM's CARD OF 'backreachlaw14.ClauseMore'. -/
def clauseMoreUptoCard : Claim7 := { stood := { row := clauseMoreUptoRow, standIns := [], harness := (true, "04cf22203cb59e6f0a95f45493d7fec32d235e719c41968df075d4a70bc09fad"), looks := true }, kinds := [], alts := [], laidByText := true, laidKinds := [.data, .data, .data], laidTests := true, laidLooks := .later }
def ClauseMoreUptoCardSaid : Prop := Claim7.holds Tryd.pinned (.plain (OpenSpec.upto clauseMoreSpec)) clauseMoreUptoCard

/-- THE SECOND FORM's CARD OF 'backreachlaw14.ClauseIdle'. -/
def clauseIdleUptoCard : Claim7 := { stood := { row := clauseIdleUptoRow, standIns := [], harness := (true, "04cf22203cb59e6f0a95f45493d7fec32d235e719c41968df075d4a70bc09fad"), looks := true }, kinds := [], alts := [], laidByText := true, laidKinds := [.data, .data, .data], laidTests := true, laidLooks := .later }
def ClauseIdleUptoCardSaid : Prop := Claim7.holds Tryd.pinned (.plain (OpenSpec.upto clauseIdleSpec)) clauseIdleUptoCard

/-- THE SECOND FORM's CARD OF 'backreachlaw14.ClauseTells'. -/
def clauseTellsUptoCard : Claim7 := { stood := { row := clauseTellsUptoRow, standIns := [], harness := (true, "04cf22203cb59e6f0a95f45493d7fec32d235e719c41968df075d4a70bc09fad"), looks := true }, kinds := [], alts := [], laidByText := true, laidKinds := [.data, .data, .data], laidTests := true, laidLooks := .later }
def ClauseTellsUptoCardSaid : Prop := Claim7.holds Tryd.pinned (.plain (OpenSpec.upto clauseTellsSpec)) clauseTellsUptoCard

/-- THE SECOND FORM's CARD OF 'backreachlaw14.ClauseModels'. -/
def clauseModelsUptoCard : Claim7 := { stood := { row := clauseModelsUptoRow, standIns := [], harness := (true, "04cf22203cb59e6f0a95f45493d7fec32d235e719c41968df075d4a70bc09fad"), looks := true }, kinds := [], alts := [], laidByText := true, laidKinds := [.data, .data, .data], laidTests := true, laidLooks := .later }
def ClauseModelsUptoCardSaid : Prop := Claim7.holds Tryd.pinned (.plain (OpenSpec.upto clauseModelsSpec)) clauseModelsUptoCard

/-- THE SECOND FORM's CARD OF 'backreachlaw14.ClauseParses'. -/
def clauseParsesUptoCard : Claim7 := { stood := { row := clauseParsesUptoRow, standIns := [], harness := (true, "04cf22203cb59e6f0a95f45493d7fec32d235e719c41968df075d4a70bc09fad"), looks := true }, kinds := [], alts := [], laidByText := true, laidKinds := [.data, .data, .data, .data, .sentinel, .sentinel, .pinned], laidTests := true, laidLooks := .later }
def ClauseParsesUptoCardSaid : Prop := Claim7.holds Tryd.pinned (.plain (OpenSpec.upto clauseParsesSpec)) clauseParsesUptoCard

/-- THE SECOND FORM's CARD OF 'backreachlaw14.ClauseBack'. -/
def clauseBackUptoCard : Claim7 := { stood := { row := clauseBackUptoRow, standIns := [], harness := (true, "04cf22203cb59e6f0a95f45493d7fec32d235e719c41968df075d4a70bc09fad"), looks := true }, kinds := [], alts := [], laidByText := true, laidKinds := [.data, .data, .data, .data, .sentinel, .sentinel, .pinned], laidTests := true, laidLooks := .later }
def ClauseBackUptoCardSaid : Prop := Claim7.holds Tryd.pinned (.plain (OpenSpec.upto clauseBackSpec)) clauseBackUptoCard
end Rows
end Go.Proofs.YtnknoaolbjofiaaDoor
