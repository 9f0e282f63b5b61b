/-
  DERIVED. GIVEN WITH THE SEED: THE CARDS: each row of YthmbdjhlfieldaaGreatDoorRows.lean that lists a variable, with what it lists TIED to the program's text (the seventh form; the later family's looks); each row that meets fmt, with fmt's text TOLD by the authors' own Lean function (tested against real Go, not proved from fmt's source: count such statements apart). THE CARD IS WHAT COUNTS. Prove the row's statement (the work); the ties are given (YthmbdjhlfieldaaGreatDoorTie.lean); close each card by the builder's one call (the guide's Derived/Test/ToyasCard.lean, 'card_holds'). Laid BY PROGRAM, IN A SANDBOX (cutbox-door.mjs). By AI agents, Wed Nov 11 2026. No macro, syntax, notation, axiom, sorry.
-/
import Derived.Test.YthmbdjhlfieldaaGreatDoorRows
import GoSem.ClaimSeven
namespace Go.Proofs.YthmbdjhlfieldaaGreatDoor
namespace Rows

/-- THE TIED CARD OF 'gleaningslaw04.VerTexts'. -/
def verTextsCard : Claim7 := { stood := { row := verTextsRow, standIns := [], harness := (true, "736d181bc8aa431ec8d788fde508ee251e3b0e8e08b7eae94aac5dd859731e9c"), looks := true }, kinds := [], alts := [], laidByText := true, laidKinds := [.data, .data, .data, .data, .sentinel, .sentinel, .pinned], laidTests := true, laidLooks := .later }
def VerTextsCardSaid : Prop := Claim7.holds Tryz.pinned (.plain (OpenSpec.ofChange verTextsSpec)) verTextsCard

/-- THE TIED CARD OF 'gleaningslaw04.VerBack'. -/
def verBackCard : Claim7 := { stood := { row := verBackRow, standIns := [], harness := (true, "736d181bc8aa431ec8d788fde508ee251e3b0e8e08b7eae94aac5dd859731e9c"), looks := true }, kinds := [], alts := [], laidByText := true, laidKinds := [.data, .data, .data, .data, .sentinel, .sentinel, .pinned], laidTests := true, laidLooks := .later }
def VerBackCardSaid : Prop := Claim7.holds Tryz.pinned (.plain (OpenSpec.ofChange verBackSpec)) verBackCard

/-- THE TIED CARD OF 'gleaningslaw04.VerTells'. -/
def verTellsCard : Claim7 := { stood := { row := verTellsRow, standIns := [], harness := (true, "736d181bc8aa431ec8d788fde508ee251e3b0e8e08b7eae94aac5dd859731e9c"), looks := true }, kinds := [], alts := [], laidByText := true, laidKinds := [.data, .data, .data, .data, .sentinel, .sentinel, .pinned], laidTests := true, laidLooks := .later }
def VerTellsCardSaid : Prop := Claim7.holds Tryz.pinned (.plain (OpenSpec.ofChange verTellsSpec)) verTellsCard

/-- THE TIED CARD OF 'gleaningslaw04.VerReads'. -/
def verReadsCard : Claim7 := { stood := { row := verReadsRow, standIns := [], harness := (true, "736d181bc8aa431ec8d788fde508ee251e3b0e8e08b7eae94aac5dd859731e9c"), looks := true }, kinds := [], alts := [], laidByText := true, laidKinds := [.data, .data, .data, .data, .sentinel, .sentinel, .pinned], laidTests := true, laidLooks := .later }
def VerReadsCardSaid : Prop := Claim7.holds Tryz.pinned (.plain (OpenSpec.ofChange verReadsSpec)) verReadsCard

/-- THE SECOND FORM's CARD OF 'gleaningslaw04.VerTexts'. -/
def verTextsUptoCard : Claim7 := { stood := { row := verTextsUptoRow, standIns := [], harness := (true, "736d181bc8aa431ec8d788fde508ee251e3b0e8e08b7eae94aac5dd859731e9c"), looks := true }, kinds := [], alts := [], laidByText := true, laidKinds := [.data, .data, .data, .data, .sentinel, .sentinel, .pinned], laidTests := true, laidLooks := .later }
def VerTextsUptoCardSaid : Prop := Claim7.holds Tryz.pinned (.plain (OpenSpec.upto verTextsSpec)) verTextsUptoCard

/-- THE SECOND FORM's CARD OF 'gleaningslaw04.VerBack'. -/
def verBackUptoCard : Claim7 := { stood := { row := verBackUptoRow, standIns := [], harness := (true, "736d181bc8aa431ec8d788fde508ee251e3b0e8e08b7eae94aac5dd859731e9c"), looks := true }, kinds := [], alts := [], laidByText := true, laidKinds := [.data, .data, .data, .data, .sentinel, .sentinel, .pinned], laidTests := true, laidLooks := .later }
def VerBackUptoCardSaid : Prop := Claim7.holds Tryz.pinned (.plain (OpenSpec.upto verBackSpec)) verBackUptoCard

/-- THE SECOND FORM's CARD OF 'gleaningslaw04.VerTells'. -/
def verTellsUptoCard : Claim7 := { stood := { row := verTellsUptoRow, standIns := [], harness := (true, "736d181bc8aa431ec8d788fde508ee251e3b0e8e08b7eae94aac5dd859731e9c"), looks := true }, kinds := [], alts := [], laidByText := true, laidKinds := [.data, .data, .data, .data, .sentinel, .sentinel, .pinned], laidTests := true, laidLooks := .later }
def VerTellsUptoCardSaid : Prop := Claim7.holds Tryz.pinned (.plain (OpenSpec.upto verTellsSpec)) verTellsUptoCard

/-- THE SECOND FORM's CARD OF 'gleaningslaw04.VerReads'. -/
def verReadsUptoCard : Claim7 := { stood := { row := verReadsUptoRow, standIns := [], harness := (true, "736d181bc8aa431ec8d788fde508ee251e3b0e8e08b7eae94aac5dd859731e9c"), looks := true }, kinds := [], alts := [], laidByText := true, laidKinds := [.data, .data, .data, .data, .sentinel, .sentinel, .pinned], laidTests := true, laidLooks := .later }
def VerReadsUptoCardSaid : Prop := Claim7.holds Tryz.pinned (.plain (OpenSpec.upto verReadsSpec)) verReadsUptoCard
end Rows
end Go.Proofs.YthmbdjhlfieldaaGreatDoor
