/-
  DERIVED. GIVEN WITH THE SEED: THE CARDS: each row of YteckpdifeoffjaaDoorRows.lean that lists a variable, with what it lists TIED to the program's text (the seventh form; the later family's looks); each row that meets fmt, with fmt's text TOLD by the authors' own Lean function (tested against real Go, not proved from fmt's source: count such statements apart). THE CARD IS WHAT COUNTS. Prove the row's statement (the work); the ties are given (YteckpdifeoffjaaDoorTie.lean); close each card by the builder's one call (the guide's Derived/Test/ToyasCard.lean, 'card_holds'). Laid BY PROGRAM, IN A SANDBOX (cutbox-door.mjs). By AI agents, Wed Nov 11 2026. No macro, syntax, notation, axiom, sorry.
-/
import Derived.Test.YteckpdifeoffjaaDoorRows
import GoSem.ClaimSeven
namespace Go.Proofs.YteckpdifeoffjaaDoor
namespace Rows

/-- THE TIED CARD OF 'gleaningslaw22.LedgerOrder'. -/
def ledgerOrderCard : Claim7 := { stood := { row := ledgerOrderRow, standIns := [], harness := (true, "4eefe798d9e1a36eeb782009f3101ea3fde4d2681f421aafaf26610a44b4be1a"), looks := false }, kinds := [], alts := [], laidByText := true, laidKinds := [.data, .data, .data], laidTests := true, laidLooks := .later }
def LedgerOrderCardSaid : Prop := Claim7.holds Tryd.pinned (.plain (OpenSpec.ofChange ledgerOrderSpec)) ledgerOrderCard

/-- THE TIED CARD OF 'gleaningslaw22.LedgerPlays'. -/
def ledgerPlaysCard : Claim7 := { stood := { row := ledgerPlaysRow, standIns := [], harness := (true, "4eefe798d9e1a36eeb782009f3101ea3fde4d2681f421aafaf26610a44b4be1a"), looks := false }, kinds := [], alts := [], laidByText := true, laidKinds := [.data, .data, .data], laidTests := true, laidLooks := .later }
def LedgerPlaysCardSaid : Prop := Claim7.holds Tryd.pinned (.plain (OpenSpec.ofChange ledgerPlaysSpec)) ledgerPlaysCard

/-- THE TIED CARD OF 'gleaningslaw22.LedgerSums'. -/
def ledgerSumsCard : Claim7 := { stood := { row := ledgerSumsRow, standIns := [], harness := (true, "4eefe798d9e1a36eeb782009f3101ea3fde4d2681f421aafaf26610a44b4be1a"), looks := false }, kinds := [], alts := [], laidByText := true, laidKinds := [.data, .data, .data], laidTests := true, laidLooks := .later }
def LedgerSumsCardSaid : Prop := Claim7.holds Tryd.pinned (.plain (OpenSpec.ofChange ledgerSumsSpec)) ledgerSumsCard

/-- THE SECOND FORM's CARD OF 'gleaningslaw22.LedgerOrder'. -/
def ledgerOrderUptoCard : Claim7 := { stood := { row := ledgerOrderUptoRow, standIns := [], harness := (true, "4eefe798d9e1a36eeb782009f3101ea3fde4d2681f421aafaf26610a44b4be1a"), looks := false }, kinds := [], alts := [], laidByText := true, laidKinds := [.data, .data, .data], laidTests := true, laidLooks := .later }
def LedgerOrderUptoCardSaid : Prop := Claim7.holds Tryd.pinned (.plain (OpenSpec.upto ledgerOrderSpec)) ledgerOrderUptoCard

/-- THE SECOND FORM's CARD OF 'gleaningslaw22.LedgerPlays'. -/
def ledgerPlaysUptoCard : Claim7 := { stood := { row := ledgerPlaysUptoRow, standIns := [], harness := (true, "4eefe798d9e1a36eeb782009f3101ea3fde4d2681f421aafaf26610a44b4be1a"), looks := false }, kinds := [], alts := [], laidByText := true, laidKinds := [.data, .data, .data], laidTests := true, laidLooks := .later }
def LedgerPlaysUptoCardSaid : Prop := Claim7.holds Tryd.pinned (.plain (OpenSpec.upto ledgerPlaysSpec)) ledgerPlaysUptoCard

/-- THE SECOND FORM's CARD OF 'gleaningslaw22.LedgerSums'. -/
def ledgerSumsUptoCard : Claim7 := { stood := { row := ledgerSumsUptoRow, standIns := [], harness := (true, "4eefe798d9e1a36eeb782009f3101ea3fde4d2681f421aafaf26610a44b4be1a"), looks := false }, kinds := [], alts := [], laidByText := true, laidKinds := [.data, .data, .data], laidTests := true, laidLooks := .later }
def LedgerSumsUptoCardSaid : Prop := Claim7.holds Tryd.pinned (.plain (OpenSpec.upto ledgerSumsSpec)) ledgerSumsUptoCard
end Rows
end Go.Proofs.YteckpdifeoffjaaDoor
