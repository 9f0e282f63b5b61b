/-
  DERIVED. GIVEN WITH THE SEED: THE CARDS: each row of YtghejeecanohoaaDoorRows.lean that lists a variable, with what it lists TIED to the program's text (the seventh form; the later family's looks); each row that meets fmt, with fmt's text TOLD by the authors' own Lean function (tested against real Go, not proved from fmt's source: count such statements apart). THE CARD IS WHAT COUNTS. Prove the row's statement (the work); the ties are given (YtghejeecanohoaaDoorTie.lean); close each card by the builder's one call (the guide's Derived/Test/ToyasCard.lean, 'card_holds'). Laid BY PROGRAM, IN A SANDBOX (cutbox-door.mjs). By AI agents, Wed Nov 11 2026. No macro, syntax, notation, axiom, sorry.
-/
import Derived.Test.YtghejeecanohoaaDoorRows
import GoSem.ClaimSeven
namespace Go.Proofs.YtghejeecanohoaaDoor
namespace Rows

/-- THE TIED CARD OF 'gleaningslaw32.ActsLines'. -/
def actsLinesCard : Claim7 := { stood := { row := actsLinesRow, standIns := [], harness := (true, "ab374f43d1d0d030b47befadfa90a5d7d626c0575ba1e17f8fc196531eb89b7e"), looks := true }, kinds := [], alts := [], laidByText := true, laidKinds := [.data, .data, .data, .data, .sentinel, .sentinel, .pinned], laidTests := true, laidLooks := .later }
def ActsLinesCardSaid : Prop := Claim7.holds Tryd.pinned (.plain (OpenSpec.ofChange actsLinesSpec)) actsLinesCard

/-- THE TIED CARD OF 'gleaningslaw32.ActsScripts'. -/
def actsScriptsCard : Claim7 := { stood := { row := actsScriptsRow, standIns := [], harness := (true, "ab374f43d1d0d030b47befadfa90a5d7d626c0575ba1e17f8fc196531eb89b7e"), looks := true }, kinds := [], alts := [], laidByText := true, laidKinds := [.data, .data, .data, .data, .sentinel, .sentinel, .pinned], laidTests := true, laidLooks := .later }
def ActsScriptsCardSaid : Prop := Claim7.holds Tryd.pinned (.plain (OpenSpec.ofChange actsScriptsSpec)) actsScriptsCard

/-- THE TIED CARD OF 'gleaningslaw32.ActsBack'. -/
def actsBackCard : Claim7 := { stood := { row := actsBackRow, standIns := [], harness := (true, "ab374f43d1d0d030b47befadfa90a5d7d626c0575ba1e17f8fc196531eb89b7e"), looks := true }, kinds := [], alts := [], laidByText := true, laidKinds := [.data, .data, .data, .data, .sentinel, .sentinel, .pinned], laidTests := true, laidLooks := .later }
def ActsBackCardSaid : Prop := Claim7.holds Tryd.pinned (.plain (OpenSpec.ofChange actsBackSpec)) actsBackCard

/-- THE SECOND FORM's CARD OF 'gleaningslaw32.ActsLines'. -/
def actsLinesUptoCard : Claim7 := { stood := { row := actsLinesUptoRow, standIns := [], harness := (true, "ab374f43d1d0d030b47befadfa90a5d7d626c0575ba1e17f8fc196531eb89b7e"), looks := true }, kinds := [], alts := [], laidByText := true, laidKinds := [.data, .data, .data, .data, .sentinel, .sentinel, .pinned], laidTests := true, laidLooks := .later }
def ActsLinesUptoCardSaid : Prop := Claim7.holds Tryd.pinned (.plain (OpenSpec.upto actsLinesSpec)) actsLinesUptoCard

/-- THE SECOND FORM's CARD OF 'gleaningslaw32.ActsScripts'. -/
def actsScriptsUptoCard : Claim7 := { stood := { row := actsScriptsUptoRow, standIns := [], harness := (true, "ab374f43d1d0d030b47befadfa90a5d7d626c0575ba1e17f8fc196531eb89b7e"), looks := true }, kinds := [], alts := [], laidByText := true, laidKinds := [.data, .data, .data, .data, .sentinel, .sentinel, .pinned], laidTests := true, laidLooks := .later }
def ActsScriptsUptoCardSaid : Prop := Claim7.holds Tryd.pinned (.plain (OpenSpec.upto actsScriptsSpec)) actsScriptsUptoCard

/-- THE SECOND FORM's CARD OF 'gleaningslaw32.ActsBack'. -/
def actsBackUptoCard : Claim7 := { stood := { row := actsBackUptoRow, standIns := [], harness := (true, "ab374f43d1d0d030b47befadfa90a5d7d626c0575ba1e17f8fc196531eb89b7e"), looks := true }, kinds := [], alts := [], laidByText := true, laidKinds := [.data, .data, .data, .data, .sentinel, .sentinel, .pinned], laidTests := true, laidLooks := .later }
def ActsBackUptoCardSaid : Prop := Claim7.holds Tryd.pinned (.plain (OpenSpec.upto actsBackSpec)) actsBackUptoCard
end Rows
end Go.Proofs.YtghejeecanohoaaDoor
