/-
  DERIVED. GIVEN WITH THE SEED: THE CARDS: each row of YtoaaieiiamdopaaGreatDoorRows.lean that lists a variable, with what it lists TIED to the program's text (the seventh form; the later family's looks); each row that meets fmt, with fmt's text TOLD by the authors' own Lean function (tested against real Go, not proved from fmt's source: count such statements apart). THE CARD IS WHAT COUNTS. Prove the row's statement (the work); the ties are given (YtoaaieiiamdopaaGreatDoorTie.lean); close each card by the builder's one call (the guide's Derived/Test/ToyasCard.lean, 'card_holds'). Laid BY PROGRAM, IN A SANDBOX (cutbox-door.mjs). By AI agents, Wed Nov 11 2026. No macro, syntax, notation, axiom, sorry.
-/
import Derived.Test.YtoaaieiiamdopaaGreatDoorRows
import GoSem.ClaimSeven
namespace Go.Proofs.YtoaaieiiamdopaaGreatDoor
namespace Rows

/-- THE TIED CARD OF 'gleaningslaw03.DotReads'. -/
def dotReadsCard : Claim7 := { stood := { row := dotReadsRow, standIns := [], harness := (true, "557194cb89ede537b2ac6bb90dcce557c4fd1bb29b126829280a501c5034f6ce"), looks := true }, kinds := [], alts := [], laidByText := true, laidKinds := [.data, .data, .data, .data, .sentinel, .sentinel, .pinned], laidTests := true, laidLooks := .later }
def DotReadsCardSaid : Prop := Claim7.holds Tryz.pinned (.plain (OpenSpec.ofChange dotReadsSpec)) dotReadsCard

/-- THE TIED CARD OF 'gleaningslaw03.DotLeast'. -/
def dotLeastCard : Claim7 := { stood := { row := dotLeastRow, standIns := [], harness := (true, "557194cb89ede537b2ac6bb90dcce557c4fd1bb29b126829280a501c5034f6ce"), looks := true }, kinds := [], alts := [], laidByText := true, laidKinds := [.data, .data, .data, .data, .sentinel, .sentinel, .pinned], laidTests := true, laidLooks := .later }
def DotLeastCardSaid : Prop := Claim7.holds Tryz.pinned (.plain (OpenSpec.ofChange dotLeastSpec)) dotLeastCard

/-- THE TIED CARD OF 'gleaningslaw03.DotMissing'. -/
def dotMissingCard : Claim7 := { stood := { row := dotMissingRow, standIns := [], harness := (true, "557194cb89ede537b2ac6bb90dcce557c4fd1bb29b126829280a501c5034f6ce"), looks := true }, kinds := [], alts := [], laidByText := true, laidKinds := [.data, .data, .data, .data, .sentinel, .sentinel, .pinned], laidTests := true, laidLooks := .later }
def DotMissingCardSaid : Prop := Claim7.holds Tryz.pinned (.plain (OpenSpec.ofChange dotMissingSpec)) dotMissingCard

/-- THE TIED CARD OF 'gleaningslaw03.DotClocks'. -/
def dotClocksCard : Claim7 := { stood := { row := dotClocksRow, standIns := [], harness := (true, "557194cb89ede537b2ac6bb90dcce557c4fd1bb29b126829280a501c5034f6ce"), looks := true }, kinds := [], alts := [], laidByText := true, laidKinds := [.data, .data, .data, .data, .sentinel, .sentinel, .pinned], laidTests := true, laidLooks := .later }
def DotClocksCardSaid : Prop := Claim7.holds Tryz.pinned (.plain (OpenSpec.ofChange dotClocksSpec)) dotClocksCard

/-- THE TIED CARD OF 'gleaningslaw03.DotSets'. -/
def dotSetsCard : Claim7 := { stood := { row := dotSetsRow, standIns := [], harness := (true, "557194cb89ede537b2ac6bb90dcce557c4fd1bb29b126829280a501c5034f6ce"), looks := true }, kinds := [], alts := [], laidByText := true, laidKinds := [.data, .data, .data, .data, .sentinel, .sentinel, .pinned], laidTests := true, laidLooks := .later }
def DotSetsCardSaid : Prop := Claim7.holds Tryz.pinned (.plain (OpenSpec.ofChange dotSetsSpec)) dotSetsCard

/-- THE SECOND FORM's CARD OF 'gleaningslaw03.DotReads'. -/
def dotReadsUptoCard : Claim7 := { stood := { row := dotReadsUptoRow, standIns := [], harness := (true, "557194cb89ede537b2ac6bb90dcce557c4fd1bb29b126829280a501c5034f6ce"), looks := true }, kinds := [], alts := [], laidByText := true, laidKinds := [.data, .data, .data, .data, .sentinel, .sentinel, .pinned], laidTests := true, laidLooks := .later }
def DotReadsUptoCardSaid : Prop := Claim7.holds Tryz.pinned (.plain (OpenSpec.upto dotReadsSpec)) dotReadsUptoCard

/-- THE SECOND FORM's CARD OF 'gleaningslaw03.DotLeast'. -/
def dotLeastUptoCard : Claim7 := { stood := { row := dotLeastUptoRow, standIns := [], harness := (true, "557194cb89ede537b2ac6bb90dcce557c4fd1bb29b126829280a501c5034f6ce"), looks := true }, kinds := [], alts := [], laidByText := true, laidKinds := [.data, .data, .data, .data, .sentinel, .sentinel, .pinned], laidTests := true, laidLooks := .later }
def DotLeastUptoCardSaid : Prop := Claim7.holds Tryz.pinned (.plain (OpenSpec.upto dotLeastSpec)) dotLeastUptoCard

/-- THE SECOND FORM's CARD OF 'gleaningslaw03.DotMissing'. -/
def dotMissingUptoCard : Claim7 := { stood := { row := dotMissingUptoRow, standIns := [], harness := (true, "557194cb89ede537b2ac6bb90dcce557c4fd1bb29b126829280a501c5034f6ce"), looks := true }, kinds := [], alts := [], laidByText := true, laidKinds := [.data, .data, .data, .data, .sentinel, .sentinel, .pinned], laidTests := true, laidLooks := .later }
def DotMissingUptoCardSaid : Prop := Claim7.holds Tryz.pinned (.plain (OpenSpec.upto dotMissingSpec)) dotMissingUptoCard

/-- THE SECOND FORM's CARD OF 'gleaningslaw03.DotClocks'. -/
def dotClocksUptoCard : Claim7 := { stood := { row := dotClocksUptoRow, standIns := [], harness := (true, "557194cb89ede537b2ac6bb90dcce557c4fd1bb29b126829280a501c5034f6ce"), looks := true }, kinds := [], alts := [], laidByText := true, laidKinds := [.data, .data, .data, .data, .sentinel, .sentinel, .pinned], laidTests := true, laidLooks := .later }
def DotClocksUptoCardSaid : Prop := Claim7.holds Tryz.pinned (.plain (OpenSpec.upto dotClocksSpec)) dotClocksUptoCard

/-- THE SECOND FORM's CARD OF 'gleaningslaw03.DotSets'. -/
def dotSetsUptoCard : Claim7 := { stood := { row := dotSetsUptoRow, standIns := [], harness := (true, "557194cb89ede537b2ac6bb90dcce557c4fd1bb29b126829280a501c5034f6ce"), looks := true }, kinds := [], alts := [], laidByText := true, laidKinds := [.data, .data, .data, .data, .sentinel, .sentinel, .pinned], laidTests := true, laidLooks := .later }
def DotSetsUptoCardSaid : Prop := Claim7.holds Tryz.pinned (.plain (OpenSpec.upto dotSetsSpec)) dotSetsUptoCard
end Rows
end Go.Proofs.YtoaaieiiamdopaaGreatDoor
