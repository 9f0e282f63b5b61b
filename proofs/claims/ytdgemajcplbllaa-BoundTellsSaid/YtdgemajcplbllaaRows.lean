/-
  No cell of these rows narrows 'for every input' (looked for: loops, veiled, ifaces, maps, wideKeys, modest, calm, conditions, laid).
  DERIVED. THE GIVEN ROWS OF THIS SEAT. 6 by the template 'for every input the law returns true; each argument reads behind the call as it read before'; 0 by the template 'total and deterministic' (their statements: YtdgemajcplbllaaTotals.lean).
  GIVEN WITH THE SEED: the statements are not yours to turn. If you find one false, say at which input.
  Laid BY PROGRAM, IN A SANDBOX (cutbox-rows.mjs): the forced cells as the released guide's own fill.sh prints them over the translation 746589184da7dab2… (all of the seat's roots in one cut). By AI agents, Wed Nov 11 2026. No macro, syntax, notation, axiom, sorry.
-/
import Derived.Test.YtdgemajcplbllaaChecked
import GoSem.Claim
import GoSem.ClaimJoined
import GoSem.ClaimMapViews
import Derived.JoinedTies
import Derived.KernelRfl
namespace Go.Proofs.Ytdgemajcplbllaa
/- THE CELL 'sum', in the pinned program and in every row, IS THE sha256 OF THE DUMP (.gsa) THAT YtdgemajcplbllaaProg.lean LOADS. Nothing in Lean hashes anything: it is a label: what it is worth is what the hold of that sum in a sandbox is worth. -/
noncomputable def Try.pinned : Pinned := { name := "ytdgemajcplbllaa", sum := "746589184da7dab2a8f67e686c5cc2f7fcca4b3cdf8b13cf6b6ebbccfbdfc34b", checked := Try.checked }
namespace Rows
def none {H : Type} : Left H := { results := [], args := [] }

/-- 'gleaningslaw23.TimerWaits': WHATEVER THE INPUT: true; the input reads as it did. -/
def timerWaitsSpec : ChangeSpec := { name := "timerWaits", fn := fun _ => fun
  | [d1, d2, d3] => { results := [.lit (.bool true)], args := [d1, d2, d3] }
  | _ => none }
def timerWaitsRow : OpenClaim := { program := "ytdgemajcplbllaa", sum := "746589184da7dab2a8f67e686c5cc2f7fcca4b3cdf8b13cf6b6ebbccfbdfc34b", func := "gleanings/gleaningslaw23.TimerWaits", spec := "timerWaits", unfollowed := true, recurses := true, apart := false }
def TimerWaitsSaid : Prop := timerWaitsRow.holds Try.pinned (OpenSpec.ofChange timerWaitsSpec)

/-- ITS FALSE NEIGHBOUR: 'it returns false'. Refute it at one input. -/
def timerWaitsWrong : ChangeSpec := { name := "timerWaits", fn := fun _ => fun
  | [d1, d2, d3] => { results := [.lit (.bool false)], args := [d1, d2, d3] }
  | _ => none }
def TimerWaitsWrongFalsely : Prop := timerWaitsRow.holds Try.pinned (OpenSpec.ofChange timerWaitsWrong)

/-- 'gleaningslaw23.TimerEnds': WHATEVER THE INPUT: true; the input reads as it did. -/
def timerEndsSpec : ChangeSpec := { name := "timerEnds", fn := fun _ => fun
  | [d1, d2, d3] => { results := [.lit (.bool true)], args := [d1, d2, d3] }
  | _ => none }
def timerEndsRow : OpenClaim := { program := "ytdgemajcplbllaa", sum := "746589184da7dab2a8f67e686c5cc2f7fcca4b3cdf8b13cf6b6ebbccfbdfc34b", func := "gleanings/gleaningslaw23.TimerEnds", spec := "timerEnds", unfollowed := true, recurses := true, apart := false }
def TimerEndsSaid : Prop := timerEndsRow.holds Try.pinned (OpenSpec.ofChange timerEndsSpec)

/-- ITS FALSE NEIGHBOUR: 'it returns false'. Refute it at one input. -/
def timerEndsWrong : ChangeSpec := { name := "timerEnds", fn := fun _ => fun
  | [d1, d2, d3] => { results := [.lit (.bool false)], args := [d1, d2, d3] }
  | _ => none }
def TimerEndsWrongFalsely : Prop := timerEndsRow.holds Try.pinned (OpenSpec.ofChange timerEndsWrong)

/-- 'gleaningslaw23.TimerPlays': WHATEVER THE INPUT: true; the input reads as it did. -/
def timerPlaysSpec : ChangeSpec := { name := "timerPlays", fn := fun _ => fun
  | [d1, d2, d3] => { results := [.lit (.bool true)], args := [d1, d2, d3] }
  | _ => none }
def timerPlaysRow : OpenClaim := { program := "ytdgemajcplbllaa", sum := "746589184da7dab2a8f67e686c5cc2f7fcca4b3cdf8b13cf6b6ebbccfbdfc34b", func := "gleanings/gleaningslaw23.TimerPlays", spec := "timerPlays", unfollowed := true, recurses := true, apart := false }
def TimerPlaysSaid : Prop := timerPlaysRow.holds Try.pinned (OpenSpec.ofChange timerPlaysSpec)

/-- ITS FALSE NEIGHBOUR: 'it returns false'. Refute it at one input. -/
def timerPlaysWrong : ChangeSpec := { name := "timerPlays", fn := fun _ => fun
  | [d1, d2, d3] => { results := [.lit (.bool false)], args := [d1, d2, d3] }
  | _ => none }
def TimerPlaysWrongFalsely : Prop := timerPlaysRow.holds Try.pinned (OpenSpec.ofChange timerPlaysWrong)

/-- 'gleaningslaw23.TimerStops': WHATEVER THE INPUT: true; the input reads as it did. -/
def timerStopsSpec : ChangeSpec := { name := "timerStops", fn := fun _ => fun
  | [d1, d2, d3] => { results := [.lit (.bool true)], args := [d1, d2, d3] }
  | _ => none }
def timerStopsRow : OpenClaim := { program := "ytdgemajcplbllaa", sum := "746589184da7dab2a8f67e686c5cc2f7fcca4b3cdf8b13cf6b6ebbccfbdfc34b", func := "gleanings/gleaningslaw23.TimerStops", spec := "timerStops", unfollowed := true, recurses := true, apart := false }
def TimerStopsSaid : Prop := timerStopsRow.holds Try.pinned (OpenSpec.ofChange timerStopsSpec)

/-- ITS FALSE NEIGHBOUR: 'it returns false'. Refute it at one input. -/
def timerStopsWrong : ChangeSpec := { name := "timerStops", fn := fun _ => fun
  | [d1, d2, d3] => { results := [.lit (.bool false)], args := [d1, d2, d3] }
  | _ => none }
def TimerStopsWrongFalsely : Prop := timerStopsRow.holds Try.pinned (OpenSpec.ofChange timerStopsWrong)

/-- 'gleaningslaw34.BoundTells': WHATEVER THE INPUT: true; the input reads as it did. -/
def boundTellsSpec : ChangeSpec := { name := "boundTells", fn := fun _ => fun
  | [d] => { results := [.lit (.bool true)], args := [d] }
  | _ => none }
def boundTellsRow : OpenClaim := { program := "ytdgemajcplbllaa", sum := "746589184da7dab2a8f67e686c5cc2f7fcca4b3cdf8b13cf6b6ebbccfbdfc34b", func := "gleanings/gleaningslaw34.BoundTells", spec := "boundTells", unfollowed := true, recurses := true, apart := false }
def BoundTellsSaid : Prop := boundTellsRow.holds Try.pinned (OpenSpec.ofChange boundTellsSpec)

/-- ITS FALSE NEIGHBOUR: 'it returns false'. Refute it at one input. -/
def boundTellsWrong : ChangeSpec := { name := "boundTells", fn := fun _ => fun
  | [d] => { results := [.lit (.bool false)], args := [d] }
  | _ => none }
def BoundTellsWrongFalsely : Prop := boundTellsRow.holds Try.pinned (OpenSpec.ofChange boundTellsWrong)

/-- 'gleaningslaw34.BoundGrows': WHATEVER THE INPUT: true; the input reads as it did. -/
def boundGrowsSpec : ChangeSpec := { name := "boundGrows", fn := fun _ => fun
  | [d] => { results := [.lit (.bool true)], args := [d] }
  | _ => none }
def boundGrowsRow : OpenClaim := { program := "ytdgemajcplbllaa", sum := "746589184da7dab2a8f67e686c5cc2f7fcca4b3cdf8b13cf6b6ebbccfbdfc34b", func := "gleanings/gleaningslaw34.BoundGrows", spec := "boundGrows", unfollowed := true, recurses := true, apart := false }
def BoundGrowsSaid : Prop := boundGrowsRow.holds Try.pinned (OpenSpec.ofChange boundGrowsSpec)

/-- ITS FALSE NEIGHBOUR: 'it returns false'. Refute it at one input. -/
def boundGrowsWrong : ChangeSpec := { name := "boundGrows", fn := fun _ => fun
  | [d] => { results := [.lit (.bool false)], args := [d] }
  | _ => none }
def BoundGrowsWrongFalsely : Prop := boundGrowsRow.holds Try.pinned (OpenSpec.ofChange boundGrowsWrong)

/- THE SECOND FORM. 'bulk': how many values and letters a reading holds, each counted each time it is reached (what is shared counts as often as it is met; a slice's spare places count too). A statement '..UptoSaid' is the law's where the arguments, and the package variables that the reading takes, are together of bulk at most 1048576: NARROWER than '..Said'. Prove '..Said' where nothing that the law and all that it calls make is longer than what came in: it says more and counts as full. Else prove '..UptoSaid'. A law counts once. -/
mutual
def uptoBulk {H : Type} : DataW H → Nat
  | .lit (.string bytes) => bytes.length + 1
  | .lit _ => 1
  | .nil => 1
  | .ptr d => uptoBulk d + 1
  | .slice elems spare => uptoBulkAll elems + uptoBulkAll spare + 1
  | .agg parts => uptoBulkAll parts + 1
  | .iface _ d => uptoBulk d + 1
  | .map entries => uptoBulkEntries entries + 1
  | .held _ => 1
def uptoBulkAll {H : Type} : List (DataW H) → Nat
  | [] => 0
  | d :: r => uptoBulk d + uptoBulkAll r
def uptoBulkEntries {H : Type} : List (Lit × DataW H) → Nat
  | [] => 0
  | x :: r => uptoBulkEntry x + uptoBulkEntries r
def uptoBulkEntry {H : Type} : Lit × DataW H → Nat
  | (.string bytes, d) => bytes.length + uptoBulk d + 1
  | (_, d) => uptoBulk d + 1
 end
def uptoSmall : (H : Type) → List (DataW H) → Bool := fun _ ds => decide (uptoBulkAll ds ≤ 1048576)
def OpenSpec.upto (s : _root_.Go.ChangeSpec) : _root_.Go.OpenSpec := { _root_.Go.OpenSpec.ofChange s with cond := some uptoSmall }

/-- 'gleaningslaw23.TimerWaits', WHERE WHAT IT READS IS OF BULK AT MOST 1048576: true; the input reads as it did. -/
def timerWaitsUptoRow : OpenClaim := { program := "ytdgemajcplbllaa", sum := "746589184da7dab2a8f67e686c5cc2f7fcca4b3cdf8b13cf6b6ebbccfbdfc34b", func := "gleanings/gleaningslaw23.TimerWaits", spec := "timerWaits", unfollowed := true, recurses := true, apart := false, narrowed := true }
def TimerWaitsUptoSaid : Prop := timerWaitsUptoRow.holds Try.pinned (OpenSpec.upto timerWaitsSpec)

/-- 'gleaningslaw23.TimerEnds', WHERE WHAT IT READS IS OF BULK AT MOST 1048576: true; the input reads as it did. -/
def timerEndsUptoRow : OpenClaim := { program := "ytdgemajcplbllaa", sum := "746589184da7dab2a8f67e686c5cc2f7fcca4b3cdf8b13cf6b6ebbccfbdfc34b", func := "gleanings/gleaningslaw23.TimerEnds", spec := "timerEnds", unfollowed := true, recurses := true, apart := false, narrowed := true }
def TimerEndsUptoSaid : Prop := timerEndsUptoRow.holds Try.pinned (OpenSpec.upto timerEndsSpec)

/-- 'gleaningslaw23.TimerPlays', WHERE WHAT IT READS IS OF BULK AT MOST 1048576: true; the input reads as it did. -/
def timerPlaysUptoRow : OpenClaim := { program := "ytdgemajcplbllaa", sum := "746589184da7dab2a8f67e686c5cc2f7fcca4b3cdf8b13cf6b6ebbccfbdfc34b", func := "gleanings/gleaningslaw23.TimerPlays", spec := "timerPlays", unfollowed := true, recurses := true, apart := false, narrowed := true }
def TimerPlaysUptoSaid : Prop := timerPlaysUptoRow.holds Try.pinned (OpenSpec.upto timerPlaysSpec)

/-- 'gleaningslaw23.TimerStops', WHERE WHAT IT READS IS OF BULK AT MOST 1048576: true; the input reads as it did. -/
def timerStopsUptoRow : OpenClaim := { program := "ytdgemajcplbllaa", sum := "746589184da7dab2a8f67e686c5cc2f7fcca4b3cdf8b13cf6b6ebbccfbdfc34b", func := "gleanings/gleaningslaw23.TimerStops", spec := "timerStops", unfollowed := true, recurses := true, apart := false, narrowed := true }
def TimerStopsUptoSaid : Prop := timerStopsUptoRow.holds Try.pinned (OpenSpec.upto timerStopsSpec)

/-- 'gleaningslaw34.BoundTells', WHERE WHAT IT READS IS OF BULK AT MOST 1048576: true; the input reads as it did. -/
def boundTellsUptoRow : OpenClaim := { program := "ytdgemajcplbllaa", sum := "746589184da7dab2a8f67e686c5cc2f7fcca4b3cdf8b13cf6b6ebbccfbdfc34b", func := "gleanings/gleaningslaw34.BoundTells", spec := "boundTells", unfollowed := true, recurses := true, apart := false, narrowed := true }
def BoundTellsUptoSaid : Prop := boundTellsUptoRow.holds Try.pinned (OpenSpec.upto boundTellsSpec)

/-- 'gleaningslaw34.BoundGrows', WHERE WHAT IT READS IS OF BULK AT MOST 1048576: true; the input reads as it did. -/
def boundGrowsUptoRow : OpenClaim := { program := "ytdgemajcplbllaa", sum := "746589184da7dab2a8f67e686c5cc2f7fcca4b3cdf8b13cf6b6ebbccfbdfc34b", func := "gleanings/gleaningslaw34.BoundGrows", spec := "boundGrows", unfollowed := true, recurses := true, apart := false, narrowed := true }
def BoundGrowsUptoSaid : Prop := boundGrowsUptoRow.holds Try.pinned (OpenSpec.upto boundGrowsSpec)

end Rows
end Go.Proofs.Ytdgemajcplbllaa
