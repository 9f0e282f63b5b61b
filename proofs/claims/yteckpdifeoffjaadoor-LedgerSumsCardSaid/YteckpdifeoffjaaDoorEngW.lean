/- The engine, part W: a law's walk out of its contract. -/
import Derived.Test.YteckpdifeoffjaaDoorEngO
import Derived.RowKit3
import Derived.Below
set_option linter.unusedVariables false
namespace Go.Eng
open Go.RowKit (Below)

/-- All that lies in memory at the start is only read. -/
def startE (w : World) : Env := ⟨fun j => match nilB j with | true => some nilSlot | false => none, fun b => b < w.heap.size, fun _ => False⟩

theorem startE_nil (w : World) : NilOk (startE w) := fun i hi => by simp [startE, hi]

theorem law_of {C : Ctr} {P : Program} {f : FuncId} (h : C.ok P f) (x : C.X) (hs : C.side x) (hrw : C.rw x = []) (hres : C.res x (C.val x) = .v (.bool true)) {vals : Array Value} {w : World}
    (hsz : vals.size = (C.args x).length) (hg : GlobOk (startE w) w) (hv : ∀ (j : Nat) (s : SV), (C.args x)[j]? = some s → Sat (startE w) w s (vals.getD j undef)) :
    Calls P f vals w fun e w' => e = .returned (.bool true) ∧ Below w.heap.size w w' := by
  obtain ⟨_, hc⟩ := h x hs
  have hE : EntsSat (startE w) w (fun _ _ => False) (C.rw x) := by
    rw [hrw]
    exact ⟨fun id b hb => hb, fun id b hb => hb.elim, fun id b hb => hb.elim, fun id b hb => hb.elim, fun i j b _ hb => hb.elim, fun b hb => hb.elim id (fun h => h.elim), startE_nil w, hg⟩
  have hcall := hc (startE w) (fun _ _ => False) vals w hsz hv hE (fun id hne => by
    cases hz : nilB id with
    | true => exact .inr rfl
    | false => exact absurd (by simp [startE, hz]) hne)
  refine Calls.mono (callsIn_wide.1 hcall) ?_
  rintro e w' ⟨v, E', fp', rfl, hsat, _, hadv, _⟩
  rw [hres] at hsat
  cases hsat
  have hkeep := hadv.keep
  have hsame : ∀ b, b < w.heap.size → w'.heap[b]? = w.heap[b]? := fun b hb => hkeep.same b hb (fun ⟨_, h⟩ => h)
  exact ⟨rfl, ⟨hkeep.os, hkeep.tape.tape, hkeep.output, hkeep.size, hsame⟩⟩

end Go.Eng
