/- BoundTells: the bounds are those that the document specifies: the law returns true for every input. No condition. -/
import Derived.Test.YtdgemajcplbllaaRows
import Derived.Test.YtdgemajcplbllaaBndF
import Derived.Test.YtdgemajcplbllaaEngX
import Derived.WalkKit
import Derived.ProofKit
import Derived.OpenShut
namespace Go.Proofs.Ytdgemajcplbllaa.boundTells
open Go.ChangeShapes Go.WideShapes Go.ChangeAt Go.RowKit Go.Eng
set_option linter.unusedVariables false
set_option linter.unusedSimpArgs false

theorem own : ownKnob Try.prog.godebug = none := by kernel_rfl
theorem laidOut : laidOutB Try.prog = true := by kernel_rfl

set_option maxRecDepth 100000 in
theorem lifted (os : Os) (started : os.Started) (H : Type) (enc : TypeId × Value → H) :
    ReturnsInHanded {} Try.checked os 7 .any (Rows.boundTellsSpec.pre6 enc Try.prog Try.f7 Rows.boundTellsRow.domain false) (Rows.boundTellsSpec.post enc Try.prog Try.f7 false true false false) := by
  refine returnsInHanded_of_change (C := Try.checked) own started (by kernel_rfl) Try.func7
    (ChangeSpec.witness6 (enc := enc) (C := Try.checked) false ⟨#[], #[.agg #[.int .i64 0, .int .i64 0, .int .i64 0, .int .i64 0, .int .i64 0, .int .i64 0, .slice none 0 0]], []⟩ 8 (by kernel_rfl) (by kernel_rfl) (by kernel_rfl) (by kernel_rfl)) ?_
  intro W base args ds gs before hval0 hW hcnd _
  have hval : ∀ (j : Nat) t v, Try.f7.params[j]? = some t → args[j]? = some v → Value.okWide Try.prog W .any base t v := hval0
  have hW' := hW
  obtain ⟨p, q, hA0, hV, rfl, hfz, hnd⟩ := hW
  have hA : DataW.TrodAll enc Try.prog W 0 (fun _ => true) true Try.f7.params.toList args.toList ds p := hA0
  rw [Try.params7] at hA hval
  obtain ⟨v0, vs0, d0, ds0, p0, q0, hargs, rfl, rfl, h0, r0⟩ := trodAll_cons hA
  obtain ⟨rfl, rfl, rfl⟩ := trodAll_nil r0
  obtain rfl : args = #[v0] := by cases args; simp_all
  obtain ⟨rfl, rfl⟩ := trodVars_none hV
  have k0 := h0
  obtain ⟨x0, hb0, s0⟩ := arg_struct (T := caseT) 30 Try.underlying52 (hval 0 52 v0 rfl rfl) (by kernel_rfl) h0
  have hlt0 : ∀ x ∈ p0, x.block < W.heap.size := fun x hx => by simpa using hW'.lt x (by simp [hx])
  clear hA0 hval0
  have walk := law_of tells_ok (⟨⟨x0.1.1, x0.1.2.1, x0.1.2.2.1, x0.1.2.2.2⟩, x0.2.1, x0.2.2.1, x0.2.2.2⟩ : CaseX) (⟨hb0.2.2.2.1, fun i hi => ⟨(hb0.2.2.2.2 i hi).1, (hb0.2.2.2.2 i hi).2.2.1.1, (hb0.2.2.2.2 i hi).2.2.2.2.1⟩⟩) rfl rfl (vals := #[v0]) (w := W) rfl (fun j s hj => by
    match j, hj with
    | 0, hj => obtain rfl := Option.some.inj hj; exact s0
    | j + 1, hj => exact absurd hj (by simp))
  refine walk.mono fun e W' ⟨he, hbelow⟩ => ?_
  subst he
  have hold : ∀ p ∈ (p0 ++ ([])) ++ ([] : List MemPlace), (fun b => decide (b < W.heap.size)) p.block = true := fun p hp => by simpa using hW'.lt p hp
  refine ⟨_, rfl, _, _, _, [], p0 ++ ([]), [], hW', (trodAll_cons_mk (shut_bool Try.underlying4 _) trodAll_mk0), ?_, rfl, hbelow.frame _, fun h => by cases h⟩
  have hsp : ∀ x ∈ (p0 ++ ([])) ++ ([] : List MemPlace), decide (x.block < W.heap.size) = true := hold
  exact (trodAll_cons_mk (WideElems.Trod_stays laidOut (by kernel_rfl) (of_decide_eq_true (by kernel_rfl)) k0 (fun x hx => hbelow.same (hlt0 x hx)) (fun x hx => hsp x (by simp [hx]))) trodAll_mk0)

theorem over : Rows.boundTellsRow.holds Try.pinned (OpenSpec.ofChange Rows.boundTellsSpec) :=
  OpenClaim.holds_of_wide 7 Try.f7 rfl rfl rfl rfl rfl rfl rfl ⟨rfl, rfl, rfl, rfl, rfl⟩ rfl rfl rfl rfl rfl (by kernel_rfl) Try.func7 (by kernel_rfl)
    (of_decide_eq_true (by kernel_rfl)) (by unfold Func.isWrapper; first | (rw [if_pos (by decide +kernel)]; kernel_rfl) | (rw [if_neg (by decide +kernel)]; exact ⟨rfl, rfl⟩))
    (fun os started H enc _ => lifted os started H enc)

theorem proved : Rows.BoundTellsSaid :=
  over
#print axioms proved
end Go.Proofs.Ytdgemajcplbllaa.boundTells
