/- TimerEnds: whatever the three numbers are, the law returns true: a timer that is asked all the time ends just its longest behind its start, having fired its tries. No condition. -/
import Derived.Test.YtdgemajcplbllaaRows
import Derived.Test.YtdgemajcplbllaaTimE
import Derived.Test.YtdgemajcplbllaaEngX
import Derived.WalkKit
import Derived.ProofKit
import Derived.OpenShut
namespace Go.Proofs.Ytdgemajcplbllaa.timerEnds
open Go.ChangeShapes Go.WideShapes Go.ChangeAt Go.RowKit Go.Eng
set_option linter.unusedVariables false
set_option linter.unusedSimpArgs false

theorem own : ownKnob Try.prog.godebug = none := by kernel_rfl
theorem laidOut : laidOutB Try.prog = true := by kernel_rfl

set_option maxRecDepth 100000 in
theorem lifted (os : Os) (started : os.Started) (H : Type) (enc : TypeId × Value → H) :
    ReturnsInHanded {} Try.checked os 4 .any (Rows.timerEndsSpec.pre6 enc Try.prog Try.f4 Rows.timerEndsRow.domain false) (Rows.timerEndsSpec.post enc Try.prog Try.f4 false true false false) := by
  refine returnsInHanded_of_change (C := Try.checked) own started (by kernel_rfl) Try.func4
    (ChangeSpec.witness6 (enc := enc) (C := Try.checked) false ⟨#[], #[.int .u8 0, .int .u8 0, .int .i64 0], []⟩ 8 (by kernel_rfl) (by kernel_rfl) (by kernel_rfl) (by kernel_rfl)) ?_
  intro W base args ds gs before hval0 hW hcnd _
  have hval : ∀ (j : Nat) t v, Try.f4.params[j]? = some t → args[j]? = some v → Value.okWide Try.prog W .any base t v := hval0
  have hW' := hW
  obtain ⟨p, q, hA0, hV, rfl, hfz, hnd⟩ := hW
  have hA : DataW.TrodAll enc Try.prog W 0 (fun _ => true) true Try.f4.params.toList args.toList ds p := hA0
  rw [Try.params4] at hA hval
  obtain ⟨v0, vs0, d0, ds0, p0, q0, hargs, rfl, rfl, h0, r0⟩ := trodAll_cons hA
  obtain ⟨v1, vs1, d1, ds1, p1, q1, rfl, rfl, rfl, h1, r1⟩ := trodAll_cons r0
  obtain ⟨v2, vs2, d2, ds2, p2, q2, rfl, rfl, rfl, h2, r2⟩ := trodAll_cons r1
  obtain ⟨rfl, rfl, rfl⟩ := trodAll_nil r2
  obtain rfl : args = #[v0, v1, v2] := by cases args; simp_all
  obtain ⟨rfl, rfl⟩ := trodVars_none hV
  have k0 := h0
  obtain ⟨x0, hb0, rfl⟩ := arg_int Try.underlying5 (hval 0 5 v0 rfl rfl) h0
  have s0 : Sat (startE W) W (.v (.int .u8 x0)) (.int .u8 x0) := .v _
  have k1 := h1
  obtain ⟨x1, hb1, rfl⟩ := arg_int Try.underlying5 (hval 1 5 v1 rfl rfl) h1
  have s1 : Sat (startE W) W (.v (.int .u8 x1)) (.int .u8 x1) := .v _
  have k2 := h2
  obtain ⟨x2, hb2, rfl⟩ := arg_int Try.underlying3 (hval 2 3 v2 rfl rfl) h2
  have s2 : Sat (startE W) W (.v (.int .i64 x2)) (.int .i64 x2) := .v _
  have hlt0 : ∀ x ∈ p0, x.block < W.heap.size := fun x hx => by simpa using hW'.lt x (by simp [hx])
  have hlt1 : ∀ x ∈ p1, x.block < W.heap.size := fun x hx => by simpa using hW'.lt x (by simp [hx])
  have hlt2 : ∀ x ∈ p2, x.block < W.heap.size := fun x hx => by simpa using hW'.lt x (by simp [hx])
  clear hA0 hval0
  have walk := law_of ends_ok (⟨x0, x1, x2⟩ : EndX) (by have h1 : IntKind.u8.min = 0 := rfl; have h2 : IntKind.u8.max = 255 := rfl; dsimp only; omega) rfl rfl (vals := #[.int .u8 x0, .int .u8 x1, .int .i64 x2]) (w := W) rfl (fun j s hj => by
    match j, hj with
    | 0, hj => obtain rfl := Option.some.inj hj; exact s0
    | 1, hj => obtain rfl := Option.some.inj hj; exact s1
    | 2, hj => obtain rfl := Option.some.inj hj; exact s2
    | j + 3, hj => exact absurd hj (by simp))
  refine walk.mono fun e W' ⟨he, hg, hbelow⟩ => ?_
  subst he
  refine ⟨_, rfl, post_of_same (pa := p0 ++ (p1 ++ (p2 ++ ([])))) (pv := []) hW' (fun _ _ _ => (trodAll_cons_mk (shut_bool Try.underlying4 _) trodAll_mk0)) (fun sp hsp => (trodAll_cons_mk (WideElems.Trod_stays laidOut (by kernel_rfl) (of_decide_eq_true (by kernel_rfl)) k0 (fun x hx => hbelow.same (hlt0 x hx)) (fun x hx => hsp x (by simp [hx]))) (trodAll_cons_mk (WideElems.Trod_stays laidOut (by kernel_rfl) (of_decide_eq_true (by kernel_rfl)) k1 (fun x hx => hbelow.same (hlt1 x hx)) (fun x hx => hsp x (by simp [hx]))) (trodAll_cons_mk (WideElems.Trod_stays laidOut (by kernel_rfl) (of_decide_eq_true (by kernel_rfl)) k2 (fun x hx => hbelow.same (hlt2 x hx)) (fun x hx => hsp x (by simp [hx]))) trodAll_mk0)))) (fun _ _ => rfl) (by simp)
    (hg.frame _) hg.2.1 (ok_one (by kernel_rfl) rfl (okWide_bool_mk Try.underlying4 _))⟩

theorem over : Rows.timerEndsRow.holds Try.pinned (OpenSpec.ofChange Rows.timerEndsSpec) :=
  OpenClaim.holds_of_wide 4 Try.f4 rfl rfl rfl rfl rfl rfl rfl ⟨rfl, rfl, rfl, rfl, rfl⟩ rfl rfl rfl rfl rfl (by kernel_rfl) Try.func4 (by kernel_rfl)
    (of_decide_eq_true (by kernel_rfl)) (by unfold Func.isWrapper; first | (rw [if_pos (by decide +kernel)]; kernel_rfl) | (rw [if_neg (by decide +kernel)]; exact ⟨rfl, rfl⟩))
    (fun os started H enc _ => lifted os started H enc)

theorem proved : Rows.TimerEndsSaid :=
  over
#print axioms proved
end Go.Proofs.Ytdgemajcplbllaa.timerEnds
