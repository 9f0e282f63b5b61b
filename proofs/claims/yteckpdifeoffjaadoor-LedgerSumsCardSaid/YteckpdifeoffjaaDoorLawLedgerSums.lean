/- LedgerSums: no number decreases, and the total is the sum of what was sent: the law returns true for every input. No condition. -/
import Derived.Test.YteckpdifeoffjaaDoorRows
import Derived.Test.YteckpdifeoffjaaDoorLedK
import Derived.Test.YteckpdifeoffjaaDoorEngX
import Derived.WalkKit
import Derived.ProofKit
import Derived.OpenShut
import Derived.Test.YteckpdifeoffjaaDoorEngY
import Derived.Test.YteckpdifeoffjaaDoorCards
import Derived.Test.YteckpdifeoffjaaDoorTie
import Derived.SevenTiedAt
import Derived.LaidMore
import Derived.Stop.Joined
namespace Go.Proofs.YteckpdifeoffjaaDoor.ledgerSums
open Go.ChangeShapes Go.WideShapes Go.ChangeAt Go.RowKit Go.Eng
set_option linter.unusedVariables false
set_option linter.unusedSimpArgs false

theorem own : ownKnob Tryd.prog.godebug = none := by kernel_rfl
theorem laidOut : laidOutB Tryd.prog = true := by kernel_rfl

/-- What the row lists. -/
@[reducible] def laidL : List (String × DataW Unit) := Rows.ledgerSumsRow.laid
theorem glob {W : World} (h : laidMetH Tryd.prog laidL W) : GlobOk (startE W) W := fun g p hp => by
  rcases List.mem_cons.1 hp with e | hp
  · obtain ⟨rfl, rfl⟩ := Prod.mk.inj e
    exact laid_tab (k := .u64) (t := 86) (e := 30) (n := 20) (zs := (List.range 20).map fun i => ((10 ^ i : Nat) : Int)) (by kernel_rfl) (by kernel_rfl) (List.mem_of_getElem? (i := 2) rfl) (by kernel_rfl) (by kernel_rfl) (by kernel_rfl) (by kernel_rfl) (by kernel_rfl) (by kernel_rfl) h
  · cases hp
theorem door_met (os : Os) (args : Array Value) : laidMetH Tryd.prog laidL ((World.doorLaid Tryd.prog 4000 os).forCall (fun _ _ => 0) ⟨#[], args, []⟩).memory :=
  laidMetH_of_parts3 (fuel := 8) (laidMet_of_run' 8 (by kernel_rfl) (by kernel_rfl)) (by kernel_rfl) (by kernel_rfl)

set_option maxRecDepth 100000 in
theorem lifted (os : Os) (started : os.Started) (H : Type) (enc : TypeId × Value → H) :
    ReturnsInHanded {} Tryd.checked os 5 .any (fun w args => (Rows.ledgerSumsSpec.pre enc Tryd.prog Tryd.f5 [] false w args ∧ laidMetH Tryd.prog laidL w) ∧ sizedMet enc Tryd.prog Tryd.f5 (OpenSpec.ofChange Rows.ledgerSumsSpec) false w args)
      (Rows.ledgerSumsSpec.post enc Tryd.prog Tryd.f5 false true false false) := by
  refine returnsInHanded_of_change_and (C := Tryd.checked) (X := fun w _ => laidMetH Tryd.prog laidL w) (fun _ _ _ hh h => h.of_heap hh) own started (by kernel_rfl) Tryd.func5
    (ChangeSpec.witness_shaped (enc := enc) (C := Tryd.checked) (os := os) (X := fun w _ => laidMetH Tryd.prog laidL w) false (World.doorLaid Tryd.prog 4000 os) #[.slice none 0 0, .agg #[.int .u64 0, .int .u64 0]] 8 rfl (World.shaped_of_RefB (by kernel_rfl) (by kernel_rfl)) (by kernel_rfl) (by kernel_rfl) (by kernel_rfl) (door_met os _)) ?_
  intro W base args ds gs before hval0 hW _ _ hL _
  have hval : ∀ (j : Nat) t v, Tryd.f5.params[j]? = some t → args[j]? = some v → Value.okWide Tryd.prog W .any base t v := hval0
  have hW' := hW
  obtain ⟨p, q, hA0, hV, rfl, hfz, hnd⟩ := hW
  have hA : DataW.TrodAll enc Tryd.prog W 0 (fun _ => true) true Tryd.f5.params.toList args.toList ds p := hA0
  rw [Tryd.params5] at hA hval
  obtain ⟨v0, vs0, d0, ds0, p0, q0, hargs, rfl, rfl, h0, r0⟩ := trodAll_cons hA
  obtain ⟨v1, vs1, d1, ds1, p1, q1, rfl, rfl, rfl, h1, r1⟩ := trodAll_cons r0
  obtain ⟨rfl, rfl, rfl⟩ := trodAll_nil r1
  obtain rfl : args = #[v0, v1] := by cases args; simp_all
  obtain ⟨rfl, rfl⟩ := trodVars_none hV
  have k0 := h0
  obtain ⟨x0, hb0, s0⟩ := arg_slice (a := twoT) 30 Tryd.underlying22 (hval 0 22 v0 rfl rfl) (by kernel_rfl) h0
  have k1 := h1
  obtain ⟨x1, hb1, s1⟩ := arg_struct (T := rowT) 30 Tryd.underlying32 (hval 1 32 v1 rfl rfl) (by kernel_rfl) h1
  have hlt0 : ∀ x ∈ p0, x.block < W.heap.size := fun x hx => by simpa using hW'.lt x (by simp [hx])
  have hlt1 : ∀ x ∈ p1, x.block < W.heap.size := fun x hx => by simpa using hW'.lt x (by simp [hx])
  clear hA0 hval0
  have walk := law_of lsI_ok ⟨x0, x1⟩ (⟨fun s h => ⟨hb0.2 s h 0, hb0.2 s h 1⟩, hb1.1, hb1.2⟩) rfl rfl (vals := #[v0, v1]) (w := W) rfl (glob hL) (fun j s hj => by
    match j, hj with
    | 0, hj => obtain rfl := Option.some.inj hj; exact s0
    | 1, hj => obtain rfl := Option.some.inj hj; exact s1
    | j + 2, hj => exact absurd hj (by simp))
  refine walk.mono fun e W' ⟨he, hbelow⟩ => ?_
  subst he
  have hold : ∀ p ∈ (p0 ++ (p1 ++ ([]))) ++ ([] : List MemPlace), (fun b => decide (b < W.heap.size)) p.block = true := fun p hp => by simpa using hW'.lt p hp
  refine ⟨_, rfl, _, _, _, [], p0 ++ (p1 ++ ([])), [], hW', (trodAll_cons_mk (shut_bool Tryd.underlying4 _) trodAll_mk0), ?_, rfl, hbelow.frame _, fun h => by cases h⟩
  have hsp : ∀ x ∈ (p0 ++ (p1 ++ ([]))) ++ ([] : List MemPlace), decide (x.block < W.heap.size) = true := hold
  exact (trodAll_cons_mk (WideElems.Trod_stays laidOut (by kernel_rfl) (of_decide_eq_true (by kernel_rfl)) k0 (fun x hx => hbelow.same (hlt0 x hx)) (fun x hx => hsp x (by simp [hx]))) (trodAll_cons_mk (WideElems.Trod_stays laidOut (by kernel_rfl) (of_decide_eq_true (by kernel_rfl)) k1 (fun x hx => hbelow.same (hlt1 x hx)) (fun x hx => hsp x (by simp [hx]))) trodAll_mk0))

theorem over : Rows.ledgerSumsRow.holds Tryd.pinned (OpenSpec.ofChange Rows.ledgerSumsSpec) :=
  OpenClaim.holds_of_wide 5 Tryd.f5 rfl rfl rfl rfl rfl rfl rfl ⟨rfl, rfl, rfl, rfl, rfl⟩ rfl rfl rfl rfl rfl (by kernel_rfl) Tryd.func5 (by kernel_rfl)
    (of_decide_eq_true (by kernel_rfl)) (by unfold Func.isWrapper; first | (rw [if_pos (by decide +kernel)]; kernel_rfl) | (rw [if_neg (by decide +kernel)]; exact ⟨rfl, rfl⟩))
    (fun os started H enc _ => lifted os started H enc)

theorem row_num : Tryd.prog.funcNamed Rows.ledgerSumsRow.func = some 5 := by kernel_rfl
theorem proved : Rows.LedgerSumsCardSaid :=
  Claim7.holds_tied_plain_at .later [] Rows.ledgerSumsCard.laidKinds true Rows.ledgerSumsCard.stood.harness false
    over (fun _ h => by cases h) (by kernel_rfl) (fun _ h => by cases h) ledgerSums_row_tie rfl ⟨rfl, rfl⟩ (by kernel_rfl) rfl
    (fun f fn hf hfn => by
      obtain rfl : f = 5 := Option.some.inj (row_num.symm.trans hf) |>.symm
      obtain rfl : fn = Tryd.f5 := (Option.some.inj (Tryd.func5.symm.trans hfn)).symm
      exact ⟨by kernel_rfl, fun j t ht => by
        have hm : t ∈ Tryd.f5.params := Array.mem_of_getElem? ht
        have hall : (Tryd.f5.params.all fun u => !Tryd.prog.wantsStandIn u) = true := by kernel_rfl
        have hw := (Array.all_eq_true_iff_forall_mem.1 hall) t hm
        exact (show Tryd.prog.wantsStandIn t = false by simpa using hw)⟩)
    (by kernel_rfl)
#print axioms proved
end Go.Proofs.YteckpdifeoffjaaDoor.ledgerSums
