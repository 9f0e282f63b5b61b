/- VerTexts: Text and Parse agree with the document for all items and strings: the law returns true for every input. No condition. -/
import Derived.Test.YthmbdjhlfieldaaGreatDoorPk11
import Derived.Test.YthmbdjhlfieldaaGreatDoorRows
import Derived.WalkKit
import Derived.ProofKit
import Derived.OpenShut
import Derived.Test.YthmbdjhlfieldaaGreatDoorCards
import Derived.Test.YthmbdjhlfieldaaGreatDoorTie
import Derived.SevenTiedAt
import Derived.LaidMore
import Derived.Lay
import Derived.Stop.Joined
namespace Go.Proofs.YthmbdjhlfieldaaGreatDoor.verTexts
open Go.ChangeShapes Go.WideShapes Go.ChangeAt Go.RowKit Go.Eng
set_option linter.unusedVariables false
set_option linter.unusedSimpArgs false

theorem own : ownKnob Tryz.prog.godebug = none := by kernel_rfl
theorem laidOut : laidOutB Tryz.prog = true := by kernel_rfl

/-- What the row lists. -/
@[reducible] def laidL : List (String × DataW Unit) := Rows.verTextsRow.laid
theorem glob {W : World} (h : laidMetH Tryz.prog laidL W) (hs : W.ShapedOpen Tryz.prog) : GlobOk (startE W) W := fun g p hp => by
  rcases List.mem_cons.1 hp with e | hp
  · obtain ⟨rfl, rfl⟩ := Prod.mk.inj e
    exact laid_tab (k := .u64) (t := 179) (e := 99) (n := 20) (zs := (List.range 20).map fun i => ((10 ^ i : Nat) : Int)) (by kernel_rfl) (by kernel_rfl) (List.mem_of_getElem? (i := 2) rfl) (by kernel_rfl) (by kernel_rfl) (by kernel_rfl) (by kernel_rfl) (by kernel_rfl) (by kernel_rfl) h
  rcases List.mem_cons.1 hp with e | hp
  · obtain ⟨rfl, rfl⟩ := Prod.mk.inj e
    exact laid_iface (t := 121) (by kernel_rfl) (List.mem_of_getElem? (i := 5) rfl) (by kernel_rfl) (by kernel_rfl) Tryz.underlying121 h
  rcases List.mem_cons.1 hp with e | hp
  · obtain ⟨rfl, rfl⟩ := Prod.mk.inj e
    exact laid_iface (t := 121) (by kernel_rfl) (List.mem_of_getElem? (i := 4) rfl) (by kernel_rfl) (by kernel_rfl) Tryz.underlying121 h
  rcases List.mem_cons.1 hp with e | hp
  · obtain ⟨rfl, rfl⟩ := Prod.mk.inj e
    exact shaped_int (t := 3) (zero := #[.int .i64 0]) hs (by decide +kernel) (by kernel_rfl) rfl (by kernel_rfl) (by kernel_rfl) Tryz.underlying3
  · cases hp
theorem door_met (os : Os) (args : Array Value) : laidMetH Tryz.prog laidL ((World.laidAll Tryz.prog os laidL).forCall (fun _ _ => 0) ⟨#[], args, []⟩).memory := by
  rw [MakeChecks.laidMetH_plain _ _ _ (by kernel_rfl)]
  exact laidMet_laidAll _ (by kernel_rfl) (by kernel_rfl)

set_option maxRecDepth 100000 in
theorem lifted (os : Os) (started : os.Started) (H : Type) (enc : TypeId × Value → H) :
    ReturnsInHanded {} Tryz.checked os 3 .any (fun w args => (Rows.verTextsSpec.pre enc Tryz.prog Tryz.f3 [] false w args ∧ laidMetH Tryz.prog laidL w) ∧ sizedMet enc Tryz.prog Tryz.f3 (OpenSpec.ofChange Rows.verTextsSpec) false w args)
      (Rows.verTextsSpec.post enc Tryz.prog Tryz.f3 false true false false) := by
  refine handed_both (C := Tryz.checked) (X := fun w _ => laidMetH Tryz.prog laidL w) (fun _ _ _ hh h => h.of_heap hh) own started (by kernel_rfl) Tryz.func3
    (ChangeSpec.witness_shaped (enc := enc) (C := Tryz.checked) (os := os) (X := fun w _ => laidMetH Tryz.prog laidL w) false (World.laidAll Tryz.prog os laidL) #[.agg #[.string ⟨#[]⟩, .int .i64 0, .int .i64 0, .slice none 0 0, .bool false, .slice none 0 0], .string ⟨#[]⟩] 8 (World.laidAll_os _ _ _) (World.shaped_of_ZipB (by kernel_rfl) (by kernel_rfl)) (by kernel_rfl) (by kernel_rfl) (by kernel_rfl) (door_met os _)) ?_
  intro W base args ds gs before hval0 hW hL hSh
  have hval : ∀ (j : Nat) t v, Tryz.f3.params[j]? = some t → args[j]? = some v → Value.okWide Tryz.prog W .any base t v := hval0
  have hW' := hW
  obtain ⟨p, q, hA0, hV, rfl, hfz, hnd⟩ := hW
  have hA : DataW.TrodAll enc Tryz.prog W 0 (fun _ => true) true Tryz.f3.params.toList args.toList ds p := hA0
  rw [Tryz.params3] at hA hval
  obtain ⟨v0, vs0, d0, ds0, p0, q0, hargs, rfl, rfl, h0, r0⟩ := trodAll_cons hA
  obtain ⟨v1, vs1, d1, ds1, p1, q1, rfl, rfl, rfl, h1, r1⟩ := trodAll_cons r0
  obtain ⟨rfl, rfl, rfl⟩ := trodAll_nil r1
  obtain rfl : args = #[v0, v1] := by cases args; simp_all
  obtain ⟨rfl, rfl⟩ := trodVars_none hV
  have k0 := h0
  obtain ⟨x0, hb0, s0⟩ := arg_struct (T := itemT) 30 Tryz.underlying28 (hval 0 28 v0 rfl rfl) (by kernel_rfl) h0
  have k1 := h1
  obtain ⟨x1, hb1, rfl⟩ := arg_str 30 Tryz.underlying9 (hval 1 9 v1 rfl rfl) (by kernel_rfl) h1
  have s1 : Sat (startE W) W (.v (.string x1)) (.string x1) := .v _
  have hlt0 : ∀ x ∈ p0, x.block < W.heap.size := fun x hx => by simpa using hW'.lt x (by simp [hx])
  have hlt1 : ∀ x ∈ p1, x.block < W.heap.size := fun x hx => by simpa using hW'.lt x (by simp [hx])
  clear hA0 hval0
  have walk := law_of vtx_ok ⟨x0, x1⟩ (⟨okZ_T hb0, hb1⟩) rfl rfl (vals := #[v0, .string x1]) (w := W) rfl (glob hL hSh) (fun j s hj => by
    match j, hj with
    | 0, hj => obtain rfl := Option.some.inj hj; exact s0
    | 1, hj => obtain rfl := Option.some.inj hj; exact s1
    | j + 2, hj => exact absurd hj (by simp))
  refine walk.mono fun e W' ⟨he, hbelow⟩ => ?_
  subst he
  have hold : ∀ p ∈ (p0 ++ (p1 ++ ([]))) ++ ([] : List MemPlace), (fun b => decide (b < W.heap.size)) p.block = true := fun p hp => by simpa using hW'.lt p hp
  refine ⟨_, rfl, _, _, _, [], p0 ++ (p1 ++ ([])), [], hW', (trodAll_cons_mk (shut_bool Tryz.underlying4 _) trodAll_mk0), ?_, rfl, hbelow.frame _, fun h => by cases h⟩
  have hsp : ∀ x ∈ (p0 ++ (p1 ++ ([]))) ++ ([] : List MemPlace), decide (x.block < W.heap.size) = true := hold
  exact (trodAll_cons_mk (WideElems.Trod_stays laidOut (by kernel_rfl) (of_decide_eq_true (by kernel_rfl)) k0 (fun x hx => hbelow.same (hlt0 x hx)) (fun x hx => hsp x (by simp [hx]))) (trodAll_cons_mk (WideElems.Trod_stays laidOut (by kernel_rfl) (of_decide_eq_true (by kernel_rfl)) k1 (fun x hx => hbelow.same (hlt1 x hx)) (fun x hx => hsp x (by simp [hx]))) trodAll_mk0))

theorem over : Rows.verTextsRow.holds Tryz.pinned (OpenSpec.ofChange Rows.verTextsSpec) :=
  OpenClaim.holds_of_wide 3 Tryz.f3 rfl rfl rfl rfl rfl rfl rfl ⟨rfl, rfl, rfl, rfl, rfl⟩ rfl rfl rfl rfl rfl (by kernel_rfl) Tryz.func3 (by kernel_rfl)
    (of_decide_eq_true (by kernel_rfl)) (by unfold Func.isWrapper; first | (rw [if_pos (by decide +kernel)]; kernel_rfl) | (rw [if_neg (by decide +kernel)]; exact ⟨rfl, rfl⟩))
    (fun os started H enc _ => lifted os started H enc)

theorem row_num : Tryz.prog.funcNamed Rows.verTextsRow.func = some 3 := by kernel_rfl
theorem proved : Rows.VerTextsCardSaid :=
  Claim7.holds_tied_plain_at .later [] Rows.verTextsCard.laidKinds true Rows.verTextsCard.stood.harness Rows.verTextsCard.stood.looks
    over (fun _ h => by cases h) (by kernel_rfl) (fun _ h => by cases h) verTexts_row_tie rfl ⟨rfl, rfl⟩ (by kernel_rfl) rfl
    (fun f fn hf hfn => by
      obtain rfl : f = 3 := Option.some.inj (row_num.symm.trans hf) |>.symm
      obtain rfl : fn = Tryz.f3 := (Option.some.inj (Tryz.func3.symm.trans hfn)).symm
      exact ⟨by kernel_rfl, fun j t ht => by
        have hm : t ∈ Tryz.f3.params := Array.mem_of_getElem? ht
        have hall : (Tryz.f3.params.all fun u => !Tryz.prog.wantsStandIn u) = true := by kernel_rfl
        have hw := (Array.all_eq_true_iff_forall_mem.1 hall) t hm
        exact (show Tryz.prog.wantsStandIn t = false by simpa using hw)⟩)
    (by kernel_rfl)
#print axioms proved
end Go.Proofs.YthmbdjhlfieldaaGreatDoor.verTexts
