/- Ledger: what is answered ahead of everything else. -/
import Derived.Test.YteckpdifeoffjaaDoorLedG
set_option linter.unusedVariables false
set_option linter.unusedSimpArgs false
set_option maxRecDepth 100000
set_option maxHeartbeats 4000000
namespace Go.Proofs.YteckpdifeoffjaaDoor
open Go.Eng

def led0 : Nat → Nat × Nat := fun _ => (0, 0)
def led1 := sentF led0 1 30
def led2 := sentF led1 15 1
def led3 := sentF led2 1 12
def led4 := sentF led3 11 5
theorem ks4 : ksO (some led4) = [1, 11] := by decide +kernel
theorem row4_1 : led4 1 = (2, 42) := by decide +kernel
theorem row4_11 : led4 11 = (1, 5) := by decide +kernel
theorem text4 : textS (some led4) = ⟨#[49, 32, 50, 32, 52, 50, 44, 32, 49, 49, 32, 49, 32, 53]⟩ := by
  have e1 : fO (some led4) 1 = (2, 42) := row4_1
  have e2 : fO (some led4) 11 = (1, 5) := row4_11
  have d1 : decS 1 = ⟨#[49]⟩ := by unfold decS; rw [Lib.decDigits_one (by omega)]; rfl
  have d2 : decS 2 = ⟨#[50]⟩ := by unfold decS; rw [Lib.decDigits_one (by omega)]; rfl
  have d5 : decS 5 = ⟨#[53]⟩ := by unfold decS; rw [Lib.decDigits_one (by omega)]; rfl
  have d11 : decS 11 = ⟨#[49, 49]⟩ := by unfold decS; rw [Lib.decDigits_two (by omega) (by omega)]; rfl
  have d42 : decS 42 = ⟨#[52, 50]⟩ := by unfold decS; rw [Lib.decDigits_two (by omega) (by omega)]; rfl
  have hr1 : rowS (some led4) 1 = ⟨#[49, 32, 50, 32, 52, 50]⟩ := by unfold rowS; rw [e1, d1]; dsimp only; rw [d2, d42]; decide +kernel
  have hr2 : rowS (some led4) 11 = ⟨#[49, 49, 32, 49, 32, 53]⟩ := by unfold rowS; rw [e2, d11]; dsimp only; rw [d1, d5]; decide +kernel
  unfold textS
  rw [if_neg (by rw [ks4]; simp), ks4]
  unfold textL
  rw [ks4]
  simp only [List.length_cons, List.length_nil, List.take_succ_cons, List.take_zero, List.map_cons, List.map_nil, hr1, hr2]
  decide +kernel
theorem tot4 : foldK (some led4) (ksO (some led4)) = (3, 47) := by decide +kernel
theorem pay4 : satN (rowAt (some led4) 10).2 (rowAt (some led4) 11).2 = 5 := by decide +kernel
theorem is4 : isL (some led4) 2 = [1, 11] := by decide +kernel
theorem rs4 : rsL (some led4) 2 = [(2, 42), (1, 5)] := by decide +kernel
theorem okL0 : okL led0 := fun _ => ⟨Nat.zero_le _, Nat.zero_le _⟩
theorem okL_sent {f : Nat → Nat × Nat} (h : okL f) (k n : Int) : okL (sentF f k n) := by
  unfold sentF
  split
  · exact okL_set h (okR_sum _ _)
  · exact h

@[reducible] def firstC : Ctr := {
  X := Unit
  Y := Unit
  args := fun _ => []
  rw := fun _ => []
  side := fun x => True
  val := fun _ => ()
  ens := fun _ _ => True
  res := fun _ _ => .v (.bool true)
  out := fun _ _ => [] }
theorem knownFirst : Known Tryd.prog (gOf [(7, newC), (8, sentC), (16, lrC), (15, rowC), (18, textC), (11, totC), (12, payC)]) :=
  known_cons ⟨new_ok, Tryd.call7⟩ (known_cons ⟨sent_ok, Tryd.call8⟩ (known_cons ⟨lr_ok, Tryd.call16⟩ (known_cons ⟨row_ok, Tryd.call15⟩
  (known_cons ⟨text_ok, Tryd.call18⟩ (known_cons ⟨tot_ok, Tryd.call11⟩ (known_cons ⟨pay_ok, Tryd.call12⟩ (known_nil _)))))))
theorem first_ok : firstC.ok Tryd.prog 6 := by
  refine ok_of_vc (An := fun _ => anOf []) knownFirst mo Tryd.func6 (by kernel_rfl) (by kernel_rfl) (fun _ _ => trivial) (fun x hs => ?_)
  have o0 : ∀ f, some led0 = some f → okL f := fun f h => by cases h; exact okL0
  have o1 : ∀ f, some led1 = some f → okL f := fun f h => by cases h; exact okL_sent okL0 _ _
  have o2 : ∀ f, some led2 = some f → okL f := fun f h => by cases h; exact okL_sent (okL_sent okL0 _ _) _ _
  have o3 : ∀ f, some led3 = some f → okL f := fun f h => by cases h; exact okL_sent (okL_sent (okL_sent okL0 _ _) _ _) _ _
  have o4 : ∀ f, some led4 = some f → okL f := fun f h => by cases h; exact okL_sent (okL_sent (okL_sent (okL_sent okL0 _ _) _ _) _ _) _ _
  have b1 : ((some led0).isSome && sentB 1 30) = true := by decide +kernel
  have b2 : ((some led1).isSome && sentB 15 1) = false := by decide +kernel
  have g1 : rowAt (some led4) 1 = (2, 42) := row4_1
  have g2 := text4
  have g3 := tot4
  have g4 := pay4
  have g5 : isL (some led4) (cntR ⟨led4, 9⟩) = [1, 11] := by decide +kernel
  have g6 : rsL (some led4) (cntR ⟨led4, 9⟩) = [(2, 42), (1, 5)] := by decide +kernel
  ((repeat' ((conv => whnf) <;> first | exact True.intro | (guard_target =~ Fork _ _ _; first | refine F1 ?_ | refine F2 ?_ | refine F3 (fun h => ?_) fun h => ?_) | (guard_target =~ Ar _ _ _; first | refine A1 ?_ | refine A2 ?_) | (guard_target =~ AskL _ _; first | refine L1 ?_) | (guard_target =~ Go.Eng.Ask _ _; first | refine K1 ?_) | (guard_target =~ All' _ _; first | (refine Y2 fun y he he' hy => ?_; (try dsimp only at he he' hy)) | (refine Y1 fun y he hy => ?_; (try with_reducible conv at he => (rhs; whnf)); (try dsimp only at he hy)) | (refine All'.mk ?_; intro y hy)) | refine F4 (fun h => ?_) fun h => ?_ | refine R1 ?_ | refine Q1 ?_ | fail)); all_goals (conv => whnf))
  refine CallP.mk (C := newC) () ?_
  ((repeat' ((conv => whnf) <;> first | exact True.intro | (guard_target =~ Fork _ _ _; first | refine F1 ?_ | refine F2 ?_ | refine F3 (fun h => ?_) fun h => ?_) | (guard_target =~ Ar _ _ _; first | refine A1 ?_ | refine A2 ?_) | (guard_target =~ AskL _ _; first | refine L1 ?_) | (guard_target =~ Go.Eng.Ask _ _; first | refine K1 ?_) | (guard_target =~ All' _ _; first | (refine Y2 fun y he he' hy => ?_; (try dsimp only at he he' hy)) | (refine Y1 fun y he hy => ?_; (try with_reducible conv at he => (rhs; whnf)); (try dsimp only at he hy)) | (refine All'.mk ?_; intro y hy)) | refine F4 (fun h => ?_) fun h => ?_ | refine R1 ?_ | refine Q1 ?_ | fail)); all_goals (conv => whnf))
  refine CallP.mk (C := sentC) ⟨some led0, 1, 30⟩ ?_
  ((repeat' ((conv => whnf) <;> first | exact True.intro | (guard_target =~ Fork _ _ _; first | refine F1 ?_ | refine F2 ?_ | refine F3 (fun h => ?_) fun h => ?_) | (guard_target =~ Ar _ _ _; first | refine A1 ?_ | refine A2 ?_) | (guard_target =~ AskL _ _; first | refine L1 ?_) | (guard_target =~ Go.Eng.Ask _ _; first | refine K1 ?_) | (guard_target =~ All' _ _; first | (refine Y2 fun y he he' hy => ?_; (try dsimp only at he he' hy)) | (refine Y1 fun y he hy => ?_; (try with_reducible conv at he => (rhs; whnf)); (try dsimp only at he hy)) | (refine All'.mk ?_; intro y hy)) | refine F4 (fun h => ?_) fun h => ?_ | refine R1 ?_ | refine Q1 ?_ | fail)); all_goals (conv => whnf))
  refine CallP.mk (C := sentC) ⟨some led1, 15, 1⟩ ?_
  ((repeat' ((conv => whnf) <;> first | exact True.intro | (guard_target =~ Fork _ _ _; first | refine F1 ?_ | refine F2 ?_ | refine F3 (fun h => ?_) fun h => ?_) | (guard_target =~ Ar _ _ _; first | refine A1 ?_ | refine A2 ?_) | (guard_target =~ AskL _ _; first | refine L1 ?_) | (guard_target =~ Go.Eng.Ask _ _; first | refine K1 ?_) | (guard_target =~ All' _ _; first | (refine Y2 fun y he he' hy => ?_; (try dsimp only at he he' hy)) | (refine Y1 fun y he hy => ?_; (try with_reducible conv at he => (rhs; whnf)); (try dsimp only at he hy)) | (refine All'.mk ?_; intro y hy)) | refine F4 (fun h => ?_) fun h => ?_ | refine R1 ?_ | refine Q1 ?_ | fail)); all_goals (conv => whnf))
  refine CallP.mk (C := sentC) ⟨some led2, 1, 12⟩ ?_
  ((repeat' ((conv => whnf) <;> first | exact True.intro | (guard_target =~ Fork _ _ _; first | refine F1 ?_ | refine F2 ?_ | refine F3 (fun h => ?_) fun h => ?_) | (guard_target =~ Ar _ _ _; first | refine A1 ?_ | refine A2 ?_) | (guard_target =~ AskL _ _; first | refine L1 ?_) | (guard_target =~ Go.Eng.Ask _ _; first | refine K1 ?_) | (guard_target =~ All' _ _; first | (refine Y2 fun y he he' hy => ?_; (try dsimp only at he he' hy)) | (refine Y1 fun y he hy => ?_; (try with_reducible conv at he => (rhs; whnf)); (try dsimp only at he hy)) | (refine All'.mk ?_; intro y hy)) | refine F4 (fun h => ?_) fun h => ?_ | refine R1 ?_ | refine Q1 ?_ | fail)); all_goals (conv => whnf))
  refine CallP.mk (C := sentC) ⟨some led3, 11, 5⟩ ?_
  ((repeat' ((conv => whnf) <;> first | exact True.intro | (guard_target =~ Fork _ _ _; first | refine F1 ?_ | refine F2 ?_ | refine F3 (fun h => ?_) fun h => ?_) | (guard_target =~ Ar _ _ _; first | refine A1 ?_ | refine A2 ?_) | (guard_target =~ AskL _ _; first | refine L1 ?_) | (guard_target =~ Go.Eng.Ask _ _; first | refine K1 ?_) | (guard_target =~ All' _ _; first | (refine Y2 fun y he he' hy => ?_; (try dsimp only at he he' hy)) | (refine Y1 fun y he hy => ?_; (try with_reducible conv at he => (rhs; whnf)); (try dsimp only at he hy)) | (refine All'.mk ?_; intro y hy)) | refine F4 (fun h => ?_) fun h => ?_ | refine R1 ?_ | refine Q1 ?_ | fail)); all_goals (conv => whnf))
  have hF : led4 = sentF led3 11 5 := rfl
  rw [hF] at g1 g2 g3 g4 g5 g6 o4
  clear o0 o1 o2 o3 hF
  generalize sentF led3 11 5 = F at *
  have k1 : (((rowAt (some F) 1).1 : Int) == 2 && ((rowAt (some F) 1).2 : Int) == 42) = true := by rw [g1]; rfl
  have k2 : ((textS (some F)).toList == (⟨#[49, 32, 50, 32, 52, 50, 44, 32, 49, 49, 32, 49, 32, 53]⟩ : ByteArray).toList) = true := by rw [g2]; exact beq_self_eq_true _
  have k3 : (((foldK (some F) (ksO (some F))).1 : Int) == 3 && ((foldK (some F) (ksO (some F))).2 : Int) == 47) = true := by rw [g3]; rfl
  have k4 : ((satN (rowAt (some F) 10).2 (rowAt (some F) 11).2 : Nat) : Int) = 5 := by rw [g4]; rfl
  have k5 : (isL (some F) (cntR ⟨F, 9⟩)).length = 2 := by rw [g5]; rfl
  have k6 : (rsL (some F) (cntR ⟨F, 9⟩)).length = 2 := by rw [g6]; rfl
  have k7 : (rsL (some F) (cntR ⟨F, 9⟩))[1]? = some (1, 5) := by rw [g6]; rfl
  clear g1 g2 g3 g4 g5 g6
  refine CallP.mk (C := lrC) ⟨F, 9⟩ ?_
  ((repeat' ((conv => whnf) <;> first | exact True.intro | (guard_target =~ Fork _ _ _; first | refine F1 ?_ | refine F2 ?_ | refine F3 (fun h => ?_) fun h => ?_) | (guard_target =~ Ar _ _ _; first | refine A1 ?_ | refine A2 ?_) | (guard_target =~ AskL _ _; first | refine L1 ?_) | (guard_target =~ Go.Eng.Ask _ _; first | refine K1 ?_) | (guard_target =~ All' _ _; first | (refine Y2 fun y he he' hy => ?_; (try dsimp only at he he' hy)) | (refine Y1 fun y he hy => ?_; (try with_reducible conv at he => (rhs; whnf)); (try dsimp only at he hy)) | (refine All'.mk ?_; intro y hy)) | refine F4 (fun h => ?_) fun h => ?_ | refine R1 ?_ | refine Q1 ?_ | fail)); all_goals (conv => whnf))
  refine CallP.mk (C := rowC) (some F, 1) ?_
  ((repeat' ((conv => whnf) <;> first | exact True.intro | (guard_target =~ Fork _ _ _; first | refine F1 ?_ | refine F2 ?_ | refine F3 (fun h => ?_) fun h => ?_) | (guard_target =~ Ar _ _ _; first | refine A1 ?_ | refine A2 ?_) | (guard_target =~ AskL _ _; first | refine L1 ?_) | (guard_target =~ Go.Eng.Ask _ _; first | refine K1 ?_) | (guard_target =~ All' _ _; first | (refine Y2 fun y he he' hy => ?_; (try dsimp only at he he' hy)) | (refine Y1 fun y he hy => ?_; (try with_reducible conv at he => (rhs; whnf)); (try dsimp only at he hy)) | (refine All'.mk ?_; intro y hy)) | refine F4 (fun h => ?_) fun h => ?_ | refine R1 ?_ | refine Q1 ?_ | fail)); all_goals (conv => whnf))
  refine CallP.mk (C := textC) (some F) ?_
  ((repeat' ((conv => whnf) <;> first | exact True.intro | (guard_target =~ Fork _ _ _; first | refine F1 ?_ | refine F2 ?_ | refine F3 (fun h => ?_) fun h => ?_) | (guard_target =~ Ar _ _ _; first | refine A1 ?_ | refine A2 ?_) | (guard_target =~ AskL _ _; first | refine L1 ?_) | (guard_target =~ Go.Eng.Ask _ _; first | refine K1 ?_) | (guard_target =~ All' _ _; first | (refine Y2 fun y he he' hy => ?_; (try dsimp only at he he' hy)) | (refine Y1 fun y he hy => ?_; (try with_reducible conv at he => (rhs; whnf)); (try dsimp only at he hy)) | (refine All'.mk ?_; intro y hy)) | refine F4 (fun h => ?_) fun h => ?_ | refine R1 ?_ | refine Q1 ?_ | fail)); all_goals (conv => whnf))
  refine CallP.mk (C := totC) (some F) ?_
  ((repeat' ((conv => whnf) <;> first | exact True.intro | (guard_target =~ Fork _ _ _; first | refine F1 ?_ | refine F2 ?_ | refine F3 (fun h => ?_) fun h => ?_) | (guard_target =~ Ar _ _ _; first | refine A1 ?_ | refine A2 ?_) | (guard_target =~ AskL _ _; first | refine L1 ?_) | (guard_target =~ Go.Eng.Ask _ _; first | refine K1 ?_) | (guard_target =~ All' _ _; first | (refine Y2 fun y he he' hy => ?_; (try dsimp only at he he' hy)) | (refine Y1 fun y he hy => ?_; (try with_reducible conv at he => (rhs; whnf)); (try dsimp only at he hy)) | (refine All'.mk ?_; intro y hy)) | refine F4 (fun h => ?_) fun h => ?_ | refine R1 ?_ | refine Q1 ?_ | fail)); all_goals (conv => whnf))
  refine CallP.mk (C := payC) (some F) ?_
  ((repeat' ((conv => whnf) <;> first | exact True.intro | (guard_target =~ Fork _ _ _; first | refine F1 ?_ | refine F2 ?_ | refine F3 (fun h => ?_) fun h => ?_) | (guard_target =~ Ar _ _ _; first | refine A1 ?_ | refine A2 ?_) | (guard_target =~ AskL _ _; first | refine L1 ?_) | (guard_target =~ Go.Eng.Ask _ _; first | refine K1 ?_) | (guard_target =~ All' _ _; first | (refine Y2 fun y he he' hy => ?_; (try dsimp only at he he' hy)) | (refine Y1 fun y he hy => ?_; (try with_reducible conv at he => (rhs; whnf)); (try dsimp only at he hy)) | (refine All'.mk ?_; intro y hy)) | refine F4 (fun h => ?_) fun h => ?_ | refine R1 ?_ | refine Q1 ?_ | fail)); all_goals (conv => whnf))
  have hyy := hy.symm.trans k7
  cases hyy
  exact ⟨rfl, trivial⟩
