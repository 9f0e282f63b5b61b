/- Parts of the proof, one behind the other (GetA, GetB, GetC, GetD, Rex, FstA, MisB, DckA, ReaA, MeeA, SetB, MisC, Itr, MisD, MisE, MisF, SetC). -/
import Derived.Test.YtoaaieiiamdopaaGreatDoorPk9
set_option linter.unusedVariables false
set_option linter.unusedSimpArgs false
set_option linter.unusedSectionVars false
set_option linter.unusedVariables false
set_option linter.unusedSimpArgs false
set_option maxRecDepth 100000
namespace Go.Proofs.YtoaaieiiamdopaaGreatDoor
open Go.Eng
theorem eyS_err {x : EyX} (h : ¬ x.e = 0) (m : Int) : eyS x m = (0, x) := if_neg h
/-- An eye's bytes are bytes. -/
def okE (x : EyX) : Prop := okY x.l ∧ x.l.length ≤ 274877906944
theorem eyS_ok {x : EyX} (h : okE x) (m : Int) (hm : 0 ≤ m) : okE (eyS x m).2 ∧ 0 ≤ (eyS x m).1 ∧ (eyS x m).1 ≤ m := by
  unfold eyS
  split
  · split
    · rename_i h1 h2
      unfold numF at h2
      split at h2
      · simp at h2
      · rename_i h3
        have hr := numS_rng h.1 h2
        refine ⟨⟨okY_drop h.1 _, ?_⟩, hr.2.2.1, ?_⟩
        · show (x.l.drop _).length ≤ _
          have := h.2
          rw [List.length_drop]; omega
        · show (numS x.l).1 ≤ m
          have : ¬ m < (numS x.l).1 := fun hh => h3 ⟨h2, hh⟩
          omega
    · exact ⟨⟨fun c hc => (nomatch hc), Nat.zero_le _⟩, Int.le_refl _, hm⟩
  · exact ⟨h, Int.le_refl _, hm⟩
def rd1 (x : EyX) : Run × EyX :=
  (((eyS x 7).1, (eyS (eyS x 7).2 1099511627776).1, (eyS (eyS x 7).2 1099511627776).1 + (eyS (eyS (eyS x 7).2 1099511627776).2 1099511627776).1),
    (eyS (eyS (eyS x 7).2 1099511627776).2 1099511627776).2)
theorem rd1_ok {x : EyX} (h : okE x) : okE (rd1 x).2 := by
  unfold rd1
  exact (eyS_ok (eyS_ok (eyS_ok h 7 (by omega)).1 1099511627776 (by omega)).1 1099511627776 (by omega)).1
theorem rd1_err {x : EyX} (h : ¬ x.e = 0) : (rd1 x).2 = x := by
  unfold rd1
  simp only [eyS_err h]
def rdN (x : EyX) : Nat → List Run × EyX
  | 0 => ([], x)
  | n + 1 => ((rdN x n).1 ++ [(rd1 (rdN x n).2).1], (rd1 (rdN x n).2).2)
theorem rdN_ok {x : EyX} (h : okE x) : ∀ n, okE (rdN x n).2
  | 0 => h
  | n + 1 => rd1_ok (rdN_ok h n)
theorem rdN_len (x : EyX) : ∀ n, (rdN x n).1.length = n
  | 0 => rfl
  | n + 1 => by show ((rdN x n).1 ++ [_]).length = _; rw [List.length_append, rdN_len x n]; rfl
theorem rdN_err {x : EyX} {i : Nat} (h : ¬ (rdN x i).2.e = 0) : ∀ k, (rdN x (i + k)).2 = (rdN x i).2
  | 0 => rfl
  | k + 1 => by
    have ih := rdN_err h k
    show (rd1 (rdN x (i + k)).2).2 = _
    rw [ih]; exact rd1_err h
def getN (x : EyX) : Nat := (eyS x 1024).1.toNat
def getP (x : EyX) : List Run × EyX := rdN (eyS x 1024).2 (getN x)
/-- What Get answers, and the eye behind it. -/
def getS (x : EyX) : List Run × EyX :=
  if (getP x).2.e = 0 then (if rightB (getP x).1 then getP x else ([], ⟨[], 11⟩)) else ([], (getP x).2)
theorem getS_err {x : EyX} {i : Nat} (hi : i ≤ getN x) (h : ¬ (rdN (eyS x 1024).2 i).2.e = 0) : getS x = ([], (rdN (eyS x 1024).2 i).2) := by
  have e : (getP x).2 = (rdN (eyS x 1024).2 i).2 := by
    have := rdN_err h (getN x - i)
    rw [show i + (getN x - i) = getN x by omega] at this
    exact this
  unfold getS
  rw [e, if_neg h]
end Go.Proofs.YtoaaieiiamdopaaGreatDoor

set_option linter.unusedVariables false
set_option linter.unusedSimpArgs false
set_option maxRecDepth 100000
set_option maxHeartbeats 4000000
namespace Go.Proofs.YtoaaieiiamdopaaGreatDoor
open Go.Eng
@[reducible] def dgetC : Ctr := {
  X := EyX
  Y := Unit
  args := fun x => [.ptr 0 0]
  rw := fun x => eyeE 0 x.l x.e
  side := fun x => okE x
  val := fun _ => ()
  ens := fun _ _ => True
  res := fun _ _ => .sl 1000
  out := fun x _ => (1000, .row 57 runT (getS x).1) :: eyeE 0 (getS x).2.l (getS x).2.e }
@[reducible] def dgetL (x : EyX) : LA := {
  X := Nat
  pre := fun i => i ≤ getN x
  mu := fun i => getN x - i
  T := fun i => [(0, .ptr 0 0), (3, .sl 2), (6, .v (.int .u64 (getN x : Nat))), (7, .v (.int .u64 (i : Nat)))]
  M := fun i => (2, .row 57 runT (rdN (eyS x 1024).2 i).1) :: eyeE 0 (rdN (eyS x 1024).2 i).2.l (rdN (eyS x 1024).2 i).2.e }
theorem knownGet1 : Known Tryz.prog (gOf [(50, eyNumC), (20, errC), (51, failC), (24, drightC)]) :=
  known_cons ⟨eyNum_ok, Tryz.call50⟩ (known_cons ⟨err_ok, Tryz.call20⟩ (known_cons ⟨fail_ok, Tryz.call51⟩ (known_cons ⟨dright_ok, Tryz.call24⟩ (known_nil _))))
theorem dget_ok : dgetC.ok Tryz.prog 14 := by
  refine ok_of_vc (An := fun x => anOf [(0, .loop (dgetL x))]) knownGet1 mo Tryz.func14 (by kernel_rfl) (by kernel_rfl) (fun _ _ => trivial) (fun (x : EyX) hs => ?_)
  have hs : okE x := hs
  obtain ⟨hx1, hn0, hn1⟩ := eyS_ok hs 1024 (by omega)
  have hN : (eyS x 1024).1 = ((getN x : Nat) : Int) := by unfold getN; omega
  have hso : okY x.l ∧ x.l.length ≤ 274877906944 := hs
  have hNl : getN x ≤ 1024 := by omega
  ((repeat' ((conv => whnf) <;> first | exact True.intro | (guard_target =~ Fork _ _ _; first | refine F1 ?_ | refine F2 ?_ | refine F3 (fun h => ?_) fun h => ?_) | (guard_target =~ Ar _ _ _; first | refine A1 ?_ | refine A2 ?_ | refine A3 ?_) | (guard_target =~ AskL _ _; first | refine L1 ?_) | (guard_target =~ Go.Eng.Ask _ _; first | refine K1 ?_) | (guard_target =~ All' _ _; first | (refine Y2 fun y he he' hy => ?_; (try dsimp only at he he' hy)) | (refine Y1 fun y he hy => ?_; (try with_reducible conv at he => (rhs; whnf)); (try dsimp only at he hy)) | (refine All'.mk ?_; intro y hy)) | refine F4 (fun h => ?_) fun h => ?_ | refine R1 ?_ | refine Q1 ?_ | fail)); all_goals (conv => whnf))
  refine CallP.mk (C := eyNumC) (x, 1024) ?_
  ((repeat' ((conv => whnf) <;> first | exact True.intro | (guard_target =~ Fork _ _ _; first | refine F1 ?_ | refine F2 ?_ | refine F3 (fun h => ?_) fun h => ?_) | (guard_target =~ Ar _ _ _; first | refine A1 ?_ | refine A2 ?_ | refine A3 ?_) | (guard_target =~ AskL _ _; first | refine L1 ?_) | (guard_target =~ Go.Eng.Ask _ _; first | refine K1 ?_) | (guard_target =~ All' _ _; first | (refine Y2 fun y he he' hy => ?_; (try dsimp only at he he' hy)) | (refine Y1 fun y he hy => ?_; (try with_reducible conv at he => (rhs; whnf)); (try dsimp only at he hy)) | (refine All'.mk ?_; intro y hy)) | refine F4 (fun h => ?_) fun h => ?_ | refine R1 ?_ | refine Q1 ?_ | fail)); all_goals (conv => whnf))
  refine Some'.mk (0 : Nat) ?_
  ((repeat' ((conv => whnf) <;> first | exact True.intro | (guard_target =~ Fork _ _ _; first | refine F1 ?_ | refine F2 ?_ | refine F3 (fun h => ?_) fun h => ?_) | (guard_target =~ Ar _ _ _; first | refine A1 ?_ | refine A2 ?_ | refine A3 ?_) | (guard_target =~ Go.Eng.Ask _ _; first | refine K1 ?_) | (guard_target =~ All' _ _; first | (refine Y2 fun y he he' hy => ?_; (try dsimp only at he he' hy)) | (refine Y1 fun y he hy => ?_; (try with_reducible conv at he => (rhs; whnf)); (try dsimp only at he hy)) | (refine All'.mk ?_; intro y hy)) | refine F4 (fun h => ?_) fun h => ?_ | refine R1 ?_ | refine Q1 ?_ | fail)); all_goals (conv => whnf))
  refine AskL.mk ?_ (Ask.mk (Nat.zero_le _) ?_)
  · (dsimp only [conj]; repeat' apply And.intro) <;> first | rfl | exact hN
  refine AllI.mk ?_
  rintro (i : Nat) hi
  have hi : i ≤ getN x := hi
  have hxi := rdN_ok hx1 i
  by_cases hie : i = getN x
  · subst hie
    have hzl : (rdN (eyS x 1024).2 (getN x)).1.length = getN x := rdN_len _ _
    have hz2 : (rdN (eyS x 1024).2 (getN x)).1.length ≤ 274877906944 := by omega
    by_cases h3 : (rdN (eyS x 1024).2 (getN x)).2.e = 0
    · cases hr : rightB (rdN (eyS x 1024).2 (getN x)).1 with
      | true =>
        have hg : getS x = (rdN (eyS x 1024).2 (getN x)) := by unfold getS getP; rw [if_pos h3, if_pos hr]
        have lm := And.intro hg (And.intro hr h3)
        ((repeat' ((conv => whnf) <;> first | exact True.intro | (guard_target =~ Fork _ _ _; first | refine F1 ?_ | refine F2 ?_ | refine F3 (fun h => ?_) fun h => ?_) | (guard_target =~ Ar _ _ _; first | refine A1 ?_ | refine A2 ?_ | refine A3 ?_) | (guard_target =~ AskL _ _; first | refine L1 ?_) | (guard_target =~ Go.Eng.Ask _ _; first | refine K1 ?_) | (guard_target =~ All' _ _; first | (refine Y2 fun y he he' hy => ?_; (try dsimp only at he he' hy)) | (refine Y1 fun y he hy => ?_; (try with_reducible conv at he => (rhs; whnf)); (try dsimp only at he hy)) | (refine All'.mk ?_; intro y hy)) | refine F4 (fun h => ?_) fun h => ?_ | refine R1 ?_ | refine Q1 ?_ | fail)); all_goals (conv => whnf))
        refine CallP.mk (C := errC) (rdN (eyS x 1024).2 (getN x)).2 ?_
        ((repeat' ((conv => whnf) <;> first | exact True.intro | (guard_target =~ Fork _ _ _; first | refine F1 ?_ | refine F2 ?_ | refine F3 (fun h => ?_) fun h => ?_) | (guard_target =~ Ar _ _ _; first | refine A1 ?_ | refine A2 ?_ | refine A3 ?_) | (guard_target =~ AskL _ _; first | refine L1 ?_) | (guard_target =~ Go.Eng.Ask _ _; first | refine K1 ?_) | (guard_target =~ All' _ _; first | (refine Y2 fun y he he' hy => ?_; (try dsimp only at he he' hy)) | (refine Y1 fun y he hy => ?_; (try with_reducible conv at he => (rhs; whnf)); (try dsimp only at he hy)) | (refine All'.mk ?_; intro y hy)) | refine F4 (fun h => ?_) fun h => ?_ | refine R1 ?_ | refine Q1 ?_ | fail)); all_goals (conv => whnf))
        refine CallP.mk (C := drightC) (rdN (eyS x 1024).2 (getN x)).1 ?_
        ((repeat' ((conv => whnf) <;> first | exact True.intro | (guard_target =~ Fork _ _ _; first | refine F1 ?_ | refine F2 ?_ | refine F3 (fun h => ?_) fun h => ?_) | (guard_target =~ Ar _ _ _; first | refine A1 ?_ | refine A2 ?_ | refine A3 ?_) | (guard_target =~ AskL _ _; first | refine L1 ?_) | (guard_target =~ Go.Eng.Ask _ _; first | refine K1 ?_) | (guard_target =~ All' _ _; first | (refine Y2 fun y he he' hy => ?_; (try dsimp only at he he' hy)) | (refine Y1 fun y he hy => ?_; (try with_reducible conv at he => (rhs; whnf)); (try dsimp only at he hy)) | (refine All'.mk ?_; intro y hy)) | refine F4 (fun h => ?_) fun h => ?_ | refine R1 ?_ | refine Q1 ?_ | fail)); all_goals (conv => whnf))
        refine CallP.mk (C := errC) (rdN (eyS x 1024).2 (getN x)).2 ?_
        exact G1
      | false =>
        have hg : getS x = ([], ⟨[], 11⟩) := by unfold getS getP; rw [if_pos h3, if_neg (by rw [hr]; decide)]
        have k2 : failL (rdN (eyS x 1024).2 (getN x)).2 11 = [] := if_pos ⟨h3, by decide⟩
        have k3 : failE (rdN (eyS x 1024).2 (getN x)).2 11 = 11 := if_pos ⟨h3, by decide⟩
        have lm := And.intro hg (And.intro hr (And.intro h3 (And.intro k2 k3)))
        ((repeat' ((conv => whnf) <;> first | exact True.intro | (guard_target =~ Fork _ _ _; first | refine F1 ?_ | refine F2 ?_ | refine F3 (fun h => ?_) fun h => ?_) | (guard_target =~ Ar _ _ _; first | refine A1 ?_ | refine A2 ?_ | refine A3 ?_) | (guard_target =~ AskL _ _; first | refine L1 ?_) | (guard_target =~ Go.Eng.Ask _ _; first | refine K1 ?_) | (guard_target =~ All' _ _; first | (refine Y2 fun y he he' hy => ?_; (try dsimp only at he he' hy)) | (refine Y1 fun y he hy => ?_; (try with_reducible conv at he => (rhs; whnf)); (try dsimp only at he hy)) | (refine All'.mk ?_; intro y hy)) | refine F4 (fun h => ?_) fun h => ?_ | refine R1 ?_ | refine Q1 ?_ | fail)); all_goals (conv => whnf))
        refine CallP.mk (C := errC) (rdN (eyS x 1024).2 (getN x)).2 ?_
        ((repeat' ((conv => whnf) <;> first | exact True.intro | (guard_target =~ Fork _ _ _; first | refine F1 ?_ | refine F2 ?_ | refine F3 (fun h => ?_) fun h => ?_) | (guard_target =~ Ar _ _ _; first | refine A1 ?_ | refine A2 ?_ | refine A3 ?_) | (guard_target =~ AskL _ _; first | refine L1 ?_) | (guard_target =~ Go.Eng.Ask _ _; first | refine K1 ?_) | (guard_target =~ All' _ _; first | (refine Y2 fun y he he' hy => ?_; (try dsimp only at he he' hy)) | (refine Y1 fun y he hy => ?_; (try with_reducible conv at he => (rhs; whnf)); (try dsimp only at he hy)) | (refine All'.mk ?_; intro y hy)) | refine F4 (fun h => ?_) fun h => ?_ | refine R1 ?_ | refine Q1 ?_ | fail)); all_goals (conv => whnf))
        refine CallP.mk (C := drightC) (rdN (eyS x 1024).2 (getN x)).1 ?_
        ((repeat' ((conv => whnf) <;> first | exact True.intro | (guard_target =~ Fork _ _ _; first | refine F1 ?_ | refine F2 ?_ | refine F3 (fun h => ?_) fun h => ?_) | (guard_target =~ Ar _ _ _; first | refine A1 ?_ | refine A2 ?_ | refine A3 ?_) | (guard_target =~ AskL _ _; first | refine L1 ?_) | (guard_target =~ Go.Eng.Ask _ _; first | refine K1 ?_) | (guard_target =~ All' _ _; first | (refine Y2 fun y he he' hy => ?_; (try dsimp only at he he' hy)) | (refine Y1 fun y he hy => ?_; (try with_reducible conv at he => (rhs; whnf)); (try dsimp only at he hy)) | (refine All'.mk ?_; intro y hy)) | refine F4 (fun h => ?_) fun h => ?_ | refine R1 ?_ | refine Q1 ?_ | fail)); all_goals (conv => whnf))
        refine CallP.mk (C := failC) ((rdN (eyS x 1024).2 (getN x)).2, 11) ?_
        ((repeat' ((conv => whnf) <;> first | exact True.intro | (guard_target =~ Fork _ _ _; first | refine F1 ?_ | refine F2 ?_ | refine F3 (fun h => ?_) fun h => ?_) | (guard_target =~ Ar _ _ _; first | refine A1 ?_ | refine A2 ?_ | refine A3 ?_) | (guard_target =~ AskL _ _; first | refine L1 ?_) | (guard_target =~ Go.Eng.Ask _ _; first | refine K1 ?_) | (guard_target =~ All' _ _; first | (refine Y2 fun y he he' hy => ?_; (try dsimp only at he he' hy)) | (refine Y1 fun y he hy => ?_; (try with_reducible conv at he => (rhs; whnf)); (try dsimp only at he hy)) | (refine All'.mk ?_; intro y hy)) | refine F4 (fun h => ?_) fun h => ?_ | refine R1 ?_ | refine Q1 ?_ | fail)); all_goals (conv => whnf))
        refine CallP.mk (C := errC) ⟨[], 11⟩ ?_
        exact G1
    · have hg : getS x = ([], (rdN (eyS x 1024).2 (getN x)).2) := getS_err (Nat.le_refl _) h3
      have lm := hg
      ((repeat' ((conv => whnf) <;> first | exact True.intro | (guard_target =~ Fork _ _ _; first | refine F1 ?_ | refine F2 ?_ | refine F3 (fun h => ?_) fun h => ?_) | (guard_target =~ Ar _ _ _; first | refine A1 ?_ | refine A2 ?_ | refine A3 ?_) | (guard_target =~ AskL _ _; first | refine L1 ?_) | (guard_target =~ Go.Eng.Ask _ _; first | refine K1 ?_) | (guard_target =~ All' _ _; first | (refine Y2 fun y he he' hy => ?_; (try dsimp only at he he' hy)) | (refine Y1 fun y he hy => ?_; (try with_reducible conv at he => (rhs; whnf)); (try dsimp only at he hy)) | (refine All'.mk ?_; intro y hy)) | refine F4 (fun h => ?_) fun h => ?_ | refine R1 ?_ | refine Q1 ?_ | fail)); all_goals (conv => whnf))
      refine CallP.mk (C := errC) (rdN (eyS x 1024).2 (getN x)).2 ?_
      ((repeat' ((conv => whnf) <;> first | exact True.intro | (guard_target =~ Fork _ _ _; first | refine F1 ?_ | refine F2 ?_ | refine F3 (fun h => ?_) fun h => ?_) | (guard_target =~ Ar _ _ _; first | refine A1 ?_ | refine A2 ?_ | refine A3 ?_) | (guard_target =~ AskL _ _; first | refine L1 ?_) | (guard_target =~ Go.Eng.Ask _ _; first | refine K1 ?_) | (guard_target =~ All' _ _; first | (refine Y2 fun y he he' hy => ?_; (try dsimp only at he he' hy)) | (refine Y1 fun y he hy => ?_; (try with_reducible conv at he => (rhs; whnf)); (try dsimp only at he hy)) | (refine All'.mk ?_; intro y hy)) | refine F4 (fun h => ?_) fun h => ?_ | refine R1 ?_ | refine Q1 ?_ | fail)); all_goals (conv => whnf))
      refine CallP.mk (C := errC) (rdN (eyS x 1024).2 (getN x)).2 ?_
      exact G1
  · obtain ⟨ha1, ha2, ha3⟩ := eyS_ok hxi 7 (by omega)
    obtain ⟨hb1, hb2, hb3⟩ := eyS_ok ha1 1099511627776 (by omega)
    obtain ⟨hc1, hc2, hc3⟩ := eyS_ok hb1 1099511627776 (by omega)
    have hs1 : okY (rdN (eyS x 1024).2 i).2.l ∧ (rdN (eyS x 1024).2 i).2.l.length ≤ 274877906944 := hxi
    have hs2 : okY (eyS (rdN (eyS x 1024).2 i).2 7).2.l ∧ (eyS (rdN (eyS x 1024).2 i).2 7).2.l.length ≤ 274877906944 := ha1
    have hs3 : okY (eyS (eyS (rdN (eyS x 1024).2 i).2 7).2 1099511627776).2.l ∧ (eyS (eyS (rdN (eyS x 1024).2 i).2 7).2 1099511627776).2.l.length ≤ 274877906944 := hb1
    have hw1 : IntKind.i64.wrap (eyS (rdN (eyS x 1024).2 i).2 7).1 = (eyS (rdN (eyS x 1024).2 i).2 7).1 := wrap_i64 (by omega) (by omega)
    have hw2 : IntKind.i64.wrap (eyS (eyS (rdN (eyS x 1024).2 i).2 7).2 1099511627776).1 = (eyS (eyS (rdN (eyS x 1024).2 i).2 7).2 1099511627776).1 := wrap_i64 (by omega) (by omega)
    have hw3 : IntKind.i64.wrap (eyS (eyS (eyS (rdN (eyS x 1024).2 i).2 7).2 1099511627776).2 1099511627776).1 = (eyS (eyS (eyS (rdN (eyS x 1024).2 i).2 7).2 1099511627776).2 1099511627776).1 := wrap_i64 (by omega) (by omega)
    have hzl : (rdN (eyS x 1024).2 i).1.length = i := rdN_len _ _
    have hz2 : (rdN (eyS x 1024).2 i).1.length ≤ 1024 := by omega
    have lm := And.intro hw1 (And.intro hw2 hw3)
    ((repeat' ((conv => whnf) <;> first | exact True.intro | (guard_target =~ Fork _ _ _; first | refine F1 ?_ | refine F2 ?_ | refine F3 (fun h => ?_) fun h => ?_) | (guard_target =~ Ar _ _ _; first | refine A1 ?_ | refine A2 ?_ | refine A3 ?_) | (guard_target =~ AskL _ _; first | refine L1 ?_) | (guard_target =~ Go.Eng.Ask _ _; first | refine K1 ?_) | (guard_target =~ All' _ _; first | (refine Y2 fun y he he' hy => ?_; (try dsimp only at he he' hy)) | (refine Y1 fun y he hy => ?_; (try with_reducible conv at he => (rhs; whnf)); (try dsimp only at he hy)) | (refine All'.mk ?_; intro y hy)) | refine F4 (fun h => ?_) fun h => ?_ | refine R1 ?_ | refine Q1 ?_ | fail)); all_goals (conv => whnf))
    refine CallP.mk (C := eyNumC) ((rdN (eyS x 1024).2 i).2, 7) ?_
    ((repeat' ((conv => whnf) <;> first | exact True.intro | (guard_target =~ Fork _ _ _; first | refine F1 ?_ | refine F2 ?_ | refine F3 (fun h => ?_) fun h => ?_) | (guard_target =~ Ar _ _ _; first | refine A1 ?_ | refine A2 ?_ | refine A3 ?_) | (guard_target =~ AskL _ _; first | refine L1 ?_) | (guard_target =~ Go.Eng.Ask _ _; first | refine K1 ?_) | (guard_target =~ All' _ _; first | (refine Y2 fun y he he' hy => ?_; (try dsimp only at he he' hy)) | (refine Y1 fun y he hy => ?_; (try with_reducible conv at he => (rhs; whnf)); (try dsimp only at he hy)) | (refine All'.mk ?_; intro y hy)) | refine F4 (fun h => ?_) fun h => ?_ | refine R1 ?_ | refine Q1 ?_ | fail)); all_goals (conv => whnf))
    refine CallP.mk (C := eyNumC) ((eyS (rdN (eyS x 1024).2 i).2 7).2, 1099511627776) ?_
    ((repeat' ((conv => whnf) <;> first | exact True.intro | (guard_target =~ Fork _ _ _; first | refine F1 ?_ | refine F2 ?_ | refine F3 (fun h => ?_) fun h => ?_) | (guard_target =~ Ar _ _ _; first | refine A1 ?_ | refine A2 ?_ | refine A3 ?_) | (guard_target =~ AskL _ _; first | refine L1 ?_) | (guard_target =~ Go.Eng.Ask _ _; first | refine K1 ?_) | (guard_target =~ All' _ _; first | (refine Y2 fun y he he' hy => ?_; (try dsimp only at he he' hy)) | (refine Y1 fun y he hy => ?_; (try with_reducible conv at he => (rhs; whnf)); (try dsimp only at he hy)) | (refine All'.mk ?_; intro y hy)) | refine F4 (fun h => ?_) fun h => ?_ | refine R1 ?_ | refine Q1 ?_ | fail)); all_goals (conv => whnf))
    refine CallP.mk (C := eyNumC) ((eyS (eyS (rdN (eyS x 1024).2 i).2 7).2 1099511627776).2, 1099511627776) ?_
    have hap : ∀ r : Run, (rdN (eyS x 1024).2 i).1.length + [r].length ≤ 274877906944 := fun r => by rw [List.length_singleton]; omega
    have hpr : (dgetL x).pre (i + 1) := by show i + 1 ≤ getN x; omega
    have hmu : (dgetL x).mu (i + 1) < (dgetL x).mu i := by show getN x - (i + 1) < getN x - i; omega
    by_cases h4 : (eyS (eyS (eyS (rdN (eyS x 1024).2 i).2 7).2 1099511627776).2 1099511627776).2.e = 0
    · have hst : (rdN (eyS x 1024).2 (i + 1)).1 = (rdN (eyS x 1024).2 i).1 ++ [(IntKind.i64.wrap (eyS (rdN (eyS x 1024).2 i).2 7).1, IntKind.i64.wrap (eyS (eyS (rdN (eyS x 1024).2 i).2 7).2 1099511627776).1, IntKind.i64.wrap (eyS (eyS (rdN (eyS x 1024).2 i).2 7).2 1099511627776).1 + IntKind.i64.wrap (eyS (eyS (eyS (rdN (eyS x 1024).2 i).2 7).2 1099511627776).2 1099511627776).1)] := by
        rw [hw1, hw2, hw3]; rfl
      ((repeat' ((conv => whnf) <;> first | exact True.intro | (guard_target =~ Fork _ _ _; first | refine F1 ?_ | refine F2 ?_ | refine F3 (fun h => ?_) fun h => ?_) | (guard_target =~ Ar _ _ _; first | refine A1 ?_ | refine A2 ?_ | refine A3 ?_) | (guard_target =~ AskL _ _; first | refine L1 ?_) | (guard_target =~ Go.Eng.Ask _ _; first | refine K1 ?_) | (guard_target =~ All' _ _; first | (refine Y2 fun y he he' hy => ?_; (try dsimp only at he he' hy)) | (refine Y1 fun y he hy => ?_; (try with_reducible conv at he => (rhs; whnf)); (try dsimp only at he hy)) | (refine All'.mk ?_; intro y hy)) | refine F4 (fun h => ?_) fun h => ?_ | refine R1 ?_ | refine Q1 ?_ | fail)); all_goals (conv => whnf))
      refine CallP.mk (C := errC) (eyS (eyS (eyS (rdN (eyS x 1024).2 i).2 7).2 1099511627776).2 1099511627776).2 ?_
      ((repeat' ((conv => whnf) <;> first | exact True.intro | (guard_target =~ Fork _ _ _; first | refine F1 ?_ | refine F2 ?_ | refine F3 (fun h => ?_) fun h => ?_) | (guard_target =~ Ar _ _ _; first | refine A1 ?_ | refine A2 ?_ | refine A3 ?_) | (guard_target =~ AskL _ _; first | refine L1 ?_) | (guard_target =~ Go.Eng.Ask _ _; first | refine K1 ?_) | (guard_target =~ All' _ _; first | (refine Y2 fun y he he' hy => ?_; (try dsimp only at he he' hy)) | (refine Y1 fun y he hy => ?_; (try with_reducible conv at he => (rhs; whnf)); (try dsimp only at he hy)) | (refine All'.mk ?_; intro y hy)) | refine F4 (fun h => ?_) fun h => ?_ | refine R1 ?_ | refine Q1 ?_ | fail)); all_goals (conv => whnf))
      refine Some'.mk (i + 1 : Nat) ?_
      ((repeat' ((conv => whnf) <;> first | exact True.intro | (guard_target =~ Fork _ _ _; first | refine F1 ?_ | refine F2 ?_ | refine F3 (fun h => ?_) fun h => ?_) | (guard_target =~ Ar _ _ _; first | refine A1 ?_ | refine A2 ?_ | refine A3 ?_) | (guard_target =~ Go.Eng.Ask _ _; first | refine K1 ?_) | (guard_target =~ All' _ _; first | (refine Y2 fun y he he' hy => ?_; (try dsimp only at he he' hy)) | (refine Y1 fun y he hy => ?_; (try with_reducible conv at he => (rhs; whnf)); (try dsimp only at he hy)) | (refine All'.mk ?_; intro y hy)) | refine F4 (fun h => ?_) fun h => ?_ | refine R1 ?_ | refine Q1 ?_ | fail)); all_goals (conv => whnf))
      refine AskL.mk ?_ (Ask.mk hpr (Ask.mk hmu trivial))
      (dsimp only [conj]; repeat' apply And.intro) <;> first | rfl | exact congrArg (SV.ro true runT) hst.symm
    · have hg : getS x = ([], (eyS (eyS (eyS (rdN (eyS x 1024).2 i).2 7).2 1099511627776).2 1099511627776).2) := getS_err (i := i + 1) (by omega) h4
      have lm := And.intro hg (And.intro hw1 (And.intro hw2 hw3))
      ((repeat' ((conv => whnf) <;> first | exact True.intro | (guard_target =~ Fork _ _ _; first | refine F1 ?_ | refine F2 ?_ | refine F3 (fun h => ?_) fun h => ?_) | (guard_target =~ Ar _ _ _; first | refine A1 ?_ | refine A2 ?_ | refine A3 ?_) | (guard_target =~ AskL _ _; first | refine L1 ?_) | (guard_target =~ Go.Eng.Ask _ _; first | refine K1 ?_) | (guard_target =~ All' _ _; first | (refine Y2 fun y he he' hy => ?_; (try dsimp only at he he' hy)) | (refine Y1 fun y he hy => ?_; (try with_reducible conv at he => (rhs; whnf)); (try dsimp only at he hy)) | (refine All'.mk ?_; intro y hy)) | refine F4 (fun h => ?_) fun h => ?_ | refine R1 ?_ | refine Q1 ?_ | fail)); all_goals (conv => whnf))
      refine CallP.mk (C := errC) (eyS (eyS (eyS (rdN (eyS x 1024).2 i).2 7).2 1099511627776).2 1099511627776).2 ?_
      exact G1
end Go.Proofs.YtoaaieiiamdopaaGreatDoor

set_option linter.unusedVariables false
set_option linter.unusedSimpArgs false
set_option maxRecDepth 100000
set_option maxHeartbeats 4000000
namespace Go.Proofs.YtoaaieiiamdopaaGreatDoor
open Go.Eng
end Go.Proofs.YtoaaieiiamdopaaGreatDoor

set_option linter.unusedVariables false
set_option linter.unusedSimpArgs false
set_option maxRecDepth 100000
namespace Go.Proofs.YtoaaieiiamdopaaGreatDoor
open Go.Eng
theorem beV_beL : ∀ u : Nat, beV (beL u) = u := fun u => by
  induction u using Nat.strongRecOn with
  | _ u ih =>
    rcases Nat.eq_zero_or_pos u with rfl | hp
    · rw [beL_zero]; rfl
    · rw [beL_pos hp, beV_snoc, ih (u / 256) (by omega)]; omega
theorem numS_num {u : Nat} (l : List Int) : numS (numL u ++ l) = ((u : Int), (((numL u).length : Nat) : Int), 0) := by
  by_cases h : u ≤ 247
  · rw [numL_small h]
    show numS ((u : Int) :: l) = _
    rw [numS_cons, if_pos (by omega)]; rfl
  · have hp : 1 ≤ (beL u).length := by rw [beL_len_pos (by omega)]; omega
    have hk : ((247 + (beL u).length : Nat) : Int) - 247 = ((beL u).length : Nat) := by omega
    have ht : (beL u ++ l).take (beL u).length = beL u := List.take_left' rfl
    have hn : numL (beV (beL u)) = ((247 + (beL u).length : Nat) : Int) :: beL u := by rw [beV_beL]; exact numL_great h
    rw [numL_great h, List.cons_append, numS_cons, if_neg (by omega), hk, if_neg (by rw [List.length_append]; omega), Int.toNat_natCast, ht]
    rw [if_pos hn, beV_beL]
    simp only [List.length_cons, Prod.mk.injEq, and_true, true_and]
    omega
theorem eyS_num {u : Nat} {m : Int} (hm : (u : Int) ≤ m) (l : List Int) : eyS ⟨numL u ++ l, 0⟩ m = ((u : Int), ⟨l, 0⟩) := by
  have h1 := numS_num (u := u) l
  have h2 : numF (numL u ++ l) m = 0 := by unfold numF; rw [h1, if_neg (by simp; omega)]
  unfold eyS
  rw [if_pos rfl, if_pos h2, h1]
  dsimp only
  rw [Int.toNat_natCast, List.drop_left' rfl]
theorem rd1_run {r : Run} (h : runP r) (l : List Int) : rd1 ⟨runBy r ++ l, 0⟩ = (r, ⟨l, 0⟩) := by
  obtain ⟨n, f, t⟩ := r
  unfold runP at h; dsimp only at h
  have e1 := eyS_num (u := n.toNat) (m := 7) (by omega) (numL f.toNat ++ (numL (t - f).toNat ++ l))
  have e2 := eyS_num (u := f.toNat) (m := 1099511627776) (by omega) (numL (t - f).toNat ++ l)
  have e3 := eyS_num (u := (t - f).toNat) (m := 1099511627776) (by omega) l
  have e0 : runBy (n, f, t) ++ l = numL n.toNat ++ (numL f.toNat ++ (numL (t - f).toNat ++ l)) := by simp [runBy]
  rw [e0]
  unfold rd1
  rw [e1]; dsimp only; rw [e2]; dsimp only; rw [e3]
  have : ((n.toNat : Int), ((f.toNat : Int), (f.toNat : Int) + ((t - f).toNat : Int))) = (n, f, t) := by
    refine Prod.ext (by dsimp only; omega) (Prod.ext (by dsimp only; omega) (by dsimp only; omega))
  rw [this]
theorem rdN_run {c : List Run} (hc : ∀ r, r ∈ c → runP r) : ∀ n : Nat, n ≤ c.length → rdN ⟨runsBy c, 0⟩ n = (c.take n, ⟨runsBy (c.drop n), 0⟩)
  | 0, _ => rfl
  | n + 1, h => by
    have ih := rdN_run hc n (by omega)
    obtain ⟨r, hr⟩ := get_ex (show n < c.length by omega)
    have hd : c.drop n = r :: c.drop (n + 1) := by
      obtain ⟨h5, h6⟩ := List.getElem?_eq_some_iff.1 hr
      rw [List.drop_eq_getElem_cons h5, h6]
    unfold rdN
    rw [ih, hd]
    dsimp only
    rw [show runsBy (r :: c.drop (n + 1)) = runBy r ++ runsBy (c.drop (n + 1)) from rfl, rd1_run (hc r (List.mem_of_getElem? hr))]
    dsimp only
    rw [List.take_add_one, hr]; rfl
/-- What was put is got, and nothing is left. -/
theorem get_put {c : List Run} (h : rightB c = true) (hl : c.length ≤ 1024) : getS ⟨clockBy c, 0⟩ = (c, ⟨[], 0⟩) := by
  have hall : ∀ r, r ∈ c → runP r := fun r hr => by
    obtain ⟨i, hi⟩ := List.getElem?_of_mem hr
    exact right_all h hi
  have e1 := eyS_num (u := c.length) (m := 1024) (by omega) (runsBy c)
  have e0 : clockBy c = numL c.length ++ runsBy c := rfl
  have e2 : getP ⟨clockBy c, 0⟩ = (c, ⟨[], 0⟩) := by
    unfold getP getN
    rw [e0, e1]
    dsimp only
    rw [Int.toNat_natCast, rdN_run hall c.length (Nat.le_refl _), List.take_length, List.drop_length]; rfl
  unfold getS
  rw [e2]
  dsimp only
  rw [if_pos rfl, if_pos h]
theorem okY_runs {c : List Run} (hc : ∀ r, r ∈ c → runP r) : okY (runsBy c) := by
  induction c with
  | nil => intro x hx; cases hx
  | cons r l ih =>
    have hr := hc r (List.mem_cons_self ..)
    unfold runP at hr
    intro x hx
    have hx : x ∈ numL r.1.toNat ++ (numL r.2.1.toNat ++ numL (r.2.2 - r.2.1).toNat) ++ runsBy l := hx
    simp only [List.mem_append] at hx
    rcases hx with (hx | hx | hx) | hx
    · exact numL_okB _ (by omega) x hx
    · exact numL_okB _ (by omega) x hx
    · exact numL_okB _ (by omega) x hx
    · exact ih (fun y hy => hc y (List.mem_cons_of_mem _ hy)) x hx
theorem okY_clock {c : List Run} (h : rightB c = true) (hl : c.length ≤ 1024) : okY (clockBy c) := fun x hx => by
  rcases List.mem_append.1 hx with hx | hx
  · exact numL_okB _ (by omega) x hx
  · exact okY_runs (fun r hr => by obtain ⟨i, hi⟩ := List.getElem?_of_mem hr; exact right_all h hi) x hx
end Go.Proofs.YtoaaieiiamdopaaGreatDoor

set_option linter.unusedVariables false
set_option linter.unusedSimpArgs false
set_option linter.unusedSectionVars false
namespace Go.Proofs.YtoaaieiiamdopaaGreatDoor
open Go.Eng
variable [DM]
structure Same4 (C C' : Ctr) (x : C.X) (x' : C'.X) : Prop where
  side : C.side x
  ens : C'.ens x' (C'.val x')
  args : C'.args x' = C.args x
  rw : C'.rw x' = C.rw x
  res : C'.res x' (C'.val x') = C.res x (C.val x)
  out : C'.out x' (C'.val x') = C.out x (C.val x)
theorem ctr_re {P : Program} {F : FuncId} {C C' : Ctr} (f : C'.X → C.X) (k : ∀ x, C'.side x → Same4 C C' (f x) x) (h : C.ok P F) : C'.ok P F := by
  intro x hs
  obtain ⟨k0, k1, k2, k3, k4, k5⟩ := k x hs
  obtain ⟨-, H⟩ := h (f x) k0
  refine ⟨k1, ?_⟩
  rw [k2, k3, k4, k5]
  exact H
end Go.Proofs.YtoaaieiiamdopaaGreatDoor

set_option linter.unusedVariables false
set_option linter.unusedSimpArgs false
set_option maxRecDepth 100000
set_option maxHeartbeats 4000000
namespace Go.Proofs.YtoaaieiiamdopaaGreatDoor
open Go.Eng
theorem text_mem58 {c : List Run} (h : rightB c = true) (h0 : c ≠ []) : (58 : Int) ∈ textL c := by
  have ht : textL c = spc (c.map runW) := by unfold textL; rw [h, if_neg h0]; rfl
  cases c with
  | nil => exact absurd rfl h0
  | cons r l =>
    rw [ht]
    have h1 : (58 : Int) ∈ runW r := by simp [runW]
    show (58 : Int) ∈ runW r ++ _
    exact List.mem_append_left _ h1
theorem parsed_text {c : List Run} (h : rightB c = true) : parsedB (strOfNums (textL c)) = true ∧ parsedL (strOfNums (textL c)) = c := by
  by_cases h0 : c = []
  · subst h0
    exact ⟨parsedB_true (.inl rfl), if_pos rfl⟩
  · have hp := parse0_text h h0
    have h58 := text_mem58 h h0
    have hb : okB (textL c) := by
      have ht : textL c = spc (c.map runW) := by unfold textL; rw [h, if_neg h0]; rfl
      rw [ht]
      exact okB_spc _ (fun w hw => by obtain ⟨r, _, rfl⟩ := List.mem_map.1 hw; exact okB_runW r)
    have n1 : ¬ strOfNums (textL c) = ⟨#[45]⟩ := fun e => by
      have := bytes_str hb
      rw [e] at this
      rw [← this] at h58
      exact absurd h58 (by decide)
    have n2 : ¬ strOfNums (textL c) = ⟨#[]⟩ := fun e => by
      have := bytes_str hb
      rw [e] at this
      rw [← this] at h58
      exact absurd h58 (by decide)
    have hk : parsedOk (strOfNums (textL c)) := .inr ⟨n2, by rw [hp]⟩
    exact ⟨parsedB_true hk, by rw [parsedL_yes n1 hk, hp]⟩

@[reducible] def exA : List Run := [(0, 1, 3), (2, 1, 1)]
@[reducible] def exB : List Run := [(0, 4, 4), (1, 5, 5)]
def exJ : List Run := [(0, 1, 4), (1, 5, 5), (2, 1, 1)]
@[reducible] def firstC : Ctr := {
  X := Unit
  Y := Unit
  args := fun _ => []
  rw := fun _ => []
  side := fun _ => True
  val := fun _ => ()
  ens := fun _ _ => True
  res := fun _ _ => .v (.bool true)
  out := fun _ _ => [] }
@[reducible] def djoinX : Ctr := {
  X := List Run × List Run × List Run
  Y := Unit
  args := fun x => [.ro true runT x.1, .ro true runT x.2.1]
  rw := fun _ => []
  side := fun x => (x.1.length ≤ 400000 ∧ x.2.1.length ≤ 400000) ∧ joinF x.1 x.2.1 = x.2.2
  val := fun _ => ()
  ens := fun _ _ => True
  res := fun _ _ => .sl 1000
  out := fun x _ => [(1000, .row 57 runT x.2.2)] }
theorem djoinX_ok : djoinX.ok Tryz.prog 25 := ctr_re (C := djoinT) (fun x => (x.1, x.2.1)) (fun x h => ⟨h.1, trivial, rfl, rfl, rfl, by show [_] = [_]; rw [h.2]⟩) djoinT_ok
@[reducible] def dputX : Ctr := {
  X := PutX × List Int
  Y := Unit
  args := fun x => [.ptr 0 0, .ro true runT x.1.c]
  rw := fun x => penE 0 x.1.bs 1
  side := fun x => (rightB x.1.c = true ∧ x.1.c.length ≤ 1024 ∧ x.1.bs.length ≤ 100000000000) ∧ x.1.bs ++ clockBy x.1.c = x.2
  val := fun _ => ()
  ens := fun _ _ => True
  res := fun x y => .v (.bool true)
  out := fun x _ => penE 0 x.2 1000 }
theorem dputX_ok : dputX.ok Tryz.prog 10 := ctr_re (C := dputC) (fun x => x.1) (fun x h => ⟨h.1, trivial, rfl, rfl, rfl, by show penE _ _ _ = penE _ _ _; rw [h.2]⟩) dput_ok
structure GetXX where
  x : EyX
  c : List Run
  y : EyX
@[reducible] def dgetX : Ctr := {
  X := GetXX
  Y := Unit
  args := fun x => [.ptr 0 0]
  rw := fun x => eyeE 0 x.x.l x.x.e
  side := fun x => okE x.x ∧ getS x.x = (x.c, x.y)
  val := fun _ => ()
  ens := fun _ _ => True
  res := fun _ _ => .sl 1000
  out := fun x _ => (1000, .row 57 runT x.c) :: eyeE 0 x.y.l x.y.e }
theorem dgetX_ok : dgetX.ok Tryz.prog 14 := ctr_re (C := dgetC) (fun x => x.x) (fun x h => ⟨h.1, trivial, rfl, rfl, rfl, by show _ :: eyeE _ _ _ = _ :: eyeE _ _ _; rw [h.2]⟩) dget_ok
@[reducible] noncomputable def dparseX : Ctr := {
  X := ByteArray × List Run × Bool
  Y := Unit
  args := fun x => [.v (.string x.1)]
  rw := fun _ => []
  side := fun x => x.1.size ≤ 100000 ∧ parsedL x.1 = x.2.1 ∧ parsedB x.1 = x.2.2
  val := fun _ => ()
  ens := fun _ _ => True
  res := fun x _ => .tuple [.sl 1000, .v (.bool x.2.2)]
  out := fun x _ => [(1000, .row 57 runT x.2.1)] }
theorem dparseX_ok : dparseX.ok Tryz.prog 16 := ctr_re (C := dparseC) (C' := dparseX) (fun x => x.1) (fun x h => ⟨h.1, trivial, rfl, rfl, by show SV.tuple [_, .v (.bool x.2.2)] = SV.tuple [_, .v (.bool (parsedB x.1))]; rw [h.2.2], by show [(_, Ent.row _ runT x.2.1)] = [(_, Ent.row _ runT (parsedL x.1))]; rw [h.2.1]⟩) dparse_ok
theorem knownFst : Known Tryz.prog (gOf [(25, djoinX), (10, dputX), (16, dparseX), (22, dtextC), (41, dcmpT), (43, dcountC), (18, penBytesC), (13, readC), (14, dgetX), (19, equalCRu), (34, dhasC), (24, drightC), (32, dtopC)]) :=
  known_cons ⟨djoinX_ok, Tryz.call25⟩ (known_cons ⟨dputX_ok, Tryz.call10⟩ (known_cons ⟨dparseX_ok, Tryz.call16⟩ (known_cons ⟨dtext_ok, Tryz.call22⟩ (known_cons ⟨dcmpT_ok, Tryz.call41⟩
    (known_cons ⟨dcount_ok, Tryz.call43⟩ (known_cons ⟨penBytes_ok, Tryz.call18⟩ (known_cons ⟨read_ok, Tryz.call13⟩ (known_cons ⟨dgetX_ok, Tryz.call14⟩ (known_cons ⟨dsame_ok, Tryz.call19⟩
      (known_cons ⟨dhas_ok, Tryz.call34⟩ (known_cons ⟨dright_ok, Tryz.call24⟩ (known_cons ⟨dtop_ok, Tryz.call32⟩ (known_nil _)))))))))))))
theorem first_ok : firstC.ok Tryz.prog 8 := by
  refine ok_of_vc (An := fun _ => anOf []) knownFst mo Tryz.func8 (by kernel_rfl) (by kernel_rfl) (fun _ _ => trivial) (fun (_ : Unit) hs => ?_)
  clear hs
  have hra : rightB exA = true := by decide
  obtain ⟨J, hJ⟩ : ∃ J, joinF exA exB = J := ⟨_, rfl⟩
  have hj : J = exJ := by rw [← hJ]; decide
  have ht : strOfNums (textL J) = ⟨#[48, 58, 49, 45, 52, 32, 49, 58, 53, 32, 50, 58, 49]⟩ := by rw [hj]; decide +kernel
  have hta : strOfNums (textL exA) = ⟨#[48, 58, 49, 45, 51, 32, 50, 58, 49]⟩ := by decide +kernel
  have hp := parsed_text hra
  rw [hta] at hp
  obtain ⟨hp1, hp2⟩ := hp
  obtain ⟨Q, hQ⟩ : ∃ Q, Q = exA := ⟨_, rfl⟩
  rw [← hQ] at hp2
  have q1 : decide (Q = exA) = true := decide_eq_true hQ
  have q2 : Q.length = 2 := by rw [hQ]; rfl
  have c1 : cmpF exA J = -1 := by rw [hj]; decide
  have c2 : cmpF exA exB = 2 := by decide
  have c3 : cntN J = 6 := by rw [hj]; decide
  have c4 : hasB exA (0, 2) = true := by decide
  have c5 : hasB exB (0, 2) = false := by decide
  have c6 : rightB [(0, 0, 0)] = false := by decide
  have c7 : topN J 0 = 4 := by rw [hj]; decide
  have hg := get_put hra (by decide)
  obtain ⟨B, hB⟩ : ∃ B, clockBy exA = B := ⟨_, rfl⟩
  have hBl : B.length ≤ 27657 := by rw [← hB]; exact clockBy_le hra (by decide)
  have hBy : okY B := by rw [← hB]; exact okY_clock hra (by decide)
  rw [hB] at hg
  obtain ⟨G, hG⟩ : ∃ G, G = exA := ⟨_, rfl⟩
  rw [← hG] at hg
  have g1 : decide (G = exA) = true := decide_eq_true hG
  have g2 : G.length = 2 := by rw [hG]; rfl
  have hlen : exA.length = 2 := rfl
  have hlenB : exB.length = 2 := rfl
  have hlenJ : J.length = 3 := by rw [hj]; rfl
  clear hj
  have lm := And.intro ht (And.intro c1 (And.intro c2 (And.intro c3 (And.intro c4 (And.intro c5 (And.intro c6 (And.intro c7 (And.intro q1 g1))))))))
  ((repeat' ((conv => whnf) <;> first | exact True.intro | (guard_target =~ Fork _ _ _; first | refine F1 ?_ | refine F2 ?_ | refine F3 (fun h => ?_) fun h => ?_) | (guard_target =~ Ar _ _ _; first | refine A1 ?_ | refine A2 ?_ | refine A3 ?_) | (guard_target =~ AskL _ _; first | refine L1 ?_) | (guard_target =~ Go.Eng.Ask _ _; first | refine K1 ?_) | (guard_target =~ All' _ _; first | (refine Y2 fun y he he' hy => ?_; (try dsimp only at he he' hy)) | (refine Y1 fun y he hy => ?_; (try with_reducible conv at he => (rhs; whnf)); (try dsimp only at he hy)) | (refine All'.mk ?_; intro y hy)) | refine F4 (fun h => ?_) fun h => ?_ | refine R1 ?_ | refine Q1 ?_ | fail)); all_goals (conv => whnf))
  refine CallP.mk (C := djoinX) (exA, exB, J) ?_
  ((repeat' ((conv => whnf) <;> first | exact True.intro | (guard_target =~ Fork _ _ _; first | refine F1 ?_ | refine F2 ?_ | refine F3 (fun h => ?_) fun h => ?_) | (guard_target =~ Ar _ _ _; first | refine A1 ?_ | refine A2 ?_ | refine A3 ?_) | (guard_target =~ AskL _ _; first | refine L1 ?_) | (guard_target =~ Go.Eng.Ask _ _; first | refine K1 ?_) | (guard_target =~ All' _ _; first | (refine Y2 fun y he he' hy => ?_; (try dsimp only at he he' hy)) | (refine Y1 fun y he hy => ?_; (try with_reducible conv at he => (rhs; whnf)); (try dsimp only at he hy)) | (refine All'.mk ?_; intro y hy)) | refine F4 (fun h => ?_) fun h => ?_ | refine R1 ?_ | refine Q1 ?_ | fail)); all_goals (conv => whnf))
  refine CallP.mk (C := dputX) (⟨[], exA⟩, B) ?_
  ((repeat' ((conv => whnf) <;> first | exact True.intro | (guard_target =~ Fork _ _ _; first | refine F1 ?_ | refine F2 ?_ | refine F3 (fun h => ?_) fun h => ?_) | (guard_target =~ Ar _ _ _; first | refine A1 ?_ | refine A2 ?_ | refine A3 ?_) | (guard_target =~ AskL _ _; first | refine L1 ?_) | (guard_target =~ Go.Eng.Ask _ _; first | refine K1 ?_) | (guard_target =~ All' _ _; first | (refine Y2 fun y he he' hy => ?_; (try dsimp only at he he' hy)) | (refine Y1 fun y he hy => ?_; (try with_reducible conv at he => (rhs; whnf)); (try dsimp only at he hy)) | (refine All'.mk ?_; intro y hy)) | refine F4 (fun h => ?_) fun h => ?_ | refine R1 ?_ | refine Q1 ?_ | fail)); all_goals (conv => whnf))
  refine CallP.mk (C := dparseX) (⟨#[48, 58, 49, 45, 51, 32, 50, 58, 49]⟩, Q, true) ?_
  ((repeat' ((conv => whnf) <;> first | exact True.intro | (guard_target =~ Fork _ _ _; first | refine F1 ?_ | refine F2 ?_ | refine F3 (fun h => ?_) fun h => ?_) | (guard_target =~ Ar _ _ _; first | refine A1 ?_ | refine A2 ?_ | refine A3 ?_) | (guard_target =~ Go.Eng.Ask _ _; first | refine K1 ?_) | (guard_target =~ All' _ _; first | (refine Y2 fun y he he' hy => ?_; (try dsimp only at he he' hy)) | (refine Y1 fun y he hy => ?_; (try with_reducible conv at he => (rhs; whnf)); (try dsimp only at he hy)) | (refine All'.mk ?_; intro y hy)) | refine F4 (fun h => ?_) fun h => ?_ | refine R1 ?_ | refine Q1 ?_ | fail)); all_goals (conv => whnf))
  refine AskL.mk rfl ?_
  refine Ask.mk ⟨(by decide : (⟨#[48, 58, 49, 45, 51, 32, 50, 58, 49]⟩ : ByteArray).size ≤ 100000), hp2, hp1⟩ ?_
  ((repeat' ((conv => whnf) <;> first | exact True.intro | (guard_target =~ Fork _ _ _; first | refine F1 ?_ | refine F2 ?_ | refine F3 (fun h => ?_) fun h => ?_) | (guard_target =~ Ar _ _ _; first | refine A1 ?_ | refine A2 ?_ | refine A3 ?_) | (guard_target =~ AskL _ _; first | refine L1 ?_) | (guard_target =~ Go.Eng.Ask _ _; first | refine K1 ?_) | (guard_target =~ All' _ _; first | (refine Y2 fun y he he' hy => ?_; (try dsimp only at he he' hy)) | (refine Y1 fun y he hy => ?_; (try with_reducible conv at he => (rhs; whnf)); (try dsimp only at he hy)) | (refine All'.mk ?_; intro y hy)) | refine F4 (fun h => ?_) fun h => ?_ | refine R1 ?_ | refine Q1 ?_ | fail)); all_goals (conv => whnf))
  refine CallP.mk (C := dtextC) J ?_
  ((repeat' ((conv => whnf) <;> first | exact True.intro | (guard_target =~ Fork _ _ _; first | refine F1 ?_ | refine F2 ?_ | refine F3 (fun h => ?_) fun h => ?_) | (guard_target =~ Ar _ _ _; first | refine A1 ?_ | refine A2 ?_ | refine A3 ?_) | (guard_target =~ AskL _ _; first | refine L1 ?_) | (guard_target =~ Go.Eng.Ask _ _; first | refine K1 ?_) | (guard_target =~ All' _ _; first | (refine Y2 fun y he he' hy => ?_; (try dsimp only at he he' hy)) | (refine Y1 fun y he hy => ?_; (try with_reducible conv at he => (rhs; whnf)); (try dsimp only at he hy)) | (refine All'.mk ?_; intro y hy)) | refine F4 (fun h => ?_) fun h => ?_ | refine R1 ?_ | refine Q1 ?_ | fail)); all_goals (conv => whnf))
  refine CallP.mk (C := dcmpT) (exA, J) ?_
  ((repeat' ((conv => whnf) <;> first | exact True.intro | (guard_target =~ Fork _ _ _; first | refine F1 ?_ | refine F2 ?_ | refine F3 (fun h => ?_) fun h => ?_) | (guard_target =~ Ar _ _ _; first | refine A1 ?_ | refine A2 ?_ | refine A3 ?_) | (guard_target =~ AskL _ _; first | refine L1 ?_) | (guard_target =~ Go.Eng.Ask _ _; first | refine K1 ?_) | (guard_target =~ All' _ _; first | (refine Y2 fun y he he' hy => ?_; (try dsimp only at he he' hy)) | (refine Y1 fun y he hy => ?_; (try with_reducible conv at he => (rhs; whnf)); (try dsimp only at he hy)) | (refine All'.mk ?_; intro y hy)) | refine F4 (fun h => ?_) fun h => ?_ | refine R1 ?_ | refine Q1 ?_ | fail)); all_goals (conv => whnf))
  refine CallP.mk (C := dcmpT) (exA, exB) ?_
  ((repeat' ((conv => whnf) <;> first | exact True.intro | (guard_target =~ Fork _ _ _; first | refine F1 ?_ | refine F2 ?_ | refine F3 (fun h => ?_) fun h => ?_) | (guard_target =~ Ar _ _ _; first | refine A1 ?_ | refine A2 ?_ | refine A3 ?_) | (guard_target =~ AskL _ _; first | refine L1 ?_) | (guard_target =~ Go.Eng.Ask _ _; first | refine K1 ?_) | (guard_target =~ All' _ _; first | (refine Y2 fun y he he' hy => ?_; (try dsimp only at he he' hy)) | (refine Y1 fun y he hy => ?_; (try with_reducible conv at he => (rhs; whnf)); (try dsimp only at he hy)) | (refine All'.mk ?_; intro y hy)) | refine F4 (fun h => ?_) fun h => ?_ | refine R1 ?_ | refine Q1 ?_ | fail)); all_goals (conv => whnf))
  refine CallP.mk (C := dcountC) J ?_
  ((repeat' ((conv => whnf) <;> first | exact True.intro | (guard_target =~ Fork _ _ _; first | refine F1 ?_ | refine F2 ?_ | refine F3 (fun h => ?_) fun h => ?_) | (guard_target =~ Ar _ _ _; first | refine A1 ?_ | refine A2 ?_ | refine A3 ?_) | (guard_target =~ AskL _ _; first | refine L1 ?_) | (guard_target =~ Go.Eng.Ask _ _; first | refine K1 ?_) | (guard_target =~ All' _ _; first | (refine Y2 fun y he he' hy => ?_; (try dsimp only at he he' hy)) | (refine Y1 fun y he hy => ?_; (try with_reducible conv at he => (rhs; whnf)); (try dsimp only at he hy)) | (refine All'.mk ?_; intro y hy)) | refine F4 (fun h => ?_) fun h => ?_ | refine R1 ?_ | refine Q1 ?_ | fail)); all_goals (conv => whnf))
  refine CallP.mk (C := penBytesC) B ?_
  ((repeat' ((conv => whnf) <;> first | exact True.intro | (guard_target =~ Fork _ _ _; first | refine F1 ?_ | refine F2 ?_ | refine F3 (fun h => ?_) fun h => ?_) | (guard_target =~ Ar _ _ _; first | refine A1 ?_ | refine A2 ?_ | refine A3 ?_) | (guard_target =~ AskL _ _; first | refine L1 ?_) | (guard_target =~ Go.Eng.Ask _ _; first | refine K1 ?_) | (guard_target =~ All' _ _; first | (refine Y2 fun y he he' hy => ?_; (try dsimp only at he he' hy)) | (refine Y1 fun y he hy => ?_; (try with_reducible conv at he => (rhs; whnf)); (try dsimp only at he hy)) | (refine All'.mk ?_; intro y hy)) | refine F4 (fun h => ?_) fun h => ?_ | refine R1 ?_ | refine Q1 ?_ | fail)); all_goals (conv => whnf))
  refine CallP.mk (C := readC) B ?_
  ((repeat' ((conv => whnf) <;> first | exact True.intro | (guard_target =~ Fork _ _ _; first | refine F1 ?_ | refine F2 ?_ | refine F3 (fun h => ?_) fun h => ?_) | (guard_target =~ Ar _ _ _; first | refine A1 ?_ | refine A2 ?_ | refine A3 ?_) | (guard_target =~ AskL _ _; first | refine L1 ?_) | (guard_target =~ Go.Eng.Ask _ _; first | refine K1 ?_) | (guard_target =~ All' _ _; first | (refine Y2 fun y he he' hy => ?_; (try dsimp only at he he' hy)) | (refine Y1 fun y he hy => ?_; (try with_reducible conv at he => (rhs; whnf)); (try dsimp only at he hy)) | (refine All'.mk ?_; intro y hy)) | refine F4 (fun h => ?_) fun h => ?_ | refine R1 ?_ | refine Q1 ?_ | fail)); all_goals (conv => whnf))
  refine CallP.mk (C := dgetX) ⟨⟨B, 0⟩, G, ⟨[], 0⟩⟩ ?_
  ((repeat' ((conv => whnf) <;> first | exact True.intro | (guard_target =~ Fork _ _ _; first | refine F1 ?_ | refine F2 ?_ | refine F3 (fun h => ?_) fun h => ?_) | (guard_target =~ Ar _ _ _; first | refine A1 ?_ | refine A2 ?_ | refine A3 ?_) | (guard_target =~ AskL _ _; first | refine L1 ?_) | (guard_target =~ Go.Eng.Ask _ _; first | refine K1 ?_) | (guard_target =~ All' _ _; first | (refine Y2 fun y he he' hy => ?_; (try dsimp only at he he' hy)) | (refine Y1 fun y he hy => ?_; (try with_reducible conv at he => (rhs; whnf)); (try dsimp only at he hy)) | (refine All'.mk ?_; intro y hy)) | refine F4 (fun h => ?_) fun h => ?_ | refine R1 ?_ | refine Q1 ?_ | fail)); all_goals (conv => whnf))
  refine Ask.mk ⟨⟨hBy, by show B.length ≤ _; omega⟩, hg⟩ ?_
  ((repeat' ((conv => whnf) <;> first | exact True.intro | (guard_target =~ Fork _ _ _; first | refine F1 ?_ | refine F2 ?_ | refine F3 (fun h => ?_) fun h => ?_) | (guard_target =~ Ar _ _ _; first | refine A1 ?_ | refine A2 ?_ | refine A3 ?_) | (guard_target =~ AskL _ _; first | refine L1 ?_) | (guard_target =~ Go.Eng.Ask _ _; first | refine K1 ?_) | (guard_target =~ All' _ _; first | (refine Y2 fun y he he' hy => ?_; (try dsimp only at he he' hy)) | (refine Y1 fun y he hy => ?_; (try with_reducible conv at he => (rhs; whnf)); (try dsimp only at he hy)) | (refine All'.mk ?_; intro y hy)) | refine F4 (fun h => ?_) fun h => ?_ | refine R1 ?_ | refine Q1 ?_ | fail)); all_goals (conv => whnf))
  refine CallP.mk (C := equalCRu) (G, exA) ?_
  ((repeat' ((conv => whnf) <;> first | exact True.intro | (guard_target =~ Fork _ _ _; first | refine F1 ?_ | refine F2 ?_ | refine F3 (fun h => ?_) fun h => ?_) | (guard_target =~ Ar _ _ _; first | refine A1 ?_ | refine A2 ?_ | refine A3 ?_) | (guard_target =~ AskL _ _; first | refine L1 ?_) | (guard_target =~ Go.Eng.Ask _ _; first | refine K1 ?_) | (guard_target =~ All' _ _; first | (refine Y2 fun y he he' hy => ?_; (try dsimp only at he he' hy)) | (refine Y1 fun y he hy => ?_; (try with_reducible conv at he => (rhs; whnf)); (try dsimp only at he hy)) | (refine All'.mk ?_; intro y hy)) | refine F4 (fun h => ?_) fun h => ?_ | refine R1 ?_ | refine Q1 ?_ | fail)); all_goals (conv => whnf))
  refine CallP.mk (C := equalCRu) (Q, exA) ?_
  ((repeat' ((conv => whnf) <;> first | exact True.intro | (guard_target =~ Fork _ _ _; first | refine F1 ?_ | refine F2 ?_ | refine F3 (fun h => ?_) fun h => ?_) | (guard_target =~ Ar _ _ _; first | refine A1 ?_ | refine A2 ?_ | refine A3 ?_) | (guard_target =~ AskL _ _; first | refine L1 ?_) | (guard_target =~ Go.Eng.Ask _ _; first | refine K1 ?_) | (guard_target =~ All' _ _; first | (refine Y2 fun y he he' hy => ?_; (try dsimp only at he he' hy)) | (refine Y1 fun y he hy => ?_; (try with_reducible conv at he => (rhs; whnf)); (try dsimp only at he hy)) | (refine All'.mk ?_; intro y hy)) | refine F4 (fun h => ?_) fun h => ?_ | refine R1 ?_ | refine Q1 ?_ | fail)); all_goals (conv => whnf))
  refine CallP.mk (C := dhasC) (exA, (0, 2)) ?_
  ((repeat' ((conv => whnf) <;> first | exact True.intro | (guard_target =~ Fork _ _ _; first | refine F1 ?_ | refine F2 ?_ | refine F3 (fun h => ?_) fun h => ?_) | (guard_target =~ Ar _ _ _; first | refine A1 ?_ | refine A2 ?_ | refine A3 ?_) | (guard_target =~ AskL _ _; first | refine L1 ?_) | (guard_target =~ Go.Eng.Ask _ _; first | refine K1 ?_) | (guard_target =~ All' _ _; first | (refine Y2 fun y he he' hy => ?_; (try dsimp only at he he' hy)) | (refine Y1 fun y he hy => ?_; (try with_reducible conv at he => (rhs; whnf)); (try dsimp only at he hy)) | (refine All'.mk ?_; intro y hy)) | refine F4 (fun h => ?_) fun h => ?_ | refine R1 ?_ | refine Q1 ?_ | fail)); all_goals (conv => whnf))
  refine CallP.mk (C := dhasC) (exB, (0, 2)) ?_
  ((repeat' ((conv => whnf) <;> first | exact True.intro | (guard_target =~ Fork _ _ _; first | refine F1 ?_ | refine F2 ?_ | refine F3 (fun h => ?_) fun h => ?_) | (guard_target =~ Ar _ _ _; first | refine A1 ?_ | refine A2 ?_ | refine A3 ?_) | (guard_target =~ AskL _ _; first | refine L1 ?_) | (guard_target =~ Go.Eng.Ask _ _; first | refine K1 ?_) | (guard_target =~ All' _ _; first | (refine Y2 fun y he he' hy => ?_; (try dsimp only at he he' hy)) | (refine Y1 fun y he hy => ?_; (try with_reducible conv at he => (rhs; whnf)); (try dsimp only at he hy)) | (refine All'.mk ?_; intro y hy)) | refine F4 (fun h => ?_) fun h => ?_ | refine R1 ?_ | refine Q1 ?_ | fail)); all_goals (conv => whnf))
  refine CallP.mk (C := drightC) [(0, 0, 0)] ?_
  ((repeat' ((conv => whnf) <;> first | exact True.intro | (guard_target =~ Fork _ _ _; first | refine F1 ?_ | refine F2 ?_ | refine F3 (fun h => ?_) fun h => ?_) | (guard_target =~ Ar _ _ _; first | refine A1 ?_ | refine A2 ?_ | refine A3 ?_) | (guard_target =~ AskL _ _; first | refine L1 ?_) | (guard_target =~ Go.Eng.Ask _ _; first | refine K1 ?_) | (guard_target =~ All' _ _; first | (refine Y2 fun y he he' hy => ?_; (try dsimp only at he he' hy)) | (refine Y1 fun y he hy => ?_; (try with_reducible conv at he => (rhs; whnf)); (try dsimp only at he hy)) | (refine All'.mk ?_; intro y hy)) | refine F4 (fun h => ?_) fun h => ?_ | refine R1 ?_ | refine Q1 ?_ | fail)); all_goals (conv => whnf))
  refine CallP.mk (C := dtopC) (J, 0) ?_
  exact G1
end Go.Proofs.YtoaaieiiamdopaaGreatDoor

set_option linter.unusedVariables false
set_option linter.unusedSimpArgs false
set_option maxRecDepth 100000
set_option maxHeartbeats 4000000
namespace Go.Proofs.YtoaaieiiamdopaaGreatDoor
open Go.Eng
variable [DM]
set_option linter.unusedSectionVars false
end Go.Proofs.YtoaaieiiamdopaaGreatDoor

set_option linter.unusedVariables false
set_option linter.unusedSimpArgs false
set_option maxRecDepth 100000
set_option maxHeartbeats 4000000
namespace Go.Proofs.YtoaaieiiamdopaaGreatDoor
open Go.Eng
theorem joinF_len (a b : List Run) : (joinF a b).length ≤ a.length + b.length := by
  unfold joinF
  split
  · exact join_len b a
  · simp
@[reducible] def drightU : Ctr := { drightC with Y := Unit, val := fun _ => (), ens := fun _ _ => True, res := fun c _ => .v (.bool (rightB c)), out := fun _ _ => [] }
theorem drightU_re {f : FuncId} (h : drightC.ok Tryz.prog f) : drightU.ok Tryz.prog f := ctr_re (C := drightC) (fun x => x) (fun x h => ⟨h, trivial, rfl, rfl, rfl, rfl⟩) h
end Go.Proofs.YtoaaieiiamdopaaGreatDoor

set_option linter.unusedVariables false
set_option linter.unusedSimpArgs false
set_option maxRecDepth 100000
set_option maxHeartbeats 4000000
namespace Go.Proofs.YtoaaieiiamdopaaGreatDoor
open Go.Eng
end Go.Proofs.YtoaaieiiamdopaaGreatDoor

set_option linter.unusedVariables false
set_option linter.unusedSimpArgs false
set_option maxRecDepth 100000
set_option maxHeartbeats 4000000
namespace Go.Proofs.YtoaaieiiamdopaaGreatDoor
open Go.Eng
end Go.Proofs.YtoaaieiiamdopaaGreatDoor

set_option linter.unusedVariables false
set_option linter.unusedSimpArgs false
set_option maxRecDepth 100000
namespace Go.Proofs.YtoaaieiiamdopaaGreatDoor
open Go.Eng
theorem join_rt {a b : List Run} (ha : Rt a) (hb : Rt b) : joinF a b = joinL a b ∧ Rt (joinF a b) ∧ ∀ d, inC (joinF a b) d ↔ inC a d ∨ inC b d := by
  have e : joinF a b = joinL a b := by unfold joinF; rw [right_iff.2 ha, right_iff.2 hb]; rfl
  rw [e]
  exact ⟨rfl, (join_ok b a ha hb.all).1, (join_ok b a ha hb.all).2⟩
theorem above_rt {a b : List Run} (ha : Rt a) (hb : Rt b) : aboveF a b = true ↔ ∀ d, inC b d → inC a d := by
  rw [← below_iff hb ha]
  unfold aboveF cmpF
  rw [right_iff.2 ha, right_iff.2 hb]
  cases belowB a b <;> cases belowB b a <;> decide
theorem least {a b c : List Run} (ha : Rt a) (hb : Rt b) (hc : Rt c) : aboveF (joinF a b) a = true ∧ aboveF (joinF a b) b = true ∧ (aboveF c a = true → aboveF c b = true → aboveF c (joinF a b) = true) ∧
    joinF a b = joinF b a ∧ joinF (joinF a b) c = joinF a (joinF b c) ∧ joinF a a = a ∧ (aboveF a b = true → aboveF b a = true → a = b) := by
  obtain ⟨-, j1, j2⟩ := join_rt ha hb
  obtain ⟨-, k1, k2⟩ := join_rt hb ha
  obtain ⟨-, l1, l2⟩ := join_rt j1 hc
  obtain ⟨-, m1, m2⟩ := join_rt hb hc
  obtain ⟨-, n1, n2⟩ := join_rt ha m1
  obtain ⟨-, o1, o2⟩ := join_rt ha ha
  rw [above_rt j1 ha, above_rt j1 hb, above_rt hc ha, above_rt hc hb, above_rt hc j1, above_rt ha hb, above_rt hb ha]
  refine ⟨fun d h => (j2 d).2 (.inl h), fun d h => (j2 d).2 (.inr h), fun h1 h2 d h => ((j2 d).1 h).elim (h1 d) (h2 d), clk_uniq _ _ j1 k1 (fun d => ?_), clk_uniq _ _ l1 n1 (fun d => ?_), clk_uniq _ _ o1 ha (fun d => ?_), fun h1 h2 => clk_uniq _ _ ha hb (fun d => ⟨h2 d, h1 d⟩)⟩
  · rw [j2, k2, or_comm]
  · rw [l2, j2, n2, m2, or_assoc]
  · rw [o2, or_self]
end Go.Proofs.YtoaaieiiamdopaaGreatDoor

set_option linter.unusedVariables false
set_option linter.unusedSimpArgs false
set_option maxRecDepth 100000
namespace Go.Proofs.YtoaaieiiamdopaaGreatDoor
open Go.Eng
end Go.Proofs.YtoaaieiiamdopaaGreatDoor

set_option linter.unusedVariables false
set_option linter.unusedSimpArgs false
namespace Go.Proofs.YtoaaieiiamdopaaGreatDoor
open Go.Eng
end Go.Proofs.YtoaaieiiamdopaaGreatDoor

set_option linter.unusedVariables false
set_option linter.unusedSimpArgs false
set_option maxRecDepth 100000
set_option maxHeartbeats 4000000
namespace Go.Proofs.YtoaaieiiamdopaaGreatDoor
open Go.Eng
end Go.Proofs.YtoaaieiiamdopaaGreatDoor

set_option linter.unusedVariables false
set_option linter.unusedSimpArgs false
set_option maxRecDepth 100000
set_option maxHeartbeats 4000000
namespace Go.Proofs.YtoaaieiiamdopaaGreatDoor
open Go.Eng
end Go.Proofs.YtoaaieiiamdopaaGreatDoor

set_option linter.unusedVariables false
set_option linter.unusedSimpArgs false
set_option maxRecDepth 100000
set_option maxHeartbeats 4000000
namespace Go.Proofs.YtoaaieiiamdopaaGreatDoor
open Go.Eng
end Go.Proofs.YtoaaieiiamdopaaGreatDoor

set_option linter.unusedVariables false
set_option linter.unusedSimpArgs false
set_option maxRecDepth 100000
set_option maxHeartbeats 4000000
namespace Go.Proofs.YtoaaieiiamdopaaGreatDoor
open Go.Eng
end Go.Proofs.YtoaaieiiamdopaaGreatDoor
