/- Parts of the proof, one behind the other (DotA, DotM, LibE, SlRu, DotD, DotB, DotE, EngV). -/
import Derived.Test.YtoaaieiiamdopaaGreatDoorPk6
import Derived.Lib.LaidTab
import Derived.RowKit3
import Derived.Below
import Derived.Sort.Grow
import Derived.Deep.Draws
set_option linter.unusedVariables false
set_option linter.unusedSimpArgs false
set_option linter.unusedSectionVars false
set_option linter.unusedVariables false
set_option linter.unusedSimpArgs false
set_option maxRecDepth 100000
namespace Go.Proofs.YtoaaieiiamdopaaGreatDoor
open Go.Eng
variable [DM]
set_option linter.unusedSectionVars false
theorem get_ex {α : Type} {l : List α} {i : Nat} (h : i < l.length) : ∃ r, l[i]? = some r := ⟨l[i], List.getElem?_eq_getElem h⟩
abbrev runT : Ty := .pair (.int .i64) (.pair (.int .i64) (.int .i64))
abbrev Run := Int × Int × Int

def goodB (d : Int × Int) : Bool := decide (0 ≤ d.1 ∧ d.1 ≤ 7 ∧ 1 ≤ d.2 ∧ d.2 ≤ 1099511627776)
@[reducible] def dgoodC : Ctr := {
  X := Int × Int
  Y := Bool
  args := fun d => [.agg [.v (.int .i64 d.1), .v (.int .i64 d.2)]]
  rw := fun _ => []
  side := fun _ => True
  val := fun d => goodB d
  ens := fun _ _ => True
  res := fun _ y => .v (.bool y)
  out := fun _ _ => [] }
theorem dgood_ok : dgoodC.ok Tryz.prog 30 := by
  refine ok_of_vc (An := fun _ => anOf []) (known_nil _) mo Tryz.func30 (by kernel_rfl) (by kernel_rfl) (fun _ _ => trivial) (fun x hs => ?_)
  obtain ⟨n, k⟩ := x
  ((repeat' ((conv => whnf) <;> first | exact True.intro | (guard_target =~ Fork _ _ _; first | refine F1 ?_ | refine F2 ?_ | (refine Fork.pos ?_ ?_; · (simp only [goodB, Bool.not_true, Bool.not_false, decide_eq_true_eq, beq_iff_eq, bne_iff_ne, ne_eq] <;> omega)) | (refine Fork.neg ?_ ?_; · (simp only [goodB, Bool.not_true, Bool.not_false, decide_eq_false_iff_not, beq_eq_false_iff_ne] <;> omega)) | refine F3 (fun h => ?_) fun h => ?_) | (guard_target =~ Ar _ _ _; first | refine A1 ?_ | refine A2 ?_ | refine A3 ?_ | (refine Ar.fit (wrap_i64 ?_ ?_) ?_; · ((try dsimp only) <;> simp only [goodB] <;> omega); · ((try dsimp only) <;> simp only [goodB] <;> omega)) | (refine Ar.fit (wrap_u64 ?_ ?_) ?_; · ((try dsimp only) <;> simp only [goodB] <;> omega); · ((try dsimp only) <;> simp only [goodB] <;> omega))) | (guard_target =~ AskL _ _; first | (refine AskL.mk ?_ ?_; · ((simp only [conj]; repeat' apply And.intro) <;> first | rfl | trivial | omega | (simp only [goodB]; done) | (simp only [goodB] <;> omega) | (simp only [goodB]; refine Bool.eq_iff_iff.2 ?_; simp only [decide_eq_true_eq, Bool.false_eq_true, true_iff, iff_true, false_iff, iff_false, eq_self]; omega) | (simp only [*, goodB]; done))) | refine L1 ?_) | (guard_target =~ Go.Eng.Ask _ _; first | refine K1 ?_ | (refine Ask.mk ?_ ?_; · ((try dsimp only) <;> simp only [goodB] <;> omega))) | (guard_target =~ All' _ _; first | (refine Y2 fun y he he' hy => ?_; (try dsimp only at he he' hy)) | (refine Y1 fun y he hy => ?_; (try with_reducible conv at he => (rhs; whnf)); (try dsimp only at he hy)) | (refine All'.mk ?_; intro y hy)) | refine F4 (fun h => ?_) fun h => ?_ | refine R1 ?_ | refine Q1 ?_ | fail)); all_goals (conv => whnf))
@[reducible] def runP (r : Run) : Prop := 0 ≤ r.1 ∧ r.1 ≤ 7 ∧ 1 ≤ r.2.1 ∧ r.2.1 ≤ r.2.2 ∧ r.2.2 ≤ 1099511627776
@[reducible] def nextP (p r : Run) : Prop := ¬ (r.1 < p.1 ∨ p.1 = r.1 ∧ r.2.1 - 1 ≤ p.2.2)
def runB (r : Run) : Bool := decide (runP r)
@[reducible] def dfitsC : Ctr := {
  X := Run
  Y := Bool
  args := fun r => [.agg [.v (.int .i64 r.1), .v (.int .i64 r.2.1), .v (.int .i64 r.2.2)]]
  rw := fun _ => []
  side := fun _ => True
  val := fun r => runB r
  ens := fun _ _ => True
  res := fun _ y => .v (.bool y)
  out := fun _ _ => [] }
theorem knownD0 : Known Tryz.prog (gOf [(30, dgoodC)]) := known_cons ⟨dgood_ok, Tryz.call30⟩ (known_nil _)
theorem dfits_ok : dfitsC.ok Tryz.prog 64 := by
  refine ok_of_vc (An := fun _ => anOf []) knownD0 mo Tryz.func64 (by kernel_rfl) (by kernel_rfl) (fun _ _ => trivial) (fun x hs => ?_)
  obtain ⟨n, f, t⟩ := x
  ((repeat' ((conv => whnf) <;> first | exact True.intro | (guard_target =~ Fork _ _ _; first | refine F1 ?_ | refine F2 ?_ | refine F3 (fun h => ?_) fun h => ?_) | (guard_target =~ Ar _ _ _; first | refine A1 ?_ | refine A2 ?_ | refine A3 ?_) | (guard_target =~ AskL _ _; first | refine L1 ?_) | (guard_target =~ Go.Eng.Ask _ _; first | refine K1 ?_) | (guard_target =~ All' _ _; first | (refine Y2 fun y he he' hy => ?_; (try dsimp only at he he' hy)) | (refine Y1 fun y he hy => ?_; (try with_reducible conv at he => (rhs; whnf)); (try dsimp only at he hy)) | (refine All'.mk ?_; intro y hy)) | refine F4 (fun h => ?_) fun h => ?_ | refine R1 ?_ | refine Q1 ?_ | fail)); all_goals (conv => whnf))
  refine CallP.mk (C := dgoodC) (n, f) ?_
  ((repeat' ((conv => whnf) <;> first | exact True.intro | (guard_target =~ Fork _ _ _; first | refine F1 ?_ | refine F2 ?_ | refine F3 (fun h => ?_) fun h => ?_) | (guard_target =~ Ar _ _ _; first | refine A1 ?_ | refine A2 ?_ | refine A3 ?_) | (guard_target =~ AskL _ _; first | refine L1 ?_) | (guard_target =~ Go.Eng.Ask _ _; first | refine K1 ?_) | (guard_target =~ All' _ _; first | (refine Y2 fun y he he' hy => ?_; (try dsimp only at he he' hy)) | (refine Y1 fun y he hy => ?_; (try with_reducible conv at he => (rhs; whnf)); (try dsimp only at he hy)) | (refine All'.mk ?_; intro y hy)) | refine F4 (fun h => ?_) fun h => ?_ | refine R1 ?_ | refine Q1 ?_ | fail)); all_goals (conv => whnf))
  all_goals
    have he := he.symm.trans (by assumption)
    simp only [goodB, decide_eq_true_eq, decide_eq_false_iff_not] at he
    refine AskL.mk ?_ trivial
    show _ = decide (0 ≤ n ∧ n ≤ 7 ∧ 1 ≤ f ∧ f ≤ t ∧ t ≤ 1099511627776)
    first
      | exact decide_eq_decide.2 (by (try dsimp only); omega)
      | exact (decide_eq_false (by (try dsimp only); omega)).symm

def prv (c : List Run) : Nat → Option Run
  | 0 => none
  | i + 1 => c[i]?
def rightFrom : Option Run → List Run → Bool
  | _, [] => true
  | p, r :: l => runB r && (match p with | none => true | some q => decide (nextP q r)) && rightFrom (some r) l
def rightB (c : List Run) : Bool := rightFrom none c
theorem right_start (c : List Run) : rightB c = rightFrom (prv c 0) (c.drop 0) := rfl
theorem right_step {c : List Run} {i : Nat} {r : Run} (h : c[i]? = some r) :
    rightFrom (prv c i) (c.drop i) = (runB r && (match prv c i with | none => true | some q => decide (nextP q r)) && rightFrom (prv c (i + 1)) (c.drop (i + 1))) := by
  obtain ⟨hi, rfl⟩ := List.getElem?_eq_some_iff.1 h
  rw [List.drop_eq_getElem_cons hi]
  show (_ && _ && _) = _
  simp only [prv, h]
theorem right_end {c : List Run} {i : Nat} (h : c.length ≤ i) : rightFrom (prv c i) (c.drop i) = true := by
  rw [List.drop_eq_nil_of_le h]; rfl

@[reducible] def drightC : Ctr := {
  X := List Run
  Y := Bool
  args := fun c => [.ro true runT c]
  rw := fun _ => []
  side := fun c => c.length ≤ 9223372036854775807
  val := fun c => rightB c
  ens := fun _ _ => True
  res := fun _ y => .v (.bool y)
  out := fun _ _ => [] }
@[reducible] def drightL (c : List Run) : LA := {
  X := Nat
  pre := fun i => i ≤ c.length ∧ rightB c = rightFrom (prv c i) (c.drop i)
  mu := fun i => c.length - i
  T := fun i => [(0, .ro true runT c), (5, .ro true runT c), (6, .v (.int .i64 c.length)), (7, .v (.int .i64 i))]
  M := fun _ => [] }
theorem knownD1 : Known Tryz.prog (gOf [(64, dfitsC)]) := known_cons ⟨dfits_ok, Tryz.call64⟩ (known_nil _)
theorem dright_ok : drightC.ok Tryz.prog 24 := by
  refine ok_of_vc (An := fun (c : List Run) => anOf [(0, .loop (drightL c))]) knownD1 mo Tryz.func24 (by kernel_rfl) (by kernel_rfl) (fun _ _ => trivial) (fun (c : List Run) hs => ?_)
  have hs : c.length ≤ 9223372036854775807 := hs
  ((repeat' ((conv => whnf) <;> first | exact True.intro | (guard_target =~ Fork _ _ _; first | refine F1 ?_ | refine F2 ?_ | refine F3 (fun h => ?_) fun h => ?_) | (guard_target =~ Ar _ _ _; first | refine A1 ?_ | refine A2 ?_ | refine A3 ?_) | (guard_target =~ AskL _ _; first | refine L1 ?_) | (guard_target =~ Go.Eng.Ask _ _; first | refine K1 ?_) | (guard_target =~ All' _ _; first | (refine Y2 fun y he he' hy => ?_; (try dsimp only at he he' hy)) | (refine Y1 fun y he hy => ?_; (try with_reducible conv at he => (rhs; whnf)); (try dsimp only at he hy)) | (refine All'.mk ?_; intro y hy)) | refine F4 (fun h => ?_) fun h => ?_ | refine R1 ?_ | refine Q1 ?_ | fail)); all_goals (conv => whnf))
  refine Some'.mk 0 ?_
  ((repeat' ((conv => whnf) <;> first | exact True.intro | (guard_target =~ Fork _ _ _; first | refine F1 ?_ | refine F2 ?_ | refine F3 (fun h => ?_) fun h => ?_) | (guard_target =~ Ar _ _ _; first | refine A1 ?_ | refine A2 ?_ | refine A3 ?_) | (guard_target =~ AskL _ _; first | refine L1 ?_) | (guard_target =~ Go.Eng.Ask _ _; first | refine K1 ?_) | (guard_target =~ All' _ _; first | (refine Y2 fun y he he' hy => ?_; (try dsimp only at he he' hy)) | (refine Y1 fun y he hy => ?_; (try with_reducible conv at he => (rhs; whnf)); (try dsimp only at he hy)) | (refine All'.mk ?_; intro y hy)) | refine F4 (fun h => ?_) fun h => ?_ | refine R1 ?_ | refine Q1 ?_ | fail)); all_goals (conv => whnf))
  refine Ask.mk ⟨Nat.zero_le _, right_start c⟩ ?_
  ((repeat' ((conv => whnf) <;> first | exact True.intro | (guard_target =~ Fork _ _ _; first | refine F1 ?_ | refine F2 ?_ | refine F3 (fun h => ?_) fun h => ?_) | (guard_target =~ Ar _ _ _; first | refine A1 ?_ | refine A2 ?_ | refine A3 ?_) | (guard_target =~ AskL _ _; first | refine L1 ?_) | (guard_target =~ Go.Eng.Ask _ _; first | refine K1 ?_) | (guard_target =~ All' _ _; first | (refine Y2 fun y he he' hy => ?_; (try dsimp only at he he' hy)) | (refine Y1 fun y he hy => ?_; (try with_reducible conv at he => (rhs; whnf)); (try dsimp only at he hy)) | (refine All'.mk ?_; intro y hy)) | refine F4 (fun h => ?_) fun h => ?_ | refine R1 ?_ | refine Q1 ?_ | fail)); all_goals (conv => whnf))
  refine AllI.mk ?_
  rintro (i : Nat) ⟨h1, h2⟩
  rcases Nat.lt_or_ge i c.length with hlt | hge
  · obtain ⟨r, hr⟩ := get_ex hlt
    have hst := right_step hr
    obtain ⟨n, f, t⟩ := r
    rw [hst] at h2
    clear hst
    cases hok : runB (n, f, t) with
    | false =>
      rw [hok, Bool.false_and, Bool.false_and] at h2
      ((repeat' ((conv => whnf) <;> first | exact True.intro | (guard_target =~ Fork _ _ _; first | refine F1 ?_ | refine F2 ?_ | refine F3 (fun h => ?_) fun h => ?_) | (guard_target =~ Ar _ _ _; first | refine A1 ?_ | refine A2 ?_ | refine A3 ?_) | (guard_target =~ AskL _ _; first | refine L1 ?_) | (guard_target =~ Go.Eng.Ask _ _; first | refine K1 ?_) | (guard_target =~ All' _ _; first | (refine Y2 fun y he he' hy => ?_; (try dsimp only at he he' hy)) | (refine Y1 fun y he hy => ?_; (try with_reducible conv at he => (rhs; whnf)); (try dsimp only at he hy))) | refine F4 (fun h => ?_) fun h => ?_ | refine R1 ?_ | refine Q1 ?_ | fail)); all_goals (conv => whnf))
      refine All'.mk ?_
      rintro (y : Run) hy
      obtain rfl : (n, f, t) = y := Option.some.inj (hr.symm.trans hy)
      clear hy
      ((repeat' ((conv => whnf) <;> first | exact True.intro | (guard_target =~ Fork _ _ _; first | refine F1 ?_ | refine F2 ?_ | refine F3 (fun h => ?_) fun h => ?_) | (guard_target =~ Ar _ _ _; first | refine A1 ?_ | refine A2 ?_ | refine A3 ?_) | (guard_target =~ AskL _ _; first | refine L1 ?_) | (guard_target =~ Go.Eng.Ask _ _; first | refine K1 ?_) | (guard_target =~ All' _ _; first | (refine Y2 fun y he he' hy => ?_; (try dsimp only at he he' hy)) | (refine Y1 fun y he hy => ?_; (try with_reducible conv at he => (rhs; whnf)); (try dsimp only at he hy))) | refine F4 (fun h => ?_) fun h => ?_ | refine R1 ?_ | refine Q1 ?_ | fail)); all_goals (conv => whnf))
      refine CallP.mk (C := dfitsC) (n, f, t) ?_
      ((repeat' ((conv => whnf) <;> first | exact True.intro | (guard_target =~ Fork _ _ _; first | refine F1 ?_ | refine F2 ?_ | refine F3 (fun h => ?_) fun h => ?_) | (guard_target =~ Ar _ _ _; first | refine A1 ?_ | refine A2 ?_ | refine A3 ?_) | (guard_target =~ AskL _ _; first | refine L1 ?_) | (guard_target =~ Go.Eng.Ask _ _; first | refine K1 ?_) | (guard_target =~ All' _ _; first | (refine Y2 fun y he he' hy => ?_; (try dsimp only at he he' hy)) | (refine Y1 fun y he hy => ?_; (try with_reducible conv at he => (rhs; whnf)); (try dsimp only at he hy))) | refine F4 (fun h => ?_) fun h => ?_ | refine R1 ?_ | refine Q1 ?_ | fail)); all_goals (conv => whnf))
    | true =>
      have hrp : 0 ≤ n ∧ n ≤ 7 ∧ 1 ≤ f ∧ f ≤ t ∧ t ≤ 1099511627776 := of_decide_eq_true hok
      cases i with
      | zero =>
        rw [hok, Bool.true_and] at h2
        replace h2 : rightB c = rightFrom (prv c (0 + 1)) (c.drop (0 + 1)) := h2
        ((repeat' ((conv => whnf) <;> first | exact True.intro | (guard_target =~ Fork _ _ _; first | refine F1 ?_ | refine F2 ?_ | refine F3 (fun h => ?_) fun h => ?_) | (guard_target =~ Ar _ _ _; first | refine A1 ?_ | refine A2 ?_ | refine A3 ?_) | (guard_target =~ AskL _ _; first | refine L1 ?_) | (guard_target =~ Go.Eng.Ask _ _; first | refine K1 ?_) | (guard_target =~ All' _ _; first | (refine Y2 fun y he he' hy => ?_; (try dsimp only at he he' hy)) | (refine Y1 fun y he hy => ?_; (try with_reducible conv at he => (rhs; whnf)); (try dsimp only at he hy))) | refine F4 (fun h => ?_) fun h => ?_ | refine R1 ?_ | refine Q1 ?_ | fail)); all_goals (conv => whnf))
        refine All'.mk ?_
        rintro (y : Run) hy
        obtain rfl : (n, f, t) = y := Option.some.inj (hr.symm.trans hy)
        clear hy
        ((repeat' ((conv => whnf) <;> first | exact True.intro | (guard_target =~ Fork _ _ _; first | refine F1 ?_ | refine F2 ?_ | refine F3 (fun h => ?_) fun h => ?_) | (guard_target =~ Ar _ _ _; first | refine A1 ?_ | refine A2 ?_ | refine A3 ?_) | (guard_target =~ AskL _ _; first | refine L1 ?_) | (guard_target =~ Go.Eng.Ask _ _; first | refine K1 ?_) | (guard_target =~ All' _ _; first | (refine Y2 fun y he he' hy => ?_; (try dsimp only at he he' hy)) | (refine Y1 fun y he hy => ?_; (try with_reducible conv at he => (rhs; whnf)); (try dsimp only at he hy))) | refine F4 (fun h => ?_) fun h => ?_ | refine R1 ?_ | refine Q1 ?_ | fail)); all_goals (conv => whnf))
        refine CallP.mk (C := dfitsC) (n, f, t) ?_
        ((repeat' ((conv => whnf) <;> first | exact True.intro | (guard_target =~ Fork _ _ _; first | refine F1 ?_ | refine F2 ?_ | refine F3 (fun h => ?_) fun h => ?_) | (guard_target =~ Ar _ _ _; first | refine A1 ?_ | refine A2 ?_ | refine A3 ?_) | (guard_target =~ AskL _ _; first | refine L1 ?_) | (guard_target =~ Go.Eng.Ask _ _; first | refine K1 ?_) | (guard_target =~ All' _ _; first | (refine Y2 fun y he he' hy => ?_; (try dsimp only at he he' hy)) | (refine Y1 fun y he hy => ?_; (try with_reducible conv at he => (rhs; whnf)); (try dsimp only at he hy))) | refine F4 (fun h => ?_) fun h => ?_ | refine R1 ?_ | refine Q1 ?_ | fail)); all_goals (conv => whnf))
        refine Some'.mk (1) ?_
        exact G1
      | succ i =>
        obtain ⟨⟨pn, pf, pt⟩, hp⟩ := get_ex (show i < c.length by omega)
        have hi1 : (((i + 1 : Nat) : Int) - 1).toNat = i := by omega
        have hpv : prv c (i + 1) = some (pn, pf, pt) := hp
        rw [hok, hpv, Bool.true_and] at h2
        clear hpv
        by_cases hn : nextP (pn, pf, pt) (n, f, t)
        · replace h2 : rightB c = (decide (nextP (pn, pf, pt) (n, f, t)) && rightFrom (prv c (i + 1 + 1)) (c.drop (i + 1 + 1))) := h2
          rw [decide_eq_true hn, Bool.true_and] at h2
          replace hn : ¬ (n < pn ∨ pn = n ∧ f - 1 ≤ pt) := hn
          ((repeat' ((conv => whnf) <;> first | exact True.intro | (guard_target =~ Fork _ _ _; first | refine F1 ?_ | refine F2 ?_ | refine F3 (fun h => ?_) fun h => ?_) | (guard_target =~ Ar _ _ _; first | refine A1 ?_ | refine A2 ?_ | refine A3 ?_) | (guard_target =~ AskL _ _; first | refine L1 ?_) | (guard_target =~ Go.Eng.Ask _ _; first | refine K1 ?_) | (guard_target =~ All' _ _; first | (refine Y2 fun y he he' hy => ?_; (try dsimp only at he he' hy)) | (refine Y1 fun y he hy => ?_; (try with_reducible conv at he => (rhs; whnf)); (try dsimp only at he hy))) | refine F4 (fun h => ?_) fun h => ?_ | refine R1 ?_ | refine Q1 ?_ | fail)); all_goals (conv => whnf))
          refine All'.mk ?_
          rintro (y : Run) hy
          obtain rfl : (n, f, t) = y := Option.some.inj (hr.symm.trans hy)
          clear hy
          ((repeat' ((conv => whnf) <;> first | exact True.intro | (guard_target =~ Fork _ _ _; first | refine F1 ?_ | refine F2 ?_ | refine F3 (fun h => ?_) fun h => ?_) | (guard_target =~ Ar _ _ _; first | refine A1 ?_ | refine A2 ?_ | refine A3 ?_) | (guard_target =~ AskL _ _; first | refine L1 ?_) | (guard_target =~ Go.Eng.Ask _ _; first | refine K1 ?_) | (guard_target =~ All' _ _; first | (refine Y2 fun y he he' hy => ?_; (try dsimp only at he he' hy)) | (refine Y1 fun y he hy => ?_; (try with_reducible conv at he => (rhs; whnf)); (try dsimp only at he hy))) | refine F4 (fun h => ?_) fun h => ?_ | refine R1 ?_ | refine Q1 ?_ | fail)); all_goals (conv => whnf))
          refine CallP.mk (C := dfitsC) (n, f, t) ?_
          ((repeat' ((conv => whnf) <;> first | exact True.intro | (guard_target =~ Fork _ _ _; first | refine F1 ?_ | refine F2 ?_ | refine F3 (fun h => ?_) fun h => ?_) | (guard_target =~ Ar _ _ _; first | refine A1 ?_ | refine A2 ?_ | refine A3 ?_) | (guard_target =~ AskL _ _; first | refine L1 ?_) | (guard_target =~ Go.Eng.Ask _ _; first | refine K1 ?_) | (guard_target =~ All' _ _; first | (refine Y2 fun y he he' hy => ?_; (try dsimp only at he he' hy)) | (refine Y1 fun y he hy => ?_; (try with_reducible conv at he => (rhs; whnf)); (try dsimp only at he hy))) | refine F4 (fun h => ?_) fun h => ?_ | refine R1 ?_ | refine Q1 ?_ | fail)); all_goals (conv => whnf))
          all_goals
            try
              refine All'.mk ?_
              rintro (y : Run) hy
              rw [hi1] at hy
              obtain rfl : (pn, pf, pt) = y := Option.some.inj (hp.symm.trans hy)
              clear hy
              ((repeat' ((conv => whnf) <;> first | exact True.intro | (guard_target =~ Fork _ _ _; first | refine F1 ?_ | refine F2 ?_ | refine F3 (fun h => ?_) fun h => ?_) | (guard_target =~ Ar _ _ _; first | refine A1 ?_ | refine A2 ?_ | refine A3 ?_) | (guard_target =~ AskL _ _; first | refine L1 ?_) | (guard_target =~ Go.Eng.Ask _ _; first | refine K1 ?_) | (guard_target =~ All' _ _; first | (refine Y2 fun y he he' hy => ?_; (try dsimp only at he he' hy)) | (refine Y1 fun y he hy => ?_; (try with_reducible conv at he => (rhs; whnf)); (try dsimp only at he hy))) | refine F4 (fun h => ?_) fun h => ?_ | refine R1 ?_ | refine Q1 ?_ | fail)); all_goals (conv => whnf))
          all_goals
            try
              refine All'.mk ?_
              rintro (y : Run) hy
              rw [hi1] at hy
              obtain rfl : (pn, pf, pt) = y := Option.some.inj (hp.symm.trans hy)
              clear hy
              ((repeat' ((conv => whnf) <;> first | exact True.intro | (guard_target =~ Fork _ _ _; first | refine F1 ?_ | refine F2 ?_ | refine F3 (fun h => ?_) fun h => ?_) | (guard_target =~ Ar _ _ _; first | refine A1 ?_ | refine A2 ?_ | refine A3 ?_) | (guard_target =~ AskL _ _; first | refine L1 ?_) | (guard_target =~ Go.Eng.Ask _ _; first | refine K1 ?_) | (guard_target =~ All' _ _; first | (refine Y2 fun y he he' hy => ?_; (try dsimp only at he he' hy)) | (refine Y1 fun y he hy => ?_; (try with_reducible conv at he => (rhs; whnf)); (try dsimp only at he hy))) | refine F4 (fun h => ?_) fun h => ?_ | refine R1 ?_ | refine Q1 ?_ | fail)); all_goals (conv => whnf))
          all_goals
            try
              refine All'.mk ?_
              rintro (y : Run) hy
              rw [hi1] at hy
              obtain rfl : (pn, pf, pt) = y := Option.some.inj (hp.symm.trans hy)
              clear hy
              ((repeat' ((conv => whnf) <;> first | exact True.intro | (guard_target =~ Fork _ _ _; first | refine F1 ?_ | refine F2 ?_ | refine F3 (fun h => ?_) fun h => ?_) | (guard_target =~ Ar _ _ _; first | refine A1 ?_ | refine A2 ?_ | refine A3 ?_) | (guard_target =~ AskL _ _; first | refine L1 ?_) | (guard_target =~ Go.Eng.Ask _ _; first | refine K1 ?_) | (guard_target =~ All' _ _; first | (refine Y2 fun y he he' hy => ?_; (try dsimp only at he he' hy)) | (refine Y1 fun y he hy => ?_; (try with_reducible conv at he => (rhs; whnf)); (try dsimp only at he hy))) | refine F4 (fun h => ?_) fun h => ?_ | refine R1 ?_ | refine Q1 ?_ | fail)); all_goals (conv => whnf))
          all_goals
            refine Some'.mk (i + 1 + 1) ?_
            ((repeat' ((conv => whnf) <;> first | exact True.intro | (guard_target =~ Fork _ _ _; first | refine F1 ?_ | refine F2 ?_ | refine F3 (fun h => ?_) fun h => ?_) | (guard_target =~ Ar _ _ _; first | refine A1 ?_ | refine A2 ?_ | refine A3 ?_) | (guard_target =~ AskL _ _; first | refine L1 ?_) | (guard_target =~ Go.Eng.Ask _ _; first | refine K1 ?_) | (guard_target =~ All' _ _; first | (refine Y2 fun y he he' hy => ?_; (try dsimp only at he he' hy)) | (refine Y1 fun y he hy => ?_; (try with_reducible conv at he => (rhs; whnf)); (try dsimp only at he hy)) | (refine All'.mk ?_; intro y hy)) | refine F4 (fun h => ?_) fun h => ?_ | refine R1 ?_ | refine Q1 ?_ | fail)); all_goals (conv => whnf))
        · replace h2 : rightB c = (decide (nextP (pn, pf, pt) (n, f, t)) && rightFrom (prv c (i + 1 + 1)) (c.drop (i + 1 + 1))) := h2
          rw [decide_eq_false hn, Bool.false_and] at h2
          replace hn : ¬ ¬ (n < pn ∨ pn = n ∧ f - 1 ≤ pt) := hn
          ((repeat' ((conv => whnf) <;> first | exact True.intro | (guard_target =~ Fork _ _ _; first | refine F1 ?_ | refine F2 ?_ | refine F3 (fun h => ?_) fun h => ?_) | (guard_target =~ Ar _ _ _; first | refine A1 ?_ | refine A2 ?_ | refine A3 ?_) | (guard_target =~ AskL _ _; first | refine L1 ?_) | (guard_target =~ Go.Eng.Ask _ _; first | refine K1 ?_) | (guard_target =~ All' _ _; first | (refine Y2 fun y he he' hy => ?_; (try dsimp only at he he' hy)) | (refine Y1 fun y he hy => ?_; (try with_reducible conv at he => (rhs; whnf)); (try dsimp only at he hy))) | refine F4 (fun h => ?_) fun h => ?_ | refine R1 ?_ | refine Q1 ?_ | fail)); all_goals (conv => whnf))
          refine All'.mk ?_
          rintro (y : Run) hy
          obtain rfl : (n, f, t) = y := Option.some.inj (hr.symm.trans hy)
          clear hy
          ((repeat' ((conv => whnf) <;> first | exact True.intro | (guard_target =~ Fork _ _ _; first | refine F1 ?_ | refine F2 ?_ | refine F3 (fun h => ?_) fun h => ?_) | (guard_target =~ Ar _ _ _; first | refine A1 ?_ | refine A2 ?_ | refine A3 ?_) | (guard_target =~ AskL _ _; first | refine L1 ?_) | (guard_target =~ Go.Eng.Ask _ _; first | refine K1 ?_) | (guard_target =~ All' _ _; first | (refine Y2 fun y he he' hy => ?_; (try dsimp only at he he' hy)) | (refine Y1 fun y he hy => ?_; (try with_reducible conv at he => (rhs; whnf)); (try dsimp only at he hy))) | refine F4 (fun h => ?_) fun h => ?_ | refine R1 ?_ | refine Q1 ?_ | fail)); all_goals (conv => whnf))
          refine CallP.mk (C := dfitsC) (n, f, t) ?_
          ((repeat' ((conv => whnf) <;> first | exact True.intro | (guard_target =~ Fork _ _ _; first | refine F1 ?_ | refine F2 ?_ | refine F3 (fun h => ?_) fun h => ?_) | (guard_target =~ Ar _ _ _; first | refine A1 ?_ | refine A2 ?_ | refine A3 ?_) | (guard_target =~ AskL _ _; first | refine L1 ?_) | (guard_target =~ Go.Eng.Ask _ _; first | refine K1 ?_) | (guard_target =~ All' _ _; first | (refine Y2 fun y he he' hy => ?_; (try dsimp only at he he' hy)) | (refine Y1 fun y he hy => ?_; (try with_reducible conv at he => (rhs; whnf)); (try dsimp only at he hy))) | refine F4 (fun h => ?_) fun h => ?_ | refine R1 ?_ | refine Q1 ?_ | fail)); all_goals (conv => whnf))
          all_goals
            try
              refine All'.mk ?_
              rintro (y : Run) hy
              rw [hi1] at hy
              obtain rfl : (pn, pf, pt) = y := Option.some.inj (hp.symm.trans hy)
              clear hy
              ((repeat' ((conv => whnf) <;> first | exact True.intro | (guard_target =~ Fork _ _ _; first | refine F1 ?_ | refine F2 ?_ | refine F3 (fun h => ?_) fun h => ?_) | (guard_target =~ Ar _ _ _; first | refine A1 ?_ | refine A2 ?_ | refine A3 ?_) | (guard_target =~ AskL _ _; first | refine L1 ?_) | (guard_target =~ Go.Eng.Ask _ _; first | refine K1 ?_) | (guard_target =~ All' _ _; first | (refine Y2 fun y he he' hy => ?_; (try dsimp only at he he' hy)) | (refine Y1 fun y he hy => ?_; (try with_reducible conv at he => (rhs; whnf)); (try dsimp only at he hy))) | refine F4 (fun h => ?_) fun h => ?_ | refine R1 ?_ | refine Q1 ?_ | fail)); all_goals (conv => whnf))
          all_goals
            try
              refine All'.mk ?_
              rintro (y : Run) hy
              rw [hi1] at hy
              obtain rfl : (pn, pf, pt) = y := Option.some.inj (hp.symm.trans hy)
              clear hy
              ((repeat' ((conv => whnf) <;> first | exact True.intro | (guard_target =~ Fork _ _ _; first | refine F1 ?_ | refine F2 ?_ | refine F3 (fun h => ?_) fun h => ?_) | (guard_target =~ Ar _ _ _; first | refine A1 ?_ | refine A2 ?_ | refine A3 ?_) | (guard_target =~ AskL _ _; first | refine L1 ?_) | (guard_target =~ Go.Eng.Ask _ _; first | refine K1 ?_) | (guard_target =~ All' _ _; first | (refine Y2 fun y he he' hy => ?_; (try dsimp only at he he' hy)) | (refine Y1 fun y he hy => ?_; (try with_reducible conv at he => (rhs; whnf)); (try dsimp only at he hy))) | refine F4 (fun h => ?_) fun h => ?_ | refine R1 ?_ | refine Q1 ?_ | fail)); all_goals (conv => whnf))
          all_goals
            try
              refine All'.mk ?_
              rintro (y : Run) hy
              rw [hi1] at hy
              obtain rfl : (pn, pf, pt) = y := Option.some.inj (hp.symm.trans hy)
              clear hy
              ((repeat' ((conv => whnf) <;> first | exact True.intro | (guard_target =~ Fork _ _ _; first | refine F1 ?_ | refine F2 ?_ | refine F3 (fun h => ?_) fun h => ?_) | (guard_target =~ Ar _ _ _; first | refine A1 ?_ | refine A2 ?_ | refine A3 ?_) | (guard_target =~ AskL _ _; first | refine L1 ?_) | (guard_target =~ Go.Eng.Ask _ _; first | refine K1 ?_) | (guard_target =~ All' _ _; first | (refine Y2 fun y he he' hy => ?_; (try dsimp only at he he' hy)) | (refine Y1 fun y he hy => ?_; (try with_reducible conv at he => (rhs; whnf)); (try dsimp only at he hy))) | refine F4 (fun h => ?_) fun h => ?_ | refine R1 ?_ | refine Q1 ?_ | fail)); all_goals (conv => whnf))
  · have hh := right_end hge
    rw [hh] at h2
    exact G1
@[reducible] def rdrightL (c : List Run) : LA := {
  X := Nat
  pre := fun i => i ≤ c.length ∧ rightB c = rightFrom (prv c i) (c.drop i) ∧ ∀ q, prv c i = some q → runB q = true
  mu := fun i => c.length - i
  T := fun i => [(0, .ro true runT c), (5, .ro true runT c), (6, .v (.int .i64 c.length)), (7, .v (.int .i64 i))]
  M := fun _ => [] }
theorem rdright_ok : drightC.ok Tryz.prog 11 := by
  refine ok_of_vc (An := fun (c : List Run) => anOf [(0, .loop (rdrightL c))]) (known_nil _) mo Tryz.func11 (by kernel_rfl) (by kernel_rfl) (fun _ _ => trivial) (fun (c : List Run) hs => ?_)
  have hs : c.length ≤ 9223372036854775807 := hs
  ((repeat' ((conv => whnf) <;> first | exact True.intro | (guard_target =~ Fork _ _ _; first | refine F1 ?_ | refine F2 ?_ | refine F3 (fun h => ?_) fun h => ?_) | (guard_target =~ Ar _ _ _; first | refine A1 ?_ | refine A2 ?_ | refine A3 ?_) | (guard_target =~ AskL _ _; first | refine L1 ?_) | (guard_target =~ Go.Eng.Ask _ _; first | refine K1 ?_) | (guard_target =~ All' _ _; first | (refine Y2 fun y he he' hy => ?_; (try dsimp only at he he' hy)) | (refine Y1 fun y he hy => ?_; (try with_reducible conv at he => (rhs; whnf)); (try dsimp only at he hy)) | (refine All'.mk ?_; intro y hy)) | refine F4 (fun h => ?_) fun h => ?_ | refine R1 ?_ | refine Q1 ?_ | fail)); all_goals (conv => whnf))
  refine Some'.mk 0 ?_
  ((repeat' ((conv => whnf) <;> first | exact True.intro | (guard_target =~ Fork _ _ _; first | refine F1 ?_ | refine F2 ?_ | refine F3 (fun h => ?_) fun h => ?_) | (guard_target =~ Ar _ _ _; first | refine A1 ?_ | refine A2 ?_ | refine A3 ?_) | (guard_target =~ AskL _ _; first | refine L1 ?_) | (guard_target =~ Go.Eng.Ask _ _; first | refine K1 ?_) | (guard_target =~ All' _ _; first | (refine Y2 fun y he he' hy => ?_; (try dsimp only at he he' hy)) | (refine Y1 fun y he hy => ?_; (try with_reducible conv at he => (rhs; whnf)); (try dsimp only at he hy)) | (refine All'.mk ?_; intro y hy)) | refine F4 (fun h => ?_) fun h => ?_ | refine R1 ?_ | refine Q1 ?_ | fail)); all_goals (conv => whnf))
  refine Ask.mk ⟨Nat.zero_le _, right_start c, fun q hq => by cases hq⟩ ?_
  ((repeat' ((conv => whnf) <;> first | exact True.intro | (guard_target =~ Fork _ _ _; first | refine F1 ?_ | refine F2 ?_ | refine F3 (fun h => ?_) fun h => ?_) | (guard_target =~ Ar _ _ _; first | refine A1 ?_ | refine A2 ?_ | refine A3 ?_) | (guard_target =~ AskL _ _; first | refine L1 ?_) | (guard_target =~ Go.Eng.Ask _ _; first | refine K1 ?_) | (guard_target =~ All' _ _; first | (refine Y2 fun y he he' hy => ?_; (try dsimp only at he he' hy)) | (refine Y1 fun y he hy => ?_; (try with_reducible conv at he => (rhs; whnf)); (try dsimp only at he hy)) | (refine All'.mk ?_; intro y hy)) | refine F4 (fun h => ?_) fun h => ?_ | refine R1 ?_ | refine Q1 ?_ | fail)); all_goals (conv => whnf))
  refine AllI.mk ?_
  rintro (i : Nat) ⟨h1, h2, h3⟩
  rcases Nat.lt_or_ge i c.length with hlt | hge
  · obtain ⟨⟨n, f, t⟩, hr⟩ := get_ex hlt
    have hst := right_step hr
    rw [hst] at h2
    clear hst
    cases hok : runB (n, f, t) with
    | false =>
      rw [hok, Bool.false_and, Bool.false_and] at h2
      have hrp : ¬ (0 ≤ n ∧ n ≤ 7 ∧ 1 ≤ f ∧ f ≤ t ∧ t ≤ 1099511627776) := of_decide_eq_false hok
      clear hok
      ((repeat' ((conv => whnf) <;> first | exact True.intro | (guard_target =~ Fork _ _ _; first | refine F1 ?_ | refine F2 ?_ | refine F3 (fun h => ?_) fun h => ?_) | (guard_target =~ Ar _ _ _; first | refine A1 ?_ | refine A2 ?_ | refine A3 ?_) | (guard_target =~ AskL _ _; first | refine L1 ?_) | (guard_target =~ Go.Eng.Ask _ _; first | refine K1 ?_) | (guard_target =~ All' _ _; first | (refine Y2 fun y he he' hy => ?_; (try dsimp only at he he' hy)) | (refine Y1 fun y he hy => ?_; (try with_reducible conv at he => (rhs; whnf)); (try dsimp only at he hy))) | refine F4 (fun h => ?_) fun h => ?_ | refine R1 ?_ | refine Q1 ?_ | fail)); all_goals (conv => whnf))
      refine All'.mk ?_
      rintro (y : Run) hy
      obtain rfl : (n, f, t) = y := Option.some.inj (hr.symm.trans hy)
      clear hy
      ((repeat' ((conv => whnf) <;> first | exact True.intro | (guard_target =~ Fork _ _ _; first | refine F1 ?_ | refine F2 ?_ | refine F3 (fun h => ?_) fun h => ?_) | (guard_target =~ Ar _ _ _; first | refine A1 ?_ | refine A2 ?_ | refine A3 ?_) | (guard_target =~ AskL _ _; first | refine L1 ?_) | (guard_target =~ Go.Eng.Ask _ _; first | refine K1 ?_) | (guard_target =~ All' _ _; first | (refine Y2 fun y he he' hy => ?_; (try dsimp only at he he' hy)) | (refine Y1 fun y he hy => ?_; (try with_reducible conv at he => (rhs; whnf)); (try dsimp only at he hy))) | refine F4 (fun h => ?_) fun h => ?_ | refine R1 ?_ | refine Q1 ?_ | fail)); all_goals (conv => whnf))
    | true =>
      have hrp : 0 ≤ n ∧ n ≤ 7 ∧ 1 ≤ f ∧ f ≤ t ∧ t ≤ 1099511627776 := of_decide_eq_true hok
      cases i with
      | zero =>
        rw [hok, Bool.true_and] at h2
        replace h2 : rightB c = rightFrom (prv c (0 + 1)) (c.drop (0 + 1)) := h2
        clear hok
        ((repeat' ((conv => whnf) <;> first | exact True.intro | (guard_target =~ Fork _ _ _; first | refine F1 ?_ | refine F2 ?_ | refine F3 (fun h => ?_) fun h => ?_) | (guard_target =~ Ar _ _ _; first | refine A1 ?_ | refine A2 ?_ | refine A3 ?_) | (guard_target =~ AskL _ _; first | refine L1 ?_) | (guard_target =~ Go.Eng.Ask _ _; first | refine K1 ?_) | (guard_target =~ All' _ _; first | (refine Y2 fun y he he' hy => ?_; (try dsimp only at he he' hy)) | (refine Y1 fun y he hy => ?_; (try with_reducible conv at he => (rhs; whnf)); (try dsimp only at he hy))) | refine F4 (fun h => ?_) fun h => ?_ | refine R1 ?_ | refine Q1 ?_ | fail)); all_goals (conv => whnf))
        refine All'.mk ?_
        rintro (y : Run) hy
        obtain rfl : (n, f, t) = y := Option.some.inj (hr.symm.trans hy)
        clear hy
        ((repeat' ((conv => whnf) <;> first | exact True.intro | (guard_target =~ Fork _ _ _; first | refine F1 ?_ | refine F2 ?_ | refine F3 (fun h => ?_) fun h => ?_) | (guard_target =~ Ar _ _ _; first | refine A1 ?_ | refine A2 ?_ | refine A3 ?_) | (guard_target =~ AskL _ _; first | refine L1 ?_) | (guard_target =~ Go.Eng.Ask _ _; first | refine K1 ?_) | (guard_target =~ All' _ _; first | (refine Y2 fun y he he' hy => ?_; (try dsimp only at he he' hy)) | (refine Y1 fun y he hy => ?_; (try with_reducible conv at he => (rhs; whnf)); (try dsimp only at he hy))) | refine F4 (fun h => ?_) fun h => ?_ | refine R1 ?_ | refine Q1 ?_ | fail)); all_goals (conv => whnf))
        refine Some'.mk 1 ?_
        ((repeat' ((conv => whnf) <;> first | exact True.intro | (guard_target =~ Fork _ _ _; first | refine F1 ?_ | refine F2 ?_ | refine F3 (fun h => ?_) fun h => ?_) | (guard_target =~ Ar _ _ _; first | refine A1 ?_ | refine A2 ?_ | refine A3 ?_) | (guard_target =~ AskL _ _; first | refine L1 ?_) | (guard_target =~ Go.Eng.Ask _ _; first | refine K1 ?_) | (guard_target =~ All' _ _; first | (refine Y2 fun y he he' hy => ?_; (try dsimp only at he he' hy)) | (refine Y1 fun y he hy => ?_; (try with_reducible conv at he => (rhs; whnf)); (try dsimp only at he hy)) | (refine All'.mk ?_; intro y hy)) | refine F4 (fun h => ?_) fun h => ?_ | refine R1 ?_ | refine Q1 ?_ | fail)); all_goals (conv => whnf))
        refine Ask.mk ⟨by omega, h2, fun q hq => by obtain rfl := Option.some.inj (hr.symm.trans hq); exact decide_eq_true hrp⟩ ?_
        exact G1
      | succ i =>
        obtain ⟨⟨pn, pf, pt⟩, hp⟩ := get_ex (show i < c.length by omega)
        have hi1 : (((i + 1 : Nat) : Int) - 1).toNat = i := by omega
        have hpv : prv c (i + 1) = some (pn, pf, pt) := hp
        have hpp : 0 ≤ pn ∧ pn ≤ 7 ∧ 1 ≤ pf ∧ pf ≤ pt ∧ pt ≤ 1099511627776 := of_decide_eq_true (h3 _ hpv)
        clear h3
        rw [hok, hpv, Bool.true_and] at h2
        clear hpv
        by_cases hn : nextP (pn, pf, pt) (n, f, t)
        · replace h2 : rightB c = (decide (nextP (pn, pf, pt) (n, f, t)) && rightFrom (prv c (i + 1 + 1)) (c.drop (i + 1 + 1))) := h2
          rw [decide_eq_true hn, Bool.true_and] at h2
          replace hn : ¬ (n < pn ∨ pn = n ∧ f - 1 ≤ pt) := hn
          clear hok
          ((repeat' ((conv => whnf) <;> first | exact True.intro | (guard_target =~ Fork _ _ _; first | refine F1 ?_ | refine F2 ?_ | refine F3 (fun h => ?_) fun h => ?_) | (guard_target =~ Ar _ _ _; first | refine A1 ?_ | refine A2 ?_ | refine A3 ?_) | (guard_target =~ AskL _ _; first | refine L1 ?_) | (guard_target =~ Go.Eng.Ask _ _; first | refine K1 ?_) | (guard_target =~ All' _ _; first | (refine Y2 fun y he he' hy => ?_; (try dsimp only at he he' hy)) | (refine Y1 fun y he hy => ?_; (try with_reducible conv at he => (rhs; whnf)); (try dsimp only at he hy))) | refine F4 (fun h => ?_) fun h => ?_ | refine R1 ?_ | refine Q1 ?_ | fail)); all_goals (conv => whnf))
          refine All'.mk ?_
          rintro (y : Run) hy
          obtain rfl : (n, f, t) = y := Option.some.inj (hr.symm.trans hy)
          clear hy
          ((repeat' ((conv => whnf) <;> first | exact True.intro | (guard_target =~ Fork _ _ _; first | refine F1 ?_ | refine F2 ?_ | refine F3 (fun h => ?_) fun h => ?_) | (guard_target =~ Ar _ _ _; first | refine A1 ?_ | refine A2 ?_ | refine A3 ?_) | (guard_target =~ AskL _ _; first | refine L1 ?_) | (guard_target =~ Go.Eng.Ask _ _; first | refine K1 ?_) | (guard_target =~ All' _ _; first | (refine Y2 fun y he he' hy => ?_; (try dsimp only at he he' hy)) | (refine Y1 fun y he hy => ?_; (try with_reducible conv at he => (rhs; whnf)); (try dsimp only at he hy))) | refine F4 (fun h => ?_) fun h => ?_ | refine R1 ?_ | refine Q1 ?_ | fail)); all_goals (conv => whnf))
          all_goals
            try
              refine All'.mk ?_
              rintro (y : Run) hy
              rw [hi1] at hy
              obtain rfl : (pn, pf, pt) = y := Option.some.inj (hp.symm.trans hy)
              clear hy
              ((repeat' ((conv => whnf) <;> first | exact True.intro | (guard_target =~ Fork _ _ _; first | refine F1 ?_ | refine F2 ?_ | refine F3 (fun h => ?_) fun h => ?_) | (guard_target =~ Ar _ _ _; first | refine A1 ?_ | refine A2 ?_ | refine A3 ?_) | (guard_target =~ AskL _ _; first | refine L1 ?_) | (guard_target =~ Go.Eng.Ask _ _; first | refine K1 ?_) | (guard_target =~ All' _ _; first | (refine Y2 fun y he he' hy => ?_; (try dsimp only at he he' hy)) | (refine Y1 fun y he hy => ?_; (try with_reducible conv at he => (rhs; whnf)); (try dsimp only at he hy))) | refine F4 (fun h => ?_) fun h => ?_ | refine R1 ?_ | refine Q1 ?_ | fail)); all_goals (conv => whnf))
          all_goals
            try
              refine All'.mk ?_
              rintro (y : Run) hy
              rw [hi1] at hy
              obtain rfl : (pn, pf, pt) = y := Option.some.inj (hp.symm.trans hy)
              clear hy
              ((repeat' ((conv => whnf) <;> first | exact True.intro | (guard_target =~ Fork _ _ _; first | refine F1 ?_ | refine F2 ?_ | refine F3 (fun h => ?_) fun h => ?_) | (guard_target =~ Ar _ _ _; first | refine A1 ?_ | refine A2 ?_ | refine A3 ?_) | (guard_target =~ AskL _ _; first | refine L1 ?_) | (guard_target =~ Go.Eng.Ask _ _; first | refine K1 ?_) | (guard_target =~ All' _ _; first | (refine Y2 fun y he he' hy => ?_; (try dsimp only at he he' hy)) | (refine Y1 fun y he hy => ?_; (try with_reducible conv at he => (rhs; whnf)); (try dsimp only at he hy))) | refine F4 (fun h => ?_) fun h => ?_ | refine R1 ?_ | refine Q1 ?_ | fail)); all_goals (conv => whnf))
          all_goals
            try
              refine All'.mk ?_
              rintro (y : Run) hy
              rw [hi1] at hy
              obtain rfl : (pn, pf, pt) = y := Option.some.inj (hp.symm.trans hy)
              clear hy
              ((repeat' ((conv => whnf) <;> first | exact True.intro | (guard_target =~ Fork _ _ _; first | refine F1 ?_ | refine F2 ?_ | refine F3 (fun h => ?_) fun h => ?_) | (guard_target =~ Ar _ _ _; first | refine A1 ?_ | refine A2 ?_ | refine A3 ?_) | (guard_target =~ AskL _ _; first | refine L1 ?_) | (guard_target =~ Go.Eng.Ask _ _; first | refine K1 ?_) | (guard_target =~ All' _ _; first | (refine Y2 fun y he he' hy => ?_; (try dsimp only at he he' hy)) | (refine Y1 fun y he hy => ?_; (try with_reducible conv at he => (rhs; whnf)); (try dsimp only at he hy))) | refine F4 (fun h => ?_) fun h => ?_ | refine R1 ?_ | refine Q1 ?_ | fail)); all_goals (conv => whnf))
          all_goals
            refine Some'.mk (i + 1 + 1) ?_
            ((repeat' ((conv => whnf) <;> first | exact True.intro | (guard_target =~ Fork _ _ _; first | refine F1 ?_ | refine F2 ?_ | refine F3 (fun h => ?_) fun h => ?_) | (guard_target =~ Ar _ _ _; first | refine A1 ?_ | refine A2 ?_ | refine A3 ?_) | (guard_target =~ AskL _ _; first | refine L1 ?_) | (guard_target =~ Go.Eng.Ask _ _; first | refine K1 ?_) | (guard_target =~ All' _ _; first | (refine Y2 fun y he he' hy => ?_; (try dsimp only at he he' hy)) | (refine Y1 fun y he hy => ?_; (try with_reducible conv at he => (rhs; whnf)); (try dsimp only at he hy)) | (refine All'.mk ?_; intro y hy)) | refine F4 (fun h => ?_) fun h => ?_ | refine R1 ?_ | refine Q1 ?_ | fail)); all_goals (conv => whnf))
            refine Ask.mk ⟨by omega, h2, fun q hq => by obtain rfl := Option.some.inj (hr.symm.trans hq); exact decide_eq_true hrp⟩ ?_
            ((repeat' ((conv => whnf) <;> first | exact True.intro | (guard_target =~ Fork _ _ _; first | refine F1 ?_ | refine F2 ?_ | refine F3 (fun h => ?_) fun h => ?_) | (guard_target =~ Ar _ _ _; first | refine A1 ?_ | refine A2 ?_ | refine A3 ?_) | (guard_target =~ AskL _ _; first | refine L1 ?_) | (guard_target =~ Go.Eng.Ask _ _; first | refine K1 ?_) | (guard_target =~ All' _ _; first | (refine Y2 fun y he he' hy => ?_; (try dsimp only at he he' hy)) | (refine Y1 fun y he hy => ?_; (try with_reducible conv at he => (rhs; whnf)); (try dsimp only at he hy)) | (refine All'.mk ?_; intro y hy)) | refine F4 (fun h => ?_) fun h => ?_ | refine R1 ?_ | refine Q1 ?_ | fail)); all_goals (conv => whnf))
        · replace h2 : rightB c = (decide (nextP (pn, pf, pt) (n, f, t)) && rightFrom (prv c (i + 1 + 1)) (c.drop (i + 1 + 1))) := h2
          rw [decide_eq_false hn, Bool.false_and] at h2
          replace hn : ¬ ¬ (n < pn ∨ pn = n ∧ f - 1 ≤ pt) := hn
          clear hok
          ((repeat' ((conv => whnf) <;> first | exact True.intro | (guard_target =~ Fork _ _ _; first | refine F1 ?_ | refine F2 ?_ | refine F3 (fun h => ?_) fun h => ?_) | (guard_target =~ Ar _ _ _; first | refine A1 ?_ | refine A2 ?_ | refine A3 ?_) | (guard_target =~ AskL _ _; first | refine L1 ?_) | (guard_target =~ Go.Eng.Ask _ _; first | refine K1 ?_) | (guard_target =~ All' _ _; first | (refine Y2 fun y he he' hy => ?_; (try dsimp only at he he' hy)) | (refine Y1 fun y he hy => ?_; (try with_reducible conv at he => (rhs; whnf)); (try dsimp only at he hy))) | refine F4 (fun h => ?_) fun h => ?_ | refine R1 ?_ | refine Q1 ?_ | fail)); all_goals (conv => whnf))
          refine All'.mk ?_
          rintro (y : Run) hy
          obtain rfl : (n, f, t) = y := Option.some.inj (hr.symm.trans hy)
          clear hy
          ((repeat' ((conv => whnf) <;> first | exact True.intro | (guard_target =~ Fork _ _ _; first | refine F1 ?_ | refine F2 ?_ | refine F3 (fun h => ?_) fun h => ?_) | (guard_target =~ Ar _ _ _; first | refine A1 ?_ | refine A2 ?_ | refine A3 ?_) | (guard_target =~ AskL _ _; first | refine L1 ?_) | (guard_target =~ Go.Eng.Ask _ _; first | refine K1 ?_) | (guard_target =~ All' _ _; first | (refine Y2 fun y he he' hy => ?_; (try dsimp only at he he' hy)) | (refine Y1 fun y he hy => ?_; (try with_reducible conv at he => (rhs; whnf)); (try dsimp only at he hy))) | refine F4 (fun h => ?_) fun h => ?_ | refine R1 ?_ | refine Q1 ?_ | fail)); all_goals (conv => whnf))
          all_goals
            try
              refine All'.mk ?_
              rintro (y : Run) hy
              rw [hi1] at hy
              obtain rfl : (pn, pf, pt) = y := Option.some.inj (hp.symm.trans hy)
              clear hy
              ((repeat' ((conv => whnf) <;> first | exact True.intro | (guard_target =~ Fork _ _ _; first | refine F1 ?_ | refine F2 ?_ | refine F3 (fun h => ?_) fun h => ?_) | (guard_target =~ Ar _ _ _; first | refine A1 ?_ | refine A2 ?_ | refine A3 ?_) | (guard_target =~ AskL _ _; first | refine L1 ?_) | (guard_target =~ Go.Eng.Ask _ _; first | refine K1 ?_) | (guard_target =~ All' _ _; first | (refine Y2 fun y he he' hy => ?_; (try dsimp only at he he' hy)) | (refine Y1 fun y he hy => ?_; (try with_reducible conv at he => (rhs; whnf)); (try dsimp only at he hy))) | refine F4 (fun h => ?_) fun h => ?_ | refine R1 ?_ | refine Q1 ?_ | fail)); all_goals (conv => whnf))
          all_goals
            try
              refine All'.mk ?_
              rintro (y : Run) hy
              rw [hi1] at hy
              obtain rfl : (pn, pf, pt) = y := Option.some.inj (hp.symm.trans hy)
              clear hy
              ((repeat' ((conv => whnf) <;> first | exact True.intro | (guard_target =~ Fork _ _ _; first | refine F1 ?_ | refine F2 ?_ | refine F3 (fun h => ?_) fun h => ?_) | (guard_target =~ Ar _ _ _; first | refine A1 ?_ | refine A2 ?_ | refine A3 ?_) | (guard_target =~ AskL _ _; first | refine L1 ?_) | (guard_target =~ Go.Eng.Ask _ _; first | refine K1 ?_) | (guard_target =~ All' _ _; first | (refine Y2 fun y he he' hy => ?_; (try dsimp only at he he' hy)) | (refine Y1 fun y he hy => ?_; (try with_reducible conv at he => (rhs; whnf)); (try dsimp only at he hy))) | refine F4 (fun h => ?_) fun h => ?_ | refine R1 ?_ | refine Q1 ?_ | fail)); all_goals (conv => whnf))
          all_goals
            try
              refine All'.mk ?_
              rintro (y : Run) hy
              rw [hi1] at hy
              obtain rfl : (pn, pf, pt) = y := Option.some.inj (hp.symm.trans hy)
              clear hy
              ((repeat' ((conv => whnf) <;> first | exact True.intro | (guard_target =~ Fork _ _ _; first | refine F1 ?_ | refine F2 ?_ | refine F3 (fun h => ?_) fun h => ?_) | (guard_target =~ Ar _ _ _; first | refine A1 ?_ | refine A2 ?_ | refine A3 ?_) | (guard_target =~ AskL _ _; first | refine L1 ?_) | (guard_target =~ Go.Eng.Ask _ _; first | refine K1 ?_) | (guard_target =~ All' _ _; first | (refine Y2 fun y he he' hy => ?_; (try dsimp only at he he' hy)) | (refine Y1 fun y he hy => ?_; (try with_reducible conv at he => (rhs; whnf)); (try dsimp only at he hy))) | refine F4 (fun h => ?_) fun h => ?_ | refine R1 ?_ | refine Q1 ?_ | fail)); all_goals (conv => whnf))
  · have hh := right_end hge
    rw [hh] at h2
    exact G1
end Go.Proofs.YtoaaieiiamdopaaGreatDoor

set_option linter.unusedVariables false
set_option linter.unusedSimpArgs false
set_option maxRecDepth 100000
namespace Go.Proofs.YtoaaieiiamdopaaGreatDoor
open Go.Eng
abbrev Dot := Int × Int
def inR (r : Run) (d : Dot) : Prop := r.1 = d.1 ∧ r.2.1 ≤ d.2 ∧ d.2 ≤ r.2.2
instance (r : Run) (d : Dot) : Decidable (inR r d) := inferInstanceAs (Decidable (_ ∧ _))
def inB (c : List Run) (d : Dot) : Bool := c.any fun r => decide (inR r d)
def inC (c : List Run) (d : Dot) : Prop := ∃ r, r ∈ c ∧ inR r d
theorem inC_nil {d : Dot} : ¬ inC [] d := fun ⟨_, h, _⟩ => nomatch h
theorem inC_cons {r : Run} {l : List Run} {d : Dot} : inC (r :: l) d ↔ inR r d ∨ inC l d := by
  unfold inC; simp
theorem inC_app {a b : List Run} {d : Dot} : inC (a ++ b) d ↔ inC a d ∨ inC b d := by
  unfold inC; simp only [List.mem_append]
  constructor
  · rintro ⟨r, h | h, k⟩
    · exact .inl ⟨r, h, k⟩
    · exact .inr ⟨r, h, k⟩
  · rintro (⟨r, h, k⟩ | ⟨r, h, k⟩)
    · exact ⟨r, .inl h, k⟩
    · exact ⟨r, .inr h, k⟩
def gapP (p r : Run) : Prop := p.1 < r.1 ∨ p.1 = r.1 ∧ p.2.2 + 1 < r.2.1
/-- A right clock. -/
structure Rt (c : List Run) : Prop where
  all : ∀ r, r ∈ c → runP r
  gap : c.Pairwise gapP
theorem gap_trans {a b c : Run} (h1 : gapP a b) (hb : runP b) (h2 : gapP b c) : gapP a c := by
  unfold gapP runP at *; omega
theorem Rt.nil : Rt [] := ⟨fun r h => (nomatch h), .nil⟩
theorem Rt.tail {r : Run} {l : List Run} (h : Rt (r :: l)) : Rt l := ⟨fun x hx => h.all x (List.mem_cons_of_mem _ hx), (List.pairwise_cons.1 h.gap).2⟩
theorem Rt.hd {r : Run} {l : List Run} (h : Rt (r :: l)) : runP r := h.all r (List.mem_cons_self ..)
theorem Rt.gaps {r : Run} {l : List Run} (h : Rt (r :: l)) : ∀ x, x ∈ l → gapP r x := (List.pairwise_cons.1 h.gap).1
theorem Rt.cons {r : Run} {l : List Run} (h : Rt l) (hr : runP r) (hg : ∀ x, x ∈ l → gapP r x) : Rt (r :: l) :=
  ⟨fun x hx => (List.mem_cons.1 hx).elim (fun e => e ▸ hr) (h.all x), List.pairwise_cons.2 ⟨hg, h.gap⟩⟩
theorem right_of : ∀ {c : List Run} {p : Option Run}, rightFrom p c = true → Rt c ∧ ∀ q, p = some q → ∀ r, r ∈ c → gapP q r
  | [], _, _ => ⟨.nil, fun _ _ r h => (nomatch h)⟩
  | r :: l, p, h => by
    simp only [rightFrom, Bool.and_eq_true] at h
    obtain ⟨⟨h1, h2⟩, h3⟩ := h
    have h1 : runP r := of_decide_eq_true h1
    obtain ⟨k1, k2⟩ := right_of h3
    have k2 := k2 r rfl
    refine ⟨k1.cons h1 k2, fun q hq x hx => ?_⟩
    subst hq
    have h2 : nextP q r := of_decide_eq_true h2
    have hg : gapP q r := by unfold nextP at h2; unfold gapP; omega
    rcases List.mem_cons.1 hx with rfl | hx
    · exact hg
    · exact gap_trans hg h1 (k2 x hx)
theorem of_right : ∀ {c : List Run} {p : Option Run}, Rt c → (∀ q, p = some q → ∀ r, r ∈ c → gapP q r) → rightFrom p c = true
  | [], _, _, _ => rfl
  | r :: l, p, h, hp => by
    simp only [rightFrom, Bool.and_eq_true]
    refine ⟨⟨decide_eq_true h.hd, ?_⟩, of_right h.tail (fun q hq x hx => by cases hq; exact h.gaps x hx)⟩
    cases p with
    | none => rfl
    | some q =>
      refine decide_eq_true ?_
      have := hp q rfl r (List.mem_cons_self ..)
      unfold gapP at this
      unfold nextP; omega
theorem right_iff {c : List Run} : rightB c = true ↔ Rt c := ⟨fun h => (right_of h).1, fun h => of_right h (fun q hq => nomatch hq)⟩
/-- Two right clocks of the same dots are the same. -/
theorem clk_uniq : ∀ (a b : List Run), Rt a → Rt b → (∀ d, inC a d ↔ inC b d) → a = b
  | [], [], _, _, _ => rfl
  | [], s :: b, _, hb, h => by
    have := (h (s.1, s.2.1)).2 (inC_cons.2 (.inl ⟨rfl, Int.le_refl _, hb.hd.2.2.2.1⟩))
    exact absurd this inC_nil
  | r :: a, [], ha, _, h => by
    have := (h (r.1, r.2.1)).1 (inC_cons.2 (.inl ⟨rfl, Int.le_refl _, ha.hd.2.2.2.1⟩))
    exact absurd this inC_nil
  | r :: a, s :: b, ha, hb, h => by
    have hr := ha.hd
    have hs := hb.hd
    have e1 : inC (s :: b) (r.1, r.2.1) := (h _).1 (inC_cons.2 (.inl ⟨rfl, Int.le_refl _, hr.2.2.2.1⟩))
    have e2 : inC (r :: a) (s.1, s.2.1) := (h _).2 (inC_cons.2 (.inl ⟨rfl, Int.le_refl _, hs.2.2.2.1⟩))
    have f1 : s.1 < r.1 ∨ s.1 = r.1 ∧ s.2.1 ≤ r.2.1 := by
      rcases inC_cons.1 e1 with h1 | ⟨x, hx, h1⟩
      · unfold inR at h1; dsimp only at h1; omega
      · have := hb.gaps x hx; unfold gapP at this; unfold inR at h1; dsimp only at h1; unfold runP at hs; omega
    have f2 : r.1 < s.1 ∨ r.1 = s.1 ∧ r.2.1 ≤ s.2.1 := by
      rcases inC_cons.1 e2 with h1 | ⟨x, hx, h1⟩
      · unfold inR at h1; dsimp only at h1; omega
      · have := ha.gaps x hx; unfold gapP at this; unfold inR at h1; dsimp only at h1; unfold runP at hr; omega
    have g1 : r.1 = s.1 ∧ r.2.1 = s.2.1 := by omega
    have half : ∀ (r s : Run) (a : List Run), Rt (r :: a) → r.1 = s.1 → r.2.1 = s.2.1 → runP r → (∀ d, inR s d → inC (r :: a) d) → s.2.2 ≤ r.2.2 := fun r s a ha e1 e2 hr hh => by
      by_cases hlt : r.2.2 < s.2.2
      · have : inC (r :: a) (r.1, r.2.2 + 1) := hh _ ⟨e1.symm, by dsimp only; unfold runP at hr; omega, by dsimp only; omega⟩
        rcases inC_cons.1 this with h1 | ⟨x, hx, h1⟩
        · unfold inR at h1; dsimp only at h1; omega
        · have := ha.gaps x hx; unfold gapP at this; unfold inR at h1; dsimp only at h1; omega
      · omega
    have t1 := half r s a ha g1.1 g1.2 hr (fun d hd => (h d).2 (inC_cons.2 (.inl hd)))
    have t2 := half s r b hb g1.1.symm g1.2.symm hs (fun d hd => (h d).1 (inC_cons.2 (.inl hd)))
    obtain rfl : r = s := Prod.ext g1.1 (Prod.ext g1.2 (by omega))
    have dis : ∀ (a : List Run), Rt (r :: a) → ∀ d, inR r d → ¬ inC a d := fun a ha d hd ⟨x, hx, h1⟩ => by
      have := ha.gaps x hx; unfold gapP at this; unfold inR at h1 hd; omega
    rw [clk_uniq a b ha.tail hb.tail (fun d => ⟨fun hd => ((inC_cons.1 ((h d).1 (inC_cons.2 (.inr hd)))).resolve_left (fun hh => dis a ha d hh hd)),
      fun hd => ((inC_cons.1 ((h d).2 (inC_cons.2 (.inr hd)))).resolve_left (fun hh => dis b hb d hh hd))⟩)]

def tchP (x r : Run) : Prop := x.1 = r.1 ∧ x.2.1 ≤ r.2.2 + 1 ∧ r.2.1 ≤ x.2.2 + 1
instance (x r : Run) : Decidable (tchP x r) := inferInstanceAs (Decidable (_ ∧ _))
def befP (r x : Run) : Prop := r.1 < x.1 ∨ x.1 = r.1 ∧ r.2.2 < x.2.1
instance (x r : Run) : Decidable (befP x r) := inferInstanceAs (Decidable (_ ∨ _))
def hull (x r : Run) : Run := (r.1, min x.2.1 r.2.1, max x.2.2 r.2.2)
def addF : Run → Bool → List Run → List Run
  | r, d, [] => if d then [] else [r]
  | r, d, x :: l => if tchP x r then addF (hull x r) d l else if d = false ∧ befP r x then r :: x :: addF r true l else x :: addF r d l
theorem add_done {r : Run} : ∀ {l : List Run}, (∀ x, x ∈ l → gapP r x) → addF r true l = l
  | [], _ => rfl
  | x :: l, h => by
    have h1 := h x (List.mem_cons_self ..)
    have h2 : ¬ tchP x r := by unfold gapP at h1; unfold tchP; omega
    unfold addF
    rw [if_neg h2, if_neg (by simp), add_done (fun y hy => h y (List.mem_cons_of_mem _ hy))]
theorem add_ok : ∀ (l : List Run) (r : Run), Rt l → runP r → Rt (addF r false l) ∧ (∀ d, inC (addF r false l) d ↔ inR r d ∨ inC l d) ∧ ∀ q, gapP q r → (∀ x, x ∈ l → gapP q x) → ∀ y, y ∈ addF r false l → gapP q y
  | [], r, _, hr => by
    refine ⟨Rt.nil.cons hr (fun x h => nomatch h), fun d => ?_, fun q hq _ y hy => ?_⟩
    · show inC [r] d ↔ _
      rw [inC_cons]
    · rcases List.mem_singleton.1 hy with rfl; exact hq
  | x :: l, r, h, hr => by
    have hx := h.hd
    unfold addF
    by_cases ht : tchP x r
    · rw [if_pos ht]
      have hh : runP (hull x r) := by unfold runP hull at *; unfold tchP at ht; dsimp only; omega
      obtain ⟨k1, k2, k3⟩ := add_ok l (hull x r) h.tail hh
      refine ⟨k1, fun d => ?_, fun q hq hqx => k3 q ?_ (fun y hy => hqx y (List.mem_cons_of_mem _ hy))⟩
      · rw [k2, inC_cons, ← or_assoc]
        refine or_congr ?_ Iff.rfl
        unfold tchP at ht; unfold runP at hx hr; unfold inR hull; dsimp only; omega
      · have := hqx x (List.mem_cons_self ..)
        unfold gapP hull at *; unfold tchP at ht; dsimp only; omega
    · rw [if_neg ht]
      by_cases hb : befP r x
      · rw [if_pos ⟨rfl, hb⟩]
        have hg : gapP r x := by unfold tchP at ht; unfold befP at hb; unfold gapP; unfold runP at hx hr; omega
        have hgl : ∀ y, y ∈ x :: l → gapP r y := fun y hy => by
          rcases List.mem_cons.1 hy with rfl | hy
          · exact hg
          · exact gap_trans hg hx (h.gaps y hy)
        rw [add_done (fun y hy => hgl y (List.mem_cons_of_mem _ hy))]
        refine ⟨h.cons hr hgl, fun d => inC_cons, fun q hq hqx y hy => ?_⟩
        rcases List.mem_cons.1 hy with rfl | hy
        · exact hq
        · exact hqx y hy
      · rw [if_neg (fun hh => hb hh.2)]
        have hg : gapP x r := by unfold tchP at ht; unfold befP at hb; unfold gapP; unfold runP at hx hr; omega
        obtain ⟨k1, k2, k3⟩ := add_ok l r h.tail hr
        refine ⟨k1.cons hx (k3 x hg h.gaps), fun d => ?_, fun q hq hqx y hy => ?_⟩
        · rw [inC_cons, inC_cons, k2]
          constructor
          · rintro (h | h | h)
            · exact .inr (.inl h)
            · exact .inl h
            · exact .inr (.inr h)
          · rintro (h | h | h)
            · exact .inr (.inl h)
            · exact .inl h
            · exact .inr (.inr h)
        · rcases List.mem_cons.1 hy with rfl | hy
          · exact hqx y (List.mem_cons_self ..)
          · exact k3 q hq (fun z hz => hqx z (List.mem_cons_of_mem _ hz)) y hy
def joinL (a b : List Run) : List Run := b.foldl (fun c r => addF r false c) a
theorem join_ok : ∀ (b a : List Run), Rt a → (∀ r, r ∈ b → runP r) → Rt (joinL a b) ∧ ∀ d, inC (joinL a b) d ↔ inC a d ∨ inC b d
  | [], a, ha, _ => ⟨ha, fun d => ⟨.inl, fun h => h.resolve_right inC_nil⟩⟩
  | r :: b, a, ha, hb => by
    obtain ⟨k1, k2, _⟩ := add_ok a r ha (hb r (List.mem_cons_self ..))
    obtain ⟨j1, j2⟩ := join_ok b (addF r false a) k1 (fun x hx => hb x (List.mem_cons_of_mem _ hx))
    refine ⟨j1, fun d => ?_⟩
    show inC (joinL (addF r false a) b) d ↔ _
    rw [j2, k2, inC_cons]
    constructor
    · rintro ((h | h) | h)
      · exact .inr (.inl h)
      · exact .inl h
      · exact .inr (.inr h)
    · rintro (h | h | h)
      · exact .inl (.inr h)
      · exact .inl (.inl h)
      · exact .inr h

def keyLe (p r : Run) : Prop := p.1 < r.1 ∨ p.1 = r.1 ∧ p.2.1 ≤ r.2.1
def mrg : List Run → List Run → List Run
  | out, [] => out
  | out, r :: l => match out.getLast? with
    | some p => if p.1 = r.1 ∧ r.2.1 - 1 ≤ p.2.2 then mrg (out.dropLast ++ [(p.1, p.2.1, max p.2.2 r.2.2)]) l else mrg (out ++ [r]) l
    | none => mrg (out ++ [r]) l
theorem Rt.snoc {l : List Run} {r : Run} (h : Rt l) (hr : runP r) (hg : ∀ x, x ∈ l → gapP x r) : Rt (l ++ [r]) :=
  ⟨fun x hx => by
    rcases List.mem_append.1 hx with hx | hx
    · exact h.all x hx
    · rcases List.mem_singleton.1 hx with rfl; exact hr,
   List.pairwise_append.2 ⟨h.gap, List.pairwise_singleton _ _, fun a ha b hb => by rcases List.mem_singleton.1 hb with rfl; exact hg a ha⟩⟩
theorem mrg_ok : ∀ (l out : List Run), Rt out → (∀ r, r ∈ l → runP r) → l.Pairwise keyLe → (∀ p, p ∈ out → ∀ r, r ∈ l → keyLe p r) → Rt (mrg out l) ∧ ∀ d, inC (mrg out l) d ↔ inC out d ∨ inC l d
  | [], out, ho, _, _, _ => ⟨ho, fun d => ⟨.inl, fun h => h.resolve_right inC_nil⟩⟩
  | r :: l, out, ho, hl, hs, hk => by
    have hr := hl r (List.mem_cons_self ..)
    have hs2 := List.pairwise_cons.1 hs
    have hl2 : ∀ x, x ∈ l → runP x := fun x hx => hl x (List.mem_cons_of_mem _ hx)
    rcases List.eq_nil_or_concat out with rfl | ⟨o, p, rfl⟩
    · show Rt (mrg [r] l) ∧ ∀ d, inC (mrg [r] l) d ↔ _
      obtain ⟨k1, k2⟩ := mrg_ok l [r] (Rt.nil.cons hr (fun x h => nomatch h)) hl2 hs2.2 (fun p hp x hx => by rcases List.mem_singleton.1 hp with rfl; exact hs2.1 x hx)
      refine ⟨k1, fun d => ?_⟩
      rw [k2, inC_cons, inC_cons]
      constructor
      · rintro ((h | h) | h)
        · exact .inr (.inl h)
        · exact .inl h
        · exact .inr (.inr h)
      · rintro (h | h | h)
        · exact absurd h inC_nil
        · exact .inl (.inl h)
        · exact .inr h
    · rw [List.concat_eq_append] at *
      have hop : Rt o ∧ runP p ∧ ∀ x, x ∈ o → gapP x p := by
        have hg := List.pairwise_append.1 ho.gap
        exact ⟨⟨fun x hx => ho.all x (List.mem_append_left _ hx), hg.1⟩, ho.all p (by simp), fun x hx => hg.2.2 x hx p (by simp)⟩
      obtain ⟨ho1, hp, hop2⟩ := hop
      have hpr : keyLe p r := hk p (by simp) r (List.mem_cons_self ..)
      have e : mrg (o ++ [p]) (r :: l) = if p.1 = r.1 ∧ r.2.1 - 1 ≤ p.2.2 then mrg (o ++ [(p.1, p.2.1, max p.2.2 r.2.2)]) l else mrg ((o ++ [p]) ++ [r]) l := by
        conv => lhs; unfold mrg
        simp
      rw [e]
      by_cases hc : p.1 = r.1 ∧ r.2.1 - 1 ≤ p.2.2
      · rw [if_pos hc]
        have hp2 : runP (p.1, p.2.1, max p.2.2 r.2.2) := by unfold runP at *; dsimp only; omega
        obtain ⟨k1, k2⟩ := mrg_ok l (o ++ [(p.1, p.2.1, max p.2.2 r.2.2)]) (ho1.snoc hp2 (fun x hx => hop2 x hx)) hl2 hs2.2 (fun q hq x hx => by
          rcases List.mem_append.1 hq with hq | hq
          · exact hk q (List.mem_append_left _ hq) x (List.mem_cons_of_mem _ hx)
          · rcases List.mem_singleton.1 hq with rfl
            exact hk p (by simp) x (List.mem_cons_of_mem _ hx))
        refine ⟨k1, fun d => ?_⟩
        have hd : inR (p.1, p.2.1, max p.2.2 r.2.2) d ↔ inR p d ∨ inR r d := by
          unfold keyLe at hpr; unfold runP at hp hr; unfold inR; dsimp only; omega
        rw [k2, inC_app, inC_app, inC_cons, inC_cons, inC_cons, hd]
        constructor
        · rintro ((h | (h | h) | h) | h)
          · exact .inl (.inl h)
          · exact .inl (.inr (.inl h))
          · exact .inr (.inl h)
          · exact absurd h inC_nil
          · exact .inr (.inr h)
        · rintro ((h | h | h) | h | h)
          · exact .inl (.inl h)
          · exact .inl (.inr (.inl (.inl h)))
          · exact absurd h inC_nil
          · exact .inl (.inr (.inl (.inr h)))
          · exact .inr h
      · rw [if_neg hc]
        have hg : gapP p r := by unfold keyLe at hpr; unfold gapP; omega
        obtain ⟨k1, k2⟩ := mrg_ok l ((o ++ [p]) ++ [r]) (ho.snoc hr (fun x hx => by
          rcases List.mem_append.1 hx with hx | hx
          · exact gap_trans (hop2 x hx) hp hg
          · rcases List.mem_singleton.1 hx with rfl; exact hg)) hl2 hs2.2 (fun q hq x hx => by
          rcases List.mem_append.1 hq with hq | hq
          · exact hk q hq x (List.mem_cons_of_mem _ hx)
          · rcases List.mem_singleton.1 hq with rfl
            exact hs2.1 x hx)
        refine ⟨k1, fun d => ?_⟩
        rw [k2, inC_app, inC_cons, inC_cons]
        constructor
        · rintro ((h | h | h) | h)
          · exact .inl h
          · exact .inr (.inl h)
          · exact absurd h inC_nil
          · exact .inr (.inr h)
        · rintro (h | h | h)
          · exact .inl (.inl h)
          · exact .inl (.inr (.inl h))
          · exact .inr h
/-- However the runs of two right clocks are put in order, merged they are the join. -/
theorem mrg_join {a b s : List Run} (ha : Rt a) (hb : ∀ r, r ∈ b → runP r) (hp : ∀ r, r ∈ s ↔ r ∈ a ∨ r ∈ b) (hs : s.Pairwise keyLe) : mrg [] s = joinL a b := by
  have hrun : ∀ r, r ∈ s → runP r := fun r hr => ((hp r).1 hr).elim (ha.all r) (hb r)
  obtain ⟨k1, k2⟩ := mrg_ok s [] .nil hrun hs (fun p hp => nomatch hp)
  obtain ⟨j1, j2⟩ := join_ok b a ha hb
  refine clk_uniq _ _ k1 j1 (fun d => ?_)
  rw [k2, j2]
  constructor
  · rintro (h | ⟨r, hr, h⟩)
    · exact absurd h inC_nil
    · exact ((hp r).1 hr).imp (fun h1 => ⟨r, h1, h⟩) (fun h1 => ⟨r, h1, h⟩)
  · rintro (⟨r, hr, h⟩ | ⟨r, hr, h⟩)
    · exact .inr ⟨r, (hp r).2 (.inl hr), h⟩
    · exact .inr ⟨r, (hp r).2 (.inr hr), h⟩

def belowB (a b : List Run) : Bool := a.all fun r => b.any fun x => decide (x.1 = r.1 ∧ x.2.1 ≤ r.2.1 ∧ r.2.2 ≤ x.2.2)
theorem mem_gap {c : List Run} (h : Rt c) {x y : Run} (hx : x ∈ c) (hy : y ∈ c) : x = y ∨ gapP x y ∨ gapP y x := by
  induction c with
  | nil => exact nomatch hx
  | cons r l ih =>
    rcases List.mem_cons.1 hx with e1 | h1 <;> rcases List.mem_cons.1 hy with e2 | h2
    · exact .inl (e1.trans e2.symm)
    · exact .inr (.inl (e1 ▸ h.gaps y h2))
    · exact .inr (.inr (e2 ▸ h.gaps x h1))
    · exact ih h.tail h1 h2
theorem below_iff {a b : List Run} (ha : Rt a) (hb : Rt b) : belowB a b = true ↔ ∀ d, inC a d → inC b d := by
  unfold belowB
  simp only [List.all_eq_true, List.any_eq_true, decide_eq_true_eq]
  constructor
  · rintro h d ⟨r, hr, hd⟩
    obtain ⟨x, hx, h1⟩ := h r hr
    exact ⟨x, hx, by unfold inR at *; omega⟩
  · intro h r hr
    have hrr := ha.all r hr
    obtain ⟨x, hx, h1⟩ := h (r.1, r.2.1) ⟨r, hr, rfl, Int.le_refl _, hrr.2.2.2.1⟩
    refine ⟨x, hx, ?_⟩
    unfold inR at h1; dsimp only at h1
    by_cases hlt : x.2.2 < r.2.2
    · exfalso
      obtain ⟨y, hy, h2⟩ := h (r.1, x.2.2 + 1) ⟨r, hr, rfl, by dsimp only; omega, by dsimp only; omega⟩
      have hyy := hb.all y hy
      have hxx := hb.all x hx
      unfold inR at h2; dsimp only at h2
      rcases mem_gap hb hx hy with rfl | h3 | h3
      · omega
      · unfold gapP at h3; omega
      · unfold gapP at h3; unfold runP at hyy hxx; omega
    · omega
theorem join_self {a b : List Run} (ha : Rt a) (hb : Rt b) : joinL a b = a ↔ belowB b a = true := by
  obtain ⟨j1, j2⟩ := join_ok b a ha hb.all
  rw [below_iff hb ha]
  constructor
  · intro h d hd; rw [← h, j2]; exact .inr hd
  · intro h; exact clk_uniq _ _ j1 ha (fun d => by rw [j2]; exact ⟨fun hh => hh.elim id (h d), .inl⟩)
theorem join_other {a b : List Run} (ha : Rt a) (hb : Rt b) : joinL a b = b ↔ belowB a b = true := by
  obtain ⟨j1, j2⟩ := join_ok b a ha hb.all
  rw [below_iff ha hb]
  constructor
  · intro h d hd; rw [← h, j2]; exact .inl hd
  · intro h; exact clk_uniq _ _ j1 hb (fun d => by rw [j2]; exact ⟨fun hh => hh.elim (h d) id, .inr⟩)
end Go.Proofs.YtoaaieiiamdopaaGreatDoor

set_option linter.unusedVariables false
set_option linter.unusedSimpArgs false
namespace Go.Proofs.YtoaaieiiamdopaaGreatDoor
open Go.Eng
section
variable {α : Type}
theorem take_sn {l : List α} {i : Nat} {e : α} (h : l[i]? = some e) : l.take (i + 1) = l.take i ++ [e] := by
  rw [List.take_add_one, h]; rfl
theorem drop_sn {l : List α} {i : Nat} {e : α} (h : l[i]? = some e) : l.drop i = e :: l.drop (i + 1) := by
  obtain ⟨hi, rfl⟩ := List.getElem?_eq_some_iff.1 h
  exact List.drop_eq_getElem_cons hi
/-- The place of the first one that is so; -1: there is none. -/
def idxP (p : α → Bool) (l : List α) : Int := match l.findIdx? p with | some i => (i : Int) | none => -1
theorem idxP_none {p : α → Bool} {l : List α} (h : ∀ (j : Nat) (e : α), l[j]? = some e → p e = false) : idxP p l = -1 := by
  unfold idxP
  rw [List.findIdx?_eq_none_iff.2 (fun x hx => by
    obtain ⟨j, hj, rfl⟩ := List.mem_iff_getElem.1 hx
    exact h j _ (List.getElem?_eq_getElem hj))]
theorem idxP_at {p : α → Bool} {l : List α} {i : Nat} {e : α} (he : l[i]? = some e) (hp : p e = true) (h : ∀ (j : Nat), j < i → ∀ e, l[j]? = some e → p e = false) : idxP p l = (i : Nat) := by
  unfold idxP
  obtain ⟨hi, rfl⟩ := List.getElem?_eq_some_iff.1 he
  rw [List.findIdx?_eq_some_iff_getElem.2 ⟨hi, hp, fun j hj => by
    have := h j hj _ (List.getElem?_eq_getElem (by omega))
    rw [this]; simp⟩]
theorem idxP_cases (p : α → Bool) (l : List α) : (idxP p l = -1 ∧ (∀ x, x ∈ l → p x = false)) ∨ ∃ i e, idxP p l = ((i : Nat) : Int) ∧ l[i]? = some e ∧ p e = true ∧ ∀ x, x ∈ l.take i → p x = false := by
  cases h : l.findIdx? p with
  | none =>
    refine .inl ⟨by unfold idxP; rw [h], fun x hx => ?_⟩
    exact List.findIdx?_eq_none_iff.1 h x hx
  | some i =>
    obtain ⟨hi, hp, hn⟩ := List.findIdx?_eq_some_iff_getElem.1 h
    refine .inr ⟨i, l[i], by unfold idxP; rw [h], List.getElem?_eq_getElem hi, hp, fun x hx => ?_⟩
    obtain ⟨j, hj, rfl⟩ := List.mem_iff_getElem.1 hx
    rw [List.length_take] at hj
    have := hn j (by omega)
    rw [List.getElem_take]
    simpa using this
theorem idxP_any (p : α → Bool) (l : List α) : decide (0 ≤ idxP p l) = l.any p := by
  rcases idxP_cases p l with ⟨h, h2⟩ | ⟨i, e, h, h2, h3, _⟩
  · rw [h]
    have : l.any p = false := by rw [List.any_eq_false]; intro x hx; rw [h2 x hx]; simp
    rw [this]; rfl
  · rw [h]
    have : l.any p = true := List.any_eq_true.2 ⟨e, List.mem_of_getElem? h2, h3⟩
    rw [this]; exact decide_eq_true (by omega)
theorem flat_take {l : List (List α)} {i : Nat} {e : List α} (h : l[i]? = some e) : (l.take (i + 1)).flatten = (l.take i).flatten ++ e := by
  rw [take_sn h]; simp
theorem flat_le (l : List (List α)) (i : Nat) : (l.take i).flatten.length ≤ l.flatten.length := by
  have : l.flatten = (l.take i).flatten ++ (l.drop i).flatten := by rw [← List.flatten_append, List.take_append_drop]
  rw [this, List.length_append]; omega
theorem flat_mem {l : List (List α)} {e : List α} (h : e ∈ l) : e.length ≤ l.flatten.length := by
  induction l with
  | nil => cases h
  | cons a l ih =>
    rw [List.flatten_cons, List.length_append]
    rcases List.mem_cons.1 h with rfl | h
    · omega
    · have := ih h; omega
end
end Go.Proofs.YtoaaieiiamdopaaGreatDoor

set_option linter.unusedVariables false
set_option linter.unusedSimpArgs false
set_option maxRecDepth 100000
set_option maxHeartbeats 4000000
namespace Go.Proofs.YtoaaieiiamdopaaGreatDoor
open Go.Eng
variable [DM]
set_option linter.unusedSectionVars false
@[reducible] def growCRu : Ctr := {
  X := Nat
  Y := Unit
  args := fun n => [.v (.slice none 0 0), .v (.int .i64 n)]
  rw := fun _ => []
  side := fun n => n ≤ 274877906944
  val := fun _ => ()
  ens := fun _ _ => True
  res := fun _ _ => .sl 1000
  out := fun _ _ => [(1000, .row 57 runT [])] }
theorem grow_okRu : growCRu.ok Tryz.prog 88 := by
  refine ok_of_vc (An := fun _ => anOf []) (known_nil _) mo Tryz.func88 (by kernel_rfl) (by kernel_rfl) (fun _ _ => trivial) (fun (n : Nat) hs => ?_)
  have hs : n ≤ 274877906944 := hs
  exact G1
theorem knownGRu : Known Tryz.prog (gOf [(88, growCRu)]) := known_cons ⟨grow_okRu, Tryz.call88⟩ (known_nil _)
@[reducible] def concatCRu : Ctr := {
  X := List (List Run)
  Y := Unit
  args := fun l => [.ro true (.sl runT) l]
  rw := fun _ => []
  side := fun l => l.flatten.length ≤ 274877906944 ∧ l.length ≤ 274877906944
  val := fun _ => ()
  ens := fun _ _ => True
  res := fun _ _ => .sl 1000
  out := fun l _ => [(1000, .row 57 runT l.flatten)] }
@[reducible] def concatL0Ru (l : List (List Run)) : LA := {
  X := Nat
  pre := fun i => i ≤ l.length
  mu := fun i => l.length - i
  T := fun i => [(0, .ro true (.sl runT) l), (3, .v (.int .i64 ((l.take i).flatten.length : Nat))), (9, .ro true (.sl runT) l), (10, .v (.int .i64 l.length)), (11, .v (.int .i64 (i : Nat)))]
  M := fun _ => [] }
@[reducible] def concatL2Ru (l : List (List Run)) : LA := {
  X := Nat
  pre := fun i => i ≤ l.length
  mu := fun i => l.length - i
  T := fun i => [(6, .sl 4), (25, .ro true (.sl runT) l), (26, .v (.int .i64 l.length)), (27, .v (.int .i64 (i : Nat)))]
  M := fun i => [(4, .row 57 runT (l.take i).flatten)] }
theorem concat_okRu : concatCRu.ok Tryz.prog 66 := by
  refine ok_of_vc (An := fun (l : List (List Run)) => anOf [(0, .loop (concatL0Ru l)), (2, .loop (concatL2Ru l))]) knownGRu mo Tryz.func66 (by kernel_rfl) (by kernel_rfl) (fun _ _ => trivial) (fun (l : List (List Run)) hs => ?_)
  obtain ⟨h1, h2⟩ := hs
  have h1 : l.flatten.length ≤ 274877906944 := h1
  have h2 : l.length ≤ 274877906944 := h2
  ((repeat' ((conv => whnf) <;> first | exact True.intro | (guard_target =~ Fork _ _ _; first | refine F1 ?_ | refine F2 ?_ | refine F3 (fun h => ?_) fun h => ?_) | (guard_target =~ Ar _ _ _; first | refine A1 ?_ | refine A2 ?_ | refine A3 ?_) | (guard_target =~ AskL _ _; first | refine L1 ?_) | (guard_target =~ Go.Eng.Ask _ _; first | refine K1 ?_) | (guard_target =~ All' _ _; first | (refine Y2 fun y he he' hy => ?_; (try dsimp only at he he' hy)) | (refine Y1 fun y he hy => ?_; (try with_reducible conv at he => (rhs; whnf)); (try dsimp only at he hy)) | (refine All'.mk ?_; intro y hy)) | refine F4 (fun h => ?_) fun h => ?_ | refine R1 ?_ | refine Q1 ?_ | fail)); all_goals (conv => whnf))
  refine Some'.mk (0 : Nat) ?_
  ((repeat' ((conv => whnf) <;> first | exact True.intro | (guard_target =~ Fork _ _ _; first | refine F1 ?_ | refine F2 ?_ | refine F3 (fun h => ?_) fun h => ?_) | (guard_target =~ Ar _ _ _; first | refine A1 ?_ | refine A2 ?_ | refine A3 ?_) | (guard_target =~ AskL _ _; first | refine L1 ?_) | (guard_target =~ Go.Eng.Ask _ _; first | refine K1 ?_) | (guard_target =~ All' _ _; first | (refine Y2 fun y he he' hy => ?_; (try dsimp only at he he' hy)) | (refine Y1 fun y he hy => ?_; (try with_reducible conv at he => (rhs; whnf)); (try dsimp only at he hy)) | (refine All'.mk ?_; intro y hy)) | refine F4 (fun h => ?_) fun h => ?_ | refine R1 ?_ | refine Q1 ?_ | fail)); all_goals (conv => whnf))
  refine AllI.mk ?_
  rintro (i : Nat) hi
  have hi : i ≤ l.length := hi
  have hf := flat_le l i
  by_cases hil : i = l.length
  · subst hil
    have ht : l.take l.length = l := List.take_length
    rw [ht] at hf
    dsimp only [concatL0Ru]
    rw [ht]
    ((repeat' ((conv => whnf) <;> first | exact True.intro | (guard_target =~ Fork _ _ _; first | refine F1 ?_ | refine F2 ?_ | refine F3 (fun h => ?_) fun h => ?_) | (guard_target =~ Ar _ _ _; first | refine A1 ?_ | refine A2 ?_ | refine A3 ?_) | (guard_target =~ AskL _ _; first | refine L1 ?_) | (guard_target =~ Go.Eng.Ask _ _; first | refine K1 ?_) | (guard_target =~ All' _ _; first | (refine Y2 fun y he he' hy => ?_; (try dsimp only at he he' hy)) | (refine Y1 fun y he hy => ?_; (try with_reducible conv at he => (rhs; whnf)); (try dsimp only at he hy)) | (refine All'.mk ?_; intro y hy)) | refine F4 (fun h => ?_) fun h => ?_ | refine R1 ?_ | refine Q1 ?_ | fail)); all_goals (conv => whnf))
    refine CallP.mk (C := growCRu) l.flatten.length ?_
    ((repeat' ((conv => whnf) <;> first | exact True.intro | (guard_target =~ Fork _ _ _; first | refine F1 ?_ | refine F2 ?_ | refine F3 (fun h => ?_) fun h => ?_) | (guard_target =~ Ar _ _ _; first | refine A1 ?_ | refine A2 ?_ | refine A3 ?_) | (guard_target =~ AskL _ _; first | refine L1 ?_) | (guard_target =~ Go.Eng.Ask _ _; first | refine K1 ?_) | (guard_target =~ All' _ _; first | (refine Y2 fun y he he' hy => ?_; (try dsimp only at he he' hy)) | (refine Y1 fun y he hy => ?_; (try with_reducible conv at he => (rhs; whnf)); (try dsimp only at he hy)) | (refine All'.mk ?_; intro y hy)) | refine F4 (fun h => ?_) fun h => ?_ | refine R1 ?_ | refine Q1 ?_ | fail)); all_goals (conv => whnf))
    refine Some'.mk (0 : Nat) ?_
    ((repeat' ((conv => whnf) <;> first | exact True.intro | (guard_target =~ Fork _ _ _; first | refine F1 ?_ | refine F2 ?_ | refine F3 (fun h => ?_) fun h => ?_) | (guard_target =~ Ar _ _ _; first | refine A1 ?_ | refine A2 ?_ | refine A3 ?_) | (guard_target =~ AskL _ _; first | refine L1 ?_) | (guard_target =~ Go.Eng.Ask _ _; first | refine K1 ?_) | (guard_target =~ All' _ _; first | (refine Y2 fun y he he' hy => ?_; (try dsimp only at he he' hy)) | (refine Y1 fun y he hy => ?_; (try with_reducible conv at he => (rhs; whnf)); (try dsimp only at he hy)) | (refine All'.mk ?_; intro y hy)) | refine F4 (fun h => ?_) fun h => ?_ | refine R1 ?_ | refine Q1 ?_ | fail)); all_goals (conv => whnf))
    refine AllI.mk ?_
    rintro (i : Nat) hi
    have hi : i ≤ l.length := hi
    have hf := flat_le l i
    by_cases hil : i = l.length
    · subst hil
      dsimp only [concatL2Ru]
      rw [ht]
      exact G1
    · obtain ⟨e, he⟩ : ∃ e, l[i]? = some e := ⟨_, List.getElem?_eq_getElem (by omega)⟩
      have ht2 := flat_take he
      have hm := flat_mem (List.mem_of_getElem? he)
      have hf2 := flat_le l (i + 1)
      rw [ht2, List.length_append] at hf2
      ((repeat' ((conv => whnf) <;> first | exact True.intro | (guard_target =~ Fork _ _ _; first | refine F1 ?_ | refine F2 ?_ | refine F3 (fun h => ?_) fun h => ?_) | (guard_target =~ Ar _ _ _; first | refine A1 ?_ | refine A2 ?_ | refine A3 ?_) | (guard_target =~ AskL _ _; first | refine L1 ?_) | (guard_target =~ Go.Eng.Ask _ _; first | refine K1 ?_) | (guard_target =~ All' _ _; first | (refine Y2 fun y he he' hy => ?_; (try dsimp only at he he' hy)) | (refine Y1 fun y he hy => ?_; (try with_reducible conv at he => (rhs; whnf)); (try dsimp only at he hy))) | refine F4 (fun h => ?_) fun h => ?_ | refine R1 ?_ | refine Q1 ?_ | fail)); all_goals (conv => whnf))
      refine All'.mk ?_; rintro (e' : List Run) he'
      obtain rfl : e = e' := Option.some.inj (he.symm.trans he')
      ((repeat' ((conv => whnf) <;> first | exact True.intro | (guard_target =~ Fork _ _ _; first | refine F1 ?_ | refine F2 ?_ | refine F3 (fun h => ?_) fun h => ?_) | (guard_target =~ Ar _ _ _; first | refine A1 ?_ | refine A2 ?_ | refine A3 ?_) | (guard_target =~ AskL _ _; first | refine L1 ?_) | (guard_target =~ Go.Eng.Ask _ _; first | refine K1 ?_) | (guard_target =~ All' _ _; first | (refine Y2 fun y he he' hy => ?_; (try dsimp only at he he' hy)) | (refine Y1 fun y he hy => ?_; (try with_reducible conv at he => (rhs; whnf)); (try dsimp only at he hy)) | (refine All'.mk ?_; intro y hy)) | refine F4 (fun h => ?_) fun h => ?_ | refine R1 ?_ | refine Q1 ?_ | fail)); all_goals (conv => whnf))
      refine Some'.mk (i + 1 : Nat) ?_
      dsimp only [concatL2Ru]
      rw [ht2]
      exact G1
  · obtain ⟨e, he⟩ : ∃ e, l[i]? = some e := ⟨_, List.getElem?_eq_getElem (by omega)⟩
    have ht2 := flat_take he
    have hf2 := flat_le l (i + 1)
    have hl2 : (l.take (i + 1)).flatten.length = (l.take i).flatten.length + e.length := by rw [ht2, List.length_append]
    rw [ht2, List.length_append] at hf2
    ((repeat' ((conv => whnf) <;> first | exact True.intro | (guard_target =~ Fork _ _ _; first | refine F1 ?_ | refine F2 ?_ | refine F3 (fun h => ?_) fun h => ?_) | (guard_target =~ Ar _ _ _; first | refine A1 ?_ | refine A2 ?_ | refine A3 ?_) | (guard_target =~ AskL _ _; first | refine L1 ?_) | (guard_target =~ Go.Eng.Ask _ _; first | refine K1 ?_) | (guard_target =~ All' _ _; first | (refine Y2 fun y he he' hy => ?_; (try dsimp only at he he' hy)) | (refine Y1 fun y he hy => ?_; (try with_reducible conv at he => (rhs; whnf)); (try dsimp only at he hy))) | refine F4 (fun h => ?_) fun h => ?_ | refine R1 ?_ | refine Q1 ?_ | fail)); all_goals (conv => whnf))
    refine All'.mk ?_; rintro (e' : List Run) he'
    obtain rfl : e = e' := Option.some.inj (he.symm.trans he')
    ((repeat' ((conv => whnf) <;> first | exact True.intro | (guard_target =~ Fork _ _ _; first | refine F1 ?_ | refine F2 ?_ | refine F3 (fun h => ?_) fun h => ?_) | (guard_target =~ Ar _ _ _; first | refine A1 ?_ | refine A2 ?_ | refine A3 ?_) | (guard_target =~ AskL _ _; first | refine L1 ?_) | (guard_target =~ Go.Eng.Ask _ _; first | refine K1 ?_) | (guard_target =~ All' _ _; first | (refine Y2 fun y he he' hy => ?_; (try dsimp only at he he' hy)) | (refine Y1 fun y he hy => ?_; (try with_reducible conv at he => (rhs; whnf)); (try dsimp only at he hy)) | (refine All'.mk ?_; intro y hy)) | refine F4 (fun h => ?_) fun h => ?_ | refine R1 ?_ | refine Q1 ?_ | fail)); all_goals (conv => whnf))
    refine Some'.mk (i + 1 : Nat) ?_
    dsimp only [concatL0Ru]
    rw [hl2]
    exact G1

@[reducible] def equalCRu : Ctr := {
  X := List Run × List Run
  Y := Unit
  args := fun x => [.ro true runT x.1, .ro true runT x.2]
  rw := fun _ => []
  side := fun x => x.1.length ≤ 9223372036854775807
  val := fun _ => ()
  ens := fun _ _ => True
  res := fun x _ => .v (.bool (decide (x.1 = x.2)))
  out := fun _ _ => [] }
@[reducible] def equalLRu (x : List Run × List Run) : LA := {
  X := Nat
  pre := fun i => i ≤ x.1.length ∧ x.1.length = x.2.length ∧ ∀ j, j < i → x.1[j]? = x.2[j]?
  mu := fun i => x.1.length - i
  T := fun i => [(0, .ro true runT x.1), (1, .ro true runT x.2), (12, .v (.int .i64 x.1.length)), (13, .v (.int .i64 (i : Nat)))]
  M := fun _ => [] }
theorem equal_okRu : equalCRu.ok Tryz.prog 59 := by
  refine ok_of_vc (An := fun (x : List Run × List Run) => anOf [(0, .loop (equalLRu x))]) (known_nil _) mo Tryz.func59 (by kernel_rfl) (by kernel_rfl) (fun _ _ => trivial) (fun x hs => ?_)
  obtain ⟨a, b⟩ := x
  have hs : a.length ≤ 9223372036854775807 := hs
  by_cases hl : a.length = b.length
  · ((repeat' ((conv => whnf) <;> first | exact True.intro | (guard_target =~ Fork _ _ _; first | refine F1 ?_ | refine F2 ?_ | refine F3 (fun h => ?_) fun h => ?_) | (guard_target =~ Ar _ _ _; first | refine A1 ?_ | refine A2 ?_ | refine A3 ?_) | (guard_target =~ AskL _ _; first | refine L1 ?_) | (guard_target =~ Go.Eng.Ask _ _; first | refine K1 ?_) | (guard_target =~ All' _ _; first | (refine Y2 fun y he he' hy => ?_; (try dsimp only at he he' hy)) | (refine Y1 fun y he hy => ?_; (try with_reducible conv at he => (rhs; whnf)); (try dsimp only at he hy)) | (refine All'.mk ?_; intro y hy)) | refine F4 (fun h => ?_) fun h => ?_ | refine R1 ?_ | refine Q1 ?_ | fail)); all_goals (conv => whnf))
    refine Some'.mk (0 : Nat) ?_
    ((repeat' ((conv => whnf) <;> first | exact True.intro | (guard_target =~ Fork _ _ _; first | refine F1 ?_ | refine F2 ?_ | refine F3 (fun h => ?_) fun h => ?_) | (guard_target =~ Ar _ _ _; first | refine A1 ?_ | refine A2 ?_ | refine A3 ?_) | (guard_target =~ AskL _ _; first | refine L1 ?_) | (guard_target =~ Go.Eng.Ask _ _; first | refine K1 ?_) | (guard_target =~ All' _ _; first | (refine Y2 fun y he he' hy => ?_; (try dsimp only at he he' hy)) | (refine Y1 fun y he hy => ?_; (try with_reducible conv at he => (rhs; whnf)); (try dsimp only at he hy)) | (refine All'.mk ?_; intro y hy)) | refine F4 (fun h => ?_) fun h => ?_ | refine R1 ?_ | refine Q1 ?_ | fail)); all_goals (conv => whnf))
    refine Ask.mk ⟨Nat.zero_le _, hl, fun j hj => absurd hj (Nat.not_lt_zero _)⟩ ?_
    refine AllI.mk ?_
    rintro (i : Nat) ⟨h1, h2, h3⟩
    have h1 : i ≤ a.length := h1
    have h2 : a.length = b.length := h2
    have h3 : ∀ j, j < i → a[j]? = b[j]? := h3
    by_cases hi : i = a.length
    · subst hi
      have k1 : decide (a = b) = true := decide_eq_true (List.ext_getElem? fun j => by
        by_cases hj : j < a.length
        · exact h3 j hj
        · rw [List.getElem?_eq_none (by omega), List.getElem?_eq_none (by omega)])
      exact G1
    · obtain ⟨x, hx⟩ : ∃ x, a[i]? = some x := ⟨_, List.getElem?_eq_getElem (by omega)⟩
      obtain ⟨y, hy⟩ : ∃ y, b[i]? = some y := ⟨_, List.getElem?_eq_getElem (by omega)⟩
      ((repeat' ((conv => whnf) <;> first | exact True.intro | (guard_target =~ Fork _ _ _; first | refine F1 ?_ | refine F2 ?_ | refine F3 (fun h => ?_) fun h => ?_) | (guard_target =~ Ar _ _ _; first | refine A1 ?_ | refine A2 ?_ | refine A3 ?_) | (guard_target =~ AskL _ _; first | refine L1 ?_) | (guard_target =~ Go.Eng.Ask _ _; first | refine K1 ?_) | (guard_target =~ All' _ _; first | (refine Y2 fun y he he' hy => ?_; (try dsimp only at he he' hy)) | (refine Y1 fun y he hy => ?_; (try with_reducible conv at he => (rhs; whnf)); (try dsimp only at he hy))) | refine F4 (fun h => ?_) fun h => ?_ | refine R1 ?_ | refine Q1 ?_ | fail)); all_goals (conv => whnf))
      refine All'.mk ?_; rintro (x' : Run) hx'
      obtain rfl : x = x' := Option.some.inj (hx.symm.trans hx')
      ((repeat' ((conv => whnf) <;> first | exact True.intro | (guard_target =~ Fork _ _ _; first | refine F1 ?_ | refine F2 ?_ | refine F3 (fun h => ?_) fun h => ?_) | (guard_target =~ Ar _ _ _; first | refine A1 ?_ | refine A2 ?_ | refine A3 ?_) | (guard_target =~ AskL _ _; first | refine L1 ?_) | (guard_target =~ Go.Eng.Ask _ _; first | refine K1 ?_) | (guard_target =~ All' _ _; first | (refine Y2 fun y he he' hy => ?_; (try dsimp only at he he' hy)) | (refine Y1 fun y he hy => ?_; (try with_reducible conv at he => (rhs; whnf)); (try dsimp only at he hy))) | refine F4 (fun h => ?_) fun h => ?_ | refine R1 ?_ | refine Q1 ?_ | fail)); all_goals (conv => whnf))
      refine All'.mk ?_; rintro (y' : Run) hy'
      obtain rfl : y = y' := Option.some.inj (hy.symm.trans hy')
      clear hx' hy'
      by_cases hxy : x = y
      · subst hxy
        have k2 : (x.1 == x.1) = true := beq_self_eq_true _
        have k3 : (x.2.1 == x.2.1) = true := beq_self_eq_true _
        have k4 : (x.2.2 == x.2.2) = true := beq_self_eq_true _
        have hk : (x.1 == x.1 && (x.2.1 == x.2.1 && x.2.2 == x.2.2)) = true := by simp
        have lm := hk
        ((repeat' ((conv => whnf) <;> first | exact True.intro | (guard_target =~ Fork _ _ _; first | refine F1 ?_ | refine F2 ?_ | refine F3 (fun h => ?_) fun h => ?_) | (guard_target =~ Ar _ _ _; first | refine A1 ?_ | refine A2 ?_ | refine A3 ?_) | (guard_target =~ AskL _ _; first | refine L1 ?_) | (guard_target =~ Go.Eng.Ask _ _; first | refine K1 ?_) | (guard_target =~ All' _ _; first | (refine Y2 fun y he he' hy => ?_; (try dsimp only at he he' hy)) | (refine Y1 fun y he hy => ?_; (try with_reducible conv at he => (rhs; whnf)); (try dsimp only at he hy)) | (refine All'.mk ?_; intro y hy)) | refine F4 (fun h => ?_) fun h => ?_ | refine R1 ?_ | refine Q1 ?_ | fail)); all_goals (conv => whnf))
        refine Some'.mk (i + 1 : Nat) ?_
        ((repeat' ((conv => whnf) <;> first | exact True.intro | (guard_target =~ Fork _ _ _; first | refine F1 ?_ | refine F2 ?_ | refine F3 (fun h => ?_) fun h => ?_) | (guard_target =~ Ar _ _ _; first | refine A1 ?_ | refine A2 ?_ | refine A3 ?_) | (guard_target =~ AskL _ _; first | refine L1 ?_) | (guard_target =~ Go.Eng.Ask _ _; first | refine K1 ?_) | (guard_target =~ All' _ _; first | (refine Y2 fun y he he' hy => ?_; (try dsimp only at he he' hy)) | (refine Y1 fun y he hy => ?_; (try with_reducible conv at he => (rhs; whnf)); (try dsimp only at he hy)) | (refine All'.mk ?_; intro y hy)) | refine F4 (fun h => ?_) fun h => ?_ | refine R1 ?_ | refine Q1 ?_ | fail)); all_goals (conv => whnf))
        refine Ask.mk ⟨by show i + 1 ≤ a.length; omega, h2, fun j hj => ?_⟩ ?_
        · show a[j]? = b[j]?
          by_cases hji : j = i
          · subst hji; rw [hx, hy]
          · exact h3 j (by omega)
        exact G1
      · have hk : (x.1 == y.1 && (x.2.1 == y.2.1 && x.2.2 == y.2.2)) = false := by
          cases hh : (x.1 == y.1 && (x.2.1 == y.2.1 && x.2.2 == y.2.2)) with
          | false => rfl
          | true =>
            simp only [Bool.and_eq_true, beq_iff_eq] at hh
            exact absurd (Prod.ext hh.1 (Prod.ext hh.2.1 hh.2.2)) hxy
        have k1 : decide (a = b) = false := decide_eq_false (fun h => hxy (Option.some.inj (hx.symm.trans (by rw [h]; exact hy))))
        have lm := hk
        exact G1
  · have k1 : decide (a = b) = false := decide_eq_false (fun h => hl (by rw [h]))
    exact G1
end Go.Proofs.YtoaaieiiamdopaaGreatDoor

set_option linter.unusedVariables false
set_option linter.unusedSimpArgs false
set_option maxRecDepth 100000
set_option maxHeartbeats 4000000
namespace Go.Proofs.YtoaaieiiamdopaaGreatDoor
open Go.Eng
variable [DM]
set_option linter.unusedSectionVars false
abbrev dotS (d : Dot) : List SV := [.v (.int .i64 d.1), .v (.int .i64 d.2)]
abbrev runS (r : Run) : List SV := [.v (.int .i64 r.1), .v (.int .i64 r.2.1), .v (.int .i64 r.2.2)]
@[reducible] def capAm (d : Dot) : List SV := [.rop true (dotS d) 0]
def predAm (d : Dot) (r : Run) : Bool := decide (inR r d)
def goodAny (_ : Run) : Prop := True
@[reducible] def clAmC : Ctr := {
  X := Dot × Run
  Y := Unit
  args := fun x => .agg (runS x.2) :: capAm x.1
  rw := fun _ => []
  side := fun x => goodAny x.2
  val := fun _ => ()
  ens := fun _ _ => True
  res := fun x _ => .v (.bool (predAm x.1 x.2))
  out := fun _ _ => [] }
theorem clAm_ok : clAmC.ok Tryz.prog 91 := by
  refine ok_of_vc (An := fun _ => anOf []) (known_nil _) mo Tryz.func91 (by kernel_rfl) (by kernel_rfl) (fun _ _ => trivial) (fun x hs => ?_)
  obtain ⟨⟨a, n⟩, ⟨m, f, t⟩⟩ := x
  ((repeat' ((conv => whnf) <;> first | exact True.intro | (guard_target =~ Fork _ _ _; first | refine F1 ?_ | refine F2 ?_ | refine F3 (fun h => ?_) fun h => ?_) | (guard_target =~ Ar _ _ _; first | refine A1 ?_ | refine A2 ?_ | refine A3 ?_) | (guard_target =~ AskL _ _; first | refine L1 ?_) | (guard_target =~ Go.Eng.Ask _ _; first | refine K1 ?_) | (guard_target =~ All' _ _; first | (refine Y2 fun y he he' hy => ?_; (try dsimp only at he he' hy)) | (refine Y1 fun y he hy => ?_; (try with_reducible conv at he => (rhs; whnf)); (try dsimp only at he hy))) | refine F4 (fun h => ?_) fun h => ?_ | refine R1 ?_ | refine Q1 ?_ | fail)); all_goals (conv => whnf))
  all_goals
    refine AskL.mk ?_ trivial
    dsimp only [conj]
    first
      | exact (decide_eq_true (show inR (m, f, t) (a, n) from ⟨by dsimp only; omega, by dsimp only; omega, by dsimp only; omega⟩)).symm
      | exact (decide_eq_false (fun (hh : inR (m, f, t) (a, n)) => by unfold inR at hh; dsimp only at hh; omega)).symm
      | (refine decide_eq_decide.2 ?_; unfold inR; dsimp only; omega)
theorem knownClAm : Known Tryz.prog (gOf [(91, clAmC)]) := known_cons ⟨clAm_ok, Tryz.call91⟩ (known_nil _)
@[reducible] def idxAmC : Ctr := {
  X := List Run × Dot
  Y := Unit
  args := fun x => [.ro true runT x.1, .func (.func 91) [] (capAm x.2)]
  rw := fun _ => []
  side := fun x => (∀ e, e ∈ x.1 → goodAny e) ∧ x.1.length ≤ 274877906944
  val := fun _ => ()
  ens := fun _ _ => True
  res := fun x _ => .v (.int .i64 (idxP (predAm x.2) x.1))
  out := fun _ _ => [] }
@[reducible] def idxAmL (x : List Run × Dot) : LA := {
  X := Nat
  pre := fun i => i ≤ x.1.length ∧ ∀ (j : Nat), j < i → ∀ e, x.1[j]? = some e → predAm x.2 e = false
  mu := fun i => x.1.length - i
  T := fun i => [(0, .ro true runT x.1), (1, .func (.func 91) [] (capAm x.2)), (7, .v (.int .i64 x.1.length)), (8, .v (.int .i64 (i : Nat)))]
  M := fun _ => [] }
theorem idxAm_ok : idxAmC.ok Tryz.prog 92 := by
  refine ok_of_vc (An := fun (x : List Run × Dot) => anOf [(0, .loop (idxAmL x))]) knownClAm mo Tryz.func92 (by kernel_rfl) (by kernel_rfl) (fun _ _ => trivial) (fun x hs => ?_)
  obtain ⟨l, k⟩ := x
  obtain ⟨hg, hlen⟩ := hs
  have hg : ∀ e, e ∈ l → goodAny e := hg
  have hlen : l.length ≤ 274877906944 := hlen
  ((repeat' ((conv => whnf) <;> first | exact True.intro | (guard_target =~ Fork _ _ _; first | refine F1 ?_ | refine F2 ?_ | refine F3 (fun h => ?_) fun h => ?_) | (guard_target =~ Ar _ _ _; first | refine A1 ?_ | refine A2 ?_ | refine A3 ?_) | (guard_target =~ AskL _ _; first | refine L1 ?_) | (guard_target =~ Go.Eng.Ask _ _; first | refine K1 ?_) | (guard_target =~ All' _ _; first | (refine Y2 fun y he he' hy => ?_; (try dsimp only at he he' hy)) | (refine Y1 fun y he hy => ?_; (try with_reducible conv at he => (rhs; whnf)); (try dsimp only at he hy)) | (refine All'.mk ?_; intro y hy)) | refine F4 (fun h => ?_) fun h => ?_ | refine R1 ?_ | refine Q1 ?_ | fail)); all_goals (conv => whnf))
  refine Some'.mk (0 : Nat) ?_
  ((repeat' ((conv => whnf) <;> first | exact True.intro | (guard_target =~ Fork _ _ _; first | refine F1 ?_ | refine F2 ?_ | refine F3 (fun h => ?_) fun h => ?_) | (guard_target =~ Ar _ _ _; first | refine A1 ?_ | refine A2 ?_ | refine A3 ?_) | (guard_target =~ AskL _ _; first | refine L1 ?_) | (guard_target =~ Go.Eng.Ask _ _; first | refine K1 ?_) | (guard_target =~ All' _ _; first | (refine Y2 fun y he he' hy => ?_; (try dsimp only at he he' hy)) | (refine Y1 fun y he hy => ?_; (try with_reducible conv at he => (rhs; whnf)); (try dsimp only at he hy)) | (refine All'.mk ?_; intro y hy)) | refine F4 (fun h => ?_) fun h => ?_ | refine R1 ?_ | refine Q1 ?_ | fail)); all_goals (conv => whnf))
  refine Ask.mk ⟨Nat.zero_le _, fun j hj => absurd hj (Nat.not_lt_zero _)⟩ ?_
  ((repeat' ((conv => whnf) <;> first | exact True.intro | (guard_target =~ Fork _ _ _; first | refine F1 ?_ | refine F2 ?_ | refine F3 (fun h => ?_) fun h => ?_) | (guard_target =~ Ar _ _ _; first | refine A1 ?_ | refine A2 ?_ | refine A3 ?_) | (guard_target =~ AskL _ _; first | refine L1 ?_) | (guard_target =~ Go.Eng.Ask _ _; first | refine K1 ?_) | (guard_target =~ All' _ _; first | (refine Y2 fun y he he' hy => ?_; (try dsimp only at he he' hy)) | (refine Y1 fun y he hy => ?_; (try with_reducible conv at he => (rhs; whnf)); (try dsimp only at he hy)) | (refine All'.mk ?_; intro y hy)) | refine F4 (fun h => ?_) fun h => ?_ | refine R1 ?_ | refine Q1 ?_ | fail)); all_goals (conv => whnf))
  refine AllI.mk ?_
  rintro (i : Nat) ⟨h1, h2⟩
  have h1 : i ≤ l.length := h1
  have h2 : ∀ (j : Nat), j < i → ∀ e, l[j]? = some e → predAm k e = false := h2
  by_cases hi : i = l.length
  · subst hi
    have e : idxP (predAm k) l = -1 := idxP_none (fun j e he => h2 j (List.getElem?_eq_some_iff.1 he).1 e he)
    exact G1
  · obtain ⟨e, he⟩ : ∃ e, l[i]? = some e := ⟨_, List.getElem?_eq_getElem (by omega)⟩
    have hge := hg e (List.mem_of_getElem? he)
    ((repeat' ((conv => whnf) <;> first | exact True.intro | (guard_target =~ Fork _ _ _; first | refine F1 ?_ | refine F2 ?_ | refine F3 (fun h => ?_) fun h => ?_) | (guard_target =~ Ar _ _ _; first | refine A1 ?_ | refine A2 ?_ | refine A3 ?_) | (guard_target =~ AskL _ _; first | refine L1 ?_) | (guard_target =~ Go.Eng.Ask _ _; first | refine K1 ?_) | (guard_target =~ All' _ _; first | (refine Y2 fun y he he' hy => ?_; (try dsimp only at he he' hy)) | (refine Y1 fun y he hy => ?_; (try with_reducible conv at he => (rhs; whnf)); (try dsimp only at he hy))) | refine F4 (fun h => ?_) fun h => ?_ | refine R1 ?_ | refine Q1 ?_ | fail)); all_goals (conv => whnf))
    refine All'.mk ?_; rintro (e' : Run) he'
    obtain rfl : e = e' := Option.some.inj (he.symm.trans he')
    clear he'
    cases hp : predAm k e with
    | true =>
      have hidx : idxP (predAm k) l = (i : Nat) := idxP_at he hp h2
      ((repeat' ((conv => whnf) <;> first | exact True.intro | (guard_target =~ Fork _ _ _; first | refine F1 ?_ | refine F2 ?_ | refine F3 (fun h => ?_) fun h => ?_) | (guard_target =~ Ar _ _ _; first | refine A1 ?_ | refine A2 ?_ | refine A3 ?_) | (guard_target =~ AskL _ _; first | refine L1 ?_) | (guard_target =~ Go.Eng.Ask _ _; first | refine K1 ?_) | (guard_target =~ All' _ _; first | (refine Y2 fun y he he' hy => ?_; (try dsimp only at he he' hy)) | (refine Y1 fun y he hy => ?_; (try with_reducible conv at he => (rhs; whnf)); (try dsimp only at he hy)) | (refine All'.mk ?_; intro y hy)) | refine F4 (fun h => ?_) fun h => ?_ | refine R1 ?_ | refine Q1 ?_ | fail)); all_goals (conv => whnf))
      refine CallP.mk (C := clAmC) (k, e) ?_
      have lm := hp
      exact G1
    | false =>
      ((repeat' ((conv => whnf) <;> first | exact True.intro | (guard_target =~ Fork _ _ _; first | refine F1 ?_ | refine F2 ?_ | refine F3 (fun h => ?_) fun h => ?_) | (guard_target =~ Ar _ _ _; first | refine A1 ?_ | refine A2 ?_ | refine A3 ?_) | (guard_target =~ AskL _ _; first | refine L1 ?_) | (guard_target =~ Go.Eng.Ask _ _; first | refine K1 ?_) | (guard_target =~ All' _ _; first | (refine Y2 fun y he he' hy => ?_; (try dsimp only at he he' hy)) | (refine Y1 fun y he hy => ?_; (try with_reducible conv at he => (rhs; whnf)); (try dsimp only at he hy)) | (refine All'.mk ?_; intro y hy)) | refine F4 (fun h => ?_) fun h => ?_ | refine R1 ?_ | refine Q1 ?_ | fail)); all_goals (conv => whnf))
      refine CallP.mk (C := clAmC) (k, e) ?_
      have lm := hp
      ((repeat' ((conv => whnf) <;> first | exact True.intro | (guard_target =~ Fork _ _ _; first | refine F1 ?_ | refine F2 ?_ | refine F3 (fun h => ?_) fun h => ?_) | (guard_target =~ Ar _ _ _; first | refine A1 ?_ | refine A2 ?_ | refine A3 ?_) | (guard_target =~ AskL _ _; first | refine L1 ?_) | (guard_target =~ Go.Eng.Ask _ _; first | refine K1 ?_) | (guard_target =~ All' _ _; first | (refine Y2 fun y he he' hy => ?_; (try dsimp only at he he' hy)) | (refine Y1 fun y he hy => ?_; (try with_reducible conv at he => (rhs; whnf)); (try dsimp only at he hy)) | (refine All'.mk ?_; intro y hy)) | refine F4 (fun h => ?_) fun h => ?_ | refine R1 ?_ | refine Q1 ?_ | fail)); all_goals (conv => whnf))
      refine Some'.mk (i + 1 : Nat) ?_
      ((repeat' ((conv => whnf) <;> first | exact True.intro | (guard_target =~ Fork _ _ _; first | refine F1 ?_ | refine F2 ?_ | refine F3 (fun h => ?_) fun h => ?_) | (guard_target =~ Ar _ _ _; first | refine A1 ?_ | refine A2 ?_ | refine A3 ?_) | (guard_target =~ AskL _ _; first | refine L1 ?_) | (guard_target =~ Go.Eng.Ask _ _; first | refine K1 ?_) | (guard_target =~ All' _ _; first | (refine Y2 fun y he he' hy => ?_; (try dsimp only at he he' hy)) | (refine Y1 fun y he hy => ?_; (try with_reducible conv at he => (rhs; whnf)); (try dsimp only at he hy)) | (refine All'.mk ?_; intro y hy)) | refine F4 (fun h => ?_) fun h => ?_ | refine R1 ?_ | refine Q1 ?_ | fail)); all_goals (conv => whnf))
      refine Ask.mk ⟨by show i + 1 ≤ l.length; omega, fun j hj e2 he2 => ?_⟩ ?_
      · by_cases hji : j = i
        · subst hji
          obtain rfl : e = e2 := Option.some.inj (he.symm.trans he2)
          exact hp
        · exact h2 j (by omega) e2 he2
      exact G1
theorem knownIdxAm : Known Tryz.prog (gOf [(92, idxAmC), (91, clAmC)]) := known_cons ⟨idxAm_ok, Tryz.call92⟩ knownClAm
@[reducible] def hasAmC : Ctr := {
  X := List Run × Dot
  Y := Unit
  args := fun x => [.ro true runT x.1, .func (.func 91) [] (capAm x.2)]
  rw := fun _ => []
  side := fun x => (∀ e, e ∈ x.1 → goodAny e) ∧ x.1.length ≤ 274877906944
  val := fun _ => ()
  ens := fun _ _ => True
  res := fun x _ => .v (.bool (x.1.any (predAm x.2)))
  out := fun _ _ => [] }
theorem hasAm_ok : hasAmC.ok Tryz.prog 90 := by
  refine ok_of_vc (An := fun _ => anOf []) knownIdxAm mo Tryz.func90 (by kernel_rfl) (by kernel_rfl) (fun _ _ => trivial) (fun x hs => ?_)
  obtain ⟨l, k⟩ := x
  have ha := idxP_any (predAm k) l
  ((repeat' ((conv => whnf) <;> first | exact True.intro | (guard_target =~ Fork _ _ _; first | refine F1 ?_ | refine F2 ?_ | refine F3 (fun h => ?_) fun h => ?_) | (guard_target =~ Ar _ _ _; first | refine A1 ?_ | refine A2 ?_ | refine A3 ?_) | (guard_target =~ AskL _ _; first | refine L1 ?_) | (guard_target =~ Go.Eng.Ask _ _; first | refine K1 ?_) | (guard_target =~ All' _ _; first | (refine Y2 fun y he he' hy => ?_; (try dsimp only at he he' hy)) | (refine Y1 fun y he hy => ?_; (try with_reducible conv at he => (rhs; whnf)); (try dsimp only at he hy)) | (refine All'.mk ?_; intro y hy)) | refine F4 (fun h => ?_) fun h => ?_ | refine R1 ?_ | refine Q1 ?_ | fail)); all_goals (conv => whnf))
  refine CallP.mk (C := idxAmC) (l, k) ?_
  exact G1
end Go.Proofs.YtoaaieiiamdopaaGreatDoor

set_option linter.unusedVariables false
set_option linter.unusedSimpArgs false
set_option maxRecDepth 100000
namespace Go.Proofs.YtoaaieiiamdopaaGreatDoor
open Go.Eng
variable [DM]
set_option linter.unusedSectionVars false
def topF (node : Int) : Int → List Run → Int
  | n, [] => n
  | n, r :: l => topF node (if r.1 = node then r.2.2 else n) l
def topN (c : List Run) (node : Int) : Int := if rightB c = true then topF node 0 c else 0
theorem topN_right {c : List Run} (h : rightB c = true) (node : Int) : topN c node = topF node 0 c := if_pos h
theorem topN_wrong {c : List Run} (h : rightB c = false) (node : Int) : topN c node = 0 := by
  unfold topN; rw [h]; rfl
theorem topF_step {node n : Int} {c : List Run} {i : Nat} {r : Run} (h : c[i]? = some r) : topF node n (c.drop i) = topF node (if r.1 = node then r.2.2 else n) (c.drop (i + 1)) := by
  obtain ⟨hi, rfl⟩ := List.getElem?_eq_some_iff.1 h
  rw [List.drop_eq_getElem_cons hi]; rfl
@[reducible] def dtopC : Ctr := {
  X := List Run × Int
  Y := Int
  args := fun x => [.ro true runT x.1, .v (.int .i64 x.2)]
  rw := fun _ => []
  side := fun x => x.1.length ≤ 9223372036854775807
  val := fun x => topN x.1 x.2
  ens := fun _ _ => True
  res := fun _ y => .v (.int .i64 y)
  out := fun _ _ => [] }
structure TopS where
  i : Nat
  n : Int
@[reducible] def dtopL (c : List Run) (node : Int) : LA := {
  X := TopS
  pre := fun s => s.i ≤ c.length ∧ topN c node = topF node s.n (c.drop s.i)
  mu := fun s => c.length - s.i
  T := fun s => [(1, .v (.int .i64 node)), (5, .v (.int .i64 s.n)), (12, .ro true runT c), (13, .v (.int .i64 c.length)), (14, .v (.int .i64 s.i))]
  M := fun _ => [] }
theorem knownD2 : Known Tryz.prog (gOf [(24, drightC), (11, drightC)]) := known_cons ⟨dright_ok, Tryz.call24⟩ (known_cons ⟨rdright_ok, Tryz.call11⟩ (known_nil _))
theorem dtop_ok : dtopC.ok Tryz.prog 32 := by
  refine ok_of_vc (An := fun (x : List Run × Int) => anOf [(0, .loop (dtopL x.1 x.2))]) knownD2 mo Tryz.func32 (by kernel_rfl) (by kernel_rfl) (fun _ _ => trivial) (fun x hs => ?_)
  obtain ⟨c, node⟩ := x
  have hs : c.length ≤ 9223372036854775807 := hs
  cases hb : rightB c with
  | false =>
    have ht := topN_wrong hb node
    ((repeat' ((conv => whnf) <;> first | exact True.intro | (guard_target =~ Fork _ _ _; first | refine F1 ?_ | refine F2 ?_ | refine F3 (fun h => ?_) fun h => ?_) | (guard_target =~ Ar _ _ _; first | refine A1 ?_ | refine A2 ?_ | refine A3 ?_) | (guard_target =~ AskL _ _; first | refine L1 ?_) | (guard_target =~ Go.Eng.Ask _ _; first | refine K1 ?_) | (guard_target =~ All' _ _; first | (refine Y2 fun y he he' hy => ?_; (try dsimp only at he he' hy)) | (refine Y1 fun y he hy => ?_; (try with_reducible conv at he => (rhs; whnf)); (try dsimp only at he hy)) | (refine All'.mk ?_; intro y hy)) | refine F4 (fun h => ?_) fun h => ?_ | refine R1 ?_ | refine Q1 ?_ | fail)); all_goals (conv => whnf))
    refine CallP.mk (C := drightC) c ?_
    exact G1
  | true =>
    have ht := topN_right hb node
    ((repeat' ((conv => whnf) <;> first | exact True.intro | (guard_target =~ Fork _ _ _; first | refine F1 ?_ | refine F2 ?_ | refine F3 (fun h => ?_) fun h => ?_) | (guard_target =~ Ar _ _ _; first | refine A1 ?_ | refine A2 ?_ | refine A3 ?_) | (guard_target =~ AskL _ _; first | refine L1 ?_) | (guard_target =~ Go.Eng.Ask _ _; first | refine K1 ?_) | (guard_target =~ All' _ _; first | (refine Y2 fun y he he' hy => ?_; (try dsimp only at he he' hy)) | (refine Y1 fun y he hy => ?_; (try with_reducible conv at he => (rhs; whnf)); (try dsimp only at he hy)) | (refine All'.mk ?_; intro y hy)) | refine F4 (fun h => ?_) fun h => ?_ | refine R1 ?_ | refine Q1 ?_ | fail)); all_goals (conv => whnf))
    refine CallP.mk (C := drightC) c ?_
    ((repeat' ((conv => whnf) <;> first | exact True.intro | (guard_target =~ Fork _ _ _; first | refine F1 ?_ | refine F2 ?_ | refine F3 (fun h => ?_) fun h => ?_) | (guard_target =~ Ar _ _ _; first | refine A1 ?_ | refine A2 ?_ | refine A3 ?_) | (guard_target =~ AskL _ _; first | refine L1 ?_) | (guard_target =~ Go.Eng.Ask _ _; first | refine K1 ?_) | (guard_target =~ All' _ _; first | (refine Y2 fun y he he' hy => ?_; (try dsimp only at he he' hy)) | (refine Y1 fun y he hy => ?_; (try with_reducible conv at he => (rhs; whnf)); (try dsimp only at he hy)) | (refine All'.mk ?_; intro y hy)) | refine F4 (fun h => ?_) fun h => ?_ | refine R1 ?_ | refine Q1 ?_ | fail)); all_goals (conv => whnf))
    clear he
    refine Some'.mk ⟨0, 0⟩ ?_
    ((repeat' ((conv => whnf) <;> first | exact True.intro | (guard_target =~ Fork _ _ _; first | refine F1 ?_ | refine F2 ?_ | refine F3 (fun h => ?_) fun h => ?_) | (guard_target =~ Ar _ _ _; first | refine A1 ?_ | refine A2 ?_ | refine A3 ?_) | (guard_target =~ AskL _ _; first | refine L1 ?_) | (guard_target =~ Go.Eng.Ask _ _; first | refine K1 ?_) | (guard_target =~ All' _ _; first | (refine Y2 fun y he he' hy => ?_; (try dsimp only at he he' hy)) | (refine Y1 fun y he hy => ?_; (try with_reducible conv at he => (rhs; whnf)); (try dsimp only at he hy)) | (refine All'.mk ?_; intro y hy)) | refine F4 (fun h => ?_) fun h => ?_ | refine R1 ?_ | refine Q1 ?_ | fail)); all_goals (conv => whnf))
    refine Ask.mk ⟨Nat.zero_le _, ht⟩ ?_
    ((repeat' ((conv => whnf) <;> first | exact True.intro | (guard_target =~ Fork _ _ _; first | refine F1 ?_ | refine F2 ?_ | refine F3 (fun h => ?_) fun h => ?_) | (guard_target =~ Ar _ _ _; first | refine A1 ?_ | refine A2 ?_ | refine A3 ?_) | (guard_target =~ AskL _ _; first | refine L1 ?_) | (guard_target =~ Go.Eng.Ask _ _; first | refine K1 ?_) | (guard_target =~ All' _ _; first | (refine Y2 fun y he he' hy => ?_; (try dsimp only at he he' hy)) | (refine Y1 fun y he hy => ?_; (try with_reducible conv at he => (rhs; whnf)); (try dsimp only at he hy)) | (refine All'.mk ?_; intro y hy)) | refine F4 (fun h => ?_) fun h => ?_ | refine R1 ?_ | refine Q1 ?_ | fail)); all_goals (conv => whnf))
    refine AllI.mk ?_
    rintro ⟨i, n⟩ ⟨h1, h2⟩
    dsimp only at h1 h2
    clear ht
    rcases Nat.lt_or_ge i c.length with hlt | hge
    · obtain ⟨⟨m, f, t⟩, hr⟩ := get_ex hlt
      rw [topF_step hr] at h2
      dsimp only at h2
      by_cases hm : m = node
      · rw [if_pos hm] at h2
        ((repeat' ((conv => whnf) <;> first | exact True.intro | (guard_target =~ Fork _ _ _; first | refine F1 ?_ | refine F2 ?_ | refine F3 (fun h => ?_) fun h => ?_) | (guard_target =~ Ar _ _ _; first | refine A1 ?_ | refine A2 ?_ | refine A3 ?_) | (guard_target =~ AskL _ _; first | refine L1 ?_) | (guard_target =~ Go.Eng.Ask _ _; first | refine K1 ?_) | (guard_target =~ All' _ _; first | (refine Y2 fun y he he' hy => ?_; (try dsimp only at he he' hy)) | (refine Y1 fun y he hy => ?_; (try with_reducible conv at he => (rhs; whnf)); (try dsimp only at he hy))) | refine F4 (fun h => ?_) fun h => ?_ | refine R1 ?_ | refine Q1 ?_ | fail)); all_goals (conv => whnf))
        refine All'.mk ?_
        rintro (y : Run) hy
        obtain rfl : (m, f, t) = y := Option.some.inj (hr.symm.trans hy)
        clear hy
        ((repeat' ((conv => whnf) <;> first | exact True.intro | (guard_target =~ Fork _ _ _; first | refine F1 ?_ | refine F2 ?_ | refine F3 (fun h => ?_) fun h => ?_) | (guard_target =~ Ar _ _ _; first | refine A1 ?_ | refine A2 ?_ | refine A3 ?_) | (guard_target =~ AskL _ _; first | refine L1 ?_) | (guard_target =~ Go.Eng.Ask _ _; first | refine K1 ?_) | (guard_target =~ All' _ _; first | (refine Y2 fun y he he' hy => ?_; (try dsimp only at he he' hy)) | (refine Y1 fun y he hy => ?_; (try with_reducible conv at he => (rhs; whnf)); (try dsimp only at he hy))) | refine F4 (fun h => ?_) fun h => ?_ | refine R1 ?_ | refine Q1 ?_ | fail)); all_goals (conv => whnf))
        refine Some'.mk ⟨i + 1, t⟩ ?_
        exact G1
      · rw [if_neg hm] at h2
        ((repeat' ((conv => whnf) <;> first | exact True.intro | (guard_target =~ Fork _ _ _; first | refine F1 ?_ | refine F2 ?_ | refine F3 (fun h => ?_) fun h => ?_) | (guard_target =~ Ar _ _ _; first | refine A1 ?_ | refine A2 ?_ | refine A3 ?_) | (guard_target =~ AskL _ _; first | refine L1 ?_) | (guard_target =~ Go.Eng.Ask _ _; first | refine K1 ?_) | (guard_target =~ All' _ _; first | (refine Y2 fun y he he' hy => ?_; (try dsimp only at he he' hy)) | (refine Y1 fun y he hy => ?_; (try with_reducible conv at he => (rhs; whnf)); (try dsimp only at he hy))) | refine F4 (fun h => ?_) fun h => ?_ | refine R1 ?_ | refine Q1 ?_ | fail)); all_goals (conv => whnf))
        refine All'.mk ?_
        rintro (y : Run) hy
        obtain rfl : (m, f, t) = y := Option.some.inj (hr.symm.trans hy)
        clear hy
        ((repeat' ((conv => whnf) <;> first | exact True.intro | (guard_target =~ Fork _ _ _; first | refine F1 ?_ | refine F2 ?_ | refine F3 (fun h => ?_) fun h => ?_) | (guard_target =~ Ar _ _ _; first | refine A1 ?_ | refine A2 ?_ | refine A3 ?_) | (guard_target =~ AskL _ _; first | refine L1 ?_) | (guard_target =~ Go.Eng.Ask _ _; first | refine K1 ?_) | (guard_target =~ All' _ _; first | (refine Y2 fun y he he' hy => ?_; (try dsimp only at he he' hy)) | (refine Y1 fun y he hy => ?_; (try with_reducible conv at he => (rhs; whnf)); (try dsimp only at he hy))) | refine F4 (fun h => ?_) fun h => ?_ | refine R1 ?_ | refine Q1 ?_ | fail)); all_goals (conv => whnf))
        refine Some'.mk ⟨i + 1, n⟩ ?_
        exact G1
    · have hh : topF node n (c.drop i) = n := by rw [List.drop_eq_nil_of_le hge]; rfl
      rw [hh] at h2
      exact G1
end Go.Proofs.YtoaaieiiamdopaaGreatDoor

set_option linter.unusedVariables false
set_option linter.unusedSimpArgs false
set_option maxRecDepth 100000
set_option maxHeartbeats 4000000
namespace Go.Proofs.YtoaaieiiamdopaaGreatDoor
open Go.Eng
variable [DM]
set_option linter.unusedSectionVars false
@[reducible] def damongC : Ctr := {
  X := List Run × Dot
  Y := Unit
  args := fun x => [.ro true runT x.1, .agg (dotS x.2)]
  rw := fun _ => []
  side := fun x => x.1.length ≤ 274877906944
  val := fun _ => ()
  ens := fun _ _ => True
  res := fun x _ => .v (.bool (inB x.1 x.2))
  out := fun _ _ => [] }
theorem knownE1 : Known Tryz.prog (gOf [(90, hasAmC)]) := known_cons ⟨hasAm_ok, Tryz.call90⟩ (known_nil _)
theorem damong_ok : damongC.ok Tryz.prog 68 := by
  refine ok_of_vc (An := fun _ => anOf []) knownE1 mo Tryz.func68 (by kernel_rfl) (by kernel_rfl) (fun _ _ => trivial) (fun x hs => ?_)
  obtain ⟨c, d⟩ := x
  have hs : c.length ≤ 274877906944 := hs
  have hg : ∀ e, e ∈ c → goodAny e := fun _ _ => trivial
  have hi : inB c d = c.any (predAm d) := rfl
  ((repeat' ((conv => whnf) <;> first | exact True.intro | (guard_target =~ Fork _ _ _; first | refine F1 ?_ | refine F2 ?_ | refine F3 (fun h => ?_) fun h => ?_) | (guard_target =~ Ar _ _ _; first | refine A1 ?_ | refine A2 ?_ | refine A3 ?_) | (guard_target =~ AskL _ _; first | refine L1 ?_) | (guard_target =~ Go.Eng.Ask _ _; first | refine K1 ?_) | (guard_target =~ All' _ _; first | (refine Y2 fun y he he' hy => ?_; (try dsimp only at he he' hy)) | (refine Y1 fun y he hy => ?_; (try with_reducible conv at he => (rhs; whnf)); (try dsimp only at he hy)) | (refine All'.mk ?_; intro y hy)) | refine F4 (fun h => ?_) fun h => ?_ | refine R1 ?_ | refine Q1 ?_ | fail)); all_goals (conv => whnf))
  refine CallP.mk (C := hasAmC) (c, d) ?_
  exact G1
def hasB (c : List Run) (d : Dot) : Bool := rightB c && goodB d && inB c d
@[reducible] def dhasC : Ctr := {
  X := List Run × Dot
  Y := Unit
  args := fun x => [.ro true runT x.1, .agg (dotS x.2)]
  rw := fun _ => []
  side := fun x => x.1.length ≤ 274877906944
  val := fun _ => ()
  ens := fun _ _ => True
  res := fun x _ => .v (.bool (hasB x.1 x.2))
  out := fun _ _ => [] }
theorem knownE2 : Known Tryz.prog (gOf [(24, drightC), (30, dgoodC), (68, damongC)]) :=
  known_cons ⟨dright_ok, Tryz.call24⟩ (known_cons ⟨dgood_ok, Tryz.call30⟩ (known_cons ⟨damong_ok, Tryz.call68⟩ (known_nil _)))
theorem dhas_ok : dhasC.ok Tryz.prog 34 := by
  refine ok_of_vc (An := fun _ => anOf []) knownE2 mo Tryz.func34 (by kernel_rfl) (by kernel_rfl) (fun _ _ => trivial) (fun x hs => ?_)
  obtain ⟨c, d⟩ := x
  have hs : c.length ≤ 274877906944 := hs
  have hh : hasB c d = (rightB c && goodB d && inB c d) := rfl
  cases h1 : rightB c with
  | false =>
    rw [h1, Bool.false_and, Bool.false_and] at hh
    have lm := h1
    ((repeat' ((conv => whnf) <;> first | exact True.intro | (guard_target =~ Fork _ _ _; first | refine F1 ?_ | refine F2 ?_ | refine F3 (fun h => ?_) fun h => ?_) | (guard_target =~ Ar _ _ _; first | refine A1 ?_ | refine A2 ?_ | refine A3 ?_) | (guard_target =~ AskL _ _; first | refine L1 ?_) | (guard_target =~ Go.Eng.Ask _ _; first | refine K1 ?_) | (guard_target =~ All' _ _; first | (refine Y2 fun y he he' hy => ?_; (try dsimp only at he he' hy)) | (refine Y1 fun y he hy => ?_; (try with_reducible conv at he => (rhs; whnf)); (try dsimp only at he hy)) | (refine All'.mk ?_; intro y hy)) | refine F4 (fun h => ?_) fun h => ?_ | refine R1 ?_ | refine Q1 ?_ | fail)); all_goals (conv => whnf))
    refine CallP.mk (C := drightC) c ?_
    exact G1
  | true =>
    cases h2 : goodB d with
    | false =>
      rw [h1, h2, Bool.true_and, Bool.false_and] at hh
      have lm := And.intro h1 h2
      ((repeat' ((conv => whnf) <;> first | exact True.intro | (guard_target =~ Fork _ _ _; first | refine F1 ?_ | refine F2 ?_ | refine F3 (fun h => ?_) fun h => ?_) | (guard_target =~ Ar _ _ _; first | refine A1 ?_ | refine A2 ?_ | refine A3 ?_) | (guard_target =~ AskL _ _; first | refine L1 ?_) | (guard_target =~ Go.Eng.Ask _ _; first | refine K1 ?_) | (guard_target =~ All' _ _; first | (refine Y2 fun y he he' hy => ?_; (try dsimp only at he he' hy)) | (refine Y1 fun y he hy => ?_; (try with_reducible conv at he => (rhs; whnf)); (try dsimp only at he hy)) | (refine All'.mk ?_; intro y hy)) | refine F4 (fun h => ?_) fun h => ?_ | refine R1 ?_ | refine Q1 ?_ | fail)); all_goals (conv => whnf))
      refine CallP.mk (C := drightC) c ?_
      ((repeat' ((conv => whnf) <;> first | exact True.intro | (guard_target =~ Fork _ _ _; first | refine F1 ?_ | refine F2 ?_ | refine F3 (fun h => ?_) fun h => ?_) | (guard_target =~ Ar _ _ _; first | refine A1 ?_ | refine A2 ?_ | refine A3 ?_) | (guard_target =~ AskL _ _; first | refine L1 ?_) | (guard_target =~ Go.Eng.Ask _ _; first | refine K1 ?_) | (guard_target =~ All' _ _; first | (refine Y2 fun y he he' hy => ?_; (try dsimp only at he he' hy)) | (refine Y1 fun y he hy => ?_; (try with_reducible conv at he => (rhs; whnf)); (try dsimp only at he hy)) | (refine All'.mk ?_; intro y hy)) | refine F4 (fun h => ?_) fun h => ?_ | refine R1 ?_ | refine Q1 ?_ | fail)); all_goals (conv => whnf))
      refine CallP.mk (C := dgoodC) d ?_
      exact G1
    | true =>
      rw [h1, h2, Bool.true_and, Bool.true_and] at hh
      have lm := And.intro h1 h2
      ((repeat' ((conv => whnf) <;> first | exact True.intro | (guard_target =~ Fork _ _ _; first | refine F1 ?_ | refine F2 ?_ | refine F3 (fun h => ?_) fun h => ?_) | (guard_target =~ Ar _ _ _; first | refine A1 ?_ | refine A2 ?_ | refine A3 ?_) | (guard_target =~ AskL _ _; first | refine L1 ?_) | (guard_target =~ Go.Eng.Ask _ _; first | refine K1 ?_) | (guard_target =~ All' _ _; first | (refine Y2 fun y he he' hy => ?_; (try dsimp only at he he' hy)) | (refine Y1 fun y he hy => ?_; (try with_reducible conv at he => (rhs; whnf)); (try dsimp only at he hy)) | (refine All'.mk ?_; intro y hy)) | refine F4 (fun h => ?_) fun h => ?_ | refine R1 ?_ | refine Q1 ?_ | fail)); all_goals (conv => whnf))
      refine CallP.mk (C := drightC) c ?_
      ((repeat' ((conv => whnf) <;> first | exact True.intro | (guard_target =~ Fork _ _ _; first | refine F1 ?_ | refine F2 ?_ | refine F3 (fun h => ?_) fun h => ?_) | (guard_target =~ Ar _ _ _; first | refine A1 ?_ | refine A2 ?_ | refine A3 ?_) | (guard_target =~ AskL _ _; first | refine L1 ?_) | (guard_target =~ Go.Eng.Ask _ _; first | refine K1 ?_) | (guard_target =~ All' _ _; first | (refine Y2 fun y he he' hy => ?_; (try dsimp only at he he' hy)) | (refine Y1 fun y he hy => ?_; (try with_reducible conv at he => (rhs; whnf)); (try dsimp only at he hy)) | (refine All'.mk ?_; intro y hy)) | refine F4 (fun h => ?_) fun h => ?_ | refine R1 ?_ | refine Q1 ?_ | fail)); all_goals (conv => whnf))
      refine CallP.mk (C := dgoodC) d ?_
      ((repeat' ((conv => whnf) <;> first | exact True.intro | (guard_target =~ Fork _ _ _; first | refine F1 ?_ | refine F2 ?_ | refine F3 (fun h => ?_) fun h => ?_) | (guard_target =~ Ar _ _ _; first | refine A1 ?_ | refine A2 ?_ | refine A3 ?_) | (guard_target =~ AskL _ _; first | refine L1 ?_) | (guard_target =~ Go.Eng.Ask _ _; first | refine K1 ?_) | (guard_target =~ All' _ _; first | (refine Y2 fun y he he' hy => ?_; (try dsimp only at he he' hy)) | (refine Y1 fun y he hy => ?_; (try with_reducible conv at he => (rhs; whnf)); (try dsimp only at he hy)) | (refine All'.mk ?_; intro y hy)) | refine F4 (fun h => ?_) fun h => ?_ | refine R1 ?_ | refine Q1 ?_ | fail)); all_goals (conv => whnf))
      refine CallP.mk (C := damongC) (c, d) ?_
      exact G1
end Go.Proofs.YtoaaieiiamdopaaGreatDoor

/-! The engine, part V: contracts out of walks (of the kit's or one's own). -/
set_option linter.unusedVariables false
set_option linter.unusedSimpArgs false
namespace Go.Eng
open Go.RowKit (Below)
variable [DM]
set_option linter.unusedSectionVars false

/-- The world behind: what lay there lies there. -/
theorem below_grow (w : World) (k : Nat) (os : Array Obj) : Below w.heap.size w (Go.Sort.grow (w.drewN k) os) :=
  ⟨rfl, rfl, rfl, by simp [Go.Sort.grow], fun j hj => by simp only [Go.Sort.grow, World.heap_drewN]; rw [Array.getElem?_append_left hj]⟩

/-- A function that lays nothing for its caller. -/
theorem ok_of_walk {C : Ctr} {P : Program} {f : FuncId} (hrw : ∀ x, C.rw x = []) (hout : ∀ x, C.out x (C.val x) = [])
    (h : ∀ x, C.side x → C.ens x (C.val x) ∧ ∀ (E : Env) (w : World) (vals : Array Value), vals.size = (C.args x).length →
      (∀ (j : Nat) (s : SV), (C.args x)[j]? = some s → Sat E w s (vals.getD j undef)) → GlobOk E w → (∀ b, E.I b ∨ E.B b → b < w.heap.size) →
      Calls P f vals w fun e w' => ∃ v, e = .returned v ∧ Sat E w' (C.res x (C.val x)) v ∧ Below w.heap.size w w' ∧ (DM.p → w.drawn ≤ w'.drawn)) : C.ok P f := by
  intro x hside
  obtain ⟨he, hw⟩ := h x hside
  refine ⟨he, fun E fp vals w hsz hv hents hnames => ?_⟩
  refine callsIn_wide.2 (Calls.mono (hw E w vals hsz hv hents.gl hents.Ilt) ?_)
  rintro e w' ⟨v, rfl, hsat, hb, hdr⟩
  have hfp : ∀ id b, ¬ fp id b := fun id b hf => by
    have := hents.sat id
    rw [hrw x] at this
    exact this b hf
  have hst : Stays E w w' := fun b _ hlt => hb.block b hlt
  refine ⟨v, E, fp, rfl, hsat, ?_, ⟨⟨hb.os, ⟨hb.tape, hdr⟩, hb.output, hb.size, fun b hlt _ => hb.block b hlt⟩, .refl _, fun b h => .inl h, fun b h => h, fun id b h => .inl ⟨id, h⟩⟩, fun _ _ => rfl⟩
  rw [hout x]
  exact ⟨fun id b hf => hfp id b hf, fun id b hf => (hfp id b hf).elim, fun id b hf => (hfp id b hf).elim, fun id b hf => (hfp id b hf).elim, fun i j b _ hf => (hfp i b hf).elim,
    fun b hI => Nat.lt_of_lt_of_le (hents.Ilt b hI) hb.size, hents.nil, hents.glob hst (fun _ h => h)⟩

/-- What was laid since is only read from now on. -/
def Env.plus (E : Env) (w w' : World) : Env := { E with I := fun b => E.I b ∨ (w.heap.size ≤ b ∧ b < w'.heap.size) }
theorem Env.le_plus (E : Env) (w w' : World) : E.le (E.plus w w') := ⟨fun _ _ h => h, fun _ h => .inl h, fun _ h => h⟩

/-- A function that lays what is only read. -/
theorem ok_of_walk_new {C : Ctr} {P : Program} {f : FuncId} (hrw : ∀ x, C.rw x = []) (hout : ∀ x, C.out x (C.val x) = [])
    (h : ∀ x, C.side x → C.ens x (C.val x) ∧ ∀ (E : Env) (w : World) (vals : Array Value), vals.size = (C.args x).length →
      (∀ (j : Nat) (s : SV), (C.args x)[j]? = some s → Sat E w s (vals.getD j undef)) → GlobOk E w → (∀ b, E.I b ∨ E.B b → b < w.heap.size) →
      Calls P f vals w fun e w' => ∃ v, e = .returned v ∧ Sat (E.plus w w') w' (C.res x (C.val x)) v ∧ Below w.heap.size w w' ∧ (DM.p → w.drawn ≤ w'.drawn)) : C.ok P f := by
  intro x hside
  obtain ⟨he, hw⟩ := h x hside
  refine ⟨he, fun E fp vals w hsz hv hents hnames => ?_⟩
  refine callsIn_wide.2 (Calls.mono (hw E w vals hsz hv hents.gl hents.Ilt) ?_)
  rintro e w' ⟨v, rfl, hsat, hb, hdr⟩
  have hfp : ∀ id b, ¬ fp id b := fun id b hf => by
    have := hents.sat id
    rw [hrw x] at this
    exact this b hf
  have hst : Stays E w w' := fun b _ hlt => hb.block b hlt
  refine ⟨v, E.plus w w', fp, rfl, hsat, ?_, ⟨⟨hb.os, ⟨hb.tape, hdr⟩, hb.output, hb.size, fun b hlt _ => hb.block b hlt⟩, E.le_plus w w', fun b h => h.imp id (fun h => .inr h.1), fun b h => h, fun id b h => .inl ⟨id, h⟩⟩, fun _ _ => rfl⟩
  rw [hout x]
  refine ⟨fun id b hf => hfp id b hf, fun id b hf => (hfp id b hf).elim, fun id b hf => (hfp id b hf).elim, fun id b hf => (hfp id b hf).elim, fun i j b _ hf => (hfp i b hf).elim,
    fun b hI => ?_, hents.nil, hents.glob hst (fun _ h => .inl h)⟩
  rcases hI with (hI | hI) | hI
  · exact Nat.lt_of_lt_of_le (hents.Ilt b (.inl hI)) hb.size
  · exact hI.2
  · exact Nat.lt_of_lt_of_le (hents.Ilt b (.inr hI)) hb.size

/-- A new list of strings. -/
theorem strs_new {E : Env} {w w' : World} {te : TypeId} {xs : List ByteArray} {fz : Nat × Nat} {c : Nat} (hb : w'.heap[w.heap.size]? = some (.cells (xs.map Value.string).toArray te fz)) (hc : xs.length ≤ c) :
    Sat (E.plus w w') w' (.ro false .str xs) (.slice (some ⟨w.heap.size, 0, none⟩) xs.length c) := by
  have hlt := (Array.getElem?_eq_some_iff.1 hb).1
  refine .ro false .str xs w.heap.size 0 c (fun m => .string (xs.getD m default)) (.inl (.inr ⟨Nat.le_refl _, hlt⟩)) hc (fun m hm => ?_) (fun i x j sv hi hj => ?_)
  · have hm : m < xs.length := by simpa [Ty.size] using hm
    simp [World.cell?, hb, hm]
  · simp only [enc] at hj
    cases j with
    | zero =>
      obtain rfl : SV.v (.string x) = sv := by simpa using hj
      have : (xs.getD (i * 1 + 0) default) = x := by simp [hi]
      show Sat _ _ _ (Value.string (xs.getD (i * 1 + 0) default))
      rw [this]; exact .v _
    | succ j => simp at hj

/-- A variable's cell. -/
theorem glob_cell {E : Env} {w : World} {g : Nat} {p : Array Value → Prop} {v : Value} (h : GlobOk E w) (hm : (g, p) ∈ gtab) (hp : ∀ a, p a → a = #[v]) : w.cell? ⟨g, 0, none⟩ = some v := by
  obtain ⟨_, a, t, fz, h1, h2⟩ := h g p hm
  rw [hp a h2] at h1
  simp [World.cell?, h1]
theorem glob_some {E : Env} {w : World} {g : Nat} {p : Array Value → Prop} (h : GlobOk E w) (hm : (g, p) ∈ gtab) : ∃ a, p a ∧ ∀ v, a = #[v] → w.cell? ⟨g, 0, none⟩ = some v := by
  obtain ⟨_, a, t, fz, h1, h2⟩ := h g p hm
  exact ⟨a, h2, fun v hv => by subst hv; simp [World.cell?, h1]⟩

/-- A function without a body. -/
theorem okV_of_run {C : Ctr} {P : Program} {f : FuncId} (hrw : ∀ x, C.rw x = []) (hout : ∀ x, C.out x (C.val x) = [])
    (h : ∀ x, C.side x → C.ens x (C.val x) ∧ ∀ (E : Env) (w : World) (vals : Array Value), vals.size = (C.args x).length →
      (∀ (j : Nat) (s : SV), (C.args x)[j]? = some s → Sat E w s (vals.getD j undef)) → ∃ v, (callFunc f vals).run P w = .ok (.value v) w ∧ Sat E w (C.res x (C.val x)) v) : C.okV P f := by
  intro x hside
  obtain ⟨he, hw⟩ := h x hside
  refine ⟨he, fun E fp vals w hsz hv hents hnames => ?_⟩
  obtain ⟨v, h1, h2⟩ := hw E w vals hsz hv
  refine ⟨v, h1, v, E, fp, rfl, h2, ?_, .refl _ _ _, fun _ _ => rfl⟩
  rw [hout x]
  rw [hrw x] at hents
  exact hents

/-! ### Arguments -/

theorem sat_v {E : Env} {w : World} {a v : Value} (h : Sat E w (.v a) v) : v = a := by cases h; rfl

theorem vals_nil {vals : Array Value} (h : vals.size = 0) : vals = #[] := by simpa using h
theorem vals_one {vals : Array Value} (h : vals.size = 1) : vals = #[vals.getD 0 undef] := by
  match vals, h with
  | ⟨[a]⟩, _ => rfl
theorem vals_two {vals : Array Value} (h : vals.size = 2) : vals = #[vals.getD 0 undef, vals.getD 1 undef] := by
  match vals, h with
  | ⟨[a, b]⟩, _ => rfl
theorem vals_three {vals : Array Value} (h : vals.size = 3) : vals = #[vals.getD 0 undef, vals.getD 1 undef, vals.getD 2 undef] := by
  match vals, h with
  | ⟨[a, b, c]⟩, _ => rfl

/-- A slice of data: nil, or cells of memory. -/
theorem sat_ro {E : Env} {w : World} {b : Bool} {t : Ty} {xs : List t.den} {v : Value} (h : Sat E w (.ro b t xs) v) :
    (xs = [] ∧ ∃ A c, v = .slice A 0 c) ∨ ∃ k o c, v = .slice (some ⟨k, o, none⟩) xs.length c ∧ E.ok b k ∧ xs.length ≤ c ∧
      ∀ i x j sv, xs[i]? = some x → (enc t x)[j]? = some sv → ∃ u, w.cell? ⟨k, o + (i * t.size + j), none⟩ = some u ∧ Sat E w sv u := by
  cases h with
  | nil _ _ A c => exact .inl ⟨rfl, A, c, rfl⟩
  | ro _ _ _ k o c u hb hle hc hs =>
    refine .inr ⟨k, o, c, rfl, hb, hle, fun i x j sv hi hj => ⟨u (i * t.size + j), hc _ ?_, hs i x j sv hi hj⟩⟩
    have h1 := (List.getElem?_eq_some_iff.1 hi).1
    have h2 := (List.getElem?_eq_some_iff.1 hj).1
    rw [enc_length] at h2
    calc i * t.size + j < i * t.size + t.size := by omega
      _ = (i + 1) * t.size := by rw [Nat.add_mul, Nat.one_mul]
      _ ≤ xs.length * t.size := Nat.mul_le_mul_right _ h1

/-- A list of strings. -/
theorem sat_strs {E : Env} {w : World} {b : Bool} {xs : List ByteArray} {v : Value} (h : Sat E w (.ro b .str xs) v) :
    (xs = [] ∧ ∃ A c, v = .slice A 0 c) ∨ ∃ k o c, v = .slice (some ⟨k, o, none⟩) xs.length c ∧ E.ok b k ∧ xs.length ≤ c ∧
      ∀ (j : Nat) x, xs[j]? = some x → w.cell? ⟨k, o + j, none⟩ = some (.string x) := by
  rcases sat_ro h with h | ⟨k, o, c, h1, h2, h3, h4⟩
  · exact .inl h
  · refine .inr ⟨k, o, c, h1, h2, h3, fun j x hj => ?_⟩
    obtain ⟨u, hu, hs⟩ := h4 j x 0 (.v (.string x)) hj rfl
    rw [sat_v hs] at hu
    simpa [Ty.size] using hu

theorem env_ok_lt {E : Env} {w : World} {b : Bool} {k : Nat} (hI : ∀ b, E.I b ∨ E.B b → b < w.heap.size) (h : E.ok b k) : k < w.heap.size := hI k h.or

/-- The library's tables. -/
theorem glob_tab {E : Env} {w : World} {P : Program} {name : String} {k : IntKind} {zs : List Int} {g : Nat} {p : Array Value → Prop} (h : GlobOk E w) (hg : P.globalNamed name = some g)
    (hm : (g, p) ∈ gtab) (hp : ∀ a, p a → a = (zs.map fun z => Value.int k z).toArray) : Go.Lib.TabIs P w name k zs := by
  obtain ⟨_, a, t, fz, h1, h2⟩ := h g p hm
  unfold Go.Lib.TabIs World.var?
  rw [hg]
  simp only [Option.bind_eq_bind, Option.bind_some, h1, hp a h2]

end Go.Eng
