/- Dots and clocks: which ones are right, a node's top; the reference's. -/
import Derived.Test.YtdgemajcplbllaaPenB
set_option linter.unusedVariables false
set_option linter.unusedSimpArgs false
set_option maxRecDepth 100000
namespace Go.Proofs.Ytdgemajcplbllaa
open Go.Eng

theorem get_ex {α : Type} {l : List α} {i : Nat} (h : i < l.length) : ∃ r, l[i]? = some r := ⟨l[i], List.getElem?_eq_getElem h⟩
abbrev dotT : Ty := .pair (.int .i64) (.int .i64)
abbrev runT : Ty := .pair (.int .i64) (.pair (.int .i64) (.int .i64))
abbrev Run := Int × Int × Int

def goodB (d : Int × Int) : Bool := decide (0 ≤ d.1 ∧ d.1 ≤ 7 ∧ 1 ≤ d.2 ∧ d.2 ≤ 1099511627776)
@[reducible] def dgoodC : Ctr := {
  X := Int × Int
  Y := Bool
  args := fun d => [.agg [.v (.int .i64 d.1), .v (.int .i64 d.2)]]
  rw := fun _ => []
  side := fun _ => True
  val := fun d => goodB d
  ens := fun _ _ => True
  res := fun _ y => .v (.bool y)
  out := fun _ _ => [] }
theorem dgood_ok : dgoodC.ok Try.prog 70 := by
  refine ok_of_vc (An := fun _ => anOf []) (known_nil _) mo Try.func70 (by kernel_rfl) (by kernel_rfl) (fun _ _ => trivial) (fun x hs => ?_)
  obtain ⟨n, k⟩ := x
  ((repeat' ((conv => whnf) <;> first | exact True.intro | refine F1 ?_ | refine F2 ?_ | (refine Fork.pos ?_ ?_; · (simp only [goodB, decide_eq_true_eq, beq_iff_eq, bne_iff_ne, ne_eq] <;> omega)) | (refine Fork.neg ?_ ?_; · (simp only [goodB, decide_eq_false_iff_not, beq_eq_false_iff_ne] <;> omega)) | refine F3 (fun h => ?_) fun h => ?_ | refine F4 (fun h => ?_) fun h => ?_ | refine R1 ?_ | refine A1 ?_ | refine A2 ?_ | (refine Ar.fit (wrap_i64 ?_ ?_) ?_; · ((try dsimp only) <;> simp only [goodB] <;> omega); · ((try dsimp only) <;> simp only [goodB] <;> omega)) | (refine Ar.fit (wrap_u64 ?_ ?_) ?_; · ((try dsimp only) <;> simp only [goodB] <;> omega); · ((try dsimp only) <;> simp only [goodB] <;> omega)) | (refine AskL.mk ?_ ?_; · ((simp only [conj]; repeat' apply And.intro) <;> first | rfl | trivial | omega | (simp only [goodB]; done) | (simp only [goodB] <;> omega) | (simp only [goodB]; refine Bool.eq_iff_iff.2 ?_; simp only [decide_eq_true_eq, Bool.false_eq_true, true_iff, iff_true, false_iff, iff_false, eq_self]; omega) | (simp only [*, goodB]; done))) | refine L1 ?_ | refine K1 ?_ | (refine Ask.mk ?_ ?_; · ((try dsimp only) <;> simp only [goodB] <;> omega)) | (refine Y2 fun y he he' hy => ?_; (try dsimp only at he he' hy)) | (refine Y1 fun y he hy => ?_; (try with_reducible conv at he => (rhs; whnf)); (try dsimp only at he hy)) | (refine All'.mk ?_; intro y hy) | refine Q1 ?_ | fail)); all_goals (conv => whnf))
theorem rgood_ok : dgoodC.ok Try.prog 52 := by
  refine ok_of_vc (An := fun _ => anOf []) (known_nil _) mo Try.func52 (by kernel_rfl) (by kernel_rfl) (fun _ _ => trivial) (fun x hs => ?_)
  obtain ⟨n, k⟩ := x
  ((repeat' ((conv => whnf) <;> first | exact True.intro | refine F1 ?_ | refine F2 ?_ | (refine Fork.pos ?_ ?_; · (simp only [goodB, decide_eq_true_eq, beq_iff_eq, bne_iff_ne, ne_eq] <;> omega)) | (refine Fork.neg ?_ ?_; · (simp only [goodB, decide_eq_false_iff_not, beq_eq_false_iff_ne] <;> omega)) | refine F3 (fun h => ?_) fun h => ?_ | refine F4 (fun h => ?_) fun h => ?_ | refine R1 ?_ | refine A1 ?_ | refine A2 ?_ | (refine Ar.fit (wrap_i64 ?_ ?_) ?_; · ((try dsimp only) <;> simp only [goodB] <;> omega); · ((try dsimp only) <;> simp only [goodB] <;> omega)) | (refine Ar.fit (wrap_u64 ?_ ?_) ?_; · ((try dsimp only) <;> simp only [goodB] <;> omega); · ((try dsimp only) <;> simp only [goodB] <;> omega)) | (refine AskL.mk ?_ ?_; · ((simp only [conj]; repeat' apply And.intro) <;> first | rfl | trivial | omega | (simp only [goodB]; done) | (simp only [goodB] <;> omega) | (simp only [goodB]; refine Bool.eq_iff_iff.2 ?_; simp only [decide_eq_true_eq, Bool.false_eq_true, true_iff, iff_true, false_iff, iff_false, eq_self]; omega) | (simp only [*, goodB]; done))) | refine L1 ?_ | refine K1 ?_ | (refine Ask.mk ?_ ?_; · ((try dsimp only) <;> simp only [goodB] <;> omega)) | (refine Y2 fun y he he' hy => ?_; (try dsimp only at he he' hy)) | (refine Y1 fun y he hy => ?_; (try with_reducible conv at he => (rhs; whnf)); (try dsimp only at he hy)) | (refine All'.mk ?_; intro y hy) | refine Q1 ?_ | fail)); all_goals (conv => whnf))

@[reducible] def runP (r : Run) : Prop := 0 ≤ r.1 ∧ r.1 ≤ 7 ∧ 1 ≤ r.2.1 ∧ r.2.1 ≤ r.2.2 ∧ r.2.2 ≤ 1099511627776
@[reducible] def nextP (p r : Run) : Prop := ¬ (r.1 < p.1 ∨ p.1 = r.1 ∧ r.2.1 - 1 ≤ p.2.2)
def runB (r : Run) : Bool := decide (runP r)
@[reducible] def dfitsC : Ctr := {
  X := Run
  Y := Bool
  args := fun r => [.agg [.v (.int .i64 r.1), .v (.int .i64 r.2.1), .v (.int .i64 r.2.2)]]
  rw := fun _ => []
  side := fun _ => True
  val := fun r => runB r
  ens := fun _ _ => True
  res := fun _ y => .v (.bool y)
  out := fun _ _ => [] }
theorem knownD0 : Known Try.prog (gOf [(70, dgoodC)]) := known_cons ⟨dgood_ok, Try.call70⟩ (known_nil _)
theorem dfits_ok : dfitsC.ok Try.prog 75 := by
  refine ok_of_vc (An := fun _ => anOf []) knownD0 mo Try.func75 (by kernel_rfl) (by kernel_rfl) (fun _ _ => trivial) (fun x hs => ?_)
  obtain ⟨n, f, t⟩ := x
  ((repeat' ((conv => whnf) <;> first | exact True.intro | refine F1 ?_ | refine F2 ?_ | refine F3 (fun h => ?_) fun h => ?_ | refine F4 (fun h => ?_) fun h => ?_ | refine R1 ?_ | refine A1 ?_ | refine A2 ?_ | refine L1 ?_ | refine K1 ?_ | (refine Y2 fun y he he' hy => ?_; (try dsimp only at he he' hy)) | (refine Y1 fun y he hy => ?_; (try with_reducible conv at he => (rhs; whnf)); (try dsimp only at he hy)) | (refine All'.mk ?_; intro y hy) | refine Q1 ?_ | fail)); all_goals (conv => whnf))
  refine CallP.mk (C := dgoodC) (n, f) ?_
  ((repeat' ((conv => whnf) <;> first | exact True.intro | refine F1 ?_ | refine F2 ?_ | refine F3 (fun h => ?_) fun h => ?_ | refine F4 (fun h => ?_) fun h => ?_ | refine R1 ?_ | refine A1 ?_ | refine A2 ?_ | refine L1 ?_ | refine K1 ?_ | (refine Y2 fun y he he' hy => ?_; (try dsimp only at he he' hy)) | (refine Y1 fun y he hy => ?_; (try with_reducible conv at he => (rhs; whnf)); (try dsimp only at he hy)) | (refine All'.mk ?_; intro y hy) | refine Q1 ?_ | fail)); all_goals (conv => whnf))
  all_goals
    have he := he.symm.trans (by assumption)
    simp only [goodB, decide_eq_true_eq, decide_eq_false_iff_not] at he
    refine AskL.mk ?_ trivial
    show _ = decide (0 ≤ n ∧ n ≤ 7 ∧ 1 ≤ f ∧ f ≤ t ∧ t ≤ 1099511627776)
    first
      | exact decide_eq_decide.2 (by (try dsimp only); omega)
      | exact (decide_eq_false (by (try dsimp only); omega)).symm

def prv (c : List Run) : Nat → Option Run
  | 0 => none
  | i + 1 => c[i]?
def rightFrom : Option Run → List Run → Bool
  | _, [] => true
  | p, r :: l => runB r && (match p with | none => true | some q => decide (nextP q r)) && rightFrom (some r) l
def rightB (c : List Run) : Bool := rightFrom none c
theorem right_start (c : List Run) : rightB c = rightFrom (prv c 0) (c.drop 0) := rfl
theorem right_step {c : List Run} {i : Nat} {r : Run} (h : c[i]? = some r) :
    rightFrom (prv c i) (c.drop i) = (runB r && (match prv c i with | none => true | some q => decide (nextP q r)) && rightFrom (prv c (i + 1)) (c.drop (i + 1))) := by
  obtain ⟨hi, rfl⟩ := List.getElem?_eq_some_iff.1 h
  rw [List.drop_eq_getElem_cons hi]
  show (_ && _ && _) = _
  simp only [prv, h]
theorem right_end {c : List Run} {i : Nat} (h : c.length ≤ i) : rightFrom (prv c i) (c.drop i) = true := by
  rw [List.drop_eq_nil_of_le h]; rfl

@[reducible] def drightC : Ctr := {
  X := List Run
  Y := Bool
  args := fun c => [.ro false runT c]
  rw := fun _ => []
  side := fun c => c.length ≤ 9223372036854775807
  val := fun c => rightB c
  ens := fun _ _ => True
  res := fun _ y => .v (.bool y)
  out := fun _ _ => [] }
@[reducible] def drightL (c : List Run) : LA := {
  X := Nat
  pre := fun i => i ≤ c.length ∧ rightB c = rightFrom (prv c i) (c.drop i)
  mu := fun i => c.length - i
  T := fun i => [(0, .ro false runT c), (5, .ro false runT c), (6, .v (.int .i64 c.length)), (7, .v (.int .i64 i))]
  M := fun _ => [] }
theorem knownD1 : Known Try.prog (gOf [(75, dfitsC)]) := known_cons ⟨dfits_ok, Try.call75⟩ (known_nil _)
theorem dright_ok : drightC.ok Try.prog 71 := by
  refine ok_of_vc (An := fun (c : List Run) => anOf [(0, .loop (drightL c))]) knownD1 mo Try.func71 (by kernel_rfl) (by kernel_rfl) (fun _ _ => trivial) (fun (c : List Run) hs => ?_)
  have hs : c.length ≤ 9223372036854775807 := hs
  ((repeat' ((conv => whnf) <;> first | exact True.intro | refine F1 ?_ | refine F2 ?_ | refine F3 (fun h => ?_) fun h => ?_ | refine F4 (fun h => ?_) fun h => ?_ | refine R1 ?_ | refine A1 ?_ | refine A2 ?_ | refine L1 ?_ | refine K1 ?_ | (refine Y2 fun y he he' hy => ?_; (try dsimp only at he he' hy)) | (refine Y1 fun y he hy => ?_; (try with_reducible conv at he => (rhs; whnf)); (try dsimp only at he hy)) | (refine All'.mk ?_; intro y hy) | refine Q1 ?_ | fail)); all_goals (conv => whnf))
  refine Some'.mk 0 ?_
  ((repeat' ((conv => whnf) <;> first | exact True.intro | refine F1 ?_ | refine F2 ?_ | refine F3 (fun h => ?_) fun h => ?_ | refine F4 (fun h => ?_) fun h => ?_ | refine R1 ?_ | refine A1 ?_ | refine A2 ?_ | refine L1 ?_ | refine K1 ?_ | (refine Y2 fun y he he' hy => ?_; (try dsimp only at he he' hy)) | (refine Y1 fun y he hy => ?_; (try with_reducible conv at he => (rhs; whnf)); (try dsimp only at he hy)) | (refine All'.mk ?_; intro y hy) | refine Q1 ?_ | fail)); all_goals (conv => whnf))
  refine Ask.mk ⟨Nat.zero_le _, right_start c⟩ ?_
  ((repeat' ((conv => whnf) <;> first | exact True.intro | refine F1 ?_ | refine F2 ?_ | refine F3 (fun h => ?_) fun h => ?_ | refine F4 (fun h => ?_) fun h => ?_ | refine R1 ?_ | refine A1 ?_ | refine A2 ?_ | refine L1 ?_ | refine K1 ?_ | (refine Y2 fun y he he' hy => ?_; (try dsimp only at he he' hy)) | (refine Y1 fun y he hy => ?_; (try with_reducible conv at he => (rhs; whnf)); (try dsimp only at he hy)) | (refine All'.mk ?_; intro y hy) | refine Q1 ?_ | fail)); all_goals (conv => whnf))
  refine AllI.mk ?_
  rintro (i : Nat) ⟨h1, h2⟩
  rcases Nat.lt_or_ge i c.length with hlt | hge
  · obtain ⟨r, hr⟩ := get_ex hlt
    have hst := right_step hr
    obtain ⟨n, f, t⟩ := r
    rw [hst] at h2
    clear hst
    cases hok : runB (n, f, t) with
    | false =>
      rw [hok, Bool.false_and, Bool.false_and] at h2
      ((repeat' ((conv => whnf) <;> first | exact True.intro | refine F1 ?_ | refine F2 ?_ | refine F3 (fun h => ?_) fun h => ?_ | refine F4 (fun h => ?_) fun h => ?_ | refine R1 ?_ | refine A1 ?_ | refine A2 ?_ | refine L1 ?_ | refine K1 ?_ | (refine Y2 fun y he he' hy => ?_; (try dsimp only at he he' hy)) | (refine Y1 fun y he hy => ?_; (try with_reducible conv at he => (rhs; whnf)); (try dsimp only at he hy)) | refine Q1 ?_ | fail)); all_goals (conv => whnf))
      refine All'.mk ?_
      rintro (y : Run) hy
      obtain rfl : (n, f, t) = y := Option.some.inj (hr.symm.trans hy)
      clear hy
      ((repeat' ((conv => whnf) <;> first | exact True.intro | refine F1 ?_ | refine F2 ?_ | refine F3 (fun h => ?_) fun h => ?_ | refine F4 (fun h => ?_) fun h => ?_ | refine R1 ?_ | refine A1 ?_ | refine A2 ?_ | refine L1 ?_ | refine K1 ?_ | (refine Y2 fun y he he' hy => ?_; (try dsimp only at he he' hy)) | (refine Y1 fun y he hy => ?_; (try with_reducible conv at he => (rhs; whnf)); (try dsimp only at he hy)) | refine Q1 ?_ | fail)); all_goals (conv => whnf))
      refine CallP.mk (C := dfitsC) (n, f, t) ?_
      ((repeat' ((conv => whnf) <;> first | exact True.intro | refine F1 ?_ | refine F2 ?_ | refine F3 (fun h => ?_) fun h => ?_ | refine F4 (fun h => ?_) fun h => ?_ | refine R1 ?_ | refine A1 ?_ | refine A2 ?_ | refine L1 ?_ | refine K1 ?_ | (refine Y2 fun y he he' hy => ?_; (try dsimp only at he he' hy)) | (refine Y1 fun y he hy => ?_; (try with_reducible conv at he => (rhs; whnf)); (try dsimp only at he hy)) | refine Q1 ?_ | fail)); all_goals (conv => whnf))
    | true =>
      have hrp : 0 ≤ n ∧ n ≤ 7 ∧ 1 ≤ f ∧ f ≤ t ∧ t ≤ 1099511627776 := of_decide_eq_true hok
      cases i with
      | zero =>
        rw [hok, Bool.true_and] at h2
        replace h2 : rightB c = rightFrom (prv c (0 + 1)) (c.drop (0 + 1)) := h2
        ((repeat' ((conv => whnf) <;> first | exact True.intro | refine F1 ?_ | refine F2 ?_ | refine F3 (fun h => ?_) fun h => ?_ | refine F4 (fun h => ?_) fun h => ?_ | refine R1 ?_ | refine A1 ?_ | refine A2 ?_ | refine L1 ?_ | refine K1 ?_ | (refine Y2 fun y he he' hy => ?_; (try dsimp only at he he' hy)) | (refine Y1 fun y he hy => ?_; (try with_reducible conv at he => (rhs; whnf)); (try dsimp only at he hy)) | refine Q1 ?_ | fail)); all_goals (conv => whnf))
        refine All'.mk ?_
        rintro (y : Run) hy
        obtain rfl : (n, f, t) = y := Option.some.inj (hr.symm.trans hy)
        clear hy
        ((repeat' ((conv => whnf) <;> first | exact True.intro | refine F1 ?_ | refine F2 ?_ | refine F3 (fun h => ?_) fun h => ?_ | refine F4 (fun h => ?_) fun h => ?_ | refine R1 ?_ | refine A1 ?_ | refine A2 ?_ | refine L1 ?_ | refine K1 ?_ | (refine Y2 fun y he he' hy => ?_; (try dsimp only at he he' hy)) | (refine Y1 fun y he hy => ?_; (try with_reducible conv at he => (rhs; whnf)); (try dsimp only at he hy)) | refine Q1 ?_ | fail)); all_goals (conv => whnf))
        refine CallP.mk (C := dfitsC) (n, f, t) ?_
        ((repeat' ((conv => whnf) <;> first | exact True.intro | refine F1 ?_ | refine F2 ?_ | refine F3 (fun h => ?_) fun h => ?_ | refine F4 (fun h => ?_) fun h => ?_ | refine R1 ?_ | refine A1 ?_ | refine A2 ?_ | refine L1 ?_ | refine K1 ?_ | (refine Y2 fun y he he' hy => ?_; (try dsimp only at he he' hy)) | (refine Y1 fun y he hy => ?_; (try with_reducible conv at he => (rhs; whnf)); (try dsimp only at he hy)) | refine Q1 ?_ | fail)); all_goals (conv => whnf))
        refine Some'.mk (1) ?_
        ((repeat' ((conv => whnf) <;> first | exact True.intro | refine F1 ?_ | refine F2 ?_ | refine F3 (fun h => ?_) fun h => ?_ | refine F4 (fun h => ?_) fun h => ?_ | refine R1 ?_ | refine A1 ?_ | refine A2 ?_ | refine L1 ?_ | refine K1 ?_ | (refine Y2 fun y he he' hy => ?_; (try dsimp only at he he' hy)) | (refine Y1 fun y he hy => ?_; (try with_reducible conv at he => (rhs; whnf)); (try dsimp only at he hy)) | (refine All'.mk ?_; intro y hy) | refine Q1 ?_ | fail)); all_goals (conv => whnf))
      | succ i =>
        obtain ⟨⟨pn, pf, pt⟩, hp⟩ := get_ex (show i < c.length by omega)
        have hi1 : (((i + 1 : Nat) : Int) - 1).toNat = i := by omega
        have hpv : prv c (i + 1) = some (pn, pf, pt) := hp
        rw [hok, hpv, Bool.true_and] at h2
        clear hpv
        by_cases hn : nextP (pn, pf, pt) (n, f, t)
        · replace h2 : rightB c = (decide (nextP (pn, pf, pt) (n, f, t)) && rightFrom (prv c (i + 1 + 1)) (c.drop (i + 1 + 1))) := h2
          rw [decide_eq_true hn, Bool.true_and] at h2
          replace hn : ¬ (n < pn ∨ pn = n ∧ f - 1 ≤ pt) := hn
          ((repeat' ((conv => whnf) <;> first | exact True.intro | refine F1 ?_ | refine F2 ?_ | refine F3 (fun h => ?_) fun h => ?_ | refine F4 (fun h => ?_) fun h => ?_ | refine R1 ?_ | refine A1 ?_ | refine A2 ?_ | refine L1 ?_ | refine K1 ?_ | (refine Y2 fun y he he' hy => ?_; (try dsimp only at he he' hy)) | (refine Y1 fun y he hy => ?_; (try with_reducible conv at he => (rhs; whnf)); (try dsimp only at he hy)) | refine Q1 ?_ | fail)); all_goals (conv => whnf))
          refine All'.mk ?_
          rintro (y : Run) hy
          obtain rfl : (n, f, t) = y := Option.some.inj (hr.symm.trans hy)
          clear hy
          ((repeat' ((conv => whnf) <;> first | exact True.intro | refine F1 ?_ | refine F2 ?_ | refine F3 (fun h => ?_) fun h => ?_ | refine F4 (fun h => ?_) fun h => ?_ | refine R1 ?_ | refine A1 ?_ | refine A2 ?_ | refine L1 ?_ | refine K1 ?_ | (refine Y2 fun y he he' hy => ?_; (try dsimp only at he he' hy)) | (refine Y1 fun y he hy => ?_; (try with_reducible conv at he => (rhs; whnf)); (try dsimp only at he hy)) | refine Q1 ?_ | fail)); all_goals (conv => whnf))
          refine CallP.mk (C := dfitsC) (n, f, t) ?_
          ((repeat' ((conv => whnf) <;> first | exact True.intro | refine F1 ?_ | refine F2 ?_ | refine F3 (fun h => ?_) fun h => ?_ | refine F4 (fun h => ?_) fun h => ?_ | refine R1 ?_ | refine A1 ?_ | refine A2 ?_ | refine L1 ?_ | refine K1 ?_ | (refine Y2 fun y he he' hy => ?_; (try dsimp only at he he' hy)) | (refine Y1 fun y he hy => ?_; (try with_reducible conv at he => (rhs; whnf)); (try dsimp only at he hy)) | refine Q1 ?_ | fail)); all_goals (conv => whnf))
          all_goals
            try
              refine All'.mk ?_
              rintro (y : Run) hy
              rw [hi1] at hy
              obtain rfl : (pn, pf, pt) = y := Option.some.inj (hp.symm.trans hy)
              clear hy
              ((repeat' ((conv => whnf) <;> first | exact True.intro | refine F1 ?_ | refine F2 ?_ | refine F3 (fun h => ?_) fun h => ?_ | refine F4 (fun h => ?_) fun h => ?_ | refine R1 ?_ | refine A1 ?_ | refine A2 ?_ | refine L1 ?_ | refine K1 ?_ | (refine Y2 fun y he he' hy => ?_; (try dsimp only at he he' hy)) | (refine Y1 fun y he hy => ?_; (try with_reducible conv at he => (rhs; whnf)); (try dsimp only at he hy)) | refine Q1 ?_ | fail)); all_goals (conv => whnf))
          all_goals
            try
              refine All'.mk ?_
              rintro (y : Run) hy
              rw [hi1] at hy
              obtain rfl : (pn, pf, pt) = y := Option.some.inj (hp.symm.trans hy)
              clear hy
              ((repeat' ((conv => whnf) <;> first | exact True.intro | refine F1 ?_ | refine F2 ?_ | refine F3 (fun h => ?_) fun h => ?_ | refine F4 (fun h => ?_) fun h => ?_ | refine R1 ?_ | refine A1 ?_ | refine A2 ?_ | refine L1 ?_ | refine K1 ?_ | (refine Y2 fun y he he' hy => ?_; (try dsimp only at he he' hy)) | (refine Y1 fun y he hy => ?_; (try with_reducible conv at he => (rhs; whnf)); (try dsimp only at he hy)) | refine Q1 ?_ | fail)); all_goals (conv => whnf))
          all_goals
            try
              refine All'.mk ?_
              rintro (y : Run) hy
              rw [hi1] at hy
              obtain rfl : (pn, pf, pt) = y := Option.some.inj (hp.symm.trans hy)
              clear hy
              ((repeat' ((conv => whnf) <;> first | exact True.intro | refine F1 ?_ | refine F2 ?_ | refine F3 (fun h => ?_) fun h => ?_ | refine F4 (fun h => ?_) fun h => ?_ | refine R1 ?_ | refine A1 ?_ | refine A2 ?_ | refine L1 ?_ | refine K1 ?_ | (refine Y2 fun y he he' hy => ?_; (try dsimp only at he he' hy)) | (refine Y1 fun y he hy => ?_; (try with_reducible conv at he => (rhs; whnf)); (try dsimp only at he hy)) | refine Q1 ?_ | fail)); all_goals (conv => whnf))
          all_goals
            refine Some'.mk (i + 1 + 1) ?_
            ((repeat' ((conv => whnf) <;> first | exact True.intro | refine F1 ?_ | refine F2 ?_ | refine F3 (fun h => ?_) fun h => ?_ | refine F4 (fun h => ?_) fun h => ?_ | refine R1 ?_ | refine A1 ?_ | refine A2 ?_ | refine L1 ?_ | refine K1 ?_ | (refine Y2 fun y he he' hy => ?_; (try dsimp only at he he' hy)) | (refine Y1 fun y he hy => ?_; (try with_reducible conv at he => (rhs; whnf)); (try dsimp only at he hy)) | (refine All'.mk ?_; intro y hy) | refine Q1 ?_ | fail)); all_goals (conv => whnf))
        · replace h2 : rightB c = (decide (nextP (pn, pf, pt) (n, f, t)) && rightFrom (prv c (i + 1 + 1)) (c.drop (i + 1 + 1))) := h2
          rw [decide_eq_false hn, Bool.false_and] at h2
          replace hn : ¬ ¬ (n < pn ∨ pn = n ∧ f - 1 ≤ pt) := hn
          ((repeat' ((conv => whnf) <;> first | exact True.intro | refine F1 ?_ | refine F2 ?_ | refine F3 (fun h => ?_) fun h => ?_ | refine F4 (fun h => ?_) fun h => ?_ | refine R1 ?_ | refine A1 ?_ | refine A2 ?_ | refine L1 ?_ | refine K1 ?_ | (refine Y2 fun y he he' hy => ?_; (try dsimp only at he he' hy)) | (refine Y1 fun y he hy => ?_; (try with_reducible conv at he => (rhs; whnf)); (try dsimp only at he hy)) | refine Q1 ?_ | fail)); all_goals (conv => whnf))
          refine All'.mk ?_
          rintro (y : Run) hy
          obtain rfl : (n, f, t) = y := Option.some.inj (hr.symm.trans hy)
          clear hy
          ((repeat' ((conv => whnf) <;> first | exact True.intro | refine F1 ?_ | refine F2 ?_ | refine F3 (fun h => ?_) fun h => ?_ | refine F4 (fun h => ?_) fun h => ?_ | refine R1 ?_ | refine A1 ?_ | refine A2 ?_ | refine L1 ?_ | refine K1 ?_ | (refine Y2 fun y he he' hy => ?_; (try dsimp only at he he' hy)) | (refine Y1 fun y he hy => ?_; (try with_reducible conv at he => (rhs; whnf)); (try dsimp only at he hy)) | refine Q1 ?_ | fail)); all_goals (conv => whnf))
          refine CallP.mk (C := dfitsC) (n, f, t) ?_
          ((repeat' ((conv => whnf) <;> first | exact True.intro | refine F1 ?_ | refine F2 ?_ | refine F3 (fun h => ?_) fun h => ?_ | refine F4 (fun h => ?_) fun h => ?_ | refine R1 ?_ | refine A1 ?_ | refine A2 ?_ | refine L1 ?_ | refine K1 ?_ | (refine Y2 fun y he he' hy => ?_; (try dsimp only at he he' hy)) | (refine Y1 fun y he hy => ?_; (try with_reducible conv at he => (rhs; whnf)); (try dsimp only at he hy)) | refine Q1 ?_ | fail)); all_goals (conv => whnf))
          all_goals
            try
              refine All'.mk ?_
              rintro (y : Run) hy
              rw [hi1] at hy
              obtain rfl : (pn, pf, pt) = y := Option.some.inj (hp.symm.trans hy)
              clear hy
              ((repeat' ((conv => whnf) <;> first | exact True.intro | refine F1 ?_ | refine F2 ?_ | refine F3 (fun h => ?_) fun h => ?_ | refine F4 (fun h => ?_) fun h => ?_ | refine R1 ?_ | refine A1 ?_ | refine A2 ?_ | refine L1 ?_ | refine K1 ?_ | (refine Y2 fun y he he' hy => ?_; (try dsimp only at he he' hy)) | (refine Y1 fun y he hy => ?_; (try with_reducible conv at he => (rhs; whnf)); (try dsimp only at he hy)) | refine Q1 ?_ | fail)); all_goals (conv => whnf))
          all_goals
            try
              refine All'.mk ?_
              rintro (y : Run) hy
              rw [hi1] at hy
              obtain rfl : (pn, pf, pt) = y := Option.some.inj (hp.symm.trans hy)
              clear hy
              ((repeat' ((conv => whnf) <;> first | exact True.intro | refine F1 ?_ | refine F2 ?_ | refine F3 (fun h => ?_) fun h => ?_ | refine F4 (fun h => ?_) fun h => ?_ | refine R1 ?_ | refine A1 ?_ | refine A2 ?_ | refine L1 ?_ | refine K1 ?_ | (refine Y2 fun y he he' hy => ?_; (try dsimp only at he he' hy)) | (refine Y1 fun y he hy => ?_; (try with_reducible conv at he => (rhs; whnf)); (try dsimp only at he hy)) | refine Q1 ?_ | fail)); all_goals (conv => whnf))
          all_goals
            try
              refine All'.mk ?_
              rintro (y : Run) hy
              rw [hi1] at hy
              obtain rfl : (pn, pf, pt) = y := Option.some.inj (hp.symm.trans hy)
              clear hy
              ((repeat' ((conv => whnf) <;> first | exact True.intro | refine F1 ?_ | refine F2 ?_ | refine F3 (fun h => ?_) fun h => ?_ | refine F4 (fun h => ?_) fun h => ?_ | refine R1 ?_ | refine A1 ?_ | refine A2 ?_ | refine L1 ?_ | refine K1 ?_ | (refine Y2 fun y he he' hy => ?_; (try dsimp only at he he' hy)) | (refine Y1 fun y he hy => ?_; (try with_reducible conv at he => (rhs; whnf)); (try dsimp only at he hy)) | refine Q1 ?_ | fail)); all_goals (conv => whnf))
  · have hh := right_end hge
    rw [hh] at h2
    ((repeat' ((conv => whnf) <;> first | exact True.intro | refine F1 ?_ | refine F2 ?_ | refine F3 (fun h => ?_) fun h => ?_ | refine F4 (fun h => ?_) fun h => ?_ | refine R1 ?_ | refine A1 ?_ | refine A2 ?_ | refine L1 ?_ | refine K1 ?_ | (refine Y2 fun y he he' hy => ?_; (try dsimp only at he he' hy)) | (refine Y1 fun y he hy => ?_; (try with_reducible conv at he => (rhs; whnf)); (try dsimp only at he hy)) | (refine All'.mk ?_; intro y hy) | refine Q1 ?_ | fail)); all_goals (conv => whnf))
@[reducible] def rdrightL (c : List Run) : LA := {
  X := Nat
  pre := fun i => i ≤ c.length ∧ rightB c = rightFrom (prv c i) (c.drop i) ∧ ∀ q, prv c i = some q → runB q = true
  mu := fun i => c.length - i
  T := fun i => [(0, .ro false runT c), (5, .ro false runT c), (6, .v (.int .i64 c.length)), (7, .v (.int .i64 i))]
  M := fun _ => [] }
theorem rdright_ok : drightC.ok Try.prog 53 := by
  refine ok_of_vc (An := fun (c : List Run) => anOf [(0, .loop (rdrightL c))]) (known_nil _) mo Try.func53 (by kernel_rfl) (by kernel_rfl) (fun _ _ => trivial) (fun (c : List Run) hs => ?_)
  have hs : c.length ≤ 9223372036854775807 := hs
  ((repeat' ((conv => whnf) <;> first | exact True.intro | refine F1 ?_ | refine F2 ?_ | refine F3 (fun h => ?_) fun h => ?_ | refine F4 (fun h => ?_) fun h => ?_ | refine R1 ?_ | refine A1 ?_ | refine A2 ?_ | refine L1 ?_ | refine K1 ?_ | (refine Y2 fun y he he' hy => ?_; (try dsimp only at he he' hy)) | (refine Y1 fun y he hy => ?_; (try with_reducible conv at he => (rhs; whnf)); (try dsimp only at he hy)) | (refine All'.mk ?_; intro y hy) | refine Q1 ?_ | fail)); all_goals (conv => whnf))
  refine Some'.mk 0 ?_
  ((repeat' ((conv => whnf) <;> first | exact True.intro | refine F1 ?_ | refine F2 ?_ | refine F3 (fun h => ?_) fun h => ?_ | refine F4 (fun h => ?_) fun h => ?_ | refine R1 ?_ | refine A1 ?_ | refine A2 ?_ | refine L1 ?_ | refine K1 ?_ | (refine Y2 fun y he he' hy => ?_; (try dsimp only at he he' hy)) | (refine Y1 fun y he hy => ?_; (try with_reducible conv at he => (rhs; whnf)); (try dsimp only at he hy)) | (refine All'.mk ?_; intro y hy) | refine Q1 ?_ | fail)); all_goals (conv => whnf))
  refine Ask.mk ⟨Nat.zero_le _, right_start c, fun q hq => by cases hq⟩ ?_
  ((repeat' ((conv => whnf) <;> first | exact True.intro | refine F1 ?_ | refine F2 ?_ | refine F3 (fun h => ?_) fun h => ?_ | refine F4 (fun h => ?_) fun h => ?_ | refine R1 ?_ | refine A1 ?_ | refine A2 ?_ | refine L1 ?_ | refine K1 ?_ | (refine Y2 fun y he he' hy => ?_; (try dsimp only at he he' hy)) | (refine Y1 fun y he hy => ?_; (try with_reducible conv at he => (rhs; whnf)); (try dsimp only at he hy)) | (refine All'.mk ?_; intro y hy) | refine Q1 ?_ | fail)); all_goals (conv => whnf))
  refine AllI.mk ?_
  rintro (i : Nat) ⟨h1, h2, h3⟩
  rcases Nat.lt_or_ge i c.length with hlt | hge
  · obtain ⟨⟨n, f, t⟩, hr⟩ := get_ex hlt
    have hst := right_step hr
    rw [hst] at h2
    clear hst
    cases hok : runB (n, f, t) with
    | false =>
      rw [hok, Bool.false_and, Bool.false_and] at h2
      have hrp : ¬ (0 ≤ n ∧ n ≤ 7 ∧ 1 ≤ f ∧ f ≤ t ∧ t ≤ 1099511627776) := of_decide_eq_false hok
      clear hok
      ((repeat' ((conv => whnf) <;> first | exact True.intro | refine F1 ?_ | refine F2 ?_ | refine F3 (fun h => ?_) fun h => ?_ | refine F4 (fun h => ?_) fun h => ?_ | refine R1 ?_ | refine A1 ?_ | refine A2 ?_ | refine L1 ?_ | refine K1 ?_ | (refine Y2 fun y he he' hy => ?_; (try dsimp only at he he' hy)) | (refine Y1 fun y he hy => ?_; (try with_reducible conv at he => (rhs; whnf)); (try dsimp only at he hy)) | refine Q1 ?_ | fail)); all_goals (conv => whnf))
      refine All'.mk ?_
      rintro (y : Run) hy
      obtain rfl : (n, f, t) = y := Option.some.inj (hr.symm.trans hy)
      clear hy
      ((repeat' ((conv => whnf) <;> first | exact True.intro | refine F1 ?_ | refine F2 ?_ | refine F3 (fun h => ?_) fun h => ?_ | refine F4 (fun h => ?_) fun h => ?_ | refine R1 ?_ | refine A1 ?_ | refine A2 ?_ | refine L1 ?_ | refine K1 ?_ | (refine Y2 fun y he he' hy => ?_; (try dsimp only at he he' hy)) | (refine Y1 fun y he hy => ?_; (try with_reducible conv at he => (rhs; whnf)); (try dsimp only at he hy)) | refine Q1 ?_ | fail)); all_goals (conv => whnf))
    | true =>
      have hrp : 0 ≤ n ∧ n ≤ 7 ∧ 1 ≤ f ∧ f ≤ t ∧ t ≤ 1099511627776 := of_decide_eq_true hok
      cases i with
      | zero =>
        rw [hok, Bool.true_and] at h2
        replace h2 : rightB c = rightFrom (prv c (0 + 1)) (c.drop (0 + 1)) := h2
        clear hok
        ((repeat' ((conv => whnf) <;> first | exact True.intro | refine F1 ?_ | refine F2 ?_ | refine F3 (fun h => ?_) fun h => ?_ | refine F4 (fun h => ?_) fun h => ?_ | refine R1 ?_ | refine A1 ?_ | refine A2 ?_ | refine L1 ?_ | refine K1 ?_ | (refine Y2 fun y he he' hy => ?_; (try dsimp only at he he' hy)) | (refine Y1 fun y he hy => ?_; (try with_reducible conv at he => (rhs; whnf)); (try dsimp only at he hy)) | refine Q1 ?_ | fail)); all_goals (conv => whnf))
        refine All'.mk ?_
        rintro (y : Run) hy
        obtain rfl : (n, f, t) = y := Option.some.inj (hr.symm.trans hy)
        clear hy
        ((repeat' ((conv => whnf) <;> first | exact True.intro | refine F1 ?_ | refine F2 ?_ | refine F3 (fun h => ?_) fun h => ?_ | refine F4 (fun h => ?_) fun h => ?_ | refine R1 ?_ | refine A1 ?_ | refine A2 ?_ | refine L1 ?_ | refine K1 ?_ | (refine Y2 fun y he he' hy => ?_; (try dsimp only at he he' hy)) | (refine Y1 fun y he hy => ?_; (try with_reducible conv at he => (rhs; whnf)); (try dsimp only at he hy)) | refine Q1 ?_ | fail)); all_goals (conv => whnf))
        refine Some'.mk 1 ?_
        ((repeat' ((conv => whnf) <;> first | exact True.intro | refine F1 ?_ | refine F2 ?_ | refine F3 (fun h => ?_) fun h => ?_ | refine F4 (fun h => ?_) fun h => ?_ | refine R1 ?_ | refine A1 ?_ | refine A2 ?_ | refine L1 ?_ | refine K1 ?_ | (refine Y2 fun y he he' hy => ?_; (try dsimp only at he he' hy)) | (refine Y1 fun y he hy => ?_; (try with_reducible conv at he => (rhs; whnf)); (try dsimp only at he hy)) | (refine All'.mk ?_; intro y hy) | refine Q1 ?_ | fail)); all_goals (conv => whnf))
        refine Ask.mk ⟨by omega, h2, fun q hq => by obtain rfl := Option.some.inj (hr.symm.trans hq); exact decide_eq_true hrp⟩ ?_
        ((repeat' ((conv => whnf) <;> first | exact True.intro | refine F1 ?_ | refine F2 ?_ | refine F3 (fun h => ?_) fun h => ?_ | refine F4 (fun h => ?_) fun h => ?_ | refine R1 ?_ | refine A1 ?_ | refine A2 ?_ | refine L1 ?_ | refine K1 ?_ | (refine Y2 fun y he he' hy => ?_; (try dsimp only at he he' hy)) | (refine Y1 fun y he hy => ?_; (try with_reducible conv at he => (rhs; whnf)); (try dsimp only at he hy)) | (refine All'.mk ?_; intro y hy) | refine Q1 ?_ | fail)); all_goals (conv => whnf))
      | succ i =>
        obtain ⟨⟨pn, pf, pt⟩, hp⟩ := get_ex (show i < c.length by omega)
        have hi1 : (((i + 1 : Nat) : Int) - 1).toNat = i := by omega
        have hpv : prv c (i + 1) = some (pn, pf, pt) := hp
        have hpp : 0 ≤ pn ∧ pn ≤ 7 ∧ 1 ≤ pf ∧ pf ≤ pt ∧ pt ≤ 1099511627776 := of_decide_eq_true (h3 _ hpv)
        clear h3
        rw [hok, hpv, Bool.true_and] at h2
        clear hpv
        by_cases hn : nextP (pn, pf, pt) (n, f, t)
        · replace h2 : rightB c = (decide (nextP (pn, pf, pt) (n, f, t)) && rightFrom (prv c (i + 1 + 1)) (c.drop (i + 1 + 1))) := h2
          rw [decide_eq_true hn, Bool.true_and] at h2
          replace hn : ¬ (n < pn ∨ pn = n ∧ f - 1 ≤ pt) := hn
          clear hok
          ((repeat' ((conv => whnf) <;> first | exact True.intro | refine F1 ?_ | refine F2 ?_ | refine F3 (fun h => ?_) fun h => ?_ | refine F4 (fun h => ?_) fun h => ?_ | refine R1 ?_ | refine A1 ?_ | refine A2 ?_ | refine L1 ?_ | refine K1 ?_ | (refine Y2 fun y he he' hy => ?_; (try dsimp only at he he' hy)) | (refine Y1 fun y he hy => ?_; (try with_reducible conv at he => (rhs; whnf)); (try dsimp only at he hy)) | refine Q1 ?_ | fail)); all_goals (conv => whnf))
          refine All'.mk ?_
          rintro (y : Run) hy
          obtain rfl : (n, f, t) = y := Option.some.inj (hr.symm.trans hy)
          clear hy
          ((repeat' ((conv => whnf) <;> first | exact True.intro | refine F1 ?_ | refine F2 ?_ | refine F3 (fun h => ?_) fun h => ?_ | refine F4 (fun h => ?_) fun h => ?_ | refine R1 ?_ | refine A1 ?_ | refine A2 ?_ | refine L1 ?_ | refine K1 ?_ | (refine Y2 fun y he he' hy => ?_; (try dsimp only at he he' hy)) | (refine Y1 fun y he hy => ?_; (try with_reducible conv at he => (rhs; whnf)); (try dsimp only at he hy)) | refine Q1 ?_ | fail)); all_goals (conv => whnf))
          all_goals
            try
              refine All'.mk ?_
              rintro (y : Run) hy
              rw [hi1] at hy
              obtain rfl : (pn, pf, pt) = y := Option.some.inj (hp.symm.trans hy)
              clear hy
              ((repeat' ((conv => whnf) <;> first | exact True.intro | refine F1 ?_ | refine F2 ?_ | refine F3 (fun h => ?_) fun h => ?_ | refine F4 (fun h => ?_) fun h => ?_ | refine R1 ?_ | refine A1 ?_ | refine A2 ?_ | refine L1 ?_ | refine K1 ?_ | (refine Y2 fun y he he' hy => ?_; (try dsimp only at he he' hy)) | (refine Y1 fun y he hy => ?_; (try with_reducible conv at he => (rhs; whnf)); (try dsimp only at he hy)) | refine Q1 ?_ | fail)); all_goals (conv => whnf))
          all_goals
            try
              refine All'.mk ?_
              rintro (y : Run) hy
              rw [hi1] at hy
              obtain rfl : (pn, pf, pt) = y := Option.some.inj (hp.symm.trans hy)
              clear hy
              ((repeat' ((conv => whnf) <;> first | exact True.intro | refine F1 ?_ | refine F2 ?_ | refine F3 (fun h => ?_) fun h => ?_ | refine F4 (fun h => ?_) fun h => ?_ | refine R1 ?_ | refine A1 ?_ | refine A2 ?_ | refine L1 ?_ | refine K1 ?_ | (refine Y2 fun y he he' hy => ?_; (try dsimp only at he he' hy)) | (refine Y1 fun y he hy => ?_; (try with_reducible conv at he => (rhs; whnf)); (try dsimp only at he hy)) | refine Q1 ?_ | fail)); all_goals (conv => whnf))
          all_goals
            try
              refine All'.mk ?_
              rintro (y : Run) hy
              rw [hi1] at hy
              obtain rfl : (pn, pf, pt) = y := Option.some.inj (hp.symm.trans hy)
              clear hy
              ((repeat' ((conv => whnf) <;> first | exact True.intro | refine F1 ?_ | refine F2 ?_ | refine F3 (fun h => ?_) fun h => ?_ | refine F4 (fun h => ?_) fun h => ?_ | refine R1 ?_ | refine A1 ?_ | refine A2 ?_ | refine L1 ?_ | refine K1 ?_ | (refine Y2 fun y he he' hy => ?_; (try dsimp only at he he' hy)) | (refine Y1 fun y he hy => ?_; (try with_reducible conv at he => (rhs; whnf)); (try dsimp only at he hy)) | refine Q1 ?_ | fail)); all_goals (conv => whnf))
          all_goals
            refine Some'.mk (i + 1 + 1) ?_
            ((repeat' ((conv => whnf) <;> first | exact True.intro | refine F1 ?_ | refine F2 ?_ | refine F3 (fun h => ?_) fun h => ?_ | refine F4 (fun h => ?_) fun h => ?_ | refine R1 ?_ | refine A1 ?_ | refine A2 ?_ | refine L1 ?_ | refine K1 ?_ | (refine Y2 fun y he he' hy => ?_; (try dsimp only at he he' hy)) | (refine Y1 fun y he hy => ?_; (try with_reducible conv at he => (rhs; whnf)); (try dsimp only at he hy)) | (refine All'.mk ?_; intro y hy) | refine Q1 ?_ | fail)); all_goals (conv => whnf))
            refine Ask.mk ⟨by omega, h2, fun q hq => by obtain rfl := Option.some.inj (hr.symm.trans hq); exact decide_eq_true hrp⟩ ?_
            ((repeat' ((conv => whnf) <;> first | exact True.intro | refine F1 ?_ | refine F2 ?_ | refine F3 (fun h => ?_) fun h => ?_ | refine F4 (fun h => ?_) fun h => ?_ | refine R1 ?_ | refine A1 ?_ | refine A2 ?_ | refine L1 ?_ | refine K1 ?_ | (refine Y2 fun y he he' hy => ?_; (try dsimp only at he he' hy)) | (refine Y1 fun y he hy => ?_; (try with_reducible conv at he => (rhs; whnf)); (try dsimp only at he hy)) | (refine All'.mk ?_; intro y hy) | refine Q1 ?_ | fail)); all_goals (conv => whnf))
        · replace h2 : rightB c = (decide (nextP (pn, pf, pt) (n, f, t)) && rightFrom (prv c (i + 1 + 1)) (c.drop (i + 1 + 1))) := h2
          rw [decide_eq_false hn, Bool.false_and] at h2
          replace hn : ¬ ¬ (n < pn ∨ pn = n ∧ f - 1 ≤ pt) := hn
          clear hok
          ((repeat' ((conv => whnf) <;> first | exact True.intro | refine F1 ?_ | refine F2 ?_ | refine F3 (fun h => ?_) fun h => ?_ | refine F4 (fun h => ?_) fun h => ?_ | refine R1 ?_ | refine A1 ?_ | refine A2 ?_ | refine L1 ?_ | refine K1 ?_ | (refine Y2 fun y he he' hy => ?_; (try dsimp only at he he' hy)) | (refine Y1 fun y he hy => ?_; (try with_reducible conv at he => (rhs; whnf)); (try dsimp only at he hy)) | refine Q1 ?_ | fail)); all_goals (conv => whnf))
          refine All'.mk ?_
          rintro (y : Run) hy
          obtain rfl : (n, f, t) = y := Option.some.inj (hr.symm.trans hy)
          clear hy
          ((repeat' ((conv => whnf) <;> first | exact True.intro | refine F1 ?_ | refine F2 ?_ | refine F3 (fun h => ?_) fun h => ?_ | refine F4 (fun h => ?_) fun h => ?_ | refine R1 ?_ | refine A1 ?_ | refine A2 ?_ | refine L1 ?_ | refine K1 ?_ | (refine Y2 fun y he he' hy => ?_; (try dsimp only at he he' hy)) | (refine Y1 fun y he hy => ?_; (try with_reducible conv at he => (rhs; whnf)); (try dsimp only at he hy)) | refine Q1 ?_ | fail)); all_goals (conv => whnf))
          all_goals
            try
              refine All'.mk ?_
              rintro (y : Run) hy
              rw [hi1] at hy
              obtain rfl : (pn, pf, pt) = y := Option.some.inj (hp.symm.trans hy)
              clear hy
              ((repeat' ((conv => whnf) <;> first | exact True.intro | refine F1 ?_ | refine F2 ?_ | refine F3 (fun h => ?_) fun h => ?_ | refine F4 (fun h => ?_) fun h => ?_ | refine R1 ?_ | refine A1 ?_ | refine A2 ?_ | refine L1 ?_ | refine K1 ?_ | (refine Y2 fun y he he' hy => ?_; (try dsimp only at he he' hy)) | (refine Y1 fun y he hy => ?_; (try with_reducible conv at he => (rhs; whnf)); (try dsimp only at he hy)) | refine Q1 ?_ | fail)); all_goals (conv => whnf))
          all_goals
            try
              refine All'.mk ?_
              rintro (y : Run) hy
              rw [hi1] at hy
              obtain rfl : (pn, pf, pt) = y := Option.some.inj (hp.symm.trans hy)
              clear hy
              ((repeat' ((conv => whnf) <;> first | exact True.intro | refine F1 ?_ | refine F2 ?_ | refine F3 (fun h => ?_) fun h => ?_ | refine F4 (fun h => ?_) fun h => ?_ | refine R1 ?_ | refine A1 ?_ | refine A2 ?_ | refine L1 ?_ | refine K1 ?_ | (refine Y2 fun y he he' hy => ?_; (try dsimp only at he he' hy)) | (refine Y1 fun y he hy => ?_; (try with_reducible conv at he => (rhs; whnf)); (try dsimp only at he hy)) | refine Q1 ?_ | fail)); all_goals (conv => whnf))
          all_goals
            try
              refine All'.mk ?_
              rintro (y : Run) hy
              rw [hi1] at hy
              obtain rfl : (pn, pf, pt) = y := Option.some.inj (hp.symm.trans hy)
              clear hy
              ((repeat' ((conv => whnf) <;> first | exact True.intro | refine F1 ?_ | refine F2 ?_ | refine F3 (fun h => ?_) fun h => ?_ | refine F4 (fun h => ?_) fun h => ?_ | refine R1 ?_ | refine A1 ?_ | refine A2 ?_ | refine L1 ?_ | refine K1 ?_ | (refine Y2 fun y he he' hy => ?_; (try dsimp only at he he' hy)) | (refine Y1 fun y he hy => ?_; (try with_reducible conv at he => (rhs; whnf)); (try dsimp only at he hy)) | refine Q1 ?_ | fail)); all_goals (conv => whnf))
  · have hh := right_end hge
    rw [hh] at h2
    ((repeat' ((conv => whnf) <;> first | exact True.intro | refine F1 ?_ | refine F2 ?_ | refine F3 (fun h => ?_) fun h => ?_ | refine F4 (fun h => ?_) fun h => ?_ | refine R1 ?_ | refine A1 ?_ | refine A2 ?_ | refine L1 ?_ | refine K1 ?_ | (refine Y2 fun y he he' hy => ?_; (try dsimp only at he he' hy)) | (refine Y1 fun y he hy => ?_; (try with_reducible conv at he => (rhs; whnf)); (try dsimp only at he hy)) | (refine All'.mk ?_; intro y hy) | refine Q1 ?_ | fail)); all_goals (conv => whnf))
end Go.Proofs.Ytdgemajcplbllaa
