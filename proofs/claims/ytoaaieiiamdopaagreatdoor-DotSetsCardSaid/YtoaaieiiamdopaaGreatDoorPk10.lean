/- Parts of the proof, one behind the other (EyeB, EyeC, DotC, GetA, GetB, GetC, GetD, Rex, FstA, MisB, DckA, ReaA, MeeA, SetB, MisC, Itr). -/
import Derived.Test.YtoaaieiiamdopaaGreatDoorPk9
set_option linter.unusedVariables false
set_option linter.unusedSimpArgs false
set_option maxRecDepth 100000
set_option maxHeartbeats 4000000
namespace Go.Proofs.YtoaaieiiamdopaaGreatDoor
open Go.Eng
variable [DM]
set_option linter.unusedSectionVars false
@[reducible] def cloneFC : Ctr := { cloneBC with res := fun x _ => .ro false (.int .u8) x, out := fun _ _ => [] }
theorem cloneF_ok : cloneFC.ok Tryz.prog 49 := ctr_freeze (C := cloneBC) (fun _ => rfl) (fun _ => rfl) cloneB_ok
/-- An eye's memory: the bytes that are left, the error. -/
@[reducible] def eyeE (j : Nat) (l : List Int) (e : Int) : En := [(j, .cells 73 [.ro false (.int .u8) l, .v (.int .i64 e)])]
@[reducible] def readC : Ctr := {
  X := List Int
  Y := Unit
  args := fun x => [.ro true (.int .u8) x]
  rw := fun _ => []
  side := fun x => x.length ≤ 274877906944
  val := fun _ => ()
  ens := fun _ _ => True
  res := fun _ _ => .ptr 1000 0
  out := fun x _ => eyeE 1000 x 0 }
theorem knownY1 : Known Tryz.prog (gOf [(49, cloneFC)]) := known_cons ⟨cloneF_ok, Tryz.call49⟩ (known_nil _)
theorem read_ok : readC.ok Tryz.prog 13 := by
  refine ok_of_vc (An := fun _ => anOf []) knownY1 mo Tryz.func13 (by kernel_rfl) (by kernel_rfl) (fun _ _ => trivial) (fun (x : List Int) hs => ?_)
  have hs : x.length ≤ 274877906944 := hs
  ((repeat' ((conv => whnf) <;> first | exact True.intro | (guard_target =~ Fork _ _ _; first | refine F1 ?_ | refine F2 ?_ | refine F3 (fun h => ?_) fun h => ?_) | (guard_target =~ Ar _ _ _; first | refine A1 ?_ | refine A2 ?_ | refine A3 ?_) | (guard_target =~ AskL _ _; first | refine L1 ?_) | (guard_target =~ Go.Eng.Ask _ _; first | refine K1 ?_) | (guard_target =~ All' _ _; first | (refine Y2 fun y he he' hy => ?_; (try dsimp only at he he' hy)) | (refine Y1 fun y he hy => ?_; (try with_reducible conv at he => (rhs; whnf)); (try dsimp only at he hy)) | (refine All'.mk ?_; intro y hy)) | refine F4 (fun h => ?_) fun h => ?_ | refine R1 ?_ | refine Q1 ?_ | fail)); all_goals (conv => whnf))
  refine CallP.mk (C := cloneFC) x ?_
  exact G1

structure EyX where
  l : List Int
  e : Int
@[reducible] def errC : Ctr := {
  X := EyX
  Y := Unit
  args := fun x => [.ptr 0 0]
  rw := fun x => eyeE 0 x.l x.e
  side := fun _ => True
  val := fun _ => ()
  ens := fun _ _ => True
  res := fun x _ => .v (.int .i64 x.e)
  out := fun x _ => eyeE 0 x.l x.e }
theorem err_ok : errC.ok Tryz.prog 20 := by
  refine ok_of_vc (An := fun _ => anOf []) (known_nil _) mo Tryz.func20 (by kernel_rfl) (by kernel_rfl) (fun _ _ => trivial) (fun (x : EyX) hs => ?_)
  exact G1
/-- After a fault. -/
def failL (x : EyX) (f : Int) : List Int := if x.e = 0 ∧ f ≠ 0 then [] else x.l
def failE (x : EyX) (f : Int) : Int := if x.e = 0 ∧ f ≠ 0 then f else x.e
@[reducible] def failC : Ctr := {
  X := EyX × Int
  Y := Unit
  args := fun x => [.ptr 0 0, .v (.int .i64 x.2)]
  rw := fun x => eyeE 0 x.1.l x.1.e
  side := fun _ => True
  val := fun _ => ()
  ens := fun _ _ => True
  res := fun x _ => .tuple []
  out := fun x _ => eyeE 0 (failL x.1 x.2) (failE x.1 x.2) }
theorem fail_ok : failC.ok Tryz.prog 51 := by
  refine ok_of_vc (An := fun _ => anOf []) (known_nil _) mo Tryz.func51 (by kernel_rfl) (by kernel_rfl) (fun _ _ => trivial) (fun (x : EyX × Int) hs => ?_)
  obtain ⟨⟨l, e⟩, f⟩ := x
  by_cases h1 : e = 0
  · by_cases h2 : f = 0
    · have k1 : failL ⟨l, e⟩ f = l := if_neg (by simp [h2])
      have k2 : failE ⟨l, e⟩ f = e := if_neg (by simp [h2])
      have lm := And.intro k1 k2
      exact G1
    · have k1 : failL ⟨l, e⟩ f = [] := if_pos ⟨h1, h2⟩
      have k2 : failE ⟨l, e⟩ f = f := if_pos ⟨h1, h2⟩
      have lm := And.intro k1 k2
      exact G1
  · have k1 : failL ⟨l, e⟩ f = l := if_neg (by simp [h1])
    have k2 : failE ⟨l, e⟩ f = e := if_neg (by simp [h1])
    have lm := And.intro k1 k2
    exact G1
@[reducible] def takeC : Ctr := {
  X := EyX × Int
  Y := Unit
  args := fun x => [.ptr 0 0, .v (.int .i64 x.2)]
  rw := fun x => eyeE 0 x.1.l x.1.e
  side := fun x => 0 ≤ x.2 ∧ x.2 ≤ (x.1.l.length : Nat) ∧ x.1.l.length ≤ 274877906944
  val := fun _ => ()
  ens := fun _ _ => True
  res := fun x _ => .ro false (.int .u8) (x.1.l.take x.2.toNat)
  out := fun x _ => eyeE 0 (x.1.l.drop x.2.toNat) x.1.e }
theorem take_ok : takeC.ok Tryz.prog 76 := by
  refine ok_of_vc (An := fun _ => anOf []) (known_nil _) mo Tryz.func76 (by kernel_rfl) (by kernel_rfl) (fun _ _ => trivial) (fun (x : EyX × Int) hs => ?_)
  obtain ⟨⟨l, e⟩, n⟩ := x
  have hs : 0 ≤ n ∧ n ≤ (l.length : Nat) ∧ l.length ≤ 274877906944 := hs
  have h1 : l.take ((l.length : Nat) : Int).toNat = l := by rw [Int.toNat_natCast, List.take_length]
  ((repeat' ((conv => whnf) <;> first | exact True.intro | (guard_target =~ Fork _ _ _; first | refine F1 ?_ | refine F2 ?_ | refine F3 (fun h => ?_) fun h => ?_) | (guard_target =~ Ar _ _ _; first | refine A1 ?_ | refine A2 ?_ | refine A3 ?_) | (guard_target =~ Go.Eng.Ask _ _; first | refine K1 ?_) | (guard_target =~ All' _ _; first | (refine Y2 fun y he he' hy => ?_; (try dsimp only at he he' hy)) | (refine Y1 fun y he hy => ?_; (try with_reducible conv at he => (rhs; whnf)); (try dsimp only at he hy)) | (refine All'.mk ?_; intro y hy)) | refine F4 (fun h => ?_) fun h => ?_ | refine R1 ?_ | refine Q1 ?_ | fail)); all_goals (conv => whnf))
  refine AskL.mk ?_ trivial
  dsimp only [conj]
  rw [h1]
  exact ⟨⟨rfl, rfl⟩, rfl⟩

def numF (l : List Int) (m : Int) : Int := if (numS l).2.2 = 0 ∧ m < (numS l).1 then 12 else (numS l).2.2
/-- What Number answers, and what is left. -/
def eyS (x : EyX) (m : Int) : Int × EyX := if x.e = 0 then (if numF x.l m = 0 then ((numS x.l).1, ⟨x.l.drop (numS x.l).2.1.toNat, 0⟩) else (0, ⟨[], numF x.l m⟩)) else (0, x)
@[reducible] def eyNumC : Ctr := {
  X := EyX × Int
  Y := Unit
  args := fun x => [.ptr 0 0, .v (.int .u64 x.2)]
  rw := fun x => eyeE 0 x.1.l x.1.e
  side := fun x => okY x.1.l ∧ x.1.l.length ≤ 274877906944
  val := fun _ => ()
  ens := fun _ _ => True
  res := fun x _ => .v (.int .u64 (eyS x.1 x.2).1)
  out := fun x _ => eyeE 0 (eyS x.1 x.2).2.l (eyS x.1 x.2).2.e }
theorem knownY2 : Known Tryz.prog (gOf [(75, numberC), (51, failC), (76, takeC)]) :=
  known_cons ⟨number_ok, Tryz.call75⟩ (known_cons ⟨fail_ok, Tryz.call51⟩ (known_cons ⟨take_ok, Tryz.call76⟩ (known_nil _)))
theorem eyNum_ok : eyNumC.ok Tryz.prog 50 := by
  refine ok_of_vc (An := fun _ => anOf []) knownY2 mo Tryz.func50 (by kernel_rfl) (by kernel_rfl) (fun _ _ => trivial) (fun (x : EyX × Int) hs => ?_)
  obtain ⟨⟨l, e⟩, m⟩ := x
  obtain ⟨hl, hlen⟩ := hs
  have hl : okY l := hl
  have hlen : l.length ≤ 274877906944 := hlen
  by_cases h1 : e = 0
  · subst h1
    have hok : okY l ∧ l.length ≤ 9223372036854775807 := ⟨hl, by omega⟩
    have hrg : (numS l).2.2 = 0 → 1 ≤ (numS l).2.1 ∧ (numS l).2.1 ≤ l.length ∧ 0 ≤ (numS l).1 ∧ (numS l).1 < 18446744073709551616 := numS_rng hl
    by_cases h2 : (numS l).2.2 = 0
    · have hrg := hrg h2
      by_cases h3 : m < (numS l).1
      · have k0 : numF l m = 12 := if_pos ⟨h2, h3⟩
        have k1 : eyS ⟨l, 0⟩ m = (0, ⟨[], 12⟩) := by unfold eyS; rw [if_pos rfl, if_neg (by rw [k0]; decide), k0]
        have k2 : failL ⟨l, 0⟩ 12 = [] := if_pos ⟨rfl, by decide⟩
        have k3 : failE ⟨l, 0⟩ 12 = 12 := if_pos ⟨rfl, by decide⟩
        have lm := And.intro k1 (And.intro k2 k3)
        ((repeat' ((conv => whnf) <;> first | exact True.intro | (guard_target =~ Fork _ _ _; first | refine F1 ?_ | refine F2 ?_ | refine F3 (fun h => ?_) fun h => ?_) | (guard_target =~ Ar _ _ _; first | refine A1 ?_ | refine A2 ?_ | refine A3 ?_) | (guard_target =~ AskL _ _; first | refine L1 ?_) | (guard_target =~ Go.Eng.Ask _ _; first | refine K1 ?_) | (guard_target =~ All' _ _; first | (refine Y2 fun y he he' hy => ?_; (try dsimp only at he he' hy)) | (refine Y1 fun y he hy => ?_; (try with_reducible conv at he => (rhs; whnf)); (try dsimp only at he hy)) | (refine All'.mk ?_; intro y hy)) | refine F4 (fun h => ?_) fun h => ?_ | refine R1 ?_ | refine Q1 ?_ | fail)); all_goals (conv => whnf))
        refine CallP.mk (C := numberC) l ?_
        ((repeat' ((conv => whnf) <;> first | exact True.intro | (guard_target =~ Fork _ _ _; first | refine F1 ?_ | refine F2 ?_ | refine F3 (fun h => ?_) fun h => ?_) | (guard_target =~ Ar _ _ _; first | refine A1 ?_ | refine A2 ?_ | refine A3 ?_) | (guard_target =~ AskL _ _; first | refine L1 ?_) | (guard_target =~ Go.Eng.Ask _ _; first | refine K1 ?_) | (guard_target =~ All' _ _; first | (refine Y2 fun y he he' hy => ?_; (try dsimp only at he he' hy)) | (refine Y1 fun y he hy => ?_; (try with_reducible conv at he => (rhs; whnf)); (try dsimp only at he hy)) | (refine All'.mk ?_; intro y hy)) | refine F4 (fun h => ?_) fun h => ?_ | refine R1 ?_ | refine Q1 ?_ | fail)); all_goals (conv => whnf))
        refine CallP.mk (C := failC) (⟨l, 0⟩, 12) ?_
        exact G1
      · have k0 : numF l m = 0 := by unfold numF; rw [if_neg (by omega), h2]
        have k1 : eyS ⟨l, 0⟩ m = ((numS l).1, ⟨l.drop (numS l).2.1.toNat, 0⟩) := by unfold eyS; rw [if_pos rfl, if_pos k0]
        have lm := k1
        ((repeat' ((conv => whnf) <;> first | exact True.intro | (guard_target =~ Fork _ _ _; first | refine F1 ?_ | refine F2 ?_ | refine F3 (fun h => ?_) fun h => ?_) | (guard_target =~ Ar _ _ _; first | refine A1 ?_ | refine A2 ?_ | refine A3 ?_) | (guard_target =~ AskL _ _; first | refine L1 ?_) | (guard_target =~ Go.Eng.Ask _ _; first | refine K1 ?_) | (guard_target =~ All' _ _; first | (refine Y2 fun y he he' hy => ?_; (try dsimp only at he he' hy)) | (refine Y1 fun y he hy => ?_; (try with_reducible conv at he => (rhs; whnf)); (try dsimp only at he hy)) | (refine All'.mk ?_; intro y hy)) | refine F4 (fun h => ?_) fun h => ?_ | refine R1 ?_ | refine Q1 ?_ | fail)); all_goals (conv => whnf))
        refine CallP.mk (C := numberC) l ?_
        ((repeat' ((conv => whnf) <;> first | exact True.intro | (guard_target =~ Fork _ _ _; first | refine F1 ?_ | refine F2 ?_ | refine F3 (fun h => ?_) fun h => ?_) | (guard_target =~ Ar _ _ _; first | refine A1 ?_ | refine A2 ?_ | refine A3 ?_) | (guard_target =~ AskL _ _; first | refine L1 ?_) | (guard_target =~ Go.Eng.Ask _ _; first | refine K1 ?_) | (guard_target =~ All' _ _; first | (refine Y2 fun y he he' hy => ?_; (try dsimp only at he he' hy)) | (refine Y1 fun y he hy => ?_; (try with_reducible conv at he => (rhs; whnf)); (try dsimp only at he hy)) | (refine All'.mk ?_; intro y hy)) | refine F4 (fun h => ?_) fun h => ?_ | refine R1 ?_ | refine Q1 ?_ | fail)); all_goals (conv => whnf))
        have ht : 0 ≤ (numS l).2.1 ∧ (numS l).2.1 ≤ (l.length : Nat) ∧ l.length ≤ 274877906944 := ⟨by omega, hrg.2.1, hlen⟩
        refine CallP.mk (C := takeC) (⟨l, 0⟩, (numS l).2.1) ?_
        exact G1
    · have k0 : numF l m = (numS l).2.2 := by unfold numF; rw [if_neg (by omega)]
      have k1 : eyS ⟨l, 0⟩ m = (0, ⟨[], (numS l).2.2⟩) := by unfold eyS; rw [if_pos rfl, if_neg (by rw [k0]; exact h2), k0]
      have k2 : failL ⟨l, 0⟩ (numS l).2.2 = [] := if_pos ⟨rfl, h2⟩
      have k3 : failE ⟨l, 0⟩ (numS l).2.2 = (numS l).2.2 := if_pos ⟨rfl, h2⟩
      have lm := And.intro k1 (And.intro k2 k3)
      ((repeat' ((conv => whnf) <;> first | exact True.intro | (guard_target =~ Fork _ _ _; first | refine F1 ?_ | refine F2 ?_ | refine F3 (fun h => ?_) fun h => ?_) | (guard_target =~ Ar _ _ _; first | refine A1 ?_ | refine A2 ?_ | refine A3 ?_) | (guard_target =~ AskL _ _; first | refine L1 ?_) | (guard_target =~ Go.Eng.Ask _ _; first | refine K1 ?_) | (guard_target =~ All' _ _; first | (refine Y2 fun y he he' hy => ?_; (try dsimp only at he he' hy)) | (refine Y1 fun y he hy => ?_; (try with_reducible conv at he => (rhs; whnf)); (try dsimp only at he hy)) | (refine All'.mk ?_; intro y hy)) | refine F4 (fun h => ?_) fun h => ?_ | refine R1 ?_ | refine Q1 ?_ | fail)); all_goals (conv => whnf))
      refine CallP.mk (C := numberC) l ?_
      ((repeat' ((conv => whnf) <;> first | exact True.intro | (guard_target =~ Fork _ _ _; first | refine F1 ?_ | refine F2 ?_ | refine F3 (fun h => ?_) fun h => ?_) | (guard_target =~ Ar _ _ _; first | refine A1 ?_ | refine A2 ?_ | refine A3 ?_) | (guard_target =~ AskL _ _; first | refine L1 ?_) | (guard_target =~ Go.Eng.Ask _ _; first | refine K1 ?_) | (guard_target =~ All' _ _; first | (refine Y2 fun y he he' hy => ?_; (try dsimp only at he he' hy)) | (refine Y1 fun y he hy => ?_; (try with_reducible conv at he => (rhs; whnf)); (try dsimp only at he hy)) | (refine All'.mk ?_; intro y hy)) | refine F4 (fun h => ?_) fun h => ?_ | refine R1 ?_ | refine Q1 ?_ | fail)); all_goals (conv => whnf))
      refine CallP.mk (C := failC) (⟨l, 0⟩, (numS l).2.2) ?_
      exact G1
  · have k1 : eyS ⟨l, e⟩ m = (0, ⟨l, e⟩) := if_neg h1
    have lm := k1
    exact G1
end Go.Proofs.YtoaaieiiamdopaaGreatDoor

set_option linter.unusedVariables false
set_option linter.unusedSimpArgs false
set_option maxRecDepth 100000
set_option maxHeartbeats 4000000
namespace Go.Proofs.YtoaaieiiamdopaaGreatDoor
open Go.Eng
theorem beL_ok : ∀ u : Nat, okB (beL u) := fun u => by
  induction u using Nat.strongRecOn with
  | _ u ih =>
    rcases Nat.eq_zero_or_pos u with rfl | hp
    · rw [beL_zero]; intro c hc; cases hc
    · rw [beL_pos hp]
      refine okB_app (ih (u / 256) (by omega)) (fun c hc => ?_)
      rcases List.mem_singleton.1 hc with rfl; omega
theorem numL_okB (u : Nat) (h : u < 18446744073709551616) : okB (numL u) := by
  unfold numL
  split
  · intro c hc; rcases List.mem_singleton.1 hc with rfl; omega
  · have := beL_lt 8 u (by omega)
    exact okB_cons (by omega) (beL_ok u)
end Go.Proofs.YtoaaieiiamdopaaGreatDoor

set_option linter.unusedVariables false
set_option linter.unusedSimpArgs false
set_option maxRecDepth 100000
namespace Go.Proofs.YtoaaieiiamdopaaGreatDoor
open Go.Eng
variable [DM]
set_option linter.unusedSectionVars false
theorem right_all : ∀ {c : List Run} {p : Option Run}, rightFrom p c = true → ∀ {i : Nat} {r : Run}, c[i]? = some r → runP r
  | [], _, _, _, _, h => by simp at h
  | x :: l, p, hr, 0, r, h => by
    simp only [rightFrom, Bool.and_eq_true] at hr
    obtain rfl : x = r := by simpa using h
    exact of_decide_eq_true hr.1.1
  | x :: l, p, hr, i + 1, r, h => by
    simp only [rightFrom, Bool.and_eq_true] at hr
    exact right_all hr.2 (i := i) (by simpa using h)

/-- A run's bytes. -/
def runBy (r : Run) : List Int := numL r.1.toNat ++ (numL r.2.1.toNat ++ numL (r.2.2 - r.2.1).toNat)
def runsBy : List Run → List Int
  | [] => []
  | r :: l => runBy r ++ runsBy l
def clockBy (c : List Run) : List Int := numL c.length ++ runsBy c
theorem runsBy_app : ∀ (a b : List Run), runsBy (a ++ b) = runsBy a ++ runsBy b
  | [], _ => rfl
  | r :: a, b => by simp only [List.cons_append, runsBy, runsBy_app a b, List.append_assoc]
theorem runsBy_step {c : List Run} {i : Nat} {r : Run} (h : c[i]? = some r) : runsBy (c.take (i + 1)) = runsBy (c.take i) ++ runBy r := by
  rw [List.take_add_one, h, runsBy_app]
  show runsBy _ ++ (runBy r ++ []) = _
  rw [List.append_nil]
theorem runBy_le {r : Run} (h : runP r) : (runBy r).length ≤ 27 := by
  have h1 := numL_le (u := r.1.toNat) (by omega)
  have h2 := numL_le (u := r.2.1.toNat) (by omega)
  have h3 := numL_le (u := (r.2.2 - r.2.1).toNat) (by omega)
  simp only [runBy, List.length_append]; omega
theorem runsBy_le {c : List Run} (h : rightB c = true) : ∀ i, i ≤ c.length → (runsBy (c.take i)).length ≤ 27 * i
  | 0, _ => by simp [runsBy]
  | i + 1, hi => by
    obtain ⟨r, hr⟩ := get_ex (show i < c.length by omega)
    have h1 := runsBy_le h i (by omega)
    have h2 := runBy_le (right_all h hr)
    rw [runsBy_step hr, List.length_append]; omega
theorem clockBy_le {c : List Run} (h : rightB c = true) (hl : c.length ≤ 1024) : (clockBy c).length ≤ 27657 := by
  have h1 := runsBy_le h c.length (Nat.le_refl _)
  rw [List.take_length] at h1
  have h2 := numL_le (u := c.length) (by omega)
  simp only [clockBy, List.length_append]; omega

structure PutX where
  bs : List Int
  c : List Run
@[reducible] def dputC : Ctr := {
  X := PutX
  Y := Unit
  args := fun x => [.ptr 0 0, .ro true runT x.c]
  rw := fun x => penE 0 x.bs 1
  side := fun x => rightB x.c = true ∧ x.c.length ≤ 1024 ∧ x.bs.length ≤ 100000000000
  val := fun _ => ()
  ens := fun _ _ => True
  res := fun x y => .v (.bool true)
  out := fun x _ => penE 0 (x.bs ++ clockBy x.c) 1000 }
@[reducible] def dputL (x : PutX) : LA := {
  X := Nat
  pre := fun i => i ≤ x.c.length
  mu := fun i => x.c.length - i
  T := fun i => [(0, .ptr 0 0), (20, .ro true runT x.c), (21, .v (.int .i64 x.c.length)), (22, .v (.int .i64 i))]
  M := fun i => penE 0 (x.bs ++ numL x.c.length ++ runsBy (x.c.take i)) 2 }
theorem knownD3 : Known Tryz.prog (gOf [(24, drightC), (47, numC)]) := known_cons ⟨dright_ok, Tryz.call24⟩ (known_cons ⟨num_ok, Tryz.call47⟩ (known_nil _))
theorem natOf {n : Int} (h : 0 ≤ n) : ∃ k : Nat, n = (k : Int) := ⟨n.toNat, by omega⟩
theorem dput_ok : dputC.ok Tryz.prog 10 := by
  refine ok_of_vc (An := fun (x : PutX) => anOf [(0, .loop (dputL x))]) knownD3 mo Tryz.func10 (by kernel_rfl) (by kernel_rfl) (fun _ _ => trivial) (fun x hs => ?_)
  obtain ⟨bs, c⟩ := x
  have hs : rightB c = true ∧ c.length ≤ 1024 ∧ bs.length ≤ 100000000000 := hs
  obtain ⟨hb, hl, hbl⟩ := hs
  have hw : IntKind.u64.wrap ((c.length : Nat) : Int) = ((c.length : Nat) : Int) := wrap_u64 (by omega) (by omega)
  have hn := numL_le (u := c.length) (by omega)
  ((repeat' ((conv => whnf) <;> first | exact True.intro | (guard_target =~ Fork _ _ _; first | refine F1 ?_ | refine F2 ?_ | refine F3 (fun h => ?_) fun h => ?_) | (guard_target =~ Ar _ _ _; first | refine A1 ?_ | refine A2 ?_ | refine A3 ?_) | (guard_target =~ AskL _ _; first | refine L1 ?_) | (guard_target =~ Go.Eng.Ask _ _; first | refine K1 ?_) | (guard_target =~ All' _ _; first | (refine Y2 fun y he he' hy => ?_; (try dsimp only at he he' hy)) | (refine Y1 fun y he hy => ?_; (try with_reducible conv at he => (rhs; whnf)); (try dsimp only at he hy)) | (refine All'.mk ?_; intro y hy)) | refine F4 (fun h => ?_) fun h => ?_ | refine R1 ?_ | refine Q1 ?_ | fail)); all_goals (conv => whnf))
  refine CallP.mk (C := drightC) c ?_
  ((repeat' ((conv => whnf) <;> first | exact True.intro | (guard_target =~ Fork _ _ _; first | refine F1 ?_ | refine F2 ?_ | refine F3 (fun h => ?_) fun h => ?_) | (guard_target =~ Ar _ _ _; first | refine A1 ?_ | refine A2 ?_ | refine A3 ?_) | (guard_target =~ AskL _ _; first | refine L1 ?_) | (guard_target =~ Go.Eng.Ask _ _; first | refine K1 ?_) | (guard_target =~ All' _ _; first | (refine Y2 fun y he he' hy => ?_; (try dsimp only at he he' hy)) | (refine Y1 fun y he hy => ?_; (try with_reducible conv at he => (rhs; whnf)); (try dsimp only at he hy)) | (refine All'.mk ?_; intro y hy)) | refine F4 (fun h => ?_) fun h => ?_ | refine R1 ?_ | refine Q1 ?_ | fail)); all_goals (conv => whnf))
  clear he
  refine CallP.mk (C := numC) ⟨bs, c.length⟩ ?_
  ((repeat' ((conv => whnf) <;> first | exact True.intro | (guard_target =~ Fork _ _ _; first | refine F1 ?_ | refine F2 ?_ | refine F3 (fun h => ?_) fun h => ?_) | (guard_target =~ Ar _ _ _; first | refine A1 ?_ | refine A2 ?_ | refine A3 ?_) | (guard_target =~ AskL _ _; first | refine L1 ?_) | (guard_target =~ Go.Eng.Ask _ _; first | refine K1 ?_) | (guard_target =~ All' _ _; first | (refine Y2 fun y he he' hy => ?_; (try dsimp only at he he' hy)) | (refine Y1 fun y he hy => ?_; (try with_reducible conv at he => (rhs; whnf)); (try dsimp only at he hy)) | (refine All'.mk ?_; intro y hy)) | refine F4 (fun h => ?_) fun h => ?_ | refine R1 ?_ | refine Q1 ?_ | fail)); all_goals (conv => whnf))
  refine Some'.mk 0 ?_
  have hz : bs ++ numL c.length ++ runsBy (c.take 0) = bs ++ numL c.length := by simp [runsBy]
  have lm := hz
  ((repeat' ((conv => whnf) <;> first | exact True.intro | (guard_target =~ Fork _ _ _; first | refine F1 ?_ | refine F2 ?_ | refine F3 (fun h => ?_) fun h => ?_) | (guard_target =~ Ar _ _ _; first | refine A1 ?_ | refine A2 ?_ | refine A3 ?_) | (guard_target =~ AskL _ _; first | refine L1 ?_) | (guard_target =~ Go.Eng.Ask _ _; first | refine K1 ?_) | (guard_target =~ All' _ _; first | (refine Y2 fun y he he' hy => ?_; (try dsimp only at he he' hy)) | (refine Y1 fun y he hy => ?_; (try with_reducible conv at he => (rhs; whnf)); (try dsimp only at he hy)) | (refine All'.mk ?_; intro y hy)) | refine F4 (fun h => ?_) fun h => ?_ | refine R1 ?_ | refine Q1 ?_ | fail)); all_goals (conv => whnf))
  refine AllI.mk ?_
  rintro (i : Nat) h1
  dsimp only at h1
  clear hz he
  rcases Nat.lt_or_ge i c.length with hlt | hge
  · obtain ⟨⟨m, f, t⟩, hr⟩ := get_ex hlt
    have hrl := runsBy_le hb i (by omega)
    have hst := runsBy_step hr
    obtain ⟨k1, k2, k3, k4, k5⟩ : 0 ≤ m ∧ m ≤ 7 ∧ 1 ≤ f ∧ f ≤ t ∧ t ≤ 1099511627776 := right_all hb hr
    obtain ⟨m, rfl⟩ := natOf k1
    obtain ⟨f, rfl⟩ := natOf (n := f) (by omega)
    obtain ⟨d, hd⟩ := natOf (n := t - f) (by omega)
    have hw1 : IntKind.u64.wrap ((m : Nat) : Int) = ((m : Nat) : Int) := wrap_u64 (by omega) (by omega)
    have hw2 : IntKind.u64.wrap ((f : Nat) : Int) = ((f : Nat) : Int) := wrap_u64 (by omega) (by omega)
    have hw3 : IntKind.u64.wrap (t - ((f : Nat) : Int)) = ((d : Nat) : Int) := by rw [hd, wrap_u64 (by omega) (by omega)]
    have hby : runBy (((m : Nat) : Int), ((f : Nat) : Int), t) = numL m ++ (numL f ++ numL d) := by
      show numL _ ++ (numL _ ++ numL (t - ((f : Nat) : Int)).toNat) = _
      rw [hd]; rfl
    have hn1 := numL_le (u := m) (by omega)
    have hn2 := numL_le (u := f) (by omega)
    have hn3 := numL_le (u := d) (by omega)
    rw [hby] at hst
    clear hby
    generalize hq : runsBy (c.take i) = q at hst hrl
    ((repeat' ((conv => whnf) <;> first | exact True.intro | (guard_target =~ Fork _ _ _; first | refine F1 ?_ | refine F2 ?_ | (refine Fork.pos ?_ ?_; · (simp only [List.length_append, hq, Bool.not_true, Bool.not_false, decide_eq_true_eq, beq_iff_eq, bne_iff_ne, ne_eq] <;> omega)) | (refine Fork.neg ?_ ?_; · (simp only [List.length_append, hq, Bool.not_true, Bool.not_false, decide_eq_false_iff_not, beq_eq_false_iff_ne] <;> omega)) | refine F3 (fun h => ?_) fun h => ?_) | (guard_target =~ Ar _ _ _; first | refine A1 ?_ | refine A2 ?_ | refine A3 ?_ | (refine Ar.fit (wrap_i64 ?_ ?_) ?_; · ((try dsimp only) <;> simp only [List.length_append, hq] <;> omega); · ((try dsimp only) <;> simp only [List.length_append, hq] <;> omega)) | (refine Ar.fit (wrap_u64 ?_ ?_) ?_; · ((try dsimp only) <;> simp only [List.length_append, hq] <;> omega); · ((try dsimp only) <;> simp only [List.length_append, hq] <;> omega))) | (guard_target =~ AskL _ _; first | (refine AskL.mk ?_ ?_; · ((simp only [conj]; repeat' apply And.intro) <;> first | rfl | trivial | omega | (simp only [List.length_append, hq]; done) | (simp only [List.length_append, hq] <;> omega) | (simp only [List.length_append, hq]; refine Bool.eq_iff_iff.2 ?_; simp only [decide_eq_true_eq, Bool.false_eq_true, true_iff, iff_true, false_iff, iff_false, eq_self]; omega) | (simp only [*, List.length_append, hq]; done))) | refine L1 ?_) | (guard_target =~ Go.Eng.Ask _ _; first | refine K1 ?_ | (refine Ask.mk ?_ ?_; · ((try dsimp only) <;> simp only [List.length_append, hq] <;> omega))) | (guard_target =~ All' _ _; first | (refine Y2 fun y he he' hy => ?_; (try dsimp only at he he' hy)) | (refine Y1 fun y he hy => ?_; (try with_reducible conv at he => (rhs; whnf)); (try dsimp only at he hy))) | refine F4 (fun h => ?_) fun h => ?_ | refine R1 ?_ | refine Q1 ?_ | fail)); all_goals (conv => whnf))
    refine All'.mk ?_
    rintro (y : Run) hy
    obtain rfl : (((m : Nat) : Int), ((f : Nat) : Int), t) = y := Option.some.inj (hr.symm.trans hy)
    clear hy
    ((repeat' ((conv => whnf) <;> first | exact True.intro | (guard_target =~ Fork _ _ _; first | refine F1 ?_ | refine F2 ?_ | (refine Fork.pos ?_ ?_; · (simp only [List.length_append, hq, Bool.not_true, Bool.not_false, decide_eq_true_eq, beq_iff_eq, bne_iff_ne, ne_eq] <;> omega)) | (refine Fork.neg ?_ ?_; · (simp only [List.length_append, hq, Bool.not_true, Bool.not_false, decide_eq_false_iff_not, beq_eq_false_iff_ne] <;> omega)) | refine F3 (fun h => ?_) fun h => ?_) | (guard_target =~ Ar _ _ _; first | refine A1 ?_ | refine A2 ?_ | refine A3 ?_ | (refine Ar.fit (wrap_i64 ?_ ?_) ?_; · ((try dsimp only) <;> simp only [List.length_append, hq] <;> omega); · ((try dsimp only) <;> simp only [List.length_append, hq] <;> omega)) | (refine Ar.fit (wrap_u64 ?_ ?_) ?_; · ((try dsimp only) <;> simp only [List.length_append, hq] <;> omega); · ((try dsimp only) <;> simp only [List.length_append, hq] <;> omega))) | (guard_target =~ AskL _ _; first | (refine AskL.mk ?_ ?_; · ((simp only [conj]; repeat' apply And.intro) <;> first | rfl | trivial | omega | (simp only [List.length_append, hq]; done) | (simp only [List.length_append, hq] <;> omega) | (simp only [List.length_append, hq]; refine Bool.eq_iff_iff.2 ?_; simp only [decide_eq_true_eq, Bool.false_eq_true, true_iff, iff_true, false_iff, iff_false, eq_self]; omega) | (simp only [*, List.length_append, hq]; done))) | refine L1 ?_) | (guard_target =~ Go.Eng.Ask _ _; first | refine K1 ?_ | (refine Ask.mk ?_ ?_; · ((try dsimp only) <;> simp only [List.length_append, hq] <;> omega))) | (guard_target =~ All' _ _; first | (refine Y2 fun y he he' hy => ?_; (try dsimp only at he he' hy)) | (refine Y1 fun y he hy => ?_; (try with_reducible conv at he => (rhs; whnf)); (try dsimp only at he hy))) | refine F4 (fun h => ?_) fun h => ?_ | refine R1 ?_ | refine Q1 ?_ | fail)); all_goals (conv => whnf))
    refine CallP.mk (C := numC) ⟨bs ++ numL c.length ++ q, m⟩ ?_
    ((repeat' ((conv => whnf) <;> first | exact True.intro | (guard_target =~ Fork _ _ _; first | refine F1 ?_ | refine F2 ?_ | (refine Fork.pos ?_ ?_; · (simp only [List.length_append, hq, Bool.not_true, Bool.not_false, decide_eq_true_eq, beq_iff_eq, bne_iff_ne, ne_eq] <;> omega)) | (refine Fork.neg ?_ ?_; · (simp only [List.length_append, hq, Bool.not_true, Bool.not_false, decide_eq_false_iff_not, beq_eq_false_iff_ne] <;> omega)) | refine F3 (fun h => ?_) fun h => ?_) | (guard_target =~ Ar _ _ _; first | refine A1 ?_ | refine A2 ?_ | refine A3 ?_ | (refine Ar.fit (wrap_i64 ?_ ?_) ?_; · ((try dsimp only) <;> simp only [List.length_append, hq] <;> omega); · ((try dsimp only) <;> simp only [List.length_append, hq] <;> omega)) | (refine Ar.fit (wrap_u64 ?_ ?_) ?_; · ((try dsimp only) <;> simp only [List.length_append, hq] <;> omega); · ((try dsimp only) <;> simp only [List.length_append, hq] <;> omega))) | (guard_target =~ AskL _ _; first | (refine AskL.mk ?_ ?_; · ((simp only [conj]; repeat' apply And.intro) <;> first | rfl | trivial | omega | (simp only [List.length_append, hq]; done) | (simp only [List.length_append, hq] <;> omega) | (simp only [List.length_append, hq]; refine Bool.eq_iff_iff.2 ?_; simp only [decide_eq_true_eq, Bool.false_eq_true, true_iff, iff_true, false_iff, iff_false, eq_self]; omega) | (simp only [*, List.length_append, hq]; done))) | refine L1 ?_) | (guard_target =~ Go.Eng.Ask _ _; first | refine K1 ?_ | (refine Ask.mk ?_ ?_; · ((try dsimp only) <;> simp only [List.length_append, hq] <;> omega))) | (guard_target =~ All' _ _; first | (refine Y2 fun y he he' hy => ?_; (try dsimp only at he he' hy)) | (refine Y1 fun y he hy => ?_; (try with_reducible conv at he => (rhs; whnf)); (try dsimp only at he hy)) | (refine All'.mk ?_; intro y hy)) | refine F4 (fun h => ?_) fun h => ?_ | refine R1 ?_ | refine Q1 ?_ | fail)); all_goals (conv => whnf))
    clear he
    refine CallP.mk (C := numC) ⟨bs ++ numL c.length ++ q ++ numL m, f⟩ ?_
    ((repeat' ((conv => whnf) <;> first | exact True.intro | (guard_target =~ Fork _ _ _; first | refine F1 ?_ | refine F2 ?_ | (refine Fork.pos ?_ ?_; · (simp only [List.length_append, hq, Bool.not_true, Bool.not_false, decide_eq_true_eq, beq_iff_eq, bne_iff_ne, ne_eq] <;> omega)) | (refine Fork.neg ?_ ?_; · (simp only [List.length_append, hq, Bool.not_true, Bool.not_false, decide_eq_false_iff_not, beq_eq_false_iff_ne] <;> omega)) | refine F3 (fun h => ?_) fun h => ?_) | (guard_target =~ Ar _ _ _; first | refine A1 ?_ | refine A2 ?_ | refine A3 ?_ | (refine Ar.fit (wrap_i64 ?_ ?_) ?_; · ((try dsimp only) <;> simp only [List.length_append, hq] <;> omega); · ((try dsimp only) <;> simp only [List.length_append, hq] <;> omega)) | (refine Ar.fit (wrap_u64 ?_ ?_) ?_; · ((try dsimp only) <;> simp only [List.length_append, hq] <;> omega); · ((try dsimp only) <;> simp only [List.length_append, hq] <;> omega))) | (guard_target =~ AskL _ _; first | (refine AskL.mk ?_ ?_; · ((simp only [conj]; repeat' apply And.intro) <;> first | rfl | trivial | omega | (simp only [List.length_append, hq]; done) | (simp only [List.length_append, hq] <;> omega) | (simp only [List.length_append, hq]; refine Bool.eq_iff_iff.2 ?_; simp only [decide_eq_true_eq, Bool.false_eq_true, true_iff, iff_true, false_iff, iff_false, eq_self]; omega) | (simp only [*, List.length_append, hq]; done))) | refine L1 ?_) | (guard_target =~ Go.Eng.Ask _ _; first | refine K1 ?_ | (refine Ask.mk ?_ ?_; · ((try dsimp only) <;> simp only [List.length_append, hq] <;> omega))) | (guard_target =~ All' _ _; first | (refine Y2 fun y he he' hy => ?_; (try dsimp only at he he' hy)) | (refine Y1 fun y he hy => ?_; (try with_reducible conv at he => (rhs; whnf)); (try dsimp only at he hy)) | (refine All'.mk ?_; intro y hy)) | refine F4 (fun h => ?_) fun h => ?_ | refine R1 ?_ | refine Q1 ?_ | fail)); all_goals (conv => whnf))
    clear he
    refine CallP.mk (C := numC) ⟨bs ++ numL c.length ++ q ++ numL m ++ numL f, d⟩ ?_
    ((repeat' ((conv => whnf) <;> first | exact True.intro | (guard_target =~ Fork _ _ _; first | refine F1 ?_ | refine F2 ?_ | (refine Fork.pos ?_ ?_; · (simp only [List.length_append, hq, Bool.not_true, Bool.not_false, decide_eq_true_eq, beq_iff_eq, bne_iff_ne, ne_eq] <;> omega)) | (refine Fork.neg ?_ ?_; · (simp only [List.length_append, hq, Bool.not_true, Bool.not_false, decide_eq_false_iff_not, beq_eq_false_iff_ne] <;> omega)) | refine F3 (fun h => ?_) fun h => ?_) | (guard_target =~ Ar _ _ _; first | refine A1 ?_ | refine A2 ?_ | refine A3 ?_ | (refine Ar.fit (wrap_i64 ?_ ?_) ?_; · ((try dsimp only) <;> simp only [List.length_append, hq] <;> omega); · ((try dsimp only) <;> simp only [List.length_append, hq] <;> omega)) | (refine Ar.fit (wrap_u64 ?_ ?_) ?_; · ((try dsimp only) <;> simp only [List.length_append, hq] <;> omega); · ((try dsimp only) <;> simp only [List.length_append, hq] <;> omega))) | (guard_target =~ AskL _ _; first | (refine AskL.mk ?_ ?_; · ((simp only [conj]; repeat' apply And.intro) <;> first | rfl | trivial | omega | (simp only [List.length_append, hq]; done) | (simp only [List.length_append, hq] <;> omega) | (simp only [List.length_append, hq]; refine Bool.eq_iff_iff.2 ?_; simp only [decide_eq_true_eq, Bool.false_eq_true, true_iff, iff_true, false_iff, iff_false, eq_self]; omega) | (simp only [*, List.length_append, hq]; done))) | refine L1 ?_) | (guard_target =~ Go.Eng.Ask _ _; first | refine K1 ?_ | (refine Ask.mk ?_ ?_; · ((try dsimp only) <;> simp only [List.length_append, hq] <;> omega))) | (guard_target =~ All' _ _; first | (refine Y2 fun y he he' hy => ?_; (try dsimp only at he he' hy)) | (refine Y1 fun y he hy => ?_; (try with_reducible conv at he => (rhs; whnf)); (try dsimp only at he hy)) | (refine All'.mk ?_; intro y hy)) | refine F4 (fun h => ?_) fun h => ?_ | refine R1 ?_ | refine Q1 ?_ | fail)); all_goals (conv => whnf))
    clear he
    refine Some'.mk (i + 1) ?_
    ((repeat' ((conv => whnf) <;> first | exact True.intro | (guard_target =~ Fork _ _ _; first | refine F1 ?_ | refine F2 ?_ | (refine Fork.pos ?_ ?_; · (simp only [hst, List.append_assoc, Bool.not_true, Bool.not_false, decide_eq_true_eq, beq_iff_eq, bne_iff_ne, ne_eq] <;> omega)) | (refine Fork.neg ?_ ?_; · (simp only [hst, List.append_assoc, Bool.not_true, Bool.not_false, decide_eq_false_iff_not, beq_eq_false_iff_ne] <;> omega)) | refine F3 (fun h => ?_) fun h => ?_) | (guard_target =~ Ar _ _ _; first | refine A1 ?_ | refine A2 ?_ | refine A3 ?_ | (refine Ar.fit (wrap_i64 ?_ ?_) ?_; · ((try dsimp only) <;> simp only [hst, List.append_assoc] <;> omega); · ((try dsimp only) <;> simp only [hst, List.append_assoc] <;> omega)) | (refine Ar.fit (wrap_u64 ?_ ?_) ?_; · ((try dsimp only) <;> simp only [hst, List.append_assoc] <;> omega); · ((try dsimp only) <;> simp only [hst, List.append_assoc] <;> omega))) | (guard_target =~ AskL _ _; first | (refine AskL.mk ?_ ?_; · ((simp only [conj]; repeat' apply And.intro) <;> first | rfl | trivial | omega | (simp only [hst, List.append_assoc]; done) | (simp only [hst, List.append_assoc] <;> omega) | (simp only [hst, List.append_assoc]; refine Bool.eq_iff_iff.2 ?_; simp only [decide_eq_true_eq, Bool.false_eq_true, true_iff, iff_true, false_iff, iff_false, eq_self]; omega) | (simp only [*, hst, List.append_assoc]; done))) | refine L1 ?_) | (guard_target =~ Go.Eng.Ask _ _; first | refine K1 ?_ | (refine Ask.mk ?_ ?_; · ((try dsimp only) <;> simp only [hst, List.append_assoc] <;> omega))) | (guard_target =~ All' _ _; first | (refine Y2 fun y he he' hy => ?_; (try dsimp only at he he' hy)) | (refine Y1 fun y he hy => ?_; (try with_reducible conv at he => (rhs; whnf)); (try dsimp only at he hy)) | (refine All'.mk ?_; intro y hy)) | refine F4 (fun h => ?_) fun h => ?_ | refine R1 ?_ | refine Q1 ?_ | fail)); all_goals (conv => whnf))
  · have hh : c.take i = c := List.take_of_length_le hge
    have hcb : bs ++ numL c.length ++ runsBy (c.take i) = bs ++ clockBy c := by rw [hh, List.append_assoc]; rfl
    have lm := hcb
    exact G1
end Go.Proofs.YtoaaieiiamdopaaGreatDoor

set_option linter.unusedVariables false
set_option linter.unusedSimpArgs false
set_option maxRecDepth 100000
namespace Go.Proofs.YtoaaieiiamdopaaGreatDoor
open Go.Eng
theorem eyS_err {x : EyX} (h : ¬ x.e = 0) (m : Int) : eyS x m = (0, x) := if_neg h
/-- An eye's bytes are bytes. -/
def okE (x : EyX) : Prop := okY x.l ∧ x.l.length ≤ 274877906944
theorem eyS_ok {x : EyX} (h : okE x) (m : Int) (hm : 0 ≤ m) : okE (eyS x m).2 ∧ 0 ≤ (eyS x m).1 ∧ (eyS x m).1 ≤ m := by
  unfold eyS
  split
  · split
    · rename_i h1 h2
      unfold numF at h2
      split at h2
      · simp at h2
      · rename_i h3
        have hr := numS_rng h.1 h2
        refine ⟨⟨okY_drop h.1 _, ?_⟩, hr.2.2.1, ?_⟩
        · show (x.l.drop _).length ≤ _
          have := h.2
          rw [List.length_drop]; omega
        · show (numS x.l).1 ≤ m
          have : ¬ m < (numS x.l).1 := fun hh => h3 ⟨h2, hh⟩
          omega
    · exact ⟨⟨fun c hc => (nomatch hc), Nat.zero_le _⟩, Int.le_refl _, hm⟩
  · exact ⟨h, Int.le_refl _, hm⟩
def rd1 (x : EyX) : Run × EyX :=
  (((eyS x 7).1, (eyS (eyS x 7).2 1099511627776).1, (eyS (eyS x 7).2 1099511627776).1 + (eyS (eyS (eyS x 7).2 1099511627776).2 1099511627776).1),
    (eyS (eyS (eyS x 7).2 1099511627776).2 1099511627776).2)
theorem rd1_ok {x : EyX} (h : okE x) : okE (rd1 x).2 := by
  unfold rd1
  exact (eyS_ok (eyS_ok (eyS_ok h 7 (by omega)).1 1099511627776 (by omega)).1 1099511627776 (by omega)).1
theorem rd1_err {x : EyX} (h : ¬ x.e = 0) : (rd1 x).2 = x := by
  unfold rd1
  simp only [eyS_err h]
def rdN (x : EyX) : Nat → List Run × EyX
  | 0 => ([], x)
  | n + 1 => ((rdN x n).1 ++ [(rd1 (rdN x n).2).1], (rd1 (rdN x n).2).2)
theorem rdN_ok {x : EyX} (h : okE x) : ∀ n, okE (rdN x n).2
  | 0 => h
  | n + 1 => rd1_ok (rdN_ok h n)
theorem rdN_len (x : EyX) : ∀ n, (rdN x n).1.length = n
  | 0 => rfl
  | n + 1 => by show ((rdN x n).1 ++ [_]).length = _; rw [List.length_append, rdN_len x n]; rfl
theorem rdN_err {x : EyX} {i : Nat} (h : ¬ (rdN x i).2.e = 0) : ∀ k, (rdN x (i + k)).2 = (rdN x i).2
  | 0 => rfl
  | k + 1 => by
    have ih := rdN_err h k
    show (rd1 (rdN x (i + k)).2).2 = _
    rw [ih]; exact rd1_err h
def getN (x : EyX) : Nat := (eyS x 1024).1.toNat
def getP (x : EyX) : List Run × EyX := rdN (eyS x 1024).2 (getN x)
/-- What Get answers, and the eye behind it. -/
def getS (x : EyX) : List Run × EyX :=
  if (getP x).2.e = 0 then (if rightB (getP x).1 then getP x else ([], ⟨[], 11⟩)) else ([], (getP x).2)
theorem getS_err {x : EyX} {i : Nat} (hi : i ≤ getN x) (h : ¬ (rdN (eyS x 1024).2 i).2.e = 0) : getS x = ([], (rdN (eyS x 1024).2 i).2) := by
  have e : (getP x).2 = (rdN (eyS x 1024).2 i).2 := by
    have := rdN_err h (getN x - i)
    rw [show i + (getN x - i) = getN x by omega] at this
    exact this
  unfold getS
  rw [e, if_neg h]
end Go.Proofs.YtoaaieiiamdopaaGreatDoor

set_option linter.unusedVariables false
set_option linter.unusedSimpArgs false
set_option maxRecDepth 100000
set_option maxHeartbeats 4000000
namespace Go.Proofs.YtoaaieiiamdopaaGreatDoor
open Go.Eng
@[reducible] def dgetC : Ctr := {
  X := EyX
  Y := Unit
  args := fun x => [.ptr 0 0]
  rw := fun x => eyeE 0 x.l x.e
  side := fun x => okE x
  val := fun _ => ()
  ens := fun _ _ => True
  res := fun _ _ => .sl 1000
  out := fun x _ => (1000, .row 57 runT (getS x).1) :: eyeE 0 (getS x).2.l (getS x).2.e }
@[reducible] def dgetL (x : EyX) : LA := {
  X := Nat
  pre := fun i => i ≤ getN x
  mu := fun i => getN x - i
  T := fun i => [(0, .ptr 0 0), (3, .sl 2), (6, .v (.int .u64 (getN x : Nat))), (7, .v (.int .u64 (i : Nat)))]
  M := fun i => (2, .row 57 runT (rdN (eyS x 1024).2 i).1) :: eyeE 0 (rdN (eyS x 1024).2 i).2.l (rdN (eyS x 1024).2 i).2.e }
theorem knownGet1 : Known Tryz.prog (gOf [(50, eyNumC), (20, errC), (51, failC), (24, drightC)]) :=
  known_cons ⟨eyNum_ok, Tryz.call50⟩ (known_cons ⟨err_ok, Tryz.call20⟩ (known_cons ⟨fail_ok, Tryz.call51⟩ (known_cons ⟨dright_ok, Tryz.call24⟩ (known_nil _))))
theorem dget_ok : dgetC.ok Tryz.prog 14 := by
  refine ok_of_vc (An := fun x => anOf [(0, .loop (dgetL x))]) knownGet1 mo Tryz.func14 (by kernel_rfl) (by kernel_rfl) (fun _ _ => trivial) (fun (x : EyX) hs => ?_)
  have hs : okE x := hs
  obtain ⟨hx1, hn0, hn1⟩ := eyS_ok hs 1024 (by omega)
  have hN : (eyS x 1024).1 = ((getN x : Nat) : Int) := by unfold getN; omega
  have hso : okY x.l ∧ x.l.length ≤ 274877906944 := hs
  have hNl : getN x ≤ 1024 := by omega
  ((repeat' ((conv => whnf) <;> first | exact True.intro | (guard_target =~ Fork _ _ _; first | refine F1 ?_ | refine F2 ?_ | refine F3 (fun h => ?_) fun h => ?_) | (guard_target =~ Ar _ _ _; first | refine A1 ?_ | refine A2 ?_ | refine A3 ?_) | (guard_target =~ AskL _ _; first | refine L1 ?_) | (guard_target =~ Go.Eng.Ask _ _; first | refine K1 ?_) | (guard_target =~ All' _ _; first | (refine Y2 fun y he he' hy => ?_; (try dsimp only at he he' hy)) | (refine Y1 fun y he hy => ?_; (try with_reducible conv at he => (rhs; whnf)); (try dsimp only at he hy)) | (refine All'.mk ?_; intro y hy)) | refine F4 (fun h => ?_) fun h => ?_ | refine R1 ?_ | refine Q1 ?_ | fail)); all_goals (conv => whnf))
  refine CallP.mk (C := eyNumC) (x, 1024) ?_
  ((repeat' ((conv => whnf) <;> first | exact True.intro | (guard_target =~ Fork _ _ _; first | refine F1 ?_ | refine F2 ?_ | refine F3 (fun h => ?_) fun h => ?_) | (guard_target =~ Ar _ _ _; first | refine A1 ?_ | refine A2 ?_ | refine A3 ?_) | (guard_target =~ AskL _ _; first | refine L1 ?_) | (guard_target =~ Go.Eng.Ask _ _; first | refine K1 ?_) | (guard_target =~ All' _ _; first | (refine Y2 fun y he he' hy => ?_; (try dsimp only at he he' hy)) | (refine Y1 fun y he hy => ?_; (try with_reducible conv at he => (rhs; whnf)); (try dsimp only at he hy)) | (refine All'.mk ?_; intro y hy)) | refine F4 (fun h => ?_) fun h => ?_ | refine R1 ?_ | refine Q1 ?_ | fail)); all_goals (conv => whnf))
  refine Some'.mk (0 : Nat) ?_
  ((repeat' ((conv => whnf) <;> first | exact True.intro | (guard_target =~ Fork _ _ _; first | refine F1 ?_ | refine F2 ?_ | refine F3 (fun h => ?_) fun h => ?_) | (guard_target =~ Ar _ _ _; first | refine A1 ?_ | refine A2 ?_ | refine A3 ?_) | (guard_target =~ Go.Eng.Ask _ _; first | refine K1 ?_) | (guard_target =~ All' _ _; first | (refine Y2 fun y he he' hy => ?_; (try dsimp only at he he' hy)) | (refine Y1 fun y he hy => ?_; (try with_reducible conv at he => (rhs; whnf)); (try dsimp only at he hy)) | (refine All'.mk ?_; intro y hy)) | refine F4 (fun h => ?_) fun h => ?_ | refine R1 ?_ | refine Q1 ?_ | fail)); all_goals (conv => whnf))
  refine AskL.mk ?_ (Ask.mk (Nat.zero_le _) ?_)
  · (dsimp only [conj]; repeat' apply And.intro) <;> first | rfl | exact hN
  refine AllI.mk ?_
  rintro (i : Nat) hi
  have hi : i ≤ getN x := hi
  have hxi := rdN_ok hx1 i
  by_cases hie : i = getN x
  · subst hie
    have hzl : (rdN (eyS x 1024).2 (getN x)).1.length = getN x := rdN_len _ _
    have hz2 : (rdN (eyS x 1024).2 (getN x)).1.length ≤ 274877906944 := by omega
    by_cases h3 : (rdN (eyS x 1024).2 (getN x)).2.e = 0
    · cases hr : rightB (rdN (eyS x 1024).2 (getN x)).1 with
      | true =>
        have hg : getS x = (rdN (eyS x 1024).2 (getN x)) := by unfold getS getP; rw [if_pos h3, if_pos hr]
        have lm := And.intro hg (And.intro hr h3)
        ((repeat' ((conv => whnf) <;> first | exact True.intro | (guard_target =~ Fork _ _ _; first | refine F1 ?_ | refine F2 ?_ | refine F3 (fun h => ?_) fun h => ?_) | (guard_target =~ Ar _ _ _; first | refine A1 ?_ | refine A2 ?_ | refine A3 ?_) | (guard_target =~ AskL _ _; first | refine L1 ?_) | (guard_target =~ Go.Eng.Ask _ _; first | refine K1 ?_) | (guard_target =~ All' _ _; first | (refine Y2 fun y he he' hy => ?_; (try dsimp only at he he' hy)) | (refine Y1 fun y he hy => ?_; (try with_reducible conv at he => (rhs; whnf)); (try dsimp only at he hy)) | (refine All'.mk ?_; intro y hy)) | refine F4 (fun h => ?_) fun h => ?_ | refine R1 ?_ | refine Q1 ?_ | fail)); all_goals (conv => whnf))
        refine CallP.mk (C := errC) (rdN (eyS x 1024).2 (getN x)).2 ?_
        ((repeat' ((conv => whnf) <;> first | exact True.intro | (guard_target =~ Fork _ _ _; first | refine F1 ?_ | refine F2 ?_ | refine F3 (fun h => ?_) fun h => ?_) | (guard_target =~ Ar _ _ _; first | refine A1 ?_ | refine A2 ?_ | refine A3 ?_) | (guard_target =~ AskL _ _; first | refine L1 ?_) | (guard_target =~ Go.Eng.Ask _ _; first | refine K1 ?_) | (guard_target =~ All' _ _; first | (refine Y2 fun y he he' hy => ?_; (try dsimp only at he he' hy)) | (refine Y1 fun y he hy => ?_; (try with_reducible conv at he => (rhs; whnf)); (try dsimp only at he hy)) | (refine All'.mk ?_; intro y hy)) | refine F4 (fun h => ?_) fun h => ?_ | refine R1 ?_ | refine Q1 ?_ | fail)); all_goals (conv => whnf))
        refine CallP.mk (C := drightC) (rdN (eyS x 1024).2 (getN x)).1 ?_
        ((repeat' ((conv => whnf) <;> first | exact True.intro | (guard_target =~ Fork _ _ _; first | refine F1 ?_ | refine F2 ?_ | refine F3 (fun h => ?_) fun h => ?_) | (guard_target =~ Ar _ _ _; first | refine A1 ?_ | refine A2 ?_ | refine A3 ?_) | (guard_target =~ AskL _ _; first | refine L1 ?_) | (guard_target =~ Go.Eng.Ask _ _; first | refine K1 ?_) | (guard_target =~ All' _ _; first | (refine Y2 fun y he he' hy => ?_; (try dsimp only at he he' hy)) | (refine Y1 fun y he hy => ?_; (try with_reducible conv at he => (rhs; whnf)); (try dsimp only at he hy)) | (refine All'.mk ?_; intro y hy)) | refine F4 (fun h => ?_) fun h => ?_ | refine R1 ?_ | refine Q1 ?_ | fail)); all_goals (conv => whnf))
        refine CallP.mk (C := errC) (rdN (eyS x 1024).2 (getN x)).2 ?_
        exact G1
      | false =>
        have hg : getS x = ([], ⟨[], 11⟩) := by unfold getS getP; rw [if_pos h3, if_neg (by rw [hr]; decide)]
        have k2 : failL (rdN (eyS x 1024).2 (getN x)).2 11 = [] := if_pos ⟨h3, by decide⟩
        have k3 : failE (rdN (eyS x 1024).2 (getN x)).2 11 = 11 := if_pos ⟨h3, by decide⟩
        have lm := And.intro hg (And.intro hr (And.intro h3 (And.intro k2 k3)))
        ((repeat' ((conv => whnf) <;> first | exact True.intro | (guard_target =~ Fork _ _ _; first | refine F1 ?_ | refine F2 ?_ | refine F3 (fun h => ?_) fun h => ?_) | (guard_target =~ Ar _ _ _; first | refine A1 ?_ | refine A2 ?_ | refine A3 ?_) | (guard_target =~ AskL _ _; first | refine L1 ?_) | (guard_target =~ Go.Eng.Ask _ _; first | refine K1 ?_) | (guard_target =~ All' _ _; first | (refine Y2 fun y he he' hy => ?_; (try dsimp only at he he' hy)) | (refine Y1 fun y he hy => ?_; (try with_reducible conv at he => (rhs; whnf)); (try dsimp only at he hy)) | (refine All'.mk ?_; intro y hy)) | refine F4 (fun h => ?_) fun h => ?_ | refine R1 ?_ | refine Q1 ?_ | fail)); all_goals (conv => whnf))
        refine CallP.mk (C := errC) (rdN (eyS x 1024).2 (getN x)).2 ?_
        ((repeat' ((conv => whnf) <;> first | exact True.intro | (guard_target =~ Fork _ _ _; first | refine F1 ?_ | refine F2 ?_ | refine F3 (fun h => ?_) fun h => ?_) | (guard_target =~ Ar _ _ _; first | refine A1 ?_ | refine A2 ?_ | refine A3 ?_) | (guard_target =~ AskL _ _; first | refine L1 ?_) | (guard_target =~ Go.Eng.Ask _ _; first | refine K1 ?_) | (guard_target =~ All' _ _; first | (refine Y2 fun y he he' hy => ?_; (try dsimp only at he he' hy)) | (refine Y1 fun y he hy => ?_; (try with_reducible conv at he => (rhs; whnf)); (try dsimp only at he hy)) | (refine All'.mk ?_; intro y hy)) | refine F4 (fun h => ?_) fun h => ?_ | refine R1 ?_ | refine Q1 ?_ | fail)); all_goals (conv => whnf))
        refine CallP.mk (C := drightC) (rdN (eyS x 1024).2 (getN x)).1 ?_
        ((repeat' ((conv => whnf) <;> first | exact True.intro | (guard_target =~ Fork _ _ _; first | refine F1 ?_ | refine F2 ?_ | refine F3 (fun h => ?_) fun h => ?_) | (guard_target =~ Ar _ _ _; first | refine A1 ?_ | refine A2 ?_ | refine A3 ?_) | (guard_target =~ AskL _ _; first | refine L1 ?_) | (guard_target =~ Go.Eng.Ask _ _; first | refine K1 ?_) | (guard_target =~ All' _ _; first | (refine Y2 fun y he he' hy => ?_; (try dsimp only at he he' hy)) | (refine Y1 fun y he hy => ?_; (try with_reducible conv at he => (rhs; whnf)); (try dsimp only at he hy)) | (refine All'.mk ?_; intro y hy)) | refine F4 (fun h => ?_) fun h => ?_ | refine R1 ?_ | refine Q1 ?_ | fail)); all_goals (conv => whnf))
        refine CallP.mk (C := failC) ((rdN (eyS x 1024).2 (getN x)).2, 11) ?_
        ((repeat' ((conv => whnf) <;> first | exact True.intro | (guard_target =~ Fork _ _ _; first | refine F1 ?_ | refine F2 ?_ | refine F3 (fun h => ?_) fun h => ?_) | (guard_target =~ Ar _ _ _; first | refine A1 ?_ | refine A2 ?_ | refine A3 ?_) | (guard_target =~ AskL _ _; first | refine L1 ?_) | (guard_target =~ Go.Eng.Ask _ _; first | refine K1 ?_) | (guard_target =~ All' _ _; first | (refine Y2 fun y he he' hy => ?_; (try dsimp only at he he' hy)) | (refine Y1 fun y he hy => ?_; (try with_reducible conv at he => (rhs; whnf)); (try dsimp only at he hy)) | (refine All'.mk ?_; intro y hy)) | refine F4 (fun h => ?_) fun h => ?_ | refine R1 ?_ | refine Q1 ?_ | fail)); all_goals (conv => whnf))
        refine CallP.mk (C := errC) ⟨[], 11⟩ ?_
        exact G1
    · have hg : getS x = ([], (rdN (eyS x 1024).2 (getN x)).2) := getS_err (Nat.le_refl _) h3
      have lm := hg
      ((repeat' ((conv => whnf) <;> first | exact True.intro | (guard_target =~ Fork _ _ _; first | refine F1 ?_ | refine F2 ?_ | refine F3 (fun h => ?_) fun h => ?_) | (guard_target =~ Ar _ _ _; first | refine A1 ?_ | refine A2 ?_ | refine A3 ?_) | (guard_target =~ AskL _ _; first | refine L1 ?_) | (guard_target =~ Go.Eng.Ask _ _; first | refine K1 ?_) | (guard_target =~ All' _ _; first | (refine Y2 fun y he he' hy => ?_; (try dsimp only at he he' hy)) | (refine Y1 fun y he hy => ?_; (try with_reducible conv at he => (rhs; whnf)); (try dsimp only at he hy)) | (refine All'.mk ?_; intro y hy)) | refine F4 (fun h => ?_) fun h => ?_ | refine R1 ?_ | refine Q1 ?_ | fail)); all_goals (conv => whnf))
      refine CallP.mk (C := errC) (rdN (eyS x 1024).2 (getN x)).2 ?_
      ((repeat' ((conv => whnf) <;> first | exact True.intro | (guard_target =~ Fork _ _ _; first | refine F1 ?_ | refine F2 ?_ | refine F3 (fun h => ?_) fun h => ?_) | (guard_target =~ Ar _ _ _; first | refine A1 ?_ | refine A2 ?_ | refine A3 ?_) | (guard_target =~ AskL _ _; first | refine L1 ?_) | (guard_target =~ Go.Eng.Ask _ _; first | refine K1 ?_) | (guard_target =~ All' _ _; first | (refine Y2 fun y he he' hy => ?_; (try dsimp only at he he' hy)) | (refine Y1 fun y he hy => ?_; (try with_reducible conv at he => (rhs; whnf)); (try dsimp only at he hy)) | (refine All'.mk ?_; intro y hy)) | refine F4 (fun h => ?_) fun h => ?_ | refine R1 ?_ | refine Q1 ?_ | fail)); all_goals (conv => whnf))
      refine CallP.mk (C := errC) (rdN (eyS x 1024).2 (getN x)).2 ?_
      exact G1
  · obtain ⟨ha1, ha2, ha3⟩ := eyS_ok hxi 7 (by omega)
    obtain ⟨hb1, hb2, hb3⟩ := eyS_ok ha1 1099511627776 (by omega)
    obtain ⟨hc1, hc2, hc3⟩ := eyS_ok hb1 1099511627776 (by omega)
    have hs1 : okY (rdN (eyS x 1024).2 i).2.l ∧ (rdN (eyS x 1024).2 i).2.l.length ≤ 274877906944 := hxi
    have hs2 : okY (eyS (rdN (eyS x 1024).2 i).2 7).2.l ∧ (eyS (rdN (eyS x 1024).2 i).2 7).2.l.length ≤ 274877906944 := ha1
    have hs3 : okY (eyS (eyS (rdN (eyS x 1024).2 i).2 7).2 1099511627776).2.l ∧ (eyS (eyS (rdN (eyS x 1024).2 i).2 7).2 1099511627776).2.l.length ≤ 274877906944 := hb1
    have hw1 : IntKind.i64.wrap (eyS (rdN (eyS x 1024).2 i).2 7).1 = (eyS (rdN (eyS x 1024).2 i).2 7).1 := wrap_i64 (by omega) (by omega)
    have hw2 : IntKind.i64.wrap (eyS (eyS (rdN (eyS x 1024).2 i).2 7).2 1099511627776).1 = (eyS (eyS (rdN (eyS x 1024).2 i).2 7).2 1099511627776).1 := wrap_i64 (by omega) (by omega)
    have hw3 : IntKind.i64.wrap (eyS (eyS (eyS (rdN (eyS x 1024).2 i).2 7).2 1099511627776).2 1099511627776).1 = (eyS (eyS (eyS (rdN (eyS x 1024).2 i).2 7).2 1099511627776).2 1099511627776).1 := wrap_i64 (by omega) (by omega)
    have hzl : (rdN (eyS x 1024).2 i).1.length = i := rdN_len _ _
    have hz2 : (rdN (eyS x 1024).2 i).1.length ≤ 1024 := by omega
    have lm := And.intro hw1 (And.intro hw2 hw3)
    ((repeat' ((conv => whnf) <;> first | exact True.intro | (guard_target =~ Fork _ _ _; first | refine F1 ?_ | refine F2 ?_ | refine F3 (fun h => ?_) fun h => ?_) | (guard_target =~ Ar _ _ _; first | refine A1 ?_ | refine A2 ?_ | refine A3 ?_) | (guard_target =~ AskL _ _; first | refine L1 ?_) | (guard_target =~ Go.Eng.Ask _ _; first | refine K1 ?_) | (guard_target =~ All' _ _; first | (refine Y2 fun y he he' hy => ?_; (try dsimp only at he he' hy)) | (refine Y1 fun y he hy => ?_; (try with_reducible conv at he => (rhs; whnf)); (try dsimp only at he hy)) | (refine All'.mk ?_; intro y hy)) | refine F4 (fun h => ?_) fun h => ?_ | refine R1 ?_ | refine Q1 ?_ | fail)); all_goals (conv => whnf))
    refine CallP.mk (C := eyNumC) ((rdN (eyS x 1024).2 i).2, 7) ?_
    ((repeat' ((conv => whnf) <;> first | exact True.intro | (guard_target =~ Fork _ _ _; first | refine F1 ?_ | refine F2 ?_ | refine F3 (fun h => ?_) fun h => ?_) | (guard_target =~ Ar _ _ _; first | refine A1 ?_ | refine A2 ?_ | refine A3 ?_) | (guard_target =~ AskL _ _; first | refine L1 ?_) | (guard_target =~ Go.Eng.Ask _ _; first | refine K1 ?_) | (guard_target =~ All' _ _; first | (refine Y2 fun y he he' hy => ?_; (try dsimp only at he he' hy)) | (refine Y1 fun y he hy => ?_; (try with_reducible conv at he => (rhs; whnf)); (try dsimp only at he hy)) | (refine All'.mk ?_; intro y hy)) | refine F4 (fun h => ?_) fun h => ?_ | refine R1 ?_ | refine Q1 ?_ | fail)); all_goals (conv => whnf))
    refine CallP.mk (C := eyNumC) ((eyS (rdN (eyS x 1024).2 i).2 7).2, 1099511627776) ?_
    ((repeat' ((conv => whnf) <;> first | exact True.intro | (guard_target =~ Fork _ _ _; first | refine F1 ?_ | refine F2 ?_ | refine F3 (fun h => ?_) fun h => ?_) | (guard_target =~ Ar _ _ _; first | refine A1 ?_ | refine A2 ?_ | refine A3 ?_) | (guard_target =~ AskL _ _; first | refine L1 ?_) | (guard_target =~ Go.Eng.Ask _ _; first | refine K1 ?_) | (guard_target =~ All' _ _; first | (refine Y2 fun y he he' hy => ?_; (try dsimp only at he he' hy)) | (refine Y1 fun y he hy => ?_; (try with_reducible conv at he => (rhs; whnf)); (try dsimp only at he hy)) | (refine All'.mk ?_; intro y hy)) | refine F4 (fun h => ?_) fun h => ?_ | refine R1 ?_ | refine Q1 ?_ | fail)); all_goals (conv => whnf))
    refine CallP.mk (C := eyNumC) ((eyS (eyS (rdN (eyS x 1024).2 i).2 7).2 1099511627776).2, 1099511627776) ?_
    have hap : ∀ r : Run, (rdN (eyS x 1024).2 i).1.length + [r].length ≤ 274877906944 := fun r => by rw [List.length_singleton]; omega
    have hpr : (dgetL x).pre (i + 1) := by show i + 1 ≤ getN x; omega
    have hmu : (dgetL x).mu (i + 1) < (dgetL x).mu i := by show getN x - (i + 1) < getN x - i; omega
    by_cases h4 : (eyS (eyS (eyS (rdN (eyS x 1024).2 i).2 7).2 1099511627776).2 1099511627776).2.e = 0
    · have hst : (rdN (eyS x 1024).2 (i + 1)).1 = (rdN (eyS x 1024).2 i).1 ++ [(IntKind.i64.wrap (eyS (rdN (eyS x 1024).2 i).2 7).1, IntKind.i64.wrap (eyS (eyS (rdN (eyS x 1024).2 i).2 7).2 1099511627776).1, IntKind.i64.wrap (eyS (eyS (rdN (eyS x 1024).2 i).2 7).2 1099511627776).1 + IntKind.i64.wrap (eyS (eyS (eyS (rdN (eyS x 1024).2 i).2 7).2 1099511627776).2 1099511627776).1)] := by
        rw [hw1, hw2, hw3]; rfl
      ((repeat' ((conv => whnf) <;> first | exact True.intro | (guard_target =~ Fork _ _ _; first | refine F1 ?_ | refine F2 ?_ | refine F3 (fun h => ?_) fun h => ?_) | (guard_target =~ Ar _ _ _; first | refine A1 ?_ | refine A2 ?_ | refine A3 ?_) | (guard_target =~ AskL _ _; first | refine L1 ?_) | (guard_target =~ Go.Eng.Ask _ _; first | refine K1 ?_) | (guard_target =~ All' _ _; first | (refine Y2 fun y he he' hy => ?_; (try dsimp only at he he' hy)) | (refine Y1 fun y he hy => ?_; (try with_reducible conv at he => (rhs; whnf)); (try dsimp only at he hy)) | (refine All'.mk ?_; intro y hy)) | refine F4 (fun h => ?_) fun h => ?_ | refine R1 ?_ | refine Q1 ?_ | fail)); all_goals (conv => whnf))
      refine CallP.mk (C := errC) (eyS (eyS (eyS (rdN (eyS x 1024).2 i).2 7).2 1099511627776).2 1099511627776).2 ?_
      ((repeat' ((conv => whnf) <;> first | exact True.intro | (guard_target =~ Fork _ _ _; first | refine F1 ?_ | refine F2 ?_ | refine F3 (fun h => ?_) fun h => ?_) | (guard_target =~ Ar _ _ _; first | refine A1 ?_ | refine A2 ?_ | refine A3 ?_) | (guard_target =~ AskL _ _; first | refine L1 ?_) | (guard_target =~ Go.Eng.Ask _ _; first | refine K1 ?_) | (guard_target =~ All' _ _; first | (refine Y2 fun y he he' hy => ?_; (try dsimp only at he he' hy)) | (refine Y1 fun y he hy => ?_; (try with_reducible conv at he => (rhs; whnf)); (try dsimp only at he hy)) | (refine All'.mk ?_; intro y hy)) | refine F4 (fun h => ?_) fun h => ?_ | refine R1 ?_ | refine Q1 ?_ | fail)); all_goals (conv => whnf))
      refine Some'.mk (i + 1 : Nat) ?_
      ((repeat' ((conv => whnf) <;> first | exact True.intro | (guard_target =~ Fork _ _ _; first | refine F1 ?_ | refine F2 ?_ | refine F3 (fun h => ?_) fun h => ?_) | (guard_target =~ Ar _ _ _; first | refine A1 ?_ | refine A2 ?_ | refine A3 ?_) | (guard_target =~ Go.Eng.Ask _ _; first | refine K1 ?_) | (guard_target =~ All' _ _; first | (refine Y2 fun y he he' hy => ?_; (try dsimp only at he he' hy)) | (refine Y1 fun y he hy => ?_; (try with_reducible conv at he => (rhs; whnf)); (try dsimp only at he hy)) | (refine All'.mk ?_; intro y hy)) | refine F4 (fun h => ?_) fun h => ?_ | refine R1 ?_ | refine Q1 ?_ | fail)); all_goals (conv => whnf))
      refine AskL.mk ?_ (Ask.mk hpr (Ask.mk hmu trivial))
      (dsimp only [conj]; repeat' apply And.intro) <;> first | rfl | exact congrArg (SV.ro true runT) hst.symm
    · have hg : getS x = ([], (eyS (eyS (eyS (rdN (eyS x 1024).2 i).2 7).2 1099511627776).2 1099511627776).2) := getS_err (i := i + 1) (by omega) h4
      have lm := And.intro hg (And.intro hw1 (And.intro hw2 hw3))
      ((repeat' ((conv => whnf) <;> first | exact True.intro | (guard_target =~ Fork _ _ _; first | refine F1 ?_ | refine F2 ?_ | refine F3 (fun h => ?_) fun h => ?_) | (guard_target =~ Ar _ _ _; first | refine A1 ?_ | refine A2 ?_ | refine A3 ?_) | (guard_target =~ AskL _ _; first | refine L1 ?_) | (guard_target =~ Go.Eng.Ask _ _; first | refine K1 ?_) | (guard_target =~ All' _ _; first | (refine Y2 fun y he he' hy => ?_; (try dsimp only at he he' hy)) | (refine Y1 fun y he hy => ?_; (try with_reducible conv at he => (rhs; whnf)); (try dsimp only at he hy)) | (refine All'.mk ?_; intro y hy)) | refine F4 (fun h => ?_) fun h => ?_ | refine R1 ?_ | refine Q1 ?_ | fail)); all_goals (conv => whnf))
      refine CallP.mk (C := errC) (eyS (eyS (eyS (rdN (eyS x 1024).2 i).2 7).2 1099511627776).2 1099511627776).2 ?_
      exact G1
end Go.Proofs.YtoaaieiiamdopaaGreatDoor

set_option linter.unusedVariables false
set_option linter.unusedSimpArgs false
set_option maxRecDepth 100000
set_option maxHeartbeats 4000000
namespace Go.Proofs.YtoaaieiiamdopaaGreatDoor
open Go.Eng
end Go.Proofs.YtoaaieiiamdopaaGreatDoor

set_option linter.unusedVariables false
set_option linter.unusedSimpArgs false
set_option maxRecDepth 100000
namespace Go.Proofs.YtoaaieiiamdopaaGreatDoor
open Go.Eng
theorem beV_beL : ∀ u : Nat, beV (beL u) = u := fun u => by
  induction u using Nat.strongRecOn with
  | _ u ih =>
    rcases Nat.eq_zero_or_pos u with rfl | hp
    · rw [beL_zero]; rfl
    · rw [beL_pos hp, beV_snoc, ih (u / 256) (by omega)]; omega
theorem numS_num {u : Nat} (l : List Int) : numS (numL u ++ l) = ((u : Int), (((numL u).length : Nat) : Int), 0) := by
  by_cases h : u ≤ 247
  · rw [numL_small h]
    show numS ((u : Int) :: l) = _
    rw [numS_cons, if_pos (by omega)]; rfl
  · have hp : 1 ≤ (beL u).length := by rw [beL_len_pos (by omega)]; omega
    have hk : ((247 + (beL u).length : Nat) : Int) - 247 = ((beL u).length : Nat) := by omega
    have ht : (beL u ++ l).take (beL u).length = beL u := List.take_left' rfl
    have hn : numL (beV (beL u)) = ((247 + (beL u).length : Nat) : Int) :: beL u := by rw [beV_beL]; exact numL_great h
    rw [numL_great h, List.cons_append, numS_cons, if_neg (by omega), hk, if_neg (by rw [List.length_append]; omega), Int.toNat_natCast, ht]
    rw [if_pos hn, beV_beL]
    simp only [List.length_cons, Prod.mk.injEq, and_true, true_and]
    omega
theorem eyS_num {u : Nat} {m : Int} (hm : (u : Int) ≤ m) (l : List Int) : eyS ⟨numL u ++ l, 0⟩ m = ((u : Int), ⟨l, 0⟩) := by
  have h1 := numS_num (u := u) l
  have h2 : numF (numL u ++ l) m = 0 := by unfold numF; rw [h1, if_neg (by simp; omega)]
  unfold eyS
  rw [if_pos rfl, if_pos h2, h1]
  dsimp only
  rw [Int.toNat_natCast, List.drop_left' rfl]
theorem rd1_run {r : Run} (h : runP r) (l : List Int) : rd1 ⟨runBy r ++ l, 0⟩ = (r, ⟨l, 0⟩) := by
  obtain ⟨n, f, t⟩ := r
  unfold runP at h; dsimp only at h
  have e1 := eyS_num (u := n.toNat) (m := 7) (by omega) (numL f.toNat ++ (numL (t - f).toNat ++ l))
  have e2 := eyS_num (u := f.toNat) (m := 1099511627776) (by omega) (numL (t - f).toNat ++ l)
  have e3 := eyS_num (u := (t - f).toNat) (m := 1099511627776) (by omega) l
  have e0 : runBy (n, f, t) ++ l = numL n.toNat ++ (numL f.toNat ++ (numL (t - f).toNat ++ l)) := by simp [runBy]
  rw [e0]
  unfold rd1
  rw [e1]; dsimp only; rw [e2]; dsimp only; rw [e3]
  have : ((n.toNat : Int), ((f.toNat : Int), (f.toNat : Int) + ((t - f).toNat : Int))) = (n, f, t) := by
    refine Prod.ext (by dsimp only; omega) (Prod.ext (by dsimp only; omega) (by dsimp only; omega))
  rw [this]
theorem rdN_run {c : List Run} (hc : ∀ r, r ∈ c → runP r) : ∀ n : Nat, n ≤ c.length → rdN ⟨runsBy c, 0⟩ n = (c.take n, ⟨runsBy (c.drop n), 0⟩)
  | 0, _ => rfl
  | n + 1, h => by
    have ih := rdN_run hc n (by omega)
    obtain ⟨r, hr⟩ := get_ex (show n < c.length by omega)
    have hd : c.drop n = r :: c.drop (n + 1) := by
      obtain ⟨h5, h6⟩ := List.getElem?_eq_some_iff.1 hr
      rw [List.drop_eq_getElem_cons h5, h6]
    unfold rdN
    rw [ih, hd]
    dsimp only
    rw [show runsBy (r :: c.drop (n + 1)) = runBy r ++ runsBy (c.drop (n + 1)) from rfl, rd1_run (hc r (List.mem_of_getElem? hr))]
    dsimp only
    rw [List.take_add_one, hr]; rfl
/-- What was put is got, and nothing is left. -/
theorem get_put {c : List Run} (h : rightB c = true) (hl : c.length ≤ 1024) : getS ⟨clockBy c, 0⟩ = (c, ⟨[], 0⟩) := by
  have hall : ∀ r, r ∈ c → runP r := fun r hr => by
    obtain ⟨i, hi⟩ := List.getElem?_of_mem hr
    exact right_all h hi
  have e1 := eyS_num (u := c.length) (m := 1024) (by omega) (runsBy c)
  have e0 : clockBy c = numL c.length ++ runsBy c := rfl
  have e2 : getP ⟨clockBy c, 0⟩ = (c, ⟨[], 0⟩) := by
    unfold getP getN
    rw [e0, e1]
    dsimp only
    rw [Int.toNat_natCast, rdN_run hall c.length (Nat.le_refl _), List.take_length, List.drop_length]; rfl
  unfold getS
  rw [e2]
  dsimp only
  rw [if_pos rfl, if_pos h]
theorem okY_runs {c : List Run} (hc : ∀ r, r ∈ c → runP r) : okY (runsBy c) := by
  induction c with
  | nil => intro x hx; cases hx
  | cons r l ih =>
    have hr := hc r (List.mem_cons_self ..)
    unfold runP at hr
    intro x hx
    have hx : x ∈ numL r.1.toNat ++ (numL r.2.1.toNat ++ numL (r.2.2 - r.2.1).toNat) ++ runsBy l := hx
    simp only [List.mem_append] at hx
    rcases hx with (hx | hx | hx) | hx
    · exact numL_okB _ (by omega) x hx
    · exact numL_okB _ (by omega) x hx
    · exact numL_okB _ (by omega) x hx
    · exact ih (fun y hy => hc y (List.mem_cons_of_mem _ hy)) x hx
theorem okY_clock {c : List Run} (h : rightB c = true) (hl : c.length ≤ 1024) : okY (clockBy c) := fun x hx => by
  rcases List.mem_append.1 hx with hx | hx
  · exact numL_okB _ (by omega) x hx
  · exact okY_runs (fun r hr => by obtain ⟨i, hi⟩ := List.getElem?_of_mem hr; exact right_all h hi) x hx
end Go.Proofs.YtoaaieiiamdopaaGreatDoor

set_option linter.unusedVariables false
set_option linter.unusedSimpArgs false
set_option linter.unusedSectionVars false
namespace Go.Proofs.YtoaaieiiamdopaaGreatDoor
open Go.Eng
variable [DM]
theorem beqB (c : Bool) : (c == c) = true := beq_self_eq_true c
theorem beqI (c : Int) : (c == c) = true := beq_self_eq_true c
theorem beqL (c : List UInt8) : (c == c) = true := beq_self_eq_true c
structure Same4 (C C' : Ctr) (x : C.X) (x' : C'.X) : Prop where
  side : C.side x
  ens : C'.ens x' (C'.val x')
  args : C'.args x' = C.args x
  rw : C'.rw x' = C.rw x
  res : C'.res x' (C'.val x') = C.res x (C.val x)
  out : C'.out x' (C'.val x') = C.out x (C.val x)
theorem ctr_re {P : Program} {F : FuncId} {C C' : Ctr} (f : C'.X → C.X) (k : ∀ x, C'.side x → Same4 C C' (f x) x) (h : C.ok P F) : C'.ok P F := by
  intro x hs
  obtain ⟨k0, k1, k2, k3, k4, k5⟩ := k x hs
  obtain ⟨-, H⟩ := h (f x) k0
  refine ⟨k1, ?_⟩
  rw [k2, k3, k4, k5]
  exact H
end Go.Proofs.YtoaaieiiamdopaaGreatDoor

set_option linter.unusedVariables false
set_option linter.unusedSimpArgs false
set_option maxRecDepth 100000
set_option maxHeartbeats 4000000
namespace Go.Proofs.YtoaaieiiamdopaaGreatDoor
open Go.Eng
theorem text_mem58 {c : List Run} (h : rightB c = true) (h0 : c ≠ []) : (58 : Int) ∈ textL c := by
  have ht : textL c = spc (c.map runW) := by unfold textL; rw [h, if_neg h0]; rfl
  cases c with
  | nil => exact absurd rfl h0
  | cons r l =>
    rw [ht]
    have h1 : (58 : Int) ∈ runW r := by simp [runW]
    show (58 : Int) ∈ runW r ++ _
    exact List.mem_append_left _ h1
theorem parsed_text {c : List Run} (h : rightB c = true) : parsedB (strOfNums (textL c)) = true ∧ parsedL (strOfNums (textL c)) = c := by
  by_cases h0 : c = []
  · subst h0
    exact ⟨parsedB_true (.inl rfl), if_pos rfl⟩
  · have hp := parse0_text h h0
    have h58 := text_mem58 h h0
    have hb : okB (textL c) := by
      have ht : textL c = spc (c.map runW) := by unfold textL; rw [h, if_neg h0]; rfl
      rw [ht]
      exact okB_spc _ (fun w hw => by obtain ⟨r, _, rfl⟩ := List.mem_map.1 hw; exact okB_runW r)
    have n1 : ¬ strOfNums (textL c) = ⟨#[45]⟩ := fun e => by
      have := bytes_str hb
      rw [e] at this
      rw [← this] at h58
      exact absurd h58 (by decide)
    have n2 : ¬ strOfNums (textL c) = ⟨#[]⟩ := fun e => by
      have := bytes_str hb
      rw [e] at this
      rw [← this] at h58
      exact absurd h58 (by decide)
    have hk : parsedOk (strOfNums (textL c)) := .inr ⟨n2, by rw [hp]⟩
    exact ⟨parsedB_true hk, by rw [parsedL_yes n1 hk, hp]⟩

@[reducible] def exA : List Run := [(0, 1, 3), (2, 1, 1)]
@[reducible] def exB : List Run := [(0, 4, 4), (1, 5, 5)]
def exJ : List Run := [(0, 1, 4), (1, 5, 5), (2, 1, 1)]
@[reducible] def firstC : Ctr := {
  X := Unit
  Y := Unit
  args := fun _ => []
  rw := fun _ => []
  side := fun _ => True
  val := fun _ => ()
  ens := fun _ _ => True
  res := fun _ _ => .v (.bool true)
  out := fun _ _ => [] }
@[reducible] def djoinX : Ctr := {
  X := List Run × List Run × List Run
  Y := Unit
  args := fun x => [.ro true runT x.1, .ro true runT x.2.1]
  rw := fun _ => []
  side := fun x => (x.1.length ≤ 400000 ∧ x.2.1.length ≤ 400000) ∧ joinF x.1 x.2.1 = x.2.2
  val := fun _ => ()
  ens := fun _ _ => True
  res := fun _ _ => .sl 1000
  out := fun x _ => [(1000, .row 57 runT x.2.2)] }
theorem djoinX_ok : djoinX.ok Tryz.prog 25 := ctr_re (C := djoinT) (fun x => (x.1, x.2.1)) (fun x h => ⟨h.1, trivial, rfl, rfl, rfl, by show [_] = [_]; rw [h.2]⟩) djoinT_ok
@[reducible] def dputX : Ctr := {
  X := PutX × List Int
  Y := Unit
  args := fun x => [.ptr 0 0, .ro true runT x.1.c]
  rw := fun x => penE 0 x.1.bs 1
  side := fun x => (rightB x.1.c = true ∧ x.1.c.length ≤ 1024 ∧ x.1.bs.length ≤ 100000000000) ∧ x.1.bs ++ clockBy x.1.c = x.2
  val := fun _ => ()
  ens := fun _ _ => True
  res := fun x y => .v (.bool true)
  out := fun x _ => penE 0 x.2 1000 }
theorem dputX_ok : dputX.ok Tryz.prog 10 := ctr_re (C := dputC) (fun x => x.1) (fun x h => ⟨h.1, trivial, rfl, rfl, rfl, by show penE _ _ _ = penE _ _ _; rw [h.2]⟩) dput_ok
structure GetXX where
  x : EyX
  c : List Run
  y : EyX
@[reducible] def dgetX : Ctr := {
  X := GetXX
  Y := Unit
  args := fun x => [.ptr 0 0]
  rw := fun x => eyeE 0 x.x.l x.x.e
  side := fun x => okE x.x ∧ getS x.x = (x.c, x.y)
  val := fun _ => ()
  ens := fun _ _ => True
  res := fun _ _ => .sl 1000
  out := fun x _ => (1000, .row 57 runT x.c) :: eyeE 0 x.y.l x.y.e }
theorem dgetX_ok : dgetX.ok Tryz.prog 14 := ctr_re (C := dgetC) (fun x => x.x) (fun x h => ⟨h.1, trivial, rfl, rfl, rfl, by show _ :: eyeE _ _ _ = _ :: eyeE _ _ _; rw [h.2]⟩) dget_ok
@[reducible] noncomputable def dparseX : Ctr := {
  X := ByteArray × List Run × Bool
  Y := Unit
  args := fun x => [.v (.string x.1)]
  rw := fun _ => []
  side := fun x => x.1.size ≤ 100000 ∧ parsedL x.1 = x.2.1 ∧ parsedB x.1 = x.2.2
  val := fun _ => ()
  ens := fun _ _ => True
  res := fun x _ => .tuple [.sl 1000, .v (.bool x.2.2)]
  out := fun x _ => [(1000, .row 57 runT x.2.1)] }
theorem dparseX_ok : dparseX.ok Tryz.prog 16 := ctr_re (C := dparseC) (C' := dparseX) (fun x => x.1) (fun x h => ⟨h.1, trivial, rfl, rfl, by show SV.tuple [_, .v (.bool x.2.2)] = SV.tuple [_, .v (.bool (parsedB x.1))]; rw [h.2.2], by show [(_, Ent.row _ runT x.2.1)] = [(_, Ent.row _ runT (parsedL x.1))]; rw [h.2.1]⟩) dparse_ok
theorem knownFst : Known Tryz.prog (gOf [(25, djoinX), (10, dputX), (16, dparseX), (22, dtextC), (41, dcmpT), (43, dcountC), (18, penBytesC), (13, readC), (14, dgetX), (19, equalCRu), (34, dhasC), (24, drightC), (32, dtopC)]) :=
  known_cons ⟨djoinX_ok, Tryz.call25⟩ (known_cons ⟨dputX_ok, Tryz.call10⟩ (known_cons ⟨dparseX_ok, Tryz.call16⟩ (known_cons ⟨dtext_ok, Tryz.call22⟩ (known_cons ⟨dcmpT_ok, Tryz.call41⟩
    (known_cons ⟨dcount_ok, Tryz.call43⟩ (known_cons ⟨penBytes_ok, Tryz.call18⟩ (known_cons ⟨read_ok, Tryz.call13⟩ (known_cons ⟨dgetX_ok, Tryz.call14⟩ (known_cons ⟨dsame_ok, Tryz.call19⟩
      (known_cons ⟨dhas_ok, Tryz.call34⟩ (known_cons ⟨dright_ok, Tryz.call24⟩ (known_cons ⟨dtop_ok, Tryz.call32⟩ (known_nil _)))))))))))))
theorem first_ok : firstC.ok Tryz.prog 8 := by
  refine ok_of_vc (An := fun _ => anOf []) knownFst mo Tryz.func8 (by kernel_rfl) (by kernel_rfl) (fun _ _ => trivial) (fun (_ : Unit) hs => ?_)
  clear hs
  have hra : rightB exA = true := by decide
  obtain ⟨J, hJ⟩ : ∃ J, joinF exA exB = J := ⟨_, rfl⟩
  have hj : J = exJ := by rw [← hJ]; decide
  have ht : strOfNums (textL J) = ⟨#[48, 58, 49, 45, 52, 32, 49, 58, 53, 32, 50, 58, 49]⟩ := by rw [hj]; decide +kernel
  have hta : strOfNums (textL exA) = ⟨#[48, 58, 49, 45, 51, 32, 50, 58, 49]⟩ := by decide +kernel
  have hp := parsed_text hra
  rw [hta] at hp
  obtain ⟨hp1, hp2⟩ := hp
  obtain ⟨Q, hQ⟩ : ∃ Q, Q = exA := ⟨_, rfl⟩
  rw [← hQ] at hp2
  have q1 : decide (Q = exA) = true := decide_eq_true hQ
  have q2 : Q.length = 2 := by rw [hQ]; rfl
  have c1 : cmpF exA J = -1 := by rw [hj]; decide
  have c2 : cmpF exA exB = 2 := by decide
  have c3 : cntN J = 6 := by rw [hj]; decide
  have c4 : hasB exA (0, 2) = true := by decide
  have c5 : hasB exB (0, 2) = false := by decide
  have c6 : rightB [(0, 0, 0)] = false := by decide
  have c7 : topN J 0 = 4 := by rw [hj]; decide
  have hg := get_put hra (by decide)
  obtain ⟨B, hB⟩ : ∃ B, clockBy exA = B := ⟨_, rfl⟩
  have hBl : B.length ≤ 27657 := by rw [← hB]; exact clockBy_le hra (by decide)
  have hBy : okY B := by rw [← hB]; exact okY_clock hra (by decide)
  rw [hB] at hg
  obtain ⟨G, hG⟩ : ∃ G, G = exA := ⟨_, rfl⟩
  rw [← hG] at hg
  have g1 : decide (G = exA) = true := decide_eq_true hG
  have g2 : G.length = 2 := by rw [hG]; rfl
  have hlen : exA.length = 2 := rfl
  have hlenB : exB.length = 2 := rfl
  have hlenJ : J.length = 3 := by rw [hj]; rfl
  clear hj
  have lm := And.intro ht (And.intro c1 (And.intro c2 (And.intro c3 (And.intro c4 (And.intro c5 (And.intro c6 (And.intro c7 (And.intro q1 g1))))))))
  ((repeat' ((conv => whnf) <;> first | exact True.intro | (guard_target =~ Fork _ _ _; first | refine F1 ?_ | refine F2 ?_ | refine F3 (fun h => ?_) fun h => ?_) | (guard_target =~ Ar _ _ _; first | refine A1 ?_ | refine A2 ?_ | refine A3 ?_) | (guard_target =~ AskL _ _; first | refine L1 ?_) | (guard_target =~ Go.Eng.Ask _ _; first | refine K1 ?_) | (guard_target =~ All' _ _; first | (refine Y2 fun y he he' hy => ?_; (try dsimp only at he he' hy)) | (refine Y1 fun y he hy => ?_; (try with_reducible conv at he => (rhs; whnf)); (try dsimp only at he hy)) | (refine All'.mk ?_; intro y hy)) | refine F4 (fun h => ?_) fun h => ?_ | refine R1 ?_ | refine Q1 ?_ | fail)); all_goals (conv => whnf))
  refine CallP.mk (C := djoinX) (exA, exB, J) ?_
  ((repeat' ((conv => whnf) <;> first | exact True.intro | (guard_target =~ Fork _ _ _; first | refine F1 ?_ | refine F2 ?_ | refine F3 (fun h => ?_) fun h => ?_) | (guard_target =~ Ar _ _ _; first | refine A1 ?_ | refine A2 ?_ | refine A3 ?_) | (guard_target =~ AskL _ _; first | refine L1 ?_) | (guard_target =~ Go.Eng.Ask _ _; first | refine K1 ?_) | (guard_target =~ All' _ _; first | (refine Y2 fun y he he' hy => ?_; (try dsimp only at he he' hy)) | (refine Y1 fun y he hy => ?_; (try with_reducible conv at he => (rhs; whnf)); (try dsimp only at he hy)) | (refine All'.mk ?_; intro y hy)) | refine F4 (fun h => ?_) fun h => ?_ | refine R1 ?_ | refine Q1 ?_ | fail)); all_goals (conv => whnf))
  refine CallP.mk (C := dputX) (⟨[], exA⟩, B) ?_
  ((repeat' ((conv => whnf) <;> first | exact True.intro | (guard_target =~ Fork _ _ _; first | refine F1 ?_ | refine F2 ?_ | refine F3 (fun h => ?_) fun h => ?_) | (guard_target =~ Ar _ _ _; first | refine A1 ?_ | refine A2 ?_ | refine A3 ?_) | (guard_target =~ AskL _ _; first | refine L1 ?_) | (guard_target =~ Go.Eng.Ask _ _; first | refine K1 ?_) | (guard_target =~ All' _ _; first | (refine Y2 fun y he he' hy => ?_; (try dsimp only at he he' hy)) | (refine Y1 fun y he hy => ?_; (try with_reducible conv at he => (rhs; whnf)); (try dsimp only at he hy)) | (refine All'.mk ?_; intro y hy)) | refine F4 (fun h => ?_) fun h => ?_ | refine R1 ?_ | refine Q1 ?_ | fail)); all_goals (conv => whnf))
  refine CallP.mk (C := dparseX) (⟨#[48, 58, 49, 45, 51, 32, 50, 58, 49]⟩, Q, true) ?_
  ((repeat' ((conv => whnf) <;> first | exact True.intro | (guard_target =~ Fork _ _ _; first | refine F1 ?_ | refine F2 ?_ | refine F3 (fun h => ?_) fun h => ?_) | (guard_target =~ Ar _ _ _; first | refine A1 ?_ | refine A2 ?_ | refine A3 ?_) | (guard_target =~ Go.Eng.Ask _ _; first | refine K1 ?_) | (guard_target =~ All' _ _; first | (refine Y2 fun y he he' hy => ?_; (try dsimp only at he he' hy)) | (refine Y1 fun y he hy => ?_; (try with_reducible conv at he => (rhs; whnf)); (try dsimp only at he hy)) | (refine All'.mk ?_; intro y hy)) | refine F4 (fun h => ?_) fun h => ?_ | refine R1 ?_ | refine Q1 ?_ | fail)); all_goals (conv => whnf))
  refine AskL.mk rfl ?_
  refine Ask.mk ⟨(by decide : (⟨#[48, 58, 49, 45, 51, 32, 50, 58, 49]⟩ : ByteArray).size ≤ 100000), hp2, hp1⟩ ?_
  ((repeat' ((conv => whnf) <;> first | exact True.intro | (guard_target =~ Fork _ _ _; first | refine F1 ?_ | refine F2 ?_ | refine F3 (fun h => ?_) fun h => ?_) | (guard_target =~ Ar _ _ _; first | refine A1 ?_ | refine A2 ?_ | refine A3 ?_) | (guard_target =~ AskL _ _; first | refine L1 ?_) | (guard_target =~ Go.Eng.Ask _ _; first | refine K1 ?_) | (guard_target =~ All' _ _; first | (refine Y2 fun y he he' hy => ?_; (try dsimp only at he he' hy)) | (refine Y1 fun y he hy => ?_; (try with_reducible conv at he => (rhs; whnf)); (try dsimp only at he hy)) | (refine All'.mk ?_; intro y hy)) | refine F4 (fun h => ?_) fun h => ?_ | refine R1 ?_ | refine Q1 ?_ | fail)); all_goals (conv => whnf))
  refine CallP.mk (C := dtextC) J ?_
  ((repeat' ((conv => whnf) <;> first | exact True.intro | (guard_target =~ Fork _ _ _; first | refine F1 ?_ | refine F2 ?_ | refine F3 (fun h => ?_) fun h => ?_) | (guard_target =~ Ar _ _ _; first | refine A1 ?_ | refine A2 ?_ | refine A3 ?_) | (guard_target =~ AskL _ _; first | refine L1 ?_) | (guard_target =~ Go.Eng.Ask _ _; first | refine K1 ?_) | (guard_target =~ All' _ _; first | (refine Y2 fun y he he' hy => ?_; (try dsimp only at he he' hy)) | (refine Y1 fun y he hy => ?_; (try with_reducible conv at he => (rhs; whnf)); (try dsimp only at he hy)) | (refine All'.mk ?_; intro y hy)) | refine F4 (fun h => ?_) fun h => ?_ | refine R1 ?_ | refine Q1 ?_ | fail)); all_goals (conv => whnf))
  refine CallP.mk (C := dcmpT) (exA, J) ?_
  ((repeat' ((conv => whnf) <;> first | exact True.intro | (guard_target =~ Fork _ _ _; first | refine F1 ?_ | refine F2 ?_ | refine F3 (fun h => ?_) fun h => ?_) | (guard_target =~ Ar _ _ _; first | refine A1 ?_ | refine A2 ?_ | refine A3 ?_) | (guard_target =~ AskL _ _; first | refine L1 ?_) | (guard_target =~ Go.Eng.Ask _ _; first | refine K1 ?_) | (guard_target =~ All' _ _; first | (refine Y2 fun y he he' hy => ?_; (try dsimp only at he he' hy)) | (refine Y1 fun y he hy => ?_; (try with_reducible conv at he => (rhs; whnf)); (try dsimp only at he hy)) | (refine All'.mk ?_; intro y hy)) | refine F4 (fun h => ?_) fun h => ?_ | refine R1 ?_ | refine Q1 ?_ | fail)); all_goals (conv => whnf))
  refine CallP.mk (C := dcmpT) (exA, exB) ?_
  ((repeat' ((conv => whnf) <;> first | exact True.intro | (guard_target =~ Fork _ _ _; first | refine F1 ?_ | refine F2 ?_ | refine F3 (fun h => ?_) fun h => ?_) | (guard_target =~ Ar _ _ _; first | refine A1 ?_ | refine A2 ?_ | refine A3 ?_) | (guard_target =~ AskL _ _; first | refine L1 ?_) | (guard_target =~ Go.Eng.Ask _ _; first | refine K1 ?_) | (guard_target =~ All' _ _; first | (refine Y2 fun y he he' hy => ?_; (try dsimp only at he he' hy)) | (refine Y1 fun y he hy => ?_; (try with_reducible conv at he => (rhs; whnf)); (try dsimp only at he hy)) | (refine All'.mk ?_; intro y hy)) | refine F4 (fun h => ?_) fun h => ?_ | refine R1 ?_ | refine Q1 ?_ | fail)); all_goals (conv => whnf))
  refine CallP.mk (C := dcountC) J ?_
  ((repeat' ((conv => whnf) <;> first | exact True.intro | (guard_target =~ Fork _ _ _; first | refine F1 ?_ | refine F2 ?_ | refine F3 (fun h => ?_) fun h => ?_) | (guard_target =~ Ar _ _ _; first | refine A1 ?_ | refine A2 ?_ | refine A3 ?_) | (guard_target =~ AskL _ _; first | refine L1 ?_) | (guard_target =~ Go.Eng.Ask _ _; first | refine K1 ?_) | (guard_target =~ All' _ _; first | (refine Y2 fun y he he' hy => ?_; (try dsimp only at he he' hy)) | (refine Y1 fun y he hy => ?_; (try with_reducible conv at he => (rhs; whnf)); (try dsimp only at he hy)) | (refine All'.mk ?_; intro y hy)) | refine F4 (fun h => ?_) fun h => ?_ | refine R1 ?_ | refine Q1 ?_ | fail)); all_goals (conv => whnf))
  refine CallP.mk (C := penBytesC) B ?_
  ((repeat' ((conv => whnf) <;> first | exact True.intro | (guard_target =~ Fork _ _ _; first | refine F1 ?_ | refine F2 ?_ | refine F3 (fun h => ?_) fun h => ?_) | (guard_target =~ Ar _ _ _; first | refine A1 ?_ | refine A2 ?_ | refine A3 ?_) | (guard_target =~ AskL _ _; first | refine L1 ?_) | (guard_target =~ Go.Eng.Ask _ _; first | refine K1 ?_) | (guard_target =~ All' _ _; first | (refine Y2 fun y he he' hy => ?_; (try dsimp only at he he' hy)) | (refine Y1 fun y he hy => ?_; (try with_reducible conv at he => (rhs; whnf)); (try dsimp only at he hy)) | (refine All'.mk ?_; intro y hy)) | refine F4 (fun h => ?_) fun h => ?_ | refine R1 ?_ | refine Q1 ?_ | fail)); all_goals (conv => whnf))
  refine CallP.mk (C := readC) B ?_
  ((repeat' ((conv => whnf) <;> first | exact True.intro | (guard_target =~ Fork _ _ _; first | refine F1 ?_ | refine F2 ?_ | refine F3 (fun h => ?_) fun h => ?_) | (guard_target =~ Ar _ _ _; first | refine A1 ?_ | refine A2 ?_ | refine A3 ?_) | (guard_target =~ AskL _ _; first | refine L1 ?_) | (guard_target =~ Go.Eng.Ask _ _; first | refine K1 ?_) | (guard_target =~ All' _ _; first | (refine Y2 fun y he he' hy => ?_; (try dsimp only at he he' hy)) | (refine Y1 fun y he hy => ?_; (try with_reducible conv at he => (rhs; whnf)); (try dsimp only at he hy)) | (refine All'.mk ?_; intro y hy)) | refine F4 (fun h => ?_) fun h => ?_ | refine R1 ?_ | refine Q1 ?_ | fail)); all_goals (conv => whnf))
  refine CallP.mk (C := dgetX) ⟨⟨B, 0⟩, G, ⟨[], 0⟩⟩ ?_
  ((repeat' ((conv => whnf) <;> first | exact True.intro | (guard_target =~ Fork _ _ _; first | refine F1 ?_ | refine F2 ?_ | refine F3 (fun h => ?_) fun h => ?_) | (guard_target =~ Ar _ _ _; first | refine A1 ?_ | refine A2 ?_ | refine A3 ?_) | (guard_target =~ AskL _ _; first | refine L1 ?_) | (guard_target =~ Go.Eng.Ask _ _; first | refine K1 ?_) | (guard_target =~ All' _ _; first | (refine Y2 fun y he he' hy => ?_; (try dsimp only at he he' hy)) | (refine Y1 fun y he hy => ?_; (try with_reducible conv at he => (rhs; whnf)); (try dsimp only at he hy)) | (refine All'.mk ?_; intro y hy)) | refine F4 (fun h => ?_) fun h => ?_ | refine R1 ?_ | refine Q1 ?_ | fail)); all_goals (conv => whnf))
  refine Ask.mk ⟨⟨hBy, by show B.length ≤ _; omega⟩, hg⟩ ?_
  ((repeat' ((conv => whnf) <;> first | exact True.intro | (guard_target =~ Fork _ _ _; first | refine F1 ?_ | refine F2 ?_ | refine F3 (fun h => ?_) fun h => ?_) | (guard_target =~ Ar _ _ _; first | refine A1 ?_ | refine A2 ?_ | refine A3 ?_) | (guard_target =~ AskL _ _; first | refine L1 ?_) | (guard_target =~ Go.Eng.Ask _ _; first | refine K1 ?_) | (guard_target =~ All' _ _; first | (refine Y2 fun y he he' hy => ?_; (try dsimp only at he he' hy)) | (refine Y1 fun y he hy => ?_; (try with_reducible conv at he => (rhs; whnf)); (try dsimp only at he hy)) | (refine All'.mk ?_; intro y hy)) | refine F4 (fun h => ?_) fun h => ?_ | refine R1 ?_ | refine Q1 ?_ | fail)); all_goals (conv => whnf))
  refine CallP.mk (C := equalCRu) (G, exA) ?_
  ((repeat' ((conv => whnf) <;> first | exact True.intro | (guard_target =~ Fork _ _ _; first | refine F1 ?_ | refine F2 ?_ | refine F3 (fun h => ?_) fun h => ?_) | (guard_target =~ Ar _ _ _; first | refine A1 ?_ | refine A2 ?_ | refine A3 ?_) | (guard_target =~ AskL _ _; first | refine L1 ?_) | (guard_target =~ Go.Eng.Ask _ _; first | refine K1 ?_) | (guard_target =~ All' _ _; first | (refine Y2 fun y he he' hy => ?_; (try dsimp only at he he' hy)) | (refine Y1 fun y he hy => ?_; (try with_reducible conv at he => (rhs; whnf)); (try dsimp only at he hy)) | (refine All'.mk ?_; intro y hy)) | refine F4 (fun h => ?_) fun h => ?_ | refine R1 ?_ | refine Q1 ?_ | fail)); all_goals (conv => whnf))
  refine CallP.mk (C := equalCRu) (Q, exA) ?_
  ((repeat' ((conv => whnf) <;> first | exact True.intro | (guard_target =~ Fork _ _ _; first | refine F1 ?_ | refine F2 ?_ | refine F3 (fun h => ?_) fun h => ?_) | (guard_target =~ Ar _ _ _; first | refine A1 ?_ | refine A2 ?_ | refine A3 ?_) | (guard_target =~ AskL _ _; first | refine L1 ?_) | (guard_target =~ Go.Eng.Ask _ _; first | refine K1 ?_) | (guard_target =~ All' _ _; first | (refine Y2 fun y he he' hy => ?_; (try dsimp only at he he' hy)) | (refine Y1 fun y he hy => ?_; (try with_reducible conv at he => (rhs; whnf)); (try dsimp only at he hy)) | (refine All'.mk ?_; intro y hy)) | refine F4 (fun h => ?_) fun h => ?_ | refine R1 ?_ | refine Q1 ?_ | fail)); all_goals (conv => whnf))
  refine CallP.mk (C := dhasC) (exA, (0, 2)) ?_
  ((repeat' ((conv => whnf) <;> first | exact True.intro | (guard_target =~ Fork _ _ _; first | refine F1 ?_ | refine F2 ?_ | refine F3 (fun h => ?_) fun h => ?_) | (guard_target =~ Ar _ _ _; first | refine A1 ?_ | refine A2 ?_ | refine A3 ?_) | (guard_target =~ AskL _ _; first | refine L1 ?_) | (guard_target =~ Go.Eng.Ask _ _; first | refine K1 ?_) | (guard_target =~ All' _ _; first | (refine Y2 fun y he he' hy => ?_; (try dsimp only at he he' hy)) | (refine Y1 fun y he hy => ?_; (try with_reducible conv at he => (rhs; whnf)); (try dsimp only at he hy)) | (refine All'.mk ?_; intro y hy)) | refine F4 (fun h => ?_) fun h => ?_ | refine R1 ?_ | refine Q1 ?_ | fail)); all_goals (conv => whnf))
  refine CallP.mk (C := dhasC) (exB, (0, 2)) ?_
  ((repeat' ((conv => whnf) <;> first | exact True.intro | (guard_target =~ Fork _ _ _; first | refine F1 ?_ | refine F2 ?_ | refine F3 (fun h => ?_) fun h => ?_) | (guard_target =~ Ar _ _ _; first | refine A1 ?_ | refine A2 ?_ | refine A3 ?_) | (guard_target =~ AskL _ _; first | refine L1 ?_) | (guard_target =~ Go.Eng.Ask _ _; first | refine K1 ?_) | (guard_target =~ All' _ _; first | (refine Y2 fun y he he' hy => ?_; (try dsimp only at he he' hy)) | (refine Y1 fun y he hy => ?_; (try with_reducible conv at he => (rhs; whnf)); (try dsimp only at he hy)) | (refine All'.mk ?_; intro y hy)) | refine F4 (fun h => ?_) fun h => ?_ | refine R1 ?_ | refine Q1 ?_ | fail)); all_goals (conv => whnf))
  refine CallP.mk (C := drightC) [(0, 0, 0)] ?_
  ((repeat' ((conv => whnf) <;> first | exact True.intro | (guard_target =~ Fork _ _ _; first | refine F1 ?_ | refine F2 ?_ | refine F3 (fun h => ?_) fun h => ?_) | (guard_target =~ Ar _ _ _; first | refine A1 ?_ | refine A2 ?_ | refine A3 ?_) | (guard_target =~ AskL _ _; first | refine L1 ?_) | (guard_target =~ Go.Eng.Ask _ _; first | refine K1 ?_) | (guard_target =~ All' _ _; first | (refine Y2 fun y he he' hy => ?_; (try dsimp only at he he' hy)) | (refine Y1 fun y he hy => ?_; (try with_reducible conv at he => (rhs; whnf)); (try dsimp only at he hy)) | (refine All'.mk ?_; intro y hy)) | refine F4 (fun h => ?_) fun h => ?_ | refine R1 ?_ | refine Q1 ?_ | fail)); all_goals (conv => whnf))
  refine CallP.mk (C := dtopC) (J, 0) ?_
  exact G1
end Go.Proofs.YtoaaieiiamdopaaGreatDoor

set_option linter.unusedVariables false
set_option linter.unusedSimpArgs false
set_option maxRecDepth 100000
set_option maxHeartbeats 4000000
namespace Go.Proofs.YtoaaieiiamdopaaGreatDoor
open Go.Eng
variable [DM]
set_option linter.unusedSectionVars false
/-- What the laws are given: two clocks, a dot, a number. -/
structure GrX where
  a : List Run
  b : List Run
  d : Dot
  n : Int
def greatF (x : GrX) : Bool := decide (40 < x.a.length) || decide (40 < x.b.length)
@[reducible] def grV (x : GrX) : SV := .agg [.ro true runT x.a, .ro true runT x.b, .v (.int .i64 x.d.1), .v (.int .i64 x.d.2), .v (.int .i64 x.n)]
@[reducible] def greatC : Ctr := {
  X := GrX
  Y := Unit
  args := fun x => [grV x]
  rw := fun _ => []
  side := fun x => x.a.length ≤ 9223372036854775807 ∧ x.b.length ≤ 9223372036854775807
  val := fun _ => ()
  ens := fun _ _ => True
  res := fun x _ => .v (.bool (greatF x))
  out := fun _ _ => [] }
theorem great_ok : greatC.ok Tryz.prog 9 := by
  refine ok_of_vc (An := fun _ => anOf []) (known_nil _) mo Tryz.func9 (by kernel_rfl) (by kernel_rfl) (fun _ _ => trivial) (fun (x : GrX) hs => ?_)
  obtain ⟨a, b, d, n⟩ := x
  obtain ⟨h1, h2⟩ : a.length ≤ 9223372036854775807 ∧ b.length ≤ 9223372036854775807 := hs
  by_cases h3 : 40 < a.length
  · have hg : greatF ⟨a, b, d, n⟩ = true := by unfold greatF; rw [decide_eq_true h3]; rfl
    have lm := hg
    exact G1
  · have hg : greatF ⟨a, b, d, n⟩ = decide (40 < b.length) := by unfold greatF; rw [decide_eq_false h3]; rfl
    ((repeat' ((conv => whnf) <;> first | exact True.intro | (guard_target =~ Fork _ _ _; first | refine F1 ?_ | refine F2 ?_ | refine F3 (fun h => ?_) fun h => ?_) | (guard_target =~ Ar _ _ _; first | refine A1 ?_ | refine A2 ?_ | refine A3 ?_) | (guard_target =~ AskL _ _; first | refine L1 ?_) | (guard_target =~ Go.Eng.Ask _ _; first | refine K1 ?_) | (guard_target =~ All' _ _; first | (refine Y2 fun y he he' hy => ?_; (try dsimp only at he he' hy)) | (refine Y1 fun y he hy => ?_; (try with_reducible conv at he => (rhs; whnf)); (try dsimp only at he hy)) | (refine All'.mk ?_; intro y hy)) | refine F4 (fun h => ?_) fun h => ?_ | refine R1 ?_ | refine Q1 ?_ | fail)); all_goals (conv => whnf))
    refine AskL.mk ?_ trivial
    dsimp only [conj]
    rw [hg]
    exact decide_eq_decide.2 (by show ((b.length : Nat) : Int) > 40 ↔ 40 < b.length; omega)
end Go.Proofs.YtoaaieiiamdopaaGreatDoor

set_option linter.unusedVariables false
set_option linter.unusedSimpArgs false
set_option maxRecDepth 100000
set_option maxHeartbeats 4000000
namespace Go.Proofs.YtoaaieiiamdopaaGreatDoor
open Go.Eng
theorem with_len (c : List Run) (d : Dot) : (withF c d).length ≤ c.length + 1 := by
  unfold withF
  split
  · exact add_len _ _ _
  · simp
theorem joinF_len (a b : List Run) : (joinF a b).length ≤ a.length + b.length := by
  unfold joinF
  split
  · exact join_len b a
  · simp
theorem of_len (c : List Run) (n : Int) : (ofF c n).length ≤ c.length := by
  unfold ofF
  split
  · exact List.length_filter_le _ _
  · simp
theorem great_no {x : GrX} (h : greatF x = false) : x.a.length ≤ 40 ∧ x.b.length ≤ 40 := by
  unfold greatF at h
  simp only [Bool.or_eq_false_iff, decide_eq_false_iff_not] at h
  omega
@[reducible] def dgoodU : Ctr := { dgoodC with Y := Unit, val := fun _ => (), ens := fun _ _ => True, res := fun d _ => .v (.bool (goodB d)), out := fun _ _ => [] }
theorem dgoodU_re {f : FuncId} (h : dgoodC.ok Tryz.prog f) : dgoodU.ok Tryz.prog f := ctr_re (C := dgoodC) (fun x => x) (fun x h => ⟨h, trivial, rfl, rfl, rfl, rfl⟩) h
@[reducible] def drightU : Ctr := { drightC with Y := Unit, val := fun _ => (), ens := fun _ _ => True, res := fun c _ => .v (.bool (rightB c)), out := fun _ _ => [] }
theorem drightU_re {f : FuncId} (h : drightC.ok Tryz.prog f) : drightU.ok Tryz.prog f := ctr_re (C := drightC) (fun x => x) (fun x h => ⟨h, trivial, rfl, rfl, rfl, rfl⟩) h
@[reducible] def dtopU : Ctr := { dtopC with Y := Unit, val := fun _ => (), ens := fun _ _ => True, res := fun x _ => .v (.int .i64 (topN x.1 x.2)), out := fun _ _ => [] }
theorem dtopU_re {f : FuncId} (h : dtopC.ok Tryz.prog f) : dtopU.ok Tryz.prog f := ctr_re (C := dtopC) (fun x => x) (fun x h => ⟨h, trivial, rfl, rfl, rfl, rfl⟩) h
end Go.Proofs.YtoaaieiiamdopaaGreatDoor

set_option linter.unusedVariables false
set_option linter.unusedSimpArgs false
set_option maxRecDepth 100000
set_option maxHeartbeats 4000000
namespace Go.Proofs.YtoaaieiiamdopaaGreatDoor
open Go.Eng
end Go.Proofs.YtoaaieiiamdopaaGreatDoor

set_option linter.unusedVariables false
set_option linter.unusedSimpArgs false
set_option maxRecDepth 100000
set_option maxHeartbeats 4000000
namespace Go.Proofs.YtoaaieiiamdopaaGreatDoor
open Go.Eng
structure MeeX where
  a : List Run
  b : List Run
@[reducible] def meetsC : Ctr := {
  X := MeeX
  Y := Unit
  args := fun x => [.ro true runT x.a, .ro true runT x.b]
  rw := fun _ => []
  side := fun x => x.a.length ≤ 1000 ∧ x.b.length ≤ 1000
  val := fun _ => ()
  ens := fun _ _ => True
  res := fun _ _ => .sl 1000
  out := fun x _ => [(1000, .row 57 runT (mtF x.b x.a))] }
structure MeS2 where
  i : Nat
  r : Run
  j : Nat
@[reducible] def meL0 (x : MeeX) : LA := {
  X := Nat
  pre := fun i => i ≤ x.a.length
  mu := fun i => x.a.length - i
  T := fun i => [(1, .ro true runT x.b), (5, .sl 2), (10, .ro true runT x.a), (11, .v (.int .i64 x.a.length)), (12, .v (.int .i64 (i : Nat)))]
  M := fun i => [(2, .row 57 runT (mtF x.b (x.a.take i)))] }
@[reducible] def meL2 (x : MeeX) (m1 : Nat) : LA := {
  X := MeS2
  pre := fun s => (x.a[s.i]? = some s.r ∧ x.a.length - s.i = m1) ∧ s.j ≤ x.b.length
  mu := fun s => x.b.length - s.j
  T := fun s => [(1, .ro true runT x.b), (5, .sl 2), (10, .ro true runT x.a), (11, .v (.int .i64 x.a.length)), (12, .v (.int .i64 (s.i : Nat))), (7, .ptr 3 0), (16, .ro true runT x.b), (17, .v (.int .i64 x.b.length)), (18, .v (.int .i64 (s.j : Nat)))]
  M := fun s => [(2, .row 57 runT (mtF x.b (x.a.take s.i) ++ mtR s.r (x.b.take s.j))), (3, .cells 57 (runS s.r))] }
theorem meets_ok : meetsC.ok Tryz.prog 46 := by
  refine ok_of_vc (An := fun (x : MeeX) => anOfM fun ms => [(0, .loop (meL0 x)), (2, .loop (meL2 x (ms.headD 0)))]) (known_nil _) mo Tryz.func46 (by kernel_rfl) (by kernel_rfl) (fun _ _ => trivial) (fun (x : MeeX) hs => ?_)
  obtain ⟨a, b⟩ := x
  obtain ⟨la, lb⟩ : a.length ≤ 1000 ∧ b.length ≤ 1000 := hs
  have h0 : mtF b (a.take 0) = [] := rfl
  ((repeat' ((conv => whnf) <;> first | exact True.intro | (guard_target =~ Fork _ _ _; first | refine F1 ?_ | refine F2 ?_ | refine F3 (fun h => ?_) fun h => ?_) | (guard_target =~ Ar _ _ _; first | refine A1 ?_ | refine A2 ?_ | refine A3 ?_) | (guard_target =~ AskL _ _; first | refine L1 ?_) | (guard_target =~ Go.Eng.Ask _ _; first | refine K1 ?_) | (guard_target =~ All' _ _; first | (refine Y2 fun y he he' hy => ?_; (try dsimp only at he he' hy)) | (refine Y1 fun y he hy => ?_; (try with_reducible conv at he => (rhs; whnf)); (try dsimp only at he hy)) | (refine All'.mk ?_; intro y hy)) | refine F4 (fun h => ?_) fun h => ?_ | refine R1 ?_ | refine Q1 ?_ | fail)); all_goals (conv => whnf))
  refine Some'.mk (0 : Nat) ?_
  ((repeat' ((conv => whnf) <;> first | exact True.intro | (guard_target =~ Fork _ _ _; first | refine F1 ?_ | refine F2 ?_ | refine F3 (fun h => ?_) fun h => ?_) | (guard_target =~ Ar _ _ _; first | refine A1 ?_ | refine A2 ?_ | refine A3 ?_) | (guard_target =~ AskL _ _; first | refine L1 ?_) | (guard_target =~ Go.Eng.Ask _ _; first | refine K1 ?_) | (guard_target =~ All' _ _; first | (refine Y2 fun y he he' hy => ?_; (try dsimp only at he he' hy)) | (refine Y1 fun y he hy => ?_; (try with_reducible conv at he => (rhs; whnf)); (try dsimp only at he hy)) | (refine All'.mk ?_; intro y hy)) | refine F4 (fun h => ?_) fun h => ?_ | refine R1 ?_ | refine Q1 ?_ | fail)); all_goals (conv => whnf))
  refine AllI.mk ?_
  rintro (i : Nat) i1
  have i1 : i ≤ a.length := i1
  clear h0
  have hl := mtF_len b (a.take i)
  have hl2 : (mtF b (a.take i)).length ≤ 1000000 := by
    rw [List.length_take] at hl
    exact Nat.le_trans hl (Nat.mul_le_mul (show min i a.length ≤ 1000 by omega) lb)
  by_cases hi : i = a.length
  · subst hi
    rw [List.take_length] at hl2 hl
    try dsimp only [meL0]
    rw [List.take_length]
    exact G1
  · obtain ⟨⟨p, f, t⟩, hr⟩ := get_ex (show i < a.length by omega)
    have h0 : mtF b (a.take i) ++ mtR (p, f, t) (b.take 0) = mtF b (a.take i) := List.append_nil _
    ((repeat' ((conv => whnf) <;> first | exact True.intro | (guard_target =~ Fork _ _ _; first | refine F1 ?_ | refine F2 ?_ | refine F3 (fun h => ?_) fun h => ?_) | (guard_target =~ Ar _ _ _; first | refine A1 ?_ | refine A2 ?_ | refine A3 ?_) | (guard_target =~ AskL _ _; first | refine L1 ?_) | (guard_target =~ Go.Eng.Ask _ _; first | refine K1 ?_) | (guard_target =~ All' _ _; first | (refine Y2 fun y he he' hy => ?_; (try dsimp only at he he' hy)) | (refine Y1 fun y he hy => ?_; (try with_reducible conv at he => (rhs; whnf)); (try dsimp only at he hy))) | refine F4 (fun h => ?_) fun h => ?_ | refine R1 ?_ | refine Q1 ?_ | fail)); all_goals (conv => whnf))
    refine All'.mk ?_; rintro (r' : Run) hr'
    obtain rfl : (p, f, t) = r' := Option.some.inj (hr.symm.trans hr')
    clear hr'
    refine Some'.mk ⟨i, (p, f, t), 0⟩ ?_
    ((repeat' ((conv => whnf) <;> first | exact True.intro | (guard_target =~ Fork _ _ _; first | refine F1 ?_ | refine F2 ?_ | refine F3 (fun h => ?_) fun h => ?_) | (guard_target =~ Ar _ _ _; first | refine A1 ?_ | refine A2 ?_ | refine A3 ?_) | (guard_target =~ AskL _ _; first | refine L1 ?_) | (guard_target =~ Go.Eng.Ask _ _; first | refine K1 ?_) | (guard_target =~ All' _ _; first | (refine Y2 fun y he he' hy => ?_; (try dsimp only at he he' hy)) | (refine Y1 fun y he hy => ?_; (try with_reducible conv at he => (rhs; whnf)); (try dsimp only at he hy)) | (refine All'.mk ?_; intro y hy)) | refine F4 (fun h => ?_) fun h => ?_ | refine R1 ?_ | refine Q1 ?_ | fail)); all_goals (conv => whnf))
    refine Ask.mk ⟨⟨hr, rfl⟩, Nat.zero_le _⟩ ?_
    clear h0 hl hl2
    ((repeat' ((conv => whnf) <;> first | exact True.intro | (guard_target =~ Fork _ _ _; first | refine F1 ?_ | refine F2 ?_ | refine F3 (fun h => ?_) fun h => ?_) | (guard_target =~ Ar _ _ _; first | refine A1 ?_ | refine A2 ?_ | refine A3 ?_) | (guard_target =~ AskL _ _; first | refine L1 ?_) | (guard_target =~ Go.Eng.Ask _ _; first | refine K1 ?_) | (guard_target =~ All' _ _; first | (refine Y2 fun y he he' hy => ?_; (try dsimp only at he he' hy)) | (refine Y1 fun y he hy => ?_; (try with_reducible conv at he => (rhs; whnf)); (try dsimp only at he hy)) | (refine All'.mk ?_; intro y hy)) | refine F4 (fun h => ?_) fun h => ?_ | refine R1 ?_ | refine Q1 ?_ | fail)); all_goals (conv => whnf))
    refine AllI.mk ?_
    rintro ⟨i', ⟨p', f', t'⟩, j⟩ ⟨⟨j0, j1⟩, j2⟩
    have j1 : a.length - i' = a.length - i := j1
    dsimp only at j0 j2
    have j2 : j ≤ b.length := j2
    have hil := (List.getElem?_eq_some_iff.1 j0).1
    obtain rfl : i' = i := by omega
    obtain ⟨rfl, rfl, rfl⟩ : p = p' ∧ f = f' ∧ t = t' := by
      have := Option.some.inj (hr.symm.trans j0)
      exact ⟨congrArg (·.1) this, congrArg (·.2.1) this, congrArg (·.2.2) this⟩
    have hl := mtF_len b (a.take i')
    have hl2 : (mtF b (a.take i')).length ≤ 1000000 := by
      rw [List.length_take] at hl
      exact Nat.le_trans hl (Nat.mul_le_mul (show min i' a.length ≤ 1000 by omega) lb)
    have hl3 := mtR_len (p, f, t) (b.take j)
    rw [List.length_take] at hl3
    have hl4 : (mtF b (a.take i') ++ mtR (p, f, t) (b.take j)).length ≤ 1001000 := by rw [List.length_append]; omega
    have hst : mtF b (a.take (i' + 1)) = mtF b (a.take i') ++ mtR (p, f, t) b := by rw [take_sn hr, mtF_snoc]
    by_cases hj : j = b.length
    · subst hj
      have hst2 : mtF b (a.take i') ++ mtR (p, f, t) (b.take b.length) = mtF b (a.take (i' + 1)) := by rw [List.take_length, hst]
      try dsimp only [meL2]
      rw [hst2]
      ((repeat' ((conv => whnf) <;> first | exact True.intro | (guard_target =~ Fork _ _ _; first | refine F1 ?_ | refine F2 ?_ | refine F3 (fun h => ?_) fun h => ?_) | (guard_target =~ Ar _ _ _; first | refine A1 ?_ | refine A2 ?_ | refine A3 ?_) | (guard_target =~ AskL _ _; first | refine L1 ?_) | (guard_target =~ Go.Eng.Ask _ _; first | refine K1 ?_) | (guard_target =~ All' _ _; first | (refine Y2 fun y he he' hy => ?_; (try dsimp only at he he' hy)) | (refine Y1 fun y he hy => ?_; (try with_reducible conv at he => (rhs; whnf)); (try dsimp only at he hy)) | (refine All'.mk ?_; intro y hy)) | refine F4 (fun h => ?_) fun h => ?_ | refine R1 ?_ | refine Q1 ?_ | fail)); all_goals (conv => whnf))
      refine Some'.mk (i' + 1 : Nat) ?_
      exact G1
    · obtain ⟨⟨q, g, u⟩, hh⟩ := get_ex (show j < b.length by omega)
      have hsn : mtR (p, f, t) (b.take (j + 1)) = if meetP (p, f, t) (q, g, u) then mtR (p, f, t) (b.take j) ++ [(p, f, t)] else mtR (p, f, t) (b.take j) := by rw [take_sn hh, mtR_snoc]
      ((repeat' ((conv => whnf) <;> first | exact True.intro | (guard_target =~ Fork _ _ _; first | refine F1 ?_ | refine F2 ?_ | refine F3 (fun h => ?_) fun h => ?_) | (guard_target =~ Ar _ _ _; first | refine A1 ?_ | refine A2 ?_ | refine A3 ?_) | (guard_target =~ AskL _ _; first | refine L1 ?_) | (guard_target =~ Go.Eng.Ask _ _; first | refine K1 ?_) | (guard_target =~ All' _ _; first | (refine Y2 fun y he he' hy => ?_; (try dsimp only at he he' hy)) | (refine Y1 fun y he hy => ?_; (try with_reducible conv at he => (rhs; whnf)); (try dsimp only at he hy))) | refine F4 (fun h => ?_) fun h => ?_ | refine R1 ?_ | refine Q1 ?_ | fail)); all_goals (conv => whnf))
      refine All'.mk ?_; rintro (h' : Run) hh'
      obtain rfl : (q, g, u) = h' := Option.some.inj (hh.symm.trans hh')
      clear hh'
      by_cases hin : meetP (p, f, t) (q, g, u)
      · rw [if_pos hin] at hsn
        have hsn2 : mtF b (a.take i') ++ mtR (p, f, t) (b.take (j + 1)) = (mtF b (a.take i') ++ mtR (p, f, t) (b.take j)) ++ [(p, f, t)] := by rw [hsn, List.append_assoc]
        unfold meetP at hin; dsimp only at hin
        obtain ⟨e1, e2, e3⟩ := hin
        ((repeat' ((conv => whnf) <;> first | exact True.intro | (guard_target =~ Fork _ _ _; first | refine F1 ?_ | refine F2 ?_ | refine F3 (fun h => ?_) fun h => ?_) | (guard_target =~ Ar _ _ _; first | refine A1 ?_ | refine A2 ?_ | refine A3 ?_) | (guard_target =~ AskL _ _; first | refine L1 ?_) | (guard_target =~ Go.Eng.Ask _ _; first | refine K1 ?_) | (guard_target =~ All' _ _; first | (refine Y2 fun y he he' hy => ?_; (try dsimp only at he he' hy)) | (refine Y1 fun y he hy => ?_; (try with_reducible conv at he => (rhs; whnf)); (try dsimp only at he hy)) | (refine All'.mk ?_; intro y hy)) | refine F4 (fun h => ?_) fun h => ?_ | refine R1 ?_ | refine Q1 ?_ | fail)); all_goals (conv => whnf))
        refine Some'.mk ⟨i', (p, f, t), j + 1⟩ ?_
        try dsimp only [meL2]
        rw [hsn2]
        ((repeat' ((conv => whnf) <;> first | exact True.intro | (guard_target =~ Fork _ _ _; first | refine F1 ?_ | refine F2 ?_ | refine F3 (fun h => ?_) fun h => ?_) | (guard_target =~ Ar _ _ _; first | refine A1 ?_ | refine A2 ?_ | refine A3 ?_) | (guard_target =~ AskL _ _; first | refine L1 ?_) | (guard_target =~ Go.Eng.Ask _ _; first | refine K1 ?_) | (guard_target =~ All' _ _; first | (refine Y2 fun y he he' hy => ?_; (try dsimp only at he he' hy)) | (refine Y1 fun y he hy => ?_; (try with_reducible conv at he => (rhs; whnf)); (try dsimp only at he hy)) | (refine All'.mk ?_; intro y hy)) | refine F4 (fun h => ?_) fun h => ?_ | refine R1 ?_ | refine Q1 ?_ | fail)); all_goals (conv => whnf))
        refine Ask.mk ⟨⟨hr, rfl⟩, by show j + 1 ≤ b.length; omega⟩ ?_
        exact G1
      · rw [if_neg hin] at hsn
        have hin2 : ¬ (p = q ∧ f ≤ u ∧ g ≤ t) := hin
        by_cases e1 : p = q
        · by_cases e2 : f ≤ u
          · have e3 : ¬ g ≤ t := fun h => hin2 ⟨e1, e2, h⟩
            ((repeat' ((conv => whnf) <;> first | exact True.intro | (guard_target =~ Fork _ _ _; first | refine F1 ?_ | refine F2 ?_ | refine F3 (fun h => ?_) fun h => ?_) | (guard_target =~ Ar _ _ _; first | refine A1 ?_ | refine A2 ?_ | refine A3 ?_) | (guard_target =~ AskL _ _; first | refine L1 ?_) | (guard_target =~ Go.Eng.Ask _ _; first | refine K1 ?_) | (guard_target =~ All' _ _; first | (refine Y2 fun y he he' hy => ?_; (try dsimp only at he he' hy)) | (refine Y1 fun y he hy => ?_; (try with_reducible conv at he => (rhs; whnf)); (try dsimp only at he hy)) | (refine All'.mk ?_; intro y hy)) | refine F4 (fun h => ?_) fun h => ?_ | refine R1 ?_ | refine Q1 ?_ | fail)); all_goals (conv => whnf))
            refine Some'.mk ⟨i', (p, f, t), j + 1⟩ ?_
            try dsimp only [meL2]
            rw [hsn]
            ((repeat' ((conv => whnf) <;> first | exact True.intro | (guard_target =~ Fork _ _ _; first | refine F1 ?_ | refine F2 ?_ | refine F3 (fun h => ?_) fun h => ?_) | (guard_target =~ Ar _ _ _; first | refine A1 ?_ | refine A2 ?_ | refine A3 ?_) | (guard_target =~ AskL _ _; first | refine L1 ?_) | (guard_target =~ Go.Eng.Ask _ _; first | refine K1 ?_) | (guard_target =~ All' _ _; first | (refine Y2 fun y he he' hy => ?_; (try dsimp only at he he' hy)) | (refine Y1 fun y he hy => ?_; (try with_reducible conv at he => (rhs; whnf)); (try dsimp only at he hy)) | (refine All'.mk ?_; intro y hy)) | refine F4 (fun h => ?_) fun h => ?_ | refine R1 ?_ | refine Q1 ?_ | fail)); all_goals (conv => whnf))
            refine Ask.mk ⟨⟨hr, rfl⟩, by show j + 1 ≤ b.length; omega⟩ ?_
            exact G1
          · ((repeat' ((conv => whnf) <;> first | exact True.intro | (guard_target =~ Fork _ _ _; first | refine F1 ?_ | refine F2 ?_ | refine F3 (fun h => ?_) fun h => ?_) | (guard_target =~ Ar _ _ _; first | refine A1 ?_ | refine A2 ?_ | refine A3 ?_) | (guard_target =~ AskL _ _; first | refine L1 ?_) | (guard_target =~ Go.Eng.Ask _ _; first | refine K1 ?_) | (guard_target =~ All' _ _; first | (refine Y2 fun y he he' hy => ?_; (try dsimp only at he he' hy)) | (refine Y1 fun y he hy => ?_; (try with_reducible conv at he => (rhs; whnf)); (try dsimp only at he hy)) | (refine All'.mk ?_; intro y hy)) | refine F4 (fun h => ?_) fun h => ?_ | refine R1 ?_ | refine Q1 ?_ | fail)); all_goals (conv => whnf))
            refine Some'.mk ⟨i', (p, f, t), j + 1⟩ ?_
            try dsimp only [meL2]
            rw [hsn]
            ((repeat' ((conv => whnf) <;> first | exact True.intro | (guard_target =~ Fork _ _ _; first | refine F1 ?_ | refine F2 ?_ | refine F3 (fun h => ?_) fun h => ?_) | (guard_target =~ Ar _ _ _; first | refine A1 ?_ | refine A2 ?_ | refine A3 ?_) | (guard_target =~ AskL _ _; first | refine L1 ?_) | (guard_target =~ Go.Eng.Ask _ _; first | refine K1 ?_) | (guard_target =~ All' _ _; first | (refine Y2 fun y he he' hy => ?_; (try dsimp only at he he' hy)) | (refine Y1 fun y he hy => ?_; (try with_reducible conv at he => (rhs; whnf)); (try dsimp only at he hy)) | (refine All'.mk ?_; intro y hy)) | refine F4 (fun h => ?_) fun h => ?_ | refine R1 ?_ | refine Q1 ?_ | fail)); all_goals (conv => whnf))
            refine Ask.mk ⟨⟨hr, rfl⟩, by show j + 1 ≤ b.length; omega⟩ ?_
            exact G1
        · ((repeat' ((conv => whnf) <;> first | exact True.intro | (guard_target =~ Fork _ _ _; first | refine F1 ?_ | refine F2 ?_ | refine F3 (fun h => ?_) fun h => ?_) | (guard_target =~ Ar _ _ _; first | refine A1 ?_ | refine A2 ?_ | refine A3 ?_) | (guard_target =~ AskL _ _; first | refine L1 ?_) | (guard_target =~ Go.Eng.Ask _ _; first | refine K1 ?_) | (guard_target =~ All' _ _; first | (refine Y2 fun y he he' hy => ?_; (try dsimp only at he he' hy)) | (refine Y1 fun y he hy => ?_; (try with_reducible conv at he => (rhs; whnf)); (try dsimp only at he hy)) | (refine All'.mk ?_; intro y hy)) | refine F4 (fun h => ?_) fun h => ?_ | refine R1 ?_ | refine Q1 ?_ | fail)); all_goals (conv => whnf))
          refine Some'.mk ⟨i', (p, f, t), j + 1⟩ ?_
          try dsimp only [meL2]
          rw [hsn]
          ((repeat' ((conv => whnf) <;> first | exact True.intro | (guard_target =~ Fork _ _ _; first | refine F1 ?_ | refine F2 ?_ | refine F3 (fun h => ?_) fun h => ?_) | (guard_target =~ Ar _ _ _; first | refine A1 ?_ | refine A2 ?_ | refine A3 ?_) | (guard_target =~ AskL _ _; first | refine L1 ?_) | (guard_target =~ Go.Eng.Ask _ _; first | refine K1 ?_) | (guard_target =~ All' _ _; first | (refine Y2 fun y he he' hy => ?_; (try dsimp only at he he' hy)) | (refine Y1 fun y he hy => ?_; (try with_reducible conv at he => (rhs; whnf)); (try dsimp only at he hy)) | (refine All'.mk ?_; intro y hy)) | refine F4 (fun h => ?_) fun h => ?_ | refine R1 ?_ | refine Q1 ?_ | fail)); all_goals (conv => whnf))
          refine Ask.mk ⟨⟨hr, rfl⟩, by show j + 1 ≤ b.length; omega⟩ ?_
          exact G1
end Go.Proofs.YtoaaieiiamdopaaGreatDoor

set_option linter.unusedVariables false
set_option linter.unusedSimpArgs false
set_option maxRecDepth 100000
namespace Go.Proofs.YtoaaieiiamdopaaGreatDoor
open Go.Eng
theorem join_rt {a b : List Run} (ha : Rt a) (hb : Rt b) : joinF a b = joinL a b ∧ Rt (joinF a b) ∧ ∀ d, inC (joinF a b) d ↔ inC a d ∨ inC b d := by
  have e : joinF a b = joinL a b := by unfold joinF; rw [right_iff.2 ha, right_iff.2 hb]; rfl
  rw [e]
  exact ⟨rfl, (join_ok b a ha hb.all).1, (join_ok b a ha hb.all).2⟩
theorem has_rt {c : List Run} (hc : Rt c) (d : Dot) : hasB c d = (goodB d && inB c d) := by
  unfold hasB; rw [right_iff.2 hc, Bool.true_and]
theorem has_iff {c : List Run} (hc : Rt c) (d : Dot) : hasB c d = true ↔ goodB d = true ∧ inC c d := by
  rw [has_rt hc, Bool.and_eq_true, inB_iff]
theorem set_join {a b : List Run} (ha : Rt a) (hb : Rt b) (d : Dot) : hasB (joinF a b) d = (hasB a d || hasB b d) := by
  obtain ⟨-, j1, j2⟩ := join_rt ha hb
  rw [Bool.eq_iff_iff, Bool.or_eq_true, has_iff j1, has_iff ha, has_iff hb, j2]
  exact ⟨fun h => h.2.imp (⟨h.1, ·⟩) (⟨h.1, ·⟩), fun h => h.elim (fun k => ⟨k.1, .inl k.2⟩) (fun k => ⟨k.1, .inr k.2⟩)⟩
theorem set_with {a : List Run} (ha : Rt a) {e : Dot} (he : goodB e = true) (d : Dot) : hasB (withF a e) d = (hasB a d || decide (d = e)) := by
  have h0 : withF a e = addF (e.1, e.2, e.2) false a := by unfold withF; rw [right_iff.2 ha, he]; rfl
  obtain ⟨j1, j2, -⟩ := add_ok a (e.1, e.2, e.2) ha (good_run he)
  rw [h0, Bool.eq_iff_iff, Bool.or_eq_true, has_iff j1, has_iff ha, decide_eq_true_eq, j2]
  have h1 : inR (e.1, e.2, e.2) d ↔ d = e := by
    unfold inR; dsimp only
    constructor
    · rintro ⟨h1, h2, h3⟩; exact Prod.ext h1.symm (by omega)
    · rintro rfl; exact ⟨rfl, Int.le_refl _, Int.le_refl _⟩
  rw [h1]
  constructor
  · rintro ⟨h2, h3 | h3⟩
    · exact .inr h3
    · exact .inl ⟨h2, h3⟩
  · rintro (h2 | h2)
    · exact ⟨h2.1, .inr h2.2⟩
    · exact ⟨h2 ▸ he, .inl h2⟩
theorem filter_rt {c : List Run} (hc : Rt c) (p : Run → Bool) : Rt (c.filter p) := ⟨fun r hr => hc.all r (List.mem_filter.1 hr).1, hc.gap.filter p⟩
theorem set_of {a : List Run} (ha : Rt a) (n : Int) (d : Dot) : hasB (ofF a n) d = (hasB a d && decide (d.1 = n)) := by
  have h0 : ofF a n = a.filter (nodeB n) := by unfold ofF; rw [right_iff.2 ha]; rfl
  rw [h0, Bool.eq_iff_iff, Bool.and_eq_true, has_iff (filter_rt ha _), has_iff ha, decide_eq_true_eq]
  have h1 : inC (a.filter (nodeB n)) d ↔ inC a d ∧ d.1 = n := by
    unfold inC
    simp only [List.mem_filter]
    constructor
    · rintro ⟨r, ⟨h1, h2⟩, h3⟩
      have h2 : r.1 = n := of_decide_eq_true h2
      refine ⟨⟨r, h1, h3⟩, ?_⟩
      unfold inR at h3; omega
    · rintro ⟨⟨r, h1, h3⟩, h2⟩
      refine ⟨r, ⟨h1, decide_eq_true ?_⟩, h3⟩
      unfold inR at h3; omega
  rw [h1, and_assoc]
theorem topF_ge (node : Int) : ∀ (c : List Run) (n : Int), Rt c → (∀ r, r ∈ c → r.1 = node → n ≤ r.2.2) → n ≤ topF node n c ∧ ∀ r, r ∈ c → r.1 = node → r.2.2 ≤ topF node n c
  | [], n, _, _ => ⟨Int.le_refl _, fun r h => nomatch h⟩
  | x :: l, n, hc, hn => by
    have hx := hc.hd
    have h1 := topF_ge node l (if x.1 = node then x.2.2 else n) hc.tail (fun r hr e => by
      have hr2 := hc.tail.all r hr
      have hg := hc.gaps r hr
      unfold gapP at hg; unfold runP at hr2
      split
      · omega
      · exact hn r (List.mem_cons_of_mem _ hr) e)
    have e : topF node n (x :: l) = topF node (if x.1 = node then x.2.2 else n) l := rfl
    rw [e]
    refine ⟨?_, fun r hr h2 => ?_⟩
    · have := hn x (List.mem_cons_self ..)
      refine Int.le_trans ?_ h1.1
      split
      · rename_i h3; exact this h3
      · exact Int.le_refl _
    · rcases List.mem_cons.1 hr with rfl | hr
      · have := h1.1
        rw [if_pos h2] at this ⊢; exact this
      · exact h1.2 r hr h2
theorem set_top {a : List Run} (ha : Rt a) {d : Dot} (h : hasB a d = true) : d.2 ≤ topN a d.1 := by
  obtain ⟨-, r, hr, hi⟩ := (has_iff ha d).1 h
  have h1 := (topF_ge d.1 a 0 ha (fun r hr _ => by have := ha.all r hr; unfold runP at this; omega)).2 r hr
  rw [topN_right (right_iff.2 ha)]
  unfold inR at hi
  have := h1 hi.1
  omega
theorem set_count {a b : List Run} (ha : Rt a) (hb : Rt b) : cntN (joinF a b) ≤ cntN a + cntN b ∧ cntN a ≤ cntN (joinF a b) ∧ cntN b ≤ cntN (joinF a b) ∧
    (cntN (joinF a b) = cntN a + cntN b ↔ (mtF b a).length = 0) := by
  obtain ⟨e, j1, -⟩ := join_rt ha hb
  have h1 : ∀ {c}, Rt c → cntN c = cntL c := fun h => by unfold cntN; rw [right_iff.2 h]; rfl
  rw [h1 j1, h1 ha, h1 hb, e, List.length_eq_zero_iff, mt_dots ha hb]
  exact join_cnt ha hb

theorem above_rt {a b : List Run} (ha : Rt a) (hb : Rt b) : aboveF a b = true ↔ ∀ d, inC b d → inC a d := by
  rw [← below_iff hb ha]
  unfold aboveF cmpF
  rw [right_iff.2 ha, right_iff.2 hb]
  cases belowB a b <;> cases belowB b a <;> decide
theorem least {a b c : List Run} (ha : Rt a) (hb : Rt b) (hc : Rt c) : aboveF (joinF a b) a = true ∧ aboveF (joinF a b) b = true ∧ (aboveF c a = true → aboveF c b = true → aboveF c (joinF a b) = true) ∧
    joinF a b = joinF b a ∧ joinF (joinF a b) c = joinF a (joinF b c) ∧ joinF a a = a ∧ (aboveF a b = true → aboveF b a = true → a = b) := by
  obtain ⟨-, j1, j2⟩ := join_rt ha hb
  obtain ⟨-, k1, k2⟩ := join_rt hb ha
  obtain ⟨-, l1, l2⟩ := join_rt j1 hc
  obtain ⟨-, m1, m2⟩ := join_rt hb hc
  obtain ⟨-, n1, n2⟩ := join_rt ha m1
  obtain ⟨-, o1, o2⟩ := join_rt ha ha
  rw [above_rt j1 ha, above_rt j1 hb, above_rt hc ha, above_rt hc hb, above_rt hc j1, above_rt ha hb, above_rt hb ha]
  refine ⟨fun d h => (j2 d).2 (.inl h), fun d h => (j2 d).2 (.inr h), fun h1 h2 d h => ((j2 d).1 h).elim (h1 d) (h2 d), clk_uniq _ _ j1 k1 (fun d => ?_), clk_uniq _ _ l1 n1 (fun d => ?_), clk_uniq _ _ o1 ha (fun d => ?_), fun h1 h2 => clk_uniq _ _ ha hb (fun d => ⟨h2 d, h1 d⟩)⟩
  · rw [j2, k2, or_comm]
  · rw [l2, j2, n2, m2, or_assoc]
  · rw [o2, or_self]
end Go.Proofs.YtoaaieiiamdopaaGreatDoor

set_option linter.unusedVariables false
set_option linter.unusedSimpArgs false
set_option maxRecDepth 100000
namespace Go.Proofs.YtoaaieiiamdopaaGreatDoor
open Go.Eng
/-- Of the f numbers from n on, of a node: the dots that a clock hasn't. -/
def msF (c : List Run) (m : Int) : Nat → Int → List Dot
  | 0, _ => []
  | f + 1, n => if inB c (m, n) then msF c m f (n + 1) else (m, n) :: msF c m f (n + 1)
def msR (c : List Run) (m n t : Int) : List Dot := msF c m (t + 1 - n).toNat n
def msL (c : List Run) : List Run → List Dot
  | [] => []
  | r :: l => msR c r.1 r.2.1 r.2.2 ++ msL c l
def missF (a b : List Run) : List Dot := if rightB a && rightB b then msL a b else []
theorem msR_end {c : List Run} {m n t : Int} (h : t < n) : msR c m n t = [] := by
  unfold msR
  rw [show (t + 1 - n).toNat = 0 by omega]; rfl
theorem msR_not {c : List Run} {m n t : Int} (h : n ≤ t) (k : inB c (m, n) = false) : msR c m n t = (m, n) :: msR c m (n + 1) t := by
  unfold msR
  rw [show (t + 1 - n).toNat = (t + 1 - (n + 1)).toNat + 1 by omega, msF, k]; rfl
theorem msR_one {c : List Run} {m n t : Int} (k : inB c (m, n) = true) : msR c m n t = msR c m (n + 1) t := by
  by_cases h : n ≤ t
  · unfold msR
    rw [show (t + 1 - n).toNat = (t + 1 - (n + 1)).toNat + 1 by omega, msF, k]; rfl
  · rw [msR_end (by omega), msR_end (by omega)]
theorem msR_in {c : List Run} {h : Run} (hc : h ∈ c) (m t : Int) (hm : h.1 = m) : ∀ (f : Nat) (n : Int), h.2.1 ≤ n → n + f = h.2.2 + 1 → msR c m n t = msR c m (h.2.2 + 1) t
  | 0, n, _, e => by rw [show n = h.2.2 + 1 by omega]
  | f + 1, n, h1, e => by
    rw [msR_one (inB_iff.2 ⟨h, hc, by unfold inR; dsimp only; omega⟩)]
    exact msR_in hc m t hm f (n + 1) (by omega) (by omega)
theorem msR_skip {c : List Run} {h : Run} (hc : h ∈ c) {m n t : Int} (hi : inR h (m, n)) : msR c m n t = msR c m (h.2.2 + 1) t := by
  unfold inR at hi; dsimp only at hi
  exact msR_in hc m t hi.1 (h.2.2 + 1 - n).toNat n hi.2.1 (by omega)
/-- The least number from n on that a clock hasn't. -/
def aftF (c : List Run) (m n : Int) : Int := match c.find? (fun r => decide (inR r (m, n))) with | some r => r.2.2 + 1 | none => n
theorem aft_out {c : List Run} {m n : Int} (h : ∀ r, r ∈ c → ¬ inR r (m, n)) : aftF c m n = n := by
  unfold aftF
  rw [List.find?_eq_none.2 (fun r hr => by simpa using h r hr)]
theorem aft_in {c : List Run} (hc : Rt c) {h : Run} (hm : h ∈ c) {m n : Int} (hi : inR h (m, n)) : aftF c m n = h.2.2 + 1 := by
  unfold aftF
  cases e : c.find? (fun r => decide (inR r (m, n))) with
  | none => exact absurd (decide_eq_true hi) (List.find?_eq_none.1 e h hm)
  | some r =>
    have h1 : decide (inR r (m, n)) = true := List.find?_some (p := fun r => decide (inR r (m, n))) e
    have h1 : inR r (m, n) := of_decide_eq_true h1
    have h2 := List.mem_of_find?_eq_some e
    have a1 := hc.all r h2
    have a2 := hc.all h hm
    dsimp only
    unfold inR at h1 hi; dsimp only at h1 hi; unfold runP at a1 a2
    rcases mem_gap hc h2 hm with rfl | hg | hg
    · rfl
    · unfold gapP at hg; omega
    · unfold gapP at hg; omega
/-- No run has the number behind a run. -/
theorem no_next {c : List Run} (hc : Rt c) {h : Run} (hm : h ∈ c) {m : Int} (e : h.1 = m) : ∀ r, r ∈ c → ¬ inR r (m, h.2.2 + 1) := fun r hr hi => by
  have a1 := hc.all r hr
  have a2 := hc.all h hm
  unfold inR at hi; dsimp only at hi; unfold runP at a1 a2
  rcases mem_gap hc hr hm with rfl | hg | hg
  · omega
  · unfold gapP at hg; omega
  · unfold gapP at hg; omega
theorem aft_spec {c : List Run} (hc : Rt c) (m n : Int) : n ≤ aftF c m n ∧ (∀ r, r ∈ c → ¬ inR r (m, aftF c m n)) ∧ ∀ t, msR c m n t = msR c m (aftF c m n) t := by
  by_cases h : ∃ r, r ∈ c ∧ inR r (m, n)
  · obtain ⟨r, h1, h2⟩ := h
    rw [aft_in hc h1 h2]
    have h3 := h2
    unfold inR at h2; dsimp only at h2
    exact ⟨by omega, no_next hc h1 h2.1, fun t => msR_skip h1 h3⟩
  · have h : ∀ r, r ∈ c → ¬ inR r (m, n) := fun r hr hi => h ⟨r, hr, hi⟩
    rw [aft_out h]
    exact ⟨Int.le_refl _, h, fun t => rfl⟩
theorem aft_le {c : List Run} (hc : Rt c) {m n : Int} (h : n ≤ 1099511627777) : aftF c m n ≤ 1099511627777 := by
  by_cases h : ∃ r, r ∈ c ∧ inR r (m, n)
  · obtain ⟨r, h1, h2⟩ := h
    rw [aft_in hc h1 h2]
    have := hc.all r h1
    unfold runP at this; omega
  · have h : ∀ r, r ∈ c → ¬ inR r (m, n) := fun r hr hi => h ⟨r, hr, hi⟩
    rw [aft_out h]; assumption
/-- The missing ones of a run from a number that the clock hasn't. -/
def msA (c : List Run) (m a t : Int) : List Dot := if a ≤ t then (m, a) :: msR c m (a + 1) t else []
theorem msR_aft {c : List Run} (hc : Rt c) (m n t : Int) : msR c m n t = msA c m (aftF c m n) t := by
  obtain ⟨h1, h2, h3⟩ := aft_spec hc m n
  rw [h3 t]
  unfold msA
  split
  · rename_i h
    refine msR_not h ?_
    cases e : inB c (m, aftF c m n) with
    | false => rfl
    | true => obtain ⟨r, hr, hi⟩ := inB_iff.1 e; exact absurd hi (h2 r hr)
  · rename_i h
    exact msR_end (by omega)
end Go.Proofs.YtoaaieiiamdopaaGreatDoor

set_option linter.unusedVariables false
set_option linter.unusedSimpArgs false
namespace Go.Proofs.YtoaaieiiamdopaaGreatDoor
open Go.Eng
def made (g : Nat → Bool) : Nat → Nat → Nat
  | 0, i => i
  | n + 1, i => if g i then made g n (i + 1) else i + 1
theorem made_at (g : Nat → Bool) : ∀ (n i k : Nat), i ≤ k → k < i + n → (∀ j, i ≤ j → j < k → g j = true) → g k = false → made g n i = k + 1
  | 0, i, k, h1, h2, _, _ => by omega
  | n + 1, i, k, h1, h2, hg, hk => by
    unfold made
    by_cases e : i = k
    · subst e; simp [hk]
    · rw [if_pos (hg i (Nat.le_refl _) (by omega))]
      exact made_at g n (i + 1) k (by omega) (by omega) (fun j h3 h4 => hg j (by omega) h4) hk
theorem made_all (g : Nat → Bool) : ∀ (n i : Nat), (∀ j, i ≤ j → j < i + n → g j = true) → made g n i = i + n
  | 0, i, _ => rfl
  | n + 1, i, hg => by
    unfold made
    rw [if_pos (hg i (Nat.le_refl _) (by omega)), made_all g n (i + 1) (fun j h1 h2 => hg j (by omega) (by omega))]
    omega
theorem made_min {g : Nat → Bool} {m : Int} (hg : ∀ k, g k = decide ((k : Int) < m)) (n : Nat) : min (made g n 0) m.toNat = min n m.toNat := by
  by_cases h : n ≤ m.toNat
  · rw [made_all g n 0 (fun j _ hj => by rw [hg]; exact decide_eq_true (by omega))]
    omega
  · rw [made_at g n 0 m.toNat (Nat.zero_le _) (by omega) (fun j _ hj => by rw [hg]; exact decide_eq_true (by omega)) (by rw [hg]; exact decide_eq_false (by omega))]
    omega
end Go.Proofs.YtoaaieiiamdopaaGreatDoor
