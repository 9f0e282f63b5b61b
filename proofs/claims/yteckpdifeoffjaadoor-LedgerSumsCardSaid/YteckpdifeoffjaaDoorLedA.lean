/- Ledger: sums, rows, and what is sent. -/
import Derived.Test.YteckpdifeoffjaaDoorBase
import Derived.Test.YteckpdifeoffjaaDoorEngV
import Derived.Laws.Externs
set_option linter.unusedVariables false
set_option linter.unusedSimpArgs false
set_option maxRecDepth 100000
namespace Go.Proofs.YteckpdifeoffjaaDoor
open Go.Eng

/-- A sum that stays at its end. -/
def satN (a b : Nat) : Nat := if a + b ≤ 18446744073709551615 then a + b else 18446744073709551615
@[reducible] def addC : Ctr := {
  X := Nat × Nat
  Y := Unit
  args := fun x => [.v (.int .u64 (x.1 : Nat)), .v (.int .u64 (x.2 : Nat)), .v (.int .u64 0)]
  rw := fun _ => []
  side := fun x => True
  val := fun _ => ()
  ens := fun _ _ => True
  res := fun x _ => .tuple [.v (.int .u64 ((x.1 + x.2) % 18446744073709551616 : Nat)), .v (.int .u64 ((x.1 + x.2) / 18446744073709551616 : Nat))]
  out := fun _ _ => [] }
theorem add_ok : addC.okV Tryd.prog 31 := by
  refine okV_of_run (fun _ => rfl) (fun _ => rfl) (fun x _ => ⟨trivial, fun E w vals hsz hv => ?_⟩)
  obtain ⟨a, b⟩ := x
  rw [vals_three hsz, sat_v (hv 0 _ rfl), sat_v (hv 1 _ rfl), sat_v (hv 2 _ rfl)]
  refine ⟨.tuple #[.int .u64 ((a + b) % 18446744073709551616 : Nat), .int .u64 ((a + b) / 18446744073709551616 : Nat)], ?_, ?_⟩
  · rw [run_callFunc_extern Tryd.func31 (by kernel_rfl) (by kernel_rfl) (by kernel_rfl) (e := add64Entry) (by kernel_rfl), run_add64 _ _ _ (by omega) (by omega) (by omega) (by omega)]
    simp only [Result.andThen]
    congr 5 <;> omega
  · exact evR_sat (.tuple #[.int .u64 ((a + b) % 18446744073709551616 : Nat), .int .u64 ((a + b) / 18446744073709551616 : Nat)])
theorem bodyAdd : bodyB Tryd.prog 31 = false := by kernel_rfl
theorem knownAdd : Known Tryd.prog (gOf [(31, addC)]) := known_ext bodyAdd add_ok (known_nil _)
@[reducible] def plusC : Ctr := {
  X := Nat × Nat
  Y := Unit
  args := fun x => [.v (.int .u64 (x.1 : Nat)), .v (.int .u64 (x.2 : Nat))]
  rw := fun _ => []
  side := fun x => x.1 ≤ 18446744073709551615 ∧ x.2 ≤ 18446744073709551615
  val := fun _ => ()
  ens := fun _ _ => True
  res := fun x _ => .v (.int .u64 (satN x.1 x.2 : Nat))
  out := fun _ _ => [] }

theorem plus_ok : plusC.ok Tryd.prog 24 := by
  refine ok_of_vc (An := fun _ => anOf []) knownAdd mo Tryd.func24 (by kernel_rfl) (by kernel_rfl) (fun _ _ => trivial) (fun x hs => ?_)
  obtain ⟨a, b⟩ := x
  obtain ⟨h1, h2⟩ := hs
  dsimp only at h1 h2
  have hn : satN a b = if a + b ≤ 18446744073709551615 then a + b else 18446744073709551615 := rfl
  by_cases hle : a + b ≤ 18446744073709551615
  all_goals (first | rw [if_pos hle] at hn | rw [if_neg hle] at hn)
  all_goals ((repeat' ((conv => whnf) <;> first | exact True.intro | (guard_target =~ Fork _ _ _; first | refine F1 ?_ | refine F2 ?_ | refine F3 (fun h => ?_) fun h => ?_) | (guard_target =~ Ar _ _ _; first | refine A1 ?_ | refine A2 ?_) | (guard_target =~ AskL _ _; first | refine L1 ?_) | (guard_target =~ Go.Eng.Ask _ _; first | refine K1 ?_) | (guard_target =~ All' _ _; first | (refine Y2 fun y he he' hy => ?_; (try dsimp only at he he' hy)) | (refine Y1 fun y he hy => ?_; (try with_reducible conv at he => (rhs; whnf)); (try dsimp only at he hy)) | (refine All'.mk ?_; intro y hy)) | refine F4 (fun h => ?_) fun h => ?_ | refine R1 ?_ | refine Q1 ?_ | fail)); all_goals (conv => whnf))
  all_goals refine CallP.mk (C := addC) (a, b) ?_
  all_goals ((repeat' ((conv => whnf) <;> first | exact True.intro | (guard_target =~ Fork _ _ _; first | refine F1 ?_ | refine F2 ?_ | refine F3 (fun h => ?_) fun h => ?_) | (guard_target =~ Ar _ _ _; first | refine A1 ?_ | refine A2 ?_) | (guard_target =~ AskL _ _; first | refine L1 ?_) | (guard_target =~ Go.Eng.Ask _ _; first | refine K1 ?_) | (guard_target =~ All' _ _; first | (refine Y2 fun y he he' hy => ?_; (try dsimp only at he he' hy)) | (refine Y1 fun y he hy => ?_; (try with_reducible conv at he => (rhs; whnf)); (try dsimp only at he hy)) | (refine All'.mk ?_; intro y hy)) | refine F4 (fun h => ?_) fun h => ?_ | refine R1 ?_ | refine Q1 ?_ | fail)); all_goals (conv => whnf))
  all_goals (refine AskL.mk ?_ trivial; dsimp only [conj]; omega)

@[reducible] def rowV (p : Nat × Nat) : SV := .agg [.v (.int .u64 (p.1 : Nat)), .v (.int .u64 (p.2 : Nat))]
def sumR (p q : Nat × Nat) : Nat × Nat := (satN p.1 q.1, satN p.2 q.2)
def okR (p : Nat × Nat) : Prop := p.1 ≤ 18446744073709551615 ∧ p.2 ≤ 18446744073709551615
@[reducible] def sumC : Ctr := {
  X := (Nat × Nat) × (Nat × Nat)
  Y := Unit
  args := fun x => [rowV x.1, rowV x.2]
  rw := fun _ => []
  side := fun x => okR x.1 ∧ okR x.2
  val := fun _ => ()
  ens := fun _ _ => True
  res := fun x _ => rowV (sumR x.1 x.2)
  out := fun _ _ => [] }
theorem knownPlus : Known Tryd.prog (gOf [(24, plusC)]) := known_cons ⟨plus_ok, Tryd.call24⟩ (known_nil _)
theorem sum_ok : sumC.ok Tryd.prog 22 := by
  refine ok_of_vc (An := fun _ => anOf []) knownPlus mo Tryd.func22 (by kernel_rfl) (by kernel_rfl) (fun _ _ => trivial) (fun x hs => ?_)
  obtain ⟨⟨a, b⟩, c, d⟩ := x
  obtain ⟨⟨h1, h2⟩, h3, h4⟩ := hs
  dsimp only at h1 h2 h3 h4
  ((repeat' ((conv => whnf) <;> first | exact True.intro | (guard_target =~ Fork _ _ _; first | refine F1 ?_ | refine F2 ?_ | refine F3 (fun h => ?_) fun h => ?_) | (guard_target =~ Ar _ _ _; first | refine A1 ?_ | refine A2 ?_) | (guard_target =~ AskL _ _; first | refine L1 ?_) | (guard_target =~ Go.Eng.Ask _ _; first | refine K1 ?_) | (guard_target =~ All' _ _; first | (refine Y2 fun y he he' hy => ?_; (try dsimp only at he he' hy)) | (refine Y1 fun y he hy => ?_; (try with_reducible conv at he => (rhs; whnf)); (try dsimp only at he hy)) | (refine All'.mk ?_; intro y hy)) | refine F4 (fun h => ?_) fun h => ?_ | refine R1 ?_ | refine Q1 ?_ | fail)); all_goals (conv => whnf))
  refine CallP.mk (C := plusC) (a, c) ?_
  ((repeat' ((conv => whnf) <;> first | exact True.intro | (guard_target =~ Fork _ _ _; first | refine F1 ?_ | refine F2 ?_ | refine F3 (fun h => ?_) fun h => ?_) | (guard_target =~ Ar _ _ _; first | refine A1 ?_ | refine A2 ?_) | (guard_target =~ AskL _ _; first | refine L1 ?_) | (guard_target =~ Go.Eng.Ask _ _; first | refine K1 ?_) | (guard_target =~ All' _ _; first | (refine Y2 fun y he he' hy => ?_; (try dsimp only at he he' hy)) | (refine Y1 fun y he hy => ?_; (try with_reducible conv at he => (rhs; whnf)); (try dsimp only at he hy)) | (refine All'.mk ?_; intro y hy)) | refine F4 (fun h => ?_) fun h => ?_ | refine R1 ?_ | refine Q1 ?_ | fail)); all_goals (conv => whnf))
  refine CallP.mk (C := plusC) (b, d) ?_
  ((repeat' ((conv => whnf) <;> first | exact True.intro | (guard_target =~ Fork _ _ _; first | refine F1 ?_ | refine F2 ?_ | refine F3 (fun h => ?_) fun h => ?_) | (guard_target =~ Ar _ _ _; first | refine A1 ?_ | refine A2 ?_) | (guard_target =~ AskL _ _; first | refine L1 ?_) | (guard_target =~ Go.Eng.Ask _ _; first | refine K1 ?_) | (guard_target =~ All' _ _; first | (refine Y2 fun y he he' hy => ?_; (try dsimp only at he he' hy)) | (refine Y1 fun y he hy => ?_; (try with_reducible conv at he => (rhs; whnf)); (try dsimp only at he hy)) | (refine All'.mk ?_; intro y hy)) | refine F4 (fun h => ?_) fun h => ?_ | refine R1 ?_ | refine Q1 ?_ | fail)); all_goals (conv => whnf))

@[reducible] def knownC : Ctr := {
  X := Int
  Y := Bool
  args := fun k => [.v (.int .i64 k)]
  rw := fun _ => []
  side := fun _ => True
  val := fun k => decide (1 ≤ k ∧ k ≤ 14)
  ens := fun _ _ => True
  res := fun _ y => .v (.bool y)
  out := fun _ _ => [] }
theorem known_ok : knownC.ok Tryd.prog 21 := by
  refine ok_of_vc (An := fun _ => anOf []) (known_nil _) mo Tryd.func21 (by kernel_rfl) (by kernel_rfl) (fun _ _ => trivial) (fun (k : Int) hs => ?_)
  ((repeat' ((conv => whnf) <;> first | exact True.intro | (guard_target =~ Fork _ _ _; first | refine F1 ?_ | refine F2 ?_ | refine F3 (fun h => ?_) fun h => ?_) | (guard_target =~ Ar _ _ _; first | refine A1 ?_ | refine A2 ?_) | (guard_target =~ AskL _ _; first | refine L1 ?_) | (guard_target =~ Go.Eng.Ask _ _; first | refine K1 ?_) | (guard_target =~ All' _ _; first | (refine Y2 fun y he he' hy => ?_; (try dsimp only at he he' hy)) | (refine Y1 fun y he hy => ?_; (try with_reducible conv at he => (rhs; whnf)); (try dsimp only at he hy)) | (refine All'.mk ?_; intro y hy)) | refine F4 (fun h => ?_) fun h => ?_ | refine R1 ?_ | refine Q1 ?_ | fail)); all_goals (conv => whnf))

/-- The rows of a ledger, from the k-th on. -/
def ledS (f : Nat → Nat × Nat) (k : Nat) : Nat → List SV
  | 0 => []
  | n + 1 => .v (.int .u64 ((f k).1 : Nat)) :: .v (.int .u64 ((f k).2 : Nat)) :: ledS f (k + 1) n
@[reducible] def ledE (f : Nat → Nat × Nat) : Ent := .cells 56 (ledS f 0 15)
def okL (f : Nat → Nat × Nat) : Prop := ∀ k, okR (f k)

@[reducible] def newC : Ctr := {
  X := Unit
  Y := Unit
  args := fun _ => []
  rw := fun _ => []
  side := fun _ => True
  val := fun _ => ()
  ens := fun _ _ => True
  res := fun _ _ => .ptr 1000 0
  out := fun _ _ => [(1000, ledE fun _ => (0, 0))] }
theorem new_ok : newC.ok Tryd.prog 7 := by
  refine ok_of_vc (An := fun _ => anOf []) (known_nil _) mo Tryd.func7 (by kernel_rfl) (by kernel_rfl) (fun _ _ => trivial) (fun x hs => ?_)
  ((repeat' ((conv => whnf) <;> first | exact True.intro | (guard_target =~ Fork _ _ _; first | refine F1 ?_ | refine F2 ?_ | refine F3 (fun h => ?_) fun h => ?_) | (guard_target =~ Ar _ _ _; first | refine A1 ?_ | refine A2 ?_) | (guard_target =~ AskL _ _; first | refine L1 ?_) | (guard_target =~ Go.Eng.Ask _ _; first | refine K1 ?_) | (guard_target =~ All' _ _; first | (refine Y2 fun y he he' hy => ?_; (try dsimp only at he he' hy)) | (refine Y1 fun y he hy => ?_; (try with_reducible conv at he => (rhs; whnf)); (try dsimp only at he hy)) | (refine All'.mk ?_; intro y hy)) | refine F4 (fun h => ?_) fun h => ?_ | refine R1 ?_ | refine Q1 ?_ | fail)); all_goals (conv => whnf))

abbrev LedO := Option (Nat → Nat × Nat)
@[reducible] def ledA (o : LedO) : SV := match o with | some _ => .ptr 0 0 | none => .v (.pointer none)
@[reducible] def ledM (o : LedO) : En := match o with | some f => [(0, ledE f)] | none => []
@[reducible] def cloneC : Ctr := {
  X := LedO
  Y := Unit
  args := fun o => [ledA o]
  rw := ledM
  side := fun _ => True
  val := fun _ => ()
  ens := fun _ _ => True
  res := fun o _ => match o with | some _ => .ptr 1000 0 | none => .v (.pointer none)
  out := fun o _ => match o with | some f => [(0, ledE f), (1000, ledE f)] | none => [] }
theorem clone_ok : cloneC.ok Tryd.prog 9 := by
  refine ok_of_vc (An := fun _ => anOf []) (known_nil _) mo Tryd.func9 (by kernel_rfl) (by kernel_rfl) (fun _ _ => trivial) (fun x hs => ?_)
  cases x with
  | none => ((repeat' ((conv => whnf) <;> first | exact True.intro | (guard_target =~ Fork _ _ _; first | refine F1 ?_ | refine F2 ?_ | refine F3 (fun h => ?_) fun h => ?_) | (guard_target =~ Ar _ _ _; first | refine A1 ?_ | refine A2 ?_) | (guard_target =~ AskL _ _; first | refine L1 ?_) | (guard_target =~ Go.Eng.Ask _ _; first | refine K1 ?_) | (guard_target =~ All' _ _; first | (refine Y2 fun y he he' hy => ?_; (try dsimp only at he he' hy)) | (refine Y1 fun y he hy => ?_; (try with_reducible conv at he => (rhs; whnf)); (try dsimp only at he hy)) | (refine All'.mk ?_; intro y hy)) | refine F4 (fun h => ?_) fun h => ?_ | refine R1 ?_ | refine Q1 ?_ | fail)); all_goals (conv => whnf))
  | some f =>
    ((repeat' ((conv => whnf) <;> first | exact True.intro | (guard_target =~ Fork _ _ _; first | refine F1 ?_ | refine F2 ?_ | refine F3 (fun h => ?_) fun h => ?_) | (guard_target =~ Ar _ _ _; first | refine A1 ?_ | refine A2 ?_) | (guard_target =~ AskL _ _; first | refine L1 ?_) | (guard_target =~ Go.Eng.Ask _ _; first | refine K1 ?_) | (guard_target =~ All' _ _; first | (refine Y2 fun y he he' hy => ?_; (try dsimp only at he he' hy)) | (refine Y1 fun y he hy => ?_; (try with_reducible conv at he => (rhs; whnf)); (try dsimp only at he hy)) | (refine All'.mk ?_; intro y hy)) | refine F4 (fun h => ?_) fun h => ?_ | refine R1 ?_ | refine Q1 ?_ | fail)); all_goals (conv => whnf))
