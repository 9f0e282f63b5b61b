/- Bounds: plans, and the numbers that are told of them. -/
import Derived.Test.YtdgemajcplbllaaTimC
import Derived.Test.YtdgemajcplbllaaPenA
set_option linter.unusedVariables false
set_option linter.unusedSimpArgs false
set_option maxRecDepth 100000
namespace Go.Proofs.Ytdgemajcplbllaa
open Go.Eng

/-- A plan. -/
structure Pl where
  e : Int
  t : Int
  r : Int
  i : Int
@[reducible] def plA (p : Pl) : SV := .agg [.v (.int .i64 p.e), .v (.int .i64 p.t), .v (.int .i64 p.r), .v (.int .i64 p.i)]
@[reducible] def plP (p : Pl) : Prop := (1 ≤ p.e ∧ p.e ≤ 1000 ∧ 0 ≤ p.t ∧ p.t ≤ 10) ∧ 0 ≤ p.r ∧ p.r ≤ 4 ∧ 1 ≤ p.i ∧ p.i ≤ 1048576

@[reducible] def lrightC : Ctr := {
  X := Pl
  Y := Bool
  args := fun p => [plA p]
  rw := fun _ => []
  side := fun _ => True
  val := fun p => decide (plP p)
  ens := fun _ _ => True
  res := fun _ y => .v (.bool y)
  out := fun _ _ => [] }
theorem knownB0 : Known Try.prog (gOf [(14, newC), (11, fitsC)]) :=
  known_cons ⟨new_ok, Try.call14⟩ (known_cons ⟨refFits_ok, Try.call11⟩ (known_nil _))
theorem lright_ok : lrightC.ok Try.prog 36 := by
  refine ok_of_vc (An := fun _ => anOf []) knownB0 mo Try.func36 (by kernel_rfl) (by kernel_rfl) (fun _ _ => trivial) (fun x hs => ?_)
  obtain ⟨e, t, r, i⟩ := x
  ((repeat' ((conv => whnf) <;> first | exact True.intro | refine F1 ?_ | refine F2 ?_ | refine F3 (fun h => ?_) fun h => ?_ | refine F4 (fun h => ?_) fun h => ?_ | refine R1 ?_ | refine A1 ?_ | refine A2 ?_ | refine L1 ?_ | refine K1 ?_ | (refine Y2 fun y he he' hy => ?_; (try dsimp only at he he' hy)) | (refine Y1 fun y he hy => ?_; (try with_reducible conv at he => (rhs; whnf)); (try dsimp only at he hy)) | (refine All'.mk ?_; intro y hy) | refine Q1 ?_ | fail)); all_goals (conv => whnf))
  by_cases hf : 1 ≤ e ∧ e ≤ 1000 ∧ 0 ≤ t ∧ t ≤ 10
  · have hd : true = decide (1 ≤ e ∧ e ≤ 1000 ∧ 0 ≤ t ∧ t ≤ 10) := (decide_eq_true hf).symm
    refine CallP.mk (C := newC) (e, t, true) ?_
    ((repeat' ((conv => whnf) <;> first | exact True.intro | refine F1 ?_ | refine F2 ?_ | refine F3 (fun h => ?_) fun h => ?_ | refine F4 (fun h => ?_) fun h => ?_ | refine R1 ?_ | refine A1 ?_ | refine A2 ?_ | refine L1 ?_ | refine K1 ?_ | (refine Y2 fun y he he' hy => ?_; (try dsimp only at he he' hy)) | (refine Y1 fun y he hy => ?_; (try with_reducible conv at he => (rhs; whnf)); (try dsimp only at he hy)) | (refine All'.mk ?_; intro y hy) | refine Q1 ?_ | fail)); all_goals (conv => whnf))
    all_goals
      refine AskL.mk ?_ trivial
      show _ = decide ((1 ≤ e ∧ e ≤ 1000 ∧ 0 ≤ t ∧ t ≤ 10) ∧ 0 ≤ r ∧ r ≤ 4 ∧ 1 ≤ i ∧ i ≤ 1048576)
      first
        | exact decide_eq_decide.2 (by (try dsimp only); omega)
        | exact (decide_eq_false (by (try dsimp only); omega)).symm
  · have hd : false = decide (1 ≤ e ∧ e ≤ 1000 ∧ 0 ≤ t ∧ t ≤ 10) := (decide_eq_false hf).symm
    refine CallP.mk (C := newC) (e, t, false) ?_
    ((repeat' ((conv => whnf) <;> first | exact True.intro | refine F1 ?_ | refine F2 ?_ | refine F3 (fun h => ?_) fun h => ?_ | refine F4 (fun h => ?_) fun h => ?_ | refine R1 ?_ | refine A1 ?_ | refine A2 ?_ | refine L1 ?_ | refine K1 ?_ | (refine Y2 fun y he he' hy => ?_; (try dsimp only at he he' hy)) | (refine Y1 fun y he hy => ?_; (try with_reducible conv at he => (rhs; whnf)); (try dsimp only at he hy)) | (refine All'.mk ?_; intro y hy) | refine Q1 ?_ | fail)); all_goals (conv => whnf))
    all_goals
      refine AskL.mk ?_ trivial
      show _ = decide ((1 ≤ e ∧ e ≤ 1000 ∧ 0 ≤ t ∧ t ≤ 10) ∧ 0 ≤ r ∧ r ≤ 4 ∧ 1 ≤ i ∧ i ≤ 1048576)
      exact (decide_eq_false (by (try dsimp only); omega)).symm
theorem rright_ok : lrightC.ok Try.prog 47 := by
  refine ok_of_vc (An := fun _ => anOf []) knownB0 mo Try.func47 (by kernel_rfl) (by kernel_rfl) (fun _ _ => trivial) (fun x hs => ?_)
  obtain ⟨e, t, r, i⟩ := x
  ((repeat' ((conv => whnf) <;> first | exact True.intro | refine F1 ?_ | refine F2 ?_ | refine F3 (fun h => ?_) fun h => ?_ | refine F4 (fun h => ?_) fun h => ?_ | refine R1 ?_ | refine A1 ?_ | refine A2 ?_ | refine L1 ?_ | refine K1 ?_ | (refine Y2 fun y he he' hy => ?_; (try dsimp only at he he' hy)) | (refine Y1 fun y he hy => ?_; (try with_reducible conv at he => (rhs; whnf)); (try dsimp only at he hy)) | (refine All'.mk ?_; intro y hy) | refine Q1 ?_ | fail)); all_goals (conv => whnf))
  refine CallP.mk (C := fitsC) (e, t) ?_
  ((repeat' ((conv => whnf) <;> first | exact True.intro | refine F1 ?_ | refine F2 ?_ | refine F3 (fun h => ?_) fun h => ?_ | refine F4 (fun h => ?_) fun h => ?_ | refine R1 ?_ | refine A1 ?_ | refine A2 ?_ | refine L1 ?_ | refine K1 ?_ | (refine Y2 fun y he he' hy => ?_; (try dsimp only at he he' hy)) | (refine Y1 fun y he hy => ?_; (try with_reducible conv at he => (rhs; whnf)); (try dsimp only at he hy)) | (refine All'.mk ?_; intro y hy) | refine Q1 ?_ | fail)); all_goals (conv => whnf))
  all_goals
    have he := he.symm.trans (by assumption)
    simp only [decide_eq_true_eq, decide_eq_false_iff_not] at he
    refine AskL.mk ?_ trivial
    show _ = decide ((1 ≤ e ∧ e ≤ 1000 ∧ 0 ≤ t ∧ t ≤ 10) ∧ 0 ≤ r ∧ r ≤ 4 ∧ 1 ≤ i ∧ i ≤ 1048576)
    first
      | exact decide_eq_decide.2 (by (try dsimp only); omega)
      | exact (decide_eq_false (by (try dsimp only); omega)).symm

@[reducible] def ifitsC : Ctr := {
  X := Int
  Y := Bool
  args := fun n => [.v (.int .i64 n)]
  rw := fun _ => []
  side := fun _ => True
  val := fun n => decide (3 ≤ n ∧ n ≤ 1536 ∧ n.tmod 3 = 0)
  ens := fun _ _ => True
  res := fun _ y => .v (.bool y)
  out := fun _ _ => [] }
theorem ifits_ok : ifitsC.ok Try.prog 43 := by
  refine ok_of_vc (An := fun _ => anOf []) (known_nil _) mo Try.func43 (by kernel_rfl) (by kernel_rfl) (fun _ _ => trivial) (fun (n : Int) hs => ?_)
  ((repeat' ((conv => whnf) <;> first | exact True.intro | refine F1 ?_ | refine F2 ?_ | refine F3 (fun h => ?_) fun h => ?_ | refine F4 (fun h => ?_) fun h => ?_ | refine R1 ?_ | refine A1 ?_ | refine A2 ?_ | refine L1 ?_ | refine K1 ?_ | (refine Y2 fun y he he' hy => ?_; (try dsimp only at he he' hy)) | (refine Y1 fun y he hy => ?_; (try with_reducible conv at he => (rhs; whnf)); (try dsimp only at he hy)) | (refine All'.mk ?_; intro y hy) | refine Q1 ?_ | fail)); all_goals (conv => whnf))
  refine AskL.mk ?_ trivial
  show (n.tmod 3 == 0) = decide _
  by_cases hm : n.tmod 3 = 0
  · rw [decide_eq_true (by omega), hm]; rfl
  · rw [decide_eq_false (by omega)]; exact beq_false_of_ne hm
theorem rifits_ok : ifitsC.ok Try.prog 29 := by
  refine ok_of_vc (An := fun _ => anOf []) (known_nil _) mo Try.func29 (by kernel_rfl) (by kernel_rfl) (fun _ _ => trivial) (fun (n : Int) hs => ?_)
  ((repeat' ((conv => whnf) <;> first | exact True.intro | refine F1 ?_ | refine F2 ?_ | refine F3 (fun h => ?_) fun h => ?_ | refine F4 (fun h => ?_) fun h => ?_ | refine R1 ?_ | refine A1 ?_ | refine A2 ?_ | refine L1 ?_ | refine K1 ?_ | (refine Y2 fun y he he' hy => ?_; (try dsimp only at he he' hy)) | (refine Y1 fun y he hy => ?_; (try with_reducible conv at he => (rhs; whnf)); (try dsimp only at he hy)) | (refine All'.mk ?_; intro y hy) | refine Q1 ?_ | fail)); all_goals (conv => whnf))
  refine AskL.mk ?_ trivial
  show (n.tmod 3 == 0) = decide _
  by_cases hm : n.tmod 3 = 0
  · rw [decide_eq_true (by omega), hm]; rfl
  · rw [decide_eq_false (by omega)]; exact beq_false_of_ne hm

/-- The bytes of a body's frame. -/
def costN (n : Int) : Int := if n < 0 ∨ 2048 < n then 0 else if n ≤ 247 then 11 + n else if n ≤ 255 then 12 + n else 13 + n
@[reducible] def costC : Ctr := {
  X := Int
  Y := Int
  args := fun n => [.v (.int .i64 n)]
  rw := fun _ => []
  side := fun _ => True
  val := fun n => costN n
  ens := fun _ _ => True
  res := fun _ y => .v (.int .i64 y)
  out := fun _ _ => [] }
theorem beL_one {u : Nat} (h : 0 < u) (h2 : u < 256) : (beL u).length = 1 := by
  rw [beL_len_pos h, show u / 256 = 0 by omega, beL_zero]; rfl
theorem beL_two {u : Nat} (h : 256 ≤ u) (h2 : u < 65536) : (beL u).length = 2 := by
  rw [beL_len_pos (by omega), beL_one (by omega) (by omega)]
theorem cost_ok : costC.ok Try.prog 42 := by
  refine ok_of_vc (An := fun _ => anOf []) knownP0 mo Try.func42 (by kernel_rfl) (by kernel_rfl) (fun _ _ => trivial) (fun (n : Int) hs => ?_)
  have h0 : n < 0 ∨ ∃ u : Nat, n = (u : Int) := by
    by_cases h : n < 0
    · exact .inl h
    · exact .inr ⟨n.toNat, by omega⟩
  obtain h0 | ⟨u, rfl⟩ := h0
  · ((repeat' ((conv => whnf) <;> first | exact True.intro | refine F1 ?_ | refine F2 ?_ | refine F3 (fun h => ?_) fun h => ?_ | refine F4 (fun h => ?_) fun h => ?_ | refine R1 ?_ | refine A1 ?_ | refine A2 ?_ | refine L1 ?_ | refine K1 ?_ | (refine Y2 fun y he he' hy => ?_; (try dsimp only at he he' hy)) | (refine Y1 fun y he hy => ?_; (try with_reducible conv at he => (rhs; whnf)); (try dsimp only at he hy)) | (refine All'.mk ?_; intro y hy) | refine Q1 ?_ | fail)); all_goals (conv => whnf))
    all_goals
      refine AskL.mk ?_ trivial
      show _ = costN _
      unfold costN
      first
        | (rw [if_neg (by omega)] at he)
        | (rw [if_pos (by omega)] at he)
        | skip
      repeat' split
      all_goals omega
  by_cases h1 : 2048 < u
  · ((repeat' ((conv => whnf) <;> first | exact True.intro | refine F1 ?_ | refine F2 ?_ | refine F3 (fun h => ?_) fun h => ?_ | refine F4 (fun h => ?_) fun h => ?_ | refine R1 ?_ | refine A1 ?_ | refine A2 ?_ | refine L1 ?_ | refine K1 ?_ | (refine Y2 fun y he he' hy => ?_; (try dsimp only at he he' hy)) | (refine Y1 fun y he hy => ?_; (try with_reducible conv at he => (rhs; whnf)); (try dsimp only at he hy)) | (refine All'.mk ?_; intro y hy) | refine Q1 ?_ | fail)); all_goals (conv => whnf))
    all_goals
      refine AskL.mk ?_ trivial
      show _ = costN _
      unfold costN
      first
        | (rw [if_neg (by omega)] at he)
        | (rw [if_pos (by omega)] at he)
        | skip
      repeat' split
      all_goals omega
  have hw : IntKind.u64.wrap ((u : Nat) : Int) = ((u : Nat) : Int) := wrap_u64 (by omega) (by omega)
  by_cases h2 : u ≤ 247
  · ((repeat' ((conv => whnf) <;> first | exact True.intro | refine F1 ?_ | refine F2 ?_ | refine F3 (fun h => ?_) fun h => ?_ | refine F4 (fun h => ?_) fun h => ?_ | refine R1 ?_ | refine A1 ?_ | refine A2 ?_ | refine L1 ?_ | refine K1 ?_ | (refine Y2 fun y he he' hy => ?_; (try dsimp only at he he' hy)) | (refine Y1 fun y he hy => ?_; (try with_reducible conv at he => (rhs; whnf)); (try dsimp only at he hy)) | (refine All'.mk ?_; intro y hy) | refine Q1 ?_ | fail)); all_goals (conv => whnf))
    refine CallP.mk (C := sizeC) u ?_
    ((repeat' ((conv => whnf) <;> first | exact True.intro | refine F1 ?_ | refine F2 ?_ | refine F3 (fun h => ?_) fun h => ?_ | refine F4 (fun h => ?_) fun h => ?_ | refine R1 ?_ | refine A1 ?_ | refine A2 ?_ | refine L1 ?_ | refine K1 ?_ | (refine Y2 fun y he he' hy => ?_; (try dsimp only at he he' hy)) | (refine Y1 fun y he hy => ?_; (try with_reducible conv at he => (rhs; whnf)); (try dsimp only at he hy)) | (refine All'.mk ?_; intro y hy) | refine Q1 ?_ | fail)); all_goals (conv => whnf))
    all_goals
      refine AskL.mk ?_ trivial
      show _ = costN _
      unfold costN
      first
        | (rw [if_neg (by omega)] at he)
        | (rw [if_pos (by omega)] at he)
        | skip
      repeat' split
      all_goals omega
  by_cases h3 : u ≤ 255
  · have h4 := beL_one (u := u) (by omega) (by omega)
    ((repeat' ((conv => whnf) <;> first | exact True.intro | refine F1 ?_ | refine F2 ?_ | refine F3 (fun h => ?_) fun h => ?_ | refine F4 (fun h => ?_) fun h => ?_ | refine R1 ?_ | refine A1 ?_ | refine A2 ?_ | refine L1 ?_ | refine K1 ?_ | (refine Y2 fun y he he' hy => ?_; (try dsimp only at he he' hy)) | (refine Y1 fun y he hy => ?_; (try with_reducible conv at he => (rhs; whnf)); (try dsimp only at he hy)) | (refine All'.mk ?_; intro y hy) | refine Q1 ?_ | fail)); all_goals (conv => whnf))
    refine CallP.mk (C := sizeC) u ?_
    ((repeat' ((conv => whnf) <;> first | exact True.intro | refine F1 ?_ | refine F2 ?_ | refine F3 (fun h => ?_) fun h => ?_ | refine F4 (fun h => ?_) fun h => ?_ | refine R1 ?_ | refine A1 ?_ | refine A2 ?_ | refine L1 ?_ | refine K1 ?_ | (refine Y2 fun y he he' hy => ?_; (try dsimp only at he he' hy)) | (refine Y1 fun y he hy => ?_; (try with_reducible conv at he => (rhs; whnf)); (try dsimp only at he hy)) | (refine All'.mk ?_; intro y hy) | refine Q1 ?_ | fail)); all_goals (conv => whnf))
    all_goals
      refine AskL.mk ?_ trivial
      show _ = costN _
      unfold costN
      first
        | (rw [if_neg (by omega)] at he)
        | (rw [if_pos (by omega)] at he)
        | skip
      repeat' split
      all_goals omega
  · have h4 := beL_two (u := u) (by omega) (by omega)
    ((repeat' ((conv => whnf) <;> first | exact True.intro | refine F1 ?_ | refine F2 ?_ | refine F3 (fun h => ?_) fun h => ?_ | refine F4 (fun h => ?_) fun h => ?_ | refine R1 ?_ | refine A1 ?_ | refine A2 ?_ | refine L1 ?_ | refine K1 ?_ | (refine Y2 fun y he he' hy => ?_; (try dsimp only at he he' hy)) | (refine Y1 fun y he hy => ?_; (try with_reducible conv at he => (rhs; whnf)); (try dsimp only at he hy)) | (refine All'.mk ?_; intro y hy) | refine Q1 ?_ | fail)); all_goals (conv => whnf))
    refine CallP.mk (C := sizeC) u ?_
    ((repeat' ((conv => whnf) <;> first | exact True.intro | refine F1 ?_ | refine F2 ?_ | refine F3 (fun h => ?_) fun h => ?_ | refine F4 (fun h => ?_) fun h => ?_ | refine R1 ?_ | refine A1 ?_ | refine A2 ?_ | refine L1 ?_ | refine K1 ?_ | (refine Y2 fun y he he' hy => ?_; (try dsimp only at he he' hy)) | (refine Y1 fun y he hy => ?_; (try with_reducible conv at he => (rhs; whnf)); (try dsimp only at he hy)) | (refine All'.mk ?_; intro y hy) | refine Q1 ?_ | fail)); all_goals (conv => whnf))
    all_goals
      refine AskL.mk ?_ trivial
      show _ = costN _
      unfold costN
      first
        | (rw [if_neg (by omega)] at he)
        | (rw [if_pos (by omega)] at he)
        | skip
      repeat' split
      all_goals omega
end Go.Proofs.Ytdgemajcplbllaa
