/- Pen: numbers and texts as bytes, and the reference's. -/
import Derived.Test.YtdgemajcplbllaaBase
set_option linter.unusedVariables false
set_option linter.unusedSimpArgs false
set_option maxRecDepth 100000
namespace Go.Proofs.Ytdgemajcplbllaa
open Go.Eng

@[reducible] def sizeC : Ctr := {
  X := Nat
  Y := Int
  args := fun u => [.v (.int .u64 (u : Nat))]
  rw := fun _ => []
  side := fun u => u < 18446744073709551616
  val := fun u => if u ≤ 247 then 1 else 1 + ((beL u).length : Nat)
  ens := fun _ _ => True
  res := fun _ y => .v (.int .i64 y)
  out := fun _ _ => [] }

structure SizeS where
  u : Nat
  n : Nat
@[reducible] def sizeL (u : Nat) : LA := {
  X := SizeS
  pre := fun s => s.n + (beL s.u).length = 1 + (beL u).length ∧ s.u < 18446744073709551616
  mu := fun s => s.u
  T := fun s => [(0, .v (.int .u64 (s.u : Nat))), (3, .v (.int .i64 (s.n : Nat)))]
  M := fun _ => [] }

theorem fdiv_pow (u k : Nat) (h : k ≤ 64) : ((u : Nat) : Int).fdiv (2 ^ min k IntKind.u64.bits) = ((u / 2 ^ k : Nat) : Int) := by
  have : min k IntKind.u64.bits = k := by show min k 64 = k; omega
  rw [this, Int.fdiv_eq_ediv_of_nonneg _ (by exact Int.le_of_lt (Int.pow_pos (by omega)))]
  norm_cast

theorem size_ok : sizeC.ok Try.prog 50 := by
  refine ok_of_vc (An := fun (u : Nat) => anOf [(0, .loop (sizeL u))]) (known_nil _) mo Try.func50 (by kernel_rfl) (by kernel_rfl) (fun _ _ => trivial) (fun (u : Nat) hs => ?_)
  have hs : u < 18446744073709551616 := hs
  have hb := beL_lt 8 u (by omega)
  ((repeat' ((conv => whnf) <;> first | exact True.intro | refine F1 ?_ | refine F2 ?_ | refine F3 (fun h => ?_) fun h => ?_ | refine F4 (fun h => ?_) fun h => ?_ | refine R1 ?_ | refine A1 ?_ | refine A2 ?_ | refine L1 ?_ | refine K1 ?_ | (refine Y2 fun y he he' hy => ?_; (try dsimp only at he he' hy)) | (refine Y1 fun y he hy => ?_; (try with_reducible conv at he => (rhs; whnf)); (try dsimp only at he hy)) | (refine All'.mk ?_; intro y hy) | refine Q1 ?_ | fail)); all_goals (conv => whnf))
  refine Some'.mk ⟨u, 1⟩ ?_
  ((repeat' ((conv => whnf) <;> first | exact True.intro | refine F1 ?_ | refine F2 ?_ | refine F3 (fun h => ?_) fun h => ?_ | refine F4 (fun h => ?_) fun h => ?_ | refine R1 ?_ | refine A1 ?_ | refine A2 ?_ | refine L1 ?_ | refine K1 ?_ | (refine Y2 fun y he he' hy => ?_; (try dsimp only at he he' hy)) | (refine Y1 fun y he hy => ?_; (try with_reducible conv at he => (rhs; whnf)); (try dsimp only at he hy)) | (refine All'.mk ?_; intro y hy) | refine Q1 ?_ | fail)); all_goals (conv => whnf))
  refine AllI.mk ?_
  rintro ⟨v, n⟩ ⟨h1, h2⟩
  dsimp only at h1 h2
  have hf : ((v : Nat) : Int).fdiv (2 ^ min (8 : Int).toNat IntKind.u64.bits) = ((v / 256 : Nat) : Int) := fdiv_pow v 8 (by omega)
  ((repeat' ((conv => whnf) <;> first | exact True.intro | refine F1 ?_ | refine F2 ?_ | refine F3 (fun h => ?_) fun h => ?_ | refine F4 (fun h => ?_) fun h => ?_ | refine R1 ?_ | refine A1 ?_ | refine A2 ?_ | refine L1 ?_ | refine K1 ?_ | (refine Y2 fun y he he' hy => ?_; (try dsimp only at he he' hy)) | (refine Y1 fun y he hy => ?_; (try with_reducible conv at he => (rhs; whnf)); (try dsimp only at he hy)) | (refine All'.mk ?_; intro y hy) | refine Q1 ?_ | fail)); all_goals (conv => whnf))
  · have hp := beL_len_pos (u := v) (by omega)
    refine Some'.mk ⟨v / 256, n + 1⟩ ?_
    ((repeat' ((conv => whnf) <;> first | exact True.intro | refine F1 ?_ | refine F2 ?_ | refine F3 (fun h => ?_) fun h => ?_ | refine F4 (fun h => ?_) fun h => ?_ | refine R1 ?_ | refine A1 ?_ | refine A2 ?_ | refine L1 ?_ | refine K1 ?_ | (refine Y2 fun y he he' hy => ?_; (try dsimp only at he he' hy)) | (refine Y1 fun y he hy => ?_; (try with_reducible conv at he => (rhs; whnf)); (try dsimp only at he hy)) | (refine All'.mk ?_; intro y hy) | refine Q1 ?_ | fail)); all_goals (conv => whnf))
  · have hv : v = 0 := by omega
    subst hv
    have hz : (beL 0).length = 0 := by rw [beL_zero]; rfl
    refine AskL.mk ?_ trivial
    simp only [conj]
    rw [if_neg (by omega)]
    omega

/-- A pen's memory. -/
@[reducible] def penE (j : Nat) (bs : List Int) (r : Nat) : En := [(j, .cells 89 [.sl r]), (r, .row 5 (.int .u8) bs)]

structure PenX where
  bs : List Int
  u : Nat
@[reducible] def numC : Ctr := {
  X := PenX
  Y := Unit
  args := fun x => [.ptr 0 0, .v (.int .u64 (x.u : Nat))]
  rw := fun x => penE 0 x.bs 1
  side := fun x => x.u < 18446744073709551616 ∧ x.bs.length ≤ 200000000000
  val := fun _ => ()
  ens := fun _ _ => True
  res := fun _ _ => .tuple []
  out := fun x _ => penE 0 (x.bs ++ numL x.u) 1000 }

@[reducible] def numLoop (x : PenX) : LA := {
  X := Nat
  pre := fun r => r ≤ (beL x.u).length
  mu := fun r => r
  T := fun r => [(0, .ptr 0 0), (1, .v (.int .u64 (x.u : Nat))), (5, .v (.int .i64 ((r : Int) - 1)))]
  M := fun r => penE 0 (x.bs ++ [((247 + (beL x.u).length : Nat) : Int)] ++ beL (x.u / 256 ^ r)) 2 }

theorem knownP0 : Known Try.prog (gOf [(50, sizeC)]) := known_cons ⟨size_ok, Try.call50⟩ (known_nil _)

theorem num_ok : numC.ok Try.prog 66 := by
  refine ok_of_vc (An := fun (x : PenX) => anOf [(0, .loop (numLoop x))]) knownP0 mo Try.func66 (by kernel_rfl) (by kernel_rfl) (fun _ _ => trivial) (fun (x : PenX) hs => ?_)
  obtain ⟨bs, u⟩ := x
  have hs : u < 18446744073709551616 ∧ bs.length ≤ 200000000000 := hs
  have hb := beL_lt 8 u (by omega)
  ((repeat' ((conv => whnf) <;> first | exact True.intro | refine F1 ?_ | refine F2 ?_ | refine F3 (fun h => ?_) fun h => ?_ | refine F4 (fun h => ?_) fun h => ?_ | refine R1 ?_ | refine A1 ?_ | refine A2 ?_ | refine L1 ?_ | refine K1 ?_ | (refine Y2 fun y he he' hy => ?_; (try dsimp only at he he' hy)) | (refine Y1 fun y he hy => ?_; (try with_reducible conv at he => (rhs; whnf)); (try dsimp only at he hy)) | (refine All'.mk ?_; intro y hy) | refine Q1 ?_ | fail)); all_goals (conv => whnf))
  · refine AskL.mk ?_ trivial
    simp only [conj]
    rw [numL_small (by omega), wrap_u8 (by omega) (by omega)]
  · refine CallP.mk (C := sizeC) u ?_
    ((repeat' ((conv => whnf) <;> first | exact True.intro | refine F1 ?_ | refine F2 ?_ | refine F3 (fun h => ?_) fun h => ?_ | refine F4 (fun h => ?_) fun h => ?_ | refine R1 ?_ | refine A1 ?_ | refine A2 ?_ | refine L1 ?_ | refine K1 ?_ | (refine Y2 fun y he he' hy => ?_; (try dsimp only at he he' hy)) | (refine Y1 fun y he hy => ?_; (try with_reducible conv at he => (rhs; whnf)); (try dsimp only at he hy)) | (refine All'.mk ?_; intro y hy) | refine Q1 ?_ | fail)); all_goals (conv => whnf))
    rw [if_neg (by omega)] at he
    subst he
    have hw : IntKind.u8.wrap (247 + (1 + (((beL u).length : Nat) : Int) - 1)) = ((247 + (beL u).length : Nat) : Int) := by rw [wrap_u8 (by omega) (by omega)]; omega
    have ha := beL_all u
    have hg : numL u = ((247 + (beL u).length : Nat) : Int) :: beL u := numL_great (by omega)
    ((repeat' ((conv => whnf) <;> first | exact True.intro | refine F1 ?_ | refine F2 ?_ | (refine Fork.pos ?_ ?_; · (simp only [beL_zero, List.append_nil, List.append_assoc, List.cons_append, List.nil_append, Nat.pow_zero, Nat.div_one, decide_eq_true_eq, beq_iff_eq, bne_iff_ne, ne_eq] <;> omega)) | (refine Fork.neg ?_ ?_; · (simp only [beL_zero, List.append_nil, List.append_assoc, List.cons_append, List.nil_append, Nat.pow_zero, Nat.div_one, decide_eq_false_iff_not, beq_eq_false_iff_ne] <;> omega)) | refine F3 (fun h => ?_) fun h => ?_ | refine F4 (fun h => ?_) fun h => ?_ | refine R1 ?_ | refine A1 ?_ | refine A2 ?_ | (refine Ar.fit (wrap_i64 ?_ ?_) ?_; · ((try dsimp only) <;> simp only [beL_zero, List.append_nil, List.append_assoc, List.cons_append, List.nil_append, Nat.pow_zero, Nat.div_one] <;> omega); · ((try dsimp only) <;> simp only [beL_zero, List.append_nil, List.append_assoc, List.cons_append, List.nil_append, Nat.pow_zero, Nat.div_one] <;> omega)) | (refine Ar.fit (wrap_u64 ?_ ?_) ?_; · ((try dsimp only) <;> simp only [beL_zero, List.append_nil, List.append_assoc, List.cons_append, List.nil_append, Nat.pow_zero, Nat.div_one] <;> omega); · ((try dsimp only) <;> simp only [beL_zero, List.append_nil, List.append_assoc, List.cons_append, List.nil_append, Nat.pow_zero, Nat.div_one] <;> omega)) | (refine AskL.mk ?_ ?_; · ((simp only [conj]; repeat' apply And.intro) <;> first | rfl | trivial | omega | (simp only [beL_zero, List.append_nil, List.append_assoc, List.cons_append, List.nil_append, Nat.pow_zero, Nat.div_one]; done) | (simp only [beL_zero, List.append_nil, List.append_assoc, List.cons_append, List.nil_append, Nat.pow_zero, Nat.div_one] <;> omega) | (simp only [beL_zero, List.append_nil, List.append_assoc, List.cons_append, List.nil_append, Nat.pow_zero, Nat.div_one]; refine Bool.eq_iff_iff.2 ?_; simp only [decide_eq_true_eq, Bool.false_eq_true, true_iff, iff_true, false_iff, iff_false, eq_self]; omega) | (simp only [*, beL_zero, List.append_nil, List.append_assoc, List.cons_append, List.nil_append, Nat.pow_zero, Nat.div_one]; done))) | refine L1 ?_ | refine K1 ?_ | (refine Ask.mk ?_ ?_; · ((try dsimp only) <;> simp only [beL_zero, List.append_nil, List.append_assoc, List.cons_append, List.nil_append, Nat.pow_zero, Nat.div_one] <;> omega)) | (refine Y2 fun y he he' hy => ?_; (try dsimp only at he he' hy)) | (refine Y1 fun y he hy => ?_; (try with_reducible conv at he => (rhs; whnf)); (try dsimp only at he hy)) | (refine All'.mk ?_; intro y hy) | refine Q1 ?_ | fail)); all_goals (conv => whnf))
    refine Some'.mk (beL u).length ?_
    ((repeat' ((conv => whnf) <;> first | exact True.intro | refine F1 ?_ | refine F2 ?_ | (refine Fork.pos ?_ ?_; · (simp only [beL_zero, List.append_nil, List.append_assoc, List.cons_append, List.nil_append, Nat.pow_zero, Nat.div_one, decide_eq_true_eq, beq_iff_eq, bne_iff_ne, ne_eq] <;> omega)) | (refine Fork.neg ?_ ?_; · (simp only [beL_zero, List.append_nil, List.append_assoc, List.cons_append, List.nil_append, Nat.pow_zero, Nat.div_one, decide_eq_false_iff_not, beq_eq_false_iff_ne] <;> omega)) | refine F3 (fun h => ?_) fun h => ?_ | refine F4 (fun h => ?_) fun h => ?_ | refine R1 ?_ | refine A1 ?_ | refine A2 ?_ | (refine Ar.fit (wrap_i64 ?_ ?_) ?_; · ((try dsimp only) <;> simp only [beL_zero, List.append_nil, List.append_assoc, List.cons_append, List.nil_append, Nat.pow_zero, Nat.div_one] <;> omega); · ((try dsimp only) <;> simp only [beL_zero, List.append_nil, List.append_assoc, List.cons_append, List.nil_append, Nat.pow_zero, Nat.div_one] <;> omega)) | (refine Ar.fit (wrap_u64 ?_ ?_) ?_; · ((try dsimp only) <;> simp only [beL_zero, List.append_nil, List.append_assoc, List.cons_append, List.nil_append, Nat.pow_zero, Nat.div_one] <;> omega); · ((try dsimp only) <;> simp only [beL_zero, List.append_nil, List.append_assoc, List.cons_append, List.nil_append, Nat.pow_zero, Nat.div_one] <;> omega)) | (refine AskL.mk ?_ ?_; · ((simp only [conj]; repeat' apply And.intro) <;> first | rfl | trivial | omega | (simp only [beL_zero, List.append_nil, List.append_assoc, List.cons_append, List.nil_append, Nat.pow_zero, Nat.div_one]; done) | (simp only [beL_zero, List.append_nil, List.append_assoc, List.cons_append, List.nil_append, Nat.pow_zero, Nat.div_one] <;> omega) | (simp only [beL_zero, List.append_nil, List.append_assoc, List.cons_append, List.nil_append, Nat.pow_zero, Nat.div_one]; refine Bool.eq_iff_iff.2 ?_; simp only [decide_eq_true_eq, Bool.false_eq_true, true_iff, iff_true, false_iff, iff_false, eq_self]; omega) | (simp only [*, beL_zero, List.append_nil, List.append_assoc, List.cons_append, List.nil_append, Nat.pow_zero, Nat.div_one]; done))) | refine L1 ?_ | refine K1 ?_ | (refine Ask.mk ?_ ?_; · ((try dsimp only) <;> simp only [beL_zero, List.append_nil, List.append_assoc, List.cons_append, List.nil_append, Nat.pow_zero, Nat.div_one] <;> omega)) | (refine Y2 fun y he he' hy => ?_; (try dsimp only at he he' hy)) | (refine Y1 fun y he hy => ?_; (try with_reducible conv at he => (rhs; whnf)); (try dsimp only at he hy)) | (refine All'.mk ?_; intro y hy) | refine Q1 ?_ | fail)); all_goals (conv => whnf))
    refine AllI.mk ?_
    rintro (r : Nat) hr
    dsimp only at hr
    cases r with
    | zero =>
      ((repeat' ((conv => whnf) <;> first | exact True.intro | refine F1 ?_ | refine F2 ?_ | (refine Fork.pos ?_ ?_; · (simp only [beL_zero, List.append_nil, List.append_assoc, List.cons_append, List.nil_append, Nat.pow_zero, Nat.div_one, decide_eq_true_eq, beq_iff_eq, bne_iff_ne, ne_eq] <;> omega)) | (refine Fork.neg ?_ ?_; · (simp only [beL_zero, List.append_nil, List.append_assoc, List.cons_append, List.nil_append, Nat.pow_zero, Nat.div_one, decide_eq_false_iff_not, beq_eq_false_iff_ne] <;> omega)) | refine F3 (fun h => ?_) fun h => ?_ | refine F4 (fun h => ?_) fun h => ?_ | refine R1 ?_ | refine A1 ?_ | refine A2 ?_ | (refine Ar.fit (wrap_i64 ?_ ?_) ?_; · ((try dsimp only) <;> simp only [beL_zero, List.append_nil, List.append_assoc, List.cons_append, List.nil_append, Nat.pow_zero, Nat.div_one] <;> omega); · ((try dsimp only) <;> simp only [beL_zero, List.append_nil, List.append_assoc, List.cons_append, List.nil_append, Nat.pow_zero, Nat.div_one] <;> omega)) | (refine Ar.fit (wrap_u64 ?_ ?_) ?_; · ((try dsimp only) <;> simp only [beL_zero, List.append_nil, List.append_assoc, List.cons_append, List.nil_append, Nat.pow_zero, Nat.div_one] <;> omega); · ((try dsimp only) <;> simp only [beL_zero, List.append_nil, List.append_assoc, List.cons_append, List.nil_append, Nat.pow_zero, Nat.div_one] <;> omega)) | (refine AskL.mk ?_ ?_; · ((simp only [conj]; repeat' apply And.intro) <;> first | rfl | trivial | omega | (simp only [beL_zero, List.append_nil, List.append_assoc, List.cons_append, List.nil_append, Nat.pow_zero, Nat.div_one]; done) | (simp only [beL_zero, List.append_nil, List.append_assoc, List.cons_append, List.nil_append, Nat.pow_zero, Nat.div_one] <;> omega) | (simp only [beL_zero, List.append_nil, List.append_assoc, List.cons_append, List.nil_append, Nat.pow_zero, Nat.div_one]; refine Bool.eq_iff_iff.2 ?_; simp only [decide_eq_true_eq, Bool.false_eq_true, true_iff, iff_true, false_iff, iff_false, eq_self]; omega) | (simp only [*, beL_zero, List.append_nil, List.append_assoc, List.cons_append, List.nil_append, Nat.pow_zero, Nat.div_one]; done))) | refine L1 ?_ | refine K1 ?_ | (refine Ask.mk ?_ ?_; · ((try dsimp only) <;> simp only [beL_zero, List.append_nil, List.append_assoc, List.cons_append, List.nil_append, Nat.pow_zero, Nat.div_one] <;> omega)) | (refine Y2 fun y he he' hy => ?_; (try dsimp only at he he' hy)) | (refine Y1 fun y he hy => ?_; (try with_reducible conv at he => (rhs; whnf)); (try dsimp only at he hy)) | (refine All'.mk ?_; intro y hy) | refine Q1 ?_ | fail)); all_goals (conv => whnf))
    | succ r =>
      have hst := beL_step r u (by omega)
      have hx : (8 * (((r + 1 : Nat) : Int) - 1)).toNat = 8 * r := by omega
      have hfd : ((u : Nat) : Int).fdiv (2 ^ min (8 * (((r + 1 : Nat) : Int) - 1)).toNat IntKind.u64.bits) = ((u / 256 ^ r : Nat) : Int) := by
        rw [hx, fdiv_pow u (8 * r) (by omega), Nat.pow_mul]
      have hwr : IntKind.u8.wrap ((u / 256 ^ r : Nat) : Int) = ((u / 256 ^ r % 256 : Nat) : Int) := by rw [wrap_u8_mod]; omega
      have hlen : (bs ++ [((247 + (beL u).length : Nat) : Int)] ++ beL (u / 256 ^ (r + 1))).length ≤ 200000000009 := by
        have h1 := beL_shift (r + 1) u hr
        simp only [List.length_append, List.length_singleton]; omega
      clear hx
      ((repeat' ((conv => whnf) <;> first | exact True.intro | refine F1 ?_ | refine F2 ?_ | (refine Fork.pos ?_ ?_; · (simp only [beL_zero, List.append_nil, List.append_assoc, List.cons_append, List.nil_append, Nat.pow_zero, Nat.div_one, decide_eq_true_eq, beq_iff_eq, bne_iff_ne, ne_eq] <;> omega)) | (refine Fork.neg ?_ ?_; · (simp only [beL_zero, List.append_nil, List.append_assoc, List.cons_append, List.nil_append, Nat.pow_zero, Nat.div_one, decide_eq_false_iff_not, beq_eq_false_iff_ne] <;> omega)) | refine F3 (fun h => ?_) fun h => ?_ | refine F4 (fun h => ?_) fun h => ?_ | refine R1 ?_ | refine A1 ?_ | refine A2 ?_ | (refine Ar.fit (wrap_i64 ?_ ?_) ?_; · ((try dsimp only) <;> simp only [beL_zero, List.append_nil, List.append_assoc, List.cons_append, List.nil_append, Nat.pow_zero, Nat.div_one] <;> omega); · ((try dsimp only) <;> simp only [beL_zero, List.append_nil, List.append_assoc, List.cons_append, List.nil_append, Nat.pow_zero, Nat.div_one] <;> omega)) | (refine Ar.fit (wrap_u64 ?_ ?_) ?_; · ((try dsimp only) <;> simp only [beL_zero, List.append_nil, List.append_assoc, List.cons_append, List.nil_append, Nat.pow_zero, Nat.div_one] <;> omega); · ((try dsimp only) <;> simp only [beL_zero, List.append_nil, List.append_assoc, List.cons_append, List.nil_append, Nat.pow_zero, Nat.div_one] <;> omega)) | (refine AskL.mk ?_ ?_; · ((simp only [conj]; repeat' apply And.intro) <;> first | rfl | trivial | omega | (simp only [beL_zero, List.append_nil, List.append_assoc, List.cons_append, List.nil_append, Nat.pow_zero, Nat.div_one]; done) | (simp only [beL_zero, List.append_nil, List.append_assoc, List.cons_append, List.nil_append, Nat.pow_zero, Nat.div_one] <;> omega) | (simp only [beL_zero, List.append_nil, List.append_assoc, List.cons_append, List.nil_append, Nat.pow_zero, Nat.div_one]; refine Bool.eq_iff_iff.2 ?_; simp only [decide_eq_true_eq, Bool.false_eq_true, true_iff, iff_true, false_iff, iff_false, eq_self]; omega) | (simp only [*, beL_zero, List.append_nil, List.append_assoc, List.cons_append, List.nil_append, Nat.pow_zero, Nat.div_one]; done))) | refine L1 ?_ | refine K1 ?_ | (refine Ask.mk ?_ ?_; · ((try dsimp only) <;> simp only [beL_zero, List.append_nil, List.append_assoc, List.cons_append, List.nil_append, Nat.pow_zero, Nat.div_one] <;> omega)) | (refine Y2 fun y he he' hy => ?_; (try dsimp only at he he' hy)) | (refine Y1 fun y he hy => ?_; (try with_reducible conv at he => (rhs; whnf)); (try dsimp only at he hy)) | (refine All'.mk ?_; intro y hy) | refine Q1 ?_ | fail)); all_goals (conv => whnf))
      refine Some'.mk r ?_
      ((repeat' ((conv => whnf) <;> first | exact True.intro | refine F1 ?_ | refine F2 ?_ | (refine Fork.pos ?_ ?_; · (simp only [beL_zero, List.append_nil, List.append_assoc, List.cons_append, List.nil_append, Nat.pow_zero, Nat.div_one, decide_eq_true_eq, beq_iff_eq, bne_iff_ne, ne_eq] <;> omega)) | (refine Fork.neg ?_ ?_; · (simp only [beL_zero, List.append_nil, List.append_assoc, List.cons_append, List.nil_append, Nat.pow_zero, Nat.div_one, decide_eq_false_iff_not, beq_eq_false_iff_ne] <;> omega)) | refine F3 (fun h => ?_) fun h => ?_ | refine F4 (fun h => ?_) fun h => ?_ | refine R1 ?_ | refine A1 ?_ | refine A2 ?_ | (refine Ar.fit (wrap_i64 ?_ ?_) ?_; · ((try dsimp only) <;> simp only [beL_zero, List.append_nil, List.append_assoc, List.cons_append, List.nil_append, Nat.pow_zero, Nat.div_one] <;> omega); · ((try dsimp only) <;> simp only [beL_zero, List.append_nil, List.append_assoc, List.cons_append, List.nil_append, Nat.pow_zero, Nat.div_one] <;> omega)) | (refine Ar.fit (wrap_u64 ?_ ?_) ?_; · ((try dsimp only) <;> simp only [beL_zero, List.append_nil, List.append_assoc, List.cons_append, List.nil_append, Nat.pow_zero, Nat.div_one] <;> omega); · ((try dsimp only) <;> simp only [beL_zero, List.append_nil, List.append_assoc, List.cons_append, List.nil_append, Nat.pow_zero, Nat.div_one] <;> omega)) | (refine AskL.mk ?_ ?_; · ((simp only [conj]; repeat' apply And.intro) <;> first | rfl | trivial | omega | (simp only [beL_zero, List.append_nil, List.append_assoc, List.cons_append, List.nil_append, Nat.pow_zero, Nat.div_one]; done) | (simp only [beL_zero, List.append_nil, List.append_assoc, List.cons_append, List.nil_append, Nat.pow_zero, Nat.div_one] <;> omega) | (simp only [beL_zero, List.append_nil, List.append_assoc, List.cons_append, List.nil_append, Nat.pow_zero, Nat.div_one]; refine Bool.eq_iff_iff.2 ?_; simp only [decide_eq_true_eq, Bool.false_eq_true, true_iff, iff_true, false_iff, iff_false, eq_self]; omega) | (simp only [*, beL_zero, List.append_nil, List.append_assoc, List.cons_append, List.nil_append, Nat.pow_zero, Nat.div_one]; done))) | refine L1 ?_ | refine K1 ?_ | (refine Ask.mk ?_ ?_; · ((try dsimp only) <;> simp only [beL_zero, List.append_nil, List.append_assoc, List.cons_append, List.nil_append, Nat.pow_zero, Nat.div_one] <;> omega)) | (refine Y2 fun y he he' hy => ?_; (try dsimp only at he he' hy)) | (refine Y1 fun y he hy => ?_; (try with_reducible conv at he => (rhs; whnf)); (try dsimp only at he hy)) | (refine All'.mk ?_; intro y hy) | refine Q1 ?_ | fail)); all_goals (conv => whnf))

@[reducible] def fixedC : Ctr := {
  X := List Int × List Int
  Y := Unit
  args := fun x => [.ptr 0 0, .ro true (.int .u8) x.2]
  rw := fun x => penE 0 x.1 1
  side := fun x => x.1.length + x.2.length ≤ 200000000000
  val := fun _ => ()
  ens := fun _ _ => True
  res := fun _ _ => .tuple []
  out := fun x _ => penE 0 (x.1 ++ x.2) 1000 }
theorem fixed_ok : fixedC.ok Try.prog 73 := by
  refine ok_of_vc (An := fun _ => anOf []) (known_nil _) mo Try.func73 (by kernel_rfl) (by kernel_rfl) (fun _ _ => trivial) (fun x hs => ?_)
  obtain ⟨bs, xs⟩ := x
  have hs : bs.length + xs.length ≤ 200000000000 := hs
  ((repeat' ((conv => whnf) <;> first | exact True.intro | refine F1 ?_ | refine F2 ?_ | refine F3 (fun h => ?_) fun h => ?_ | refine F4 (fun h => ?_) fun h => ?_ | refine R1 ?_ | refine A1 ?_ | refine A2 ?_ | refine L1 ?_ | refine K1 ?_ | (refine Y2 fun y he he' hy => ?_; (try dsimp only at he he' hy)) | (refine Y1 fun y he hy => ?_; (try with_reducible conv at he => (rhs; whnf)); (try dsimp only at he hy)) | (refine All'.mk ?_; intro y hy) | refine Q1 ?_ | fail)); all_goals (conv => whnf))

@[reducible] def textC : Ctr := {
  X := List Int × List Int
  Y := Unit
  args := fun x => [.ptr 0 0, .ro true (.int .u8) x.2]
  rw := fun x => penE 0 x.1 1
  side := fun x => x.1.length + x.2.length ≤ 100000000000
  val := fun _ => ()
  ens := fun _ _ => True
  res := fun _ _ => .tuple []
  out := fun x _ => penE 0 (x.1 ++ numL x.2.length ++ x.2) 1000 }
theorem knownP1 : Known Try.prog (gOf [(66, numC), (73, fixedC)]) :=
  known_cons ⟨num_ok, Try.call66⟩ (known_cons ⟨fixed_ok, Try.call73⟩ (known_nil _))
theorem text_ok : textC.ok Try.prog 65 := by
  refine ok_of_vc (An := fun _ => anOf []) knownP1 mo Try.func65 (by kernel_rfl) (by kernel_rfl) (fun _ _ => trivial) (fun x hs => ?_)
  obtain ⟨bs, xs⟩ := x
  have hs : bs.length + xs.length ≤ 100000000000 := hs
  have hw : IntKind.u64.wrap ((xs.length : Nat) : Int) = ((xs.length : Nat) : Int) := wrap_u64 (by omega) (by omega)
  have hn := numL_le (u := xs.length) (by omega)
  ((repeat' ((conv => whnf) <;> first | exact True.intro | refine F1 ?_ | refine F2 ?_ | refine F3 (fun h => ?_) fun h => ?_ | refine F4 (fun h => ?_) fun h => ?_ | refine R1 ?_ | refine A1 ?_ | refine A2 ?_ | refine L1 ?_ | refine K1 ?_ | (refine Y2 fun y he he' hy => ?_; (try dsimp only at he he' hy)) | (refine Y1 fun y he hy => ?_; (try with_reducible conv at he => (rhs; whnf)); (try dsimp only at he hy)) | (refine All'.mk ?_; intro y hy) | refine Q1 ?_ | fail)); all_goals (conv => whnf))
  refine CallP.mk (C := numC) ⟨bs, xs.length⟩ ?_
  ((repeat' ((conv => whnf) <;> first | exact True.intro | refine F1 ?_ | refine F2 ?_ | refine F3 (fun h => ?_) fun h => ?_ | refine F4 (fun h => ?_) fun h => ?_ | refine R1 ?_ | refine A1 ?_ | refine A2 ?_ | refine L1 ?_ | refine K1 ?_ | (refine Y2 fun y he he' hy => ?_; (try dsimp only at he he' hy)) | (refine Y1 fun y he hy => ?_; (try with_reducible conv at he => (rhs; whnf)); (try dsimp only at he hy)) | (refine All'.mk ?_; intro y hy) | refine Q1 ?_ | fail)); all_goals (conv => whnf))
  refine CallP.mk (C := fixedC) (bs ++ numL xs.length, xs) ?_
  ((repeat' ((conv => whnf) <;> first | exact True.intro | refine F1 ?_ | refine F2 ?_ | (refine Fork.pos ?_ ?_; · (simp only [List.length_append, decide_eq_true_eq, beq_iff_eq, bne_iff_ne, ne_eq] <;> omega)) | (refine Fork.neg ?_ ?_; · (simp only [List.length_append, decide_eq_false_iff_not, beq_eq_false_iff_ne] <;> omega)) | refine F3 (fun h => ?_) fun h => ?_ | refine F4 (fun h => ?_) fun h => ?_ | refine R1 ?_ | refine A1 ?_ | refine A2 ?_ | (refine Ar.fit (wrap_i64 ?_ ?_) ?_; · ((try dsimp only) <;> simp only [List.length_append] <;> omega); · ((try dsimp only) <;> simp only [List.length_append] <;> omega)) | (refine Ar.fit (wrap_u64 ?_ ?_) ?_; · ((try dsimp only) <;> simp only [List.length_append] <;> omega); · ((try dsimp only) <;> simp only [List.length_append] <;> omega)) | (refine AskL.mk ?_ ?_; · ((simp only [conj]; repeat' apply And.intro) <;> first | rfl | trivial | omega | (simp only [List.length_append]; done) | (simp only [List.length_append] <;> omega) | (simp only [List.length_append]; refine Bool.eq_iff_iff.2 ?_; simp only [decide_eq_true_eq, Bool.false_eq_true, true_iff, iff_true, false_iff, iff_false, eq_self]; omega) | (simp only [*, List.length_append]; done))) | refine L1 ?_ | refine K1 ?_ | (refine Ask.mk ?_ ?_; · ((try dsimp only) <;> simp only [List.length_append] <;> omega)) | (refine Y2 fun y he he' hy => ?_; (try dsimp only at he he' hy)) | (refine Y1 fun y he hy => ?_; (try with_reducible conv at he => (rhs; whnf)); (try dsimp only at he hy)) | (refine All'.mk ?_; intro y hy) | refine Q1 ?_ | fail)); all_goals (conv => whnf))

@[reducible] def cloneBC : Ctr := {
  X := List Int
  Y := Unit
  args := fun x => [.ro true (.int .u8) x]
  rw := fun _ => []
  side := fun x => x.length ≤ 274877906944
  val := fun _ => ()
  ens := fun _ _ => True
  res := fun _ _ => .sl 1000
  out := fun x _ => [(1000, .row 5 (.int .u8) x)] }
theorem cloneB_ok : cloneBC.ok Try.prog 68 := by
  refine ok_of_vc (An := fun _ => anOf []) (known_nil _) mo Try.func68 (by kernel_rfl) (by kernel_rfl) (fun _ _ => trivial) (fun (x : List Int) hs => ?_)
  have hs : x.length ≤ 274877906944 := hs
  ((repeat' ((conv => whnf) <;> first | exact True.intro | refine F1 ?_ | refine F2 ?_ | refine F3 (fun h => ?_) fun h => ?_ | refine F4 (fun h => ?_) fun h => ?_ | refine R1 ?_ | refine A1 ?_ | refine A2 ?_ | refine L1 ?_ | refine K1 ?_ | (refine Y2 fun y he he' hy => ?_; (try dsimp only at he he' hy)) | (refine Y1 fun y he hy => ?_; (try with_reducible conv at he => (rhs; whnf)); (try dsimp only at he hy)) | (refine All'.mk ?_; intro y hy) | refine Q1 ?_ | fail)); all_goals (conv => whnf))
end Go.Proofs.Ytdgemajcplbllaa
