/- Ledger: the law's rows. -/
import Derived.Test.YteckpdifeoffjaaDoorLedE
set_option linter.unusedVariables false
set_option linter.unusedSimpArgs false
set_option maxRecDepth 100000
namespace Go.Proofs.YteckpdifeoffjaaDoor
open Go.Eng

abbrev rowT : Ty := .pair (.int .u64) (.int .u64)
def isL (o : LedO) (n : Nat) : List Int := ((ksO o).take n).map fun (k : Nat) => (k : Int)
def rsL (o : LedO) (n : Nat) : List (Int × Int) := ((ksO o).take n).map fun k => (((fO o k).1 : Int), ((fO o k).2 : Int))
theorem isL_succ {o : LedO} {c : Nat} (h : c < (ksO o).length) : isL o (c + 1) = isL o c ++ [(kth o c : Int)] := by
  unfold isL; rw [take_succ_of (kth_at h)]; simp
theorem rsL_succ {o : LedO} {c : Nat} (h : c < (ksO o).length) : rsL o (c + 1) = rsL o c ++ [(((fO o (kth o c)).1 : Int), ((fO o (kth o c)).2 : Int))] := by
  unfold rsL; rw [take_succ_of (kth_at h)]; simp
theorem ksO_len (o : LedO) : (ksO o).length ≤ 14 := by
  cases o with
  | none => exact Nat.zero_le _
  | some f =>
    show (ksF f 1 14).length ≤ 14
    have h : ∀ n k, (ksF f k n).length ≤ n := by
      intro n
      induction n with
      | zero => exact fun k => Nat.le_refl 0
      | succ n ih =>
        intro k
        unfold ksF
        split
        · have := ih (k + 1); omega
        · have := ih (k + 1); simp; omega
    exact h 14 1
theorem isL_length {o : LedO} {n : Nat} (h : n ≤ (ksO o).length) : (isL o n).length = n := by simp [isL]; omega
theorem rsL_length {o : LedO} {n : Nat} (h : n ≤ (ksO o).length) : (rsL o n).length = n := by simp [rsL]; omega

theorem made_min {g : Nat → Bool} {m : Int} (hg : ∀ k, g k = decide ((k : Int) < m)) (n : Nat) : min (made g n 0) m.toNat = min n m.toNat := by
  by_cases h : n ≤ m.toNat
  · rw [made_all g n 0 (fun j _ hj => by rw [hg]; exact decide_eq_true (by omega))]
    omega
  · rw [made_at g n 0 m.toNat (Nat.zero_le _) (by omega) (fun j _ hj => by rw [hg]; exact decide_eq_true (by omega)) (by rw [hg]; exact decide_eq_false (by omega))]
    omega

structure LrX where
  f : Nat → Nat × Nat
  m : Int
@[reducible] def cntR (x : LrX) : Nat := min (ksO (some x.f)).length x.m.toNat
@[reducible] def lrC : Ctr := {
  X := LrX
  Y := Unit
  args := fun x => [.ptr 0 0, .v (.int .i64 x.m)]
  rw := fun x => [(0, ledE x.f)]
  side := fun x => True
  val := fun _ => ()
  ens := fun _ _ => True
  res := fun _ _ => .tuple [.sl 1000, .sl 1001]
  out := fun x _ => [(0, ledE x.f), (1000, .row 3 (.int .i64) (isL (some x.f) (cntR x))), (1001, .row 32 rowT (rsL (some x.f) (cntR x)))] }
@[reducible] def lrR (x : LrX) : RA := {
  X := Unit
  T := fun _ => [(3, .ptr 6 0), (6, .ptr 7 0), (7, .ptr 8 0), (15, .func (.func 30) [] [.ptr 2 0])]
  M := fun _ k => [(7, .cells 47 [.sl 4]), (8, .cells 48 [.sl 5]), (4, .row 3 (.int .i64) (isL (some x.f) (min k x.m.toNat))), (5, .row 32 rowT (rsL (some x.f) (min k x.m.toNat))), (6, .cells 3 [.v (.int .i64 x.m)])]
  R := fun _ => restM (some x.f)
  rg := [0, 2, 6, 7, 8]
  n := fun _ => (ksO (some x.f)).length
  args := fun _ k => [.v (.int .i64 (kth (some x.f) k : Nat)), rowV (fO (some x.f) (kth (some x.f) k))]
  goes := fun _ k => decide ((k : Int) < x.m)
  jump := fun _ _ => .exit 0 }
theorem sideM (o : LedO) (g : Nat → Bool) : ∀ Y : Yld, (Y.args = fun k => [.v (.int .i64 (kth o k : Nat)), rowV (fO o (kth o k))]) → Y.goes = g → Y.live = liveB (ksO o).length g →
      ∀ (c : Nat) f (k : Nat), o = some f → (ksO o)[c]? = some k → Y.args c = [.v (.int .i64 k), rowV (f k)] ∧ ((∀ j, j < c → Y.goes j = true) → Y.live c = true) := fun Y h1 h2 h3 c f k hf hk => by
  subst hf
  refine ⟨by rw [h1]; simp only [kth_of hk]; rfl, fun hg => ?_⟩
  rw [h3, liveB_iff]
  exact ⟨(List.getElem?_eq_some_iff.1 hk).1, fun j hj => by rw [← h2]; exact hg j hj⟩
theorem lr_ok : lrC.ok Tryd.prog 16 := by
  refine ok_of_vc (An := fun (x : LrX) => anOf [(0, .range (lrR x))]) knownTot mo Tryd.func16 (by kernel_rfl) (by kernel_rfl) (fun _ _ => trivial) (fun x hs => ?_)
  obtain ⟨f, m⟩ := x
  have hk14 := ksO_len (some f)
  have hi0 : isL (some f) (min 0 m.toNat) = [] := by simp [isL]
  have hw0 : rsL (some f) (min 0 m.toNat) = [] := by simp [rsL]
  ((repeat' ((conv => whnf) <;> first | exact True.intro | (guard_target =~ Fork _ _ _; first | refine F1 ?_ | refine F2 ?_ | refine F3 (fun h => ?_) fun h => ?_) | (guard_target =~ Ar _ _ _; first | refine A1 ?_ | refine A2 ?_) | (guard_target =~ AskL _ _; first | refine L1 ?_) | (guard_target =~ Go.Eng.Ask _ _; first | refine K1 ?_) | (guard_target =~ All' _ _; first | (refine Y2 fun y he he' hy => ?_; (try dsimp only at he he' hy)) | (refine Y1 fun y he hy => ?_; (try with_reducible conv at he => (rhs; whnf)); (try dsimp only at he hy)) | (refine All'.mk ?_; intro y hy)) | refine F4 (fun h => ?_) fun h => ?_ | refine R1 ?_ | refine Q1 ?_ | fail)); all_goals (conv => whnf))
  refine CallP.mk (C := rowsC) (some f) ?_
  ((repeat' ((conv => whnf) <;> first | exact True.intro | (guard_target =~ Fork _ _ _; first | refine F1 ?_ | refine F2 ?_ | refine F3 (fun h => ?_) fun h => ?_) | (guard_target =~ Ar _ _ _; first | refine A1 ?_ | refine A2 ?_) | (guard_target =~ AskL _ _; first | refine L1 ?_) | (guard_target =~ Go.Eng.Ask _ _; first | refine K1 ?_) | (guard_target =~ All' _ _; first | (refine Y2 fun y he he' hy => ?_; (try dsimp only at he he' hy)) | (refine Y1 fun y he hy => ?_; (try with_reducible conv at he => (rhs; whnf)); (try dsimp only at he hy)) | (refine All'.mk ?_; intro y hy)) | refine F4 (fun h => ?_) fun h => ?_ | refine R1 ?_ | refine Q1 ?_ | fail)); all_goals (conv => whnf))
  refine Some'.mk () ?_
  ((repeat' ((conv => whnf) <;> first | exact True.intro | (guard_target =~ Fork _ _ _; first | refine F1 ?_ | refine F2 ?_ | refine F3 (fun h => ?_) fun h => ?_) | (guard_target =~ Ar _ _ _; first | refine A1 ?_ | refine A2 ?_) | (guard_target =~ AskL _ _; first | refine L1 ?_) | (guard_target =~ Go.Eng.Ask _ _; first | refine K1 ?_) | (guard_target =~ All' _ _; first | (refine Y2 fun y he he' hy => ?_; (try dsimp only at he he' hy)) | (refine Y1 fun y he hy => ?_; (try with_reducible conv at he => (rhs; whnf)); (try dsimp only at he hy)) | (refine All'.mk ?_; intro y hy)) | refine F4 (fun h => ?_) fun h => ?_ | refine R1 ?_ | refine Q1 ?_ | fail)); all_goals (conv => whnf))
  refine Two.mk ?_ ?_
  · refine AllI.mk ?_
    intro k hk
    have hg := liveB_iff.1 hk
    have hk := hg.1
    dsimp only at hk
    have hkn : ∀ j, j < k → (j : Int) < m := fun j hj => of_decide_eq_true (hg.2 j hj)
    have hl1 := isL_length (o := some f) (n := min k m.toNat) (by omega)
    have hl2 := rsL_length (o := some f) (n := min k m.toNat) (by omega)
    have hr := kth_range hk
    ((repeat' ((conv => whnf) <;> first | exact True.intro | (guard_target =~ Fork _ _ _; first | refine F1 ?_ | refine F2 ?_ | refine F3 (fun h => ?_) fun h => ?_) | (guard_target =~ Ar _ _ _; first | refine A1 ?_ | refine A2 ?_) | (guard_target =~ AskL _ _; first | refine L1 ?_) | (guard_target =~ Go.Eng.Ask _ _; first | refine K1 ?_) | (guard_target =~ All' _ _; first | (refine Y2 fun y he he' hy => ?_; (try dsimp only at he he' hy)) | (refine Y1 fun y he hy => ?_; (try with_reducible conv at he => (rhs; whnf)); (try dsimp only at he hy)) | (refine All'.mk ?_; intro y hy)) | refine F4 (fun h => ?_) fun h => ?_ | refine R1 ?_ | refine Q1 ?_ | fail)); all_goals (conv => whnf))
    · have hm : min (k + 1) m.toNat = min k m.toNat := by omega
      refine Ask.mk ⟨decide_eq_false (by dsimp only; omega), rfl⟩ ?_
      ((repeat' ((conv => whnf) <;> first | exact True.intro | (guard_target =~ Fork _ _ _; first | refine F1 ?_ | refine F2 ?_ | refine F3 (fun h => ?_) fun h => ?_) | (guard_target =~ Ar _ _ _; first | refine A1 ?_ | refine A2 ?_) | (guard_target =~ AskL _ _; first | refine L1 ?_) | (guard_target =~ Go.Eng.Ask _ _; first | refine K1 ?_) | (guard_target =~ All' _ _; first | (refine Y2 fun y he he' hy => ?_; (try dsimp only at he he' hy)) | (refine Y1 fun y he hy => ?_; (try with_reducible conv at he => (rhs; whnf)); (try dsimp only at he hy)) | (refine All'.mk ?_; intro y hy)) | refine F4 (fun h => ?_) fun h => ?_ | refine R1 ?_ | refine Q1 ?_ | fail)); all_goals (conv => whnf))
    · have hm : min k m.toNat = k := by omega
      have hm' : min (k + 1) m.toNat = k + 1 := by omega
      have hi := isL_succ hk
      have hw := rsL_succ hk
      ((repeat' ((conv => whnf) <;> first | exact True.intro | (guard_target =~ Fork _ _ _; first | refine F1 ?_ | refine F2 ?_ | refine F3 (fun h => ?_) fun h => ?_) | (guard_target =~ Ar _ _ _; first | refine A1 ?_ | refine A2 ?_) | (guard_target =~ AskL _ _; first | refine L1 ?_) | (guard_target =~ Go.Eng.Ask _ _; first | refine K1 ?_) | (guard_target =~ All' _ _; first | (refine Y2 fun y he he' hy => ?_; (try dsimp only at he he' hy)) | (refine Y1 fun y he hy => ?_; (try with_reducible conv at he => (rhs; whnf)); (try dsimp only at he hy)) | (refine All'.mk ?_; intro y hy)) | refine F4 (fun h => ?_) fun h => ?_ | refine R1 ?_ | refine Q1 ?_ | fail)); all_goals (conv => whnf))
      refine Ask.mk (decide_eq_true (by dsimp only; omega)) ?_
      ((repeat' ((conv => whnf) <;> first | exact True.intro | (guard_target =~ Fork _ _ _; first | refine F1 ?_ | refine F2 ?_ | refine F3 (fun h => ?_) fun h => ?_) | (guard_target =~ Ar _ _ _; first | refine A1 ?_ | refine A2 ?_) | (guard_target =~ AskL _ _; first | refine L1 ?_) | (guard_target =~ Go.Eng.Ask _ _; first | refine K1 ?_) | (guard_target =~ All' _ _; first | (refine Y2 fun y he he' hy => ?_; (try dsimp only at he he' hy)) | (refine Y1 fun y he hy => ?_; (try with_reducible conv at he => (rhs; whnf)); (try dsimp only at he hy)) | (refine All'.mk ?_; intro y hy)) | refine F4 (fun h => ?_) fun h => ?_ | refine R1 ?_ | refine Q1 ?_ | fail)); all_goals (conv => whnf))
  · refine AllI.mk ?_
    rintro ⟨l, Y⟩ ⟨h1, h2, h3, h4⟩
    dsimp only at h1 h2 h3 h4
    ((repeat' ((conv => whnf) <;> first | exact True.intro | (guard_target =~ Fork _ _ _; first | refine F1 ?_ | refine F2 ?_ | refine F3 (fun h => ?_) fun h => ?_) | (guard_target =~ Ar _ _ _; first | refine A1 ?_ | refine A2 ?_) | (guard_target =~ AskL _ _; first | refine L1 ?_) | (guard_target =~ Go.Eng.Ask _ _; first | refine K1 ?_) | (guard_target =~ All' _ _; first | (refine Y2 fun y he he' hy => ?_; (try dsimp only at he he' hy)) | (refine Y1 fun y he hy => ?_; (try with_reducible conv at he => (rhs; whnf)); (try dsimp only at he hy)) | (refine All'.mk ?_; intro y hy)) | refine F4 (fun h => ?_) fun h => ?_ | refine R1 ?_ | refine Q1 ?_ | fail)); all_goals (conv => whnf))
    refine CallP.mk (C := iterC) ⟨Y, l, some f⟩ ?_
    ((repeat' ((conv => whnf) <;> first | exact True.intro | (guard_target =~ Fork _ _ _; first | refine F1 ?_ | refine F2 ?_ | refine F3 (fun h => ?_) fun h => ?_) | (guard_target =~ Ar _ _ _; first | refine A1 ?_ | refine A2 ?_) | (guard_target =~ AskL _ _; first | refine L1 ?_) | (guard_target =~ Go.Eng.Ask _ _; first | refine K1 ?_) | (guard_target =~ All' _ _; first | (refine Y2 fun y he he' hy => ?_; (try dsimp only at he he' hy)) | (refine Y1 fun y he hy => ?_; (try with_reducible conv at he => (rhs; whnf)); (try dsimp only at he hy)) | (refine All'.mk ?_; intro y hy)) | refine F4 (fun h => ?_) fun h => ?_ | refine R1 ?_ | refine Q1 ?_ | fail)); all_goals (conv => whnf))
    refine Ask.mk ⟨h4, sideM _ _ Y h1 h2 h3⟩ ?_
    ((repeat' ((conv => whnf) <;> first | exact True.intro | (guard_target =~ Fork _ _ _; first | refine F1 ?_ | refine F2 ?_ | refine F3 (fun h => ?_) fun h => ?_) | (guard_target =~ Ar _ _ _; first | refine A1 ?_ | refine A2 ?_) | (guard_target =~ AskL _ _; first | refine L1 ?_) | (guard_target =~ Go.Eng.Ask _ _; first | refine K1 ?_) | (guard_target =~ All' _ _; first | (refine Y2 fun y he he' hy => ?_; (try dsimp only at he he' hy)) | (refine Y1 fun y he hy => ?_; (try with_reducible conv at he => (rhs; whnf)); (try dsimp only at he hy)) | (refine All'.mk ?_; intro y hy)) | refine F4 (fun h => ?_) fun h => ?_ | refine R1 ?_ | refine Q1 ?_ | fail)); all_goals (conv => whnf))
    have hn : min (made Y.goes (ksO (some f)).length 0) m.toNat = min (ksO (some f)).length m.toNat := made_min (fun k => by rw [h2]) _
    refine Some'.mk (made Y.goes (ksO (some f)).length 0) ?_
    conv => whnf
    refine Eqn.mk rfl ?_
    ((repeat' ((conv => whnf) <;> first | exact True.intro | (guard_target =~ Fork _ _ _; first | refine F1 ?_ | refine F2 ?_ | refine F3 (fun h => ?_) fun h => ?_) | (guard_target =~ Ar _ _ _; first | refine A1 ?_ | refine A2 ?_) | (guard_target =~ AskL _ _; first | refine L1 ?_) | (guard_target =~ Go.Eng.Ask _ _; first | refine K1 ?_) | (guard_target =~ All' _ _; first | (refine Y2 fun y he he' hy => ?_; (try dsimp only at he he' hy)) | (refine Y1 fun y he hy => ?_; (try with_reducible conv at he => (rhs; whnf)); (try dsimp only at he hy)) | (refine All'.mk ?_; intro y hy)) | refine F4 (fun h => ?_) fun h => ?_ | refine R1 ?_ | refine Q1 ?_ | fail)); all_goals (conv => whnf))
    all_goals (refine AskL.mk ?_ trivial; simp only [conj, hn, cntR, and_self])
