/- Timer: the waits, one by one. -/
import Derived.Test.YtdgemajcplbllaaTimA
set_option linter.unusedVariables false
set_option linter.unusedSimpArgs false
set_option maxRecDepth 100000
namespace Go.Proofs.Ytdgemajcplbllaa
open Go.Eng

/-- Calls made up to the one behind which it does not go on. -/
def made (g : Nat → Bool) : Nat → Nat → Nat
  | 0, i => i
  | n + 1, i => if g i then made g n (i + 1) else i + 1

theorem made_at (g : Nat → Bool) : ∀ (n i k : Nat), i ≤ k → k < i + n → (∀ j, i ≤ j → j < k → g j = true) → g k = false → made g n i = k + 1
  | 0, i, k, h1, h2, _, _ => by omega
  | n + 1, i, k, h1, h2, hg, hk => by
    unfold made
    by_cases e : i = k
    · subst e; simp [hk]
    · rw [if_pos (hg i (Nat.le_refl _) (by omega))]
      exact made_at g n (i + 1) k (by omega) (by omega) (fun j h3 h4 => hg j (by omega) h4) hk
theorem made_all (g : Nat → Bool) : ∀ (n i : Nat), (∀ j, i ≤ j → j < i + n → g j = true) → made g n i = i + n
  | 0, i, _ => rfl
  | n + 1, i, hg => by
    unfold made
    rw [if_pos (hg i (Nat.le_refl _) (by omega)), made_all g n (i + 1) (fun j h1 h2 => hg j (by omega) (by omega))]
    omega

structure WX where
  Y : Yld
  l : Nat
  every : Int
  tries : Int

def fitsP (e t : Int) : Prop := 1 ≤ e ∧ e ≤ 1000 ∧ 0 ≤ t ∧ t ≤ 10
instance (e t : Int) : Decidable (fitsP e t) := by unfold fitsP; infer_instance

@[reducible] def waitsN (x : WX) : Nat := if fitsP x.every x.tries then made x.Y.goes (x.tries.toNat + 1) 0 else 0

@[reducible] def waitsC : Ctr := {
  X := WX
  Y := Unit
  args := fun x => [.v (.func (.yield x.l) ⟨[]⟩ ⟨[]⟩), .rop true [.v (.int .i64 x.every)] 0, .rop true [.v (.int .i64 x.tries)] 0]
  rw := fun x => [(0, .res x.Y.F (x.Y.S 0))]
  side := fun x => YOk Try.prog x.l x.Y ∧ (fitsP x.every x.tries → ∀ k : Nat, (k : Int) ≤ x.tries → x.Y.args k = [.v (.int .i64 k), .v (.int .i64 (waitN x.every k))] ∧ ((∀ j, j < k → x.Y.goes j = true) → x.Y.live k = true))
  val := fun _ => ()
  ens := fun _ _ => True
  res := fun _ _ => .tuple []
  out := fun x _ => [(0, .res x.Y.F (x.Y.S (waitsN x)))] }

@[reducible] def waitsL (x : WX) : LA := {
  X := Nat
  pre := fun k => (k : Int) ≤ x.tries + 1 ∧ ∀ j, j < k → x.Y.goes j = true
  mu := fun k => x.tries.toNat + 1 - k
  T := fun k => [(0, .v (.func (.yield x.l) ⟨[]⟩ ⟨[]⟩)), (1, .rop true [.v (.int .i64 x.every)] 0), (2, .rop true [.v (.int .i64 x.tries)] 0), (10, .v (.int .i64 (x.tries + 1))), (11, .v (.int .i64 k))]
  M := fun k => [(0, .res x.Y.F (x.Y.S k))] }

theorem waits1_ok : waitsC.ok Try.prog 49 := by
  refine ok_of_vc (An := fun x => anOf [(0, .loop (waitsL x))]) (known0) mo Try.func49 (by kernel_rfl) (by kernel_rfl) (fun _ _ => trivial) (fun x hs => ?_)
  obtain ⟨Y, l, e, t⟩ := x
  obtain ⟨hok, hst⟩ := hs
  dsimp only at hok hst
  ((repeat' ((conv => whnf) <;> first | exact True.intro | refine F1 ?_ | refine F2 ?_ | refine F3 (fun h => ?_) fun h => ?_ | refine F4 (fun h => ?_) fun h => ?_ | refine R1 ?_ | refine A1 ?_ | refine A2 ?_ | refine L1 ?_ | refine K1 ?_ | (refine Y2 fun y he he' hy => ?_; (try dsimp only at he he' hy)) | (refine Y1 fun y he hy => ?_; (try with_reducible conv at he => (rhs; whnf)); (try dsimp only at he hy)) | (refine All'.mk ?_; intro y hy) | refine Q1 ?_ | fail)); all_goals (conv => whnf))
  refine CallP.mk (C := fitsC) (e, t) ?_
  ((repeat' ((conv => whnf) <;> first | exact True.intro | refine F1 ?_ | refine F2 ?_ | refine F3 (fun h => ?_) fun h => ?_ | refine F4 (fun h => ?_) fun h => ?_ | refine R1 ?_ | refine A1 ?_ | refine A2 ?_ | refine L1 ?_ | refine K1 ?_ | (refine Y2 fun y he he' hy => ?_; (try dsimp only at he he' hy)) | (refine Y1 fun y he hy => ?_; (try with_reducible conv at he => (rhs; whnf)); (try dsimp only at he hy)) | (refine All'.mk ?_; intro y hy) | refine Q1 ?_ | fail)); all_goals (conv => whnf))
  · have hn : ¬ fitsP e t := by subst he; exact decide_eq_false_iff_not.1 h
    refine AskL.mk ?_ trivial
    simp only [conj, waitsN, if_neg hn]
    trivial
  · have hf : fitsP e t := by subst he; exact decide_eq_true_iff.1 h
    have hft : 1 ≤ e ∧ e ≤ 1000 ∧ 0 ≤ t ∧ t ≤ 10 := hf
    have hst := hst hf
    ((repeat' ((conv => whnf) <;> first | exact True.intro | refine F1 ?_ | refine F2 ?_ | refine F3 (fun h => ?_) fun h => ?_ | refine F4 (fun h => ?_) fun h => ?_ | refine R1 ?_ | refine A1 ?_ | refine A2 ?_ | refine L1 ?_ | refine K1 ?_ | (refine Y2 fun y he he' hy => ?_; (try dsimp only at he he' hy)) | (refine Y1 fun y he hy => ?_; (try with_reducible conv at he => (rhs; whnf)); (try dsimp only at he hy)) | (refine All'.mk ?_; intro y hy) | refine Q1 ?_ | fail)); all_goals (conv => whnf))
    refine Some'.mk (0 : Nat) ?_
    ((repeat' ((conv => whnf) <;> first | exact True.intro | refine F1 ?_ | refine F2 ?_ | refine F3 (fun h => ?_) fun h => ?_ | refine F4 (fun h => ?_) fun h => ?_ | refine R1 ?_ | refine A1 ?_ | refine A2 ?_ | refine L1 ?_ | refine K1 ?_ | (refine Y2 fun y he he' hy => ?_; (try dsimp only at he he' hy)) | (refine Y1 fun y he hy => ?_; (try with_reducible conv at he => (rhs; whnf)); (try dsimp only at he hy)) | (refine All'.mk ?_; intro y hy) | refine Q1 ?_ | fail)); all_goals (conv => whnf))
    refine Ask.mk ⟨by dsimp only; omega, fun j hj => absurd hj (by omega)⟩ ?_
    conv => whnf
    refine AllI.mk ?_
    rintro k ⟨hk, hg⟩
    dsimp only at hk
    ((repeat' ((conv => whnf) <;> first | exact True.intro | refine F1 ?_ | refine F2 ?_ | refine F3 (fun h => ?_) fun h => ?_ | refine F4 (fun h => ?_) fun h => ?_ | refine R1 ?_ | refine A1 ?_ | refine A2 ?_ | refine L1 ?_ | refine K1 ?_ | (refine Y2 fun y he he' hy => ?_; (try dsimp only at he he' hy)) | (refine Y1 fun y he hy => ?_; (try with_reducible conv at he => (rhs; whnf)); (try dsimp only at he hy)) | (refine All'.mk ?_; intro y hy) | refine Q1 ?_ | fail)); all_goals (conv => whnf))
    · have hkt : (k : Int) ≤ t := by omega
      obtain ⟨ha, hl⟩ := hst k hkt
      refine CallP.mk (C := waitC) (e, (k : Int)) ?_
      ((repeat' ((conv => whnf) <;> first | exact True.intro | refine F1 ?_ | refine F2 ?_ | refine F3 (fun h => ?_) fun h => ?_ | refine F4 (fun h => ?_) fun h => ?_ | refine R1 ?_ | refine A1 ?_ | refine A2 ?_ | refine L1 ?_ | refine K1 ?_ | (refine Y2 fun y he he' hy => ?_; (try dsimp only at he he' hy)) | (refine Y1 fun y he hy => ?_; (try with_reducible conv at he => (rhs; whnf)); (try dsimp only at he hy)) | (refine All'.mk ?_; intro y hy) | refine Q1 ?_ | fail)); all_goals (conv => whnf))
      refine YieldP.mk Y k 0 _ ha ?_
      conv => whnf
      refine Ask.mk ⟨hok, hl hg, rfl, rfl⟩ ?_
      ((repeat' ((conv => whnf) <;> first | exact True.intro | refine F1 ?_ | refine F2 ?_ | refine F3 (fun h => ?_) fun h => ?_ | refine F4 (fun h => ?_) fun h => ?_ | refine R1 ?_ | refine A1 ?_ | refine A2 ?_ | refine L1 ?_ | refine K1 ?_ | (refine Y2 fun y he he' hy => ?_; (try dsimp only at he he' hy)) | (refine Y1 fun y he hy => ?_; (try with_reducible conv at he => (rhs; whnf)); (try dsimp only at he hy)) | (refine All'.mk ?_; intro y hy) | refine Q1 ?_ | fail)); all_goals (conv => whnf))
      · have hw : made Y.goes (t.toNat + 1) 0 = k + 1 := made_at Y.goes _ 0 k (Nat.zero_le _) (by omega) (fun j _ hj => hg j hj) h
        refine AskL.mk ?_ trivial
        simp only [conj, waitsN, if_pos hf, hw]
        trivial
      · refine Some'.mk (k + 1 : Nat) ?_
        ((repeat' ((conv => whnf) <;> first | exact True.intro | refine F1 ?_ | refine F2 ?_ | refine F3 (fun h => ?_) fun h => ?_ | refine F4 (fun h => ?_) fun h => ?_ | refine R1 ?_ | refine A1 ?_ | refine A2 ?_ | refine L1 ?_ | refine K1 ?_ | (refine Y2 fun y he he' hy => ?_; (try dsimp only at he he' hy)) | (refine Y1 fun y he hy => ?_; (try with_reducible conv at he => (rhs; whnf)); (try dsimp only at he hy)) | (refine All'.mk ?_; intro y hy) | refine Q1 ?_ | fail)); all_goals (conv => whnf))
        refine Ask.mk ⟨by dsimp only; omega, fun j hj => ?_⟩ ?_
        · rcases Nat.lt_or_ge j k with h1 | h1
          · exact hg j h1
          · have : j = k := by omega
            subst this; exact h
        conv => whnf
        refine Ask.mk ?_ trivial
        dsimp only
        omega
    · have hw : made Y.goes (t.toNat + 1) 0 = k := by
        rw [made_all Y.goes _ 0 (fun j _ hj => hg j (by omega))]; omega
      refine AskL.mk ?_ trivial
      simp only [conj, waitsN, if_pos hf, hw]
      trivial
end Go.Proofs.Ytdgemajcplbllaa
