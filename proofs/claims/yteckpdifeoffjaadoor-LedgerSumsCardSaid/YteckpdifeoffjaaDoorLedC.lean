/- Ledger: the rows that have something, one by one. -/
import Derived.Test.YteckpdifeoffjaaDoorLedB
set_option linter.unusedVariables false
set_option linter.unusedSimpArgs false
set_option maxRecDepth 100000
namespace Go.Proofs.YteckpdifeoffjaaDoor
open Go.Eng

/-- Calls made up to the one behind which it does not go on. -/
def made (g : Nat → Bool) : Nat → Nat → Nat
  | 0, i => i
  | n + 1, i => if g i then made g n (i + 1) else i + 1
theorem made_at (g : Nat → Bool) : ∀ (n i k : Nat), i ≤ k → k < i + n → (∀ j, i ≤ j → j < k → g j = true) → g k = false → made g n i = k + 1
  | 0, i, k, h1, h2, _, _ => by omega
  | n + 1, i, k, h1, h2, hg, hk => by
    unfold made
    by_cases e : i = k
    · subst e; simp [hk]
    · rw [if_pos (hg i (Nat.le_refl _) (by omega))]
      exact made_at g n (i + 1) k (by omega) (by omega) (fun j h3 h4 => hg j (by omega) h4) hk
theorem made_all (g : Nat → Bool) : ∀ (n i : Nat), (∀ j, i ≤ j → j < i + n → g j = true) → made g n i = i + n
  | 0, i, _ => rfl
  | n + 1, i, hg => by
    unfold made
    rw [if_pos (hg i (Nat.le_refl _) (by omega)), made_all g n (i + 1) (fun j h1 h2 => hg j (by omega) (by omega))]
    omega

/-- The kinds that have something, from the k-th on. -/
def ksF (f : Nat → Nat × Nat) : Nat → Nat → List Nat
  | _, 0 => []
  | k, n + 1 => if (f k).1 = 0 ∧ (f k).2 = 0 then ksF f (k + 1) n else k :: ksF f (k + 1) n
theorem ksF_zero {f : Nat → Nat × Nat} {k n : Nat} (h : (f k).1 = 0 ∧ (f k).2 = 0) : ksF f k (n + 1) = ksF f (k + 1) n := if_pos h
theorem ksF_some {f : Nat → Nat × Nat} {k n : Nat} (h : ¬ ((f k).1 = 0 ∧ (f k).2 = 0)) : ksF f k (n + 1) = k :: ksF f (k + 1) n := if_neg h
def ksO (o : LedO) : List Nat := match o with | some f => ksF f 1 14 | none => []
theorem ksF_mem {f : Nat → Nat × Nat} {j : Nat} : ∀ (n k : Nat), j ∈ ksF f k n → k ≤ j ∧ j < k + n
  | 0, k, h => by simp [ksF] at h
  | n + 1, k, h => by
    unfold ksF at h
    split at h
    · have := ksF_mem n (k + 1) h; omega
    · rcases List.mem_cons.1 h with rfl | h
      · omega
      · have := ksF_mem n (k + 1) h; omega

structure RX where
  Y : Yld
  l : Nat
  o : LedO
@[reducible] def keptS (o : LedO) : SV := match o with | some f => .rop true (ledS f 0 15) 0 | none => .v (.pointer none)
@[reducible] def iterC : Ctr := {
  X := RX
  Y := Unit
  args := fun x => [.v (.func (.yield x.l) ⟨[]⟩ ⟨[]⟩), .rop true [keptS x.o] 0]
  rw := fun x => [(0, .res x.Y.F (x.Y.S 0))]
  side := fun x => YOk Tryd.prog x.l x.Y ∧ ∀ (c : Nat) f (k : Nat), x.o = some f → (ksO x.o)[c]? = some k → x.Y.args c = [.v (.int .i64 k), rowV (f k)] ∧ ((∀ j, j < c → x.Y.goes j = true) → x.Y.live c = true)
  val := fun _ => ()
  ens := fun _ _ => True
  res := fun _ _ => .tuple []
  out := fun x _ => [(0, .res x.Y.F (x.Y.S (made x.Y.goes (ksO x.o).length 0)))] }

structure IterS where
  k : Nat
  c : Nat
@[reducible] def iterL (x : RX) (f : Nat → Nat × Nat) : LA := {
  X := IterS
  pre := fun s => 1 ≤ s.k ∧ s.k ≤ 15 ∧ s.c ≤ (ksF f 1 14).length ∧ (ksF f 1 14).drop s.c = ksF f s.k (15 - s.k) ∧ ∀ j, j < s.c → x.Y.goes j = true
  mu := fun s => 15 - s.k
  T := fun s => [(0, .v (.func (.yield x.l) ⟨[]⟩ ⟨[]⟩)), (1, .rop true [.rop true (ledS f 0 15) 0] 0), (3, .v (.int .i64 (s.k : Nat)))]
  M := fun s => [(0, .res x.Y.F (x.Y.S s.c))] }
@[reducible] def iterL0 (x : RX) : LA := {
  X := Unit
  pre := fun s => True
  mu := fun s => 0
  T := fun s => [(0, .v (.func (.yield x.l) ⟨[]⟩ ⟨[]⟩)), (1, .rop true [.v (.pointer none)] 0), (3, .v (.int .i64 1))]
  M := fun s => [(0, .res x.Y.F (x.Y.S 0))] }

theorem iter_ok : iterC.ok Tryd.prog 30 := by
  refine ok_of_vc (An := fun x => anOf [(0, .loop (match x.o with | some f => iterL x f | none => iterL0 x))]) (known_nil _) mo Tryd.func30 (by kernel_rfl) (by kernel_rfl) (fun _ _ => trivial) (fun x hs => ?_)
  obtain ⟨Y, l, o⟩ := x
  obtain ⟨hok, hst⟩ := hs
  dsimp only at hok hst
  cases o with
  | none =>
    ((repeat' ((conv => whnf) <;> first | exact True.intro | (guard_target =~ Fork _ _ _; first | refine F1 ?_ | refine F2 ?_ | refine F3 (fun h => ?_) fun h => ?_) | (guard_target =~ Ar _ _ _; first | refine A1 ?_ | refine A2 ?_) | (guard_target =~ AskL _ _; first | refine L1 ?_) | (guard_target =~ Go.Eng.Ask _ _; first | refine K1 ?_) | (guard_target =~ All' _ _; first | (refine Y2 fun y he he' hy => ?_; (try dsimp only at he he' hy)) | (refine Y1 fun y he hy => ?_; (try with_reducible conv at he => (rhs; whnf)); (try dsimp only at he hy)) | (refine All'.mk ?_; intro y hy)) | refine F4 (fun h => ?_) fun h => ?_ | refine R1 ?_ | refine Q1 ?_ | fail)); all_goals (conv => whnf))
    refine Some'.mk () ?_
    ((repeat' ((conv => whnf) <;> first | exact True.intro | (guard_target =~ Fork _ _ _; first | refine F1 ?_ | refine F2 ?_ | refine F3 (fun h => ?_) fun h => ?_) | (guard_target =~ Ar _ _ _; first | refine A1 ?_ | refine A2 ?_) | (guard_target =~ AskL _ _; first | refine L1 ?_) | (guard_target =~ Go.Eng.Ask _ _; first | refine K1 ?_) | (guard_target =~ All' _ _; first | (refine Y2 fun y he he' hy => ?_; (try dsimp only at he he' hy)) | (refine Y1 fun y he hy => ?_; (try with_reducible conv at he => (rhs; whnf)); (try dsimp only at he hy)) | (refine All'.mk ?_; intro y hy)) | refine F4 (fun h => ?_) fun h => ?_ | refine R1 ?_ | refine Q1 ?_ | fail)); all_goals (conv => whnf))
    refine AllI.mk ?_
    rintro ⟨⟩ _
    ((repeat' ((conv => whnf) <;> first | exact True.intro | (guard_target =~ Fork _ _ _; first | refine F1 ?_ | refine F2 ?_ | refine F3 (fun h => ?_) fun h => ?_) | (guard_target =~ Ar _ _ _; first | refine A1 ?_ | refine A2 ?_) | (guard_target =~ AskL _ _; first | refine L1 ?_) | (guard_target =~ Go.Eng.Ask _ _; first | refine K1 ?_) | (guard_target =~ All' _ _; first | (refine Y2 fun y he he' hy => ?_; (try dsimp only at he he' hy)) | (refine Y1 fun y he hy => ?_; (try with_reducible conv at he => (rhs; whnf)); (try dsimp only at he hy)) | (refine All'.mk ?_; intro y hy)) | refine F4 (fun h => ?_) fun h => ?_ | refine R1 ?_ | refine Q1 ?_ | fail)); all_goals (conv => whnf))
  | some f =>
    have hst := fun (c k : Nat) => hst c f k rfl
    have hks : ksO (some f) = ksF f 1 14 := rfl
    rw [hks] at hst
    ((repeat' ((conv => whnf) <;> first | exact True.intro | (guard_target =~ Fork _ _ _; first | refine F1 ?_ | refine F2 ?_ | refine F3 (fun h => ?_) fun h => ?_) | (guard_target =~ Ar _ _ _; first | refine A1 ?_ | refine A2 ?_) | (guard_target =~ AskL _ _; first | refine L1 ?_) | (guard_target =~ Go.Eng.Ask _ _; first | refine K1 ?_) | (guard_target =~ All' _ _; first | (refine Y2 fun y he he' hy => ?_; (try dsimp only at he he' hy)) | (refine Y1 fun y he hy => ?_; (try with_reducible conv at he => (rhs; whnf)); (try dsimp only at he hy)) | (refine All'.mk ?_; intro y hy)) | refine F4 (fun h => ?_) fun h => ?_ | refine R1 ?_ | refine Q1 ?_ | fail)); all_goals (conv => whnf))
    refine Some'.mk ⟨1, 0⟩ ?_
    ((repeat' ((conv => whnf) <;> first | exact True.intro | (guard_target =~ Fork _ _ _; first | refine F1 ?_ | refine F2 ?_ | refine F3 (fun h => ?_) fun h => ?_) | (guard_target =~ Ar _ _ _; first | refine A1 ?_ | refine A2 ?_) | (guard_target =~ AskL _ _; first | refine L1 ?_) | (guard_target =~ Go.Eng.Ask _ _; first | refine K1 ?_) | (guard_target =~ All' _ _; first | (refine Y2 fun y he he' hy => ?_; (try dsimp only at he he' hy)) | (refine Y1 fun y he hy => ?_; (try with_reducible conv at he => (rhs; whnf)); (try dsimp only at he hy)) | (refine All'.mk ?_; intro y hy)) | refine F4 (fun h => ?_) fun h => ?_ | refine R1 ?_ | refine Q1 ?_ | fail)); all_goals (conv => whnf))
    refine Ask.mk ⟨by dsimp only; omega, by dsimp only; omega, Nat.zero_le _, rfl, fun j hj => absurd hj (Nat.not_lt_zero _)⟩ ?_
    ((repeat' ((conv => whnf) <;> first | exact True.intro | (guard_target =~ Fork _ _ _; first | refine F1 ?_ | refine F2 ?_ | refine F3 (fun h => ?_) fun h => ?_) | (guard_target =~ Ar _ _ _; first | refine A1 ?_ | refine A2 ?_) | (guard_target =~ AskL _ _; first | refine L1 ?_) | (guard_target =~ Go.Eng.Ask _ _; first | refine K1 ?_) | (guard_target =~ All' _ _; first | (refine Y2 fun y he he' hy => ?_; (try dsimp only at he he' hy)) | (refine Y1 fun y he hy => ?_; (try with_reducible conv at he => (rhs; whnf)); (try dsimp only at he hy)) | (refine All'.mk ?_; intro y hy)) | refine F4 (fun h => ?_) fun h => ?_ | refine R1 ?_ | refine Q1 ?_ | fail)); all_goals (conv => whnf))
    refine AllI.mk ?_
    rintro ⟨k, c⟩ ⟨h1, h2, h3, h4, h5⟩
    dsimp only at h1 h2 h3 h4 h5
    by_cases hk : k = 15
    · subst hk
      have hlen : (ksF f 1 14).length ≤ c := List.drop_eq_nil_iff.1 h4
      have hm : made Y.goes (ksO (some f)).length 0 = c := by
        rw [hks, made_all Y.goes _ 0 (fun j _ hj => h5 j (by omega))]; omega
      ((repeat' ((conv => whnf) <;> first | exact True.intro | (guard_target =~ Fork _ _ _; first | refine F1 ?_ | refine F2 ?_ | refine F3 (fun h => ?_) fun h => ?_) | (guard_target =~ Ar _ _ _; first | refine A1 ?_ | refine A2 ?_) | (guard_target =~ AskL _ _; first | refine L1 ?_) | (guard_target =~ Go.Eng.Ask _ _; first | refine K1 ?_) | (guard_target =~ All' _ _; first | (refine Y2 fun y he he' hy => ?_; (try dsimp only at he he' hy)) | (refine Y1 fun y he hy => ?_; (try with_reducible conv at he => (rhs; whnf)); (try dsimp only at he hy)) | (refine All'.mk ?_; intro y hy)) | refine F4 (fun h => ?_) fun h => ?_ | refine R1 ?_ | refine Q1 ?_ | fail)); all_goals (conv => whnf))
      refine AskL.mk ?_ trivial
      simp only [conj]
      rw [hm]
      exact ⟨trivial, rfl⟩
    · have hkt : ((k : Int)).toNat = k := by omega
      have hcut := cut_led (f := f) (k := (k : Int)) (by omega)
      rw [hkt] at hcut
      ((repeat' ((conv => whnf) <;> first | exact True.intro | (guard_target =~ Fork _ _ _; first | refine F1 ?_ | refine F2 ?_ | refine F3 (fun h => ?_) fun h => ?_) | (guard_target =~ Ar _ _ _; first | refine A1 ?_ | refine A2 ?_) | (guard_target =~ AskL _ _; first | refine L1 ?_) | (guard_target =~ Go.Eng.Ask _ _; first | refine K1 ?_) | (guard_target =~ All' _ _; first | (refine Y2 fun y he he' hy => ?_; (try dsimp only at he he' hy)) | (refine Y1 fun y he hy => ?_; (try with_reducible conv at he => (rhs; whnf)); (try dsimp only at he hy)) | (refine All'.mk ?_; intro y hy)) | refine F4 (fun h => ?_) fun h => ?_ | refine R1 ?_ | refine Q1 ?_ | fail)); all_goals (conv => whnf))
      refine cutK hcut ?_
      have hn : 15 - k = (15 - (k + 1)) + 1 := by omega
      rw [hn] at h4
      ((repeat' ((conv => whnf) <;> first | exact True.intro | (guard_target =~ Fork _ _ _; first | refine F1 ?_ | refine F2 ?_ | refine F3 (fun h => ?_) fun h => ?_) | (guard_target =~ Ar _ _ _; first | refine A1 ?_ | refine A2 ?_) | (guard_target =~ AskL _ _; first | refine L1 ?_) | (guard_target =~ Go.Eng.Ask _ _; first | refine K1 ?_) | (guard_target =~ All' _ _; first | (refine Y2 fun y he he' hy => ?_; (try dsimp only at he he' hy)) | (refine Y1 fun y he hy => ?_; (try with_reducible conv at he => (rhs; whnf)); (try dsimp only at he hy)) | (refine All'.mk ?_; intro y hy)) | refine F4 (fun h => ?_) fun h => ?_ | refine R1 ?_ | refine Q1 ?_ | fail)); all_goals (conv => whnf))
      · have hz : (f k).1 = 0 ∧ (f k).2 = 0 := by omega
        rw [ksF_zero hz] at h4
        refine Some'.mk ⟨k + 1, c⟩ ?_
        ((repeat' ((conv => whnf) <;> first | exact True.intro | (guard_target =~ Fork _ _ _; first | refine F1 ?_ | refine F2 ?_ | refine F3 (fun h => ?_) fun h => ?_) | (guard_target =~ Ar _ _ _; first | refine A1 ?_ | refine A2 ?_) | (guard_target =~ AskL _ _; first | refine L1 ?_) | (guard_target =~ Go.Eng.Ask _ _; first | refine K1 ?_) | (guard_target =~ All' _ _; first | (refine Y2 fun y he he' hy => ?_; (try dsimp only at he he' hy)) | (refine Y1 fun y he hy => ?_; (try with_reducible conv at he => (rhs; whnf)); (try dsimp only at he hy)) | (refine All'.mk ?_; intro y hy)) | refine F4 (fun h => ?_) fun h => ?_ | refine R1 ?_ | refine Q1 ?_ | fail)); all_goals (conv => whnf))
        refine Ask.mk ⟨by dsimp only; omega, by dsimp only; omega, h3, h4, h5⟩ ?_
        ((repeat' ((conv => whnf) <;> first | exact True.intro | (guard_target =~ Fork _ _ _; first | refine F1 ?_ | refine F2 ?_ | refine F3 (fun h => ?_) fun h => ?_) | (guard_target =~ Ar _ _ _; first | refine A1 ?_ | refine A2 ?_) | (guard_target =~ AskL _ _; first | refine L1 ?_) | (guard_target =~ Go.Eng.Ask _ _; first | refine K1 ?_) | (guard_target =~ All' _ _; first | (refine Y2 fun y he he' hy => ?_; (try dsimp only at he he' hy)) | (refine Y1 fun y he hy => ?_; (try with_reducible conv at he => (rhs; whnf)); (try dsimp only at he hy)) | (refine All'.mk ?_; intro y hy)) | refine F4 (fun h => ?_) fun h => ?_ | refine R1 ?_ | refine Q1 ?_ | fail)); all_goals (conv => whnf))
      · have hz : ¬ ((f k).1 = 0 ∧ (f k).2 = 0) := fun hh => by simp [hh.1, hh.2] at h
        rw [ksF_some hz] at h4
        have hck : (ksF f 1 14)[c]? = some k := by
          have := congrArg (·[0]?) h4
          simpa using this
        have hcl : c < (ksF f 1 14).length := (List.getElem?_eq_some_iff.1 hck).1
        have h4 : (ksF f 1 14).drop (c + 1) = ksF f (k + 1) (15 - (k + 1)) := by
          have := congrArg (·.drop 1) h4
          simpa [List.drop_drop] using this
        obtain ⟨ha, hl⟩ := hst c k hck
        refine YieldP.mk Y c 0 _ ha ?_
        conv => whnf
        refine Ask.mk ⟨hok, hl h5, rfl, rfl⟩ ?_
        ((repeat' ((conv => whnf) <;> first | exact True.intro | (guard_target =~ Fork _ _ _; first | refine F1 ?_ | refine F2 ?_ | refine F3 (fun h => ?_) fun h => ?_) | (guard_target =~ Ar _ _ _; first | refine A1 ?_ | refine A2 ?_) | (guard_target =~ AskL _ _; first | refine L1 ?_) | (guard_target =~ Go.Eng.Ask _ _; first | refine K1 ?_) | (guard_target =~ All' _ _; first | (refine Y2 fun y he he' hy => ?_; (try dsimp only at he he' hy)) | (refine Y1 fun y he hy => ?_; (try with_reducible conv at he => (rhs; whnf)); (try dsimp only at he hy)) | (refine All'.mk ?_; intro y hy)) | refine F4 (fun h => ?_) fun h => ?_ | refine R1 ?_ | refine Q1 ?_ | fail)); all_goals (conv => whnf))
        · have hm : made Y.goes (ksO (some f)).length 0 = c + 1 := by
            rw [hks]
            exact made_at Y.goes _ 0 c (Nat.zero_le _) (by omega) (fun j _ hj => h5 j hj) h
          refine AskL.mk ?_ trivial
          simp only [conj]
          rw [hm]
          exact ⟨trivial, rfl⟩
        · refine Some'.mk ⟨k + 1, c + 1⟩ ?_
          ((repeat' ((conv => whnf) <;> first | exact True.intro | (guard_target =~ Fork _ _ _; first | refine F1 ?_ | refine F2 ?_ | refine F3 (fun h => ?_) fun h => ?_) | (guard_target =~ Ar _ _ _; first | refine A1 ?_ | refine A2 ?_) | (guard_target =~ AskL _ _; first | refine L1 ?_) | (guard_target =~ Go.Eng.Ask _ _; first | refine K1 ?_) | (guard_target =~ All' _ _; first | (refine Y2 fun y he he' hy => ?_; (try dsimp only at he he' hy)) | (refine Y1 fun y he hy => ?_; (try with_reducible conv at he => (rhs; whnf)); (try dsimp only at he hy)) | (refine All'.mk ?_; intro y hy)) | refine F4 (fun h => ?_) fun h => ?_ | refine R1 ?_ | refine Q1 ?_ | fail)); all_goals (conv => whnf))
          refine Ask.mk ⟨by dsimp only; omega, by dsimp only; omega, hcl, h4, fun j hj => ?_⟩ ?_
          · rcases Nat.lt_or_ge j c with h1 | h1
            · exact h5 j h1
            · have : j = c := by dsimp only at hj; omega
              subst this; exact h
          ((repeat' ((conv => whnf) <;> first | exact True.intro | (guard_target =~ Fork _ _ _; first | refine F1 ?_ | refine F2 ?_ | refine F3 (fun h => ?_) fun h => ?_) | (guard_target =~ Ar _ _ _; first | refine A1 ?_ | refine A2 ?_) | (guard_target =~ AskL _ _; first | refine L1 ?_) | (guard_target =~ Go.Eng.Ask _ _; first | refine K1 ?_) | (guard_target =~ All' _ _; first | (refine Y2 fun y he he' hy => ?_; (try dsimp only at he he' hy)) | (refine Y1 fun y he hy => ?_; (try with_reducible conv at he => (rhs; whnf)); (try dsimp only at he hy)) | (refine All'.mk ?_; intro y hy)) | refine F4 (fun h => ?_) fun h => ?_ | refine R1 ?_ | refine Q1 ?_ | fail)); all_goals (conv => whnf))
