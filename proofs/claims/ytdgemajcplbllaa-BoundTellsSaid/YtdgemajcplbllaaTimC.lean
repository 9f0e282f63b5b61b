/- Timer: the sum of the waits; the first ones up to so many. -/
import Derived.Test.YtdgemajcplbllaaTimB
set_option linter.unusedVariables false
set_option linter.unusedSimpArgs false
set_option maxRecDepth 100000
namespace Go.Proofs.Ytdgemajcplbllaa
open Go.Eng

@[reducible] def wsC : Ctr := {
  X := Int × Int
  Y := Unit
  args := fun x => [.v (.int .i64 x.1), .v (.int .i64 x.2)]
  rw := fun _ => []
  side := fun _ => True
  val := fun _ => ()
  ens := fun _ _ => True
  res := fun _ _ => .func (.func 49) [] [.ptr 1000 0, .ptr 1001 0]
  out := fun x _ => [(1000, .cells 3 [.v (.int .i64 x.1)]), (1001, .cells 3 [.v (.int .i64 x.2)])] }
theorem ws_ok : wsC.ok Try.prog 37 := by
  refine ok_of_vc (An := fun _ => anOf []) (known_nil _) mo Try.func37 (by kernel_rfl) (by kernel_rfl) (fun _ _ => trivial) (fun x hs => ?_)
  obtain ⟨e, t⟩ := x
  ((repeat' ((conv => whnf) <;> first | exact True.intro | refine F1 ?_ | refine F2 ?_ | refine F3 (fun h => ?_) fun h => ?_ | refine F4 (fun h => ?_) fun h => ?_ | refine R1 ?_ | refine A1 ?_ | refine A2 ?_ | refine L1 ?_ | refine K1 ?_ | (refine Y2 fun y he he' hy => ?_; (try dsimp only at he he' hy)) | (refine Y1 fun y he hy => ?_; (try with_reducible conv at he => (rhs; whnf)); (try dsimp only at he hy)) | (refine All'.mk ?_; intro y hy) | refine Q1 ?_ | fail)); all_goals (conv => whnf))

/-- The sum of the first waits. -/
def longN (e : Int) : Nat → Int
  | 0 => 0
  | k + 1 => longN e k + waitN e k
theorem longN_le {e : Int} (h0 : 0 ≤ e) (h1 : e ≤ 1000) : ∀ k : Nat, 0 ≤ longN e k ∧ longN e k ≤ 8000 * k
  | 0 => by simp [longN]
  | k + 1 => by
    have h := longN_le h0 h1 k
    have h2 := waitN_le (f := (k : Int)) h0 h1
    simp only [longN]
    omega

@[reducible] def waitsCnt (e t : Int) : Nat := if fitsP e t then t.toNat + 1 else 0
@[reducible] def longS (e t : Int) : Int := longN e (waitsCnt e t)

@[reducible] def longC : Ctr := {
  X := Int × Int
  Y := Int
  args := fun x => [.v (.int .i64 x.1), .v (.int .i64 x.2)]
  rw := fun _ => []
  side := fun _ => True
  val := fun x => longS x.1 x.2
  ens := fun _ _ => True
  res := fun _ y => .v (.int .i64 y)
  out := fun _ _ => [] }

@[reducible] def longR (e t : Int) : RA := {
  X := Unit
  T := fun _ => [(5, .ptr 0 0), (10, .func (.func 49) [] [.ptr 2 0, .ptr 3 0])]
  M := fun _ k => [(0, .cells 3 [.v (.int .i64 (longN e k))])]
  R := fun _ => [(2, .cells 3 [.v (.int .i64 e)]), (3, .cells 3 [.v (.int .i64 t)])]
  rg := [0, 2, 3]
  n := fun _ => waitsCnt e t
  args := fun _ k => [.v (.int .i64 k), .v (.int .i64 (waitN e k))]
  goes := fun _ _ => true
  jump := fun _ _ => .ret }

theorem known2 : Known Try.prog (gOf [(37, wsC), (49, waitsC)]) :=
  known_cons ⟨ws_ok, Try.call37⟩ (known_cons ⟨waits1_ok, Try.call49⟩ (known_nil _))

theorem waitsN_all {x : WX} (h : ∀ k, x.Y.goes k = true) : waitsN x = waitsCnt x.every x.tries := by
  unfold waitsN waitsCnt
  split
  · rw [made_all _ _ 0 (fun j _ _ => h j)]; omega
  · rfl

theorem long_ok : longC.ok Try.prog 12 := by
  refine ok_of_vc (An := fun (x : Int × Int) => anOf [(0, .range (longR x.1 x.2))]) known2 mo Try.func12 (by kernel_rfl) (by kernel_rfl) (fun _ _ => trivial) (fun x hs => ?_)
  obtain ⟨e, t⟩ := x
  ((repeat' ((conv => whnf) <;> first | exact True.intro | refine F1 ?_ | refine F2 ?_ | refine F3 (fun h => ?_) fun h => ?_ | refine F4 (fun h => ?_) fun h => ?_ | refine R1 ?_ | refine A1 ?_ | refine A2 ?_ | refine L1 ?_ | refine K1 ?_ | (refine Y2 fun y he he' hy => ?_; (try dsimp only at he he' hy)) | (refine Y1 fun y he hy => ?_; (try with_reducible conv at he => (rhs; whnf)); (try dsimp only at he hy)) | (refine All'.mk ?_; intro y hy) | refine Q1 ?_ | fail)); all_goals (conv => whnf))
  refine CallP.mk (C := wsC) (e, t) ?_
  ((repeat' ((conv => whnf) <;> first | exact True.intro | refine F1 ?_ | refine F2 ?_ | refine F3 (fun h => ?_) fun h => ?_ | refine F4 (fun h => ?_) fun h => ?_ | refine R1 ?_ | refine A1 ?_ | refine A2 ?_ | refine L1 ?_ | refine K1 ?_ | (refine Y2 fun y he he' hy => ?_; (try dsimp only at he he' hy)) | (refine Y1 fun y he hy => ?_; (try with_reducible conv at he => (rhs; whnf)); (try dsimp only at he hy)) | (refine All'.mk ?_; intro y hy) | refine Q1 ?_ | fail)); all_goals (conv => whnf))
  refine Some'.mk () ?_
  ((repeat' ((conv => whnf) <;> first | exact True.intro | refine F1 ?_ | refine F2 ?_ | refine F3 (fun h => ?_) fun h => ?_ | refine F4 (fun h => ?_) fun h => ?_ | refine R1 ?_ | refine A1 ?_ | refine A2 ?_ | refine L1 ?_ | refine K1 ?_ | (refine Y2 fun y he he' hy => ?_; (try dsimp only at he he' hy)) | (refine Y1 fun y he hy => ?_; (try with_reducible conv at he => (rhs; whnf)); (try dsimp only at he hy)) | (refine All'.mk ?_; intro y hy) | refine Q1 ?_ | fail)); all_goals (conv => whnf))
  refine Two.mk ?_ ?_
  · refine AllI.mk ?_
    intro k hk
    have hk := (liveB_iff.1 hk).1
    dsimp only at hk
    unfold waitsCnt at hk
    split at hk
    · rename_i hf
      have hf : 1 ≤ e ∧ e ≤ 1000 ∧ 0 ≤ t ∧ t ≤ 10 := hf
      have hb1 := longN_le (by omega : 0 ≤ e) hf.2.1 k
      have hb2 := waitN_le (f := (k : Int)) (by omega : 0 ≤ e) hf.2.1
      ((repeat' ((conv => whnf) <;> first | exact True.intro | refine F1 ?_ | refine F2 ?_ | refine F3 (fun h => ?_) fun h => ?_ | refine F4 (fun h => ?_) fun h => ?_ | refine R1 ?_ | refine A1 ?_ | refine A2 ?_ | refine L1 ?_ | refine K1 ?_ | (refine Y2 fun y he he' hy => ?_; (try dsimp only at he he' hy)) | (refine Y1 fun y he hy => ?_; (try with_reducible conv at he => (rhs; whnf)); (try dsimp only at he hy)) | (refine All'.mk ?_; intro y hy) | refine Q1 ?_ | fail)); all_goals (conv => whnf))
    · omega
  · refine AllI.mk ?_
    rintro ⟨l, Y⟩ ⟨h1, h2, h3, h4⟩
    dsimp only at h1 h2 h3 h4
    ((repeat' ((conv => whnf) <;> first | exact True.intro | refine F1 ?_ | refine F2 ?_ | refine F3 (fun h => ?_) fun h => ?_ | refine F4 (fun h => ?_) fun h => ?_ | refine R1 ?_ | refine A1 ?_ | refine A2 ?_ | refine L1 ?_ | refine K1 ?_ | (refine Y2 fun y he he' hy => ?_; (try dsimp only at he he' hy)) | (refine Y1 fun y he hy => ?_; (try with_reducible conv at he => (rhs; whnf)); (try dsimp only at he hy)) | (refine All'.mk ?_; intro y hy) | refine Q1 ?_ | fail)); all_goals (conv => whnf))
    refine CallP.mk (C := waitsC) ⟨Y, l, e, t⟩ ?_
    ((repeat' ((conv => whnf) <;> first | exact True.intro | refine F1 ?_ | refine F2 ?_ | refine F3 (fun h => ?_) fun h => ?_ | refine F4 (fun h => ?_) fun h => ?_ | refine R1 ?_ | refine A1 ?_ | refine A2 ?_ | refine L1 ?_ | refine K1 ?_ | (refine Y2 fun y he he' hy => ?_; (try dsimp only at he he' hy)) | (refine Y1 fun y he hy => ?_; (try with_reducible conv at he => (rhs; whnf)); (try dsimp only at he hy)) | (refine All'.mk ?_; intro y hy) | refine Q1 ?_ | fail)); all_goals (conv => whnf))
    refine Ask.mk ⟨h4, fun hf k hk => ⟨by rw [h1], fun hg => ?_⟩⟩ ?_
    · dsimp only at hk hf
      rw [h3, liveB_iff]
      exact ⟨by unfold waitsCnt; rw [if_pos hf]; omega, fun j _ => rfl⟩
    ((repeat' ((conv => whnf) <;> first | exact True.intro | refine F1 ?_ | refine F2 ?_ | refine F3 (fun h => ?_) fun h => ?_ | refine F4 (fun h => ?_) fun h => ?_ | refine R1 ?_ | refine A1 ?_ | refine A2 ?_ | refine L1 ?_ | refine K1 ?_ | (refine Y2 fun y he he' hy => ?_; (try dsimp only at he he' hy)) | (refine Y1 fun y he hy => ?_; (try with_reducible conv at he => (rhs; whnf)); (try dsimp only at he hy)) | (refine All'.mk ?_; intro y hy) | refine Q1 ?_ | fail)); all_goals (conv => whnf))
    have hn : waitsN ⟨Y, l, e, t⟩ = waitsCnt e t := waitsN_all (fun k => by rw [h2])
    refine Some'.mk (waitsCnt e t) ?_
    conv => whnf
    refine Eqn.mk (by rw [← hn]) ?_
    ((repeat' ((conv => whnf) <;> first | exact True.intro | refine F1 ?_ | refine F2 ?_ | refine F3 (fun h => ?_) fun h => ?_ | refine F4 (fun h => ?_) fun h => ?_ | refine R1 ?_ | refine A1 ?_ | refine A2 ?_ | refine L1 ?_ | refine K1 ?_ | (refine Y2 fun y he he' hy => ?_; (try dsimp only at he he' hy)) | (refine Y1 fun y he hy => ?_; (try with_reducible conv at he => (rhs; whnf)); (try dsimp only at he hy)) | (refine All'.mk ?_; intro y hy) | refine Q1 ?_ | fail)); all_goals (conv => whnf))
    rw [goesB_iff.2 (fun j _ => rfl)] at h
    cases h

/-- The first numbers, the first waits. -/
def isN (n : Nat) : List Int := (List.range n).map fun (i : Nat) => (i : Int)
def wsN (e : Int) (n : Nat) : List Int := (List.range n).map fun (i : Nat) => waitN e i
theorem isN_succ (n : Nat) : isN (n + 1) = isN n ++ [(n : Int)] := by simp [isN, List.range_succ]
theorem wsN_succ (e : Int) (n : Nat) : wsN e (n + 1) = wsN e n ++ [waitN e n] := by simp [wsN, List.range_succ]
theorem isN_length (n : Nat) : (isN n).length = n := by simp [isN]
theorem wsN_length (e : Int) (n : Nat) : (wsN e n).length = n := by simp [wsN]

structure WsX where
  every : Int
  tries : Int
  most : Int
@[reducible] def cntN (x : WsX) : Nat := min (waitsCnt x.every x.tries) x.most.toNat

@[reducible] def lwC : Ctr := {
  X := WsX
  Y := Unit
  args := fun x => [.v (.int .i64 x.every), .v (.int .i64 x.tries), .v (.int .i64 x.most)]
  rw := fun _ => []
  side := fun x => True
  val := fun _ => ()
  ens := fun _ _ => True
  res := fun _ _ => .tuple [.sl 1000, .sl 1001]
  out := fun x _ => [(1000, .row 3 (.int .i64) (isN (cntN x))), (1001, .row 3 (.int .i64) (wsN x.every (cntN x)))] }

@[reducible] def lwR (x : WsX) : RA := {
  X := Unit
  T := fun _ => [(5, .ptr 6 0), (8, .ptr 0 0), (9, .ptr 1 0), (18, .func (.func 49) [] [.ptr 2 0, .ptr 3 0])]
  M := fun _ k => [(0, .cells 23 [.sl 4]), (1, .cells 23 [.sl 5]), (4, .row 3 (.int .i64) (isN (min k x.most.toNat))), (5, .row 3 (.int .i64) (wsN x.every (min k x.most.toNat))), (6, .cells 3 [.v (.int .i64 x.most)])]
  R := fun _ => [(2, .cells 3 [.v (.int .i64 x.every)]), (3, .cells 3 [.v (.int .i64 x.tries)])]
  rg := [0, 1, 2, 3, 6]
  n := fun _ => waitsCnt x.every x.tries
  args := fun _ k => [.v (.int .i64 k), .v (.int .i64 (waitN x.every k))]
  goes := fun _ k => decide ((k : Int) < x.most)
  jump := fun _ _ => .exit 0 }

theorem waitsN_some {x : WX} {m : Nat} (h : ∀ k, x.Y.goes k = decide (k < m)) : min (waitsN x) m = min (waitsCnt x.every x.tries) m := by
  unfold waitsN waitsCnt
  split
  · by_cases hm : m < x.tries.toNat + 1
    · rw [made_at _ _ 0 m (Nat.zero_le _) (by omega) (fun j _ hj => by rw [h]; simpa using hj) (by rw [h]; simp)]
      omega
    · rw [made_all _ _ 0 (fun j _ hj => by rw [h]; simp; omega)]
      omega
  · rfl

theorem lw_ok : lwC.ok Try.prog 10 := by
  refine ok_of_vc (An := fun (x : WsX) => anOf [(0, .range (lwR x))]) known2 mo Try.func10 (by kernel_rfl) (by kernel_rfl) (fun _ _ => trivial) (fun x hs => ?_)
  obtain ⟨e, t, n⟩ := x
  ((repeat' ((conv => whnf) <;> first | exact True.intro | refine F1 ?_ | refine F2 ?_ | refine F3 (fun h => ?_) fun h => ?_ | refine F4 (fun h => ?_) fun h => ?_ | refine R1 ?_ | refine A1 ?_ | refine A2 ?_ | refine L1 ?_ | refine K1 ?_ | (refine Y2 fun y he he' hy => ?_; (try dsimp only at he he' hy)) | (refine Y1 fun y he hy => ?_; (try with_reducible conv at he => (rhs; whnf)); (try dsimp only at he hy)) | (refine All'.mk ?_; intro y hy) | refine Q1 ?_ | fail)); all_goals (conv => whnf))
  refine CallP.mk (C := wsC) (e, t) ?_
  ((repeat' ((conv => whnf) <;> first | exact True.intro | refine F1 ?_ | refine F2 ?_ | refine F3 (fun h => ?_) fun h => ?_ | refine F4 (fun h => ?_) fun h => ?_ | refine R1 ?_ | refine A1 ?_ | refine A2 ?_ | refine L1 ?_ | refine K1 ?_ | (refine Y2 fun y he he' hy => ?_; (try dsimp only at he he' hy)) | (refine Y1 fun y he hy => ?_; (try with_reducible conv at he => (rhs; whnf)); (try dsimp only at he hy)) | (refine All'.mk ?_; intro y hy) | refine Q1 ?_ | fail)); all_goals (conv => whnf))
  refine Some'.mk () ?_
  ((repeat' ((conv => whnf) <;> first | exact True.intro | refine F1 ?_ | refine F2 ?_ | refine F3 (fun h => ?_) fun h => ?_ | refine F4 (fun h => ?_) fun h => ?_ | refine R1 ?_ | refine A1 ?_ | refine A2 ?_ | refine L1 ?_ | refine K1 ?_ | (refine Y2 fun y he he' hy => ?_; (try dsimp only at he he' hy)) | (refine Y1 fun y he hy => ?_; (try with_reducible conv at he => (rhs; whnf)); (try dsimp only at he hy)) | (refine All'.mk ?_; intro y hy) | refine Q1 ?_ | fail)); all_goals (conv => whnf))
  refine Two.mk ?_ ?_
  · refine AllI.mk ?_
    intro k hk
    have hg := liveB_iff.1 hk
    have hk := hg.1
    have hkn : ∀ j, j < k → (j : Int) < n := fun j hj => of_decide_eq_true (hg.2 j hj)
    have hl1 := isN_length (min k n.toNat)
    have hl2 := wsN_length e (min k n.toNat)
    have hk11 : k < 11 := by
      dsimp only at hk
      unfold waitsCnt at hk
      split at hk
      · rename_i hf
        have hf : 1 ≤ e ∧ e ≤ 1000 ∧ 0 ≤ t ∧ t ≤ 10 := hf
        omega
      · omega
    ((repeat' ((conv => whnf) <;> first | exact True.intro | refine F1 ?_ | refine F2 ?_ | refine F3 (fun h => ?_) fun h => ?_ | refine F4 (fun h => ?_) fun h => ?_ | refine R1 ?_ | refine A1 ?_ | refine A2 ?_ | refine L1 ?_ | refine K1 ?_ | (refine Y2 fun y he he' hy => ?_; (try dsimp only at he he' hy)) | (refine Y1 fun y he hy => ?_; (try with_reducible conv at he => (rhs; whnf)); (try dsimp only at he hy)) | (refine All'.mk ?_; intro y hy) | refine Q1 ?_ | fail)); all_goals (conv => whnf))
    · have hm : min (k + 1) n.toNat = min k n.toNat := by omega
      refine Ask.mk ⟨decide_eq_false (by dsimp only; omega), rfl⟩ ?_
      ((repeat' ((conv => whnf) <;> first | exact True.intro | refine F1 ?_ | refine F2 ?_ | refine F3 (fun h => ?_) fun h => ?_ | refine F4 (fun h => ?_) fun h => ?_ | refine R1 ?_ | refine A1 ?_ | refine A2 ?_ | refine L1 ?_ | refine K1 ?_ | (refine Y2 fun y he he' hy => ?_; (try dsimp only at he he' hy)) | (refine Y1 fun y he hy => ?_; (try with_reducible conv at he => (rhs; whnf)); (try dsimp only at he hy)) | (refine All'.mk ?_; intro y hy) | refine Q1 ?_ | fail)); all_goals (conv => whnf))
    · have hm : min k n.toNat = k := by omega
      have hm' : min (k + 1) n.toNat = k + 1 := by omega
      have hi := isN_succ k
      have hw := wsN_succ e k
      ((repeat' ((conv => whnf) <;> first | exact True.intro | refine F1 ?_ | refine F2 ?_ | refine F3 (fun h => ?_) fun h => ?_ | refine F4 (fun h => ?_) fun h => ?_ | refine R1 ?_ | refine A1 ?_ | refine A2 ?_ | refine L1 ?_ | refine K1 ?_ | (refine Y2 fun y he he' hy => ?_; (try dsimp only at he he' hy)) | (refine Y1 fun y he hy => ?_; (try with_reducible conv at he => (rhs; whnf)); (try dsimp only at he hy)) | (refine All'.mk ?_; intro y hy) | refine Q1 ?_ | fail)); all_goals (conv => whnf))
      refine Ask.mk (decide_eq_true (by dsimp only; omega)) ?_
      ((repeat' ((conv => whnf) <;> first | exact True.intro | refine F1 ?_ | refine F2 ?_ | refine F3 (fun h => ?_) fun h => ?_ | refine F4 (fun h => ?_) fun h => ?_ | refine R1 ?_ | refine A1 ?_ | refine A2 ?_ | refine L1 ?_ | refine K1 ?_ | (refine Y2 fun y he he' hy => ?_; (try dsimp only at he he' hy)) | (refine Y1 fun y he hy => ?_; (try with_reducible conv at he => (rhs; whnf)); (try dsimp only at he hy)) | (refine All'.mk ?_; intro y hy) | refine Q1 ?_ | fail)); all_goals (conv => whnf))
  · refine AllI.mk ?_
    rintro ⟨l, Y⟩ ⟨h1, h2, h3, h4⟩
    dsimp only at h1 h2 h3 h4
    ((repeat' ((conv => whnf) <;> first | exact True.intro | refine F1 ?_ | refine F2 ?_ | refine F3 (fun h => ?_) fun h => ?_ | refine F4 (fun h => ?_) fun h => ?_ | refine R1 ?_ | refine A1 ?_ | refine A2 ?_ | refine L1 ?_ | refine K1 ?_ | (refine Y2 fun y he he' hy => ?_; (try dsimp only at he he' hy)) | (refine Y1 fun y he hy => ?_; (try with_reducible conv at he => (rhs; whnf)); (try dsimp only at he hy)) | (refine All'.mk ?_; intro y hy) | refine Q1 ?_ | fail)); all_goals (conv => whnf))
    refine CallP.mk (C := waitsC) ⟨Y, l, e, t⟩ ?_
    ((repeat' ((conv => whnf) <;> first | exact True.intro | refine F1 ?_ | refine F2 ?_ | refine F3 (fun h => ?_) fun h => ?_ | refine F4 (fun h => ?_) fun h => ?_ | refine R1 ?_ | refine A1 ?_ | refine A2 ?_ | refine L1 ?_ | refine K1 ?_ | (refine Y2 fun y he he' hy => ?_; (try dsimp only at he he' hy)) | (refine Y1 fun y he hy => ?_; (try with_reducible conv at he => (rhs; whnf)); (try dsimp only at he hy)) | (refine All'.mk ?_; intro y hy) | refine Q1 ?_ | fail)); all_goals (conv => whnf))
    refine Ask.mk ⟨h4, fun hf k hk => ⟨by rw [h1], fun hg => ?_⟩⟩ ?_
    · dsimp only at hk hf
      rw [h3, liveB_iff]
      exact ⟨by unfold waitsCnt; rw [if_pos hf]; omega, fun j hj => by have := hg j hj; dsimp only at this; rw [h2] at this; exact this⟩
    ((repeat' ((conv => whnf) <;> first | exact True.intro | refine F1 ?_ | refine F2 ?_ | refine F3 (fun h => ?_) fun h => ?_ | refine F4 (fun h => ?_) fun h => ?_ | refine R1 ?_ | refine A1 ?_ | refine A2 ?_ | refine L1 ?_ | refine K1 ?_ | (refine Y2 fun y he he' hy => ?_; (try dsimp only at he he' hy)) | (refine Y1 fun y he hy => ?_; (try with_reducible conv at he => (rhs; whnf)); (try dsimp only at he hy)) | (refine All'.mk ?_; intro y hy) | refine Q1 ?_ | fail)); all_goals (conv => whnf))
    have hn : min (waitsN ⟨Y, l, e, t⟩) n.toNat = min (waitsCnt e t) n.toNat := waitsN_some (fun k => by rw [h2]; by_cases hk : (k : Int) < n <;> simp [hk] <;> omega)
    refine Some'.mk (waitsN ⟨Y, l, e, t⟩) ?_
    conv => whnf
    refine Eqn.mk rfl ?_
    ((repeat' ((conv => whnf) <;> first | exact True.intro | refine F1 ?_ | refine F2 ?_ | refine F3 (fun h => ?_) fun h => ?_ | refine F4 (fun h => ?_) fun h => ?_ | refine R1 ?_ | refine A1 ?_ | refine A2 ?_ | refine L1 ?_ | refine K1 ?_ | (refine Y2 fun y he he' hy => ?_; (try dsimp only at he he' hy)) | (refine Y1 fun y he hy => ?_; (try with_reducible conv at he => (rhs; whnf)); (try dsimp only at he hy)) | (refine All'.mk ?_; intro y hy) | refine Q1 ?_ | fail)); all_goals (conv => whnf))

end Go.Proofs.Ytdgemajcplbllaa
