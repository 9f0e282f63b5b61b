/- Ledger: the function of LedgerSums. -/
import Derived.Test.YteckpdifeoffjaaDoorLedJ
set_option linter.unusedVariables false
set_option linter.unusedSimpArgs false
set_option maxRecDepth 100000
set_option maxHeartbeats 4000000
namespace Go.Proofs.YteckpdifeoffjaaDoor
open Go.Eng

theorem ls_law {f : Nat → Nat × Nat} {s : Nat × Nat} (hf : okL f) (hs : okR s) (b1 : su1 f 1 14 ≤ 1000000000) (b2 : su2 f 1 14 ≤ 1000000000) :
    s.1 ≤ (totN (addL (setR ledZ 3 s) f)).1 ∧ s.2 ≤ (totN (addL (setR ledZ 3 s) f)).2 ∧ su1 f 1 14 ≤ (totN (addL (setR ledZ 3 s) f)).1 ∧ su2 f 1 14 ≤ (totN (addL (setR ledZ 3 s) f)).2 ∧
      (s.2 ≤ 9223372036854775808 → (totN (addL (setR ledZ 3 s) f)).2 = s.2 + su2 f 1 14) := by
  have hz : okL (setR ledZ 3 s) := okL_set (fun _ => ⟨Nat.zero_le _, Nat.zero_le _⟩) hs
  have key : ∀ j, 1 ≤ j → j < 1 + 14 → addL (setR ledZ 3 s) f j = setR f 3 (sumR s (f 3)) j := fun j h1 h2 => by
    rw [addL_at hz h1 h2]
    by_cases e : j = 3
    · subst e; rfl
    · have e1 : setR ledZ 3 s j = (0, 0) := if_neg e
      have e2 : setR f 3 (sumR s (f 3)) j = f j := if_neg e
      rw [e1, e2, sumR_zero' (hf j)]
  have e1 := su1_congr 14 1 key
  have e2 := su2_congr 14 1 key
  have g1 := su1_set f 3 (sumR s (f 3)) 14 1 (by omega) (by omega)
  have g2 := su2_set f 3 (sumR s (f 3)) 14 1 (by omega) (by omega)
  obtain ⟨c1, c2⟩ := su_at (f := f) 14 1 3 (by omega) (by omega)
  have t1 : (totN (addL (setR ledZ 3 s) f)).1 = min (su1 (addL (setR ledZ 3 s) f) 1 14) 18446744073709551615 := congrArg Prod.fst (tot_su _)
  have t2 : (totN (addL (setR ledZ 3 s) f)).2 = min (su2 (addL (setR ledZ 3 s) f) 1 14) 18446744073709551615 := congrArg Prod.snd (tot_su _)
  rw [t1, t2, e1, e2]
  simp only [sumR, satN_eq] at g1 g2
  obtain ⟨h1, h2⟩ := hs
  simp only [sumR, satN_eq]
  omega
theorem tot_small {f : Nat → Nat × Nat} (b1 : su1 f 1 14 ≤ 1000000000) (b2 : su2 f 1 14 ≤ 1000000000) : foldK (some f) (ksO (some f)) = (su1 f 1 14, su2 f 1 14) :=
  (tot_su _).trans (Prod.ext (show min _ _ = _ by omega) (show min _ _ = _ by omega))

structure LsX where
  l : List Two
  s : Nat × Nat
@[reducible] def lsC : Ctr := {
  X := LsX
  Y := Unit
  args := fun x => [.ro false twoT x.l, rowV x.s]
  rw := fun _ => []
  side := fun x => (∀ s, s ∈ x.l → okS s) ∧ okR x.s
  val := fun _ => ()
  ens := fun _ _ => True
  res := fun _ _ => .v (.bool true)
  out := fun _ _ => [] }
@[reducible] def lsL (x : LsX) : LA := {
  X := Nat
  pre := fun i => i ≤ x.l.length
  mu := fun i => x.l.length - i
  T := fun i => [(3, .ptr 2 0), (5, .ptr 0 0), (6, .v (.int .u64 (cntS (x.l.take i) : Nat))), (7, .v (.int .u64 (bytS (x.l.take i) : Nat))), (18, .ro false twoT x.l), (19, .v (.int .i64 x.l.length)), (20, .v (.int .i64 (i : Nat)))]
  M := fun i => [(0, ledE (sendAll ledZ (x.l.take i))), (2, .cells 32 [.v (.int .u64 (x.s.1 : Nat)), .v (.int .u64 (x.s.2 : Nat))])] }
theorem ls_ok : lsC.ok Tryd.prog 5 := by
  refine ok_of_vc (An := fun (x : LsX) => anOf [(0, .loop (lsL x))]) knownLo mo Tryd.func5 (by kernel_rfl) (by kernel_rfl) (fun _ _ => trivial) (fun x hs => ?_)
  obtain ⟨l, s⟩ := x
  obtain ⟨hsl, hss⟩ := hs
  dsimp only at hsl hss
  ((repeat' ((conv => whnf) <;> first | exact True.intro | (guard_target =~ Fork _ _ _; first | refine F1 ?_ | refine F2 ?_ | refine F3 (fun h => ?_) fun h => ?_) | (guard_target =~ Ar _ _ _; first | refine A1 ?_ | refine A2 ?_) | (guard_target =~ AskL _ _; first | refine L1 ?_) | (guard_target =~ Go.Eng.Ask _ _; first | refine K1 ?_) | (guard_target =~ All' _ _; first | (refine Y2 fun y he he' hy => ?_; (try dsimp only at he he' hy)) | (refine Y1 fun y he hy => ?_; (try with_reducible conv at he => (rhs; whnf)); (try dsimp only at he hy)) | (refine All'.mk ?_; intro y hy)) | refine F4 (fun h => ?_) fun h => ?_ | refine R1 ?_ | refine Q1 ?_ | fail)); all_goals (conv => whnf))
  refine CallP.mk (C := firstC) () ?_
  by_cases hl : l.length ≤ 200
  · have hz0 : sendAll ledZ (l.take 0) = ledZ := rfl
    have hz1 : cntS (l.take 0) = 0 := rfl
    have hz2 : bytS (l.take 0) = 0 := rfl
    ((repeat' ((conv => whnf) <;> first | exact True.intro | (guard_target =~ Fork _ _ _; first | refine F1 ?_ | refine F2 ?_ | refine F3 (fun h => ?_) fun h => ?_) | (guard_target =~ Ar _ _ _; first | refine A1 ?_ | refine A2 ?_) | (guard_target =~ AskL _ _; first | refine L1 ?_) | (guard_target =~ Go.Eng.Ask _ _; first | refine K1 ?_) | (guard_target =~ All' _ _; first | (refine Y2 fun y he he' hy => ?_; (try dsimp only at he he' hy)) | (refine Y1 fun y he hy => ?_; (try with_reducible conv at he => (rhs; whnf)); (try dsimp only at he hy)) | (refine All'.mk ?_; intro y hy)) | refine F4 (fun h => ?_) fun h => ?_ | refine R1 ?_ | refine Q1 ?_ | fail)); all_goals (conv => whnf))
    refine CallP.mk (C := newC) () ?_
    ((repeat' ((conv => whnf) <;> first | exact True.intro | (guard_target =~ Fork _ _ _; first | refine F1 ?_ | refine F2 ?_ | refine F3 (fun h => ?_) fun h => ?_) | (guard_target =~ Ar _ _ _; first | refine A1 ?_ | refine A2 ?_) | (guard_target =~ AskL _ _; first | refine L1 ?_) | (guard_target =~ Go.Eng.Ask _ _; first | refine K1 ?_) | (guard_target =~ All' _ _; first | (refine Y2 fun y he he' hy => ?_; (try dsimp only at he he' hy)) | (refine Y1 fun y he hy => ?_; (try with_reducible conv at he => (rhs; whnf)); (try dsimp only at he hy)) | (refine All'.mk ?_; intro y hy)) | refine F4 (fun h => ?_) fun h => ?_ | refine R1 ?_ | refine Q1 ?_ | fail)); all_goals (conv => whnf))
    refine Some'.mk (0 : Nat) ?_
    ((repeat' ((conv => whnf) <;> first | exact True.intro | (guard_target =~ Fork _ _ _; first | refine F1 ?_ | refine F2 ?_ | refine F3 (fun h => ?_) fun h => ?_) | (guard_target =~ Ar _ _ _; first | refine A1 ?_ | refine A2 ?_) | (guard_target =~ AskL _ _; first | refine L1 ?_) | (guard_target =~ Go.Eng.Ask _ _; first | refine K1 ?_) | (guard_target =~ All' _ _; first | (refine Y2 fun y he he' hy => ?_; (try dsimp only at he he' hy)) | (refine Y1 fun y he hy => ?_; (try with_reducible conv at he => (rhs; whnf)); (try dsimp only at he hy)) | (refine All'.mk ?_; intro y hy)) | refine F4 (fun h => ?_) fun h => ?_ | refine R1 ?_ | refine Q1 ?_ | fail)); all_goals (conv => whnf))
    refine AllI.mk ?_
    rintro (i : Nat) hi
    have hi : i ≤ l.length := hi
    have hi0 : ((i : Int)).toNat = i := by omega
    have ol : ∀ n : Nat, okL (sendAll ledZ (l.take n)) ∧ su1 (sendAll ledZ (l.take n)) 1 14 = cntS (l.take n) ∧ su2 (sendAll ledZ (l.take n)) 1 14 = bytS (l.take n) ∧ cntS (l.take n) ≤ (l.take n).length ∧ bytS (l.take n) ≤ 65535 * (l.take n).length := fun n => sendAll_su _ (l.take n) rfl (by simp; omega) (fun s h => hsl s (List.mem_of_mem_take h))
    clear hz0 hz1 hz2
    ((repeat' ((conv => whnf) <;> first | exact True.intro | (guard_target =~ Fork _ _ _; first | refine F1 ?_ | refine F2 ?_ | refine F3 (fun h => ?_) fun h => ?_) | (guard_target =~ Ar _ _ _; first | refine A1 ?_ | refine A2 ?_) | (guard_target =~ AskL _ _; first | refine L1 ?_) | (guard_target =~ Go.Eng.Ask _ _; first | refine K1 ?_) | (guard_target =~ All' _ _; first | (refine Y2 fun y he he' hy => ?_; (try dsimp only at he he' hy)) | (refine Y1 fun y he hy => ?_; (try with_reducible conv at he => (rhs; whnf)); (try dsimp only at he hy))) | refine F4 (fun h => ?_) fun h => ?_ | refine R1 ?_ | refine Q1 ?_ | fail)); all_goals (conv => whnf))
    · refine All'.mk ?_
      rintro (tw : Two) hy
      rw [hi0] at hy
      have hy : l[i]? = some tw := hy
      have hso := hsl tw (List.mem_of_getElem? hy)
      have hw0 := wrap_u16 hso.1
      have hw1 := wrap_u16 hso.2
      have hw2 : IntKind.u64.wrap (tw 1) = tw 1 := wrap_u64 hso.2.1 (Int.le_trans hso.2.2 (by omega))
      have hsn : sendAll ledZ (l.take (i + 1)) = sentF (sendAll ledZ (l.take i)) (kOf tw) (tw 1) := by rw [take_at hy, sendAll_snoc]
      obtain ⟨oi, p1, p2, p3, p4⟩ := ol i
      obtain ⟨oi', q1, q2, q3, q4⟩ := ol (i + 1)
      have hci := cntS_snoc (l.take i) tw
      have hbi := bytS_snoc (l.take i) tw
      rw [← take_at hy] at hci hbi
      have hlt1 : (l.take i).length ≤ 200 := by simp; omega
      have hlt2 : (l.take (i + 1)).length ≤ 200 := by simp; omega
      have hts := tot_small (f := sendAll ledZ (l.take (i + 1))) (by omega) (by omega)
      rw [q1, q2, hsn] at hts
      have so : ∀ f, some (sendAll ledZ (l.take i)) = some f → okL f := fun f h => by cases h; exact oi
      have so' : ∀ f, some (sentF (sendAll ledZ (l.take i)) (kOf tw) (tw 1)) = some f → okL f := fun f h => by cases h; rw [← hsn]; exact oi'
      have hb1 : tw 1 ≤ 9223372036854775807 := Int.le_trans hso.2.2 (by omega)
      have hy1 : (0 : Int) ≤ tw 1 ∧ tw 1 ≤ 65535 := hso.2
      have hk2 : ((bytS (l.take i) : Nat) : Int) + (tw 1) ≤ 18446744073709551615 := by obtain ⟨h1, h2⟩ := hy1; omega
      clear ol p1 p2 q1 q2
      by_cases hk : knownS tw = true
      · have hv : ((some (sendAll ledZ (l.take i))).isSome && sentB (kOf tw) (tw 1)) = true := decide_eq_true ⟨of_decide_eq_true hk, hso.2.1⟩
        rw [if_pos hk] at hci hbi
        have c1 : ((cntS (l.take (i + 1)) : Nat) : Int) = (cntS (l.take i) : Nat) + 1 := by omega
        have c2 : ((bytS (l.take (i + 1)) : Nat) : Int) = (bytS (l.take i) : Nat) + IntKind.u64.wrap (tw 1) := by rw [hw2, hbi]; obtain ⟨h1, h2⟩ := hy1; omega
        have hne : (!(((foldK (some (sentF (sendAll ledZ (l.take i)) (kOf tw) (tw 1))) (ksO (some (sentF (sendAll ledZ (l.take i)) (kOf tw) (tw 1))))).1 : Int) == (cntS (l.take i) : Nat) + 1 && ((foldK (some (sentF (sendAll ledZ (l.take i)) (kOf tw) (tw 1))) (ksO (some (sentF (sendAll ledZ (l.take i)) (kOf tw) (tw 1))))).2 : Int) == (bytS (l.take i) : Nat) + IntKind.u64.wrap (tw (Fin.succ 0)))) = false := by
          have hs1 : tw (Fin.succ 0) = tw 1 := rfl
          rw [hts, hs1]
          dsimp only
          rw [c1, c2]
          simp
        ((repeat' ((conv => whnf) <;> first | exact True.intro | (guard_target =~ Fork _ _ _; first | refine F1 ?_ | refine F2 ?_ | refine F3 (fun h => ?_) fun h => ?_) | (guard_target =~ Ar _ _ _; first | refine A1 ?_ | refine A2 ?_) | (guard_target =~ AskL _ _; first | refine L1 ?_) | (guard_target =~ Go.Eng.Ask _ _; first | refine K1 ?_) | (guard_target =~ All' _ _; first | (refine Y2 fun y he he' hy => ?_; (try dsimp only at he he' hy)) | (refine Y1 fun y he hy => ?_; (try with_reducible conv at he => (rhs; whnf)); (try dsimp only at he hy)) | (refine All'.mk ?_; intro y hy)) | refine F4 (fun h => ?_) fun h => ?_ | refine R1 ?_ | refine Q1 ?_ | fail)); all_goals (conv => whnf))
        refine CallP.mk (C := sentC) ⟨some (sendAll ledZ (l.take i)), kOf tw, tw 1⟩ ?_
        ((repeat' ((conv => whnf) <;> first | exact True.intro | (guard_target =~ Fork _ _ _; first | refine F1 ?_ | refine F2 ?_ | refine F3 (fun h => ?_) fun h => ?_) | (guard_target =~ Ar _ _ _; first | refine A1 ?_ | refine A2 ?_) | (guard_target =~ AskL _ _; first | refine L1 ?_) | (guard_target =~ Go.Eng.Ask _ _; first | refine K1 ?_) | (guard_target =~ All' _ _; first | (refine Y2 fun y he he' hy => ?_; (try dsimp only at he he' hy)) | (refine Y1 fun y he hy => ?_; (try with_reducible conv at he => (rhs; whnf)); (try dsimp only at he hy)) | (refine All'.mk ?_; intro y hy)) | refine F4 (fun h => ?_) fun h => ?_ | refine R1 ?_ | refine Q1 ?_ | fail)); all_goals (conv => whnf))
        refine Ar.fit (wrap_u64 (by show (0 : Int) ≤ ((bytS (l.take i) : Nat) : Int) + IntKind.u64.wrap (tw 1); rw [hw2]; obtain ⟨h1, h2⟩ := hy1; omega) (by show ((bytS (l.take i) : Nat) : Int) + IntKind.u64.wrap (tw 1) ≤ _; rw [hw2]; exact hk2)) ?_
        ((repeat' ((conv => whnf) <;> first | exact True.intro | (guard_target =~ Fork _ _ _; first | refine F1 ?_ | refine F2 ?_ | refine F3 (fun h => ?_) fun h => ?_) | (guard_target =~ Ar _ _ _; first | refine A1 ?_ | refine A2 ?_) | (guard_target =~ AskL _ _; first | refine L1 ?_) | (guard_target =~ Go.Eng.Ask _ _; first | refine K1 ?_) | (guard_target =~ All' _ _; first | (refine Y2 fun y he he' hy => ?_; (try dsimp only at he he' hy)) | (refine Y1 fun y he hy => ?_; (try with_reducible conv at he => (rhs; whnf)); (try dsimp only at he hy)) | (refine All'.mk ?_; intro y hy)) | refine F4 (fun h => ?_) fun h => ?_ | refine R1 ?_ | refine Q1 ?_ | fail)); all_goals (conv => whnf))
        refine CallP.mk (C := totC) (some (sentF (sendAll ledZ (l.take i)) (kOf tw) (tw 1))) ?_
        ((repeat' ((conv => whnf) <;> first | exact True.intro | (guard_target =~ Fork _ _ _; first | refine F1 ?_ | refine F2 ?_ | refine F3 (fun h => ?_) fun h => ?_) | (guard_target =~ Ar _ _ _; first | refine A1 ?_ | refine A2 ?_) | (guard_target =~ AskL _ _; first | refine L1 ?_) | (guard_target =~ Go.Eng.Ask _ _; first | refine K1 ?_) | (guard_target =~ All' _ _; first | (refine Y2 fun y he he' hy => ?_; (try dsimp only at he he' hy)) | (refine Y1 fun y he hy => ?_; (try with_reducible conv at he => (rhs; whnf)); (try dsimp only at he hy)) | (refine All'.mk ?_; intro y hy)) | refine F4 (fun h => ?_) fun h => ?_ | refine R1 ?_ | refine Q1 ?_ | fail)); all_goals (conv => whnf))
        refine Some'.mk (i + 1 : Nat) ?_
        have c3 : ((bytS (l.take (i + 1)) : Nat) : Int) = (bytS (l.take i) : Nat) + IntKind.u64.wrap (tw (Fin.succ 0)) := c2
        ((repeat' ((conv => whnf) <;> first | exact True.intro | (guard_target =~ Fork _ _ _; first | refine F1 ?_ | refine F2 ?_ | refine F3 (fun h => ?_) fun h => ?_) | (guard_target =~ Ar _ _ _; first | refine A1 ?_ | refine A2 ?_) | (guard_target =~ Go.Eng.Ask _ _; first | refine K1 ?_) | (guard_target =~ All' _ _; first | (refine Y2 fun y he he' hy => ?_; (try dsimp only at he he' hy)) | (refine Y1 fun y he hy => ?_; (try with_reducible conv at he => (rhs; whnf)); (try dsimp only at he hy)) | (refine All'.mk ?_; intro y hy)) | refine F4 (fun h => ?_) fun h => ?_ | refine R1 ?_ | refine Q1 ?_ | fail)); all_goals (conv => whnf))
        refine AskL.mk ?_ ?_
        · dsimp only [conj]
          rw [hsn, c1, c3]
          (repeat' apply And.intro) <;> rfl
        · ((repeat' ((conv => whnf) <;> first | exact True.intro | (guard_target =~ Fork _ _ _; first | refine F1 ?_ | refine F2 ?_ | refine F3 (fun h => ?_) fun h => ?_) | (guard_target =~ Ar _ _ _; first | refine A1 ?_ | refine A2 ?_) | (guard_target =~ AskL _ _; first | refine L1 ?_) | (guard_target =~ Go.Eng.Ask _ _; first | refine K1 ?_) | (guard_target =~ All' _ _; first | (refine Y2 fun y he he' hy => ?_; (try dsimp only at he he' hy)) | (refine Y1 fun y he hy => ?_; (try with_reducible conv at he => (rhs; whnf)); (try dsimp only at he hy)) | (refine All'.mk ?_; intro y hy)) | refine F4 (fun h => ?_) fun h => ?_ | refine R1 ?_ | refine Q1 ?_ | fail)); all_goals (conv => whnf))
      · have hk0 : knownS tw = false := by simpa using hk
        have hv : ((some (sendAll ledZ (l.take i))).isSome && sentB (kOf tw) (tw 1)) = false := decide_eq_false (fun h => absurd (decide_eq_true h.1) (by unfold knownS at hk; exact hk))
        rw [if_neg hk] at hci hbi
        have c1 : cntS (l.take (i + 1)) = cntS (l.take i) := hci
        have c3 : bytS (l.take (i + 1)) = bytS (l.take i) := hbi
        have hne : (!(((foldK (some (sentF (sendAll ledZ (l.take i)) (kOf tw) (tw 1))) (ksO (some (sentF (sendAll ledZ (l.take i)) (kOf tw) (tw 1))))).1 : Int) == (cntS (l.take i) : Nat) && ((foldK (some (sentF (sendAll ledZ (l.take i)) (kOf tw) (tw 1))) (ksO (some (sentF (sendAll ledZ (l.take i)) (kOf tw) (tw 1))))).2 : Int) == (bytS (l.take i) : Nat))) = false := by
          rw [hts]
          dsimp only
          rw [c1, c3]
          simp
        ((repeat' ((conv => whnf) <;> first | exact True.intro | (guard_target =~ Fork _ _ _; first | refine F1 ?_ | refine F2 ?_ | refine F3 (fun h => ?_) fun h => ?_) | (guard_target =~ Ar _ _ _; first | refine A1 ?_ | refine A2 ?_) | (guard_target =~ AskL _ _; first | refine L1 ?_) | (guard_target =~ Go.Eng.Ask _ _; first | refine K1 ?_) | (guard_target =~ All' _ _; first | (refine Y2 fun y he he' hy => ?_; (try dsimp only at he he' hy)) | (refine Y1 fun y he hy => ?_; (try with_reducible conv at he => (rhs; whnf)); (try dsimp only at he hy)) | (refine All'.mk ?_; intro y hy)) | refine F4 (fun h => ?_) fun h => ?_ | refine R1 ?_ | refine Q1 ?_ | fail)); all_goals (conv => whnf))
        refine CallP.mk (C := sentC) ⟨some (sendAll ledZ (l.take i)), kOf tw, tw 1⟩ ?_
        ((repeat' ((conv => whnf) <;> first | exact True.intro | (guard_target =~ Fork _ _ _; first | refine F1 ?_ | refine F2 ?_ | refine F3 (fun h => ?_) fun h => ?_) | (guard_target =~ Ar _ _ _; first | refine A1 ?_ | refine A2 ?_) | (guard_target =~ AskL _ _; first | refine L1 ?_) | (guard_target =~ Go.Eng.Ask _ _; first | refine K1 ?_) | (guard_target =~ All' _ _; first | (refine Y2 fun y he he' hy => ?_; (try dsimp only at he he' hy)) | (refine Y1 fun y he hy => ?_; (try with_reducible conv at he => (rhs; whnf)); (try dsimp only at he hy)) | (refine All'.mk ?_; intro y hy)) | refine F4 (fun h => ?_) fun h => ?_ | refine R1 ?_ | refine Q1 ?_ | fail)); all_goals (conv => whnf))
        refine CallP.mk (C := totC) (some (sentF (sendAll ledZ (l.take i)) (kOf tw) (tw 1))) ?_
        ((repeat' ((conv => whnf) <;> first | exact True.intro | (guard_target =~ Fork _ _ _; first | refine F1 ?_ | refine F2 ?_ | refine F3 (fun h => ?_) fun h => ?_) | (guard_target =~ Ar _ _ _; first | refine A1 ?_ | refine A2 ?_) | (guard_target =~ AskL _ _; first | refine L1 ?_) | (guard_target =~ Go.Eng.Ask _ _; first | refine K1 ?_) | (guard_target =~ All' _ _; first | (refine Y2 fun y he he' hy => ?_; (try dsimp only at he he' hy)) | (refine Y1 fun y he hy => ?_; (try with_reducible conv at he => (rhs; whnf)); (try dsimp only at he hy)) | (refine All'.mk ?_; intro y hy)) | refine F4 (fun h => ?_) fun h => ?_ | refine R1 ?_ | refine Q1 ?_ | fail)); all_goals (conv => whnf))
        refine Some'.mk (i + 1 : Nat) ?_
        ((repeat' ((conv => whnf) <;> first | exact True.intro | (guard_target =~ Fork _ _ _; first | refine F1 ?_ | refine F2 ?_ | refine F3 (fun h => ?_) fun h => ?_) | (guard_target =~ Ar _ _ _; first | refine A1 ?_ | refine A2 ?_) | (guard_target =~ Go.Eng.Ask _ _; first | refine K1 ?_) | (guard_target =~ All' _ _; first | (refine Y2 fun y he he' hy => ?_; (try dsimp only at he he' hy)) | (refine Y1 fun y he hy => ?_; (try with_reducible conv at he => (rhs; whnf)); (try dsimp only at he hy)) | (refine All'.mk ?_; intro y hy)) | refine F4 (fun h => ?_) fun h => ?_ | refine R1 ?_ | refine Q1 ?_ | fail)); all_goals (conv => whnf))
        refine AskL.mk ?_ ?_
        · dsimp only [conj]
          rw [hsn, c1, c3]
          (repeat' apply And.intro) <;> rfl
        · ((repeat' ((conv => whnf) <;> first | exact True.intro | (guard_target =~ Fork _ _ _; first | refine F1 ?_ | refine F2 ?_ | refine F3 (fun h => ?_) fun h => ?_) | (guard_target =~ Ar _ _ _; first | refine A1 ?_ | refine A2 ?_) | (guard_target =~ AskL _ _; first | refine L1 ?_) | (guard_target =~ Go.Eng.Ask _ _; first | refine K1 ?_) | (guard_target =~ All' _ _; first | (refine Y2 fun y he he' hy => ?_; (try dsimp only at he he' hy)) | (refine Y1 fun y he hy => ?_; (try with_reducible conv at he => (rhs; whnf)); (try dsimp only at he hy)) | (refine All'.mk ?_; intro y hy)) | refine F4 (fun h => ?_) fun h => ?_ | refine R1 ?_ | refine Q1 ?_ | fail)); all_goals (conv => whnf))
    · have hta : l.take i = l := List.take_of_length_le (by omega)
      obtain ⟨oi, p1, p2, p3, p4⟩ := ol l.length
      rw [List.take_length] at oi p1 p2 p3 p4
      have hlaw := ls_law (s := s) oi hss (by omega) (by omega)
      rw [p1, p2] at hlaw
      clear ol
      have hss1 : s.1 ≤ 18446744073709551615 := hss.1
      have hss2 : s.2 ≤ 18446744073709551615 := hss.2
      have so : ∀ f, some (sendAll ledZ l) = some f → okL f := fun f h => by cases h; exact oi
      have sz : ∀ f, some (setR ledZ 3 s) = some f → okL f := fun f h => by cases h; exact okL_set (fun _ => ⟨Nat.zero_le _, Nat.zero_le _⟩) hss
      have sy : ∀ f, some (addFold (some (sendAll ledZ l)) (setR ledZ 3 s) (ksO (some (sendAll ledZ l)))) = some f → okL f := fun f h => by cases h; exact okL_add _ (sz _ rfl)
      unfold addL totN at hlaw
      dsimp only [lsL]
      rw [hta]
      generalize sendAll ledZ l = f at *
      refine CallP.mk (C := newC) () ?_
      ((repeat' ((conv => whnf) <;> first | exact True.intro | (guard_target =~ Fork _ _ _; first | refine F1 ?_ | refine F2 ?_ | refine F3 (fun h => ?_) fun h => ?_) | (guard_target =~ Ar _ _ _; first | refine A1 ?_ | refine A2 ?_) | (guard_target =~ AskL _ _; first | refine L1 ?_) | (guard_target =~ Go.Eng.Ask _ _; first | refine K1 ?_) | (guard_target =~ All' _ _; first | (refine Y2 fun y he he' hy => ?_; (try dsimp only at he he' hy)) | (refine Y1 fun y he hy => ?_; (try with_reducible conv at he => (rhs; whnf)); (try dsimp only at he hy)) | (refine All'.mk ?_; intro y hy)) | refine F4 (fun h => ?_) fun h => ?_ | refine R1 ?_ | refine Q1 ?_ | fail)); all_goals (conv => whnf))
      refine CallP.mk (C := withC) ⟨some ledZ, 3, s⟩ ?_
      ((repeat' ((conv => whnf) <;> first | exact True.intro | (guard_target =~ Fork _ _ _; first | refine F1 ?_ | refine F2 ?_ | refine F3 (fun h => ?_) fun h => ?_) | (guard_target =~ Ar _ _ _; first | refine A1 ?_ | refine A2 ?_) | (guard_target =~ AskL _ _; first | refine L1 ?_) | (guard_target =~ Go.Eng.Ask _ _; first | refine K1 ?_) | (guard_target =~ All' _ _; first | (refine Y2 fun y he he' hy => ?_; (try dsimp only at he he' hy)) | (refine Y1 fun y he hy => ?_; (try with_reducible conv at he => (rhs; whnf)); (try dsimp only at he hy)) | (refine All'.mk ?_; intro y hy)) | refine F4 (fun h => ?_) fun h => ?_ | refine R1 ?_ | refine Q1 ?_ | fail)); all_goals (conv => whnf))
      refine CallP.mk (C := ladC) (some (setR ledZ 3 s), some f) ?_
      ((repeat' ((conv => whnf) <;> first | exact True.intro | (guard_target =~ Fork _ _ _; first | refine F1 ?_ | refine F2 ?_ | refine F3 (fun h => ?_) fun h => ?_) | (guard_target =~ Ar _ _ _; first | refine A1 ?_ | refine A2 ?_) | (guard_target =~ AskL _ _; first | refine L1 ?_) | (guard_target =~ Go.Eng.Ask _ _; first | refine K1 ?_) | (guard_target =~ All' _ _; first | (refine Y2 fun y he he' hy => ?_; (try dsimp only at he he' hy)) | (refine Y1 fun y he hy => ?_; (try with_reducible conv at he => (rhs; whnf)); (try dsimp only at he hy)) | (refine All'.mk ?_; intro y hy)) | refine F4 (fun h => ?_) fun h => ?_ | refine R1 ?_ | refine Q1 ?_ | fail)); all_goals (conv => whnf))
      generalize addFold (some f) (setR ledZ 3 s) (ksO (some f)) = R at *
      refine CallP.mk (C := totC) (some R) ?_
      ((repeat' ((conv => whnf) <;> first | exact True.intro | (guard_target =~ Fork _ _ _; first | refine F1 ?_ | refine F2 ?_ | refine F3 (fun h => ?_) fun h => ?_) | (guard_target =~ Ar _ _ _; first | refine A1 ?_ | refine A2 ?_) | (guard_target =~ AskL _ _; first | refine L1 ?_) | (guard_target =~ Go.Eng.Ask _ _; first | refine K1 ?_) | (guard_target =~ All' _ _; first | (refine Y2 fun y he he' hy => ?_; (try dsimp only at he he' hy)) | (refine Y1 fun y he hy => ?_; (try with_reducible conv at he => (rhs; whnf)); (try dsimp only at he hy)) | (refine All'.mk ?_; intro y hy)) | refine F4 (fun h => ?_) fun h => ?_ | refine R1 ?_ | refine Q1 ?_ | fail)); all_goals (conv => whnf))
  · ((repeat' ((conv => whnf) <;> first | exact True.intro | (guard_target =~ Fork _ _ _; first | refine F1 ?_ | refine F2 ?_ | refine F3 (fun h => ?_) fun h => ?_) | (guard_target =~ Ar _ _ _; first | refine A1 ?_ | refine A2 ?_) | (guard_target =~ AskL _ _; first | refine L1 ?_) | (guard_target =~ Go.Eng.Ask _ _; first | refine K1 ?_) | (guard_target =~ All' _ _; first | (refine Y2 fun y he he' hy => ?_; (try dsimp only at he he' hy)) | (refine Y1 fun y he hy => ?_; (try with_reducible conv at he => (rhs; whnf)); (try dsimp only at he hy)) | (refine All'.mk ?_; intro y hy)) | refine F4 (fun h => ?_) fun h => ?_ | refine R1 ?_ | refine Q1 ?_ | fail)); all_goals (conv => whnf))

structure LsI where
  l : List Two
  s : Int × Int
@[reducible] def lsIC : Ctr := {
  X := LsI
  Y := Unit
  args := fun x => [.ro false twoT x.l, .agg (enc rowT x.s)]
  rw := fun _ => []
  side := fun x => (∀ s, s ∈ x.l → okS s) ∧ (0 ≤ x.s.1 ∧ x.s.1 ≤ 18446744073709551615) ∧ (0 ≤ x.s.2 ∧ x.s.2 ≤ 18446744073709551615)
  val := fun _ => ()
  ens := fun _ _ => True
  res := fun _ _ => .v (.bool true)
  out := fun _ _ => [] }
theorem lsI_ok : lsIC.ok Tryd.prog 5 := by
  rintro ⟨l, a, b⟩ ⟨h1, h2, h3⟩
  dsimp only at h1 h2 h3
  obtain ⟨m, rfl⟩ := Int.eq_ofNat_of_zero_le h2.1
  obtain ⟨n, rfl⟩ := Int.eq_ofNat_of_zero_le h3.1
  exact ls_ok ⟨l, (m, n)⟩ ⟨h1, by show m ≤ _; omega, by show n ≤ _; omega⟩
end Go.Proofs.YteckpdifeoffjaaDoor
