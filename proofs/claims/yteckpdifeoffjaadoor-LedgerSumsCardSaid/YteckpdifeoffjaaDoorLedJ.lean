/- Ledger: the function of LedgerOrder. -/
import Derived.Test.YteckpdifeoffjaaDoorLedH
import Derived.Test.YteckpdifeoffjaaDoorLedI
set_option linter.unusedVariables false
set_option linter.unusedSimpArgs false
set_option maxRecDepth 100000
set_option maxHeartbeats 4000000
namespace Go.Proofs.YteckpdifeoffjaaDoor
open Go.Eng

abbrev twoT : Ty := .arr 2 (.int .u16)
structure LoX where
  a : List Two
  b : List Two
@[reducible] def loC : Ctr := {
  X := LoX
  Y := Unit
  args := fun x => [.ro false twoT x.a, .ro false twoT x.b]
  rw := fun _ => []
  side := fun x => (∀ s, s ∈ x.a → okS s) ∧ (∀ s, s ∈ x.b → okS s)
  val := fun _ => ()
  ens := fun _ _ => True
  res := fun _ _ => .v (.bool true)
  out := fun _ _ => [] }
@[reducible] def ledZ : Nat → Nat × Nat := fun _ => (0, 0)
@[reducible] def loL0 (x : LoX) : LA := {
  X := Nat
  pre := fun i => i ≤ x.a.length
  mu := fun i => x.a.length - i
  T := fun i => [(1, .ro false twoT x.b), (5, .ptr 0 0), (6, .ptr 1 0), (26, .ro false twoT x.a), (27, .v (.int .i64 x.a.length)), (28, .v (.int .i64 (i : Nat)))]
  M := fun i => [(0, ledE (sendAll ledZ (x.a.take i))), (1, ledE ledZ)] }
@[reducible] def loL2 (x : LoX) : LA := {
  X := Nat
  pre := fun i => i ≤ x.b.length
  mu := fun i => x.b.length - i
  T := fun i => [(5, .ptr 0 0), (6, .ptr 1 0), (42, .ro false twoT x.b), (43, .v (.int .i64 x.b.length)), (44, .v (.int .i64 (i : Nat)))]
  M := fun i => [(0, ledE (sendAll ledZ x.a)), (1, ledE (sendAll ledZ (x.b.take i)))] }
theorem knownLo : Known Tryd.prog (gOf [(6, firstC), (7, newC), (8, sentC), (9, cloneC), (10, ladC), (11, totC), (12, payC), (13, withC)]) :=
  known_cons ⟨first_ok, Tryd.call6⟩ (known_cons ⟨new_ok, Tryd.call7⟩ (known_cons ⟨sent_ok, Tryd.call8⟩ (known_cons ⟨clone_ok, Tryd.call9⟩
  (known_cons ⟨lad_ok, Tryd.call10⟩ (known_cons ⟨tot_ok, Tryd.call11⟩ (known_cons ⟨pay_ok, Tryd.call12⟩ (known_cons ⟨with_ok, Tryd.call13⟩ (known_nil _))))))))
theorem take_at {α : Type} {l : List α} {i : Nat} {x : α} (h : l[i]? = some x) : l.take (i + 1) = l.take i ++ [x] := by rw [List.take_add_one, h]; rfl
theorem wrap_u16 {n : Int} (h : 0 ≤ n ∧ n ≤ 65535) : IntKind.i64.wrap n = n := wrap_i64 (by omega) (by omega)
theorem lo_ok : loC.ok Tryd.prog 3 := by
  refine ok_of_vc (An := fun (x : LoX) => anOf [(0, .loop (loL0 x)), (2, .loop (loL2 x))]) knownLo mo Tryd.func3 (by kernel_rfl) (by kernel_rfl) (fun _ _ => trivial) (fun x hs => ?_)
  obtain ⟨a, b⟩ := x
  obtain ⟨hsa, hsb⟩ := hs
  dsimp only at hsa hsb
  ((repeat' ((conv => whnf) <;> first | exact True.intro | (guard_target =~ Fork _ _ _; first | refine F1 ?_ | refine F2 ?_ | refine F3 (fun h => ?_) fun h => ?_) | (guard_target =~ Ar _ _ _; first | refine A1 ?_ | refine A2 ?_) | (guard_target =~ AskL _ _; first | refine L1 ?_) | (guard_target =~ Go.Eng.Ask _ _; first | refine K1 ?_) | (guard_target =~ All' _ _; first | (refine Y2 fun y he he' hy => ?_; (try dsimp only at he he' hy)) | (refine Y1 fun y he hy => ?_; (try with_reducible conv at he => (rhs; whnf)); (try dsimp only at he hy)) | (refine All'.mk ?_; intro y hy)) | refine F4 (fun h => ?_) fun h => ?_ | refine R1 ?_ | refine Q1 ?_ | fail)); all_goals (conv => whnf))
  refine CallP.mk (C := firstC) () ?_
  by_cases ha : a.length ≤ 100
  · by_cases hb : b.length ≤ 100
    · have hza : sendAll ledZ (a.take 0) = ledZ := rfl
      ((repeat' ((conv => whnf) <;> first | exact True.intro | (guard_target =~ Fork _ _ _; first | refine F1 ?_ | refine F2 ?_ | refine F3 (fun h => ?_) fun h => ?_) | (guard_target =~ Ar _ _ _; first | refine A1 ?_ | refine A2 ?_) | (guard_target =~ AskL _ _; first | refine L1 ?_) | (guard_target =~ Go.Eng.Ask _ _; first | refine K1 ?_) | (guard_target =~ All' _ _; first | (refine Y2 fun y he he' hy => ?_; (try dsimp only at he he' hy)) | (refine Y1 fun y he hy => ?_; (try with_reducible conv at he => (rhs; whnf)); (try dsimp only at he hy)) | (refine All'.mk ?_; intro y hy)) | refine F4 (fun h => ?_) fun h => ?_ | refine R1 ?_ | refine Q1 ?_ | fail)); all_goals (conv => whnf))
      refine CallP.mk (C := newC) () ?_
      ((repeat' ((conv => whnf) <;> first | exact True.intro | (guard_target =~ Fork _ _ _; first | refine F1 ?_ | refine F2 ?_ | refine F3 (fun h => ?_) fun h => ?_) | (guard_target =~ Ar _ _ _; first | refine A1 ?_ | refine A2 ?_) | (guard_target =~ AskL _ _; first | refine L1 ?_) | (guard_target =~ Go.Eng.Ask _ _; first | refine K1 ?_) | (guard_target =~ All' _ _; first | (refine Y2 fun y he he' hy => ?_; (try dsimp only at he he' hy)) | (refine Y1 fun y he hy => ?_; (try with_reducible conv at he => (rhs; whnf)); (try dsimp only at he hy)) | (refine All'.mk ?_; intro y hy)) | refine F4 (fun h => ?_) fun h => ?_ | refine R1 ?_ | refine Q1 ?_ | fail)); all_goals (conv => whnf))
      refine CallP.mk (C := newC) () ?_
      ((repeat' ((conv => whnf) <;> first | exact True.intro | (guard_target =~ Fork _ _ _; first | refine F1 ?_ | refine F2 ?_ | refine F3 (fun h => ?_) fun h => ?_) | (guard_target =~ Ar _ _ _; first | refine A1 ?_ | refine A2 ?_) | (guard_target =~ AskL _ _; first | refine L1 ?_) | (guard_target =~ Go.Eng.Ask _ _; first | refine K1 ?_) | (guard_target =~ All' _ _; first | (refine Y2 fun y he he' hy => ?_; (try dsimp only at he he' hy)) | (refine Y1 fun y he hy => ?_; (try with_reducible conv at he => (rhs; whnf)); (try dsimp only at he hy)) | (refine All'.mk ?_; intro y hy)) | refine F4 (fun h => ?_) fun h => ?_ | refine R1 ?_ | refine Q1 ?_ | fail)); all_goals (conv => whnf))
      refine Some'.mk (0 : Nat) ?_
      ((repeat' ((conv => whnf) <;> first | exact True.intro | (guard_target =~ Fork _ _ _; first | refine F1 ?_ | refine F2 ?_ | refine F3 (fun h => ?_) fun h => ?_) | (guard_target =~ Ar _ _ _; first | refine A1 ?_ | refine A2 ?_) | (guard_target =~ AskL _ _; first | refine L1 ?_) | (guard_target =~ Go.Eng.Ask _ _; first | refine K1 ?_) | (guard_target =~ All' _ _; first | (refine Y2 fun y he he' hy => ?_; (try dsimp only at he he' hy)) | (refine Y1 fun y he hy => ?_; (try with_reducible conv at he => (rhs; whnf)); (try dsimp only at he hy)) | (refine All'.mk ?_; intro y hy)) | refine F4 (fun h => ?_) fun h => ?_ | refine R1 ?_ | refine Q1 ?_ | fail)); all_goals (conv => whnf))
      refine AllI.mk ?_
      rintro (i : Nat) hi
      have hi : i ≤ a.length := hi
      have hi0 : ((i : Int)).toNat = i := by omega
      have oa := fun (n : Nat) => (sendAll_su _ (a.take n) rfl (by simp; omega) (fun s h => hsa s (List.mem_of_mem_take h))).1
      have ob := fun (n : Nat) => (sendAll_su _ (b.take n) rfl (by simp; omega) (fun s h => hsb s (List.mem_of_mem_take h))).1
      ((repeat' ((conv => whnf) <;> first | exact True.intro | (guard_target =~ Fork _ _ _; first | refine F1 ?_ | refine F2 ?_ | refine F3 (fun h => ?_) fun h => ?_) | (guard_target =~ Ar _ _ _; first | refine A1 ?_ | refine A2 ?_) | (guard_target =~ AskL _ _; first | refine L1 ?_) | (guard_target =~ Go.Eng.Ask _ _; first | refine K1 ?_) | (guard_target =~ All' _ _; first | (refine Y2 fun y he he' hy => ?_; (try dsimp only at he he' hy)) | (refine Y1 fun y he hy => ?_; (try with_reducible conv at he => (rhs; whnf)); (try dsimp only at he hy)) | (refine All'.mk ?_; intro y hy)) | refine F4 (fun h => ?_) fun h => ?_ | refine R1 ?_ | refine Q1 ?_ | fail)); all_goals (conv => whnf))
      · rw [hi0] at hy
        have hso := hsa y (List.mem_of_getElem? hy)
        have hw0 := wrap_u16 hso.1
        have hw1 := wrap_u16 hso.2
        have hsn : sendAll ledZ (a.take (i + 1)) = sentF (sendAll ledZ (a.take i)) (kOf y) (y 1) := by rw [take_at hy, sendAll_snoc]
        have oi := oa i
        have so : ∀ f, some (sendAll ledZ (a.take i)) = some f → okL f := fun f h => by cases h; exact oi
        have hb1 : y 1 ≤ 9223372036854775807 := Int.le_trans hso.2.2 (by omega)
        clear oa ob
        refine CallP.mk (C := sentC) ⟨some (sendAll ledZ (a.take i)), kOf y, y 1⟩ ?_
        ((repeat' ((conv => whnf) <;> first | exact True.intro | (guard_target =~ Fork _ _ _; first | refine F1 ?_ | refine F2 ?_ | refine F3 (fun h => ?_) fun h => ?_) | (guard_target =~ Ar _ _ _; first | refine A1 ?_ | refine A2 ?_) | (guard_target =~ AskL _ _; first | refine L1 ?_) | (guard_target =~ Go.Eng.Ask _ _; first | refine K1 ?_) | (guard_target =~ All' _ _; first | (refine Y2 fun y he he' hy => ?_; (try dsimp only at he he' hy)) | (refine Y1 fun y he hy => ?_; (try with_reducible conv at he => (rhs; whnf)); (try dsimp only at he hy)) | (refine All'.mk ?_; intro y hy)) | refine F4 (fun h => ?_) fun h => ?_ | refine R1 ?_ | refine Q1 ?_ | fail)); all_goals (conv => whnf))
        refine Some'.mk (i + 1 : Nat) ?_
        ((repeat' ((conv => whnf) <;> first | exact True.intro | (guard_target =~ Fork _ _ _; first | refine F1 ?_ | refine F2 ?_ | refine F3 (fun h => ?_) fun h => ?_) | (guard_target =~ Ar _ _ _; first | refine A1 ?_ | refine A2 ?_) | (guard_target =~ AskL _ _; first | refine L1 ?_) | (guard_target =~ Go.Eng.Ask _ _; first | refine K1 ?_) | (guard_target =~ All' _ _; first | (refine Y2 fun y he he' hy => ?_; (try dsimp only at he he' hy)) | (refine Y1 fun y he hy => ?_; (try with_reducible conv at he => (rhs; whnf)); (try dsimp only at he hy)) | (refine All'.mk ?_; intro y hy)) | refine F4 (fun h => ?_) fun h => ?_ | refine R1 ?_ | refine Q1 ?_ | fail)); all_goals (conv => whnf))
      · have hta : a.take i = a := List.take_of_length_le (by omega)
        have htb : sendAll ledZ (b.take 0) = ledZ := rfl
        refine Some'.mk (0 : Nat) ?_
        ((repeat' ((conv => whnf) <;> first | exact True.intro | (guard_target =~ Fork _ _ _; first | refine F1 ?_ | refine F2 ?_ | refine F3 (fun h => ?_) fun h => ?_) | (guard_target =~ Ar _ _ _; first | refine A1 ?_ | refine A2 ?_) | (guard_target =~ AskL _ _; first | refine L1 ?_) | (guard_target =~ Go.Eng.Ask _ _; first | refine K1 ?_) | (guard_target =~ All' _ _; first | (refine Y2 fun y he he' hy => ?_; (try dsimp only at he he' hy)) | (refine Y1 fun y he hy => ?_; (try with_reducible conv at he => (rhs; whnf)); (try dsimp only at he hy)) | (refine All'.mk ?_; intro y hy)) | refine F4 (fun h => ?_) fun h => ?_ | refine R1 ?_ | refine Q1 ?_ | fail)); all_goals (conv => whnf))
        refine AllI.mk ?_
        rintro (j : Nat) hj
        have hj : j ≤ b.length := hj
        have hj0 : ((j : Int)).toNat = j := by omega
        clear hta htb hi0
        ((repeat' ((conv => whnf) <;> first | exact True.intro | (guard_target =~ Fork _ _ _; first | refine F1 ?_ | refine F2 ?_ | refine F3 (fun h => ?_) fun h => ?_) | (guard_target =~ Ar _ _ _; first | refine A1 ?_ | refine A2 ?_) | (guard_target =~ AskL _ _; first | refine L1 ?_) | (guard_target =~ Go.Eng.Ask _ _; first | refine K1 ?_) | (guard_target =~ All' _ _; first | (refine Y2 fun y he he' hy => ?_; (try dsimp only at he he' hy)) | (refine Y1 fun y he hy => ?_; (try with_reducible conv at he => (rhs; whnf)); (try dsimp only at he hy)) | (refine All'.mk ?_; intro y hy)) | refine F4 (fun h => ?_) fun h => ?_ | refine R1 ?_ | refine Q1 ?_ | fail)); all_goals (conv => whnf))
        · rw [hj0] at hy
          have hso := hsb y (List.mem_of_getElem? hy)
          have hw0 := wrap_u16 hso.1
          have hw1 := wrap_u16 hso.2
          have hsn : sendAll ledZ (b.take (j + 1)) = sentF (sendAll ledZ (b.take j)) (kOf y) (y 1) := by rw [take_at hy, sendAll_snoc]
          have oi := ob j
          have so : ∀ f, some (sendAll ledZ (b.take j)) = some f → okL f := fun f h => by cases h; exact oi
          have hb1 : y 1 ≤ 9223372036854775807 := Int.le_trans hso.2.2 (by omega)
          clear oa ob
          refine CallP.mk (C := sentC) ⟨some (sendAll ledZ (b.take j)), kOf y, y 1⟩ ?_
          ((repeat' ((conv => whnf) <;> first | exact True.intro | (guard_target =~ Fork _ _ _; first | refine F1 ?_ | refine F2 ?_ | refine F3 (fun h => ?_) fun h => ?_) | (guard_target =~ Ar _ _ _; first | refine A1 ?_ | refine A2 ?_) | (guard_target =~ AskL _ _; first | refine L1 ?_) | (guard_target =~ Go.Eng.Ask _ _; first | refine K1 ?_) | (guard_target =~ All' _ _; first | (refine Y2 fun y he he' hy => ?_; (try dsimp only at he he' hy)) | (refine Y1 fun y he hy => ?_; (try with_reducible conv at he => (rhs; whnf)); (try dsimp only at he hy)) | (refine All'.mk ?_; intro y hy)) | refine F4 (fun h => ?_) fun h => ?_ | refine R1 ?_ | refine Q1 ?_ | fail)); all_goals (conv => whnf))
          refine Some'.mk (j + 1 : Nat) ?_
          ((repeat' ((conv => whnf) <;> first | exact True.intro | (guard_target =~ Fork _ _ _; first | refine F1 ?_ | refine F2 ?_ | refine F3 (fun h => ?_) fun h => ?_) | (guard_target =~ Ar _ _ _; first | refine A1 ?_ | refine A2 ?_) | (guard_target =~ AskL _ _; first | refine L1 ?_) | (guard_target =~ Go.Eng.Ask _ _; first | refine K1 ?_) | (guard_target =~ All' _ _; first | (refine Y2 fun y he he' hy => ?_; (try dsimp only at he he' hy)) | (refine Y1 fun y he hy => ?_; (try with_reducible conv at he => (rhs; whnf)); (try dsimp only at he hy)) | (refine All'.mk ?_; intro y hy)) | refine F4 (fun h => ?_) fun h => ?_ | refine R1 ?_ | refine Q1 ?_ | fail)); all_goals (conv => whnf))
        · have htb : b.take j = b := List.take_of_length_le (by omega)
          obtain ⟨f1, f2, f3, f4, f5⟩ := sendAll_su _ a rfl (by omega) hsa
          obtain ⟨g1, g2, g3, g4, g5⟩ := sendAll_su _ b rfl (by omega) hsb
          obtain ⟨s1, s2, z1, z2, z3, z4, z5, z6, z7, z8⟩ := lo_law f1 g1 (by omega) (by omega) (by omega) (by omega)
          clear oa ob f2 f3 f4 f5 g2 g3 g4 g5
          dsimp only [loL2]
          rw [htb]
          generalize sendAll ledZ a = f at *
          generalize sendAll ledZ b = g at *
          have o1 : ∀ h, some f = some h → okL h := fun h e => by cases e; exact f1
          have o2 : ∀ h, some g = some h → okL h := fun h e => by cases e; exact g1
          have o3 : ∀ h, some (addL f g) = some h → okL h := fun h e => by cases e; exact okL_add _ f1
          have o4 : ∀ h, some (addL g f) = some h → okL h := fun h e => by cases e; exact okL_add _ g1
          have o5 : ∀ h, some (addL (addL f g) (addL f g)) = some h → okL h := fun h e => by cases e; exact okL_add _ (okL_add _ f1)
          unfold addL payN totN at *
          ((repeat' ((conv => whnf) <;> first | exact True.intro | (guard_target =~ Fork _ _ _; first | refine F1 ?_ | refine F2 ?_ | refine F3 (fun h => ?_) fun h => ?_) | (guard_target =~ Ar _ _ _; first | refine A1 ?_ | refine A2 ?_) | (guard_target =~ AskL _ _; first | refine L1 ?_) | (guard_target =~ Go.Eng.Ask _ _; first | refine K1 ?_) | (guard_target =~ All' _ _; first | (refine Y2 fun y he he' hy => ?_; (try dsimp only at he he' hy)) | (refine Y1 fun y he hy => ?_; (try with_reducible conv at he => (rhs; whnf)); (try dsimp only at he hy)) | (refine All'.mk ?_; intro y hy)) | refine F4 (fun h => ?_) fun h => ?_ | refine R1 ?_ | refine Q1 ?_ | fail)); all_goals (conv => whnf))
          refine CallP.mk (C := cloneC) (some f) ?_
          ((repeat' ((conv => whnf) <;> first | exact True.intro | (guard_target =~ Fork _ _ _; first | refine F1 ?_ | refine F2 ?_ | refine F3 (fun h => ?_) fun h => ?_) | (guard_target =~ Ar _ _ _; first | refine A1 ?_ | refine A2 ?_) | (guard_target =~ AskL _ _; first | refine L1 ?_) | (guard_target =~ Go.Eng.Ask _ _; first | refine K1 ?_) | (guard_target =~ All' _ _; first | (refine Y2 fun y he he' hy => ?_; (try dsimp only at he he' hy)) | (refine Y1 fun y he hy => ?_; (try with_reducible conv at he => (rhs; whnf)); (try dsimp only at he hy)) | (refine All'.mk ?_; intro y hy)) | refine F4 (fun h => ?_) fun h => ?_ | refine R1 ?_ | refine Q1 ?_ | fail)); all_goals (conv => whnf))
          refine CallP.mk (C := cloneC) (some g) ?_
          ((repeat' ((conv => whnf) <;> first | exact True.intro | (guard_target =~ Fork _ _ _; first | refine F1 ?_ | refine F2 ?_ | refine F3 (fun h => ?_) fun h => ?_) | (guard_target =~ Ar _ _ _; first | refine A1 ?_ | refine A2 ?_) | (guard_target =~ AskL _ _; first | refine L1 ?_) | (guard_target =~ Go.Eng.Ask _ _; first | refine K1 ?_) | (guard_target =~ All' _ _; first | (refine Y2 fun y he he' hy => ?_; (try dsimp only at he he' hy)) | (refine Y1 fun y he hy => ?_; (try with_reducible conv at he => (rhs; whnf)); (try dsimp only at he hy)) | (refine All'.mk ?_; intro y hy)) | refine F4 (fun h => ?_) fun h => ?_ | refine R1 ?_ | refine Q1 ?_ | fail)); all_goals (conv => whnf))
          refine CallP.mk (C := ladC) (some f, some g) ?_
          ((repeat' ((conv => whnf) <;> first | exact True.intro | (guard_target =~ Fork _ _ _; first | refine F1 ?_ | refine F2 ?_ | refine F3 (fun h => ?_) fun h => ?_) | (guard_target =~ Ar _ _ _; first | refine A1 ?_ | refine A2 ?_) | (guard_target =~ AskL _ _; first | refine L1 ?_) | (guard_target =~ Go.Eng.Ask _ _; first | refine K1 ?_) | (guard_target =~ All' _ _; first | (refine Y2 fun y he he' hy => ?_; (try dsimp only at he he' hy)) | (refine Y1 fun y he hy => ?_; (try with_reducible conv at he => (rhs; whnf)); (try dsimp only at he hy)) | (refine All'.mk ?_; intro y hy)) | refine F4 (fun h => ?_) fun h => ?_ | refine R1 ?_ | refine Q1 ?_ | fail)); all_goals (conv => whnf))
          refine CallP.mk (C := ladC) (some g, some f) ?_
          ((repeat' ((conv => whnf) <;> first | exact True.intro | (guard_target =~ Fork _ _ _; first | refine F1 ?_ | refine F2 ?_ | refine F3 (fun h => ?_) fun h => ?_) | (guard_target =~ Ar _ _ _; first | refine A1 ?_ | refine A2 ?_) | (guard_target =~ AskL _ _; first | refine L1 ?_) | (guard_target =~ Go.Eng.Ask _ _; first | refine K1 ?_) | (guard_target =~ All' _ _; first | (refine Y2 fun y he he' hy => ?_; (try dsimp only at he he' hy)) | (refine Y1 fun y he hy => ?_; (try with_reducible conv at he => (rhs; whnf)); (try dsimp only at he hy)) | (refine All'.mk ?_; intro y hy)) | refine F4 (fun h => ?_) fun h => ?_ | refine R1 ?_ | refine Q1 ?_ | fail)); all_goals (conv => whnf))
          generalize addFold (some f) g (ksO (some f)) = Q at *
          generalize addFold (some g) f (ksO (some g)) = P at *
          have k1 : (((foldK (some Q) (ksO (some Q))).1 : Int) == ((foldK (some P) (ksO (some P))).1 : Int) && ((foldK (some Q) (ksO (some Q))).2 : Int) == ((foldK (some P) (ksO (some P))).2 : Int)) = true := by rw [z3, z4]; simp
          have k2 : (foldK (some P) (ksO (some P))).1 ≤ 1000000000 := by rw [z3]; exact z1
          have k3 : (foldK (some P) (ksO (some P))).2 ≤ 1000000000 := by rw [z3]; exact z2
          generalize hPP : addFold (some P) P (ksO (some P)) = R at *
          have k4 : (((foldK (some R) (ksO (some R))).1 : Int) == 2 * ((foldK (some P) (ksO (some P))).1 : Int) && ((foldK (some R) (ksO (some R))).2 : Int) == 2 * ((foldK (some P) (ksO (some P))).2 : Int)) = true := by rw [z3, z5]; simp
          have k5 : ((satN (rowAt (some Q) 10).2 (rowAt (some Q) 11).2 : Nat) : Int) = ((satN (rowAt (some f) 10).2 (rowAt (some f) 11).2 : Nat) : Int) + ((satN (rowAt (some g) 10).2 (rowAt (some g) 11).2 : Nat) : Int) := by rw [z6]; simp
          clear z3 z4 z5 z6
          refine CallP.mk (C := totC) (some P) ?_
          ((repeat' ((conv => whnf) <;> first | exact True.intro | (guard_target =~ Fork _ _ _; first | refine F1 ?_ | refine F2 ?_ | refine F3 (fun h => ?_) fun h => ?_) | (guard_target =~ Ar _ _ _; first | refine A1 ?_ | refine A2 ?_) | (guard_target =~ AskL _ _; first | refine L1 ?_) | (guard_target =~ Go.Eng.Ask _ _; first | refine K1 ?_) | (guard_target =~ All' _ _; first | (refine Y2 fun y he he' hy => ?_; (try dsimp only at he he' hy)) | (refine Y1 fun y he hy => ?_; (try with_reducible conv at he => (rhs; whnf)); (try dsimp only at he hy)) | (refine All'.mk ?_; intro y hy)) | refine F4 (fun h => ?_) fun h => ?_ | refine R1 ?_ | refine Q1 ?_ | fail)); all_goals (conv => whnf))
          refine CallP.mk (C := cloneC) (some P) ?_
          ((repeat' ((conv => whnf) <;> first | exact True.intro | (guard_target =~ Fork _ _ _; first | refine F1 ?_ | refine F2 ?_ | refine F3 (fun h => ?_) fun h => ?_) | (guard_target =~ Ar _ _ _; first | refine A1 ?_ | refine A2 ?_) | (guard_target =~ AskL _ _; first | refine L1 ?_) | (guard_target =~ Go.Eng.Ask _ _; first | refine K1 ?_) | (guard_target =~ All' _ _; first | (refine Y2 fun y he he' hy => ?_; (try dsimp only at he he' hy)) | (refine Y1 fun y he hy => ?_; (try with_reducible conv at he => (rhs; whnf)); (try dsimp only at he hy)) | (refine All'.mk ?_; intro y hy)) | refine F4 (fun h => ?_) fun h => ?_ | refine R1 ?_ | refine Q1 ?_ | fail)); all_goals (conv => whnf))
          refine CallP.mk (C := ladC) (some P, some P) ?_
          ((repeat' ((conv => whnf) <;> first | exact True.intro | (guard_target =~ Fork _ _ _; first | refine F1 ?_ | refine F2 ?_ | refine F3 (fun h => ?_) fun h => ?_) | (guard_target =~ Ar _ _ _; first | refine A1 ?_ | refine A2 ?_) | (guard_target =~ AskL _ _; first | refine L1 ?_) | (guard_target =~ Go.Eng.Ask _ _; first | refine K1 ?_) | (guard_target =~ All' _ _; first | (refine Y2 fun y he he' hy => ?_; (try dsimp only at he he' hy)) | (refine Y1 fun y he hy => ?_; (try with_reducible conv at he => (rhs; whnf)); (try dsimp only at he hy)) | (refine All'.mk ?_; intro y hy)) | refine F4 (fun h => ?_) fun h => ?_ | refine R1 ?_ | refine Q1 ?_ | fail)); all_goals (conv => whnf))
          rw [hPP]
          refine CallP.mk (C := totC) (some Q) ?_
          ((repeat' ((conv => whnf) <;> first | exact True.intro | (guard_target =~ Fork _ _ _; first | refine F1 ?_ | refine F2 ?_ | refine F3 (fun h => ?_) fun h => ?_) | (guard_target =~ Ar _ _ _; first | refine A1 ?_ | refine A2 ?_) | (guard_target =~ AskL _ _; first | refine L1 ?_) | (guard_target =~ Go.Eng.Ask _ _; first | refine K1 ?_) | (guard_target =~ All' _ _; first | (refine Y2 fun y he he' hy => ?_; (try dsimp only at he he' hy)) | (refine Y1 fun y he hy => ?_; (try with_reducible conv at he => (rhs; whnf)); (try dsimp only at he hy)) | (refine All'.mk ?_; intro y hy)) | refine F4 (fun h => ?_) fun h => ?_ | refine R1 ?_ | refine Q1 ?_ | fail)); all_goals (conv => whnf))
          refine CallP.mk (C := totC) (some R) ?_
          ((repeat' ((conv => whnf) <;> first | exact True.intro | (guard_target =~ Fork _ _ _; first | refine F1 ?_ | refine F2 ?_ | refine F3 (fun h => ?_) fun h => ?_) | (guard_target =~ Ar _ _ _; first | refine A1 ?_ | refine A2 ?_) | (guard_target =~ AskL _ _; first | refine L1 ?_) | (guard_target =~ Go.Eng.Ask _ _; first | refine K1 ?_) | (guard_target =~ All' _ _; first | (refine Y2 fun y he he' hy => ?_; (try dsimp only at he he' hy)) | (refine Y1 fun y he hy => ?_; (try with_reducible conv at he => (rhs; whnf)); (try dsimp only at he hy)) | (refine All'.mk ?_; intro y hy)) | refine F4 (fun h => ?_) fun h => ?_ | refine R1 ?_ | refine Q1 ?_ | fail)); all_goals (conv => whnf))
          refine CallP.mk (C := payC) (some Q) ?_
          ((repeat' ((conv => whnf) <;> first | exact True.intro | (guard_target =~ Fork _ _ _; first | refine F1 ?_ | refine F2 ?_ | refine F3 (fun h => ?_) fun h => ?_) | (guard_target =~ Ar _ _ _; first | refine A1 ?_ | refine A2 ?_) | (guard_target =~ AskL _ _; first | refine L1 ?_) | (guard_target =~ Go.Eng.Ask _ _; first | refine K1 ?_) | (guard_target =~ All' _ _; first | (refine Y2 fun y he he' hy => ?_; (try dsimp only at he he' hy)) | (refine Y1 fun y he hy => ?_; (try with_reducible conv at he => (rhs; whnf)); (try dsimp only at he hy)) | (refine All'.mk ?_; intro y hy)) | refine F4 (fun h => ?_) fun h => ?_ | refine R1 ?_ | refine Q1 ?_ | fail)); all_goals (conv => whnf))
          refine CallP.mk (C := payC) (some f) ?_
          ((repeat' ((conv => whnf) <;> first | exact True.intro | (guard_target =~ Fork _ _ _; first | refine F1 ?_ | refine F2 ?_ | refine F3 (fun h => ?_) fun h => ?_) | (guard_target =~ Ar _ _ _; first | refine A1 ?_ | refine A2 ?_) | (guard_target =~ AskL _ _; first | refine L1 ?_) | (guard_target =~ Go.Eng.Ask _ _; first | refine K1 ?_) | (guard_target =~ All' _ _; first | (refine Y2 fun y he he' hy => ?_; (try dsimp only at he he' hy)) | (refine Y1 fun y he hy => ?_; (try with_reducible conv at he => (rhs; whnf)); (try dsimp only at he hy)) | (refine All'.mk ?_; intro y hy)) | refine F4 (fun h => ?_) fun h => ?_ | refine R1 ?_ | refine Q1 ?_ | fail)); all_goals (conv => whnf))
          refine CallP.mk (C := payC) (some g) ?_
          ((repeat' ((conv => whnf) <;> first | exact True.intro | (guard_target =~ Fork _ _ _; first | refine F1 ?_ | refine F2 ?_ | refine F3 (fun h => ?_) fun h => ?_) | (guard_target =~ Ar _ _ _; first | refine A1 ?_ | refine A2 ?_) | (guard_target =~ AskL _ _; first | refine L1 ?_) | (guard_target =~ Go.Eng.Ask _ _; first | refine K1 ?_) | (guard_target =~ All' _ _; first | (refine Y2 fun y he he' hy => ?_; (try dsimp only at he he' hy)) | (refine Y1 fun y he hy => ?_; (try with_reducible conv at he => (rhs; whnf)); (try dsimp only at he hy)) | (refine All'.mk ?_; intro y hy)) | refine F4 (fun h => ?_) fun h => ?_ | refine R1 ?_ | refine Q1 ?_ | fail)); all_goals (conv => whnf))
    · ((repeat' ((conv => whnf) <;> first | exact True.intro | (guard_target =~ Fork _ _ _; first | refine F1 ?_ | refine F2 ?_ | refine F3 (fun h => ?_) fun h => ?_) | (guard_target =~ Ar _ _ _; first | refine A1 ?_ | refine A2 ?_) | (guard_target =~ AskL _ _; first | refine L1 ?_) | (guard_target =~ Go.Eng.Ask _ _; first | refine K1 ?_) | (guard_target =~ All' _ _; first | (refine Y2 fun y he he' hy => ?_; (try dsimp only at he he' hy)) | (refine Y1 fun y he hy => ?_; (try with_reducible conv at he => (rhs; whnf)); (try dsimp only at he hy)) | (refine All'.mk ?_; intro y hy)) | refine F4 (fun h => ?_) fun h => ?_ | refine R1 ?_ | refine Q1 ?_ | fail)); all_goals (conv => whnf))
  · ((repeat' ((conv => whnf) <;> first | exact True.intro | (guard_target =~ Fork _ _ _; first | refine F1 ?_ | refine F2 ?_ | refine F3 (fun h => ?_) fun h => ?_) | (guard_target =~ Ar _ _ _; first | refine A1 ?_ | refine A2 ?_) | (guard_target =~ AskL _ _; first | refine L1 ?_) | (guard_target =~ Go.Eng.Ask _ _; first | refine K1 ?_) | (guard_target =~ All' _ _; first | (refine Y2 fun y he he' hy => ?_; (try dsimp only at he he' hy)) | (refine Y1 fun y he hy => ?_; (try with_reducible conv at he => (rhs; whnf)); (try dsimp only at he hy)) | (refine All'.mk ?_; intro y hy)) | refine F4 (fun h => ?_) fun h => ?_ | refine R1 ?_ | refine Q1 ?_ | fail)); all_goals (conv => whnf))
