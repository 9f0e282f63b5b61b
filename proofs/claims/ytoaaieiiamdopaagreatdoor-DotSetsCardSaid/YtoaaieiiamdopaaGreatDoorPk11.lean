/- Parts of the proof, one behind the other (MisD, MisE, MisF). -/
import Derived.Test.YtoaaieiiamdopaaGreatDoorPk10
set_option linter.unusedVariables false
set_option linter.unusedSimpArgs false
set_option maxRecDepth 100000
set_option maxHeartbeats 4000000
namespace Go.Proofs.YtoaaieiiamdopaaGreatDoor
open Go.Eng
@[reducible] def cloneFRu : Ctr := { cloneCRu with res := fun x _ => .ro false runT x, out := fun _ _ => [] }
theorem cloneFRu_ok : cloneFRu.ok Tryz.prog 71 := ctr_freeze (C := cloneCRu) (fun _ => rfl) (fun _ => rfl) clone_okRu
structure MisX where
  a : List Run
  b : List Run
@[reducible] def missingC : Ctr := {
  X := MisX
  Y := Unit
  args := fun x => [.ro true runT x.a, .ro true runT x.b]
  rw := fun _ => []
  side := fun x => x.a.length ≤ 274877906944 ∧ x.b.length ≤ 274877906944
  val := fun _ => ()
  ens := fun _ _ => True
  res := fun _ _ => .func (.func 89) [] [.ptr 1000 0, .ptr 1001 0]
  out := fun x _ => [(1000, .cells 23 [.ro false runT x.a]), (1001, .cells 23 [.ro false runT x.b])] }
theorem knownMs1 : Known Tryz.prog (gOf [(71, cloneFRu)]) := known_cons ⟨cloneFRu_ok, Tryz.call71⟩ (known_nil _)
theorem missing_ok : missingC.ok Tryz.prog 67 := by
  refine ok_of_vc (An := fun _ => anOf []) knownMs1 mo Tryz.func67 (by kernel_rfl) (by kernel_rfl) (fun _ _ => trivial) (fun (x : MisX) hs => ?_)
  obtain ⟨a, b⟩ := x
  obtain ⟨h1, h2⟩ : a.length ≤ 274877906944 ∧ b.length ≤ 274877906944 := hs
  ((repeat' ((conv => whnf) <;> first | exact True.intro | (guard_target =~ Fork _ _ _; first | refine F1 ?_ | refine F2 ?_ | refine F3 (fun h => ?_) fun h => ?_) | (guard_target =~ Ar _ _ _; first | refine A1 ?_ | refine A2 ?_ | refine A3 ?_) | (guard_target =~ AskL _ _; first | refine L1 ?_) | (guard_target =~ Go.Eng.Ask _ _; first | refine K1 ?_) | (guard_target =~ All' _ _; first | (refine Y2 fun y he he' hy => ?_; (try dsimp only at he he' hy)) | (refine Y1 fun y he hy => ?_; (try with_reducible conv at he => (rhs; whnf)); (try dsimp only at he hy)) | (refine All'.mk ?_; intro y hy)) | refine F4 (fun h => ?_) fun h => ?_ | refine R1 ?_ | refine Q1 ?_ | fail)); all_goals (conv => whnf))
  refine CallP.mk (C := cloneFRu) a ?_
  ((repeat' ((conv => whnf) <;> first | exact True.intro | (guard_target =~ Fork _ _ _; first | refine F1 ?_ | refine F2 ?_ | refine F3 (fun h => ?_) fun h => ?_) | (guard_target =~ Ar _ _ _; first | refine A1 ?_ | refine A2 ?_ | refine A3 ?_) | (guard_target =~ AskL _ _; first | refine L1 ?_) | (guard_target =~ Go.Eng.Ask _ _; first | refine K1 ?_) | (guard_target =~ All' _ _; first | (refine Y2 fun y he he' hy => ?_; (try dsimp only at he he' hy)) | (refine Y1 fun y he hy => ?_; (try with_reducible conv at he => (rhs; whnf)); (try dsimp only at he hy)) | (refine All'.mk ?_; intro y hy)) | refine F4 (fun h => ?_) fun h => ?_ | refine R1 ?_ | refine Q1 ?_ | fail)); all_goals (conv => whnf))
  refine CallP.mk (C := cloneFRu) b ?_
  exact G1

structure MitX where
  Y : Yld
  l : Nat
  a : List Run
  b : List Run
@[reducible] def mitC : Ctr := {
  X := MitX
  Y := Unit
  args := fun x => [.v (.func (.yield x.l) ⟨[]⟩ ⟨[]⟩), .rop true [.ro false runT x.a] 0, .rop true [.ro false runT x.b] 0]
  rw := fun x => [(0, .res x.Y.F (x.Y.S 0))]
  side := fun x => (x.a.length ≤ 274877906944 ∧ x.b.length ≤ 274877906944) ∧ YOk Tryz.prog x.l x.Y ∧ ∀ (c : Nat) d, (missF x.a x.b)[c]? = some d → x.Y.args c = [.agg (dotS d)] ∧ ((∀ j, j < c → x.Y.goes j = true) → x.Y.live c = true)
  val := fun _ => ()
  ens := fun _ _ => True
  res := fun _ _ => .tuple []
  out := fun x _ => [(0, .res x.Y.F (x.Y.S (made x.Y.goes (missF x.a x.b).length 0)))] }
structure MS1 where
  i : Nat
  c : Nat
structure MS2 where
  i : Nat
  r : Run
  n : Int
  c : Nat
structure MS3 where
  i : Nat
  r : Run
  n : Int
  c : Nat
  j : Nat
@[reducible] def mitL0 (x : MitX) : LA := {
  X := MS1
  pre := fun s => s.i ≤ x.b.length ∧ s.c ≤ (missF x.a x.b).length ∧ (missF x.a x.b).drop s.c = msL x.a (x.b.drop s.i) ∧ ∀ j, j < s.c → x.Y.goes j = true
  mu := fun s => x.b.length - s.i
  T := fun s => [(0, .v (.func (.yield x.l) ⟨[]⟩ ⟨[]⟩)), (1, .rop true [.ro false runT x.a] 0), (17, .ro false runT x.b), (18, .v (.int .i64 x.b.length)), (19, .v (.int .i64 (s.i : Nat)))]
  M := fun s => [(0, .res x.Y.F (x.Y.S s.c))] }
@[reducible] def mitL2 (x : MitX) (m1 : Nat) : LA := {
  X := MS2
  pre := fun s => (x.b[s.i]? = some s.r ∧ x.b.length - s.i = m1) ∧ (s.r.2.1 ≤ s.n ∧ s.n ≤ 1099511627777) ∧ s.c ≤ (missF x.a x.b).length ∧ (missF x.a x.b).drop s.c = msR x.a s.r.1 s.n s.r.2.2 ++ msL x.a (x.b.drop (s.i + 1)) ∧ ∀ j, j < s.c → x.Y.goes j = true
  mu := fun s => (s.r.2.2 + 1 - s.n).toNat
  T := fun s => [(0, .v (.func (.yield x.l) ⟨[]⟩ ⟨[]⟩)), (1, .rop true [.ro false runT x.a] 0), (17, .ro false runT x.b), (18, .v (.int .i64 x.b.length)), (19, .v (.int .i64 (s.i : Nat))), (5, .ptr 3 0), (6, .v (.int .i64 s.n))]
  M := fun s => [(0, .res x.Y.F (x.Y.S s.c)), (3, .cells 57 (runS s.r))] }
@[reducible] def mitL4 (x : MitX) (m1 m2 : Nat) : LA := {
  X := MS3
  pre := fun s => (x.b[s.i]? = some s.r ∧ x.b.length - s.i = m1) ∧ (s.r.2.1 ≤ s.n ∧ s.n ≤ s.r.2.2 ∧ (s.r.2.2 + 1 - s.n).toNat = m2) ∧ (s.j ≤ x.a.length ∧ ∀ k h, k < s.j → x.a[k]? = some h → ¬ inR h (s.r.1, s.n)) ∧ s.c ≤ (missF x.a x.b).length ∧
    (missF x.a x.b).drop s.c = msR x.a s.r.1 s.n s.r.2.2 ++ msL x.a (x.b.drop (s.i + 1)) ∧ ∀ j, j < s.c → x.Y.goes j = true
  mu := fun s => x.a.length - s.j
  T := fun s => [(0, .v (.func (.yield x.l) ⟨[]⟩ ⟨[]⟩)), (1, .rop true [.ro false runT x.a] 0), (17, .ro false runT x.b), (18, .v (.int .i64 x.b.length)), (19, .v (.int .i64 (s.i : Nat))), (5, .ptr 3 0), (6, .v (.int .i64 s.n)), (29, .ro false runT x.a), (30, .v (.int .i64 x.a.length)), (31, .v (.int .i64 (s.j : Nat)))]
  M := fun s => [(0, .res x.Y.F (x.Y.S s.c)), (3, .cells 57 (runS s.r))] }
theorem knownMs2 : Known Tryz.prog (gOf [(24, drightC)]) := known_cons ⟨dright_ok, Tryz.call24⟩ (known_nil _)
theorem mit_ok : mitC.ok Tryz.prog 89 := by
  refine ok_of_vc (An := fun (x : MitX) => anOfM fun ms => [(0, .loop (mitL0 x)), (2, .loop (mitL2 x (ms.headD 0))), (4, .loop (mitL4 x (ms.getD 1 0) (ms.headD 0)))]) knownMs2 mo Tryz.func89 (by kernel_rfl) (by kernel_rfl) (fun _ _ => trivial) (fun x hs => ?_)
  obtain ⟨Y, l, a, b⟩ := x
  obtain ⟨⟨la, lb⟩, hok, hst⟩ := hs
  dsimp only at la lb hok hst
  have hW : missF a b = if rightB a && rightB b then msL a b else [] := rfl
  cases h1 : rightB a with
  | false =>
    have hm : made Y.goes (missF a b).length 0 = 0 := by rw [hW, h1]; rfl
    have lm := h1
    ((repeat' ((conv => whnf) <;> first | exact True.intro | (guard_target =~ Fork _ _ _; first | refine F1 ?_ | refine F2 ?_ | refine F3 (fun h => ?_) fun h => ?_) | (guard_target =~ Ar _ _ _; first | refine A1 ?_ | refine A2 ?_ | refine A3 ?_) | (guard_target =~ AskL _ _; first | refine L1 ?_) | (guard_target =~ Go.Eng.Ask _ _; first | refine K1 ?_) | (guard_target =~ All' _ _; first | (refine Y2 fun y he he' hy => ?_; (try dsimp only at he he' hy)) | (refine Y1 fun y he hy => ?_; (try with_reducible conv at he => (rhs; whnf)); (try dsimp only at he hy)) | (refine All'.mk ?_; intro y hy)) | refine F4 (fun h => ?_) fun h => ?_ | refine R1 ?_ | refine Q1 ?_ | fail)); all_goals (conv => whnf))
    refine CallP.mk (C := drightC) a ?_
    ((repeat' ((conv => whnf) <;> first | exact True.intro | (guard_target =~ Fork _ _ _; first | refine F1 ?_ | refine F2 ?_ | refine F3 (fun h => ?_) fun h => ?_) | (guard_target =~ Ar _ _ _; first | refine A1 ?_ | refine A2 ?_ | refine A3 ?_) | (guard_target =~ AskL _ _; first | refine L1 ?_) | (guard_target =~ Go.Eng.Ask _ _; first | refine K1 ?_) | (guard_target =~ All' _ _; first | (refine Y2 fun y he he' hy => ?_; (try dsimp only at he he' hy)) | (refine Y1 fun y he hy => ?_; (try with_reducible conv at he => (rhs; whnf)); (try dsimp only at he hy)) | (refine All'.mk ?_; intro y hy)) | refine F4 (fun h => ?_) fun h => ?_ | refine R1 ?_ | refine Q1 ?_ | fail)); all_goals (conv => whnf))
    all_goals (refine AskL.mk ?_ trivial; simp only [conj, hm, and_self])
  | true =>
    cases h2 : rightB b with
    | false =>
      have hm : made Y.goes (missF a b).length 0 = 0 := by rw [hW, h1, h2]; rfl
      have lm := And.intro h1 h2
      ((repeat' ((conv => whnf) <;> first | exact True.intro | (guard_target =~ Fork _ _ _; first | refine F1 ?_ | refine F2 ?_ | refine F3 (fun h => ?_) fun h => ?_) | (guard_target =~ Ar _ _ _; first | refine A1 ?_ | refine A2 ?_ | refine A3 ?_) | (guard_target =~ AskL _ _; first | refine L1 ?_) | (guard_target =~ Go.Eng.Ask _ _; first | refine K1 ?_) | (guard_target =~ All' _ _; first | (refine Y2 fun y he he' hy => ?_; (try dsimp only at he he' hy)) | (refine Y1 fun y he hy => ?_; (try with_reducible conv at he => (rhs; whnf)); (try dsimp only at he hy)) | (refine All'.mk ?_; intro y hy)) | refine F4 (fun h => ?_) fun h => ?_ | refine R1 ?_ | refine Q1 ?_ | fail)); all_goals (conv => whnf))
      refine CallP.mk (C := drightC) a ?_
      ((repeat' ((conv => whnf) <;> first | exact True.intro | (guard_target =~ Fork _ _ _; first | refine F1 ?_ | refine F2 ?_ | refine F3 (fun h => ?_) fun h => ?_) | (guard_target =~ Ar _ _ _; first | refine A1 ?_ | refine A2 ?_ | refine A3 ?_) | (guard_target =~ AskL _ _; first | refine L1 ?_) | (guard_target =~ Go.Eng.Ask _ _; first | refine K1 ?_) | (guard_target =~ All' _ _; first | (refine Y2 fun y he he' hy => ?_; (try dsimp only at he he' hy)) | (refine Y1 fun y he hy => ?_; (try with_reducible conv at he => (rhs; whnf)); (try dsimp only at he hy)) | (refine All'.mk ?_; intro y hy)) | refine F4 (fun h => ?_) fun h => ?_ | refine R1 ?_ | refine Q1 ?_ | fail)); all_goals (conv => whnf))
      refine CallP.mk (C := drightC) b ?_
      ((repeat' ((conv => whnf) <;> first | exact True.intro | (guard_target =~ Fork _ _ _; first | refine F1 ?_ | refine F2 ?_ | refine F3 (fun h => ?_) fun h => ?_) | (guard_target =~ Ar _ _ _; first | refine A1 ?_ | refine A2 ?_ | refine A3 ?_) | (guard_target =~ AskL _ _; first | refine L1 ?_) | (guard_target =~ Go.Eng.Ask _ _; first | refine K1 ?_) | (guard_target =~ All' _ _; first | (refine Y2 fun y he he' hy => ?_; (try dsimp only at he he' hy)) | (refine Y1 fun y he hy => ?_; (try with_reducible conv at he => (rhs; whnf)); (try dsimp only at he hy)) | (refine All'.mk ?_; intro y hy)) | refine F4 (fun h => ?_) fun h => ?_ | refine R1 ?_ | refine Q1 ?_ | fail)); all_goals (conv => whnf))
      all_goals (refine AskL.mk ?_ trivial; simp only [conj, hm, and_self])
    | true =>
      have ra := right_iff.1 h1
      have rb := right_iff.1 h2
      have hW : missF a b = msL a b := by rw [hW, h1, h2]; rfl
      have lm := And.intro h1 h2
      ((repeat' ((conv => whnf) <;> first | exact True.intro | (guard_target =~ Fork _ _ _; first | refine F1 ?_ | refine F2 ?_ | refine F3 (fun h => ?_) fun h => ?_) | (guard_target =~ Ar _ _ _; first | refine A1 ?_ | refine A2 ?_ | refine A3 ?_) | (guard_target =~ AskL _ _; first | refine L1 ?_) | (guard_target =~ Go.Eng.Ask _ _; first | refine K1 ?_) | (guard_target =~ All' _ _; first | (refine Y2 fun y he he' hy => ?_; (try dsimp only at he he' hy)) | (refine Y1 fun y he hy => ?_; (try with_reducible conv at he => (rhs; whnf)); (try dsimp only at he hy)) | (refine All'.mk ?_; intro y hy)) | refine F4 (fun h => ?_) fun h => ?_ | refine R1 ?_ | refine Q1 ?_ | fail)); all_goals (conv => whnf))
      refine CallP.mk (C := drightC) a ?_
      ((repeat' ((conv => whnf) <;> first | exact True.intro | (guard_target =~ Fork _ _ _; first | refine F1 ?_ | refine F2 ?_ | refine F3 (fun h => ?_) fun h => ?_) | (guard_target =~ Ar _ _ _; first | refine A1 ?_ | refine A2 ?_ | refine A3 ?_) | (guard_target =~ AskL _ _; first | refine L1 ?_) | (guard_target =~ Go.Eng.Ask _ _; first | refine K1 ?_) | (guard_target =~ All' _ _; first | (refine Y2 fun y he he' hy => ?_; (try dsimp only at he he' hy)) | (refine Y1 fun y he hy => ?_; (try with_reducible conv at he => (rhs; whnf)); (try dsimp only at he hy)) | (refine All'.mk ?_; intro y hy)) | refine F4 (fun h => ?_) fun h => ?_ | refine R1 ?_ | refine Q1 ?_ | fail)); all_goals (conv => whnf))
      refine CallP.mk (C := drightC) b ?_
      ((repeat' ((conv => whnf) <;> first | exact True.intro | (guard_target =~ Fork _ _ _; first | refine F1 ?_ | refine F2 ?_ | refine F3 (fun h => ?_) fun h => ?_) | (guard_target =~ Ar _ _ _; first | refine A1 ?_ | refine A2 ?_ | refine A3 ?_) | (guard_target =~ AskL _ _; first | refine L1 ?_) | (guard_target =~ Go.Eng.Ask _ _; first | refine K1 ?_) | (guard_target =~ All' _ _; first | (refine Y2 fun y he he' hy => ?_; (try dsimp only at he he' hy)) | (refine Y1 fun y he hy => ?_; (try with_reducible conv at he => (rhs; whnf)); (try dsimp only at he hy)) | (refine All'.mk ?_; intro y hy)) | refine F4 (fun h => ?_) fun h => ?_ | refine R1 ?_ | refine Q1 ?_ | fail)); all_goals (conv => whnf))
      refine Some'.mk ⟨0, 0⟩ ?_
      ((repeat' ((conv => whnf) <;> first | exact True.intro | (guard_target =~ Fork _ _ _; first | refine F1 ?_ | refine F2 ?_ | refine F3 (fun h => ?_) fun h => ?_) | (guard_target =~ Ar _ _ _; first | refine A1 ?_ | refine A2 ?_ | refine A3 ?_) | (guard_target =~ AskL _ _; first | refine L1 ?_) | (guard_target =~ Go.Eng.Ask _ _; first | refine K1 ?_) | (guard_target =~ All' _ _; first | (refine Y2 fun y he he' hy => ?_; (try dsimp only at he he' hy)) | (refine Y1 fun y he hy => ?_; (try with_reducible conv at he => (rhs; whnf)); (try dsimp only at he hy)) | (refine All'.mk ?_; intro y hy)) | refine F4 (fun h => ?_) fun h => ?_ | refine R1 ?_ | refine Q1 ?_ | fail)); all_goals (conv => whnf))
      refine Ask.mk ⟨Nat.zero_le _, Nat.zero_le _, hW, fun j hj => absurd hj (Nat.not_lt_zero _)⟩ ?_
      ((repeat' ((conv => whnf) <;> first | exact True.intro | (guard_target =~ Fork _ _ _; first | refine F1 ?_ | refine F2 ?_ | refine F3 (fun h => ?_) fun h => ?_) | (guard_target =~ Ar _ _ _; first | refine A1 ?_ | refine A2 ?_ | refine A3 ?_) | (guard_target =~ AskL _ _; first | refine L1 ?_) | (guard_target =~ Go.Eng.Ask _ _; first | refine K1 ?_) | (guard_target =~ All' _ _; first | (refine Y2 fun y he he' hy => ?_; (try dsimp only at he he' hy)) | (refine Y1 fun y he hy => ?_; (try with_reducible conv at he => (rhs; whnf)); (try dsimp only at he hy)) | (refine All'.mk ?_; intro y hy)) | refine F4 (fun h => ?_) fun h => ?_ | refine R1 ?_ | refine Q1 ?_ | fail)); all_goals (conv => whnf))
      refine AllI.mk ?_
      rintro ⟨i, c⟩ ⟨i1, i2, i3, i4⟩
      have i1 : i ≤ b.length := i1
      dsimp only at i2 i3 i4
      by_cases hi : i = b.length
      · subst hi
        rw [List.drop_length] at i3
        have hlen : (missF a b).length ≤ c := List.drop_eq_nil_iff.1 i3
        have hm : made Y.goes (missF a b).length 0 = c := by
          rw [made_all Y.goes _ 0 (fun j _ hj => i4 j (by omega))]; omega
        ((repeat' ((conv => whnf) <;> first | exact True.intro | (guard_target =~ Fork _ _ _; first | refine F1 ?_ | refine F2 ?_ | refine F3 (fun h => ?_) fun h => ?_) | (guard_target =~ Ar _ _ _; first | refine A1 ?_ | refine A2 ?_ | refine A3 ?_) | (guard_target =~ AskL _ _; first | refine L1 ?_) | (guard_target =~ Go.Eng.Ask _ _; first | refine K1 ?_) | (guard_target =~ All' _ _; first | (refine Y2 fun y he he' hy => ?_; (try dsimp only at he he' hy)) | (refine Y1 fun y he hy => ?_; (try with_reducible conv at he => (rhs; whnf)); (try dsimp only at he hy)) | (refine All'.mk ?_; intro y hy)) | refine F4 (fun h => ?_) fun h => ?_ | refine R1 ?_ | refine Q1 ?_ | fail)); all_goals (conv => whnf))
        all_goals (refine AskL.mk ?_ trivial; simp only [conj, hm, and_self])
      · obtain ⟨r, hr⟩ := get_ex (show i < b.length by omega)
        have hd : b.drop i = r :: b.drop (i + 1) := by
          obtain ⟨h5, h6⟩ := List.getElem?_eq_some_iff.1 hr
          rw [List.drop_eq_getElem_cons h5, h6]
        rw [hd] at i3
        have hrp := rb.all r (List.mem_of_getElem? hr)
        ((repeat' ((conv => whnf) <;> first | exact True.intro | (guard_target =~ Fork _ _ _; first | refine F1 ?_ | refine F2 ?_ | refine F3 (fun h => ?_) fun h => ?_) | (guard_target =~ Ar _ _ _; first | refine A1 ?_ | refine A2 ?_ | refine A3 ?_) | (guard_target =~ AskL _ _; first | refine L1 ?_) | (guard_target =~ Go.Eng.Ask _ _; first | refine K1 ?_) | (guard_target =~ All' _ _; first | (refine Y2 fun y he he' hy => ?_; (try dsimp only at he he' hy)) | (refine Y1 fun y he hy => ?_; (try with_reducible conv at he => (rhs; whnf)); (try dsimp only at he hy))) | refine F4 (fun h => ?_) fun h => ?_ | refine R1 ?_ | refine Q1 ?_ | fail)); all_goals (conv => whnf))
        refine All'.mk ?_; rintro (r' : Run) hr'
        obtain rfl : r = r' := Option.some.inj (hr.symm.trans hr')
        clear hr'
        obtain ⟨nd, f, t⟩ := r
        unfold runP at hrp; dsimp only at hrp
        clear hd
        refine Some'.mk ⟨i, (nd, f, t), f, c⟩ ?_
        ((repeat' ((conv => whnf) <;> first | exact True.intro | (guard_target =~ Fork _ _ _; first | refine F1 ?_ | refine F2 ?_ | refine F3 (fun h => ?_) fun h => ?_) | (guard_target =~ Ar _ _ _; first | refine A1 ?_ | refine A2 ?_ | refine A3 ?_) | (guard_target =~ AskL _ _; first | refine L1 ?_) | (guard_target =~ Go.Eng.Ask _ _; first | refine K1 ?_) | (guard_target =~ All' _ _; first | (refine Y2 fun y he he' hy => ?_; (try dsimp only at he he' hy)) | (refine Y1 fun y he hy => ?_; (try with_reducible conv at he => (rhs; whnf)); (try dsimp only at he hy)) | (refine All'.mk ?_; intro y hy)) | refine F4 (fun h => ?_) fun h => ?_ | refine R1 ?_ | refine Q1 ?_ | fail)); all_goals (conv => whnf))
        refine Ask.mk ⟨⟨hr, rfl⟩, ⟨Int.le_refl _, by show f ≤ _; omega⟩, i2, i3, i4⟩ ?_
        clear i2 i3 i4
        ((repeat' ((conv => whnf) <;> first | exact True.intro | (guard_target =~ Fork _ _ _; first | refine F1 ?_ | refine F2 ?_ | refine F3 (fun h => ?_) fun h => ?_) | (guard_target =~ Ar _ _ _; first | refine A1 ?_ | refine A2 ?_ | refine A3 ?_) | (guard_target =~ AskL _ _; first | refine L1 ?_) | (guard_target =~ Go.Eng.Ask _ _; first | refine K1 ?_) | (guard_target =~ All' _ _; first | (refine Y2 fun y he he' hy => ?_; (try dsimp only at he he' hy)) | (refine Y1 fun y he hy => ?_; (try with_reducible conv at he => (rhs; whnf)); (try dsimp only at he hy)) | (refine All'.mk ?_; intro y hy)) | refine F4 (fun h => ?_) fun h => ?_ | refine R1 ?_ | refine Q1 ?_ | fail)); all_goals (conv => whnf))
        refine AllI.mk ?_
        rintro ⟨i', ⟨nd', f', t'⟩, n, c⟩ ⟨⟨j0, j6⟩, ⟨j1, j2⟩, j3, j4, j5⟩
        dsimp only at j0 j1 j2 j3 j4 j5
        have j6 : b.length - i' = b.length - i := j6
        have hil := (List.getElem?_eq_some_iff.1 j0).1
        obtain rfl : i' = i := by omega
        obtain ⟨rfl, rfl, rfl⟩ : nd = nd' ∧ f = f' ∧ t = t' := by
          have := Option.some.inj (hr.symm.trans j0)
          exact ⟨congrArg (·.1) this, congrArg (·.2.1) this, congrArg (·.2.2) this⟩
        clear i1 j6
        by_cases hn : n ≤ t
        · ((repeat' ((conv => whnf) <;> first | exact True.intro | (guard_target =~ Fork _ _ _; first | refine F1 ?_ | refine F2 ?_ | refine F3 (fun h => ?_) fun h => ?_) | (guard_target =~ Ar _ _ _; first | refine A1 ?_ | refine A2 ?_ | refine A3 ?_) | (guard_target =~ AskL _ _; first | refine L1 ?_) | (guard_target =~ Go.Eng.Ask _ _; first | refine K1 ?_) | (guard_target =~ All' _ _; first | (refine Y2 fun y he he' hy => ?_; (try dsimp only at he he' hy)) | (refine Y1 fun y he hy => ?_; (try with_reducible conv at he => (rhs; whnf)); (try dsimp only at he hy)) | (refine All'.mk ?_; intro y hy)) | refine F4 (fun h => ?_) fun h => ?_ | refine R1 ?_ | refine Q1 ?_ | fail)); all_goals (conv => whnf))
          refine Some'.mk ⟨i', (nd, f, t), n, c, 0⟩ ?_
          ((repeat' ((conv => whnf) <;> first | exact True.intro | (guard_target =~ Fork _ _ _; first | refine F1 ?_ | refine F2 ?_ | refine F3 (fun h => ?_) fun h => ?_) | (guard_target =~ Ar _ _ _; first | refine A1 ?_ | refine A2 ?_ | refine A3 ?_) | (guard_target =~ AskL _ _; first | refine L1 ?_) | (guard_target =~ Go.Eng.Ask _ _; first | refine K1 ?_) | (guard_target =~ All' _ _; first | (refine Y2 fun y he he' hy => ?_; (try dsimp only at he he' hy)) | (refine Y1 fun y he hy => ?_; (try with_reducible conv at he => (rhs; whnf)); (try dsimp only at he hy)) | (refine All'.mk ?_; intro y hy)) | refine F4 (fun h => ?_) fun h => ?_ | refine R1 ?_ | refine Q1 ?_ | fail)); all_goals (conv => whnf))
          refine Ask.mk ⟨⟨j0, rfl⟩, ⟨j1, hn, rfl⟩, ⟨Nat.zero_le _, fun k h hk => absurd hk (Nat.not_lt_zero _)⟩, j3, j4, j5⟩ ?_
          clear j1 j3 j4 j5
          ((repeat' ((conv => whnf) <;> first | exact True.intro | (guard_target =~ Fork _ _ _; first | refine F1 ?_ | refine F2 ?_ | refine F3 (fun h => ?_) fun h => ?_) | (guard_target =~ Ar _ _ _; first | refine A1 ?_ | refine A2 ?_ | refine A3 ?_) | (guard_target =~ AskL _ _; first | refine L1 ?_) | (guard_target =~ Go.Eng.Ask _ _; first | refine K1 ?_) | (guard_target =~ All' _ _; first | (refine Y2 fun y he he' hy => ?_; (try dsimp only at he he' hy)) | (refine Y1 fun y he hy => ?_; (try with_reducible conv at he => (rhs; whnf)); (try dsimp only at he hy)) | (refine All'.mk ?_; intro y hy)) | refine F4 (fun h => ?_) fun h => ?_ | refine R1 ?_ | refine Q1 ?_ | fail)); all_goals (conv => whnf))
          refine AllI.mk ?_
          rintro ⟨i, ⟨nd', f', t'⟩, n', c, j⟩ ⟨⟨k0, k6⟩, ⟨k1, k2, k7⟩, ⟨k8, k9⟩, k3, k4, k5⟩
          dsimp only at k0 k1 k2 k3 k4 k5 k8 k9
          have k6 : b.length - i = b.length - i' := k6
          have hil2 := (List.getElem?_eq_some_iff.1 k0).1
          obtain rfl : i = i' := by omega
          obtain ⟨rfl, rfl, rfl⟩ : nd = nd' ∧ f = f' ∧ t = t' := by
            have := Option.some.inj (hr.symm.trans k0)
            exact ⟨congrArg (·.1) this, congrArg (·.2.1) this, congrArg (·.2.2) this⟩
          have k7 : (t + 1 - n').toNat = (t + 1 - n).toNat := k7
          obtain rfl : n' = n := by omega
          by_cases hj : j = a.length
          · subst hj
            have hno : inB a (nd, n') = false := by
              cases e : inB a (nd, n') with
              | false => rfl
              | true =>
                obtain ⟨h, hm, hi'⟩ := inB_iff.1 e
                obtain ⟨k, hk⟩ := List.getElem?_of_mem hm
                exact absurd hi' (k9 k h (List.getElem?_eq_some_iff.1 hk).1 hk)
            rw [msR_not hn hno] at k4
            have hck : (missF a b)[c]? = some (nd, n') := by
              have := congrArg (·[0]?) k4
              simpa using this
            have hcl : c < (missF a b).length := (List.getElem?_eq_some_iff.1 hck).1
            have k4 : (missF a b).drop (c + 1) = msR a nd (n' + 1) t ++ msL a (b.drop (i + 1)) := by
              have := congrArg (·.drop 1) k4
              simpa [List.drop_drop] using this
            obtain ⟨ha, hl⟩ := hst c _ hck
            clear k6 k7 j6 k9 i1
            ((repeat' ((conv => whnf) <;> first | exact True.intro | (guard_target =~ Fork _ _ _; first | refine F1 ?_ | refine F2 ?_ | refine F3 (fun h => ?_) fun h => ?_) | (guard_target =~ Ar _ _ _; first | refine A1 ?_ | refine A2 ?_ | refine A3 ?_) | (guard_target =~ AskL _ _; first | refine L1 ?_) | (guard_target =~ Go.Eng.Ask _ _; first | refine K1 ?_) | (guard_target =~ All' _ _; first | (refine Y2 fun y he he' hy => ?_; (try dsimp only at he he' hy)) | (refine Y1 fun y he hy => ?_; (try with_reducible conv at he => (rhs; whnf)); (try dsimp only at he hy)) | (refine All'.mk ?_; intro y hy)) | refine F4 (fun h => ?_) fun h => ?_ | refine R1 ?_ | refine Q1 ?_ | fail)); all_goals (conv => whnf))
            refine YieldP.mk Y c 0 _ ha ?_
            conv => whnf
            refine Ask.mk ⟨hok, hl k5, rfl, rfl⟩ ?_
            ((repeat' ((conv => whnf) <;> first | exact True.intro | (guard_target =~ Fork _ _ _; first | refine F1 ?_ | refine F2 ?_ | refine F3 (fun h => ?_) fun h => ?_) | (guard_target =~ Ar _ _ _; first | refine A1 ?_ | refine A2 ?_ | refine A3 ?_) | (guard_target =~ AskL _ _; first | refine L1 ?_) | (guard_target =~ Go.Eng.Ask _ _; first | refine K1 ?_) | (guard_target =~ All' _ _; first | (refine Y2 fun y he he' hy => ?_; (try dsimp only at he he' hy)) | (refine Y1 fun y he hy => ?_; (try with_reducible conv at he => (rhs; whnf)); (try dsimp only at he hy)) | (refine All'.mk ?_; intro y hy)) | refine F4 (fun h => ?_) fun h => ?_ | refine R1 ?_ | refine Q1 ?_ | fail)); all_goals (conv => whnf))
            · have hm : made Y.goes (missF a b).length 0 = c + 1 := made_at Y.goes _ 0 c (Nat.zero_le _) (by omega) (fun j _ hj => k5 j hj) h
              refine AskL.mk ?_ trivial
              simp only [conj]
              rw [hm]
              exact ⟨trivial, rfl⟩
            · refine Some'.mk ⟨i, (nd, f, t), n' + 1, c + 1⟩ ?_
              ((repeat' ((conv => whnf) <;> first | exact True.intro | (guard_target =~ Fork _ _ _; first | refine F1 ?_ | refine F2 ?_ | refine F3 (fun h => ?_) fun h => ?_) | (guard_target =~ Ar _ _ _; first | refine A1 ?_ | refine A2 ?_ | refine A3 ?_) | (guard_target =~ AskL _ _; first | refine L1 ?_) | (guard_target =~ Go.Eng.Ask _ _; first | refine K1 ?_) | (guard_target =~ All' _ _; first | (refine Y2 fun y he he' hy => ?_; (try dsimp only at he he' hy)) | (refine Y1 fun y he hy => ?_; (try with_reducible conv at he => (rhs; whnf)); (try dsimp only at he hy)) | (refine All'.mk ?_; intro y hy)) | refine F4 (fun h => ?_) fun h => ?_ | refine R1 ?_ | refine Q1 ?_ | fail)); all_goals (conv => whnf))
              refine Ask.mk ⟨⟨hr, rfl⟩, ⟨by show f ≤ n' + 1; omega, by show n' + 1 ≤ _; omega⟩, by show c + 1 ≤ (missF a b).length; omega, k4, fun j hj => ?_⟩ ?_
              · rcases Nat.lt_or_ge j c with hjc | hjc
                · exact k5 j hjc
                · obtain rfl : j = c := by dsimp only at hj; omega
                  exact h
              exact G1
          · obtain ⟨⟨p, q, u⟩, hh⟩ := get_ex (show j < a.length by omega)
            obtain ⟨p1, p2, p3, p4, p5⟩ : runP (p, q, u) := ra.all _ (List.mem_of_getElem? hh)
            dsimp only at p1 p2 p3 p4 p5
            clear k6 k7 j6 i1
            ((repeat' ((conv => whnf) <;> first | exact True.intro | (guard_target =~ Fork _ _ _; first | refine F1 ?_ | refine F2 ?_ | refine F3 (fun h => ?_) fun h => ?_) | (guard_target =~ Ar _ _ _; first | refine A1 ?_ | refine A2 ?_ | refine A3 ?_) | (guard_target =~ AskL _ _; first | refine L1 ?_) | (guard_target =~ Go.Eng.Ask _ _; first | refine K1 ?_) | (guard_target =~ All' _ _; first | (refine Y2 fun y he he' hy => ?_; (try dsimp only at he he' hy)) | (refine Y1 fun y he hy => ?_; (try with_reducible conv at he => (rhs; whnf)); (try dsimp only at he hy))) | refine F4 (fun h => ?_) fun h => ?_ | refine R1 ?_ | refine Q1 ?_ | fail)); all_goals (conv => whnf))
            refine All'.mk ?_; rintro (h' : Run) hh'
            obtain rfl : (p, q, u) = h' := Option.some.inj (hh.symm.trans hh')
            clear hh'
            by_cases hin : inR (p, q, u) (nd, n')
            · rw [msR_skip (List.mem_of_getElem? hh) hin] at k4
              unfold inR at hin; dsimp only at hin k4
              obtain ⟨rfl, q2, q3⟩ := hin
              ((repeat' ((conv => whnf) <;> first | exact True.intro | (guard_target =~ Fork _ _ _; first | refine F1 ?_ | refine F2 ?_ | refine F3 (fun h => ?_) fun h => ?_) | (guard_target =~ Ar _ _ _; first | refine A1 ?_ | refine A2 ?_ | refine A3 ?_) | (guard_target =~ AskL _ _; first | refine L1 ?_) | (guard_target =~ Go.Eng.Ask _ _; first | refine K1 ?_) | (guard_target =~ All' _ _; first | (refine Y2 fun y he he' hy => ?_; (try dsimp only at he he' hy)) | (refine Y1 fun y he hy => ?_; (try with_reducible conv at he => (rhs; whnf)); (try dsimp only at he hy)) | (refine All'.mk ?_; intro y hy)) | refine F4 (fun h => ?_) fun h => ?_ | refine R1 ?_ | refine Q1 ?_ | fail)); all_goals (conv => whnf))
              refine Some'.mk ⟨i, (p, f, t), u + 1, c⟩ ?_
              ((repeat' ((conv => whnf) <;> first | exact True.intro | (guard_target =~ Fork _ _ _; first | refine F1 ?_ | refine F2 ?_ | refine F3 (fun h => ?_) fun h => ?_) | (guard_target =~ Ar _ _ _; first | refine A1 ?_ | refine A2 ?_ | refine A3 ?_) | (guard_target =~ AskL _ _; first | refine L1 ?_) | (guard_target =~ Go.Eng.Ask _ _; first | refine K1 ?_) | (guard_target =~ All' _ _; first | (refine Y2 fun y he he' hy => ?_; (try dsimp only at he he' hy)) | (refine Y1 fun y he hy => ?_; (try with_reducible conv at he => (rhs; whnf)); (try dsimp only at he hy)) | (refine All'.mk ?_; intro y hy)) | refine F4 (fun h => ?_) fun h => ?_ | refine R1 ?_ | refine Q1 ?_ | fail)); all_goals (conv => whnf))
              refine Ask.mk ⟨⟨hr, rfl⟩, ⟨by show f ≤ u + 1; omega, by show u + 1 ≤ _; omega⟩, k3, k4, k5⟩ ?_
              exact G1
            · have hin2 : ¬ (p = nd ∧ q ≤ n' ∧ n' ≤ u) := hin
              have hstep : ∀ k h, k < j + 1 → a[k]? = some h → ¬ inR h (nd, n') := fun k h hk he => by
                rcases Nat.lt_or_ge k j with hkj | hkj
                · exact k9 k h hkj he
                · obtain rfl : k = j := by omega
                  obtain rfl : (p, q, u) = h := Option.some.inj (hh.symm.trans he)
                  exact hin
              by_cases e1 : p = nd
              · by_cases e2 : q ≤ n'
                · have e3 : ¬ n' ≤ u := fun h => hin2 ⟨e1, e2, h⟩
                  ((repeat' ((conv => whnf) <;> first | exact True.intro | (guard_target =~ Fork _ _ _; first | refine F1 ?_ | refine F2 ?_ | refine F3 (fun h => ?_) fun h => ?_) | (guard_target =~ Ar _ _ _; first | refine A1 ?_ | refine A2 ?_ | refine A3 ?_) | (guard_target =~ AskL _ _; first | refine L1 ?_) | (guard_target =~ Go.Eng.Ask _ _; first | refine K1 ?_) | (guard_target =~ All' _ _; first | (refine Y2 fun y he he' hy => ?_; (try dsimp only at he he' hy)) | (refine Y1 fun y he hy => ?_; (try with_reducible conv at he => (rhs; whnf)); (try dsimp only at he hy)) | (refine All'.mk ?_; intro y hy)) | refine F4 (fun h => ?_) fun h => ?_ | refine R1 ?_ | refine Q1 ?_ | fail)); all_goals (conv => whnf))
                  refine Some'.mk ⟨i, (nd, f, t), n', c, j + 1⟩ ?_
                  ((repeat' ((conv => whnf) <;> first | exact True.intro | (guard_target =~ Fork _ _ _; first | refine F1 ?_ | refine F2 ?_ | refine F3 (fun h => ?_) fun h => ?_) | (guard_target =~ Ar _ _ _; first | refine A1 ?_ | refine A2 ?_ | refine A3 ?_) | (guard_target =~ AskL _ _; first | refine L1 ?_) | (guard_target =~ Go.Eng.Ask _ _; first | refine K1 ?_) | (guard_target =~ All' _ _; first | (refine Y2 fun y he he' hy => ?_; (try dsimp only at he he' hy)) | (refine Y1 fun y he hy => ?_; (try with_reducible conv at he => (rhs; whnf)); (try dsimp only at he hy)) | (refine All'.mk ?_; intro y hy)) | refine F4 (fun h => ?_) fun h => ?_ | refine R1 ?_ | refine Q1 ?_ | fail)); all_goals (conv => whnf))
                  refine Ask.mk ⟨⟨hr, rfl⟩, ⟨k1, k2, rfl⟩, ⟨by show j + 1 ≤ a.length; omega, hstep⟩, k3, k4, k5⟩ ?_
                  exact G1
                · ((repeat' ((conv => whnf) <;> first | exact True.intro | (guard_target =~ Fork _ _ _; first | refine F1 ?_ | refine F2 ?_ | refine F3 (fun h => ?_) fun h => ?_) | (guard_target =~ Ar _ _ _; first | refine A1 ?_ | refine A2 ?_ | refine A3 ?_) | (guard_target =~ AskL _ _; first | refine L1 ?_) | (guard_target =~ Go.Eng.Ask _ _; first | refine K1 ?_) | (guard_target =~ All' _ _; first | (refine Y2 fun y he he' hy => ?_; (try dsimp only at he he' hy)) | (refine Y1 fun y he hy => ?_; (try with_reducible conv at he => (rhs; whnf)); (try dsimp only at he hy)) | (refine All'.mk ?_; intro y hy)) | refine F4 (fun h => ?_) fun h => ?_ | refine R1 ?_ | refine Q1 ?_ | fail)); all_goals (conv => whnf))
                  refine Some'.mk ⟨i, (nd, f, t), n', c, j + 1⟩ ?_
                  ((repeat' ((conv => whnf) <;> first | exact True.intro | (guard_target =~ Fork _ _ _; first | refine F1 ?_ | refine F2 ?_ | refine F3 (fun h => ?_) fun h => ?_) | (guard_target =~ Ar _ _ _; first | refine A1 ?_ | refine A2 ?_ | refine A3 ?_) | (guard_target =~ AskL _ _; first | refine L1 ?_) | (guard_target =~ Go.Eng.Ask _ _; first | refine K1 ?_) | (guard_target =~ All' _ _; first | (refine Y2 fun y he he' hy => ?_; (try dsimp only at he he' hy)) | (refine Y1 fun y he hy => ?_; (try with_reducible conv at he => (rhs; whnf)); (try dsimp only at he hy)) | (refine All'.mk ?_; intro y hy)) | refine F4 (fun h => ?_) fun h => ?_ | refine R1 ?_ | refine Q1 ?_ | fail)); all_goals (conv => whnf))
                  refine Ask.mk ⟨⟨hr, rfl⟩, ⟨k1, k2, rfl⟩, ⟨by show j + 1 ≤ a.length; omega, hstep⟩, k3, k4, k5⟩ ?_
                  exact G1
              · ((repeat' ((conv => whnf) <;> first | exact True.intro | (guard_target =~ Fork _ _ _; first | refine F1 ?_ | refine F2 ?_ | refine F3 (fun h => ?_) fun h => ?_) | (guard_target =~ Ar _ _ _; first | refine A1 ?_ | refine A2 ?_ | refine A3 ?_) | (guard_target =~ AskL _ _; first | refine L1 ?_) | (guard_target =~ Go.Eng.Ask _ _; first | refine K1 ?_) | (guard_target =~ All' _ _; first | (refine Y2 fun y he he' hy => ?_; (try dsimp only at he he' hy)) | (refine Y1 fun y he hy => ?_; (try with_reducible conv at he => (rhs; whnf)); (try dsimp only at he hy)) | (refine All'.mk ?_; intro y hy)) | refine F4 (fun h => ?_) fun h => ?_ | refine R1 ?_ | refine Q1 ?_ | fail)); all_goals (conv => whnf))
                refine Some'.mk ⟨i, (nd, f, t), n', c, j + 1⟩ ?_
                ((repeat' ((conv => whnf) <;> first | exact True.intro | (guard_target =~ Fork _ _ _; first | refine F1 ?_ | refine F2 ?_ | refine F3 (fun h => ?_) fun h => ?_) | (guard_target =~ Ar _ _ _; first | refine A1 ?_ | refine A2 ?_ | refine A3 ?_) | (guard_target =~ AskL _ _; first | refine L1 ?_) | (guard_target =~ Go.Eng.Ask _ _; first | refine K1 ?_) | (guard_target =~ All' _ _; first | (refine Y2 fun y he he' hy => ?_; (try dsimp only at he he' hy)) | (refine Y1 fun y he hy => ?_; (try with_reducible conv at he => (rhs; whnf)); (try dsimp only at he hy)) | (refine All'.mk ?_; intro y hy)) | refine F4 (fun h => ?_) fun h => ?_ | refine R1 ?_ | refine Q1 ?_ | fail)); all_goals (conv => whnf))
                refine Ask.mk ⟨⟨hr, rfl⟩, ⟨k1, k2, rfl⟩, ⟨by show j + 1 ≤ a.length; omega, hstep⟩, k3, k4, k5⟩ ?_
                exact G1
        · rw [msR_end (by omega), List.nil_append] at j4
          ((repeat' ((conv => whnf) <;> first | exact True.intro | (guard_target =~ Fork _ _ _; first | refine F1 ?_ | refine F2 ?_ | refine F3 (fun h => ?_) fun h => ?_) | (guard_target =~ Ar _ _ _; first | refine A1 ?_ | refine A2 ?_ | refine A3 ?_) | (guard_target =~ AskL _ _; first | refine L1 ?_) | (guard_target =~ Go.Eng.Ask _ _; first | refine K1 ?_) | (guard_target =~ All' _ _; first | (refine Y2 fun y he he' hy => ?_; (try dsimp only at he he' hy)) | (refine Y1 fun y he hy => ?_; (try with_reducible conv at he => (rhs; whnf)); (try dsimp only at he hy)) | (refine All'.mk ?_; intro y hy)) | refine F4 (fun h => ?_) fun h => ?_ | refine R1 ?_ | refine Q1 ?_ | fail)); all_goals (conv => whnf))
          refine Some'.mk ⟨i' + 1, c⟩ ?_
          exact G1
structure SomX where
  a : List Run
  b : List Run
  m : Int
def dotAt (x : SomX) (c : Nat) : Dot := (missF x.a x.b).getD c (0, 0)
@[reducible] def somC : Ctr := {
  X := SomX
  Y := Unit
  args := fun x => [.ro true runT x.a, .ro true runT x.b, .v (.int .i64 x.m)]
  rw := fun _ => []
  side := fun x => (x.a.length ≤ 274877906944 ∧ x.b.length ≤ 274877906944) ∧ 0 ≤ x.m ∧ x.m ≤ 1000000
  val := fun _ => ()
  ens := fun _ _ => True
  res := fun _ _ => .sl 1000
  out := fun x _ => [(1000, .row 25 dotT ((missF x.a x.b).take x.m.toNat))] }
@[reducible] def somR (x : SomX) : RA := {
  X := Unit
  T := fun _ => [(5, .ptr 6 0), (7, .ptr 7 0), (11, .func (.func 89) [] [.ptr 2 0, .ptr 3 0])]
  M := fun _ k => [(7, .cells 54 [.sl 4]), (4, .row 25 dotT ((missF x.a x.b).take (min k x.m.toNat))), (6, .cells 3 [.v (.int .i64 x.m)])]
  R := fun _ => [(2, .cells 23 [.ro false runT x.a]), (3, .cells 23 [.ro false runT x.b])]
  rg := [2, 3, 6, 7]
  n := fun _ => (missF x.a x.b).length
  args := fun _ c => [.agg (dotS (dotAt x c))]
  goes := fun _ k => decide ((k : Int) < x.m)
  jump := fun _ _ => .exit 0 }
theorem knownMs3 : Known Tryz.prog (gOf [(67, missingC), (89, mitC)]) := known_cons ⟨missing_ok, Tryz.call67⟩ (known_cons ⟨mit_ok, Tryz.call89⟩ (known_nil _))
theorem sideM {x : SomX} {g : Nat → Bool} : ∀ Y : Yld, (Y.args = fun c => [.agg (dotS (dotAt x c))]) → Y.goes = g → Y.live = liveB (missF x.a x.b).length g →
      ∀ (c : Nat) d, (missF x.a x.b)[c]? = some d → Y.args c = [.agg (dotS d)] ∧ ((∀ j, j < c → Y.goes j = true) → Y.live c = true) := fun Y h1 h2 h3 c d hd => by
  have hc := (List.getElem?_eq_some_iff.1 hd).1
  have e : dotAt x c = d := by unfold dotAt; rw [List.getD_eq_getElem?_getD, hd]; rfl
  refine ⟨by rw [h1]; simp only [e], fun hg => ?_⟩
  rw [h3, liveB_iff]
  exact ⟨hc, fun j hj => by rw [← h2]; exact hg j hj⟩
theorem som_ok : somC.ok Tryz.prog 28 := by
  refine ok_of_vc (An := fun (x : SomX) => anOf [(0, .range (somR x))]) knownMs3 mo Tryz.func28 (by kernel_rfl) (by kernel_rfl) (fun _ _ => trivial) (fun x hs => ?_)
  obtain ⟨a, b, m⟩ := x
  obtain ⟨⟨la, lb⟩, m0, m1⟩ := hs
  dsimp only at la lb m0 m1
  have h0 : (missF a b).take (min 0 m.toNat) = [] := by rw [Nat.zero_min, List.take_zero]
  ((repeat' ((conv => whnf) <;> first | exact True.intro | (guard_target =~ Fork _ _ _; first | refine F1 ?_ | refine F2 ?_ | refine F3 (fun h => ?_) fun h => ?_) | (guard_target =~ Ar _ _ _; first | refine A1 ?_ | refine A2 ?_ | refine A3 ?_) | (guard_target =~ AskL _ _; first | refine L1 ?_) | (guard_target =~ Go.Eng.Ask _ _; first | refine K1 ?_) | (guard_target =~ All' _ _; first | (refine Y2 fun y he he' hy => ?_; (try dsimp only at he he' hy)) | (refine Y1 fun y he hy => ?_; (try with_reducible conv at he => (rhs; whnf)); (try dsimp only at he hy)) | (refine All'.mk ?_; intro y hy)) | refine F4 (fun h => ?_) fun h => ?_ | refine R1 ?_ | refine Q1 ?_ | fail)); all_goals (conv => whnf))
  refine CallP.mk (C := missingC) ⟨a, b⟩ ?_
  ((repeat' ((conv => whnf) <;> first | exact True.intro | (guard_target =~ Fork _ _ _; first | refine F1 ?_ | refine F2 ?_ | refine F3 (fun h => ?_) fun h => ?_) | (guard_target =~ Ar _ _ _; first | refine A1 ?_ | refine A2 ?_ | refine A3 ?_) | (guard_target =~ AskL _ _; first | refine L1 ?_) | (guard_target =~ Go.Eng.Ask _ _; first | refine K1 ?_) | (guard_target =~ All' _ _; first | (refine Y2 fun y he he' hy => ?_; (try dsimp only at he he' hy)) | (refine Y1 fun y he hy => ?_; (try with_reducible conv at he => (rhs; whnf)); (try dsimp only at he hy)) | (refine All'.mk ?_; intro y hy)) | refine F4 (fun h => ?_) fun h => ?_ | refine R1 ?_ | refine Q1 ?_ | fail)); all_goals (conv => whnf))
  refine Some'.mk () ?_
  ((repeat' ((conv => whnf) <;> first | exact True.intro | (guard_target =~ Fork _ _ _; first | refine F1 ?_ | refine F2 ?_ | refine F3 (fun h => ?_) fun h => ?_) | (guard_target =~ Ar _ _ _; first | refine A1 ?_ | refine A2 ?_ | refine A3 ?_) | (guard_target =~ AskL _ _; first | refine L1 ?_) | (guard_target =~ Go.Eng.Ask _ _; first | refine K1 ?_) | (guard_target =~ All' _ _; first | (refine Y2 fun y he he' hy => ?_; (try dsimp only at he he' hy)) | (refine Y1 fun y he hy => ?_; (try with_reducible conv at he => (rhs; whnf)); (try dsimp only at he hy)) | (refine All'.mk ?_; intro y hy)) | refine F4 (fun h => ?_) fun h => ?_ | refine R1 ?_ | refine Q1 ?_ | fail)); all_goals (conv => whnf))
  refine Two.mk ?_ ?_
  · refine AllI.mk ?_
    intro k hk
    have hg := liveB_iff.1 hk
    have hk := hg.1
    dsimp only at hk
    have hkn : ∀ j, j < k → (j : Int) < m := fun j hj => of_decide_eq_true (hg.2 j hj)
    have hl1 : ((missF a b).take (min k m.toNat)).length = min k m.toNat := by rw [List.length_take]; omega
    clear hg
    ((repeat' ((conv => whnf) <;> first | exact True.intro | (guard_target =~ Fork _ _ _; first | refine F1 ?_ | refine F2 ?_ | refine F3 (fun h => ?_) fun h => ?_) | (guard_target =~ Ar _ _ _; first | refine A1 ?_ | refine A2 ?_ | refine A3 ?_) | (guard_target =~ AskL _ _; first | refine L1 ?_) | (guard_target =~ Go.Eng.Ask _ _; first | refine K1 ?_) | (guard_target =~ All' _ _; first | (refine Y2 fun y he he' hy => ?_; (try dsimp only at he he' hy)) | (refine Y1 fun y he hy => ?_; (try with_reducible conv at he => (rhs; whnf)); (try dsimp only at he hy)) | (refine All'.mk ?_; intro y hy)) | refine F4 (fun h => ?_) fun h => ?_ | refine R1 ?_ | refine Q1 ?_ | fail)); all_goals (conv => whnf))
    · have hm : min (k + 1) m.toNat = min k m.toNat := by omega
      refine Ask.mk ⟨decide_eq_false (by dsimp only; omega), rfl⟩ ?_
      exact G1
    · have hm : min k m.toNat = k := by omega
      have hm' : min (k + 1) m.toNat = k + 1 := by omega
      have hd : (missF a b)[k]? = some (dotAt ⟨a, b, m⟩ k) := by
        unfold dotAt; dsimp only
        rw [List.getD_eq_getElem?_getD, List.getElem?_eq_getElem hk]; rfl
      have hi : (missF a b).take (k + 1) = (missF a b).take k ++ [dotAt ⟨a, b, m⟩ k] := take_sn hd
      ((repeat' ((conv => whnf) <;> first | exact True.intro | (guard_target =~ Fork _ _ _; first | refine F1 ?_ | refine F2 ?_ | refine F3 (fun h => ?_) fun h => ?_) | (guard_target =~ Ar _ _ _; first | refine A1 ?_ | refine A2 ?_ | refine A3 ?_) | (guard_target =~ AskL _ _; first | refine L1 ?_) | (guard_target =~ Go.Eng.Ask _ _; first | refine K1 ?_) | (guard_target =~ All' _ _; first | (refine Y2 fun y he he' hy => ?_; (try dsimp only at he he' hy)) | (refine Y1 fun y he hy => ?_; (try with_reducible conv at he => (rhs; whnf)); (try dsimp only at he hy)) | (refine All'.mk ?_; intro y hy)) | refine F4 (fun h => ?_) fun h => ?_ | refine R1 ?_ | refine Q1 ?_ | fail)); all_goals (conv => whnf))
      refine Ask.mk (decide_eq_true (by dsimp only; omega)) ?_
      exact G1
  · refine AllI.mk ?_
    rintro ⟨l, Y⟩ ⟨h1, h2, h3, h4⟩
    dsimp only at h1 h2 h3 h4
    ((repeat' ((conv => whnf) <;> first | exact True.intro | (guard_target =~ Fork _ _ _; first | refine F1 ?_ | refine F2 ?_ | refine F3 (fun h => ?_) fun h => ?_) | (guard_target =~ Ar _ _ _; first | refine A1 ?_ | refine A2 ?_ | refine A3 ?_) | (guard_target =~ AskL _ _; first | refine L1 ?_) | (guard_target =~ Go.Eng.Ask _ _; first | refine K1 ?_) | (guard_target =~ All' _ _; first | (refine Y2 fun y he he' hy => ?_; (try dsimp only at he he' hy)) | (refine Y1 fun y he hy => ?_; (try with_reducible conv at he => (rhs; whnf)); (try dsimp only at he hy)) | (refine All'.mk ?_; intro y hy)) | refine F4 (fun h => ?_) fun h => ?_ | refine R1 ?_ | refine Q1 ?_ | fail)); all_goals (conv => whnf))
    refine CallP.mk (C := mitC) ⟨Y, l, a, b⟩ ?_
    ((repeat' ((conv => whnf) <;> first | exact True.intro | (guard_target =~ Fork _ _ _; first | refine F1 ?_ | refine F2 ?_ | refine F3 (fun h => ?_) fun h => ?_) | (guard_target =~ Ar _ _ _; first | refine A1 ?_ | refine A2 ?_ | refine A3 ?_) | (guard_target =~ AskL _ _; first | refine L1 ?_) | (guard_target =~ Go.Eng.Ask _ _; first | refine K1 ?_) | (guard_target =~ All' _ _; first | (refine Y2 fun y he he' hy => ?_; (try dsimp only at he he' hy)) | (refine Y1 fun y he hy => ?_; (try with_reducible conv at he => (rhs; whnf)); (try dsimp only at he hy)) | (refine All'.mk ?_; intro y hy)) | refine F4 (fun h => ?_) fun h => ?_ | refine R1 ?_ | refine Q1 ?_ | fail)); all_goals (conv => whnf))
    refine Ask.mk ⟨⟨la, lb⟩, h4, sideM Y h1 h2 h3⟩ ?_
    ((repeat' ((conv => whnf) <;> first | exact True.intro | (guard_target =~ Fork _ _ _; first | refine F1 ?_ | refine F2 ?_ | refine F3 (fun h => ?_) fun h => ?_) | (guard_target =~ Ar _ _ _; first | refine A1 ?_ | refine A2 ?_ | refine A3 ?_) | (guard_target =~ AskL _ _; first | refine L1 ?_) | (guard_target =~ Go.Eng.Ask _ _; first | refine K1 ?_) | (guard_target =~ All' _ _; first | (refine Y2 fun y he he' hy => ?_; (try dsimp only at he he' hy)) | (refine Y1 fun y he hy => ?_; (try with_reducible conv at he => (rhs; whnf)); (try dsimp only at he hy)) | (refine All'.mk ?_; intro y hy)) | refine F4 (fun h => ?_) fun h => ?_ | refine R1 ?_ | refine Q1 ?_ | fail)); all_goals (conv => whnf))
    have hn : min (made Y.goes (missF a b).length 0) m.toNat = min (missF a b).length m.toNat := made_min (fun k => by rw [h2]) _
    have hn2 : (missF a b).take (min (missF a b).length m.toNat) = (missF a b).take m.toNat := by
      rw [Nat.min_comm, ← List.take_take, List.take_length]
    refine Some'.mk (made Y.goes (missF a b).length 0) ?_
    conv => whnf
    refine Eqn.mk rfl ?_
    ((repeat' ((conv => whnf) <;> first | exact True.intro | (guard_target =~ Fork _ _ _; first | refine F1 ?_ | refine F2 ?_ | refine F3 (fun h => ?_) fun h => ?_) | (guard_target =~ Ar _ _ _; first | refine A1 ?_ | refine A2 ?_ | refine A3 ?_) | (guard_target =~ AskL _ _; first | refine L1 ?_) | (guard_target =~ Go.Eng.Ask _ _; first | refine K1 ?_) | (guard_target =~ All' _ _; first | (refine Y2 fun y he he' hy => ?_; (try dsimp only at he he' hy)) | (refine Y1 fun y he hy => ?_; (try with_reducible conv at he => (rhs; whnf)); (try dsimp only at he hy)) | (refine All'.mk ?_; intro y hy)) | refine F4 (fun h => ?_) fun h => ?_ | refine R1 ?_ | refine Q1 ?_ | fail)); all_goals (conv => whnf))
    all_goals (refine AskL.mk ?_ trivial; dsimp only [conj]; rw [hn, hn2])
end Go.Proofs.YtoaaieiiamdopaaGreatDoor

set_option linter.unusedVariables false
set_option linter.unusedSimpArgs false
set_option maxRecDepth 100000
set_option maxHeartbeats 4000000
namespace Go.Proofs.YtoaaieiiamdopaaGreatDoor
open Go.Eng
structure AftX where
  c : List Run
  nd : Int
  n : Int
@[reducible] def aftC : Ctr := {
  X := AftX
  Y := Unit
  args := fun x => [.ro true runT x.c, .v (.int .i64 x.nd), .v (.int .i64 x.n)]
  rw := fun _ => []
  side := fun x => rightB x.c = true ∧ x.c.length ≤ 1000000
  val := fun _ => ()
  ens := fun _ _ => True
  res := fun x _ => .v (.int .i64 (aftF x.c x.nd x.n))
  out := fun x _ => [] }
structure AfS1 where
  i : Nat
  n : Int
structure AfS2 where
  i : Nat
  n : Int
  j : Nat
@[reducible] def aftL0 (x : AftX) : LA := {
  X := AfS1
  pre := fun s => s.i ≤ x.c.length + 1 ∧ aftF x.c x.nd s.n = aftF x.c x.nd x.n ∧ (1 ≤ s.i → s.n = aftF x.c x.nd x.n)
  mu := fun s => x.c.length + 1 - s.i
  T := fun s => [(0, .ro true runT x.c), (1, .v (.int .i64 x.nd)), (2, .v (.int .i64 s.n)), (7, .v (.int .i64 (s.i : Nat)))]
  M := fun s => [] }
@[reducible] def aftL2 (x : AftX) (m1 : Nat) : LA := {
  X := AfS2
  pre := fun s => (s.i ≤ x.c.length ∧ x.c.length + 1 - s.i = m1) ∧ s.j ≤ x.c.length ∧ aftF x.c x.nd s.n = aftF x.c x.nd x.n ∧ ∀ k h, k < s.j → x.c[k]? = some h → ¬ inR h (x.nd, s.n)
  mu := fun s => x.c.length - s.j
  T := fun s => [(0, .ro true runT x.c), (1, .v (.int .i64 x.nd)), (2, .v (.int .i64 s.n)), (7, .v (.int .i64 (s.i : Nat))), (16, .ro true runT x.c), (17, .v (.int .i64 x.c.length)), (18, .v (.int .i64 (s.j : Nat)))]
  M := fun s => [] }
theorem aft_ok : aftC.ok Tryz.prog 29 := by
  refine ok_of_vc (An := fun (x : AftX) => anOfM fun ms => [(0, .loop (aftL0 x)), (2, .loop (aftL2 x (ms.headD 0)))]) (known_nil _) mo Tryz.func29 (by kernel_rfl) (by kernel_rfl) (fun _ _ => trivial) (fun x hs => ?_)
  obtain ⟨c, nd, n⟩ := x
  obtain ⟨hr, lc⟩ := hs
  dsimp only at hr lc
  have rc := right_iff.1 hr
  ((repeat' ((conv => whnf) <;> first | exact True.intro | (guard_target =~ Fork _ _ _; first | refine F1 ?_ | refine F2 ?_ | refine F3 (fun h => ?_) fun h => ?_) | (guard_target =~ Ar _ _ _; first | refine A1 ?_ | refine A2 ?_ | refine A3 ?_) | (guard_target =~ AskL _ _; first | refine L1 ?_) | (guard_target =~ Go.Eng.Ask _ _; first | refine K1 ?_) | (guard_target =~ All' _ _; first | (refine Y2 fun y he he' hy => ?_; (try dsimp only at he he' hy)) | (refine Y1 fun y he hy => ?_; (try with_reducible conv at he => (rhs; whnf)); (try dsimp only at he hy)) | (refine All'.mk ?_; intro y hy)) | refine F4 (fun h => ?_) fun h => ?_ | refine R1 ?_ | refine Q1 ?_ | fail)); all_goals (conv => whnf))
  refine Some'.mk ⟨0, n⟩ ?_
  ((repeat' ((conv => whnf) <;> first | exact True.intro | (guard_target =~ Fork _ _ _; first | refine F1 ?_ | refine F2 ?_ | refine F3 (fun h => ?_) fun h => ?_) | (guard_target =~ Ar _ _ _; first | refine A1 ?_ | refine A2 ?_ | refine A3 ?_) | (guard_target =~ AskL _ _; first | refine L1 ?_) | (guard_target =~ Go.Eng.Ask _ _; first | refine K1 ?_) | (guard_target =~ All' _ _; first | (refine Y2 fun y he he' hy => ?_; (try dsimp only at he he' hy)) | (refine Y1 fun y he hy => ?_; (try with_reducible conv at he => (rhs; whnf)); (try dsimp only at he hy)) | (refine All'.mk ?_; intro y hy)) | refine F4 (fun h => ?_) fun h => ?_ | refine R1 ?_ | refine Q1 ?_ | fail)); all_goals (conv => whnf))
  refine AllI.mk ?_
  rintro ⟨i, m⟩ ⟨i1, i2, i3⟩
  dsimp only at i1 i2 i3
  have i1 : i ≤ c.length + 1 := i1
  by_cases hi : i = c.length + 1
  · have he := i3 (by omega)
    exact G1
  · ((repeat' ((conv => whnf) <;> first | exact True.intro | (guard_target =~ Fork _ _ _; first | refine F1 ?_ | refine F2 ?_ | refine F3 (fun h => ?_) fun h => ?_) | (guard_target =~ Ar _ _ _; first | refine A1 ?_ | refine A2 ?_ | refine A3 ?_) | (guard_target =~ AskL _ _; first | refine L1 ?_) | (guard_target =~ Go.Eng.Ask _ _; first | refine K1 ?_) | (guard_target =~ All' _ _; first | (refine Y2 fun y he he' hy => ?_; (try dsimp only at he he' hy)) | (refine Y1 fun y he hy => ?_; (try with_reducible conv at he => (rhs; whnf)); (try dsimp only at he hy)) | (refine All'.mk ?_; intro y hy)) | refine F4 (fun h => ?_) fun h => ?_ | refine R1 ?_ | refine Q1 ?_ | fail)); all_goals (conv => whnf))
    refine Some'.mk ⟨i, m, 0⟩ ?_
    ((repeat' ((conv => whnf) <;> first | exact True.intro | (guard_target =~ Fork _ _ _; first | refine F1 ?_ | refine F2 ?_ | refine F3 (fun h => ?_) fun h => ?_) | (guard_target =~ Ar _ _ _; first | refine A1 ?_ | refine A2 ?_ | refine A3 ?_) | (guard_target =~ AskL _ _; first | refine L1 ?_) | (guard_target =~ Go.Eng.Ask _ _; first | refine K1 ?_) | (guard_target =~ All' _ _; first | (refine Y2 fun y he he' hy => ?_; (try dsimp only at he he' hy)) | (refine Y1 fun y he hy => ?_; (try with_reducible conv at he => (rhs; whnf)); (try dsimp only at he hy)) | (refine All'.mk ?_; intro y hy)) | refine F4 (fun h => ?_) fun h => ?_ | refine R1 ?_ | refine Q1 ?_ | fail)); all_goals (conv => whnf))
    refine Ask.mk ⟨⟨by show i ≤ c.length; omega, rfl⟩, Nat.zero_le _, i2, fun k h hk => absurd hk (Nat.not_lt_zero _)⟩ ?_
    ((repeat' ((conv => whnf) <;> first | exact True.intro | (guard_target =~ Fork _ _ _; first | refine F1 ?_ | refine F2 ?_ | refine F3 (fun h => ?_) fun h => ?_) | (guard_target =~ Ar _ _ _; first | refine A1 ?_ | refine A2 ?_ | refine A3 ?_) | (guard_target =~ AskL _ _; first | refine L1 ?_) | (guard_target =~ Go.Eng.Ask _ _; first | refine K1 ?_) | (guard_target =~ All' _ _; first | (refine Y2 fun y he he' hy => ?_; (try dsimp only at he he' hy)) | (refine Y1 fun y he hy => ?_; (try with_reducible conv at he => (rhs; whnf)); (try dsimp only at he hy)) | (refine All'.mk ?_; intro y hy)) | refine F4 (fun h => ?_) fun h => ?_ | refine R1 ?_ | refine Q1 ?_ | fail)); all_goals (conv => whnf))
    clear i2 i3
    refine AllI.mk ?_
    rintro ⟨i', m, j⟩ ⟨⟨j0, j1⟩, j2, j3, j4⟩
    have j1 : c.length + 1 - i' = c.length + 1 - i := j1
    dsimp only at j0 j2 j3 j4
    have j0 : i' ≤ c.length := j0
    have j2 : j ≤ c.length := j2
    obtain rfl : i' = i := by omega
    by_cases hj : j = c.length
    · subst hj
      have hm : m = aftF c nd n := by
        rw [← j3]
        exact (aft_out (fun r hr => by obtain ⟨k, hk⟩ := List.getElem?_of_mem hr; exact j4 k r (List.getElem?_eq_some_iff.1 hk).1 hk)).symm
      ((repeat' ((conv => whnf) <;> first | exact True.intro | (guard_target =~ Fork _ _ _; first | refine F1 ?_ | refine F2 ?_ | refine F3 (fun h => ?_) fun h => ?_) | (guard_target =~ Ar _ _ _; first | refine A1 ?_ | refine A2 ?_ | refine A3 ?_) | (guard_target =~ AskL _ _; first | refine L1 ?_) | (guard_target =~ Go.Eng.Ask _ _; first | refine K1 ?_) | (guard_target =~ All' _ _; first | (refine Y2 fun y he he' hy => ?_; (try dsimp only at he he' hy)) | (refine Y1 fun y he hy => ?_; (try with_reducible conv at he => (rhs; whnf)); (try dsimp only at he hy)) | (refine All'.mk ?_; intro y hy)) | refine F4 (fun h => ?_) fun h => ?_ | refine R1 ?_ | refine Q1 ?_ | fail)); all_goals (conv => whnf))
      refine Some'.mk ⟨i' + 1, m⟩ ?_
      exact G1
    · obtain ⟨⟨p, q, u⟩, hh⟩ := get_ex (show j < c.length by omega)
      have hmem := List.mem_of_getElem? hh
      obtain ⟨p1, p2, p3, p4, p5⟩ : runP (p, q, u) := rc.all _ hmem
      dsimp only at p1 p2 p3 p4 p5
      ((repeat' ((conv => whnf) <;> first | exact True.intro | (guard_target =~ Fork _ _ _; first | refine F1 ?_ | refine F2 ?_ | refine F3 (fun h => ?_) fun h => ?_) | (guard_target =~ Ar _ _ _; first | refine A1 ?_ | refine A2 ?_ | refine A3 ?_) | (guard_target =~ AskL _ _; first | refine L1 ?_) | (guard_target =~ Go.Eng.Ask _ _; first | refine K1 ?_) | (guard_target =~ All' _ _; first | (refine Y2 fun y he he' hy => ?_; (try dsimp only at he he' hy)) | (refine Y1 fun y he hy => ?_; (try with_reducible conv at he => (rhs; whnf)); (try dsimp only at he hy))) | refine F4 (fun h => ?_) fun h => ?_ | refine R1 ?_ | refine Q1 ?_ | fail)); all_goals (conv => whnf))
      refine All'.mk ?_; rintro (h' : Run) hh'
      obtain rfl : (p, q, u) = h' := Option.some.inj (hh.symm.trans hh')
      clear hh'
      by_cases hin : inR (p, q, u) (nd, m)
      · have hai := aft_in rc hmem hin
        have hno := no_next rc hmem (m := nd) hin.1
        have hst : aftF c nd (u + 1) = aftF c nd n := by rw [← j3, hai]; exact aft_out hno
        unfold inR at hin; dsimp only at hin
        obtain ⟨rfl, q2, q3⟩ := hin
        ((repeat' ((conv => whnf) <;> first | exact True.intro | (guard_target =~ Fork _ _ _; first | refine F1 ?_ | refine F2 ?_ | refine F3 (fun h => ?_) fun h => ?_) | (guard_target =~ Ar _ _ _; first | refine A1 ?_ | refine A2 ?_ | refine A3 ?_) | (guard_target =~ AskL _ _; first | refine L1 ?_) | (guard_target =~ Go.Eng.Ask _ _; first | refine K1 ?_) | (guard_target =~ All' _ _; first | (refine Y2 fun y he he' hy => ?_; (try dsimp only at he he' hy)) | (refine Y1 fun y he hy => ?_; (try with_reducible conv at he => (rhs; whnf)); (try dsimp only at he hy)) | (refine All'.mk ?_; intro y hy)) | refine F4 (fun h => ?_) fun h => ?_ | refine R1 ?_ | refine Q1 ?_ | fail)); all_goals (conv => whnf))
        refine Some'.mk ⟨i', u + 1, j + 1⟩ ?_
        ((repeat' ((conv => whnf) <;> first | exact True.intro | (guard_target =~ Fork _ _ _; first | refine F1 ?_ | refine F2 ?_ | refine F3 (fun h => ?_) fun h => ?_) | (guard_target =~ Ar _ _ _; first | refine A1 ?_ | refine A2 ?_ | refine A3 ?_) | (guard_target =~ AskL _ _; first | refine L1 ?_) | (guard_target =~ Go.Eng.Ask _ _; first | refine K1 ?_) | (guard_target =~ All' _ _; first | (refine Y2 fun y he he' hy => ?_; (try dsimp only at he he' hy)) | (refine Y1 fun y he hy => ?_; (try with_reducible conv at he => (rhs; whnf)); (try dsimp only at he hy)) | (refine All'.mk ?_; intro y hy)) | refine F4 (fun h => ?_) fun h => ?_ | refine R1 ?_ | refine Q1 ?_ | fail)); all_goals (conv => whnf))
        refine Ask.mk ⟨⟨j0, rfl⟩, by show j + 1 ≤ c.length; omega, hst, fun k h _ hk => hno h (List.mem_of_getElem? hk)⟩ ?_
        exact G1
      · have hin2 : ¬ (p = nd ∧ q ≤ m ∧ m ≤ u) := hin
        have hstep : ∀ k h, k < j + 1 → c[k]? = some h → ¬ inR h (nd, m) := fun k h hk he => by
          rcases Nat.lt_or_ge k j with hkj | hkj
          · exact j4 k h hkj he
          · obtain rfl : k = j := by omega
            obtain rfl : (p, q, u) = h := Option.some.inj (hh.symm.trans he)
            exact hin
        by_cases e1 : p = nd
        · by_cases e2 : q ≤ m
          · have e3 : ¬ m ≤ u := fun h => hin2 ⟨e1, e2, h⟩
            ((repeat' ((conv => whnf) <;> first | exact True.intro | (guard_target =~ Fork _ _ _; first | refine F1 ?_ | refine F2 ?_ | refine F3 (fun h => ?_) fun h => ?_) | (guard_target =~ Ar _ _ _; first | refine A1 ?_ | refine A2 ?_ | refine A3 ?_) | (guard_target =~ AskL _ _; first | refine L1 ?_) | (guard_target =~ Go.Eng.Ask _ _; first | refine K1 ?_) | (guard_target =~ All' _ _; first | (refine Y2 fun y he he' hy => ?_; (try dsimp only at he he' hy)) | (refine Y1 fun y he hy => ?_; (try with_reducible conv at he => (rhs; whnf)); (try dsimp only at he hy)) | (refine All'.mk ?_; intro y hy)) | refine F4 (fun h => ?_) fun h => ?_ | refine R1 ?_ | refine Q1 ?_ | fail)); all_goals (conv => whnf))
            refine Some'.mk ⟨i', m, j + 1⟩ ?_
            ((repeat' ((conv => whnf) <;> first | exact True.intro | (guard_target =~ Fork _ _ _; first | refine F1 ?_ | refine F2 ?_ | refine F3 (fun h => ?_) fun h => ?_) | (guard_target =~ Ar _ _ _; first | refine A1 ?_ | refine A2 ?_ | refine A3 ?_) | (guard_target =~ AskL _ _; first | refine L1 ?_) | (guard_target =~ Go.Eng.Ask _ _; first | refine K1 ?_) | (guard_target =~ All' _ _; first | (refine Y2 fun y he he' hy => ?_; (try dsimp only at he he' hy)) | (refine Y1 fun y he hy => ?_; (try with_reducible conv at he => (rhs; whnf)); (try dsimp only at he hy)) | (refine All'.mk ?_; intro y hy)) | refine F4 (fun h => ?_) fun h => ?_ | refine R1 ?_ | refine Q1 ?_ | fail)); all_goals (conv => whnf))
            refine Ask.mk ⟨⟨j0, rfl⟩, by show j + 1 ≤ c.length; omega, j3, hstep⟩ ?_
            exact G1
          · ((repeat' ((conv => whnf) <;> first | exact True.intro | (guard_target =~ Fork _ _ _; first | refine F1 ?_ | refine F2 ?_ | refine F3 (fun h => ?_) fun h => ?_) | (guard_target =~ Ar _ _ _; first | refine A1 ?_ | refine A2 ?_ | refine A3 ?_) | (guard_target =~ AskL _ _; first | refine L1 ?_) | (guard_target =~ Go.Eng.Ask _ _; first | refine K1 ?_) | (guard_target =~ All' _ _; first | (refine Y2 fun y he he' hy => ?_; (try dsimp only at he he' hy)) | (refine Y1 fun y he hy => ?_; (try with_reducible conv at he => (rhs; whnf)); (try dsimp only at he hy)) | (refine All'.mk ?_; intro y hy)) | refine F4 (fun h => ?_) fun h => ?_ | refine R1 ?_ | refine Q1 ?_ | fail)); all_goals (conv => whnf))
            refine Some'.mk ⟨i', m, j + 1⟩ ?_
            ((repeat' ((conv => whnf) <;> first | exact True.intro | (guard_target =~ Fork _ _ _; first | refine F1 ?_ | refine F2 ?_ | refine F3 (fun h => ?_) fun h => ?_) | (guard_target =~ Ar _ _ _; first | refine A1 ?_ | refine A2 ?_ | refine A3 ?_) | (guard_target =~ AskL _ _; first | refine L1 ?_) | (guard_target =~ Go.Eng.Ask _ _; first | refine K1 ?_) | (guard_target =~ All' _ _; first | (refine Y2 fun y he he' hy => ?_; (try dsimp only at he he' hy)) | (refine Y1 fun y he hy => ?_; (try with_reducible conv at he => (rhs; whnf)); (try dsimp only at he hy)) | (refine All'.mk ?_; intro y hy)) | refine F4 (fun h => ?_) fun h => ?_ | refine R1 ?_ | refine Q1 ?_ | fail)); all_goals (conv => whnf))
            refine Ask.mk ⟨⟨j0, rfl⟩, by show j + 1 ≤ c.length; omega, j3, hstep⟩ ?_
            exact G1
        · ((repeat' ((conv => whnf) <;> first | exact True.intro | (guard_target =~ Fork _ _ _; first | refine F1 ?_ | refine F2 ?_ | refine F3 (fun h => ?_) fun h => ?_) | (guard_target =~ Ar _ _ _; first | refine A1 ?_ | refine A2 ?_ | refine A3 ?_) | (guard_target =~ AskL _ _; first | refine L1 ?_) | (guard_target =~ Go.Eng.Ask _ _; first | refine K1 ?_) | (guard_target =~ All' _ _; first | (refine Y2 fun y he he' hy => ?_; (try dsimp only at he he' hy)) | (refine Y1 fun y he hy => ?_; (try with_reducible conv at he => (rhs; whnf)); (try dsimp only at he hy)) | (refine All'.mk ?_; intro y hy)) | refine F4 (fun h => ?_) fun h => ?_ | refine R1 ?_ | refine Q1 ?_ | fail)); all_goals (conv => whnf))
          refine Some'.mk ⟨i', m, j + 1⟩ ?_
          ((repeat' ((conv => whnf) <;> first | exact True.intro | (guard_target =~ Fork _ _ _; first | refine F1 ?_ | refine F2 ?_ | refine F3 (fun h => ?_) fun h => ?_) | (guard_target =~ Ar _ _ _; first | refine A1 ?_ | refine A2 ?_ | refine A3 ?_) | (guard_target =~ AskL _ _; first | refine L1 ?_) | (guard_target =~ Go.Eng.Ask _ _; first | refine K1 ?_) | (guard_target =~ All' _ _; first | (refine Y2 fun y he he' hy => ?_; (try dsimp only at he he' hy)) | (refine Y1 fun y he hy => ?_; (try with_reducible conv at he => (rhs; whnf)); (try dsimp only at he hy)) | (refine All'.mk ?_; intro y hy)) | refine F4 (fun h => ?_) fun h => ?_ | refine R1 ?_ | refine Q1 ?_ | fail)); all_goals (conv => whnf))
          refine Ask.mk ⟨⟨j0, rfl⟩, by show j + 1 ≤ c.length; omega, j3, hstep⟩ ?_
          exact G1
end Go.Proofs.YtoaaieiiamdopaaGreatDoor

set_option linter.unusedVariables false
set_option linter.unusedSimpArgs false
set_option maxRecDepth 100000
set_option maxHeartbeats 4000000
namespace Go.Proofs.YtoaaieiiamdopaaGreatDoor
open Go.Eng
@[reducible] def lawC2 : Ctr := {
  X := GrX × Int
  Y := Unit
  args := fun x => [grV x.1, .v (.int .i64 x.2)]
  rw := fun _ => []
  side := fun x => x.1.a.length ≤ 9223372036854775807 ∧ x.1.b.length ≤ 9223372036854775807
  val := fun _ => ()
  ens := fun _ _ => True
  res := fun _ _ => .v (.bool true)
  out := fun _ _ => [] }
structure MfS1 where
  i : Nat
  n : Nat
structure MfS2 where
  i : Nat
  r : Run
  n : Nat
  at_ : Int
def kOf (m : Int) : Int := max 0 (min m 50)
def gotF (x : GrX × Int) : List Dot := (missF x.1.a x.1.b).take (kOf x.2).toNat
@[reducible] def grE (x : GrX) : Ent := .cells 27 [.ro true runT x.a, .ro true runT x.b, .v (.int .i64 x.d.1), .v (.int .i64 x.d.2), .v (.int .i64 x.n)]
@[reducible] def mfL0 (x : GrX × Int) : LA := {
  X := MfS1
  pre := fun s => s.i ≤ x.1.b.length ∧ (rightB x.1.a = false ∨ rightB x.1.b = false → s.n = 0) ∧ (rightB x.1.a = true → rightB x.1.b = true → (s.n : Int) ≤ kOf x.2 ∧ s.n ≤ (missF x.1.a x.1.b).length ∧ ((s.n : Int) < kOf x.2 → (missF x.1.a x.1.b).drop s.n = msL x.1.a (x.1.b.drop s.i)))
  mu := fun s => x.1.b.length - s.i
  T := fun s => [(2, .ptr 3 0), (5, .v (.int .i64 (kOf x.2))), (6, .sl 4), (7, .v (.int .i64 (s.n : Nat))), (25, .ro true runT x.1.b), (26, .v (.int .i64 x.1.b.length)), (27, .v (.int .i64 (s.i : Nat)))]
  M := fun s => [(3, grE x.1), (4, .row 25 dotT (gotF x))] }
@[reducible] def mfL2 (x : GrX × Int) (m1 : Nat) : LA := {
  X := MfS2
  pre := fun s => (x.1.b[s.i]? = some s.r ∧ x.1.b.length - s.i = m1) ∧ (s.r.2.1 ≤ s.at_ ∧ s.at_ ≤ 1099511627777) ∧ (s.n : Int) ≤ kOf x.2 ∧ s.n ≤ (missF x.1.a x.1.b).length ∧ ((s.n : Int) < kOf x.2 → (missF x.1.a x.1.b).drop s.n = msA x.1.a s.r.1 s.at_ s.r.2.2 ++ msL x.1.a (x.1.b.drop (s.i + 1)))
  mu := fun s => (s.r.2.2 + 1 - s.at_).toNat
  T := fun s => [(2, .ptr 3 0), (5, .v (.int .i64 (kOf x.2))), (6, .sl 4), (7, .v (.int .i64 (s.n : Nat))), (25, .ro true runT x.1.b), (26, .v (.int .i64 x.1.b.length)), (27, .v (.int .i64 (s.i : Nat))), (9, .ptr 5 0), (10, .v (.int .i64 s.at_))]
  M := fun s => [(3, grE x.1), (4, .row 25 dotT (gotF x)), (5, .cells 57 (runS s.r))] }
theorem knownMf : Known Tryz.prog (gOf [(8, firstC), (9, greatC), (28, somC), (29, aftC), (11, drightU)]) :=
  known_cons ⟨first_ok, Tryz.call8⟩ (known_cons ⟨great_ok, Tryz.call9⟩ (known_cons ⟨som_ok, Tryz.call28⟩ (known_cons ⟨aft_ok, Tryz.call29⟩ (known_cons ⟨drightU_re rdright_ok, Tryz.call11⟩ (known_nil _)))))
theorem msf_ok : lawC2.ok Tryz.prog 5 := by
  refine ok_of_vc (An := fun (x : GrX × Int) => anOfM fun ms => [(0, .loop (mfL0 x)), (2, .loop (mfL2 x (ms.headD 0)))]) knownMf mo Tryz.func5 (by kernel_rfl) (by kernel_rfl) (fun _ _ => trivial) (fun x hs => ?_)
  obtain ⟨⟨a, b, d, nd⟩, most⟩ := x
  obtain ⟨h1, h2⟩ : a.length ≤ 9223372036854775807 ∧ b.length ≤ 9223372036854775807 := hs
  ((repeat' ((conv => whnf) <;> first | exact True.intro | (guard_target =~ Fork _ _ _; first | refine F1 ?_ | refine F2 ?_ | refine F3 (fun h => ?_) fun h => ?_) | (guard_target =~ Ar _ _ _; first | refine A1 ?_ | refine A2 ?_ | refine A3 ?_) | (guard_target =~ AskL _ _; first | refine L1 ?_) | (guard_target =~ Go.Eng.Ask _ _; first | refine K1 ?_) | (guard_target =~ All' _ _; first | (refine Y2 fun y he he' hy => ?_; (try dsimp only at he he' hy)) | (refine Y1 fun y he hy => ?_; (try with_reducible conv at he => (rhs; whnf)); (try dsimp only at he hy)) | (refine All'.mk ?_; intro y hy)) | refine F4 (fun h => ?_) fun h => ?_ | refine R1 ?_ | refine Q1 ?_ | fail)); all_goals (conv => whnf))
  refine CallP.mk (C := firstC) () ?_
  ((repeat' ((conv => whnf) <;> first | exact True.intro | (guard_target =~ Fork _ _ _; first | refine F1 ?_ | refine F2 ?_ | refine F3 (fun h => ?_) fun h => ?_) | (guard_target =~ Ar _ _ _; first | refine A1 ?_ | refine A2 ?_ | refine A3 ?_) | (guard_target =~ AskL _ _; first | refine L1 ?_) | (guard_target =~ Go.Eng.Ask _ _; first | refine K1 ?_) | (guard_target =~ All' _ _; first | (refine Y2 fun y he he' hy => ?_; (try dsimp only at he he' hy)) | (refine Y1 fun y he hy => ?_; (try with_reducible conv at he => (rhs; whnf)); (try dsimp only at he hy)) | (refine All'.mk ?_; intro y hy)) | refine F4 (fun h => ?_) fun h => ?_ | refine R1 ?_ | refine Q1 ?_ | fail)); all_goals (conv => whnf))
  refine CallP.mk (C := greatC) ⟨a, b, d, nd⟩ ?_
  cases hg : greatF ⟨a, b, d, nd⟩ with
  | true => ((repeat' ((conv => whnf) <;> first | exact True.intro | (guard_target =~ Fork _ _ _; first | refine F1 ?_ | refine F2 ?_ | refine F3 (fun h => ?_) fun h => ?_) | (guard_target =~ Ar _ _ _; first | refine A1 ?_ | refine A2 ?_ | refine A3 ?_) | (guard_target =~ AskL _ _; first | refine L1 ?_) | (guard_target =~ Go.Eng.Ask _ _; first | refine K1 ?_) | (guard_target =~ All' _ _; first | (refine Y2 fun y he he' hy => ?_; (try dsimp only at he he' hy)) | (refine Y1 fun y he hy => ?_; (try with_reducible conv at he => (rhs; whnf)); (try dsimp only at he hy)) | (refine All'.mk ?_; intro y hy)) | refine F4 (fun h => ?_) fun h => ?_ | refine R1 ?_ | refine Q1 ?_ | fail)); all_goals (conv => whnf))
  | false =>
    obtain ⟨la, lb⟩ : a.length ≤ 40 ∧ b.length ≤ 40 := great_no hg
    ((repeat' ((conv => whnf) <;> first | exact True.intro | (guard_target =~ Fork _ _ _; first | refine F1 ?_ | refine F2 ?_ | refine F3 (fun h => ?_) fun h => ?_) | (guard_target =~ Ar _ _ _; first | refine A1 ?_ | refine A2 ?_ | refine A3 ?_) | (guard_target =~ AskL _ _; first | refine L1 ?_) | (guard_target =~ Go.Eng.Ask _ _; first | refine K1 ?_) | (guard_target =~ All' _ _; first | (refine Y2 fun y he he' hy => ?_; (try dsimp only at he he' hy)) | (refine Y1 fun y he hy => ?_; (try with_reducible conv at he => (rhs; whnf)); (try dsimp only at he hy)) | (refine All'.mk ?_; intro y hy)) | refine F4 (fun h => ?_) fun h => ?_ | refine R1 ?_ | refine Q1 ?_ | fail)); all_goals (conv => whnf))
    have hk : 0 ≤ kOf most ∧ kOf most ≤ 50 := by unfold kOf; omega
    have hW : missF a b = if rightB a && rightB b then msL a b else [] := rfl
    refine CallP.mk (C := somC) ⟨a, b, kOf most⟩ ?_
    ((repeat' ((conv => whnf) <;> first | exact True.intro | (guard_target =~ Fork _ _ _; first | refine F1 ?_ | refine F2 ?_ | refine F3 (fun h => ?_) fun h => ?_) | (guard_target =~ Ar _ _ _; first | refine A1 ?_ | refine A2 ?_ | refine A3 ?_) | (guard_target =~ AskL _ _; first | refine L1 ?_) | (guard_target =~ Go.Eng.Ask _ _; first | refine K1 ?_) | (guard_target =~ All' _ _; first | (refine Y2 fun y he he' hy => ?_; (try dsimp only at he he' hy)) | (refine Y1 fun y he hy => ?_; (try with_reducible conv at he => (rhs; whnf)); (try dsimp only at he hy)) | (refine All'.mk ?_; intro y hy)) | refine F4 (fun h => ?_) fun h => ?_ | refine R1 ?_ | refine Q1 ?_ | fail)); all_goals (conv => whnf))
    refine Some'.mk ⟨0, 0⟩ ?_
    ((repeat' ((conv => whnf) <;> first | exact True.intro | (guard_target =~ Fork _ _ _; first | refine F1 ?_ | refine F2 ?_ | refine F3 (fun h => ?_) fun h => ?_) | (guard_target =~ Ar _ _ _; first | refine A1 ?_ | refine A2 ?_ | refine A3 ?_) | (guard_target =~ AskL _ _; first | refine L1 ?_) | (guard_target =~ Go.Eng.Ask _ _; first | refine K1 ?_) | (guard_target =~ All' _ _; first | (refine Y2 fun y he he' hy => ?_; (try dsimp only at he he' hy)) | (refine Y1 fun y he hy => ?_; (try with_reducible conv at he => (rhs; whnf)); (try dsimp only at he hy)) | (refine All'.mk ?_; intro y hy)) | refine F4 (fun h => ?_) fun h => ?_ | refine R1 ?_ | refine Q1 ?_ | fail)); all_goals (conv => whnf))
    refine Ask.mk ⟨Nat.zero_le _, fun _ => rfl, fun ra rb => ⟨hk.1, Nat.zero_le _, fun _ => by show missF a b = msL a b; rw [hW, ra, rb]; rfl⟩⟩ ?_
    ((repeat' ((conv => whnf) <;> first | exact True.intro | (guard_target =~ Fork _ _ _; first | refine F1 ?_ | refine F2 ?_ | refine F3 (fun h => ?_) fun h => ?_) | (guard_target =~ Ar _ _ _; first | refine A1 ?_ | refine A2 ?_ | refine A3 ?_) | (guard_target =~ AskL _ _; first | refine L1 ?_) | (guard_target =~ Go.Eng.Ask _ _; first | refine K1 ?_) | (guard_target =~ All' _ _; first | (refine Y2 fun y he he' hy => ?_; (try dsimp only at he he' hy)) | (refine Y1 fun y he hy => ?_; (try with_reducible conv at he => (rhs; whnf)); (try dsimp only at he hy)) | (refine All'.mk ?_; intro y hy)) | refine F4 (fun h => ?_) fun h => ?_ | refine R1 ?_ | refine Q1 ?_ | fail)); all_goals (conv => whnf))
    refine AllI.mk ?_
    rintro ⟨i, n⟩ ⟨i1, i2, i3⟩
    have i1 : i ≤ b.length := i1
    dsimp only at i2 i3
    have hgl : (gotF (⟨a, b, d, nd⟩, most)).length = min (kOf most).toNat (missF a b).length := by unfold gotF; rw [List.length_take]
    by_cases hi : i = b.length
    · subst hi
      have hend : ((gotF (⟨a, b, d, nd⟩, most)).length : Int) = n := by
        rw [hgl]
        cases ra : rightB a with
        | false =>
          have : n = 0 := i2 (.inl ra)
          rw [hW, ra, this]; simp
        | true =>
          cases rb : rightB b with
          | false =>
            have : n = 0 := i2 (.inr rb)
            rw [hW, ra, rb, this]; simp
          | true =>
            obtain ⟨k1, k2, k3⟩ := i3 ra rb
            rw [List.drop_length] at k3
            by_cases hnk : (n : Int) < kOf most
            · have := List.drop_eq_nil_iff.1 (k3 hnk)
              omega
            · omega
      exact G1
    · obtain ⟨⟨p, f, t⟩, hr⟩ := get_ex (show i < b.length by omega)
      have hd : b.drop i = (p, f, t) :: b.drop (i + 1) := by
        obtain ⟨h5, h6⟩ := List.getElem?_eq_some_iff.1 hr
        rw [List.drop_eq_getElem_cons h5, h6]
      ((repeat' ((conv => whnf) <;> first | exact True.intro | (guard_target =~ Fork _ _ _; first | refine F1 ?_ | refine F2 ?_ | refine F3 (fun h => ?_) fun h => ?_) | (guard_target =~ Ar _ _ _; first | refine A1 ?_ | refine A2 ?_ | refine A3 ?_) | (guard_target =~ AskL _ _; first | refine L1 ?_) | (guard_target =~ Go.Eng.Ask _ _; first | refine K1 ?_) | (guard_target =~ All' _ _; first | (refine Y2 fun y he he' hy => ?_; (try dsimp only at he he' hy)) | (refine Y1 fun y he hy => ?_; (try with_reducible conv at he => (rhs; whnf)); (try dsimp only at he hy))) | refine F4 (fun h => ?_) fun h => ?_ | refine R1 ?_ | refine Q1 ?_ | fail)); all_goals (conv => whnf))
      refine All'.mk ?_; rintro (r' : Run) hr'
      obtain rfl : (p, f, t) = r' := Option.some.inj (hr.symm.trans hr')
      clear hr'
      cases ra : rightB a with
      | false =>
        have lm := ra
        have hn0 : n = 0 := i2 (.inl ra)
        have hgz : (gotF (⟨a, b, d, nd⟩, most)).length = 0 := by rw [hgl, hW, ra]; simp
        ((repeat' ((conv => whnf) <;> first | exact True.intro | (guard_target =~ Fork _ _ _; first | refine F1 ?_ | refine F2 ?_ | refine F3 (fun h => ?_) fun h => ?_) | (guard_target =~ Ar _ _ _; first | refine A1 ?_ | refine A2 ?_ | refine A3 ?_) | (guard_target =~ AskL _ _; first | refine L1 ?_) | (guard_target =~ Go.Eng.Ask _ _; first | refine K1 ?_) | (guard_target =~ All' _ _; first | (refine Y2 fun y he he' hy => ?_; (try dsimp only at he he' hy)) | (refine Y1 fun y he hy => ?_; (try with_reducible conv at he => (rhs; whnf)); (try dsimp only at he hy)) | (refine All'.mk ?_; intro y hy)) | refine F4 (fun h => ?_) fun h => ?_ | refine R1 ?_ | refine Q1 ?_ | fail)); all_goals (conv => whnf))
        refine CallP.mk (C := drightU) a ?_
        exact G1
      | true =>
        cases rb : rightB b with
        | false =>
          have hn0 : n = 0 := i2 (.inr rb)
          have hgz : (gotF (⟨a, b, d, nd⟩, most)).length = 0 := by rw [hgl, hW, ra, rb]; simp
          have lm := And.intro ra rb
          ((repeat' ((conv => whnf) <;> first | exact True.intro | (guard_target =~ Fork _ _ _; first | refine F1 ?_ | refine F2 ?_ | refine F3 (fun h => ?_) fun h => ?_) | (guard_target =~ Ar _ _ _; first | refine A1 ?_ | refine A2 ?_ | refine A3 ?_) | (guard_target =~ AskL _ _; first | refine L1 ?_) | (guard_target =~ Go.Eng.Ask _ _; first | refine K1 ?_) | (guard_target =~ All' _ _; first | (refine Y2 fun y he he' hy => ?_; (try dsimp only at he he' hy)) | (refine Y1 fun y he hy => ?_; (try with_reducible conv at he => (rhs; whnf)); (try dsimp only at he hy)) | (refine All'.mk ?_; intro y hy)) | refine F4 (fun h => ?_) fun h => ?_ | refine R1 ?_ | refine Q1 ?_ | fail)); all_goals (conv => whnf))
          refine CallP.mk (C := drightU) a ?_
          ((repeat' ((conv => whnf) <;> first | exact True.intro | (guard_target =~ Fork _ _ _; first | refine F1 ?_ | refine F2 ?_ | refine F3 (fun h => ?_) fun h => ?_) | (guard_target =~ Ar _ _ _; first | refine A1 ?_ | refine A2 ?_ | refine A3 ?_) | (guard_target =~ AskL _ _; first | refine L1 ?_) | (guard_target =~ Go.Eng.Ask _ _; first | refine K1 ?_) | (guard_target =~ All' _ _; first | (refine Y2 fun y he he' hy => ?_; (try dsimp only at he he' hy)) | (refine Y1 fun y he hy => ?_; (try with_reducible conv at he => (rhs; whnf)); (try dsimp only at he hy)) | (refine All'.mk ?_; intro y hy)) | refine F4 (fun h => ?_) fun h => ?_ | refine R1 ?_ | refine Q1 ?_ | fail)); all_goals (conv => whnf))
          refine CallP.mk (C := drightU) b ?_
          exact G1
        | true =>
          obtain ⟨k1, k2, k3⟩ := i3 ra rb
          have rca := right_iff.1 ra
          have rcb := right_iff.1 rb
          rw [hd] at k3
          have lm := And.intro ra rb
          ((repeat' ((conv => whnf) <;> first | exact True.intro | (guard_target =~ Fork _ _ _; first | refine F1 ?_ | refine F2 ?_ | refine F3 (fun h => ?_) fun h => ?_) | (guard_target =~ Ar _ _ _; first | refine A1 ?_ | refine A2 ?_ | refine A3 ?_) | (guard_target =~ AskL _ _; first | refine L1 ?_) | (guard_target =~ Go.Eng.Ask _ _; first | refine K1 ?_) | (guard_target =~ All' _ _; first | (refine Y2 fun y he he' hy => ?_; (try dsimp only at he he' hy)) | (refine Y1 fun y he hy => ?_; (try with_reducible conv at he => (rhs; whnf)); (try dsimp only at he hy)) | (refine All'.mk ?_; intro y hy)) | refine F4 (fun h => ?_) fun h => ?_ | refine R1 ?_ | refine Q1 ?_ | fail)); all_goals (conv => whnf))
          refine CallP.mk (C := drightU) a ?_
          ((repeat' ((conv => whnf) <;> first | exact True.intro | (guard_target =~ Fork _ _ _; first | refine F1 ?_ | refine F2 ?_ | refine F3 (fun h => ?_) fun h => ?_) | (guard_target =~ Ar _ _ _; first | refine A1 ?_ | refine A2 ?_ | refine A3 ?_) | (guard_target =~ AskL _ _; first | refine L1 ?_) | (guard_target =~ Go.Eng.Ask _ _; first | refine K1 ?_) | (guard_target =~ All' _ _; first | (refine Y2 fun y he he' hy => ?_; (try dsimp only at he he' hy)) | (refine Y1 fun y he hy => ?_; (try with_reducible conv at he => (rhs; whnf)); (try dsimp only at he hy)) | (refine All'.mk ?_; intro y hy)) | refine F4 (fun h => ?_) fun h => ?_ | refine R1 ?_ | refine Q1 ?_ | fail)); all_goals (conv => whnf))
          refine CallP.mk (C := drightU) b ?_
          ((repeat' ((conv => whnf) <;> first | exact True.intro | (guard_target =~ Fork _ _ _; first | refine F1 ?_ | refine F2 ?_ | refine F3 (fun h => ?_) fun h => ?_) | (guard_target =~ Ar _ _ _; first | refine A1 ?_ | refine A2 ?_ | refine A3 ?_) | (guard_target =~ AskL _ _; first | refine L1 ?_) | (guard_target =~ Go.Eng.Ask _ _; first | refine K1 ?_) | (guard_target =~ All' _ _; first | (refine Y2 fun y he he' hy => ?_; (try dsimp only at he he' hy)) | (refine Y1 fun y he hy => ?_; (try with_reducible conv at he => (rhs; whnf)); (try dsimp only at he hy)) | (refine All'.mk ?_; intro y hy)) | refine F4 (fun h => ?_) fun h => ?_ | refine R1 ?_ | refine Q1 ?_ | fail)); all_goals (conv => whnf))
          obtain ⟨q1, q2, q3, q4, q5⟩ : runP (p, f, t) := rcb.all _ (List.mem_of_getElem? hr)
          dsimp only at q1 q2 q3 q4 q5
          have hm1 : ∀ g v, msL a ((p, g, v) :: b.drop (i + 1)) = msA a p (aftF a p g) v ++ msL a (b.drop (i + 1)) := fun g v => by rw [← msR_aft rca]; rfl
          rw [hm1] at k3
          have hf1 := (aft_spec rca p f).1
          have hf2 := aft_le rca (m := p) (n := f) (by omega)
          refine CallP.mk (C := aftC) ⟨a, p, f⟩ ?_
          ((repeat' ((conv => whnf) <;> first | exact True.intro | (guard_target =~ Fork _ _ _; first | refine F1 ?_ | refine F2 ?_ | refine F3 (fun h => ?_) fun h => ?_) | (guard_target =~ Ar _ _ _; first | refine A1 ?_ | refine A2 ?_ | refine A3 ?_) | (guard_target =~ AskL _ _; first | refine L1 ?_) | (guard_target =~ Go.Eng.Ask _ _; first | refine K1 ?_) | (guard_target =~ All' _ _; first | (refine Y2 fun y he he' hy => ?_; (try dsimp only at he he' hy)) | (refine Y1 fun y he hy => ?_; (try with_reducible conv at he => (rhs; whnf)); (try dsimp only at he hy)) | (refine All'.mk ?_; intro y hy)) | refine F4 (fun h => ?_) fun h => ?_ | refine R1 ?_ | refine Q1 ?_ | fail)); all_goals (conv => whnf))
          refine Ask.mk ⟨ra, by show a.length ≤ _; omega⟩ ?_
          ((repeat' ((conv => whnf) <;> first | exact True.intro | (guard_target =~ Fork _ _ _; first | refine F1 ?_ | refine F2 ?_ | refine F3 (fun h => ?_) fun h => ?_) | (guard_target =~ Ar _ _ _; first | refine A1 ?_ | refine A2 ?_ | refine A3 ?_) | (guard_target =~ AskL _ _; first | refine L1 ?_) | (guard_target =~ Go.Eng.Ask _ _; first | refine K1 ?_) | (guard_target =~ All' _ _; first | (refine Y2 fun y he he' hy => ?_; (try dsimp only at he he' hy)) | (refine Y1 fun y he hy => ?_; (try with_reducible conv at he => (rhs; whnf)); (try dsimp only at he hy)) | (refine All'.mk ?_; intro y hy)) | refine F4 (fun h => ?_) fun h => ?_ | refine R1 ?_ | refine Q1 ?_ | fail)); all_goals (conv => whnf))
          refine Some'.mk ⟨i, (p, f, t), n, aftF a p f⟩ ?_
          ((repeat' ((conv => whnf) <;> first | exact True.intro | (guard_target =~ Fork _ _ _; first | refine F1 ?_ | refine F2 ?_ | refine F3 (fun h => ?_) fun h => ?_) | (guard_target =~ Ar _ _ _; first | refine A1 ?_ | refine A2 ?_ | refine A3 ?_) | (guard_target =~ AskL _ _; first | refine L1 ?_) | (guard_target =~ Go.Eng.Ask _ _; first | refine K1 ?_) | (guard_target =~ All' _ _; first | (refine Y2 fun y he he' hy => ?_; (try dsimp only at he he' hy)) | (refine Y1 fun y he hy => ?_; (try with_reducible conv at he => (rhs; whnf)); (try dsimp only at he hy)) | (refine All'.mk ?_; intro y hy)) | refine F4 (fun h => ?_) fun h => ?_ | refine R1 ?_ | refine Q1 ?_ | fail)); all_goals (conv => whnf))
          clear k1 k2 k3 i1 i2 i3 hd hgl
          refine AllI.mk ?_
          rintro ⟨i', ⟨p', f', t'⟩, n', at_⟩ ⟨⟨j0, j1⟩, ⟨j2, j3⟩, j4, j5, j6⟩
          have j1 : b.length - i' = b.length - i := j1
          dsimp only at j0 j2 j3 j4 j5 j6
          have hil := (List.getElem?_eq_some_iff.1 j0).1
          obtain rfl : i' = i := by omega
          obtain ⟨rfl, rfl, rfl⟩ : p = p' ∧ f = f' ∧ t = t' := by
            have := Option.some.inj (hr.symm.trans j0)
            exact ⟨congrArg (·.1) this, congrArg (·.2.1) this, congrArg (·.2.2) this⟩
          by_cases ht : at_ ≤ t
          · by_cases hnk : (n' : Int) < kOf most
            · have j6 := j6 hnk
              unfold msA at j6
              rw [if_pos ht] at j6
              have hgt : (missF a b)[n']? = some (p, at_) := by
                have := congrArg (·[0]?) j6
                simpa using this
              have hlt : n' < (missF a b).length := (List.getElem?_eq_some_iff.1 hgt).1
              have hgo : (gotF (⟨a, b, d, nd⟩, most))[n']? = some (p, at_) := by
                unfold gotF
                rw [List.getElem?_take, if_pos (by dsimp only; omega)]; exact hgt
              have hgl := (List.getElem?_eq_some_iff.1 hgo).1
              have j6 : (missF a b).drop (n' + 1) = msR a p (at_ + 1) t ++ msL a (b.drop (i' + 1)) := by
                have := congrArg (·.drop 1) j6
                simpa [List.drop_drop] using this
              rw [msR_aft rca] at j6
              have hg1 := (aft_spec rca p (at_ + 1)).1
              have hg2 := aft_le rca (m := p) (n := at_ + 1) (by omega)
              ((repeat' ((conv => whnf) <;> first | exact True.intro | (guard_target =~ Fork _ _ _; first | refine F1 ?_ | refine F2 ?_ | refine F3 (fun h => ?_) fun h => ?_) | (guard_target =~ Ar _ _ _; first | refine A1 ?_ | refine A2 ?_ | refine A3 ?_) | (guard_target =~ AskL _ _; first | refine L1 ?_) | (guard_target =~ Go.Eng.Ask _ _; first | refine K1 ?_) | (guard_target =~ All' _ _; first | (refine Y2 fun y he he' hy => ?_; (try dsimp only at he he' hy)) | (refine Y1 fun y he hy => ?_; (try with_reducible conv at he => (rhs; whnf)); (try dsimp only at he hy))) | refine F4 (fun h => ?_) fun h => ?_ | refine R1 ?_ | refine Q1 ?_ | fail)); all_goals (conv => whnf))
              refine All'.mk ?_; rintro (e : Dot) hee
              obtain rfl : (p, at_) = e := Option.some.inj (hgo.symm.trans hee)
              clear hee hgo
              have hb : (p == p && at_ == at_) = true := by simp
              have hb2 : (!(p == p && at_ == at_)) = false := by simp
              have lm := And.intro hb hb2
              ((repeat' ((conv => whnf) <;> first | exact True.intro | (guard_target =~ Fork _ _ _; first | refine F1 ?_ | refine F2 ?_ | refine F3 (fun h => ?_) fun h => ?_) | (guard_target =~ Ar _ _ _; first | refine A1 ?_ | refine A2 ?_ | refine A3 ?_) | (guard_target =~ AskL _ _; first | refine L1 ?_) | (guard_target =~ Go.Eng.Ask _ _; first | refine K1 ?_) | (guard_target =~ All' _ _; first | (refine Y2 fun y he he' hy => ?_; (try dsimp only at he he' hy)) | (refine Y1 fun y he hy => ?_; (try with_reducible conv at he => (rhs; whnf)); (try dsimp only at he hy)) | (refine All'.mk ?_; intro y hy)) | refine F4 (fun h => ?_) fun h => ?_ | refine R1 ?_ | refine Q1 ?_ | fail)); all_goals (conv => whnf))
              refine CallP.mk (C := aftC) ⟨a, p, at_ + 1⟩ ?_
              ((repeat' ((conv => whnf) <;> first | exact True.intro | (guard_target =~ Fork _ _ _; first | refine F1 ?_ | refine F2 ?_ | refine F3 (fun h => ?_) fun h => ?_) | (guard_target =~ Ar _ _ _; first | refine A1 ?_ | refine A2 ?_ | refine A3 ?_) | (guard_target =~ AskL _ _; first | refine L1 ?_) | (guard_target =~ Go.Eng.Ask _ _; first | refine K1 ?_) | (guard_target =~ All' _ _; first | (refine Y2 fun y he he' hy => ?_; (try dsimp only at he he' hy)) | (refine Y1 fun y he hy => ?_; (try with_reducible conv at he => (rhs; whnf)); (try dsimp only at he hy)) | (refine All'.mk ?_; intro y hy)) | refine F4 (fun h => ?_) fun h => ?_ | refine R1 ?_ | refine Q1 ?_ | fail)); all_goals (conv => whnf))
              refine Ask.mk ⟨ra, by show a.length ≤ _; omega⟩ ?_
              ((repeat' ((conv => whnf) <;> first | exact True.intro | (guard_target =~ Fork _ _ _; first | refine F1 ?_ | refine F2 ?_ | refine F3 (fun h => ?_) fun h => ?_) | (guard_target =~ Ar _ _ _; first | refine A1 ?_ | refine A2 ?_ | refine A3 ?_) | (guard_target =~ AskL _ _; first | refine L1 ?_) | (guard_target =~ Go.Eng.Ask _ _; first | refine K1 ?_) | (guard_target =~ All' _ _; first | (refine Y2 fun y he he' hy => ?_; (try dsimp only at he he' hy)) | (refine Y1 fun y he hy => ?_; (try with_reducible conv at he => (rhs; whnf)); (try dsimp only at he hy)) | (refine All'.mk ?_; intro y hy)) | refine F4 (fun h => ?_) fun h => ?_ | refine R1 ?_ | refine Q1 ?_ | fail)); all_goals (conv => whnf))
              refine Some'.mk ⟨i', (p, f, t), n' + 1, aftF a p (at_ + 1)⟩ ?_
              ((repeat' ((conv => whnf) <;> first | exact True.intro | (guard_target =~ Fork _ _ _; first | refine F1 ?_ | refine F2 ?_ | refine F3 (fun h => ?_) fun h => ?_) | (guard_target =~ Ar _ _ _; first | refine A1 ?_ | refine A2 ?_ | refine A3 ?_) | (guard_target =~ AskL _ _; first | refine L1 ?_) | (guard_target =~ Go.Eng.Ask _ _; first | refine K1 ?_) | (guard_target =~ All' _ _; first | (refine Y2 fun y he he' hy => ?_; (try dsimp only at he he' hy)) | (refine Y1 fun y he hy => ?_; (try with_reducible conv at he => (rhs; whnf)); (try dsimp only at he hy)) | (refine All'.mk ?_; intro y hy)) | refine F4 (fun h => ?_) fun h => ?_ | refine R1 ?_ | refine Q1 ?_ | fail)); all_goals (conv => whnf))
              refine Ask.mk ⟨⟨hr, rfl⟩, ⟨by show f ≤ aftF a p (at_ + 1); omega, hg2⟩, by show ((n' + 1 : Nat) : Int) ≤ kOf most; omega, by show n' + 1 ≤ (missF a b).length; omega, fun _ => j6⟩ ?_
              exact G1
            · ((repeat' ((conv => whnf) <;> first | exact True.intro | (guard_target =~ Fork _ _ _; first | refine F1 ?_ | refine F2 ?_ | refine F3 (fun h => ?_) fun h => ?_) | (guard_target =~ Ar _ _ _; first | refine A1 ?_ | refine A2 ?_ | refine A3 ?_) | (guard_target =~ AskL _ _; first | refine L1 ?_) | (guard_target =~ Go.Eng.Ask _ _; first | refine K1 ?_) | (guard_target =~ All' _ _; first | (refine Y2 fun y he he' hy => ?_; (try dsimp only at he he' hy)) | (refine Y1 fun y he hy => ?_; (try with_reducible conv at he => (rhs; whnf)); (try dsimp only at he hy)) | (refine All'.mk ?_; intro y hy)) | refine F4 (fun h => ?_) fun h => ?_ | refine R1 ?_ | refine Q1 ?_ | fail)); all_goals (conv => whnf))
              refine Some'.mk ⟨i' + 1, n'⟩ ?_
              ((repeat' ((conv => whnf) <;> first | exact True.intro | (guard_target =~ Fork _ _ _; first | refine F1 ?_ | refine F2 ?_ | refine F3 (fun h => ?_) fun h => ?_) | (guard_target =~ Ar _ _ _; first | refine A1 ?_ | refine A2 ?_ | refine A3 ?_) | (guard_target =~ AskL _ _; first | refine L1 ?_) | (guard_target =~ Go.Eng.Ask _ _; first | refine K1 ?_) | (guard_target =~ All' _ _; first | (refine Y2 fun y he he' hy => ?_; (try dsimp only at he he' hy)) | (refine Y1 fun y he hy => ?_; (try with_reducible conv at he => (rhs; whnf)); (try dsimp only at he hy)) | (refine All'.mk ?_; intro y hy)) | refine F4 (fun h => ?_) fun h => ?_ | refine R1 ?_ | refine Q1 ?_ | fail)); all_goals (conv => whnf))
              refine Ask.mk ⟨by show i' + 1 ≤ b.length; omega, fun h => ?_, fun _ _ => ⟨j4, j5, fun h => absurd h hnk⟩⟩ ?_
              · rcases h with h | h
                · rw [ra] at h; cases h
                · rw [rb] at h; cases h
              exact G1
          · have j6 : (n' : Int) < kOf most → (missF a b).drop n' = msL a (b.drop (i' + 1)) := fun h => by
              have := j6 h
              unfold msA at this
              rwa [if_neg ht] at this
            ((repeat' ((conv => whnf) <;> first | exact True.intro | (guard_target =~ Fork _ _ _; first | refine F1 ?_ | refine F2 ?_ | refine F3 (fun h => ?_) fun h => ?_) | (guard_target =~ Ar _ _ _; first | refine A1 ?_ | refine A2 ?_ | refine A3 ?_) | (guard_target =~ AskL _ _; first | refine L1 ?_) | (guard_target =~ Go.Eng.Ask _ _; first | refine K1 ?_) | (guard_target =~ All' _ _; first | (refine Y2 fun y he he' hy => ?_; (try dsimp only at he he' hy)) | (refine Y1 fun y he hy => ?_; (try with_reducible conv at he => (rhs; whnf)); (try dsimp only at he hy)) | (refine All'.mk ?_; intro y hy)) | refine F4 (fun h => ?_) fun h => ?_ | refine R1 ?_ | refine Q1 ?_ | fail)); all_goals (conv => whnf))
            refine Some'.mk ⟨i' + 1, n'⟩ ?_
            ((repeat' ((conv => whnf) <;> first | exact True.intro | (guard_target =~ Fork _ _ _; first | refine F1 ?_ | refine F2 ?_ | refine F3 (fun h => ?_) fun h => ?_) | (guard_target =~ Ar _ _ _; first | refine A1 ?_ | refine A2 ?_ | refine A3 ?_) | (guard_target =~ AskL _ _; first | refine L1 ?_) | (guard_target =~ Go.Eng.Ask _ _; first | refine K1 ?_) | (guard_target =~ All' _ _; first | (refine Y2 fun y he he' hy => ?_; (try dsimp only at he he' hy)) | (refine Y1 fun y he hy => ?_; (try with_reducible conv at he => (rhs; whnf)); (try dsimp only at he hy)) | (refine All'.mk ?_; intro y hy)) | refine F4 (fun h => ?_) fun h => ?_ | refine R1 ?_ | refine Q1 ?_ | fail)); all_goals (conv => whnf))
            refine Ask.mk ⟨by show i' + 1 ≤ b.length; omega, fun h => ?_, fun _ _ => ⟨j4, j5, j6⟩⟩ ?_
            · rcases h with h | h
              · rw [ra] at h; cases h
              · rw [rb] at h; cases h
            exact G1
end Go.Proofs.YtoaaieiiamdopaaGreatDoor
