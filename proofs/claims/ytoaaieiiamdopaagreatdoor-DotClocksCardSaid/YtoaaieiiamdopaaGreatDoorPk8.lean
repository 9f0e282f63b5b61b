/- Parts of the proof, one behind the other (DotB, DotE, EngV, LibD, Sort, DotF). -/
import Derived.Test.YtoaaieiiamdopaaGreatDoorPk7
import Derived.Lib.LaidTab
import Derived.RowKit3
import Derived.Below
import Derived.Sort.Grow
import Derived.Deep.Draws
import Derived.Shelf.SlSortCmp.NoneTotal
import Derived.Shelf.SlSortCmp.WholeK
import Derived.Test.YtoaaieiiamdopaaGreatDoorChecked
set_option linter.unusedVariables false
set_option linter.unusedSimpArgs false
set_option linter.unusedSectionVars false
set_option linter.unusedVariables false
set_option linter.unusedSimpArgs false
set_option maxRecDepth 100000
namespace Go.Proofs.YtoaaieiiamdopaaGreatDoor
open Go.Eng
variable [DM]
set_option linter.unusedSectionVars false
def topF (node : Int) : Int → List Run → Int
  | n, [] => n
  | n, r :: l => topF node (if r.1 = node then r.2.2 else n) l
def topG (node : Int) : Int → List Run → Int
  | n, [] => n
  | n, r :: l => topG node (if r.1 = node ∧ n < r.2.2 then r.2.2 else n) l
theorem top_same (node : Int) : ∀ (l : List Run) (p : Option Run) (n : Int), rightFrom p l = true → 0 ≤ n →
    (match p with | none => n = 0 | some q => (q.1 = node → n = q.2.2) ∧ (q.1 < node → n = 0)) → topG node n l = topF node n l
  | [], _, _, _, _, _ => rfl
  | r :: l, p, n, hr, h0, hp => by
    simp only [rightFrom, Bool.and_eq_true] at hr
    obtain ⟨⟨h1, h2⟩, h3⟩ := hr
    have h1 : 0 ≤ r.1 ∧ r.1 ≤ 7 ∧ 1 ≤ r.2.1 ∧ r.2.1 ≤ r.2.2 ∧ r.2.2 ≤ 1099511627776 := of_decide_eq_true h1
    have hlt : r.1 = node → n < r.2.2 := by
      intro hn
      cases p with
      | none => dsimp only at hp; omega
      | some q =>
        have h2 : ¬ (r.1 < q.1 ∨ q.1 = r.1 ∧ r.2.1 - 1 ≤ q.2.2) := of_decide_eq_true h2
        dsimp only at hp
        by_cases hq : q.1 = node
        · have := hp.1 hq; omega
        · have := hp.2 (by omega); omega
    have he : (if r.1 = node ∧ n < r.2.2 then r.2.2 else n) = (if r.1 = node then r.2.2 else n) := by
      by_cases hn : r.1 = node
      · rw [if_pos ⟨hn, hlt hn⟩, if_pos hn]
      · rw [if_neg (fun h => hn h.1), if_neg hn]
    show topG node _ l = topF node _ l
    rw [he]
    refine top_same node l (some r) _ h3 (by split <;> omega) ?_
    dsimp only
    constructor
    · intro hn; rw [if_pos hn]
    · intro hn
      rw [if_neg (by omega)]
      cases p with
      | none => exact hp
      | some q =>
        have h2 : ¬ (r.1 < q.1 ∨ q.1 = r.1 ∧ r.2.1 - 1 ≤ q.2.2) := of_decide_eq_true h2
        dsimp only at hp
        exact hp.2 (by omega)

def topN (c : List Run) (node : Int) : Int := if rightB c = true then topF node 0 c else 0
theorem topN_right {c : List Run} (h : rightB c = true) (node : Int) : topN c node = topF node 0 c := if_pos h
theorem topN_wrong {c : List Run} (h : rightB c = false) (node : Int) : topN c node = 0 := by
  unfold topN; rw [h]; rfl
theorem topN_ref {c : List Run} (h : rightB c = true) (node : Int) : topN c node = topG node 0 c := by
  rw [topN_right h, top_same node c none 0 h (Int.le_refl 0) rfl]
theorem topF_step {node n : Int} {c : List Run} {i : Nat} {r : Run} (h : c[i]? = some r) : topF node n (c.drop i) = topF node (if r.1 = node then r.2.2 else n) (c.drop (i + 1)) := by
  obtain ⟨hi, rfl⟩ := List.getElem?_eq_some_iff.1 h
  rw [List.drop_eq_getElem_cons hi]; rfl
theorem topG_step {node n : Int} {c : List Run} {i : Nat} {r : Run} (h : c[i]? = some r) : topG node n (c.drop i) = topG node (if r.1 = node ∧ n < r.2.2 then r.2.2 else n) (c.drop (i + 1)) := by
  obtain ⟨hi, rfl⟩ := List.getElem?_eq_some_iff.1 h
  rw [List.drop_eq_getElem_cons hi]; rfl

@[reducible] def dtopC : Ctr := {
  X := List Run × Int
  Y := Int
  args := fun x => [.ro true runT x.1, .v (.int .i64 x.2)]
  rw := fun _ => []
  side := fun x => x.1.length ≤ 9223372036854775807
  val := fun x => topN x.1 x.2
  ens := fun _ _ => True
  res := fun _ y => .v (.int .i64 y)
  out := fun _ _ => [] }
structure TopS where
  i : Nat
  n : Int
@[reducible] def dtopL (c : List Run) (node : Int) : LA := {
  X := TopS
  pre := fun s => s.i ≤ c.length ∧ topN c node = topF node s.n (c.drop s.i)
  mu := fun s => c.length - s.i
  T := fun s => [(1, .v (.int .i64 node)), (5, .v (.int .i64 s.n)), (12, .ro true runT c), (13, .v (.int .i64 c.length)), (14, .v (.int .i64 s.i))]
  M := fun _ => [] }
theorem knownD2 : Known Tryz.prog (gOf [(24, drightC), (11, drightC)]) := known_cons ⟨dright_ok, Tryz.call24⟩ (known_cons ⟨rdright_ok, Tryz.call11⟩ (known_nil _))
theorem dtop_ok : dtopC.ok Tryz.prog 32 := by
  refine ok_of_vc (An := fun (x : List Run × Int) => anOf [(0, .loop (dtopL x.1 x.2))]) knownD2 mo Tryz.func32 (by kernel_rfl) (by kernel_rfl) (fun _ _ => trivial) (fun x hs => ?_)
  obtain ⟨c, node⟩ := x
  have hs : c.length ≤ 9223372036854775807 := hs
  cases hb : rightB c with
  | false =>
    have ht := topN_wrong hb node
    ((repeat' ((conv => whnf) <;> first | exact True.intro | (guard_target =~ Fork _ _ _; first | refine F1 ?_ | refine F2 ?_ | refine F3 (fun h => ?_) fun h => ?_) | (guard_target =~ Ar _ _ _; first | refine A1 ?_ | refine A2 ?_ | refine A3 ?_) | (guard_target =~ AskL _ _; first | refine L1 ?_) | (guard_target =~ Go.Eng.Ask _ _; first | refine K1 ?_) | (guard_target =~ All' _ _; first | (refine Y2 fun y he he' hy => ?_; (try dsimp only at he he' hy)) | (refine Y1 fun y he hy => ?_; (try with_reducible conv at he => (rhs; whnf)); (try dsimp only at he hy)) | (refine All'.mk ?_; intro y hy)) | refine F4 (fun h => ?_) fun h => ?_ | refine R1 ?_ | refine Q1 ?_ | fail)); all_goals (conv => whnf))
    refine CallP.mk (C := drightC) c ?_
    exact G1
  | true =>
    have ht := topN_right hb node
    ((repeat' ((conv => whnf) <;> first | exact True.intro | (guard_target =~ Fork _ _ _; first | refine F1 ?_ | refine F2 ?_ | refine F3 (fun h => ?_) fun h => ?_) | (guard_target =~ Ar _ _ _; first | refine A1 ?_ | refine A2 ?_ | refine A3 ?_) | (guard_target =~ AskL _ _; first | refine L1 ?_) | (guard_target =~ Go.Eng.Ask _ _; first | refine K1 ?_) | (guard_target =~ All' _ _; first | (refine Y2 fun y he he' hy => ?_; (try dsimp only at he he' hy)) | (refine Y1 fun y he hy => ?_; (try with_reducible conv at he => (rhs; whnf)); (try dsimp only at he hy)) | (refine All'.mk ?_; intro y hy)) | refine F4 (fun h => ?_) fun h => ?_ | refine R1 ?_ | refine Q1 ?_ | fail)); all_goals (conv => whnf))
    refine CallP.mk (C := drightC) c ?_
    ((repeat' ((conv => whnf) <;> first | exact True.intro | (guard_target =~ Fork _ _ _; first | refine F1 ?_ | refine F2 ?_ | refine F3 (fun h => ?_) fun h => ?_) | (guard_target =~ Ar _ _ _; first | refine A1 ?_ | refine A2 ?_ | refine A3 ?_) | (guard_target =~ AskL _ _; first | refine L1 ?_) | (guard_target =~ Go.Eng.Ask _ _; first | refine K1 ?_) | (guard_target =~ All' _ _; first | (refine Y2 fun y he he' hy => ?_; (try dsimp only at he he' hy)) | (refine Y1 fun y he hy => ?_; (try with_reducible conv at he => (rhs; whnf)); (try dsimp only at he hy)) | (refine All'.mk ?_; intro y hy)) | refine F4 (fun h => ?_) fun h => ?_ | refine R1 ?_ | refine Q1 ?_ | fail)); all_goals (conv => whnf))
    clear he
    refine Some'.mk ⟨0, 0⟩ ?_
    ((repeat' ((conv => whnf) <;> first | exact True.intro | (guard_target =~ Fork _ _ _; first | refine F1 ?_ | refine F2 ?_ | refine F3 (fun h => ?_) fun h => ?_) | (guard_target =~ Ar _ _ _; first | refine A1 ?_ | refine A2 ?_ | refine A3 ?_) | (guard_target =~ AskL _ _; first | refine L1 ?_) | (guard_target =~ Go.Eng.Ask _ _; first | refine K1 ?_) | (guard_target =~ All' _ _; first | (refine Y2 fun y he he' hy => ?_; (try dsimp only at he he' hy)) | (refine Y1 fun y he hy => ?_; (try with_reducible conv at he => (rhs; whnf)); (try dsimp only at he hy)) | (refine All'.mk ?_; intro y hy)) | refine F4 (fun h => ?_) fun h => ?_ | refine R1 ?_ | refine Q1 ?_ | fail)); all_goals (conv => whnf))
    refine Ask.mk ⟨Nat.zero_le _, ht⟩ ?_
    ((repeat' ((conv => whnf) <;> first | exact True.intro | (guard_target =~ Fork _ _ _; first | refine F1 ?_ | refine F2 ?_ | refine F3 (fun h => ?_) fun h => ?_) | (guard_target =~ Ar _ _ _; first | refine A1 ?_ | refine A2 ?_ | refine A3 ?_) | (guard_target =~ AskL _ _; first | refine L1 ?_) | (guard_target =~ Go.Eng.Ask _ _; first | refine K1 ?_) | (guard_target =~ All' _ _; first | (refine Y2 fun y he he' hy => ?_; (try dsimp only at he he' hy)) | (refine Y1 fun y he hy => ?_; (try with_reducible conv at he => (rhs; whnf)); (try dsimp only at he hy)) | (refine All'.mk ?_; intro y hy)) | refine F4 (fun h => ?_) fun h => ?_ | refine R1 ?_ | refine Q1 ?_ | fail)); all_goals (conv => whnf))
    refine AllI.mk ?_
    rintro ⟨i, n⟩ ⟨h1, h2⟩
    dsimp only at h1 h2
    clear ht
    rcases Nat.lt_or_ge i c.length with hlt | hge
    · obtain ⟨⟨m, f, t⟩, hr⟩ := get_ex hlt
      rw [topF_step hr] at h2
      dsimp only at h2
      by_cases hm : m = node
      · rw [if_pos hm] at h2
        ((repeat' ((conv => whnf) <;> first | exact True.intro | (guard_target =~ Fork _ _ _; first | refine F1 ?_ | refine F2 ?_ | refine F3 (fun h => ?_) fun h => ?_) | (guard_target =~ Ar _ _ _; first | refine A1 ?_ | refine A2 ?_ | refine A3 ?_) | (guard_target =~ AskL _ _; first | refine L1 ?_) | (guard_target =~ Go.Eng.Ask _ _; first | refine K1 ?_) | (guard_target =~ All' _ _; first | (refine Y2 fun y he he' hy => ?_; (try dsimp only at he he' hy)) | (refine Y1 fun y he hy => ?_; (try with_reducible conv at he => (rhs; whnf)); (try dsimp only at he hy))) | refine F4 (fun h => ?_) fun h => ?_ | refine R1 ?_ | refine Q1 ?_ | fail)); all_goals (conv => whnf))
        refine All'.mk ?_
        rintro (y : Run) hy
        obtain rfl : (m, f, t) = y := Option.some.inj (hr.symm.trans hy)
        clear hy
        ((repeat' ((conv => whnf) <;> first | exact True.intro | (guard_target =~ Fork _ _ _; first | refine F1 ?_ | refine F2 ?_ | refine F3 (fun h => ?_) fun h => ?_) | (guard_target =~ Ar _ _ _; first | refine A1 ?_ | refine A2 ?_ | refine A3 ?_) | (guard_target =~ AskL _ _; first | refine L1 ?_) | (guard_target =~ Go.Eng.Ask _ _; first | refine K1 ?_) | (guard_target =~ All' _ _; first | (refine Y2 fun y he he' hy => ?_; (try dsimp only at he he' hy)) | (refine Y1 fun y he hy => ?_; (try with_reducible conv at he => (rhs; whnf)); (try dsimp only at he hy))) | refine F4 (fun h => ?_) fun h => ?_ | refine R1 ?_ | refine Q1 ?_ | fail)); all_goals (conv => whnf))
        refine Some'.mk ⟨i + 1, t⟩ ?_
        exact G1
      · rw [if_neg hm] at h2
        ((repeat' ((conv => whnf) <;> first | exact True.intro | (guard_target =~ Fork _ _ _; first | refine F1 ?_ | refine F2 ?_ | refine F3 (fun h => ?_) fun h => ?_) | (guard_target =~ Ar _ _ _; first | refine A1 ?_ | refine A2 ?_ | refine A3 ?_) | (guard_target =~ AskL _ _; first | refine L1 ?_) | (guard_target =~ Go.Eng.Ask _ _; first | refine K1 ?_) | (guard_target =~ All' _ _; first | (refine Y2 fun y he he' hy => ?_; (try dsimp only at he he' hy)) | (refine Y1 fun y he hy => ?_; (try with_reducible conv at he => (rhs; whnf)); (try dsimp only at he hy))) | refine F4 (fun h => ?_) fun h => ?_ | refine R1 ?_ | refine Q1 ?_ | fail)); all_goals (conv => whnf))
        refine All'.mk ?_
        rintro (y : Run) hy
        obtain rfl : (m, f, t) = y := Option.some.inj (hr.symm.trans hy)
        clear hy
        ((repeat' ((conv => whnf) <;> first | exact True.intro | (guard_target =~ Fork _ _ _; first | refine F1 ?_ | refine F2 ?_ | refine F3 (fun h => ?_) fun h => ?_) | (guard_target =~ Ar _ _ _; first | refine A1 ?_ | refine A2 ?_ | refine A3 ?_) | (guard_target =~ AskL _ _; first | refine L1 ?_) | (guard_target =~ Go.Eng.Ask _ _; first | refine K1 ?_) | (guard_target =~ All' _ _; first | (refine Y2 fun y he he' hy => ?_; (try dsimp only at he he' hy)) | (refine Y1 fun y he hy => ?_; (try with_reducible conv at he => (rhs; whnf)); (try dsimp only at he hy))) | refine F4 (fun h => ?_) fun h => ?_ | refine R1 ?_ | refine Q1 ?_ | fail)); all_goals (conv => whnf))
        refine Some'.mk ⟨i + 1, n⟩ ?_
        exact G1
    · have hh : topF node n (c.drop i) = n := by rw [List.drop_eq_nil_of_le hge]; rfl
      rw [hh] at h2
      exact G1
@[reducible] def rdtopL (c : List Run) (node : Int) : LA := {
  X := TopS
  pre := fun s => s.i ≤ c.length ∧ if rightB c = true then topN c node = topG node s.n (c.drop s.i) else s.n = 0
  mu := fun s => c.length - s.i
  T := fun s => [(0, .ro true runT c), (1, .v (.int .i64 node)), (5, .v (.int .i64 s.n)), (8, .ro true runT c), (9, .v (.int .i64 c.length)), (10, .v (.int .i64 s.i))]
  M := fun _ => [] }
theorem rdtop_ok : dtopC.ok Tryz.prog 33 := by
  refine ok_of_vc (An := fun (x : List Run × Int) => anOf [(0, .loop (rdtopL x.1 x.2))]) knownD2 mo Tryz.func33 (by kernel_rfl) (by kernel_rfl) (fun _ _ => trivial) (fun x hs => ?_)
  obtain ⟨c, node⟩ := x
  have hs : c.length ≤ 9223372036854775807 := hs
  cases hb : rightB c with
  | false =>
    have ht := topN_wrong hb node
    have hp0 : if rightB c = true then topN c node = topG node 0 (c.drop 0) else (0 : Int) = 0 := by rw [hb]; rfl
    ((repeat' ((conv => whnf) <;> first | exact True.intro | (guard_target =~ Fork _ _ _; first | refine F1 ?_ | refine F2 ?_ | refine F3 (fun h => ?_) fun h => ?_) | (guard_target =~ Ar _ _ _; first | refine A1 ?_ | refine A2 ?_ | refine A3 ?_) | (guard_target =~ AskL _ _; first | refine L1 ?_) | (guard_target =~ Go.Eng.Ask _ _; first | refine K1 ?_) | (guard_target =~ All' _ _; first | (refine Y2 fun y he he' hy => ?_; (try dsimp only at he he' hy)) | (refine Y1 fun y he hy => ?_; (try with_reducible conv at he => (rhs; whnf)); (try dsimp only at he hy)) | (refine All'.mk ?_; intro y hy)) | refine F4 (fun h => ?_) fun h => ?_ | refine R1 ?_ | refine Q1 ?_ | fail)); all_goals (conv => whnf))
    refine Some'.mk ⟨0, 0⟩ ?_
    ((repeat' ((conv => whnf) <;> first | exact True.intro | (guard_target =~ Fork _ _ _; first | refine F1 ?_ | refine F2 ?_ | refine F3 (fun h => ?_) fun h => ?_) | (guard_target =~ Ar _ _ _; first | refine A1 ?_ | refine A2 ?_ | refine A3 ?_) | (guard_target =~ AskL _ _; first | refine L1 ?_) | (guard_target =~ Go.Eng.Ask _ _; first | refine K1 ?_) | (guard_target =~ All' _ _; first | (refine Y2 fun y he he' hy => ?_; (try dsimp only at he he' hy)) | (refine Y1 fun y he hy => ?_; (try with_reducible conv at he => (rhs; whnf)); (try dsimp only at he hy)) | (refine All'.mk ?_; intro y hy)) | refine F4 (fun h => ?_) fun h => ?_ | refine R1 ?_ | refine Q1 ?_ | fail)); all_goals (conv => whnf))
    refine Ask.mk ⟨Nat.zero_le _, hp0⟩ ?_
    ((repeat' ((conv => whnf) <;> first | exact True.intro | (guard_target =~ Fork _ _ _; first | refine F1 ?_ | refine F2 ?_ | refine F3 (fun h => ?_) fun h => ?_) | (guard_target =~ Ar _ _ _; first | refine A1 ?_ | refine A2 ?_ | refine A3 ?_) | (guard_target =~ AskL _ _; first | refine L1 ?_) | (guard_target =~ Go.Eng.Ask _ _; first | refine K1 ?_) | (guard_target =~ All' _ _; first | (refine Y2 fun y he he' hy => ?_; (try dsimp only at he he' hy)) | (refine Y1 fun y he hy => ?_; (try with_reducible conv at he => (rhs; whnf)); (try dsimp only at he hy)) | (refine All'.mk ?_; intro y hy)) | refine F4 (fun h => ?_) fun h => ?_ | refine R1 ?_ | refine Q1 ?_ | fail)); all_goals (conv => whnf))
    refine AllI.mk ?_
    rintro ⟨i, n⟩ ⟨h1, h2⟩
    dsimp only at h1 h2
    rw [hb] at h2
    obtain rfl : n = 0 := h2
    rcases Nat.lt_or_ge i c.length with hlt | hge
    · obtain ⟨⟨m, f, t⟩, hr⟩ := get_ex hlt
      ((repeat' ((conv => whnf) <;> first | exact True.intro | (guard_target =~ Fork _ _ _; first | refine F1 ?_ | refine F2 ?_ | refine F3 (fun h => ?_) fun h => ?_) | (guard_target =~ Ar _ _ _; first | refine A1 ?_ | refine A2 ?_ | refine A3 ?_) | (guard_target =~ AskL _ _; first | refine L1 ?_) | (guard_target =~ Go.Eng.Ask _ _; first | refine K1 ?_) | (guard_target =~ All' _ _; first | (refine Y2 fun y he he' hy => ?_; (try dsimp only at he he' hy)) | (refine Y1 fun y he hy => ?_; (try with_reducible conv at he => (rhs; whnf)); (try dsimp only at he hy))) | refine F4 (fun h => ?_) fun h => ?_ | refine R1 ?_ | refine Q1 ?_ | fail)); all_goals (conv => whnf))
      refine All'.mk ?_
      rintro (y : Run) hy
      obtain rfl : (m, f, t) = y := Option.some.inj (hr.symm.trans hy)
      clear hy
      ((repeat' ((conv => whnf) <;> first | exact True.intro | (guard_target =~ Fork _ _ _; first | refine F1 ?_ | refine F2 ?_ | refine F3 (fun h => ?_) fun h => ?_) | (guard_target =~ Ar _ _ _; first | refine A1 ?_ | refine A2 ?_ | refine A3 ?_) | (guard_target =~ AskL _ _; first | refine L1 ?_) | (guard_target =~ Go.Eng.Ask _ _; first | refine K1 ?_) | (guard_target =~ All' _ _; first | (refine Y2 fun y he he' hy => ?_; (try dsimp only at he he' hy)) | (refine Y1 fun y he hy => ?_; (try with_reducible conv at he => (rhs; whnf)); (try dsimp only at he hy))) | refine F4 (fun h => ?_) fun h => ?_ | refine R1 ?_ | refine Q1 ?_ | fail)); all_goals (conv => whnf))
      all_goals
        try
          refine CallP.mk (C := drightC) c ?_
          ((repeat' ((conv => whnf) <;> first | exact True.intro | (guard_target =~ Fork _ _ _; first | refine F1 ?_ | refine F2 ?_ | refine F3 (fun h => ?_) fun h => ?_) | (guard_target =~ Ar _ _ _; first | refine A1 ?_ | refine A2 ?_ | refine A3 ?_) | (guard_target =~ AskL _ _; first | refine L1 ?_) | (guard_target =~ Go.Eng.Ask _ _; first | refine K1 ?_) | (guard_target =~ All' _ _; first | (refine Y2 fun y he he' hy => ?_; (try dsimp only at he he' hy)) | (refine Y1 fun y he hy => ?_; (try with_reducible conv at he => (rhs; whnf)); (try dsimp only at he hy)) | (refine All'.mk ?_; intro y hy)) | refine F4 (fun h => ?_) fun h => ?_ | refine R1 ?_ | refine Q1 ?_ | fail)); all_goals (conv => whnf))
      all_goals
        refine Some'.mk ⟨i + 1, 0⟩ ?_
        ((repeat' ((conv => whnf) <;> first | exact True.intro | (guard_target =~ Fork _ _ _; first | refine F1 ?_ | refine F2 ?_ | refine F3 (fun h => ?_) fun h => ?_) | (guard_target =~ Ar _ _ _; first | refine A1 ?_ | refine A2 ?_ | refine A3 ?_) | (guard_target =~ AskL _ _; first | refine L1 ?_) | (guard_target =~ Go.Eng.Ask _ _; first | refine K1 ?_) | (guard_target =~ All' _ _; first | (refine Y2 fun y he he' hy => ?_; (try dsimp only at he he' hy)) | (refine Y1 fun y he hy => ?_; (try with_reducible conv at he => (rhs; whnf)); (try dsimp only at he hy)) | (refine All'.mk ?_; intro y hy)) | refine F4 (fun h => ?_) fun h => ?_ | refine R1 ?_ | refine Q1 ?_ | fail)); all_goals (conv => whnf))
        refine Ask.mk ⟨hlt, by rw [if_neg (by rw [hb]; exact Bool.false_ne_true)]⟩ ?_
        ((repeat' ((conv => whnf) <;> first | exact True.intro | (guard_target =~ Fork _ _ _; first | refine F1 ?_ | refine F2 ?_ | refine F3 (fun h => ?_) fun h => ?_) | (guard_target =~ Ar _ _ _; first | refine A1 ?_ | refine A2 ?_ | refine A3 ?_) | (guard_target =~ AskL _ _; first | refine L1 ?_) | (guard_target =~ Go.Eng.Ask _ _; first | refine K1 ?_) | (guard_target =~ All' _ _; first | (refine Y2 fun y he he' hy => ?_; (try dsimp only at he he' hy)) | (refine Y1 fun y he hy => ?_; (try with_reducible conv at he => (rhs; whnf)); (try dsimp only at he hy)) | (refine All'.mk ?_; intro y hy)) | refine F4 (fun h => ?_) fun h => ?_ | refine R1 ?_ | refine Q1 ?_ | fail)); all_goals (conv => whnf))
    · exact G1
  | true =>
    have ht := topN_ref hb node
    have hp0 : if rightB c = true then topN c node = topG node 0 (c.drop 0) else (0 : Int) = 0 := by rw [if_pos hb]; exact ht
    ((repeat' ((conv => whnf) <;> first | exact True.intro | (guard_target =~ Fork _ _ _; first | refine F1 ?_ | refine F2 ?_ | refine F3 (fun h => ?_) fun h => ?_) | (guard_target =~ Ar _ _ _; first | refine A1 ?_ | refine A2 ?_ | refine A3 ?_) | (guard_target =~ AskL _ _; first | refine L1 ?_) | (guard_target =~ Go.Eng.Ask _ _; first | refine K1 ?_) | (guard_target =~ All' _ _; first | (refine Y2 fun y he he' hy => ?_; (try dsimp only at he he' hy)) | (refine Y1 fun y he hy => ?_; (try with_reducible conv at he => (rhs; whnf)); (try dsimp only at he hy)) | (refine All'.mk ?_; intro y hy)) | refine F4 (fun h => ?_) fun h => ?_ | refine R1 ?_ | refine Q1 ?_ | fail)); all_goals (conv => whnf))
    refine Some'.mk ⟨0, 0⟩ ?_
    ((repeat' ((conv => whnf) <;> first | exact True.intro | (guard_target =~ Fork _ _ _; first | refine F1 ?_ | refine F2 ?_ | refine F3 (fun h => ?_) fun h => ?_) | (guard_target =~ Ar _ _ _; first | refine A1 ?_ | refine A2 ?_ | refine A3 ?_) | (guard_target =~ AskL _ _; first | refine L1 ?_) | (guard_target =~ Go.Eng.Ask _ _; first | refine K1 ?_) | (guard_target =~ All' _ _; first | (refine Y2 fun y he he' hy => ?_; (try dsimp only at he he' hy)) | (refine Y1 fun y he hy => ?_; (try with_reducible conv at he => (rhs; whnf)); (try dsimp only at he hy)) | (refine All'.mk ?_; intro y hy)) | refine F4 (fun h => ?_) fun h => ?_ | refine R1 ?_ | refine Q1 ?_ | fail)); all_goals (conv => whnf))
    refine Ask.mk ⟨Nat.zero_le _, hp0⟩ ?_
    ((repeat' ((conv => whnf) <;> first | exact True.intro | (guard_target =~ Fork _ _ _; first | refine F1 ?_ | refine F2 ?_ | refine F3 (fun h => ?_) fun h => ?_) | (guard_target =~ Ar _ _ _; first | refine A1 ?_ | refine A2 ?_ | refine A3 ?_) | (guard_target =~ AskL _ _; first | refine L1 ?_) | (guard_target =~ Go.Eng.Ask _ _; first | refine K1 ?_) | (guard_target =~ All' _ _; first | (refine Y2 fun y he he' hy => ?_; (try dsimp only at he he' hy)) | (refine Y1 fun y he hy => ?_; (try with_reducible conv at he => (rhs; whnf)); (try dsimp only at he hy)) | (refine All'.mk ?_; intro y hy)) | refine F4 (fun h => ?_) fun h => ?_ | refine R1 ?_ | refine Q1 ?_ | fail)); all_goals (conv => whnf))
    refine AllI.mk ?_
    rintro ⟨i, n⟩ ⟨h1, h2⟩
    dsimp only at h1 h2
    rw [if_pos hb] at h2
    clear ht hp0
    rcases Nat.lt_or_ge i c.length with hlt | hge
    · obtain ⟨⟨m, f, t⟩, hr⟩ := get_ex hlt
      rw [topG_step hr] at h2
      dsimp only at h2
      by_cases hm : m = node ∧ n < t
      · rw [if_pos hm] at h2
        have hp1 : if rightB c = true then topN c node = topG node t (c.drop (i + 1)) else t = 0 := by rw [if_pos hb]; exact h2
        obtain ⟨hm1, hm2⟩ := hm
        ((repeat' ((conv => whnf) <;> first | exact True.intro | (guard_target =~ Fork _ _ _; first | refine F1 ?_ | refine F2 ?_ | refine F3 (fun h => ?_) fun h => ?_) | (guard_target =~ Ar _ _ _; first | refine A1 ?_ | refine A2 ?_ | refine A3 ?_) | (guard_target =~ AskL _ _; first | refine L1 ?_) | (guard_target =~ Go.Eng.Ask _ _; first | refine K1 ?_) | (guard_target =~ All' _ _; first | (refine Y2 fun y he he' hy => ?_; (try dsimp only at he he' hy)) | (refine Y1 fun y he hy => ?_; (try with_reducible conv at he => (rhs; whnf)); (try dsimp only at he hy))) | refine F4 (fun h => ?_) fun h => ?_ | refine R1 ?_ | refine Q1 ?_ | fail)); all_goals (conv => whnf))
        refine All'.mk ?_
        rintro (y : Run) hy
        obtain rfl : (m, f, t) = y := Option.some.inj (hr.symm.trans hy)
        clear hy
        ((repeat' ((conv => whnf) <;> first | exact True.intro | (guard_target =~ Fork _ _ _; first | refine F1 ?_ | refine F2 ?_ | refine F3 (fun h => ?_) fun h => ?_) | (guard_target =~ Ar _ _ _; first | refine A1 ?_ | refine A2 ?_ | refine A3 ?_) | (guard_target =~ AskL _ _; first | refine L1 ?_) | (guard_target =~ Go.Eng.Ask _ _; first | refine K1 ?_) | (guard_target =~ All' _ _; first | (refine Y2 fun y he he' hy => ?_; (try dsimp only at he he' hy)) | (refine Y1 fun y he hy => ?_; (try with_reducible conv at he => (rhs; whnf)); (try dsimp only at he hy))) | refine F4 (fun h => ?_) fun h => ?_ | refine R1 ?_ | refine Q1 ?_ | fail)); all_goals (conv => whnf))
        refine CallP.mk (C := drightC) c ?_
        ((repeat' ((conv => whnf) <;> first | exact True.intro | (guard_target =~ Fork _ _ _; first | refine F1 ?_ | refine F2 ?_ | refine F3 (fun h => ?_) fun h => ?_) | (guard_target =~ Ar _ _ _; first | refine A1 ?_ | refine A2 ?_ | refine A3 ?_) | (guard_target =~ AskL _ _; first | refine L1 ?_) | (guard_target =~ Go.Eng.Ask _ _; first | refine K1 ?_) | (guard_target =~ All' _ _; first | (refine Y2 fun y he he' hy => ?_; (try dsimp only at he he' hy)) | (refine Y1 fun y he hy => ?_; (try with_reducible conv at he => (rhs; whnf)); (try dsimp only at he hy)) | (refine All'.mk ?_; intro y hy)) | refine F4 (fun h => ?_) fun h => ?_ | refine R1 ?_ | refine Q1 ?_ | fail)); all_goals (conv => whnf))
        refine Some'.mk ⟨i + 1, t⟩ ?_
        exact G1
      · rw [if_neg hm] at h2
        have hp1 : if rightB c = true then topN c node = topG node n (c.drop (i + 1)) else n = 0 := by rw [if_pos hb]; exact h2
        ((repeat' ((conv => whnf) <;> first | exact True.intro | (guard_target =~ Fork _ _ _; first | refine F1 ?_ | refine F2 ?_ | refine F3 (fun h => ?_) fun h => ?_) | (guard_target =~ Ar _ _ _; first | refine A1 ?_ | refine A2 ?_ | refine A3 ?_) | (guard_target =~ AskL _ _; first | refine L1 ?_) | (guard_target =~ Go.Eng.Ask _ _; first | refine K1 ?_) | (guard_target =~ All' _ _; first | (refine Y2 fun y he he' hy => ?_; (try dsimp only at he he' hy)) | (refine Y1 fun y he hy => ?_; (try with_reducible conv at he => (rhs; whnf)); (try dsimp only at he hy))) | refine F4 (fun h => ?_) fun h => ?_ | refine R1 ?_ | refine Q1 ?_ | fail)); all_goals (conv => whnf))
        refine All'.mk ?_
        rintro (y : Run) hy
        obtain rfl : (m, f, t) = y := Option.some.inj (hr.symm.trans hy)
        clear hy
        ((repeat' ((conv => whnf) <;> first | exact True.intro | (guard_target =~ Fork _ _ _; first | refine F1 ?_ | refine F2 ?_ | refine F3 (fun h => ?_) fun h => ?_) | (guard_target =~ Ar _ _ _; first | refine A1 ?_ | refine A2 ?_ | refine A3 ?_) | (guard_target =~ AskL _ _; first | refine L1 ?_) | (guard_target =~ Go.Eng.Ask _ _; first | refine K1 ?_) | (guard_target =~ All' _ _; first | (refine Y2 fun y he he' hy => ?_; (try dsimp only at he he' hy)) | (refine Y1 fun y he hy => ?_; (try with_reducible conv at he => (rhs; whnf)); (try dsimp only at he hy))) | refine F4 (fun h => ?_) fun h => ?_ | refine R1 ?_ | refine Q1 ?_ | fail)); all_goals (conv => whnf))
        all_goals
          refine Some'.mk ⟨i + 1, n⟩ ?_
          ((repeat' ((conv => whnf) <;> first | exact True.intro | (guard_target =~ Fork _ _ _; first | refine F1 ?_ | refine F2 ?_ | refine F3 (fun h => ?_) fun h => ?_) | (guard_target =~ Ar _ _ _; first | refine A1 ?_ | refine A2 ?_ | refine A3 ?_) | (guard_target =~ AskL _ _; first | refine L1 ?_) | (guard_target =~ Go.Eng.Ask _ _; first | refine K1 ?_) | (guard_target =~ All' _ _; first | (refine Y2 fun y he he' hy => ?_; (try dsimp only at he he' hy)) | (refine Y1 fun y he hy => ?_; (try with_reducible conv at he => (rhs; whnf)); (try dsimp only at he hy)) | (refine All'.mk ?_; intro y hy)) | refine F4 (fun h => ?_) fun h => ?_ | refine R1 ?_ | refine Q1 ?_ | fail)); all_goals (conv => whnf))
    · have hh : topG node n (c.drop i) = n := by rw [List.drop_eq_nil_of_le hge]; rfl
      rw [hh] at h2
      exact G1
end Go.Proofs.YtoaaieiiamdopaaGreatDoor

set_option linter.unusedVariables false
set_option linter.unusedSimpArgs false
set_option maxRecDepth 100000
set_option maxHeartbeats 4000000
namespace Go.Proofs.YtoaaieiiamdopaaGreatDoor
open Go.Eng
variable [DM]
set_option linter.unusedSectionVars false
@[reducible] def damongC : Ctr := {
  X := List Run × Dot
  Y := Unit
  args := fun x => [.ro true runT x.1, .agg (dotS x.2)]
  rw := fun _ => []
  side := fun x => x.1.length ≤ 274877906944
  val := fun _ => ()
  ens := fun _ _ => True
  res := fun x _ => .v (.bool (inB x.1 x.2))
  out := fun _ _ => [] }
theorem knownE1 : Known Tryz.prog (gOf [(90, hasAmC)]) := known_cons ⟨hasAm_ok, Tryz.call90⟩ (known_nil _)
theorem damong_ok : damongC.ok Tryz.prog 68 := by
  refine ok_of_vc (An := fun _ => anOf []) knownE1 mo Tryz.func68 (by kernel_rfl) (by kernel_rfl) (fun _ _ => trivial) (fun x hs => ?_)
  obtain ⟨c, d⟩ := x
  have hs : c.length ≤ 274877906944 := hs
  have hg : ∀ e, e ∈ c → goodAny e := fun _ _ => trivial
  have hi : inB c d = c.any (predAm d) := rfl
  ((repeat' ((conv => whnf) <;> first | exact True.intro | (guard_target =~ Fork _ _ _; first | refine F1 ?_ | refine F2 ?_ | refine F3 (fun h => ?_) fun h => ?_) | (guard_target =~ Ar _ _ _; first | refine A1 ?_ | refine A2 ?_ | refine A3 ?_) | (guard_target =~ AskL _ _; first | refine L1 ?_) | (guard_target =~ Go.Eng.Ask _ _; first | refine K1 ?_) | (guard_target =~ All' _ _; first | (refine Y2 fun y he he' hy => ?_; (try dsimp only at he he' hy)) | (refine Y1 fun y he hy => ?_; (try with_reducible conv at he => (rhs; whnf)); (try dsimp only at he hy)) | (refine All'.mk ?_; intro y hy)) | refine F4 (fun h => ?_) fun h => ?_ | refine R1 ?_ | refine Q1 ?_ | fail)); all_goals (conv => whnf))
  refine CallP.mk (C := hasAmC) (c, d) ?_
  exact G1
def hasB (c : List Run) (d : Dot) : Bool := rightB c && goodB d && inB c d
@[reducible] def dhasC : Ctr := {
  X := List Run × Dot
  Y := Unit
  args := fun x => [.ro true runT x.1, .agg (dotS x.2)]
  rw := fun _ => []
  side := fun x => x.1.length ≤ 274877906944
  val := fun _ => ()
  ens := fun _ _ => True
  res := fun x _ => .v (.bool (hasB x.1 x.2))
  out := fun _ _ => [] }
theorem knownE2 : Known Tryz.prog (gOf [(24, drightC), (30, dgoodC), (68, damongC)]) :=
  known_cons ⟨dright_ok, Tryz.call24⟩ (known_cons ⟨dgood_ok, Tryz.call30⟩ (known_cons ⟨damong_ok, Tryz.call68⟩ (known_nil _)))
theorem dhas_ok : dhasC.ok Tryz.prog 34 := by
  refine ok_of_vc (An := fun _ => anOf []) knownE2 mo Tryz.func34 (by kernel_rfl) (by kernel_rfl) (fun _ _ => trivial) (fun x hs => ?_)
  obtain ⟨c, d⟩ := x
  have hs : c.length ≤ 274877906944 := hs
  have hh : hasB c d = (rightB c && goodB d && inB c d) := rfl
  cases h1 : rightB c with
  | false =>
    rw [h1, Bool.false_and, Bool.false_and] at hh
    have lm := h1
    ((repeat' ((conv => whnf) <;> first | exact True.intro | (guard_target =~ Fork _ _ _; first | refine F1 ?_ | refine F2 ?_ | refine F3 (fun h => ?_) fun h => ?_) | (guard_target =~ Ar _ _ _; first | refine A1 ?_ | refine A2 ?_ | refine A3 ?_) | (guard_target =~ AskL _ _; first | refine L1 ?_) | (guard_target =~ Go.Eng.Ask _ _; first | refine K1 ?_) | (guard_target =~ All' _ _; first | (refine Y2 fun y he he' hy => ?_; (try dsimp only at he he' hy)) | (refine Y1 fun y he hy => ?_; (try with_reducible conv at he => (rhs; whnf)); (try dsimp only at he hy)) | (refine All'.mk ?_; intro y hy)) | refine F4 (fun h => ?_) fun h => ?_ | refine R1 ?_ | refine Q1 ?_ | fail)); all_goals (conv => whnf))
    refine CallP.mk (C := drightC) c ?_
    exact G1
  | true =>
    cases h2 : goodB d with
    | false =>
      rw [h1, h2, Bool.true_and, Bool.false_and] at hh
      have lm := And.intro h1 h2
      ((repeat' ((conv => whnf) <;> first | exact True.intro | (guard_target =~ Fork _ _ _; first | refine F1 ?_ | refine F2 ?_ | refine F3 (fun h => ?_) fun h => ?_) | (guard_target =~ Ar _ _ _; first | refine A1 ?_ | refine A2 ?_ | refine A3 ?_) | (guard_target =~ AskL _ _; first | refine L1 ?_) | (guard_target =~ Go.Eng.Ask _ _; first | refine K1 ?_) | (guard_target =~ All' _ _; first | (refine Y2 fun y he he' hy => ?_; (try dsimp only at he he' hy)) | (refine Y1 fun y he hy => ?_; (try with_reducible conv at he => (rhs; whnf)); (try dsimp only at he hy)) | (refine All'.mk ?_; intro y hy)) | refine F4 (fun h => ?_) fun h => ?_ | refine R1 ?_ | refine Q1 ?_ | fail)); all_goals (conv => whnf))
      refine CallP.mk (C := drightC) c ?_
      ((repeat' ((conv => whnf) <;> first | exact True.intro | (guard_target =~ Fork _ _ _; first | refine F1 ?_ | refine F2 ?_ | refine F3 (fun h => ?_) fun h => ?_) | (guard_target =~ Ar _ _ _; first | refine A1 ?_ | refine A2 ?_ | refine A3 ?_) | (guard_target =~ AskL _ _; first | refine L1 ?_) | (guard_target =~ Go.Eng.Ask _ _; first | refine K1 ?_) | (guard_target =~ All' _ _; first | (refine Y2 fun y he he' hy => ?_; (try dsimp only at he he' hy)) | (refine Y1 fun y he hy => ?_; (try with_reducible conv at he => (rhs; whnf)); (try dsimp only at he hy)) | (refine All'.mk ?_; intro y hy)) | refine F4 (fun h => ?_) fun h => ?_ | refine R1 ?_ | refine Q1 ?_ | fail)); all_goals (conv => whnf))
      refine CallP.mk (C := dgoodC) d ?_
      exact G1
    | true =>
      rw [h1, h2, Bool.true_and, Bool.true_and] at hh
      have lm := And.intro h1 h2
      ((repeat' ((conv => whnf) <;> first | exact True.intro | (guard_target =~ Fork _ _ _; first | refine F1 ?_ | refine F2 ?_ | refine F3 (fun h => ?_) fun h => ?_) | (guard_target =~ Ar _ _ _; first | refine A1 ?_ | refine A2 ?_ | refine A3 ?_) | (guard_target =~ AskL _ _; first | refine L1 ?_) | (guard_target =~ Go.Eng.Ask _ _; first | refine K1 ?_) | (guard_target =~ All' _ _; first | (refine Y2 fun y he he' hy => ?_; (try dsimp only at he he' hy)) | (refine Y1 fun y he hy => ?_; (try with_reducible conv at he => (rhs; whnf)); (try dsimp only at he hy)) | (refine All'.mk ?_; intro y hy)) | refine F4 (fun h => ?_) fun h => ?_ | refine R1 ?_ | refine Q1 ?_ | fail)); all_goals (conv => whnf))
      refine CallP.mk (C := drightC) c ?_
      ((repeat' ((conv => whnf) <;> first | exact True.intro | (guard_target =~ Fork _ _ _; first | refine F1 ?_ | refine F2 ?_ | refine F3 (fun h => ?_) fun h => ?_) | (guard_target =~ Ar _ _ _; first | refine A1 ?_ | refine A2 ?_ | refine A3 ?_) | (guard_target =~ AskL _ _; first | refine L1 ?_) | (guard_target =~ Go.Eng.Ask _ _; first | refine K1 ?_) | (guard_target =~ All' _ _; first | (refine Y2 fun y he he' hy => ?_; (try dsimp only at he he' hy)) | (refine Y1 fun y he hy => ?_; (try with_reducible conv at he => (rhs; whnf)); (try dsimp only at he hy)) | (refine All'.mk ?_; intro y hy)) | refine F4 (fun h => ?_) fun h => ?_ | refine R1 ?_ | refine Q1 ?_ | fail)); all_goals (conv => whnf))
      refine CallP.mk (C := dgoodC) d ?_
      ((repeat' ((conv => whnf) <;> first | exact True.intro | (guard_target =~ Fork _ _ _; first | refine F1 ?_ | refine F2 ?_ | refine F3 (fun h => ?_) fun h => ?_) | (guard_target =~ Ar _ _ _; first | refine A1 ?_ | refine A2 ?_ | refine A3 ?_) | (guard_target =~ AskL _ _; first | refine L1 ?_) | (guard_target =~ Go.Eng.Ask _ _; first | refine K1 ?_) | (guard_target =~ All' _ _; first | (refine Y2 fun y he he' hy => ?_; (try dsimp only at he he' hy)) | (refine Y1 fun y he hy => ?_; (try with_reducible conv at he => (rhs; whnf)); (try dsimp only at he hy)) | (refine All'.mk ?_; intro y hy)) | refine F4 (fun h => ?_) fun h => ?_ | refine R1 ?_ | refine Q1 ?_ | fail)); all_goals (conv => whnf))
      refine CallP.mk (C := damongC) (c, d) ?_
      exact G1
@[reducible] def rdhasL (x : List Run × Dot) : LA := {
  X := Nat
  pre := fun i => i ≤ x.1.length ∧ ∀ r, r ∈ x.1.take i → ¬ inR r x.2
  mu := fun i => x.1.length - i
  T := fun i => [(0, .ro true runT x.1), (3, .ptr 3 0), (7, .ro true runT x.1), (8, .v (.int .i64 x.1.length)), (9, .v (.int .i64 (i : Nat)))]
  M := fun _ => [(3, .cells 25 (dotS x.2))] }
theorem knownE3 : Known Tryz.prog (gOf [(11, drightC), (31, dgoodC)]) :=
  known_cons ⟨rdright_ok, Tryz.call11⟩ (known_cons ⟨rgood_ok, Tryz.call31⟩ (known_nil _))
theorem rdhas_ok : dhasC.ok Tryz.prog 35 := by
  refine ok_of_vc (An := fun x => anOf [(0, .loop (rdhasL x))]) knownE3 mo Tryz.func35 (by kernel_rfl) (by kernel_rfl) (fun _ _ => trivial) (fun x hs => ?_)
  obtain ⟨c, ⟨a, n⟩⟩ := x
  have hs : c.length ≤ 274877906944 := hs
  have hh : hasB c (a, n) = (rightB c && goodB (a, n) && inB c (a, n)) := rfl
  ((repeat' ((conv => whnf) <;> first | exact True.intro | (guard_target =~ Fork _ _ _; first | refine F1 ?_ | refine F2 ?_ | refine F3 (fun h => ?_) fun h => ?_) | (guard_target =~ Ar _ _ _; first | refine A1 ?_ | refine A2 ?_ | refine A3 ?_) | (guard_target =~ AskL _ _; first | refine L1 ?_) | (guard_target =~ Go.Eng.Ask _ _; first | refine K1 ?_) | (guard_target =~ All' _ _; first | (refine Y2 fun y he he' hy => ?_; (try dsimp only at he he' hy)) | (refine Y1 fun y he hy => ?_; (try with_reducible conv at he => (rhs; whnf)); (try dsimp only at he hy)) | (refine All'.mk ?_; intro y hy)) | refine F4 (fun h => ?_) fun h => ?_ | refine R1 ?_ | refine Q1 ?_ | fail)); all_goals (conv => whnf))
  refine Some'.mk (0 : Nat) ?_
  ((repeat' ((conv => whnf) <;> first | exact True.intro | (guard_target =~ Fork _ _ _; first | refine F1 ?_ | refine F2 ?_ | refine F3 (fun h => ?_) fun h => ?_) | (guard_target =~ Ar _ _ _; first | refine A1 ?_ | refine A2 ?_ | refine A3 ?_) | (guard_target =~ AskL _ _; first | refine L1 ?_) | (guard_target =~ Go.Eng.Ask _ _; first | refine K1 ?_) | (guard_target =~ All' _ _; first | (refine Y2 fun y he he' hy => ?_; (try dsimp only at he he' hy)) | (refine Y1 fun y he hy => ?_; (try with_reducible conv at he => (rhs; whnf)); (try dsimp only at he hy)) | (refine All'.mk ?_; intro y hy)) | refine F4 (fun h => ?_) fun h => ?_ | refine R1 ?_ | refine Q1 ?_ | fail)); all_goals (conv => whnf))
  refine Ask.mk ⟨Nat.zero_le _, fun r hr => nomatch hr⟩ ?_
  refine AllI.mk ?_
  rintro (i : Nat) ⟨h1, h2⟩
  have h1 : i ≤ c.length := h1
  have h2 : ∀ r, r ∈ c.take i → ¬ inR r (a, n) := h2
  by_cases hi : i = c.length
  · subst hi
    rw [List.take_length] at h2
    have hf : inB c (a, n) = false := by
      cases h : inB c (a, n) with
      | false => rfl
      | true => obtain ⟨r, hr, hd⟩ := inB_iff.1 h; exact absurd hd (h2 r hr)
    rw [hf, Bool.and_false] at hh
    exact G1
  · obtain ⟨⟨m, f, t⟩, he⟩ : ∃ e, c[i]? = some e := ⟨_, List.getElem?_eq_getElem (by omega)⟩
    have ht := take_sn he
    by_cases hin : inR (m, f, t) (a, n)
    · have hf : inB c (a, n) = true := inB_iff.2 ⟨_, List.mem_of_getElem? he, hin⟩
      rw [hf, Bool.and_true] at hh
      obtain ⟨q1, q2, q3⟩ : m = a ∧ f ≤ n ∧ n ≤ t := hin
      clear h2 ht
      cases h1 : rightB c with
      | false =>
        rw [h1, Bool.false_and] at hh
        have lm := h1
        ((repeat' ((conv => whnf) <;> first | exact True.intro | (guard_target =~ Fork _ _ _; first | refine F1 ?_ | refine F2 ?_ | refine F3 (fun h => ?_) fun h => ?_) | (guard_target =~ Ar _ _ _; first | refine A1 ?_ | refine A2 ?_ | refine A3 ?_) | (guard_target =~ AskL _ _; first | refine L1 ?_) | (guard_target =~ Go.Eng.Ask _ _; first | refine K1 ?_) | (guard_target =~ All' _ _; first | (refine Y2 fun y he he' hy => ?_; (try dsimp only at he he' hy)) | (refine Y1 fun y he hy => ?_; (try with_reducible conv at he => (rhs; whnf)); (try dsimp only at he hy))) | refine F4 (fun h => ?_) fun h => ?_ | refine R1 ?_ | refine Q1 ?_ | fail)); all_goals (conv => whnf))
        refine All'.mk ?_; rintro (e' : Run) he'
        obtain rfl : (m, f, t) = e' := Option.some.inj (he.symm.trans he')
        ((repeat' ((conv => whnf) <;> first | exact True.intro | (guard_target =~ Fork _ _ _; first | refine F1 ?_ | refine F2 ?_ | refine F3 (fun h => ?_) fun h => ?_) | (guard_target =~ Ar _ _ _; first | refine A1 ?_ | refine A2 ?_ | refine A3 ?_) | (guard_target =~ AskL _ _; first | refine L1 ?_) | (guard_target =~ Go.Eng.Ask _ _; first | refine K1 ?_) | (guard_target =~ All' _ _; first | (refine Y2 fun y he he' hy => ?_; (try dsimp only at he he' hy)) | (refine Y1 fun y he hy => ?_; (try with_reducible conv at he => (rhs; whnf)); (try dsimp only at he hy)) | (refine All'.mk ?_; intro y hy)) | refine F4 (fun h => ?_) fun h => ?_ | refine R1 ?_ | refine Q1 ?_ | fail)); all_goals (conv => whnf))
        refine CallP.mk (C := drightC) c ?_
        exact G1
      | true =>
        rw [h1, Bool.true_and] at hh
        have lm := h1
        ((repeat' ((conv => whnf) <;> first | exact True.intro | (guard_target =~ Fork _ _ _; first | refine F1 ?_ | refine F2 ?_ | refine F3 (fun h => ?_) fun h => ?_) | (guard_target =~ Ar _ _ _; first | refine A1 ?_ | refine A2 ?_ | refine A3 ?_) | (guard_target =~ AskL _ _; first | refine L1 ?_) | (guard_target =~ Go.Eng.Ask _ _; first | refine K1 ?_) | (guard_target =~ All' _ _; first | (refine Y2 fun y he he' hy => ?_; (try dsimp only at he he' hy)) | (refine Y1 fun y he hy => ?_; (try with_reducible conv at he => (rhs; whnf)); (try dsimp only at he hy))) | refine F4 (fun h => ?_) fun h => ?_ | refine R1 ?_ | refine Q1 ?_ | fail)); all_goals (conv => whnf))
        refine All'.mk ?_; rintro (e' : Run) he'
        obtain rfl : (m, f, t) = e' := Option.some.inj (he.symm.trans he')
        ((repeat' ((conv => whnf) <;> first | exact True.intro | (guard_target =~ Fork _ _ _; first | refine F1 ?_ | refine F2 ?_ | refine F3 (fun h => ?_) fun h => ?_) | (guard_target =~ Ar _ _ _; first | refine A1 ?_ | refine A2 ?_ | refine A3 ?_) | (guard_target =~ AskL _ _; first | refine L1 ?_) | (guard_target =~ Go.Eng.Ask _ _; first | refine K1 ?_) | (guard_target =~ All' _ _; first | (refine Y2 fun y he he' hy => ?_; (try dsimp only at he he' hy)) | (refine Y1 fun y he hy => ?_; (try with_reducible conv at he => (rhs; whnf)); (try dsimp only at he hy)) | (refine All'.mk ?_; intro y hy)) | refine F4 (fun h => ?_) fun h => ?_ | refine R1 ?_ | refine Q1 ?_ | fail)); all_goals (conv => whnf))
        refine CallP.mk (C := drightC) c ?_
        ((repeat' ((conv => whnf) <;> first | exact True.intro | (guard_target =~ Fork _ _ _; first | refine F1 ?_ | refine F2 ?_ | refine F3 (fun h => ?_) fun h => ?_) | (guard_target =~ Ar _ _ _; first | refine A1 ?_ | refine A2 ?_ | refine A3 ?_) | (guard_target =~ AskL _ _; first | refine L1 ?_) | (guard_target =~ Go.Eng.Ask _ _; first | refine K1 ?_) | (guard_target =~ All' _ _; first | (refine Y2 fun y he he' hy => ?_; (try dsimp only at he he' hy)) | (refine Y1 fun y he hy => ?_; (try with_reducible conv at he => (rhs; whnf)); (try dsimp only at he hy)) | (refine All'.mk ?_; intro y hy)) | refine F4 (fun h => ?_) fun h => ?_ | refine R1 ?_ | refine Q1 ?_ | fail)); all_goals (conv => whnf))
        refine CallP.mk (C := dgoodC) (a, n) ?_
        exact G1
    · have hin' : ¬ (m = a ∧ f ≤ n ∧ n ≤ t) := hin
      ((repeat' ((conv => whnf) <;> first | exact True.intro | (guard_target =~ Fork _ _ _; first | refine F1 ?_ | refine F2 ?_ | refine F3 (fun h => ?_) fun h => ?_) | (guard_target =~ Ar _ _ _; first | refine A1 ?_ | refine A2 ?_ | refine A3 ?_) | (guard_target =~ AskL _ _; first | refine L1 ?_) | (guard_target =~ Go.Eng.Ask _ _; first | refine K1 ?_) | (guard_target =~ All' _ _; first | (refine Y2 fun y he he' hy => ?_; (try dsimp only at he he' hy)) | (refine Y1 fun y he hy => ?_; (try with_reducible conv at he => (rhs; whnf)); (try dsimp only at he hy))) | refine F4 (fun h => ?_) fun h => ?_ | refine R1 ?_ | refine Q1 ?_ | fail)); all_goals (conv => whnf))
      refine All'.mk ?_; rintro (e' : Run) he'
      obtain rfl : (m, f, t) = e' := Option.some.inj (he.symm.trans he')
      clear he'
      ((repeat' ((conv => whnf) <;> first | exact True.intro | (guard_target =~ Fork _ _ _; first | refine F1 ?_ | refine F2 ?_ | refine F3 (fun h => ?_) fun h => ?_) | (guard_target =~ Ar _ _ _; first | refine A1 ?_ | refine A2 ?_ | refine A3 ?_) | (guard_target =~ AskL _ _; first | refine L1 ?_) | (guard_target =~ Go.Eng.Ask _ _; first | refine K1 ?_) | (guard_target =~ All' _ _; first | (refine Y2 fun y he he' hy => ?_; (try dsimp only at he he' hy)) | (refine Y1 fun y he hy => ?_; (try with_reducible conv at he => (rhs; whnf)); (try dsimp only at he hy))) | refine F4 (fun h => ?_) fun h => ?_ | refine R1 ?_ | refine Q1 ?_ | fail)); all_goals (conv => whnf))
      all_goals
        refine Some'.mk (i + 1 : Nat) ?_
        ((repeat' ((conv => whnf) <;> first | exact True.intro | (guard_target =~ Fork _ _ _; first | refine F1 ?_ | refine F2 ?_ | refine F3 (fun h => ?_) fun h => ?_) | (guard_target =~ Ar _ _ _; first | refine A1 ?_ | refine A2 ?_ | refine A3 ?_) | (guard_target =~ AskL _ _; first | refine L1 ?_) | (guard_target =~ Go.Eng.Ask _ _; first | refine K1 ?_) | (guard_target =~ All' _ _; first | (refine Y2 fun y he he' hy => ?_; (try dsimp only at he he' hy)) | (refine Y1 fun y he hy => ?_; (try with_reducible conv at he => (rhs; whnf)); (try dsimp only at he hy)) | (refine All'.mk ?_; intro y hy)) | refine F4 (fun h => ?_) fun h => ?_ | refine R1 ?_ | refine Q1 ?_ | fail)); all_goals (conv => whnf))
        refine Ask.mk ⟨by show i + 1 ≤ c.length; omega, fun r hr => by
          rw [ht] at hr
          rcases List.mem_append.1 hr with hr | hr
          · exact h2 r hr
          · rcases List.mem_singleton.1 hr with rfl; exact hin⟩ ?_
        ((repeat' ((conv => whnf) <;> first | exact True.intro | (guard_target =~ Fork _ _ _; first | refine F1 ?_ | refine F2 ?_ | refine F3 (fun h => ?_) fun h => ?_) | (guard_target =~ Ar _ _ _; first | refine A1 ?_ | refine A2 ?_ | refine A3 ?_) | (guard_target =~ AskL _ _; first | refine L1 ?_) | (guard_target =~ Go.Eng.Ask _ _; first | refine K1 ?_) | (guard_target =~ All' _ _; first | (refine Y2 fun y he he' hy => ?_; (try dsimp only at he he' hy)) | (refine Y1 fun y he hy => ?_; (try with_reducible conv at he => (rhs; whnf)); (try dsimp only at he hy)) | (refine All'.mk ?_; intro y hy)) | refine F4 (fun h => ?_) fun h => ?_ | refine R1 ?_ | refine Q1 ?_ | fail)); all_goals (conv => whnf))

def nodeB (n : Int) (r : Run) : Bool := decide (r.1 = n)
def ofF (c : List Run) (n : Int) : List Run := if rightB c then c.filter (nodeB n) else []
@[reducible] def dofC : Ctr := {
  X := List Run × Int
  Y := Unit
  args := fun x => [.ro true runT x.1, .v (.int .i64 x.2)]
  rw := fun _ => []
  side := fun x => x.1.length ≤ 274877906944
  val := fun _ => ()
  ens := fun _ _ => True
  res := fun _ _ => .sl 1000
  out := fun x _ => [(1000, .row 57 runT (ofF x.1 x.2))] }
theorem knownE4 : Known Tryz.prog (gOf [(24, drightC), (71, cloneCRu), (70, delOfC)]) :=
  known_cons ⟨dright_ok, Tryz.call24⟩ (known_cons ⟨clone_okRu, Tryz.call71⟩ (known_cons ⟨delOf_ok, Tryz.call70⟩ (known_nil _)))
theorem dof_ok : dofC.ok Tryz.prog 39 := by
  refine ok_of_vc (An := fun _ => anOf []) knownE4 mo Tryz.func39 (by kernel_rfl) (by kernel_rfl) (fun _ _ => trivial) (fun x hs => ?_)
  obtain ⟨c, n⟩ := x
  have hs : c.length ≤ 274877906944 := hs
  have hg : ∀ e, e ∈ c → goodAny e := fun _ _ => trivial
  have hf2 : (c.filter fun e => !predOf n e) = c.filter (nodeB n) := by
    congr 1; funext e; unfold predOf nodeB; by_cases h : e.1 = n <;> simp [h]
  cases h1 : rightB c with
  | false =>
    have hf : ofF c n = [] := by unfold ofF; rw [h1]; rfl
    have lm := h1
    ((repeat' ((conv => whnf) <;> first | exact True.intro | (guard_target =~ Fork _ _ _; first | refine F1 ?_ | refine F2 ?_ | refine F3 (fun h => ?_) fun h => ?_) | (guard_target =~ Ar _ _ _; first | refine A1 ?_ | refine A2 ?_ | refine A3 ?_) | (guard_target =~ AskL _ _; first | refine L1 ?_) | (guard_target =~ Go.Eng.Ask _ _; first | refine K1 ?_) | (guard_target =~ All' _ _; first | (refine Y2 fun y he he' hy => ?_; (try dsimp only at he he' hy)) | (refine Y1 fun y he hy => ?_; (try with_reducible conv at he => (rhs; whnf)); (try dsimp only at he hy)) | (refine All'.mk ?_; intro y hy)) | refine F4 (fun h => ?_) fun h => ?_ | refine R1 ?_ | refine Q1 ?_ | fail)); all_goals (conv => whnf))
    refine CallP.mk (C := drightC) c ?_
    exact G1
  | true =>
    have hf : ofF c n = c.filter (nodeB n) := by unfold ofF; rw [h1]; rfl
    have lm := h1
    ((repeat' ((conv => whnf) <;> first | exact True.intro | (guard_target =~ Fork _ _ _; first | refine F1 ?_ | refine F2 ?_ | refine F3 (fun h => ?_) fun h => ?_) | (guard_target =~ Ar _ _ _; first | refine A1 ?_ | refine A2 ?_ | refine A3 ?_) | (guard_target =~ AskL _ _; first | refine L1 ?_) | (guard_target =~ Go.Eng.Ask _ _; first | refine K1 ?_) | (guard_target =~ All' _ _; first | (refine Y2 fun y he he' hy => ?_; (try dsimp only at he he' hy)) | (refine Y1 fun y he hy => ?_; (try with_reducible conv at he => (rhs; whnf)); (try dsimp only at he hy)) | (refine All'.mk ?_; intro y hy)) | refine F4 (fun h => ?_) fun h => ?_ | refine R1 ?_ | refine Q1 ?_ | fail)); all_goals (conv => whnf))
    refine CallP.mk (C := drightC) c ?_
    ((repeat' ((conv => whnf) <;> first | exact True.intro | (guard_target =~ Fork _ _ _; first | refine F1 ?_ | refine F2 ?_ | refine F3 (fun h => ?_) fun h => ?_) | (guard_target =~ Ar _ _ _; first | refine A1 ?_ | refine A2 ?_ | refine A3 ?_) | (guard_target =~ AskL _ _; first | refine L1 ?_) | (guard_target =~ Go.Eng.Ask _ _; first | refine K1 ?_) | (guard_target =~ All' _ _; first | (refine Y2 fun y he he' hy => ?_; (try dsimp only at he he' hy)) | (refine Y1 fun y he hy => ?_; (try with_reducible conv at he => (rhs; whnf)); (try dsimp only at he hy)) | (refine All'.mk ?_; intro y hy)) | refine F4 (fun h => ?_) fun h => ?_ | refine R1 ?_ | refine Q1 ?_ | fail)); all_goals (conv => whnf))
    refine CallP.mk (C := cloneCRu) c ?_
    ((repeat' ((conv => whnf) <;> first | exact True.intro | (guard_target =~ Fork _ _ _; first | refine F1 ?_ | refine F2 ?_ | refine F3 (fun h => ?_) fun h => ?_) | (guard_target =~ Ar _ _ _; first | refine A1 ?_ | refine A2 ?_ | refine A3 ?_) | (guard_target =~ AskL _ _; first | refine L1 ?_) | (guard_target =~ Go.Eng.Ask _ _; first | refine K1 ?_) | (guard_target =~ All' _ _; first | (refine Y2 fun y he he' hy => ?_; (try dsimp only at he he' hy)) | (refine Y1 fun y he hy => ?_; (try with_reducible conv at he => (rhs; whnf)); (try dsimp only at he hy)) | (refine All'.mk ?_; intro y hy)) | refine F4 (fun h => ?_) fun h => ?_ | refine R1 ?_ | refine Q1 ?_ | fail)); all_goals (conv => whnf))
    refine CallP.mk (C := delOfC) (c, n) ?_
    ((repeat' ((conv => whnf) <;> first | exact True.intro | (guard_target =~ Fork _ _ _; first | refine F1 ?_ | refine F2 ?_ | refine F3 (fun h => ?_) fun h => ?_) | (guard_target =~ Ar _ _ _; first | refine A1 ?_ | refine A2 ?_ | refine A3 ?_) | (guard_target =~ Go.Eng.Ask _ _; first | refine K1 ?_) | (guard_target =~ All' _ _; first | (refine Y2 fun y he he' hy => ?_; (try dsimp only at he he' hy)) | (refine Y1 fun y he hy => ?_; (try with_reducible conv at he => (rhs; whnf)); (try dsimp only at he hy)) | (refine All'.mk ?_; intro y hy)) | refine F4 (fun h => ?_) fun h => ?_ | refine R1 ?_ | refine Q1 ?_ | fail)); all_goals (conv => whnf))
    refine AskL.mk ?_ ?_
    · (dsimp only [conj]; repeat' apply And.intro) <;> rfl
    refine Ask.mk ⟨hg, hs⟩ ?_
    ((repeat' ((conv => whnf) <;> first | exact True.intro | (guard_target =~ Fork _ _ _; first | refine F1 ?_ | refine F2 ?_ | refine F3 (fun h => ?_) fun h => ?_) | (guard_target =~ Ar _ _ _; first | refine A1 ?_ | refine A2 ?_ | refine A3 ?_) | (guard_target =~ Go.Eng.Ask _ _; first | refine K1 ?_) | (guard_target =~ All' _ _; first | (refine Y2 fun y he he' hy => ?_; (try dsimp only at he he' hy)) | (refine Y1 fun y he hy => ?_; (try with_reducible conv at he => (rhs; whnf)); (try dsimp only at he hy)) | (refine All'.mk ?_; intro y hy)) | refine F4 (fun h => ?_) fun h => ?_ | refine R1 ?_ | refine Q1 ?_ | fail)); all_goals (conv => whnf))
    refine AskL.mk ?_ trivial
    dsimp only [conj]
    rw [hf, ← hf2]
@[reducible] def rdofL (x : List Run × Int) : LA := {
  X := Nat
  pre := fun i => i ≤ x.1.length
  mu := fun i => x.1.length - i
  T := fun i => [(0, .ro true runT x.1), (1, .v (.int .i64 x.2)), (5, .sl 4), (8, .ro true runT x.1), (9, .v (.int .i64 x.1.length)), (10, .v (.int .i64 (i : Nat)))]
  M := fun i => [(4, .row 57 runT (if rightB x.1 then (x.1.take i).filter (nodeB x.2) else []))] }
theorem rdof_ok : dofC.ok Tryz.prog 40 := by
  refine ok_of_vc (An := fun x => anOf [(0, .loop (rdofL x))]) knownE3 mo Tryz.func40 (by kernel_rfl) (by kernel_rfl) (fun _ _ => trivial) (fun x hs => ?_)
  obtain ⟨c, n⟩ := x
  have hs : c.length ≤ 274877906944 := hs
  cases h1 : rightB c with
  | false =>
    have hf : ofF c n = [] := by unfold ofF; rw [h1]; rfl
    ((repeat' ((conv => whnf) <;> first | exact True.intro | (guard_target =~ Fork _ _ _; first | refine F1 ?_ | refine F2 ?_ | refine F3 (fun h => ?_) fun h => ?_) | (guard_target =~ Ar _ _ _; first | refine A1 ?_ | refine A2 ?_ | refine A3 ?_) | (guard_target =~ AskL _ _; first | refine L1 ?_) | (guard_target =~ Go.Eng.Ask _ _; first | refine K1 ?_) | (guard_target =~ All' _ _; first | (refine Y2 fun y he he' hy => ?_; (try dsimp only at he he' hy)) | (refine Y1 fun y he hy => ?_; (try with_reducible conv at he => (rhs; whnf)); (try dsimp only at he hy)) | (refine All'.mk ?_; intro y hy)) | refine F4 (fun h => ?_) fun h => ?_ | refine R1 ?_ | refine Q1 ?_ | fail)); all_goals (conv => whnf))
    refine Some'.mk (0 : Nat) ?_
    try dsimp only [rdofL]
    rw [h1]
    ((repeat' ((conv => whnf) <;> first | exact True.intro | (guard_target =~ Fork _ _ _; first | refine F1 ?_ | refine F2 ?_ | refine F3 (fun h => ?_) fun h => ?_) | (guard_target =~ Ar _ _ _; first | refine A1 ?_ | refine A2 ?_ | refine A3 ?_) | (guard_target =~ AskL _ _; first | refine L1 ?_) | (guard_target =~ Go.Eng.Ask _ _; first | refine K1 ?_) | (guard_target =~ All' _ _; first | (refine Y2 fun y he he' hy => ?_; (try dsimp only at he he' hy)) | (refine Y1 fun y he hy => ?_; (try with_reducible conv at he => (rhs; whnf)); (try dsimp only at he hy)) | (refine All'.mk ?_; intro y hy)) | refine F4 (fun h => ?_) fun h => ?_ | refine R1 ?_ | refine Q1 ?_ | fail)); all_goals (conv => whnf))
    refine AllI.mk ?_
    rintro (i : Nat) hi
    have hi : i ≤ c.length := hi
    try dsimp only [rdofL]
    try simp only [h1, Bool.false_eq_true, if_false]
    by_cases hil : i = c.length
    · subst hil
      exact G1
    · obtain ⟨⟨m, f, t⟩, he⟩ : ∃ e, c[i]? = some e := ⟨_, List.getElem?_eq_getElem (by omega)⟩
      have lm := h1
      ((repeat' ((conv => whnf) <;> first | exact True.intro | (guard_target =~ Fork _ _ _; first | refine F1 ?_ | refine F2 ?_ | refine F3 (fun h => ?_) fun h => ?_) | (guard_target =~ Ar _ _ _; first | refine A1 ?_ | refine A2 ?_ | refine A3 ?_) | (guard_target =~ AskL _ _; first | refine L1 ?_) | (guard_target =~ Go.Eng.Ask _ _; first | refine K1 ?_) | (guard_target =~ All' _ _; first | (refine Y2 fun y he he' hy => ?_; (try dsimp only at he he' hy)) | (refine Y1 fun y he hy => ?_; (try with_reducible conv at he => (rhs; whnf)); (try dsimp only at he hy))) | refine F4 (fun h => ?_) fun h => ?_ | refine R1 ?_ | refine Q1 ?_ | fail)); all_goals (conv => whnf))
      refine All'.mk ?_; rintro (e' : Run) he'
      obtain rfl : (m, f, t) = e' := Option.some.inj (he.symm.trans he')
      clear he'
      ((repeat' ((conv => whnf) <;> first | exact True.intro | (guard_target =~ Fork _ _ _; first | refine F1 ?_ | refine F2 ?_ | refine F3 (fun h => ?_) fun h => ?_) | (guard_target =~ Ar _ _ _; first | refine A1 ?_ | refine A2 ?_ | refine A3 ?_) | (guard_target =~ AskL _ _; first | refine L1 ?_) | (guard_target =~ Go.Eng.Ask _ _; first | refine K1 ?_) | (guard_target =~ All' _ _; first | (refine Y2 fun y he he' hy => ?_; (try dsimp only at he he' hy)) | (refine Y1 fun y he hy => ?_; (try with_reducible conv at he => (rhs; whnf)); (try dsimp only at he hy)) | (refine All'.mk ?_; intro y hy)) | refine F4 (fun h => ?_) fun h => ?_ | refine R1 ?_ | refine Q1 ?_ | fail)); all_goals (conv => whnf))
      · refine CallP.mk (C := drightC) c ?_
        ((repeat' ((conv => whnf) <;> first | exact True.intro | (guard_target =~ Fork _ _ _; first | refine F1 ?_ | refine F2 ?_ | refine F3 (fun h => ?_) fun h => ?_) | (guard_target =~ Ar _ _ _; first | refine A1 ?_ | refine A2 ?_ | refine A3 ?_) | (guard_target =~ AskL _ _; first | refine L1 ?_) | (guard_target =~ Go.Eng.Ask _ _; first | refine K1 ?_) | (guard_target =~ All' _ _; first | (refine Y2 fun y he he' hy => ?_; (try dsimp only at he he' hy)) | (refine Y1 fun y he hy => ?_; (try with_reducible conv at he => (rhs; whnf)); (try dsimp only at he hy)) | (refine All'.mk ?_; intro y hy)) | refine F4 (fun h => ?_) fun h => ?_ | refine R1 ?_ | refine Q1 ?_ | fail)); all_goals (conv => whnf))
        refine Some'.mk (i + 1 : Nat) ?_
        try dsimp only [rdofL]
        try simp only [h1, Bool.false_eq_true, if_false]
        exact G1
      · refine Some'.mk (i + 1 : Nat) ?_
        try dsimp only [rdofL]
        try simp only [h1, Bool.false_eq_true, if_false]
        exact G1
  | true =>
    have hf : ofF c n = c.filter (nodeB n) := by unfold ofF; rw [h1]; rfl
    ((repeat' ((conv => whnf) <;> first | exact True.intro | (guard_target =~ Fork _ _ _; first | refine F1 ?_ | refine F2 ?_ | refine F3 (fun h => ?_) fun h => ?_) | (guard_target =~ Ar _ _ _; first | refine A1 ?_ | refine A2 ?_ | refine A3 ?_) | (guard_target =~ AskL _ _; first | refine L1 ?_) | (guard_target =~ Go.Eng.Ask _ _; first | refine K1 ?_) | (guard_target =~ All' _ _; first | (refine Y2 fun y he he' hy => ?_; (try dsimp only at he he' hy)) | (refine Y1 fun y he hy => ?_; (try with_reducible conv at he => (rhs; whnf)); (try dsimp only at he hy)) | (refine All'.mk ?_; intro y hy)) | refine F4 (fun h => ?_) fun h => ?_ | refine R1 ?_ | refine Q1 ?_ | fail)); all_goals (conv => whnf))
    refine Some'.mk (0 : Nat) ?_
    try dsimp only [rdofL]
    try simp only [h1, if_true]
    ((repeat' ((conv => whnf) <;> first | exact True.intro | (guard_target =~ Fork _ _ _; first | refine F1 ?_ | refine F2 ?_ | refine F3 (fun h => ?_) fun h => ?_) | (guard_target =~ Ar _ _ _; first | refine A1 ?_ | refine A2 ?_ | refine A3 ?_) | (guard_target =~ AskL _ _; first | refine L1 ?_) | (guard_target =~ Go.Eng.Ask _ _; first | refine K1 ?_) | (guard_target =~ All' _ _; first | (refine Y2 fun y he he' hy => ?_; (try dsimp only at he he' hy)) | (refine Y1 fun y he hy => ?_; (try with_reducible conv at he => (rhs; whnf)); (try dsimp only at he hy)) | (refine All'.mk ?_; intro y hy)) | refine F4 (fun h => ?_) fun h => ?_ | refine R1 ?_ | refine Q1 ?_ | fail)); all_goals (conv => whnf))
    refine AllI.mk ?_
    rintro (i : Nat) hi
    have hi : i ≤ c.length := hi
    try dsimp only [rdofL]
    try simp only [h1, if_true]
    by_cases hil : i = c.length
    · subst hil
      rw [List.take_length]
      exact G1
    · obtain ⟨⟨m, f, t⟩, he⟩ : ∃ e, c[i]? = some e := ⟨_, List.getElem?_eq_getElem (by omega)⟩
      have ht := take_sn he
      have hfl := List.length_filter_le (nodeB n) (c.take i)
      rw [List.length_take] at hfl
      have lm := h1
      by_cases hmn : m = n
      · have ht2 : ((c.take (i + 1)).filter (nodeB n)) = ((c.take i).filter (nodeB n)) ++ [(m, f, t)] := by
          rw [ht, List.filter_append]; simp [nodeB, hmn]
        ((repeat' ((conv => whnf) <;> first | exact True.intro | (guard_target =~ Fork _ _ _; first | refine F1 ?_ | refine F2 ?_ | refine F3 (fun h => ?_) fun h => ?_) | (guard_target =~ Ar _ _ _; first | refine A1 ?_ | refine A2 ?_ | refine A3 ?_) | (guard_target =~ AskL _ _; first | refine L1 ?_) | (guard_target =~ Go.Eng.Ask _ _; first | refine K1 ?_) | (guard_target =~ All' _ _; first | (refine Y2 fun y he he' hy => ?_; (try dsimp only at he he' hy)) | (refine Y1 fun y he hy => ?_; (try with_reducible conv at he => (rhs; whnf)); (try dsimp only at he hy))) | refine F4 (fun h => ?_) fun h => ?_ | refine R1 ?_ | refine Q1 ?_ | fail)); all_goals (conv => whnf))
        refine All'.mk ?_; rintro (e' : Run) he'
        obtain rfl : (m, f, t) = e' := Option.some.inj (he.symm.trans he')
        clear he'
        ((repeat' ((conv => whnf) <;> first | exact True.intro | (guard_target =~ Fork _ _ _; first | refine F1 ?_ | refine F2 ?_ | refine F3 (fun h => ?_) fun h => ?_) | (guard_target =~ Ar _ _ _; first | refine A1 ?_ | refine A2 ?_ | refine A3 ?_) | (guard_target =~ AskL _ _; first | refine L1 ?_) | (guard_target =~ Go.Eng.Ask _ _; first | refine K1 ?_) | (guard_target =~ All' _ _; first | (refine Y2 fun y he he' hy => ?_; (try dsimp only at he he' hy)) | (refine Y1 fun y he hy => ?_; (try with_reducible conv at he => (rhs; whnf)); (try dsimp only at he hy)) | (refine All'.mk ?_; intro y hy)) | refine F4 (fun h => ?_) fun h => ?_ | refine R1 ?_ | refine Q1 ?_ | fail)); all_goals (conv => whnf))
        refine CallP.mk (C := drightC) c ?_
        ((repeat' ((conv => whnf) <;> first | exact True.intro | (guard_target =~ Fork _ _ _; first | refine F1 ?_ | refine F2 ?_ | refine F3 (fun h => ?_) fun h => ?_) | (guard_target =~ Ar _ _ _; first | refine A1 ?_ | refine A2 ?_ | refine A3 ?_) | (guard_target =~ AskL _ _; first | refine L1 ?_) | (guard_target =~ Go.Eng.Ask _ _; first | refine K1 ?_) | (guard_target =~ All' _ _; first | (refine Y2 fun y he he' hy => ?_; (try dsimp only at he he' hy)) | (refine Y1 fun y he hy => ?_; (try with_reducible conv at he => (rhs; whnf)); (try dsimp only at he hy)) | (refine All'.mk ?_; intro y hy)) | refine F4 (fun h => ?_) fun h => ?_ | refine R1 ?_ | refine Q1 ?_ | fail)); all_goals (conv => whnf))
        refine Some'.mk (i + 1 : Nat) ?_
        try dsimp only [rdofL]
        (try simp only [h1, if_true]); rw [ht2]
        exact G1
      · have ht2 : ((c.take (i + 1)).filter (nodeB n)) = ((c.take i).filter (nodeB n)) := by
          rw [ht, List.filter_append]; simp [nodeB, hmn]
        ((repeat' ((conv => whnf) <;> first | exact True.intro | (guard_target =~ Fork _ _ _; first | refine F1 ?_ | refine F2 ?_ | refine F3 (fun h => ?_) fun h => ?_) | (guard_target =~ Ar _ _ _; first | refine A1 ?_ | refine A2 ?_ | refine A3 ?_) | (guard_target =~ AskL _ _; first | refine L1 ?_) | (guard_target =~ Go.Eng.Ask _ _; first | refine K1 ?_) | (guard_target =~ All' _ _; first | (refine Y2 fun y he he' hy => ?_; (try dsimp only at he he' hy)) | (refine Y1 fun y he hy => ?_; (try with_reducible conv at he => (rhs; whnf)); (try dsimp only at he hy))) | refine F4 (fun h => ?_) fun h => ?_ | refine R1 ?_ | refine Q1 ?_ | fail)); all_goals (conv => whnf))
        refine All'.mk ?_; rintro (e' : Run) he'
        obtain rfl : (m, f, t) = e' := Option.some.inj (he.symm.trans he')
        clear he'
        ((repeat' ((conv => whnf) <;> first | exact True.intro | (guard_target =~ Fork _ _ _; first | refine F1 ?_ | refine F2 ?_ | refine F3 (fun h => ?_) fun h => ?_) | (guard_target =~ Ar _ _ _; first | refine A1 ?_ | refine A2 ?_ | refine A3 ?_) | (guard_target =~ AskL _ _; first | refine L1 ?_) | (guard_target =~ Go.Eng.Ask _ _; first | refine K1 ?_) | (guard_target =~ All' _ _; first | (refine Y2 fun y he he' hy => ?_; (try dsimp only at he he' hy)) | (refine Y1 fun y he hy => ?_; (try with_reducible conv at he => (rhs; whnf)); (try dsimp only at he hy)) | (refine All'.mk ?_; intro y hy)) | refine F4 (fun h => ?_) fun h => ?_ | refine R1 ?_ | refine Q1 ?_ | fail)); all_goals (conv => whnf))
        refine Some'.mk (i + 1 : Nat) ?_
        try dsimp only [rdofL]
        (try simp only [h1, if_true]); rw [ht2]
        exact G1
end Go.Proofs.YtoaaieiiamdopaaGreatDoor

/-! The engine, part V: contracts out of walks (of the kit's or one's own). -/
set_option linter.unusedVariables false
set_option linter.unusedSimpArgs false
namespace Go.Eng
open Go.RowKit (Below)
variable [DM]
set_option linter.unusedSectionVars false

/-- The world behind: what lay there lies there. -/
theorem below_grow (w : World) (k : Nat) (os : Array Obj) : Below w.heap.size w (Go.Sort.grow (w.drewN k) os) :=
  ⟨rfl, rfl, rfl, by simp [Go.Sort.grow], fun j hj => by simp only [Go.Sort.grow, World.heap_drewN]; rw [Array.getElem?_append_left hj]⟩

/-- A function that lays nothing for its caller. -/
theorem ok_of_walk {C : Ctr} {P : Program} {f : FuncId} (hrw : ∀ x, C.rw x = []) (hout : ∀ x, C.out x (C.val x) = [])
    (h : ∀ x, C.side x → C.ens x (C.val x) ∧ ∀ (E : Env) (w : World) (vals : Array Value), vals.size = (C.args x).length →
      (∀ (j : Nat) (s : SV), (C.args x)[j]? = some s → Sat E w s (vals.getD j undef)) → GlobOk E w → (∀ b, E.I b ∨ E.B b → b < w.heap.size) →
      Calls P f vals w fun e w' => ∃ v, e = .returned v ∧ Sat E w' (C.res x (C.val x)) v ∧ Below w.heap.size w w' ∧ (DM.p → w.drawn ≤ w'.drawn)) : C.ok P f := by
  intro x hside
  obtain ⟨he, hw⟩ := h x hside
  refine ⟨he, fun E fp vals w hsz hv hents hnames => ?_⟩
  refine callsIn_wide.2 (Calls.mono (hw E w vals hsz hv hents.gl hents.Ilt) ?_)
  rintro e w' ⟨v, rfl, hsat, hb, hdr⟩
  have hfp : ∀ id b, ¬ fp id b := fun id b hf => by
    have := hents.sat id
    rw [hrw x] at this
    exact this b hf
  have hst : Stays E w w' := fun b _ hlt => hb.block b hlt
  refine ⟨v, E, fp, rfl, hsat, ?_, ⟨⟨hb.os, ⟨hb.tape, hdr⟩, hb.output, hb.size, fun b hlt _ => hb.block b hlt⟩, .refl _, fun b h => .inl h, fun b h => h, fun id b h => .inl ⟨id, h⟩⟩, fun _ _ => rfl⟩
  rw [hout x]
  exact ⟨fun id b hf => hfp id b hf, fun id b hf => (hfp id b hf).elim, fun id b hf => (hfp id b hf).elim, fun id b hf => (hfp id b hf).elim, fun i j b _ hf => (hfp i b hf).elim,
    fun b hI => Nat.lt_of_lt_of_le (hents.Ilt b hI) hb.size, hents.nil, hents.glob hst (fun _ h => h)⟩

/-- What was laid since is only read from now on. -/
def Env.plus (E : Env) (w w' : World) : Env := { E with I := fun b => E.I b ∨ (w.heap.size ≤ b ∧ b < w'.heap.size) }
theorem Env.le_plus (E : Env) (w w' : World) : E.le (E.plus w w') := ⟨fun _ _ h => h, fun _ h => .inl h, fun _ h => h⟩

/-- A function that lays what is only read. -/
theorem ok_of_walk_new {C : Ctr} {P : Program} {f : FuncId} (hrw : ∀ x, C.rw x = []) (hout : ∀ x, C.out x (C.val x) = [])
    (h : ∀ x, C.side x → C.ens x (C.val x) ∧ ∀ (E : Env) (w : World) (vals : Array Value), vals.size = (C.args x).length →
      (∀ (j : Nat) (s : SV), (C.args x)[j]? = some s → Sat E w s (vals.getD j undef)) → GlobOk E w → (∀ b, E.I b ∨ E.B b → b < w.heap.size) →
      Calls P f vals w fun e w' => ∃ v, e = .returned v ∧ Sat (E.plus w w') w' (C.res x (C.val x)) v ∧ Below w.heap.size w w' ∧ (DM.p → w.drawn ≤ w'.drawn)) : C.ok P f := by
  intro x hside
  obtain ⟨he, hw⟩ := h x hside
  refine ⟨he, fun E fp vals w hsz hv hents hnames => ?_⟩
  refine callsIn_wide.2 (Calls.mono (hw E w vals hsz hv hents.gl hents.Ilt) ?_)
  rintro e w' ⟨v, rfl, hsat, hb, hdr⟩
  have hfp : ∀ id b, ¬ fp id b := fun id b hf => by
    have := hents.sat id
    rw [hrw x] at this
    exact this b hf
  have hst : Stays E w w' := fun b _ hlt => hb.block b hlt
  refine ⟨v, E.plus w w', fp, rfl, hsat, ?_, ⟨⟨hb.os, ⟨hb.tape, hdr⟩, hb.output, hb.size, fun b hlt _ => hb.block b hlt⟩, E.le_plus w w', fun b h => h.imp id (fun h => .inr h.1), fun b h => h, fun id b h => .inl ⟨id, h⟩⟩, fun _ _ => rfl⟩
  rw [hout x]
  refine ⟨fun id b hf => hfp id b hf, fun id b hf => (hfp id b hf).elim, fun id b hf => (hfp id b hf).elim, fun id b hf => (hfp id b hf).elim, fun i j b _ hf => (hfp i b hf).elim,
    fun b hI => ?_, hents.nil, hents.glob hst (fun _ h => .inl h)⟩
  rcases hI with (hI | hI) | hI
  · exact Nat.lt_of_lt_of_le (hents.Ilt b (.inl hI)) hb.size
  · exact hI.2
  · exact Nat.lt_of_lt_of_le (hents.Ilt b (.inr hI)) hb.size

/-- A new list of strings. -/
theorem strs_new {E : Env} {w w' : World} {te : TypeId} {xs : List ByteArray} {fz : Nat × Nat} {c : Nat} (hb : w'.heap[w.heap.size]? = some (.cells (xs.map Value.string).toArray te fz)) (hc : xs.length ≤ c) :
    Sat (E.plus w w') w' (.ro false .str xs) (.slice (some ⟨w.heap.size, 0, none⟩) xs.length c) := by
  have hlt := (Array.getElem?_eq_some_iff.1 hb).1
  refine .ro false .str xs w.heap.size 0 c (fun m => .string (xs.getD m default)) (.inl (.inr ⟨Nat.le_refl _, hlt⟩)) hc (fun m hm => ?_) (fun i x j sv hi hj => ?_)
  · have hm : m < xs.length := by simpa [Ty.size] using hm
    simp [World.cell?, hb, hm]
  · simp only [enc] at hj
    cases j with
    | zero =>
      obtain rfl : SV.v (.string x) = sv := by simpa using hj
      have : (xs.getD (i * 1 + 0) default) = x := by simp [hi]
      show Sat _ _ _ (Value.string (xs.getD (i * 1 + 0) default))
      rw [this]; exact .v _
    | succ j => simp at hj

/-- A variable's cell. -/
theorem glob_cell {E : Env} {w : World} {g : Nat} {p : Array Value → Prop} {v : Value} (h : GlobOk E w) (hm : (g, p) ∈ gtab) (hp : ∀ a, p a → a = #[v]) : w.cell? ⟨g, 0, none⟩ = some v := by
  obtain ⟨_, a, t, fz, h1, h2⟩ := h g p hm
  rw [hp a h2] at h1
  simp [World.cell?, h1]
theorem glob_some {E : Env} {w : World} {g : Nat} {p : Array Value → Prop} (h : GlobOk E w) (hm : (g, p) ∈ gtab) : ∃ a, p a ∧ ∀ v, a = #[v] → w.cell? ⟨g, 0, none⟩ = some v := by
  obtain ⟨_, a, t, fz, h1, h2⟩ := h g p hm
  exact ⟨a, h2, fun v hv => by subst hv; simp [World.cell?, h1]⟩

/-- A function without a body. -/
theorem okV_of_run {C : Ctr} {P : Program} {f : FuncId} (hrw : ∀ x, C.rw x = []) (hout : ∀ x, C.out x (C.val x) = [])
    (h : ∀ x, C.side x → C.ens x (C.val x) ∧ ∀ (E : Env) (w : World) (vals : Array Value), vals.size = (C.args x).length →
      (∀ (j : Nat) (s : SV), (C.args x)[j]? = some s → Sat E w s (vals.getD j undef)) → ∃ v, (callFunc f vals).run P w = .ok (.value v) w ∧ Sat E w (C.res x (C.val x)) v) : C.okV P f := by
  intro x hside
  obtain ⟨he, hw⟩ := h x hside
  refine ⟨he, fun E fp vals w hsz hv hents hnames => ?_⟩
  obtain ⟨v, h1, h2⟩ := hw E w vals hsz hv
  refine ⟨v, h1, v, E, fp, rfl, h2, ?_, .refl _ _ _, fun _ _ => rfl⟩
  rw [hout x]
  rw [hrw x] at hents
  exact hents

/-! ### Arguments -/

theorem sat_v {E : Env} {w : World} {a v : Value} (h : Sat E w (.v a) v) : v = a := by cases h; rfl

theorem vals_nil {vals : Array Value} (h : vals.size = 0) : vals = #[] := by simpa using h
theorem vals_one {vals : Array Value} (h : vals.size = 1) : vals = #[vals.getD 0 undef] := by
  match vals, h with
  | ⟨[a]⟩, _ => rfl
theorem vals_two {vals : Array Value} (h : vals.size = 2) : vals = #[vals.getD 0 undef, vals.getD 1 undef] := by
  match vals, h with
  | ⟨[a, b]⟩, _ => rfl
theorem vals_three {vals : Array Value} (h : vals.size = 3) : vals = #[vals.getD 0 undef, vals.getD 1 undef, vals.getD 2 undef] := by
  match vals, h with
  | ⟨[a, b, c]⟩, _ => rfl

/-- A slice of data: nil, or cells of memory. -/
theorem sat_ro {E : Env} {w : World} {b : Bool} {t : Ty} {xs : List t.den} {v : Value} (h : Sat E w (.ro b t xs) v) :
    (xs = [] ∧ ∃ A c, v = .slice A 0 c) ∨ ∃ k o c, v = .slice (some ⟨k, o, none⟩) xs.length c ∧ E.ok b k ∧ xs.length ≤ c ∧
      ∀ i x j sv, xs[i]? = some x → (enc t x)[j]? = some sv → ∃ u, w.cell? ⟨k, o + (i * t.size + j), none⟩ = some u ∧ Sat E w sv u := by
  cases h with
  | nil _ _ A c => exact .inl ⟨rfl, A, c, rfl⟩
  | ro _ _ _ k o c u hb hle hc hs =>
    refine .inr ⟨k, o, c, rfl, hb, hle, fun i x j sv hi hj => ⟨u (i * t.size + j), hc _ ?_, hs i x j sv hi hj⟩⟩
    have h1 := (List.getElem?_eq_some_iff.1 hi).1
    have h2 := (List.getElem?_eq_some_iff.1 hj).1
    rw [enc_length] at h2
    calc i * t.size + j < i * t.size + t.size := by omega
      _ = (i + 1) * t.size := by rw [Nat.add_mul, Nat.one_mul]
      _ ≤ xs.length * t.size := Nat.mul_le_mul_right _ h1

/-- A list of strings. -/
theorem sat_strs {E : Env} {w : World} {b : Bool} {xs : List ByteArray} {v : Value} (h : Sat E w (.ro b .str xs) v) :
    (xs = [] ∧ ∃ A c, v = .slice A 0 c) ∨ ∃ k o c, v = .slice (some ⟨k, o, none⟩) xs.length c ∧ E.ok b k ∧ xs.length ≤ c ∧
      ∀ (j : Nat) x, xs[j]? = some x → w.cell? ⟨k, o + j, none⟩ = some (.string x) := by
  rcases sat_ro h with h | ⟨k, o, c, h1, h2, h3, h4⟩
  · exact .inl h
  · refine .inr ⟨k, o, c, h1, h2, h3, fun j x hj => ?_⟩
    obtain ⟨u, hu, hs⟩ := h4 j x 0 (.v (.string x)) hj rfl
    rw [sat_v hs] at hu
    simpa [Ty.size] using hu

theorem env_ok_lt {E : Env} {w : World} {b : Bool} {k : Nat} (hI : ∀ b, E.I b ∨ E.B b → b < w.heap.size) (h : E.ok b k) : k < w.heap.size := hI k h.or

/-- The library's tables. -/
theorem glob_tab {E : Env} {w : World} {P : Program} {name : String} {k : IntKind} {zs : List Int} {g : Nat} {p : Array Value → Prop} (h : GlobOk E w) (hg : P.globalNamed name = some g)
    (hm : (g, p) ∈ gtab) (hp : ∀ a, p a → a = (zs.map fun z => Value.int k z).toArray) : Go.Lib.TabIs P w name k zs := by
  obtain ⟨_, a, t, fz, h1, h2⟩ := h g p hm
  unfold Go.Lib.TabIs World.var?
  rw [hg]
  simp only [Option.bind_eq_bind, Option.bind_some, h1, hp a h2]

end Go.Eng

set_option linter.unusedVariables false
set_option linter.unusedSimpArgs false
set_option maxHeartbeats 1000000
namespace Go.Eng
open Go.Sort Go.Shelf Go.Proofs
/-- It is asked that no draw is taken back. -/
@[reducible] def dmT : DM := ⟨True⟩

theorem grow_of {w w' : World} (h1 : w'.os = w.os) (h2 : w'.tape = w.tape) (h3 : w'.output = w.output) (h4 : w.heap.size ≤ w'.heap.size) (h5 : ∀ b, b < w.heap.size → w'.heap[b]? = w.heap[b]?) (h6 : w.drawn ≤ w'.drawn) :
    ∃ q os, w' = grow (w.drewN q) os := by
  refine ⟨w'.drawn - w.drawn, w'.heap.extract w.heap.size w'.heap.size, ?_⟩
  have hh : w'.heap = w.heap ++ w'.heap.extract w.heap.size w'.heap.size := by
    apply Array.ext_getElem?
    intro i
    by_cases hi : i < w.heap.size
    · rw [Array.getElem?_append_left hi]; exact h5 i hi
    · rw [Array.getElem?_append_right (by omega), Array.getElem?_extract]
      split
      · congr 1; omega
      · rw [Array.getElem?_eq_none (by omega)]
  cases w with
  | mk heap tape drawn os output =>
  cases w' with
  | mk heap' tape' drawn' os' output' =>
  dsimp only at h1 h2 h3 h4 h6 hh
  subst h1 h2 h3
  show World.mk heap' tape' drawn' os' output' = World.mk (heap ++ heap'.extract heap.size heap'.size) tape' (drawn + (drawn' - drawn)) os' output'
  rw [← hh, show drawn + (drawn' - drawn) = drawn' by omega]

/-- A call of what only reads, as a sort wants it. -/
theorem cmp_run {C : Ctr} {P : Program} {g : FuncId} (hC : @Ctr.ok dmT C P g) (z : C.X) (hz : C.side z) (hrw : C.rw z = []) {n : Int} (hres : C.res z (C.val z) = .v (.int .i64 n)) {E : Env} {w : World}
    (hI : ∀ b, E.I b ∨ E.B b → b < w.heap.size) (hn : NilOk E) (hg : GlobOk E w) (hnames : ∀ id, E.slot id ≠ none → id < 1000 ∨ nilB id = true) {vals : Array Value} (hsz : vals.size = (C.args z).length)
    (hv : ∀ (j : Nat) (s : SV), (C.args z)[j]? = some s → Sat E w s (vals.getD j undef)) :
    Calls P g vals w fun e w' => e = .returned (.int .i64 n) ∧ ∃ q os, w' = grow (w.drewN q) os := by
  letI : DM := dmT
  obtain ⟨_, hc⟩ := hC z hz
  have hE : @EntsSat E w (fun _ _ => False) (C.rw z) := by
    rw [hrw]
    exact ⟨fun id b hb => hb, fun id b hb => hb.elim, fun id b hb => hb.elim, fun id b hb => hb.elim, fun i j b _ hb => hb.elim, hI, hn, hg⟩
  refine Calls.mono (callsIn_wide.1 (hc E (fun _ _ => False) vals w hsz hv hE hnames)) ?_
  rintro e w' ⟨v, E', fp', rfl, hsat, _, hadv, _⟩
  rw [hres] at hsat
  cases hsat
  have hk := hadv.keep
  exact ⟨rfl, grow_of hk.os hk.tape.tape hk.output hk.size (fun b hb => hk.same b hb (fun ⟨_, h⟩ => h)) (hk.tape.drawn trivial)⟩

section
variable {α : Type} [Inhabited α] (enc : α → List Value) (k : Nat) (w : World) (blk off m : Nat) (dk : Array α) (os : Array Obj)
theorem sortWorld_at {arr : Array Value} {te : TypeId} {fz : Nat × Nat} (hb : w.heap[blk]? = some (.cells arr te fz)) :
    (sortWorldK enc k w blk off m dk os).heap[blk]? = some (.cells (putCells id off (flatK enc k dk) arr) te fz) := by
  have hlt := (Array.getElem?_eq_some_iff.1 hb).1
  unfold sortWorldK putRowK putRow mapBlock grow Sort.ahead
  dsimp only
  rw [Array.getElem?_append_left (by simpa using hlt), Array.getElem?_modify, if_pos rfl, hb]
  rfl
theorem sortWorld_other {b : Nat} (hb : b ≠ blk) (hlt : b < w.heap.size) : (sortWorldK enc k w blk off m dk os).heap[b]? = w.heap[b]? := by
  unfold sortWorldK putRowK putRow mapBlock grow Sort.ahead
  dsimp only
  rw [Array.getElem?_append_left (by simpa using hlt), Array.getElem?_modify, if_neg (fun e => hb e.symm)]
theorem sortWorld_keep [DM] (hd : ∀ b, b = blk → True) : Keep (fun b => b = blk) w (sortWorldK enc k w blk off m dk os) := by
  refine ⟨rfl, ⟨rfl, fun _ => Nat.le_add_right _ _⟩, rfl, ?_, fun b hb hn => sortWorld_other enc k w blk off m dk os hn hb⟩
  unfold sortWorldK putRowK putRow mapBlock grow Sort.ahead
  simp
end
/-- The elements in order, as Go's sort puts them. -/
noncomputable def sortD {t : Ty} {good : t.den → Prop} [Inhabited {x : t.den // good x}] (cf : t.den → t.den → Int) (l : List {x : t.den // good x}) : List {x : t.den // good x} :=
  (pdq (ltOf fun x y => cf x.1 y.1) l.toArray 0 l.length (Go.Lib.bitLen l.length) true true).toList
section
variable {t : Ty} {good : t.den → Prop} [Inhabited {x : t.den // good x}] {cf : t.den → t.den → Int}
theorem sortD_perm (hO : SWO (ltOf fun (x y : {x : t.den // good x}) => cf x.1 y.1)) (l : List {x : t.den // good x}) :
    (sortD cf l).Perm l ∧ (sortD cf l).Pairwise fun a b => ¬ cf b.1 a.1 < 0 := by
  obtain ⟨⟨h1, _, h2⟩, h3⟩ := pdq_sorts (ltOf fun (x y : {x : t.den // good x}) => cf x.1 y.1) hO l.toArray 0 l.length (Go.Lib.bitLen l.length) true true (Nat.zero_le _) (by simp) (Or.inl rfl)
  have e : sortD cf l = (pdq (ltOf fun (x y : {x : t.den // good x}) => cf x.1 y.1) l.toArray 0 l.length (Go.Lib.bitLen l.length) true true).toList := rfl
  generalize pdq (ltOf fun (x y : {x : t.den // good x}) => cf x.1 y.1) l.toArray 0 l.length (Go.Lib.bitLen l.length) true true = d' at h1 h2 h3 e
  have hs : d'.size = l.length := by simpa using h1
  rw [e]
  refine ⟨?_, ?_⟩
  · have e1 : d'.extract 0 l.length = d' := by rw [← hs]; exact Array.extract_size
    have e2 : l.toArray.extract 0 l.length = l.toArray := by
      have : l.toArray.size = l.length := by simp
      rw [← this]; exact Array.extract_size
    rw [e1, e2] at h2
    exact h2
  · rw [List.pairwise_iff_getElem]
    intro i j hi hj hij
    have hi' : i < d'.size := by simpa using hi
    have hj' : j < d'.size := by simpa using hj
    have := h3 i j (Nat.zero_le _) hij (by omega)
    rw [getElem!_pos d' i hi', getElem!_pos d' j hj'] at this
    have := of_decide_eq_false this
    simpa using this
end
@[reducible] noncomputable def sortC (g : FuncId) (te : TypeId) (t : Ty) (good : t.den → Prop) [Inhabited {x : t.den // good x}] (cf : t.den → t.den → Int) : Ctr := {
  X := List {x : t.den // good x}
  Y := Unit
  args := fun _ => [.sl 0, .func (.func g) [] []]
  rw := fun l => [(0, .row te t (l.map (·.1)))]
  side := fun l => l.length < 4611686018427387904
  val := fun _ => ()
  ens := fun _ _ => True
  res := fun _ _ => .tuple []
  out := fun l _ => [(0, .row te t ((sortD cf l).map (·.1)))] }

theorem sort_ok [DM] {P : Program} {ρ : Ren} {f g : FuncId} {te : TypeId} {t : Ty} {good : t.den → Prop} [Inhabited {x : t.den // good x}] {cf : t.den → t.den → Int} (L : SlLaysF0.n6 P ρ) (hf : ρ.f 6 = f) (ht : ρ.t 24 = te)
    (hagg : aggOf P te = some true) (hsz : szOf P te = some t.size) (hpos : 0 < t.size) (F : t.den → List Value) (hF : ∀ x, enc t x = (F x).map SV.v) (hO : SWO (ltOf fun (x y : {x : t.den // good x}) => cf x.1 y.1))
    (eg : ∀ args w, (callFunc g args).run P w = .ok (.enter g args) w)
    {C : Ctr} (hC : @Ctr.ok dmT C P g) (mk : {x : t.den // good x} → {x : t.den // good x} → C.X) (hside : ∀ x y, C.side (mk x y)) (hargs : ∀ x y, C.args (mk x y) = [.agg (enc t x.1), .agg (enc t y.1)]) (hrw : ∀ x y, C.rw (mk x y) = [])
    (hres : ∀ x y, C.res (mk x y) (C.val (mk x y)) = .v (.int .i64 (cf x.1 y.1))) : (sortC g te t good cf).ok P f := by
  intro l hl
  have hl : l.length < 4611686018427387904 := hl
  refine ⟨trivial, fun E fp vals w hvs hv hents hnames => callsIn_wide.2 ?_⟩
  have hlen : ∀ x, (F x).length = t.size := fun x => by
    have := enc_length t x
    rw [hF, List.length_map] at this; exact this
  obtain ⟨hper, hsort⟩ := sortD_perm hO l
  have h0 := hv 0 _ rfl
  have h1 := hv 1 _ rfl
  rw [vals_two hvs]
  have hfun : vals.getD 1 undef = .func (.func g) #[] #[] := by
    generalize vals.getD 1 undef = q at h1
    cases h1 with
    | func _ _ _ vf vc uf uc hf hc huf huc hsf hsc =>
      obtain rfl : vf = #[] := Array.eq_empty_of_size_eq_zero (by simpa using hf)
      obtain rfl : vc = #[] := Array.eq_empty_of_size_eq_zero (by simpa using hc)
      rfl
  rw [hfun]
  have hsat := hents.sat 0
  obtain ⟨s, g0, g⟩ := hsat
  have hval : vals.getD 0 undef = s.val := by
    generalize vals.getD 0 undef = q at h0
    cases h0 with
    | sl _ s' hs => obtain rfl := Option.some.inj (hs.symm.trans g0); rfl
  rw [hval]
  have hT : Sat E w (.tuple []) (.tuple #[]) := .tuple [] #[] (fun _ => undef) rfl (fun j hj => by simp at hj) (fun j sv hj => by simp at hj)
  rcases g with ⟨k1, k2, k3⟩ | ⟨o, c, arr, fz, k1, k2, k3, k4, k5, k6, k7⟩
  · rw [k1]
    have hl0 : l = [] := List.map_eq_nil_iff.1 k2
    subst hl0
    have hs0 : sortD cf ([] : List {x : t.den // good x}) = [] := List.Perm.eq_nil hper
    rw [← hf]
    refine (AnyF.slices_SortFunc_none (P := P) (ρ := ρ) L none 0 _ w).mono ?_
    rintro e w' ⟨rfl, rfl⟩
    refine ⟨_, E, fp, rfl, hT, ?_, .refl _ _ _, fun _ _ => rfl⟩
    show EntsSat E w' fp [(0, .row te t ((sortD cf ([] : List {x : t.den // good x})).map (·.1)))]
    rw [hs0]; exact hents
  · have hll : (l.map (·.1)).length = l.length := List.length_map ..
    rw [hll] at k1 k5
    rw [k1]
    have hlt := (Array.getElem?_eq_some_iff.1 k3).1
    have hown : fp 0 s.blk := (k2 _).2 rfl
    have henc : ∀ x : {x : t.den // good x}, ((fun x : {x : t.den // good x} => F x.1) x).length = t.size := fun x => hlen x.1
    have hcell : ∀ i (hi : i < l.length) j, j < t.size → arr[o + i * t.size + j]? = some ((F (l[i]).1)[j]!) := fun i hi j hj => by
      have hx : (l.map (·.1))[i]? = some (l[i]).1 := by simp [hi]
      have hjl : j < (F (l[i]).1).length := by rw [hlen]; exact hj
      obtain ⟨u, hu, hs⟩ := k7 i _ j (.v ((F (l[i]).1)[j])) hx (by rw [hF]; simp [hjl])
      cases hs
      rw [hu, getElem!_pos _ j hjl]
    have hbound : ∀ q, q < l.length * t.size → o + q < arr.size := fun q hq => by
      have : l.length * t.size ≤ c * t.size := Nat.mul_le_mul_right _ k5
      omega
    have hH : HoldsK (fun x : {x : t.den // good x} => F x.1) t.size w s.blk o l.toArray := by
      intro q hq
      rw [size_flatK] at hq
      have hq : q < l.length * t.size := by simpa using hq
      have hi : q / t.size < l.length := (Nat.div_lt_iff_lt_mul hpos).2 hq
      have hm : q % t.size < t.size := Nat.mod_lt _ hpos
      have e1 := hcell (q / t.size) hi (q % t.size) hm
      rw [Nat.add_assoc, Nat.mul_comm, Nat.div_add_mod] at e1
      refine ⟨?_, ?_⟩
      · rw [get_flatK _ _ _ _ (by simpa using hq)]
        have e2 : (l.toArray)[q / t.size]! = l[q / t.size] := by rw [getElem!_pos _ _ (by simpa using hi)]; simp
        rw [e2]
        simp only [World.cell?, k3, id_eq, Option.isSome_none, Bool.false_eq_true, if_false]
        exact e1
      · have := k4.at (o + q) (hbound q hq)
        simp only [World.frozen?, k3]
        simp only [Bool.and_eq_false_iff, decide_eq_false_iff_not]
        omega
    have hone : ∀ x : {x : t.den // good x}, ∀ v ∈ (fun x : {x : t.den // good x} => F x.1) x, v.oneCell' = true := fun x v hv => by
      have h2 : scalB (.v v) = true := enc_scal t x.1 (.v v) (by rw [hF]; exact List.mem_map.2 ⟨v, hv, rfl⟩)
      have h3 := scalB_plain (E := E) (w := w) h2 (.v v)
      cases v <;> first | rfl | exact absurd rfl (h3.1 _) | exact absurd rfl (h3.2 _)
    have hcmp : CmpLays P g #[] (fun x : {x : t.den // good x} => F x.1) t.size (fun x y => cf x.1 y.1) s.blk o l.toArray.size w := by
      intro m os dk hdk x y
      have hst : Stays E w (sortWorldK (fun x : {x : t.den // good x} => F x.1) t.size w s.blk o m dk os) := fun b hb hlt => sortWorld_other _ _ _ _ _ _ _ _ (fun e => by
        subst e
        rcases hb with hb | hb
        · exact hents.I 0 _ hown hb
        · exact hents.B 0 _ hown hb) hlt
      have hz := (sortWorld_keep (fun x : {x : t.den // good x} => F x.1) t.size w s.blk o m dk os (fun _ _ => trivial)).size
      have hsatx : ∀ x : t.den, Sat E (sortWorldK (fun x : {x : t.den // good x} => F x.1) t.size w s.blk o m dk os) (.agg (enc t x)) (.agg (F x).toArray) := fun x => by
        rw [hF]
        refine .agg _ _ (fun j => (F x).getD j undef) (by simp) (fun j hj => ?_) (fun j sv hj => ?_)
        · have : j < (F x).length := by simpa using hj
          simp [this]
        · obtain ⟨u, hu, rfl⟩ := list_sat_v (E := E) (w := w) hj
          simp only [List.getD_eq_getElem?_getD, hu]
          exact .v _
      refine cmp_run hC (mk x y) (hside x y) (hrw x y) (hres x y) (E := E) (fun b hb => Nat.lt_of_lt_of_le (hents.Ilt b hb) hz) hents.nil (hents.glob hst (fun _ h => h)) hnames (by rw [hargs]; rfl) (fun j sv hj => ?_)
      rw [hargs] at hj
      match j, hj with
      | 0, hj => obtain rfl := Option.some.inj hj; exact hsatx x.1
      | 1, hj => obtain rfl := Option.some.inj hj; exact hsatx y.1
      | j + 2, hj => exact absurd hj (by simp)
    rw [← hf]
    have hmain := AnyQ.slices_SortFunc_eq (P := P) (ρ := ρ) L t.size (fun w => by rw [ht]; exact run_isAgg hagg w) (fun w => by rw [ht]; exact run_sizeOf hsz w) (fun x : {x : t.den // good x} => F x.1) henc hone (fun x y => cf x.1 y.1) hO g #[] s.blk o c l.toArray w eg hcmp hH hlt (by simpa using hl)
    have hsl : l.toArray.size = l.length := by simp
    rw [hsl] at hmain
    refine hmain.mono ?_
    rintro e w' ⟨rfl, n, os, rfl⟩
    generalize hd : pdq (ltOf fun (x y : {x : t.den // good x}) => cf x.1 y.1) l.toArray 0 l.length (Go.Lib.bitLen l.length) true true = d'
    have hdl : sortD cf l = d'.toList := by unfold sortD; rw [hd]
    have hds : d'.size = l.length := by
      have := hper.length_eq
      rw [hdl] at this
      simpa using this
    have hkeep := sortWorld_keep (fun x : {x : t.den // good x} => F x.1) t.size w s.blk o n d' os (fun _ _ => trivial)
    have hst : Stays E w (sortWorldK (fun x : {x : t.den // good x} => F x.1) t.size w s.blk o n d' os) := hents.stays (hkeep.mono (fun b hb => ⟨0, hb ▸ hown⟩))
    have hat := sortWorld_at (fun x : {x : t.den // good x} => F x.1) t.size w s.blk o n d' os k3
    have hmap : ((sortD cf l).map (·.1)).length = l.length := by rw [List.length_map, hdl]; simpa using hds
    have hrow : EntSat E (sortWorldK (fun x : {x : t.den // good x} => F x.1) t.size w s.blk o n d' os) (fp 0) 0 (.row te t ((sortD cf l).map (·.1))) := by
      refine ⟨s, g0, .inr ⟨o, c, _, fz, by rw [hmap]; exact k1, k2, hat, ?_, by rw [hmap]; exact k5, ?_, fun i x j sv hi hj => ?_⟩⟩
      · unfold putCells; rw [Array.size_mapIdx]; exact k4
      · unfold putCells; rw [Array.size_mapIdx]; exact k6
      · have hil : i < d'.size := by
          have := (List.getElem?_eq_some_iff.1 hi).1
          omega
        have hx : x = (d'[i]).1 := by
          rw [hdl, List.getElem?_map, List.getElem?_eq_getElem (by simpa using hil)] at hi
          simpa using (Option.some.inj hi).symm
        subst hx
        rw [hF] at hj
        obtain ⟨u, hu, rfl⟩ := list_sat_v (E := E) (w := w) hj
        have hjl := (List.getElem?_eq_some_iff.1 hu).1
        rw [hlen] at hjl
        refine ⟨u, ?_, .v u⟩
        have h5 : (i + 1) * t.size ≤ l.length * t.size := Nat.mul_le_mul_right _ (by omega)
        rw [Nat.add_mul, Nat.one_mul] at h5
        have hq : o + i * t.size + j < arr.size := by have := hbound (i * t.size + j) (by omega); omega
        unfold putCells
        rw [Array.getElem?_mapIdx, Array.getElem?_eq_getElem hq, Option.map_some, if_pos ⟨by omega, by rw [size_flatK, hds]; omega⟩]
        have e3 : o + i * t.size + j - o = i * t.size + j := by omega
        rw [e3, get_flatK _ _ _ _ (by rw [hds]; omega)]
        have e4 : (i * t.size + j) / t.size = i := by
          rw [Nat.add_comm, Nat.add_mul_div_right _ _ hpos, Nat.div_eq_of_lt hjl, Nat.zero_add]
        have e5 : (i * t.size + j) % t.size = j := by rw [Nat.add_comm, Nat.add_mul_mod_self_right]; exact Nat.mod_eq_of_lt hjl
        rw [e4, e5, getElem!_pos d' i hil]
        have hjl' : j < (F (d'[i]).1).length := by rw [hlen]; exact hjl
        show some ((F (d'[i]).1)[j]!) = some u
        rw [getElem!_pos _ j hjl', ← hu, List.getElem?_eq_getElem hjl']
    obtain ⟨q1, q2⟩ := EntsSat.write (M := [(0, .row te t (l.map (·.1)))]) (i := 0) (w' := sortWorldK (fun x : {x : t.den // good x} => F x.1) t.size w s.blk o n d' os) hents (s := s) k2 hkeep hrow
    exact ⟨_, E, fp, rfl, .tuple [] #[] (fun _ => undef) rfl (fun j hj => by simp at hj) (fun j sv hj => by simp at hj), q1.congr (fun id => by
      rw [find_upd]
      by_cases h0 : id = 0
      · subst h0; simp [find, keys]
      · have hb : Nat.beq 0 id = false := by rw [← Bool.not_eq_true, Nat.beq_eq]; exact fun e => h0 e.symm
        simp [find, keys, h0, hb, find_sub]), q2, fun _ _ => rfl⟩
end Go.Eng

/-! DERIVED: THE SHELF's CONTRACTS AT THIS DUMP, IN PLAIN WORDS (tools/lay-plain.mjs out of 'TryzSort.lean', which tools/lay-shelf.mjs wrote): THE SAME DECLARATIONS UNDER THE SAME NAMES: 'import', 'namespace', 'open', 'def', 'theorem' AND NOTHING ELSE: no command of the shelf's: FOR A HAND-IN. Each laying: the table of numbers ('.._ren') and one theorem, a field a fact of the dump's own or the kernel's comparison; each contract: ONE APPLICATION. -/



namespace Go.Proofs
open Go.Shelf
def Tryz.sort84_ren : Go.Shelf.Ren := ⟨fun | 6 => 84 | 15 => 103 | 14 => 102 | 28 => 131 | 29 => 132 | 20 => 123 | 21 => 124 | 22 => 125 | 23 => 126 | 24 => 127 | 25 => 128 | 26 => 129 | 27 => 130 | 46 => 143 | 47 => 144 | 48 => 145 | 49 => 146 | 50 => 147 | 57 => 152 | n => n, fun | 22 => 22 | 24 => 57 | 25 => 113 | 3 => 3 | 39 => 117 | 0 => 0 | 53 => 151 | 55 => 69 | 4 => 4 | 46 => 145 | 45 => 144 | 50 => 83 | 5 => 5 | 9 => 9 | 66 => 163 | 70 => 167 | 76 => 178 | 77 => 179 | n => n, fun | n => n⟩
theorem Tryz.sort84 : Go.Proofs.SlLaysF0.n6 Tryz.prog Tryz.sort84_ren := {
  mixed := by kernel_rfl
  f6 := ⟨Tryz.f84.name, by decide, Tryz.func84.trans (congrArg some (by kernel_rfl))⟩
  f14 := ⟨Tryz.f102.name, by decide, Tryz.func102.trans (congrArg some (by kernel_rfl))⟩
  f15 := Tryz.func103.trans (congrArg some (by kernel_rfl))
  f20 := ⟨Tryz.f123.name, by decide, Tryz.func123.trans (congrArg some (by kernel_rfl))⟩
  f21 := ⟨Tryz.f124.name, by decide, Tryz.func124.trans (congrArg some (by kernel_rfl))⟩
  f22 := ⟨Tryz.f125.name, by decide, Tryz.func125.trans (congrArg some (by kernel_rfl))⟩
  f23 := ⟨Tryz.f126.name, by decide, Tryz.func126.trans (congrArg some (by kernel_rfl))⟩
  f24 := ⟨Tryz.f127.name, by decide, Tryz.func127.trans (congrArg some (by kernel_rfl))⟩
  f25 := ⟨Tryz.f128.name, by decide, Tryz.func128.trans (congrArg some (by kernel_rfl))⟩
  f26 := ⟨Tryz.f129.name, by decide, Tryz.func129.trans (congrArg some (by kernel_rfl))⟩
  f27 := ⟨Tryz.f130.name, by decide, Tryz.func130.trans (congrArg some (by kernel_rfl))⟩
  f28 := Tryz.func131.trans (congrArg some (by kernel_rfl))
  f29 := Tryz.func132.trans (congrArg some (by kernel_rfl))
  f46 := ⟨Tryz.f143.name, by decide, Tryz.func143.trans (congrArg some (by kernel_rfl))⟩
  f47 := Tryz.func144.trans (congrArg some (by kernel_rfl))
  f48 := Tryz.func145.trans (congrArg some (by kernel_rfl))
  f49 := ⟨Tryz.f146.name, by decide, Tryz.func146.trans (congrArg some (by kernel_rfl))⟩
  f50 := ⟨Tryz.f147.name, by decide, Tryz.func147.trans (congrArg some (by kernel_rfl))⟩
  f57 := ⟨Tryz.f152.name, by decide, Tryz.func152.trans (congrArg some (by kernel_rfl))⟩
  t0 := Tryz.underlying0
  a0 := Tryz.isAgg0
  z0 := Tryz.sizeOf0
  v0 := Tryz.zeroValue0
  t3 := Tryz.underlying3
  a3 := Tryz.isAgg3
  z3 := Tryz.sizeOf3
  v3 := Tryz.zeroValue3
  t4 := Tryz.underlying4
  a4 := Tryz.isAgg4
  z4 := Tryz.sizeOf4
  v4 := Tryz.zeroValue4
  t5 := Tryz.underlying5
  a5 := Tryz.isAgg5
  z5 := Tryz.sizeOf5
  v5 := Tryz.zeroValue5
  t9 := Tryz.underlying9
  a9 := Tryz.isAgg9
  z9 := Tryz.sizeOf9
  v9 := Tryz.zeroValue9
  t22 := Tryz.underlying22
  a22 := Tryz.isAgg22
  z22 := Tryz.sizeOf22
  v22 := Tryz.zeroValue22
  t25 := Tryz.underlying113
  a25 := Tryz.isAgg113
  z25 := Tryz.sizeOf113
  v25 := Tryz.zeroValue113
  t39 := Tryz.underlying117
  a39 := Tryz.isAgg117
  z39 := Tryz.sizeOf117
  v39 := Tryz.zeroValue117
  t45 := Tryz.underlying144
  a45 := Tryz.isAgg144
  z45 := Tryz.sizeOf144
  v45 := Tryz.zeroValue144
  t46 := Tryz.underlying145
  a46 := Tryz.isAgg145
  z46 := Tryz.sizeOf145
  v46 := Tryz.zeroValue145
  t50 := Tryz.underlying83
  a50 := Tryz.isAgg83
  z50 := Tryz.sizeOf83
  v50 := Tryz.zeroValue83
  t53 := Tryz.underlying151
  a53 := Tryz.isAgg151
  z53 := Tryz.sizeOf151
  v53 := Tryz.zeroValue151
  t55 := Tryz.underlying69
  a55 := Tryz.isAgg69
  z55 := Tryz.sizeOf69
  v55 := Tryz.zeroValue69
  t66 := Tryz.underlying163
  a66 := Tryz.isAgg163
  z66 := Tryz.sizeOf163
  v66 := Tryz.zeroValue163
  t70 := Tryz.underlying167
  a70 := Tryz.isAgg167
  z70 := Tryz.sizeOf167
  v70 := Tryz.zeroValue167
  t76 := Tryz.underlying178
  a76 := Tryz.isAgg178
  z76 := Tryz.sizeOf178
  v76 := Tryz.zeroValue178
  t77 := Tryz.underlying179
  a77 := Tryz.isAgg179
  z77 := Tryz.sizeOf179
  v77 := Tryz.zeroValue179 }
end Go.Proofs

set_option linter.unusedVariables false
set_option linter.unusedSimpArgs false
set_option maxRecDepth 100000
set_option maxHeartbeats 4000000
namespace Go.Proofs.YtoaaieiiamdopaaGreatDoor
open Go.Eng
variable [DM]
set_option linter.unusedSectionVars false
@[reducible] def nanC : Ctr := {
  X := Int
  Y := Unit
  args := fun x => [.v (.int .i64 x)]
  rw := fun _ => []
  side := fun _ => True
  val := fun _ => ()
  ens := fun _ _ => True
  res := fun _ _ => .v (.bool false)
  out := fun _ _ => [] }
theorem nan_ok : nanC.ok Tryz.prog 104 := by
  refine ok_of_vc (An := fun _ => anOf []) (known_nil _) mo Tryz.func104 (by kernel_rfl) (by kernel_rfl) (fun _ _ => trivial) (fun (x : Int) hs => ?_)
  ((repeat' ((conv => whnf) <;> first | exact True.intro | (guard_target =~ Fork _ _ _; first | refine F1 ?_ | refine F2 ?_ | refine F3 (fun h => ?_) fun h => ?_) | (guard_target =~ Ar _ _ _; first | refine A1 ?_ | refine A2 ?_ | refine A3 ?_) | (guard_target =~ Go.Eng.Ask _ _; first | refine K1 ?_) | (guard_target =~ All' _ _; first | (refine Y2 fun y he he' hy => ?_; (try dsimp only at he he' hy)) | (refine Y1 fun y he hy => ?_; (try with_reducible conv at he => (rhs; whnf)); (try dsimp only at he hy)) | (refine All'.mk ?_; intro y hy)) | refine F4 (fun h => ?_) fun h => ?_ | refine R1 ?_ | refine Q1 ?_ | fail)); all_goals (conv => whnf))
  refine AskL.mk ?_ trivial
  simp [conj]
def cmpI (a b : Int) : Int := if a < b then -1 else if b < a then 1 else 0
@[reducible] def cmpC : Ctr := {
  X := Int × Int
  Y := Unit
  args := fun x => [.v (.int .i64 x.1), .v (.int .i64 x.2)]
  rw := fun _ => []
  side := fun _ => True
  val := fun _ => ()
  ens := fun _ _ => True
  res := fun x _ => .v (.int .i64 (cmpI x.1 x.2))
  out := fun _ _ => [] }
theorem knownF0 : Known Tryz.prog (gOf [(104, nanC)]) := known_cons ⟨nan_ok, Tryz.call104⟩ (known_nil _)
theorem cmp_ok : cmpC.ok Tryz.prog 87 := by
  refine ok_of_vc (An := fun _ => anOf []) knownF0 mo Tryz.func87 (by kernel_rfl) (by kernel_rfl) (fun _ _ => trivial) (fun x hs => ?_)
  obtain ⟨a, b⟩ := x
  have h3 : (a < b ∧ cmpI a b = -1) ∨ (b < a ∧ ¬ a < b ∧ cmpI a b = 1) ∨ (¬ a < b ∧ ¬ b < a ∧ cmpI a b = 0) := by
    unfold cmpI
    by_cases h1 : a < b
    · rw [if_pos h1]; exact .inl ⟨h1, rfl⟩
    · rw [if_neg h1]
      by_cases h2 : b < a
      · rw [if_pos h2]; exact .inr (.inl ⟨h2, h1, rfl⟩)
      · rw [if_neg h2]; exact .inr (.inr ⟨h1, h2, rfl⟩)
  rcases h3 with ⟨h1, h2⟩ | ⟨h1, h2, h3⟩ | ⟨h1, h2, h3⟩
  all_goals
    ((repeat' ((conv => whnf) <;> first | exact True.intro | (guard_target =~ Fork _ _ _; first | refine F1 ?_ | refine F2 ?_ | refine F3 (fun h => ?_) fun h => ?_) | (guard_target =~ Ar _ _ _; first | refine A1 ?_ | refine A2 ?_ | refine A3 ?_) | (guard_target =~ AskL _ _; first | refine L1 ?_) | (guard_target =~ Go.Eng.Ask _ _; first | refine K1 ?_) | (guard_target =~ All' _ _; first | (refine Y2 fun y he he' hy => ?_; (try dsimp only at he he' hy)) | (refine Y1 fun y he hy => ?_; (try with_reducible conv at he => (rhs; whnf)); (try dsimp only at he hy)) | (refine All'.mk ?_; intro y hy)) | refine F4 (fun h => ?_) fun h => ?_ | refine R1 ?_ | refine Q1 ?_ | fail)); all_goals (conv => whnf))
    refine CallP.mk (C := nanC) a ?_
    ((repeat' ((conv => whnf) <;> first | exact True.intro | (guard_target =~ Fork _ _ _; first | refine F1 ?_ | refine F2 ?_ | refine F3 (fun h => ?_) fun h => ?_) | (guard_target =~ Ar _ _ _; first | refine A1 ?_ | refine A2 ?_ | refine A3 ?_) | (guard_target =~ AskL _ _; first | refine L1 ?_) | (guard_target =~ Go.Eng.Ask _ _; first | refine K1 ?_) | (guard_target =~ All' _ _; first | (refine Y2 fun y he he' hy => ?_; (try dsimp only at he he' hy)) | (refine Y1 fun y he hy => ?_; (try with_reducible conv at he => (rhs; whnf)); (try dsimp only at he hy)) | (refine All'.mk ?_; intro y hy)) | refine F4 (fun h => ?_) fun h => ?_ | refine R1 ?_ | refine Q1 ?_ | fail)); all_goals (conv => whnf))
    refine CallP.mk (C := nanC) b ?_
    ((repeat' ((conv => whnf) <;> first | exact True.intro | (guard_target =~ Fork _ _ _; first | refine F1 ?_ | refine F2 ?_ | refine F3 (fun h => ?_) fun h => ?_) | (guard_target =~ Ar _ _ _; first | refine A1 ?_ | refine A2 ?_ | refine A3 ?_) | (guard_target =~ AskL _ _; first | refine L1 ?_) | (guard_target =~ Go.Eng.Ask _ _; first | refine K1 ?_) | (guard_target =~ All' _ _; first | (refine Y2 fun y he he' hy => ?_; (try dsimp only at he he' hy)) | (refine Y1 fun y he hy => ?_; (try with_reducible conv at he => (rhs; whnf)); (try dsimp only at he hy)) | (refine All'.mk ?_; intro y hy)) | refine F4 (fun h => ?_) fun h => ?_ | refine R1 ?_ | refine Q1 ?_ | fail)); all_goals (conv => whnf))
/-- The first one that is not 0. -/
def orL : List Int → Int
  | [] => 0
  | x :: l => if x = 0 then orL l else x
@[reducible] def orC : Ctr := {
  X := List Int
  Y := Unit
  args := fun l => [.ro true (.int .i64) l]
  rw := fun _ => []
  side := fun l => l.length ≤ 274877906944
  val := fun _ => ()
  ens := fun _ _ => True
  res := fun l _ => .v (.int .i64 (orL l))
  out := fun _ _ => [] }
@[reducible] def orLp (l : List Int) : LA := {
  X := Nat
  pre := fun i => i ≤ l.length ∧ orL l = orL (l.drop i)
  mu := fun i => l.length - i
  T := fun i => [(3, .v (.int .i64 0)), (6, .ro true (.int .i64) l), (7, .v (.int .i64 l.length)), (8, .v (.int .i64 (i : Nat)))]
  M := fun _ => [] }
theorem or_ok : orC.ok Tryz.prog 86 := by
  refine ok_of_vc (An := fun (l : List Int) => anOf [(0, .loop (orLp l))]) (known_nil _) mo Tryz.func86 (by kernel_rfl) (by kernel_rfl) (fun _ _ => trivial) (fun (l : List Int) hs => ?_)
  have hs : l.length ≤ 274877906944 := hs
  ((repeat' ((conv => whnf) <;> first | exact True.intro | (guard_target =~ Fork _ _ _; first | refine F1 ?_ | refine F2 ?_ | refine F3 (fun h => ?_) fun h => ?_) | (guard_target =~ Ar _ _ _; first | refine A1 ?_ | refine A2 ?_ | refine A3 ?_) | (guard_target =~ AskL _ _; first | refine L1 ?_) | (guard_target =~ Go.Eng.Ask _ _; first | refine K1 ?_) | (guard_target =~ All' _ _; first | (refine Y2 fun y he he' hy => ?_; (try dsimp only at he he' hy)) | (refine Y1 fun y he hy => ?_; (try with_reducible conv at he => (rhs; whnf)); (try dsimp only at he hy)) | (refine All'.mk ?_; intro y hy)) | refine F4 (fun h => ?_) fun h => ?_ | refine R1 ?_ | refine Q1 ?_ | fail)); all_goals (conv => whnf))
  refine Some'.mk (0 : Nat) ?_
  ((repeat' ((conv => whnf) <;> first | exact True.intro | (guard_target =~ Fork _ _ _; first | refine F1 ?_ | refine F2 ?_ | refine F3 (fun h => ?_) fun h => ?_) | (guard_target =~ Ar _ _ _; first | refine A1 ?_ | refine A2 ?_ | refine A3 ?_) | (guard_target =~ AskL _ _; first | refine L1 ?_) | (guard_target =~ Go.Eng.Ask _ _; first | refine K1 ?_) | (guard_target =~ All' _ _; first | (refine Y2 fun y he he' hy => ?_; (try dsimp only at he he' hy)) | (refine Y1 fun y he hy => ?_; (try with_reducible conv at he => (rhs; whnf)); (try dsimp only at he hy)) | (refine All'.mk ?_; intro y hy)) | refine F4 (fun h => ?_) fun h => ?_ | refine R1 ?_ | refine Q1 ?_ | fail)); all_goals (conv => whnf))
  refine Ask.mk ⟨Nat.zero_le _, rfl⟩ ?_
  refine AllI.mk ?_
  rintro (i : Nat) ⟨h1, h2⟩
  have h1 : i ≤ l.length := h1
  have h2 : orL l = orL (l.drop i) := h2
  by_cases hi : i = l.length
  · subst hi
    rw [List.drop_length] at h2
    have h2 : orL l = 0 := h2
    exact G1
  · obtain ⟨e, he⟩ : ∃ e, l[i]? = some e := ⟨_, List.getElem?_eq_getElem (by omega)⟩
    rw [drop_sn he] at h2
    by_cases h0 : e = 0
    · have h3 : orL l = orL (l.drop (i + 1)) := by rw [h2]; exact if_pos h0
      ((repeat' ((conv => whnf) <;> first | exact True.intro | (guard_target =~ Fork _ _ _; first | refine F1 ?_ | refine F2 ?_ | refine F3 (fun h => ?_) fun h => ?_) | (guard_target =~ Ar _ _ _; first | refine A1 ?_ | refine A2 ?_ | refine A3 ?_) | (guard_target =~ AskL _ _; first | refine L1 ?_) | (guard_target =~ Go.Eng.Ask _ _; first | refine K1 ?_) | (guard_target =~ All' _ _; first | (refine Y2 fun y he he' hy => ?_; (try dsimp only at he he' hy)) | (refine Y1 fun y he hy => ?_; (try with_reducible conv at he => (rhs; whnf)); (try dsimp only at he hy))) | refine F4 (fun h => ?_) fun h => ?_ | refine R1 ?_ | refine Q1 ?_ | fail)); all_goals (conv => whnf))
      refine All'.mk ?_; rintro (e' : Int) he'
      obtain rfl : e = e' := Option.some.inj (he.symm.trans he')
      ((repeat' ((conv => whnf) <;> first | exact True.intro | (guard_target =~ Fork _ _ _; first | refine F1 ?_ | refine F2 ?_ | refine F3 (fun h => ?_) fun h => ?_) | (guard_target =~ Ar _ _ _; first | refine A1 ?_ | refine A2 ?_ | refine A3 ?_) | (guard_target =~ AskL _ _; first | refine L1 ?_) | (guard_target =~ Go.Eng.Ask _ _; first | refine K1 ?_) | (guard_target =~ All' _ _; first | (refine Y2 fun y he he' hy => ?_; (try dsimp only at he he' hy)) | (refine Y1 fun y he hy => ?_; (try with_reducible conv at he => (rhs; whnf)); (try dsimp only at he hy)) | (refine All'.mk ?_; intro y hy)) | refine F4 (fun h => ?_) fun h => ?_ | refine R1 ?_ | refine Q1 ?_ | fail)); all_goals (conv => whnf))
      refine Some'.mk (i + 1 : Nat) ?_
      exact G1
    · have h3 : orL l = e := by rw [h2]; exact if_neg h0
      ((repeat' ((conv => whnf) <;> first | exact True.intro | (guard_target =~ Fork _ _ _; first | refine F1 ?_ | refine F2 ?_ | refine F3 (fun h => ?_) fun h => ?_) | (guard_target =~ Ar _ _ _; first | refine A1 ?_ | refine A2 ?_ | refine A3 ?_) | (guard_target =~ AskL _ _; first | refine L1 ?_) | (guard_target =~ Go.Eng.Ask _ _; first | refine K1 ?_) | (guard_target =~ All' _ _; first | (refine Y2 fun y he he' hy => ?_; (try dsimp only at he he' hy)) | (refine Y1 fun y he hy => ?_; (try with_reducible conv at he => (rhs; whnf)); (try dsimp only at he hy))) | refine F4 (fun h => ?_) fun h => ?_ | refine R1 ?_ | refine Q1 ?_ | fail)); all_goals (conv => whnf))
      refine All'.mk ?_; rintro (e' : Int) he'
      obtain rfl : e = e' := Option.some.inj (he.symm.trans he')
      exact G1
def cfR (a b : Run) : Int := orL [cmpI a.1 b.1, cmpI a.2.1 b.2.1]
theorem cfR_lt (a b : Run) : cfR a b < 0 ↔ (a.1 < b.1 ∨ a.1 = b.1 ∧ a.2.1 < b.2.1) := by
  unfold cfR orL orL orL cmpI
  repeat' split
  all_goals omega
@[reducible] def cfC : Ctr := {
  X := Run × Run
  Y := Unit
  args := fun x => [.agg (runS x.1), .agg (runS x.2)]
  rw := fun _ => []
  side := fun _ => True
  val := fun _ => ()
  ens := fun _ _ => True
  res := fun x _ => .v (.int .i64 (cfR x.1 x.2))
  out := fun _ _ => [] }
theorem knownF1 : Known Tryz.prog (gOf [(87, cmpC), (86, orC)]) := known_cons ⟨cmp_ok, Tryz.call87⟩ (known_cons ⟨or_ok, Tryz.call86⟩ (known_nil _))
theorem cf_ok : cfC.ok Tryz.prog 85 := by
  refine ok_of_vc (An := fun _ => anOf []) knownF1 mo Tryz.func85 (by kernel_rfl) (by kernel_rfl) (fun _ _ => trivial) (fun x hs => ?_)
  obtain ⟨⟨a, b, c⟩, ⟨d, e, f⟩⟩ := x
  ((repeat' ((conv => whnf) <;> first | exact True.intro | (guard_target =~ Fork _ _ _; first | refine F1 ?_ | refine F2 ?_ | refine F3 (fun h => ?_) fun h => ?_) | (guard_target =~ Ar _ _ _; first | refine A1 ?_ | refine A2 ?_ | refine A3 ?_) | (guard_target =~ AskL _ _; first | refine L1 ?_) | (guard_target =~ Go.Eng.Ask _ _; first | refine K1 ?_) | (guard_target =~ All' _ _; first | (refine Y2 fun y he he' hy => ?_; (try dsimp only at he he' hy)) | (refine Y1 fun y he hy => ?_; (try with_reducible conv at he => (rhs; whnf)); (try dsimp only at he hy)) | (refine All'.mk ?_; intro y hy)) | refine F4 (fun h => ?_) fun h => ?_ | refine R1 ?_ | refine Q1 ?_ | fail)); all_goals (conv => whnf))
  refine CallP.mk (C := cmpC) (a, d) ?_
  ((repeat' ((conv => whnf) <;> first | exact True.intro | (guard_target =~ Fork _ _ _; first | refine F1 ?_ | refine F2 ?_ | refine F3 (fun h => ?_) fun h => ?_) | (guard_target =~ Ar _ _ _; first | refine A1 ?_ | refine A2 ?_ | refine A3 ?_) | (guard_target =~ AskL _ _; first | refine L1 ?_) | (guard_target =~ Go.Eng.Ask _ _; first | refine K1 ?_) | (guard_target =~ All' _ _; first | (refine Y2 fun y he he' hy => ?_; (try dsimp only at he he' hy)) | (refine Y1 fun y he hy => ?_; (try with_reducible conv at he => (rhs; whnf)); (try dsimp only at he hy)) | (refine All'.mk ?_; intro y hy)) | refine F4 (fun h => ?_) fun h => ?_ | refine R1 ?_ | refine Q1 ?_ | fail)); all_goals (conv => whnf))
  refine CallP.mk (C := cmpC) (b, e) ?_
  ((repeat' ((conv => whnf) <;> first | exact True.intro | (guard_target =~ Fork _ _ _; first | refine F1 ?_ | refine F2 ?_ | refine F3 (fun h => ?_) fun h => ?_) | (guard_target =~ Ar _ _ _; first | refine A1 ?_ | refine A2 ?_ | refine A3 ?_) | (guard_target =~ AskL _ _; first | refine L1 ?_) | (guard_target =~ Go.Eng.Ask _ _; first | refine K1 ?_) | (guard_target =~ All' _ _; first | (refine Y2 fun y he he' hy => ?_; (try dsimp only at he he' hy)) | (refine Y1 fun y he hy => ?_; (try with_reducible conv at he => (rhs; whnf)); (try dsimp only at he hy)) | (refine All'.mk ?_; intro y hy)) | refine F4 (fun h => ?_) fun h => ?_ | refine R1 ?_ | refine Q1 ?_ | fail)); all_goals (conv => whnf))
  refine CallP.mk (C := orC) [cmpI a d, cmpI b e] ?_
  exact G1
instance : Inhabited {r : runT.den // (fun _ : Run => True) r} := ⟨⟨((0 : Int), (0 : Int), (0 : Int)), trivial⟩⟩
abbrev anyR (_ : runT.den) : Prop := True
instance inhR : Inhabited {r : runT.den // anyR r} := ⟨⟨((0 : Int), (0 : Int), (0 : Int)), trivial⟩⟩
theorem cf_swo : Go.Sort.SWO (Go.Proofs.ltOf fun (x y : {r : runT.den // anyR r}) => cfR x.1 y.1) := by
  refine ⟨fun x => ?_, fun x y z h1 h2 => ?_, fun x y z h1 h2 => ?_⟩
  · refine decide_eq_false ?_
    rw [cfR_lt]; omega
  · have h1 := (cfR_lt _ _).1 (of_decide_eq_true h1)
    have h2 := (cfR_lt _ _).1 (of_decide_eq_true h2)
    refine decide_eq_true ((cfR_lt _ _).2 ?_)
    omega
  · have h1 := mt (cfR_lt x.1 y.1).2 (of_decide_eq_false h1)
    have h2 := mt (cfR_lt y.1 z.1).2 (of_decide_eq_false h2)
    refine decide_eq_false (fun h => ?_)
    have h := (cfR_lt x.1 z.1).1 h
    omega
@[reducible] noncomputable def sortRC : Ctr := sortC 85 57 runT anyR cfR
theorem sortR_ok : sortRC.ok Tryz.prog 84 :=
  sort_ok Tryz.sort84 rfl rfl (by kernel_rfl) (by kernel_rfl) (by decide) (fun r => [.int .i64 r.1, .int .i64 r.2.1, .int .i64 r.2.2]) (fun _ => rfl) cf_swo
    Tryz.call85 (C := cfC) (@cf_ok dmT) (fun x y => (x.1, y.1)) (fun _ _ => trivial) (fun _ _ => rfl) (fun _ _ => rfl) (fun _ _ => rfl)
abbrev anyL (l : List Run) : List {r : runT.den // anyR r} := l.map fun r => ⟨r, trivial⟩
theorem anyL_map (l : List Run) : (anyL l).map (·.1) = l := by
  show (l.map _).map _ = l
  rw [List.map_map]; exact List.map_id l
noncomputable def sortR (l : List Run) : List Run := (sortD cfR (anyL l)).map (·.1)
theorem sortR_perm (l : List Run) : (sortR l).Perm l ∧ (sortR l).Pairwise keyLe := by
  obtain ⟨h1, h2⟩ := sortD_perm cf_swo (anyL l)
  refine ⟨?_, ?_⟩
  · have := h1.map (·.1)
    rwa [anyL_map] at this
  · unfold sortR
    rw [List.pairwise_map]
    refine h2.imp fun {a b} h => ?_
    rw [cfR_lt] at h
    unfold keyLe
    omega

def stepM (out : List Run) (r : Run) : List Run := match out.getLast? with
  | some p => if p.1 = r.1 ∧ r.2.1 - 1 ≤ p.2.2 then out.dropLast ++ [(p.1, p.2.1, max p.2.2 r.2.2)] else out ++ [r]
  | none => out ++ [r]
theorem mrg_cons (out : List Run) (r : Run) (l : List Run) : mrg out (r :: l) = mrg (stepM out r) l := by
  conv => lhs; unfold mrg
  unfold stepM
  cases out.getLast? with
  | none => rfl
  | some p => dsimp only; split <;> rfl
theorem mrg_snoc : ∀ (l out : List Run) (r : Run), mrg out (l ++ [r]) = stepM (mrg out l) r
  | [], out, r => by show mrg out [r] = _; rw [mrg_cons]; rfl
  | x :: l, out, r => by rw [List.cons_append, mrg_cons, mrg_cons]; exact mrg_snoc l _ r
theorem stepM_len (out : List Run) (r : Run) : (stepM out r).length ≤ out.length + 1 := by
  unfold stepM
  split
  · split
    · simp only [List.length_append, List.length_dropLast, List.length_singleton]; omega
    · simp
  · simp
theorem mrg_len : ∀ (l out : List Run), (mrg out l).length ≤ out.length + l.length
  | [], out => Nat.le_refl _
  | x :: l, out => by
    rw [mrg_cons]
    have h1 := mrg_len l (stepM out x)
    have h2 := stepM_len out x
    simp only [List.length_cons]; omega
theorem step_last {out : List Run} {p r : Run} (h : out[out.length - 1]? = some p) :
    stepM out r = if p.1 = r.1 ∧ r.2.1 - 1 ≤ p.2.2 then out.set (out.length - 1) (p.1, p.2.1, max p.2.2 r.2.2) else out ++ [r] := by
  unfold stepM
  rw [List.getLast?_eq_getElem?, h]
  dsimp only
  split
  · have hne : out ≠ [] := fun e => by rw [e] at h; simp at h
    have hl : 0 < out.length := List.length_pos_iff.2 hne
    rw [List.dropLast_eq_take]
    have e1 : out = out.take (out.length - 1) ++ [p] := by
      have := take_sn h
      rw [← this, show out.length - 1 + 1 = out.length by omega, List.take_length]
    have e2 : (out.take (out.length - 1)).length = out.length - 1 := by rw [List.length_take]; omega
    conv => rhs; rw [e1]
    rw [List.length_append, e2, List.length_singleton, show out.length - 1 + 1 - 1 = out.length - 1 by omega, List.set_append_right _ _ (by omega), e2, Nat.sub_self]
    rfl
  · rfl
@[reducible] noncomputable def mergedC : Ctr := {
  X := List Run
  Y := Unit
  args := fun _ => [.sl 0]
  rw := fun l => [(0, .row 57 runT l)]
  side := fun l => (∀ r, r ∈ l → runP r) ∧ l.length ≤ 1000000
  val := fun _ => ()
  ens := fun _ _ => True
  res := fun _ _ => .sl 1000
  out := fun l _ => [(1000, .row 57 runT (mrg [] (sortR l)))] }
@[reducible] noncomputable def mergedL (l : List Run) : LA := {
  X := Nat
  pre := fun i => i ≤ (sortR l).length
  mu := fun i => (sortR l).length - i
  T := fun i => [(3, .sl 4), (9, .sl 0), (10, .v (.int .i64 (sortR l).length)), (11, .v (.int .i64 (i : Nat)))]
  M := fun i => [(0, .row 57 runT (sortR l)), (4, .row 57 runT (mrg [] ((sortR l).take i)))] }
theorem knownF2 : Known Tryz.prog (gOf [(84, sortRC)]) := known_cons ⟨sortR_ok, Tryz.call84⟩ (known_nil _)
theorem merged_ok : mergedC.ok Tryz.prog 65 := by
  refine ok_of_vc (An := fun (l : List Run) => anOf [(0, .loop (mergedL l))]) knownF2 mo Tryz.func65 (by kernel_rfl) (by kernel_rfl) (fun _ _ => trivial) (fun (l : List Run) hs => ?_)
  obtain ⟨hr, hl⟩ := hs
  have hl : l.length ≤ 1000000 := hl
  have hr : ∀ r, r ∈ l → runP r := hr
  obtain ⟨hp, hsrt⟩ := sortR_perm l
  have hrs : ∀ r, r ∈ sortR l → runP r := fun r h => hr r (hp.mem_iff.1 h)
  have hsl : (sortR l).length = l.length := hp.length_eq
  have hal := anyL_map l
  have hall : (anyL l).length = l.length := List.length_map ..
  ((repeat' ((conv => whnf) <;> first | exact True.intro | (guard_target =~ Fork _ _ _; first | refine F1 ?_ | refine F2 ?_ | refine F3 (fun h => ?_) fun h => ?_) | (guard_target =~ Ar _ _ _; first | refine A1 ?_ | refine A2 ?_ | refine A3 ?_) | (guard_target =~ AskL _ _; first | refine L1 ?_) | (guard_target =~ Go.Eng.Ask _ _; first | refine K1 ?_) | (guard_target =~ All' _ _; first | (refine Y2 fun y he he' hy => ?_; (try dsimp only at he he' hy)) | (refine Y1 fun y he hy => ?_; (try with_reducible conv at he => (rhs; whnf)); (try dsimp only at he hy)) | (refine All'.mk ?_; intro y hy)) | refine F4 (fun h => ?_) fun h => ?_ | refine R1 ?_ | refine Q1 ?_ | fail)); all_goals (conv => whnf))
  refine CallP.mk (C := sortRC) (anyL l) ?_
  ((repeat' ((conv => whnf) <;> first | exact True.intro | (guard_target =~ Fork _ _ _; first | refine F1 ?_ | refine F2 ?_ | refine F3 (fun h => ?_) fun h => ?_) | (guard_target =~ Ar _ _ _; first | refine A1 ?_ | refine A2 ?_ | refine A3 ?_) | (guard_target =~ Go.Eng.Ask _ _; first | refine K1 ?_) | (guard_target =~ All' _ _; first | (refine Y2 fun y he he' hy => ?_; (try dsimp only at he he' hy)) | (refine Y1 fun y he hy => ?_; (try with_reducible conv at he => (rhs; whnf)); (try dsimp only at he hy)) | (refine All'.mk ?_; intro y hy)) | refine F4 (fun h => ?_) fun h => ?_ | refine R1 ?_ | refine Q1 ?_ | fail)); all_goals (conv => whnf))
  refine AskL.mk ?_ ?_
  · show SV.ro true runT l = SV.ro true runT ((anyL l).map (·.1))
    rw [hal]
  refine Ask.mk (by show (anyL l).length < _; omega) ?_
  ((repeat' ((conv => whnf) <;> first | exact True.intro | (guard_target =~ Fork _ _ _; first | refine F1 ?_ | refine F2 ?_ | refine F3 (fun h => ?_) fun h => ?_) | (guard_target =~ Ar _ _ _; first | refine A1 ?_ | refine A2 ?_ | refine A3 ?_) | (guard_target =~ AskL _ _; first | refine L1 ?_) | (guard_target =~ Go.Eng.Ask _ _; first | refine K1 ?_) | (guard_target =~ All' _ _; first | (refine Y2 fun y he he' hy => ?_; (try dsimp only at he he' hy)) | (refine Y1 fun y he hy => ?_; (try with_reducible conv at he => (rhs; whnf)); (try dsimp only at he hy)) | (refine All'.mk ?_; intro y hy)) | refine F4 (fun h => ?_) fun h => ?_ | refine R1 ?_ | refine Q1 ?_ | fail)); all_goals (conv => whnf))
  refine Some'.mk (0 : Nat) ?_
  have hm0 : mrg [] ((sortR l).take 0) = [] := rfl
  ((repeat' ((conv => whnf) <;> first | exact True.intro | (guard_target =~ Fork _ _ _; first | refine F1 ?_ | refine F2 ?_ | refine F3 (fun h => ?_) fun h => ?_) | (guard_target =~ Ar _ _ _; first | refine A1 ?_ | refine A2 ?_ | refine A3 ?_) | (guard_target =~ Go.Eng.Ask _ _; first | refine K1 ?_) | (guard_target =~ All' _ _; first | (refine Y2 fun y he he' hy => ?_; (try dsimp only at he he' hy)) | (refine Y1 fun y he hy => ?_; (try with_reducible conv at he => (rhs; whnf)); (try dsimp only at he hy)) | (refine All'.mk ?_; intro y hy)) | refine F4 (fun h => ?_) fun h => ?_ | refine R1 ?_ | refine Q1 ?_ | fail)); all_goals (conv => whnf))
  refine AskL.mk ?_ ?_
  · (dsimp only [conj]; repeat' apply And.intro) <;> first | rfl | (show (((sortD cfR (anyL l)).map (·.1)).length : Int) = ((sortR l).length : Nat); rfl)
  ((repeat' ((conv => whnf) <;> first | exact True.intro | (guard_target =~ Fork _ _ _; first | refine F1 ?_ | refine F2 ?_ | refine F3 (fun h => ?_) fun h => ?_) | (guard_target =~ Ar _ _ _; first | refine A1 ?_ | refine A2 ?_ | refine A3 ?_) | (guard_target =~ AskL _ _; first | refine L1 ?_) | (guard_target =~ Go.Eng.Ask _ _; first | refine K1 ?_) | (guard_target =~ All' _ _; first | (refine Y2 fun y he he' hy => ?_; (try dsimp only at he he' hy)) | (refine Y1 fun y he hy => ?_; (try with_reducible conv at he => (rhs; whnf)); (try dsimp only at he hy)) | (refine All'.mk ?_; intro y hy)) | refine F4 (fun h => ?_) fun h => ?_ | refine R1 ?_ | refine Q1 ?_ | fail)); all_goals (conv => whnf))
  refine AllI.mk ?_
  rintro (i : Nat) hi
  have hi : i ≤ (sortR l).length := hi
  have hml := mrg_len ((sortR l).take i) []
  rw [List.length_take, List.length_nil] at hml
  by_cases hil : i = (sortR l).length
  · subst hil
    have htk : (sortR l).take (sortR l).length = sortR l := List.take_length
    dsimp only [mergedL]
    rw [htk]
    exact G1
  · obtain ⟨⟨m, f, t⟩, he⟩ : ∃ e, (sortR l)[i]? = some e := ⟨_, List.getElem?_eq_getElem (by omega)⟩
    obtain ⟨b1, b2, b3, b4, b5⟩ : runP (m, f, t) := hrs _ (List.mem_of_getElem? he)
    dsimp only at b1 b2 b3 b4 b5
    have hsn : mrg [] ((sortR l).take (i + 1)) = stepM (mrg [] ((sortR l).take i)) (m, f, t) := by rw [take_sn he, mrg_snoc]
    have hsl2 := stepM_len (mrg [] ((sortR l).take i)) (m, f, t)
    dsimp only [mergedL]
    generalize mrg [] ((sortR l).take i) = out at hml hsn hsl2
    rcases List.eq_nil_or_concat out with rfl | ⟨o, p, rfl⟩
    · have hst : stepM [] (m, f, t) = [] ++ [(m, f, t)] := rfl
      rw [hst] at hsn
      have hnl : ([] : List Run).length = 0 := rfl
      ((repeat' ((conv => whnf) <;> first | exact True.intro | (guard_target =~ Fork _ _ _; first | refine F1 ?_ | refine F2 ?_ | refine F3 (fun h => ?_) fun h => ?_) | (guard_target =~ Ar _ _ _; first | refine A1 ?_ | refine A2 ?_ | refine A3 ?_) | (guard_target =~ AskL _ _; first | refine L1 ?_) | (guard_target =~ Go.Eng.Ask _ _; first | refine K1 ?_) | (guard_target =~ All' _ _; first | (refine Y2 fun y he he' hy => ?_; (try dsimp only at he he' hy)) | (refine Y1 fun y he hy => ?_; (try with_reducible conv at he => (rhs; whnf)); (try dsimp only at he hy))) | refine F4 (fun h => ?_) fun h => ?_ | refine R1 ?_ | refine Q1 ?_ | fail)); all_goals (conv => whnf))
      refine All'.mk ?_; rintro (e' : Run) he'
      obtain rfl : (m, f, t) = e' := Option.some.inj (he.symm.trans he')
      clear he'
      ((repeat' ((conv => whnf) <;> first | exact True.intro | (guard_target =~ Fork _ _ _; first | refine F1 ?_ | refine F2 ?_ | refine F3 (fun h => ?_) fun h => ?_) | (guard_target =~ Ar _ _ _; first | refine A1 ?_ | refine A2 ?_ | refine A3 ?_) | (guard_target =~ AskL _ _; first | refine L1 ?_) | (guard_target =~ Go.Eng.Ask _ _; first | refine K1 ?_) | (guard_target =~ All' _ _; first | (refine Y2 fun y he he' hy => ?_; (try dsimp only at he he' hy)) | (refine Y1 fun y he hy => ?_; (try with_reducible conv at he => (rhs; whnf)); (try dsimp only at he hy)) | (refine All'.mk ?_; intro y hy)) | refine F4 (fun h => ?_) fun h => ?_ | refine R1 ?_ | refine Q1 ?_ | fail)); all_goals (conv => whnf))
      refine Some'.mk (i + 1 : Nat) ?_
      dsimp only [mergedL]
      rw [hsn]
      exact G1
    · rw [List.concat_eq_append] at *
      have hlast : (o ++ [p])[(o ++ [p]).length - 1]? = some p := by simp
      have hst := step_last (r := (m, f, t)) hlast
      have hol : (o ++ [p]).length = o.length + 1 := by simp
      obtain ⟨pn, pf, pt⟩ := p
      ((repeat' ((conv => whnf) <;> first | exact True.intro | (guard_target =~ Fork _ _ _; first | refine F1 ?_ | refine F2 ?_ | refine F3 (fun h => ?_) fun h => ?_) | (guard_target =~ Ar _ _ _; first | refine A1 ?_ | refine A2 ?_ | refine A3 ?_) | (guard_target =~ AskL _ _; first | refine L1 ?_) | (guard_target =~ Go.Eng.Ask _ _; first | refine K1 ?_) | (guard_target =~ All' _ _; first | (refine Y2 fun y he he' hy => ?_; (try dsimp only at he he' hy)) | (refine Y1 fun y he hy => ?_; (try with_reducible conv at he => (rhs; whnf)); (try dsimp only at he hy))) | refine F4 (fun h => ?_) fun h => ?_ | refine R1 ?_ | refine Q1 ?_ | fail)); all_goals (conv => whnf))
      refine All'.mk ?_; rintro (e' : Run) he'
      obtain rfl : (m, f, t) = e' := Option.some.inj (he.symm.trans he')
      clear he'
      have ld : ∀ e' : Run, (o ++ [(pn, pf, pt)])[(((o ++ [(pn, pf, pt)]).length : Int) - 1).toNat]? = some e' → (pn, pf, pt) = e' := fun e' he' => Option.some.inj (hlast.symm.trans (by rw [← he']; congr 1; omega))
      by_cases hc : pn = m ∧ f - 1 ≤ pt
      · rw [if_pos hc] at hst
        rw [hst] at hsn
        obtain ⟨hc1, hc2⟩ := hc
        ((repeat' ((conv => whnf) <;> first | exact True.intro | (guard_target =~ Fork _ _ _; first | refine F1 ?_ | refine F2 ?_ | refine F3 (fun h => ?_) fun h => ?_) | (guard_target =~ Ar _ _ _; first | refine A1 ?_ | refine A2 ?_ | refine A3 ?_) | (guard_target =~ AskL _ _; first | refine L1 ?_) | (guard_target =~ Go.Eng.Ask _ _; first | refine K1 ?_) | (guard_target =~ All' _ _; first | (refine Y2 fun y he he' hy => ?_; (try dsimp only at he he' hy)) | (refine Y1 fun y he hy => ?_; (try with_reducible conv at he => (rhs; whnf)); (try dsimp only at he hy))) | refine F4 (fun h => ?_) fun h => ?_ | refine R1 ?_ | refine Q1 ?_ | fail)); all_goals (conv => whnf))
        refine All'.mk ?_; rintro (e' : Run) he'
        obtain rfl := ld e' he'
        ((repeat' ((conv => whnf) <;> first | exact True.intro | (guard_target =~ Fork _ _ _; first | refine F1 ?_ | refine F2 ?_ | refine F3 (fun h => ?_) fun h => ?_) | (guard_target =~ Ar _ _ _; first | refine A1 ?_ | refine A2 ?_ | refine A3 ?_) | (guard_target =~ AskL _ _; first | refine L1 ?_) | (guard_target =~ Go.Eng.Ask _ _; first | refine K1 ?_) | (guard_target =~ All' _ _; first | (refine Y2 fun y he he' hy => ?_; (try dsimp only at he he' hy)) | (refine Y1 fun y he hy => ?_; (try with_reducible conv at he => (rhs; whnf)); (try dsimp only at he hy))) | refine F4 (fun h => ?_) fun h => ?_ | refine R1 ?_ | refine Q1 ?_ | fail)); all_goals (conv => whnf))
        refine All'.mk ?_; rintro (e' : Run) he'
        obtain rfl := ld e' he'
        ((repeat' ((conv => whnf) <;> first | exact True.intro | (guard_target =~ Fork _ _ _; first | refine F1 ?_ | refine F2 ?_ | refine F3 (fun h => ?_) fun h => ?_) | (guard_target =~ Ar _ _ _; first | refine A1 ?_ | refine A2 ?_ | refine A3 ?_) | (guard_target =~ AskL _ _; first | refine L1 ?_) | (guard_target =~ Go.Eng.Ask _ _; first | refine K1 ?_) | (guard_target =~ All' _ _; first | (refine Y2 fun y he he' hy => ?_; (try dsimp only at he he' hy)) | (refine Y1 fun y he hy => ?_; (try with_reducible conv at he => (rhs; whnf)); (try dsimp only at he hy))) | refine F4 (fun h => ?_) fun h => ?_ | refine R1 ?_ | refine Q1 ?_ | fail)); all_goals (conv => whnf))
        refine All'.mk ?_; rintro (e' : Run) he'
        obtain rfl := ld e' he'
        ((repeat' ((conv => whnf) <;> first | exact True.intro | (guard_target =~ Fork _ _ _; first | refine F1 ?_ | refine F2 ?_ | refine F3 (fun h => ?_) fun h => ?_) | (guard_target =~ Ar _ _ _; first | refine A1 ?_ | refine A2 ?_ | refine A3 ?_) | (guard_target =~ AskL _ _; first | refine L1 ?_) | (guard_target =~ Go.Eng.Ask _ _; first | refine K1 ?_) | (guard_target =~ All' _ _; first | (refine Y2 fun y he he' hy => ?_; (try dsimp only at he he' hy)) | (refine Y1 fun y he hy => ?_; (try with_reducible conv at he => (rhs; whnf)); (try dsimp only at he hy))) | refine F4 (fun h => ?_) fun h => ?_ | refine R1 ?_ | refine Q1 ?_ | fail)); all_goals (conv => whnf))
        refine All'.mk ?_; rintro (e' : Run) he'
        obtain rfl := ld e' he'
        refine Some'.mk ((pn, pf, max pt t) : Run) ?_
        refine Eqn.mk rfl ?_
        have hix : (((o ++ [(pn, pf, pt)]).length : Int) - 1).toNat = (o ++ [(pn, pf, pt)]).length - 1 := by omega
        ((repeat' ((conv => whnf) <;> first | exact True.intro | (guard_target =~ Fork _ _ _; first | refine F1 ?_ | refine F2 ?_ | refine F3 (fun h => ?_) fun h => ?_) | (guard_target =~ Ar _ _ _; first | refine A1 ?_ | refine A2 ?_ | refine A3 ?_) | (guard_target =~ AskL _ _; first | refine L1 ?_) | (guard_target =~ Go.Eng.Ask _ _; first | refine K1 ?_) | (guard_target =~ All' _ _; first | (refine Y2 fun y he he' hy => ?_; (try dsimp only at he he' hy)) | (refine Y1 fun y he hy => ?_; (try with_reducible conv at he => (rhs; whnf)); (try dsimp only at he hy))) | refine F4 (fun h => ?_) fun h => ?_ | refine R1 ?_ | refine Q1 ?_ | fail)); all_goals (conv => whnf))
        refine Some'.mk (i + 1 : Nat) ?_
        dsimp only [mergedL]
        rw [hsn]
        ((repeat' ((conv => whnf) <;> first | exact True.intro | (guard_target =~ Fork _ _ _; first | refine F1 ?_ | refine F2 ?_ | refine F3 (fun h => ?_) fun h => ?_) | (guard_target =~ Ar _ _ _; first | refine A1 ?_ | refine A2 ?_ | refine A3 ?_) | (guard_target =~ Go.Eng.Ask _ _; first | refine K1 ?_) | (guard_target =~ All' _ _; first | (refine Y2 fun y he he' hy => ?_; (try dsimp only at he he' hy)) | (refine Y1 fun y he hy => ?_; (try with_reducible conv at he => (rhs; whnf)); (try dsimp only at he hy)) | (refine All'.mk ?_; intro y hy)) | refine F4 (fun h => ?_) fun h => ?_ | refine R1 ?_ | refine Q1 ?_ | fail)); all_goals (conv => whnf))
        refine AskL.mk ?_ ?_
        · (dsimp only [conj]; repeat' apply And.intro) <;> first | rfl | omega | (rw [← hix])
        exact G1
      · rw [if_neg hc] at hst
        rw [hst] at hsn
        by_cases hpm : pn = m
        · have hft : ¬ f - 1 ≤ pt := fun h => hc ⟨hpm, h⟩
          ((repeat' ((conv => whnf) <;> first | exact True.intro | (guard_target =~ Fork _ _ _; first | refine F1 ?_ | refine F2 ?_ | refine F3 (fun h => ?_) fun h => ?_) | (guard_target =~ Ar _ _ _; first | refine A1 ?_ | refine A2 ?_ | refine A3 ?_) | (guard_target =~ AskL _ _; first | refine L1 ?_) | (guard_target =~ Go.Eng.Ask _ _; first | refine K1 ?_) | (guard_target =~ All' _ _; first | (refine Y2 fun y he he' hy => ?_; (try dsimp only at he he' hy)) | (refine Y1 fun y he hy => ?_; (try with_reducible conv at he => (rhs; whnf)); (try dsimp only at he hy))) | refine F4 (fun h => ?_) fun h => ?_ | refine R1 ?_ | refine Q1 ?_ | fail)); all_goals (conv => whnf))
          refine All'.mk ?_; rintro (e' : Run) he'
          obtain rfl := ld e' he'
          ((repeat' ((conv => whnf) <;> first | exact True.intro | (guard_target =~ Fork _ _ _; first | refine F1 ?_ | refine F2 ?_ | refine F3 (fun h => ?_) fun h => ?_) | (guard_target =~ Ar _ _ _; first | refine A1 ?_ | refine A2 ?_ | refine A3 ?_) | (guard_target =~ AskL _ _; first | refine L1 ?_) | (guard_target =~ Go.Eng.Ask _ _; first | refine K1 ?_) | (guard_target =~ All' _ _; first | (refine Y2 fun y he he' hy => ?_; (try dsimp only at he he' hy)) | (refine Y1 fun y he hy => ?_; (try with_reducible conv at he => (rhs; whnf)); (try dsimp only at he hy))) | refine F4 (fun h => ?_) fun h => ?_ | refine R1 ?_ | refine Q1 ?_ | fail)); all_goals (conv => whnf))
          refine All'.mk ?_; rintro (e' : Run) he'
          obtain rfl := ld e' he'
          ((repeat' ((conv => whnf) <;> first | exact True.intro | (guard_target =~ Fork _ _ _; first | refine F1 ?_ | refine F2 ?_ | refine F3 (fun h => ?_) fun h => ?_) | (guard_target =~ Ar _ _ _; first | refine A1 ?_ | refine A2 ?_ | refine A3 ?_) | (guard_target =~ AskL _ _; first | refine L1 ?_) | (guard_target =~ Go.Eng.Ask _ _; first | refine K1 ?_) | (guard_target =~ All' _ _; first | (refine Y2 fun y he he' hy => ?_; (try dsimp only at he he' hy)) | (refine Y1 fun y he hy => ?_; (try with_reducible conv at he => (rhs; whnf)); (try dsimp only at he hy))) | refine F4 (fun h => ?_) fun h => ?_ | refine R1 ?_ | refine Q1 ?_ | fail)); all_goals (conv => whnf))
          refine Some'.mk (i + 1 : Nat) ?_
          dsimp only [mergedL]
          rw [hsn]
          ((repeat' ((conv => whnf) <;> first | exact True.intro | (guard_target =~ Fork _ _ _; first | refine F1 ?_ | refine F2 ?_ | refine F3 (fun h => ?_) fun h => ?_) | (guard_target =~ Ar _ _ _; first | refine A1 ?_ | refine A2 ?_ | refine A3 ?_) | (guard_target =~ AskL _ _; first | refine L1 ?_) | (guard_target =~ Go.Eng.Ask _ _; first | refine K1 ?_) | (guard_target =~ All' _ _; first | (refine Y2 fun y he he' hy => ?_; (try dsimp only at he he' hy)) | (refine Y1 fun y he hy => ?_; (try with_reducible conv at he => (rhs; whnf)); (try dsimp only at he hy))) | refine F4 (fun h => ?_) fun h => ?_ | refine R1 ?_ | refine Q1 ?_ | fail)); all_goals (conv => whnf))
        · ((repeat' ((conv => whnf) <;> first | exact True.intro | (guard_target =~ Fork _ _ _; first | refine F1 ?_ | refine F2 ?_ | refine F3 (fun h => ?_) fun h => ?_) | (guard_target =~ Ar _ _ _; first | refine A1 ?_ | refine A2 ?_ | refine A3 ?_) | (guard_target =~ AskL _ _; first | refine L1 ?_) | (guard_target =~ Go.Eng.Ask _ _; first | refine K1 ?_) | (guard_target =~ All' _ _; first | (refine Y2 fun y he he' hy => ?_; (try dsimp only at he he' hy)) | (refine Y1 fun y he hy => ?_; (try with_reducible conv at he => (rhs; whnf)); (try dsimp only at he hy))) | refine F4 (fun h => ?_) fun h => ?_ | refine R1 ?_ | refine Q1 ?_ | fail)); all_goals (conv => whnf))
          refine All'.mk ?_; rintro (e' : Run) he'
          obtain rfl := ld e' he'
          ((repeat' ((conv => whnf) <;> first | exact True.intro | (guard_target =~ Fork _ _ _; first | refine F1 ?_ | refine F2 ?_ | refine F3 (fun h => ?_) fun h => ?_) | (guard_target =~ Ar _ _ _; first | refine A1 ?_ | refine A2 ?_ | refine A3 ?_) | (guard_target =~ AskL _ _; first | refine L1 ?_) | (guard_target =~ Go.Eng.Ask _ _; first | refine K1 ?_) | (guard_target =~ All' _ _; first | (refine Y2 fun y he he' hy => ?_; (try dsimp only at he he' hy)) | (refine Y1 fun y he hy => ?_; (try with_reducible conv at he => (rhs; whnf)); (try dsimp only at he hy))) | refine F4 (fun h => ?_) fun h => ?_ | refine R1 ?_ | refine Q1 ?_ | fail)); all_goals (conv => whnf))
          refine Some'.mk (i + 1 : Nat) ?_
          dsimp only [mergedL]
          rw [hsn]
          ((repeat' ((conv => whnf) <;> first | exact True.intro | (guard_target =~ Fork _ _ _; first | refine F1 ?_ | refine F2 ?_ | refine F3 (fun h => ?_) fun h => ?_) | (guard_target =~ Ar _ _ _; first | refine A1 ?_ | refine A2 ?_ | refine A3 ?_) | (guard_target =~ AskL _ _; first | refine L1 ?_) | (guard_target =~ Go.Eng.Ask _ _; first | refine K1 ?_) | (guard_target =~ All' _ _; first | (refine Y2 fun y he he' hy => ?_; (try dsimp only at he he' hy)) | (refine Y1 fun y he hy => ?_; (try with_reducible conv at he => (rhs; whnf)); (try dsimp only at he hy))) | refine F4 (fun h => ?_) fun h => ?_ | refine R1 ?_ | refine Q1 ?_ | fail)); all_goals (conv => whnf))
end Go.Proofs.YtoaaieiiamdopaaGreatDoor
