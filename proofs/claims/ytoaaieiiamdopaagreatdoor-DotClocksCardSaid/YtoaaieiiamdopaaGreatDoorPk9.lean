/- Parts of the proof, one behind the other (DotG, DotH, DotI, DotJ, SetA, Frz, Lend). -/
import Derived.Test.YtoaaieiiamdopaaGreatDoorPk8
set_option linter.unusedVariables false
set_option linter.unusedSimpArgs false
set_option linter.unusedSectionVars false
set_option linter.unusedVariables false
set_option linter.unusedSimpArgs false
set_option maxRecDepth 100000
set_option maxHeartbeats 4000000
namespace Go.Proofs.YtoaaieiiamdopaaGreatDoor
open Go.Eng
variable [DM]
set_option linter.unusedSectionVars false
def joinF (a b : List Run) : List Run := if rightB a && rightB b then joinL a b else []
def withF (c : List Run) (d : Dot) : List Run := if rightB c && goodB d then addF (d.1, d.2, d.2) false c else []
theorem good_run {d : Dot} (h : goodB d = true) : runP (d.1, d.2, d.2) := by
  have := of_decide_eq_true h
  unfold runP; dsimp only; omega
theorem merged_two {a b : List Run} (ha : Rt a) (hb : ∀ r, r ∈ b → runP r) : mrg [] (sortR [a, b].flatten) = joinL a b := by
  obtain ⟨h1, h2⟩ := sortR_perm [a, b].flatten
  refine mrg_join ha hb (fun r => ?_) h2
  rw [h1.mem_iff]
  simp
theorem add_len : ∀ (l : List Run) (r : Run) (d : Bool), (addF r d l).length ≤ l.length + 1
  | [], r, d => by unfold addF; split <;> simp
  | x :: l, r, d => by
    unfold addF
    split
    · have := add_len l (hull x r) d; simp only [List.length_cons]; omega
    · split
      · rename_i h
        have : ∀ (l : List Run) (r : Run), (addF r true l).length ≤ l.length := fun l => by
          induction l with
          | nil => intro r; exact Nat.le_refl _
          | cons y l ih =>
            intro r
            unfold addF
            split
            · have := ih (hull y r); simp only [List.length_cons]; omega
            · rw [if_neg (by simp)]
              have := ih r; simp only [List.length_cons]; omega
        have := this l r; simp only [List.length_cons]; omega
      · have := add_len l r d; simp only [List.length_cons]; omega
theorem join_len : ∀ (b a : List Run), (joinL a b).length ≤ a.length + b.length
  | [], a => Nat.le_refl _
  | r :: b, a => by
    have h1 := join_len b (addF r false a)
    have h2 := add_len a r false
    show (joinL (addF r false a) b).length ≤ _
    simp only [List.length_cons]; omega
theorem join_snoc (a b : List Run) (r : Run) : joinL a (b ++ [r]) = addF r false (joinL a b) := by
  unfold joinL; rw [List.foldl_append]; rfl
@[reducible] def djoinC : Ctr := {
  X := List Run × List Run
  Y := Unit
  args := fun x => [.ro false runT x.1, .ro false runT x.2]
  rw := fun _ => []
  side := fun x => x.1.length ≤ 400000 ∧ x.2.length ≤ 400000
  val := fun _ => ()
  ens := fun _ _ => True
  res := fun _ _ => .sl 1000
  out := fun x _ => [(1000, .row 57 runT (joinF x.1 x.2))] }
theorem knownG1 : Known Tryz.prog (gOf [(24, drightC), (66, concatCRu), (65, mergedC), (30, dgoodC), (59, equalCRu)]) :=
  known_cons ⟨dright_ok, Tryz.call24⟩ (known_cons ⟨concat_okRu, Tryz.call66⟩ (known_cons ⟨merged_ok, Tryz.call65⟩ (known_cons ⟨dgood_ok, Tryz.call30⟩ (known_cons ⟨equal_okRu, Tryz.call59⟩ (known_nil _)))))
theorem flat_two (a b : List Run) : [a, b].flatten.length = a.length + b.length := by simp
theorem flat_mem2 {a b : List Run} (ha : ∀ r, r ∈ a → runP r) (hb : ∀ r, r ∈ b → runP r) : ∀ r, r ∈ [a, b].flatten → runP r := fun r hr => by
  simp at hr; exact hr.elim (ha r) (hb r)
theorem djoin_ok : djoinC.ok Tryz.prog 25 := by
  refine ok_of_vc (An := fun _ => anOf []) knownG1 mo Tryz.func25 (by kernel_rfl) (by kernel_rfl) (fun _ _ => trivial) (fun x hs => ?_)
  obtain ⟨a, b⟩ := x
  obtain ⟨la, lb⟩ := hs
  have la : a.length ≤ 400000 := la
  have lb : b.length ≤ 400000 := lb
  have hj : joinF a b = if rightB a && rightB b then joinL a b else [] := rfl
  cases h1 : rightB a with
  | false =>
    rw [h1, Bool.false_and, if_neg (by simp)] at hj
    have lm := h1
    ((repeat' ((conv => whnf) <;> first | exact True.intro | (guard_target =~ Fork _ _ _; first | refine F1 ?_ | refine F2 ?_ | refine F3 (fun h => ?_) fun h => ?_) | (guard_target =~ Ar _ _ _; first | refine A1 ?_ | refine A2 ?_ | refine A3 ?_) | (guard_target =~ AskL _ _; first | refine L1 ?_) | (guard_target =~ Go.Eng.Ask _ _; first | refine K1 ?_) | (guard_target =~ All' _ _; first | (refine Y2 fun y he he' hy => ?_; (try dsimp only at he he' hy)) | (refine Y1 fun y he hy => ?_; (try with_reducible conv at he => (rhs; whnf)); (try dsimp only at he hy)) | (refine All'.mk ?_; intro y hy)) | refine F4 (fun h => ?_) fun h => ?_ | refine R1 ?_ | refine Q1 ?_ | fail)); all_goals (conv => whnf))
    refine CallP.mk (C := drightC) a ?_
    exact G1
  | true =>
    cases h2 : rightB b with
    | false =>
      rw [h1, h2, Bool.and_false, if_neg (by simp)] at hj
      have lm := And.intro h1 h2
      ((repeat' ((conv => whnf) <;> first | exact True.intro | (guard_target =~ Fork _ _ _; first | refine F1 ?_ | refine F2 ?_ | refine F3 (fun h => ?_) fun h => ?_) | (guard_target =~ Ar _ _ _; first | refine A1 ?_ | refine A2 ?_ | refine A3 ?_) | (guard_target =~ AskL _ _; first | refine L1 ?_) | (guard_target =~ Go.Eng.Ask _ _; first | refine K1 ?_) | (guard_target =~ All' _ _; first | (refine Y2 fun y he he' hy => ?_; (try dsimp only at he he' hy)) | (refine Y1 fun y he hy => ?_; (try with_reducible conv at he => (rhs; whnf)); (try dsimp only at he hy)) | (refine All'.mk ?_; intro y hy)) | refine F4 (fun h => ?_) fun h => ?_ | refine R1 ?_ | refine Q1 ?_ | fail)); all_goals (conv => whnf))
      refine CallP.mk (C := drightC) a ?_
      ((repeat' ((conv => whnf) <;> first | exact True.intro | (guard_target =~ Fork _ _ _; first | refine F1 ?_ | refine F2 ?_ | refine F3 (fun h => ?_) fun h => ?_) | (guard_target =~ Ar _ _ _; first | refine A1 ?_ | refine A2 ?_ | refine A3 ?_) | (guard_target =~ AskL _ _; first | refine L1 ?_) | (guard_target =~ Go.Eng.Ask _ _; first | refine K1 ?_) | (guard_target =~ All' _ _; first | (refine Y2 fun y he he' hy => ?_; (try dsimp only at he he' hy)) | (refine Y1 fun y he hy => ?_; (try with_reducible conv at he => (rhs; whnf)); (try dsimp only at he hy)) | (refine All'.mk ?_; intro y hy)) | refine F4 (fun h => ?_) fun h => ?_ | refine R1 ?_ | refine Q1 ?_ | fail)); all_goals (conv => whnf))
      refine CallP.mk (C := drightC) b ?_
      exact G1
    | true =>
      rw [h1, h2, Bool.and_true, if_pos rfl] at hj
      have lm := And.intro h1 h2
      have ra := right_iff.1 h1
      have rb := right_iff.1 h2
      have hf := flat_two a b
      have hm := merged_two ra rb.all
      have hall := flat_mem2 ra.all rb.all
      ((repeat' ((conv => whnf) <;> first | exact True.intro | (guard_target =~ Fork _ _ _; first | refine F1 ?_ | refine F2 ?_ | refine F3 (fun h => ?_) fun h => ?_) | (guard_target =~ Ar _ _ _; first | refine A1 ?_ | refine A2 ?_ | refine A3 ?_) | (guard_target =~ AskL _ _; first | refine L1 ?_) | (guard_target =~ Go.Eng.Ask _ _; first | refine K1 ?_) | (guard_target =~ All' _ _; first | (refine Y2 fun y he he' hy => ?_; (try dsimp only at he he' hy)) | (refine Y1 fun y he hy => ?_; (try with_reducible conv at he => (rhs; whnf)); (try dsimp only at he hy)) | (refine All'.mk ?_; intro y hy)) | refine F4 (fun h => ?_) fun h => ?_ | refine R1 ?_ | refine Q1 ?_ | fail)); all_goals (conv => whnf))
      refine CallP.mk (C := drightC) a ?_
      ((repeat' ((conv => whnf) <;> first | exact True.intro | (guard_target =~ Fork _ _ _; first | refine F1 ?_ | refine F2 ?_ | refine F3 (fun h => ?_) fun h => ?_) | (guard_target =~ Ar _ _ _; first | refine A1 ?_ | refine A2 ?_ | refine A3 ?_) | (guard_target =~ AskL _ _; first | refine L1 ?_) | (guard_target =~ Go.Eng.Ask _ _; first | refine K1 ?_) | (guard_target =~ All' _ _; first | (refine Y2 fun y he he' hy => ?_; (try dsimp only at he he' hy)) | (refine Y1 fun y he hy => ?_; (try with_reducible conv at he => (rhs; whnf)); (try dsimp only at he hy)) | (refine All'.mk ?_; intro y hy)) | refine F4 (fun h => ?_) fun h => ?_ | refine R1 ?_ | refine Q1 ?_ | fail)); all_goals (conv => whnf))
      refine CallP.mk (C := drightC) b ?_
      ((repeat' ((conv => whnf) <;> first | exact True.intro | (guard_target =~ Fork _ _ _; first | refine F1 ?_ | refine F2 ?_ | refine F3 (fun h => ?_) fun h => ?_) | (guard_target =~ Ar _ _ _; first | refine A1 ?_ | refine A2 ?_ | refine A3 ?_) | (guard_target =~ AskL _ _; first | refine L1 ?_) | (guard_target =~ Go.Eng.Ask _ _; first | refine K1 ?_) | (guard_target =~ All' _ _; first | (refine Y2 fun y he he' hy => ?_; (try dsimp only at he he' hy)) | (refine Y1 fun y he hy => ?_; (try with_reducible conv at he => (rhs; whnf)); (try dsimp only at he hy)) | (refine All'.mk ?_; intro y hy)) | refine F4 (fun h => ?_) fun h => ?_ | refine R1 ?_ | refine Q1 ?_ | fail)); all_goals (conv => whnf))
      refine CallP.mk (C := concatCRu) [a, b] ?_
      ((repeat' ((conv => whnf) <;> first | exact True.intro | (guard_target =~ Fork _ _ _; first | refine F1 ?_ | refine F2 ?_ | refine F3 (fun h => ?_) fun h => ?_) | (guard_target =~ Ar _ _ _; first | refine A1 ?_ | refine A2 ?_ | refine A3 ?_) | (guard_target =~ Go.Eng.Ask _ _; first | refine K1 ?_) | (guard_target =~ All' _ _; first | (refine Y2 fun y he he' hy => ?_; (try dsimp only at he he' hy)) | (refine Y1 fun y he hy => ?_; (try with_reducible conv at he => (rhs; whnf)); (try dsimp only at he hy)) | (refine All'.mk ?_; intro y hy)) | refine F4 (fun h => ?_) fun h => ?_ | refine R1 ?_ | refine Q1 ?_ | fail)); all_goals (conv => whnf))
      refine AskL.mk ?_ ?_
      · (dsimp only [conj]; repeat' apply And.intro) <;> rfl
      refine Ask.mk ⟨by show [a, b].flatten.length ≤ _; omega, by show 2 ≤ _; omega⟩ ?_
      ((repeat' ((conv => whnf) <;> first | exact True.intro | (guard_target =~ Fork _ _ _; first | refine F1 ?_ | refine F2 ?_ | refine F3 (fun h => ?_) fun h => ?_) | (guard_target =~ Ar _ _ _; first | refine A1 ?_ | refine A2 ?_ | refine A3 ?_) | (guard_target =~ Go.Eng.Ask _ _; first | refine K1 ?_) | (guard_target =~ All' _ _; first | (refine Y2 fun y he he' hy => ?_; (try dsimp only at he he' hy)) | (refine Y1 fun y he hy => ?_; (try with_reducible conv at he => (rhs; whnf)); (try dsimp only at he hy)) | (refine All'.mk ?_; intro y hy)) | refine F4 (fun h => ?_) fun h => ?_ | refine R1 ?_ | refine Q1 ?_ | fail)); all_goals (conv => whnf))
      refine CallP.mk (C := mergedC) [a, b].flatten ?_
      ((repeat' ((conv => whnf) <;> first | exact True.intro | (guard_target =~ Fork _ _ _; first | refine F1 ?_ | refine F2 ?_ | refine F3 (fun h => ?_) fun h => ?_) | (guard_target =~ Ar _ _ _; first | refine A1 ?_ | refine A2 ?_ | refine A3 ?_) | (guard_target =~ Go.Eng.Ask _ _; first | refine K1 ?_) | (guard_target =~ All' _ _; first | (refine Y2 fun y he he' hy => ?_; (try dsimp only at he he' hy)) | (refine Y1 fun y he hy => ?_; (try with_reducible conv at he => (rhs; whnf)); (try dsimp only at he hy)) | (refine All'.mk ?_; intro y hy)) | refine F4 (fun h => ?_) fun h => ?_ | refine R1 ?_ | refine Q1 ?_ | fail)); all_goals (conv => whnf))
      refine AskL.mk ?_ ?_
      · (dsimp only [conj]; repeat' apply And.intro) <;> rfl
      refine Ask.mk ⟨hall, by show [a, b].flatten.length ≤ _; omega⟩ ?_
      ((repeat' ((conv => whnf) <;> first | exact True.intro | (guard_target =~ Fork _ _ _; first | refine F1 ?_ | refine F2 ?_ | refine F3 (fun h => ?_) fun h => ?_) | (guard_target =~ Ar _ _ _; first | refine A1 ?_ | refine A2 ?_ | refine A3 ?_) | (guard_target =~ Go.Eng.Ask _ _; first | refine K1 ?_) | (guard_target =~ All' _ _; first | (refine Y2 fun y he he' hy => ?_; (try dsimp only at he he' hy)) | (refine Y1 fun y he hy => ?_; (try with_reducible conv at he => (rhs; whnf)); (try dsimp only at he hy)) | (refine All'.mk ?_; intro y hy)) | refine F4 (fun h => ?_) fun h => ?_ | refine R1 ?_ | refine Q1 ?_ | fail)); all_goals (conv => whnf))
      refine AskL.mk ?_ trivial
      dsimp only [conj]
      rw [hm, hj]
@[reducible] def dwithC : Ctr := {
  X := List Run × Dot
  Y := Unit
  args := fun x => [.ro false runT x.1, .agg (dotS x.2)]
  rw := fun _ => []
  side := fun x => x.1.length ≤ 400000
  val := fun _ => ()
  ens := fun _ _ => True
  res := fun _ _ => .sl 1000
  out := fun x _ => [(1000, .row 57 runT (withF x.1 x.2))] }
theorem dwith_ok : dwithC.ok Tryz.prog 36 := by
  refine ok_of_vc (An := fun _ => anOf []) knownG1 mo Tryz.func36 (by kernel_rfl) (by kernel_rfl) (fun _ _ => trivial) (fun x hs => ?_)
  obtain ⟨a, ⟨n, k⟩⟩ := x
  have la : a.length ≤ 400000 := hs
  have hj : withF a (n, k) = if rightB a && goodB (n, k) then addF (n, k, k) false a else [] := rfl
  cases h1 : rightB a with
  | false =>
    rw [h1, Bool.false_and, if_neg (by simp)] at hj
    have lm := h1
    ((repeat' ((conv => whnf) <;> first | exact True.intro | (guard_target =~ Fork _ _ _; first | refine F1 ?_ | refine F2 ?_ | refine F3 (fun h => ?_) fun h => ?_) | (guard_target =~ Ar _ _ _; first | refine A1 ?_ | refine A2 ?_ | refine A3 ?_) | (guard_target =~ AskL _ _; first | refine L1 ?_) | (guard_target =~ Go.Eng.Ask _ _; first | refine K1 ?_) | (guard_target =~ All' _ _; first | (refine Y2 fun y he he' hy => ?_; (try dsimp only at he he' hy)) | (refine Y1 fun y he hy => ?_; (try with_reducible conv at he => (rhs; whnf)); (try dsimp only at he hy)) | (refine All'.mk ?_; intro y hy)) | refine F4 (fun h => ?_) fun h => ?_ | refine R1 ?_ | refine Q1 ?_ | fail)); all_goals (conv => whnf))
    refine CallP.mk (C := drightC) a ?_
    exact G1
  | true =>
    cases h2 : goodB (n, k) with
    | false =>
      rw [h1, h2, Bool.and_false, if_neg (by simp)] at hj
      have lm := And.intro h1 h2
      ((repeat' ((conv => whnf) <;> first | exact True.intro | (guard_target =~ Fork _ _ _; first | refine F1 ?_ | refine F2 ?_ | refine F3 (fun h => ?_) fun h => ?_) | (guard_target =~ Ar _ _ _; first | refine A1 ?_ | refine A2 ?_ | refine A3 ?_) | (guard_target =~ AskL _ _; first | refine L1 ?_) | (guard_target =~ Go.Eng.Ask _ _; first | refine K1 ?_) | (guard_target =~ All' _ _; first | (refine Y2 fun y he he' hy => ?_; (try dsimp only at he he' hy)) | (refine Y1 fun y he hy => ?_; (try with_reducible conv at he => (rhs; whnf)); (try dsimp only at he hy)) | (refine All'.mk ?_; intro y hy)) | refine F4 (fun h => ?_) fun h => ?_ | refine R1 ?_ | refine Q1 ?_ | fail)); all_goals (conv => whnf))
      refine CallP.mk (C := drightC) a ?_
      ((repeat' ((conv => whnf) <;> first | exact True.intro | (guard_target =~ Fork _ _ _; first | refine F1 ?_ | refine F2 ?_ | refine F3 (fun h => ?_) fun h => ?_) | (guard_target =~ Ar _ _ _; first | refine A1 ?_ | refine A2 ?_ | refine A3 ?_) | (guard_target =~ AskL _ _; first | refine L1 ?_) | (guard_target =~ Go.Eng.Ask _ _; first | refine K1 ?_) | (guard_target =~ All' _ _; first | (refine Y2 fun y he he' hy => ?_; (try dsimp only at he he' hy)) | (refine Y1 fun y he hy => ?_; (try with_reducible conv at he => (rhs; whnf)); (try dsimp only at he hy)) | (refine All'.mk ?_; intro y hy)) | refine F4 (fun h => ?_) fun h => ?_ | refine R1 ?_ | refine Q1 ?_ | fail)); all_goals (conv => whnf))
      refine CallP.mk (C := dgoodC) (n, k) ?_
      exact G1
    | true =>
      rw [h1, h2, Bool.and_true, if_pos rfl] at hj
      have lm := And.intro h1 h2
      have ra := right_iff.1 h1
      have rb : ∀ r, r ∈ [(n, k, k)] → runP r := fun r hr => by rcases List.mem_singleton.1 hr with rfl; exact good_run h2
      have hf : [a, [(n, k, k)]].flatten.length = a.length + 1 := by simp
      have hm : mrg [] (sortR [a, [(n, k, k)]].flatten) = addF (n, k, k) false a := merged_two ra rb
      have hall := flat_mem2 ra.all rb
      ((repeat' ((conv => whnf) <;> first | exact True.intro | (guard_target =~ Fork _ _ _; first | refine F1 ?_ | refine F2 ?_ | refine F3 (fun h => ?_) fun h => ?_) | (guard_target =~ Ar _ _ _; first | refine A1 ?_ | refine A2 ?_ | refine A3 ?_) | (guard_target =~ AskL _ _; first | refine L1 ?_) | (guard_target =~ Go.Eng.Ask _ _; first | refine K1 ?_) | (guard_target =~ All' _ _; first | (refine Y2 fun y he he' hy => ?_; (try dsimp only at he he' hy)) | (refine Y1 fun y he hy => ?_; (try with_reducible conv at he => (rhs; whnf)); (try dsimp only at he hy)) | (refine All'.mk ?_; intro y hy)) | refine F4 (fun h => ?_) fun h => ?_ | refine R1 ?_ | refine Q1 ?_ | fail)); all_goals (conv => whnf))
      refine CallP.mk (C := drightC) a ?_
      ((repeat' ((conv => whnf) <;> first | exact True.intro | (guard_target =~ Fork _ _ _; first | refine F1 ?_ | refine F2 ?_ | refine F3 (fun h => ?_) fun h => ?_) | (guard_target =~ Ar _ _ _; first | refine A1 ?_ | refine A2 ?_ | refine A3 ?_) | (guard_target =~ AskL _ _; first | refine L1 ?_) | (guard_target =~ Go.Eng.Ask _ _; first | refine K1 ?_) | (guard_target =~ All' _ _; first | (refine Y2 fun y he he' hy => ?_; (try dsimp only at he he' hy)) | (refine Y1 fun y he hy => ?_; (try with_reducible conv at he => (rhs; whnf)); (try dsimp only at he hy)) | (refine All'.mk ?_; intro y hy)) | refine F4 (fun h => ?_) fun h => ?_ | refine R1 ?_ | refine Q1 ?_ | fail)); all_goals (conv => whnf))
      refine CallP.mk (C := dgoodC) (n, k) ?_
      ((repeat' ((conv => whnf) <;> first | exact True.intro | (guard_target =~ Fork _ _ _; first | refine F1 ?_ | refine F2 ?_ | refine F3 (fun h => ?_) fun h => ?_) | (guard_target =~ Ar _ _ _; first | refine A1 ?_ | refine A2 ?_ | refine A3 ?_) | (guard_target =~ AskL _ _; first | refine L1 ?_) | (guard_target =~ Go.Eng.Ask _ _; first | refine K1 ?_) | (guard_target =~ All' _ _; first | (refine Y2 fun y he he' hy => ?_; (try dsimp only at he he' hy)) | (refine Y1 fun y he hy => ?_; (try with_reducible conv at he => (rhs; whnf)); (try dsimp only at he hy)) | (refine All'.mk ?_; intro y hy)) | refine F4 (fun h => ?_) fun h => ?_ | refine R1 ?_ | refine Q1 ?_ | fail)); all_goals (conv => whnf))
      refine CallP.mk (C := concatCRu) [a, [(n, k, k)]] ?_
      ((repeat' ((conv => whnf) <;> first | exact True.intro | (guard_target =~ Fork _ _ _; first | refine F1 ?_ | refine F2 ?_ | refine F3 (fun h => ?_) fun h => ?_) | (guard_target =~ Ar _ _ _; first | refine A1 ?_ | refine A2 ?_ | refine A3 ?_) | (guard_target =~ Go.Eng.Ask _ _; first | refine K1 ?_) | (guard_target =~ All' _ _; first | (refine Y2 fun y he he' hy => ?_; (try dsimp only at he he' hy)) | (refine Y1 fun y he hy => ?_; (try with_reducible conv at he => (rhs; whnf)); (try dsimp only at he hy)) | (refine All'.mk ?_; intro y hy)) | refine F4 (fun h => ?_) fun h => ?_ | refine R1 ?_ | refine Q1 ?_ | fail)); all_goals (conv => whnf))
      refine AskL.mk ?_ ?_
      · (dsimp only [conj]; repeat' apply And.intro) <;> rfl
      refine Ask.mk ⟨by show [a, [(n, k, k)]].flatten.length ≤ _; omega, by show 2 ≤ _; omega⟩ ?_
      ((repeat' ((conv => whnf) <;> first | exact True.intro | (guard_target =~ Fork _ _ _; first | refine F1 ?_ | refine F2 ?_ | refine F3 (fun h => ?_) fun h => ?_) | (guard_target =~ Ar _ _ _; first | refine A1 ?_ | refine A2 ?_ | refine A3 ?_) | (guard_target =~ Go.Eng.Ask _ _; first | refine K1 ?_) | (guard_target =~ All' _ _; first | (refine Y2 fun y he he' hy => ?_; (try dsimp only at he he' hy)) | (refine Y1 fun y he hy => ?_; (try with_reducible conv at he => (rhs; whnf)); (try dsimp only at he hy)) | (refine All'.mk ?_; intro y hy)) | refine F4 (fun h => ?_) fun h => ?_ | refine R1 ?_ | refine Q1 ?_ | fail)); all_goals (conv => whnf))
      refine CallP.mk (C := mergedC) [a, [(n, k, k)]].flatten ?_
      ((repeat' ((conv => whnf) <;> first | exact True.intro | (guard_target =~ Fork _ _ _; first | refine F1 ?_ | refine F2 ?_ | refine F3 (fun h => ?_) fun h => ?_) | (guard_target =~ Ar _ _ _; first | refine A1 ?_ | refine A2 ?_ | refine A3 ?_) | (guard_target =~ Go.Eng.Ask _ _; first | refine K1 ?_) | (guard_target =~ All' _ _; first | (refine Y2 fun y he he' hy => ?_; (try dsimp only at he he' hy)) | (refine Y1 fun y he hy => ?_; (try with_reducible conv at he => (rhs; whnf)); (try dsimp only at he hy)) | (refine All'.mk ?_; intro y hy)) | refine F4 (fun h => ?_) fun h => ?_ | refine R1 ?_ | refine Q1 ?_ | fail)); all_goals (conv => whnf))
      refine AskL.mk ?_ ?_
      · (dsimp only [conj]; repeat' apply And.intro) <;> rfl
      refine Ask.mk ⟨hall, by show [a, [(n, k, k)]].flatten.length ≤ _; omega⟩ ?_
      ((repeat' ((conv => whnf) <;> first | exact True.intro | (guard_target =~ Fork _ _ _; first | refine F1 ?_ | refine F2 ?_ | refine F3 (fun h => ?_) fun h => ?_) | (guard_target =~ Ar _ _ _; first | refine A1 ?_ | refine A2 ?_ | refine A3 ?_) | (guard_target =~ Go.Eng.Ask _ _; first | refine K1 ?_) | (guard_target =~ All' _ _; first | (refine Y2 fun y he he' hy => ?_; (try dsimp only at he he' hy)) | (refine Y1 fun y he hy => ?_; (try with_reducible conv at he => (rhs; whnf)); (try dsimp only at he hy)) | (refine All'.mk ?_; intro y hy)) | refine F4 (fun h => ?_) fun h => ?_ | refine R1 ?_ | refine Q1 ?_ | fail)); all_goals (conv => whnf))
      refine AskL.mk ?_ trivial
      dsimp only [conj]
      rw [hm, hj]
def cmpF (a b : List Run) : Int := if rightB a && rightB b then (if belowB a b then (if belowB b a then 0 else -1) else (if belowB b a then 1 else 2)) else 2
@[reducible] def dcmpC : Ctr := {
  X := List Run × List Run
  Y := Unit
  args := fun x => [.ro false runT x.1, .ro false runT x.2]
  rw := fun _ => []
  side := fun x => x.1.length ≤ 400000 ∧ x.2.length ≤ 400000
  val := fun _ => ()
  ens := fun _ _ => True
  res := fun x _ => .v (.int .i64 (cmpF x.1 x.2))
  out := fun _ _ => [] }
theorem dcmp_ok : dcmpC.ok Tryz.prog 41 := by
  refine ok_of_vc (An := fun _ => anOf []) knownG1 mo Tryz.func41 (by kernel_rfl) (by kernel_rfl) (fun _ _ => trivial) (fun x hs => ?_)
  obtain ⟨a, b⟩ := x
  obtain ⟨la, lb⟩ := hs
  have la : a.length ≤ 400000 := la
  have lb : b.length ≤ 400000 := lb
  have hj : cmpF a b = if rightB a && rightB b then (if belowB a b then (if belowB b a then 0 else -1) else (if belowB b a then 1 else 2)) else 2 := rfl
  cases h1 : rightB a with
  | false =>
    rw [h1, Bool.false_and, if_neg (by simp)] at hj
    have lm := h1
    ((repeat' ((conv => whnf) <;> first | exact True.intro | (guard_target =~ Fork _ _ _; first | refine F1 ?_ | refine F2 ?_ | refine F3 (fun h => ?_) fun h => ?_) | (guard_target =~ Ar _ _ _; first | refine A1 ?_ | refine A2 ?_ | refine A3 ?_) | (guard_target =~ AskL _ _; first | refine L1 ?_) | (guard_target =~ Go.Eng.Ask _ _; first | refine K1 ?_) | (guard_target =~ All' _ _; first | (refine Y2 fun y he he' hy => ?_; (try dsimp only at he he' hy)) | (refine Y1 fun y he hy => ?_; (try with_reducible conv at he => (rhs; whnf)); (try dsimp only at he hy)) | (refine All'.mk ?_; intro y hy)) | refine F4 (fun h => ?_) fun h => ?_ | refine R1 ?_ | refine Q1 ?_ | fail)); all_goals (conv => whnf))
    refine CallP.mk (C := drightC) a ?_
    exact G1
  | true =>
    cases h2 : rightB b with
    | false =>
      rw [h1, h2, Bool.and_false, if_neg (by simp)] at hj
      have lm := And.intro h1 h2
      ((repeat' ((conv => whnf) <;> first | exact True.intro | (guard_target =~ Fork _ _ _; first | refine F1 ?_ | refine F2 ?_ | refine F3 (fun h => ?_) fun h => ?_) | (guard_target =~ Ar _ _ _; first | refine A1 ?_ | refine A2 ?_ | refine A3 ?_) | (guard_target =~ AskL _ _; first | refine L1 ?_) | (guard_target =~ Go.Eng.Ask _ _; first | refine K1 ?_) | (guard_target =~ All' _ _; first | (refine Y2 fun y he he' hy => ?_; (try dsimp only at he he' hy)) | (refine Y1 fun y he hy => ?_; (try with_reducible conv at he => (rhs; whnf)); (try dsimp only at he hy)) | (refine All'.mk ?_; intro y hy)) | refine F4 (fun h => ?_) fun h => ?_ | refine R1 ?_ | refine Q1 ?_ | fail)); all_goals (conv => whnf))
      refine CallP.mk (C := drightC) a ?_
      ((repeat' ((conv => whnf) <;> first | exact True.intro | (guard_target =~ Fork _ _ _; first | refine F1 ?_ | refine F2 ?_ | refine F3 (fun h => ?_) fun h => ?_) | (guard_target =~ Ar _ _ _; first | refine A1 ?_ | refine A2 ?_ | refine A3 ?_) | (guard_target =~ AskL _ _; first | refine L1 ?_) | (guard_target =~ Go.Eng.Ask _ _; first | refine K1 ?_) | (guard_target =~ All' _ _; first | (refine Y2 fun y he he' hy => ?_; (try dsimp only at he he' hy)) | (refine Y1 fun y he hy => ?_; (try with_reducible conv at he => (rhs; whnf)); (try dsimp only at he hy)) | (refine All'.mk ?_; intro y hy)) | refine F4 (fun h => ?_) fun h => ?_ | refine R1 ?_ | refine Q1 ?_ | fail)); all_goals (conv => whnf))
      refine CallP.mk (C := drightC) b ?_
      exact G1
    | true =>
      rw [h1, h2, Bool.and_true, if_pos rfl] at hj
      have ra := right_iff.1 h1
      have rb := right_iff.1 h2
      have hf := flat_two a b
      have hm := merged_two ra rb.all
      have hall := flat_mem2 ra.all rb.all
      have hjl : (mrg [] (sortR [a, b].flatten)).length ≤ a.length + b.length := by rw [hm]; exact join_len b a
      have k1 : decide (mrg [] (sortR [a, b].flatten) = a) = belowB b a := by
        rw [hm]
        have := join_self ra rb
        cases h : belowB b a with
        | true => exact decide_eq_true (this.2 h)
        | false => exact decide_eq_false (fun e => by rw [this.1 e] at h; cases h)
      have k2 : decide (mrg [] (sortR [a, b].flatten) = b) = belowB a b := by
        rw [hm]
        have := join_other ra rb
        cases h : belowB a b with
        | true => exact decide_eq_true (this.2 h)
        | false => exact decide_eq_false (fun e => by rw [this.1 e] at h; cases h)
      cases h3 : belowB a b <;> cases h4 : belowB b a
      all_goals
        rw [h3, h4] at hj
        simp only [if_true, if_false, Bool.false_eq_true] at hj
        rw [h4] at k1
        rw [h3] at k2
        have lm := And.intro h1 (And.intro h2 (And.intro k1 k2))
        ((repeat' ((conv => whnf) <;> first | exact True.intro | (guard_target =~ Fork _ _ _; first | refine F1 ?_ | refine F2 ?_ | refine F3 (fun h => ?_) fun h => ?_) | (guard_target =~ Ar _ _ _; first | refine A1 ?_ | refine A2 ?_ | refine A3 ?_) | (guard_target =~ AskL _ _; first | refine L1 ?_) | (guard_target =~ Go.Eng.Ask _ _; first | refine K1 ?_) | (guard_target =~ All' _ _; first | (refine Y2 fun y he he' hy => ?_; (try dsimp only at he he' hy)) | (refine Y1 fun y he hy => ?_; (try with_reducible conv at he => (rhs; whnf)); (try dsimp only at he hy)) | (refine All'.mk ?_; intro y hy)) | refine F4 (fun h => ?_) fun h => ?_ | refine R1 ?_ | refine Q1 ?_ | fail)); all_goals (conv => whnf))
        refine CallP.mk (C := drightC) a ?_
        ((repeat' ((conv => whnf) <;> first | exact True.intro | (guard_target =~ Fork _ _ _; first | refine F1 ?_ | refine F2 ?_ | refine F3 (fun h => ?_) fun h => ?_) | (guard_target =~ Ar _ _ _; first | refine A1 ?_ | refine A2 ?_ | refine A3 ?_) | (guard_target =~ AskL _ _; first | refine L1 ?_) | (guard_target =~ Go.Eng.Ask _ _; first | refine K1 ?_) | (guard_target =~ All' _ _; first | (refine Y2 fun y he he' hy => ?_; (try dsimp only at he he' hy)) | (refine Y1 fun y he hy => ?_; (try with_reducible conv at he => (rhs; whnf)); (try dsimp only at he hy)) | (refine All'.mk ?_; intro y hy)) | refine F4 (fun h => ?_) fun h => ?_ | refine R1 ?_ | refine Q1 ?_ | fail)); all_goals (conv => whnf))
        refine CallP.mk (C := drightC) b ?_
        ((repeat' ((conv => whnf) <;> first | exact True.intro | (guard_target =~ Fork _ _ _; first | refine F1 ?_ | refine F2 ?_ | refine F3 (fun h => ?_) fun h => ?_) | (guard_target =~ Ar _ _ _; first | refine A1 ?_ | refine A2 ?_ | refine A3 ?_) | (guard_target =~ AskL _ _; first | refine L1 ?_) | (guard_target =~ Go.Eng.Ask _ _; first | refine K1 ?_) | (guard_target =~ All' _ _; first | (refine Y2 fun y he he' hy => ?_; (try dsimp only at he he' hy)) | (refine Y1 fun y he hy => ?_; (try with_reducible conv at he => (rhs; whnf)); (try dsimp only at he hy)) | (refine All'.mk ?_; intro y hy)) | refine F4 (fun h => ?_) fun h => ?_ | refine R1 ?_ | refine Q1 ?_ | fail)); all_goals (conv => whnf))
        refine CallP.mk (C := concatCRu) [a, b] ?_
        ((repeat' ((conv => whnf) <;> first | exact True.intro | (guard_target =~ Fork _ _ _; first | refine F1 ?_ | refine F2 ?_ | refine F3 (fun h => ?_) fun h => ?_) | (guard_target =~ Ar _ _ _; first | refine A1 ?_ | refine A2 ?_ | refine A3 ?_) | (guard_target =~ Go.Eng.Ask _ _; first | refine K1 ?_) | (guard_target =~ All' _ _; first | (refine Y2 fun y he he' hy => ?_; (try dsimp only at he he' hy)) | (refine Y1 fun y he hy => ?_; (try with_reducible conv at he => (rhs; whnf)); (try dsimp only at he hy)) | (refine All'.mk ?_; intro y hy)) | refine F4 (fun h => ?_) fun h => ?_ | refine R1 ?_ | refine Q1 ?_ | fail)); all_goals (conv => whnf))
        refine AskL.mk ?_ ?_
        · (dsimp only [conj]; repeat' apply And.intro) <;> rfl
        refine Ask.mk ⟨by show [a, b].flatten.length ≤ _; omega, by show 2 ≤ _; omega⟩ ?_
        ((repeat' ((conv => whnf) <;> first | exact True.intro | (guard_target =~ Fork _ _ _; first | refine F1 ?_ | refine F2 ?_ | refine F3 (fun h => ?_) fun h => ?_) | (guard_target =~ Ar _ _ _; first | refine A1 ?_ | refine A2 ?_ | refine A3 ?_) | (guard_target =~ Go.Eng.Ask _ _; first | refine K1 ?_) | (guard_target =~ All' _ _; first | (refine Y2 fun y he he' hy => ?_; (try dsimp only at he he' hy)) | (refine Y1 fun y he hy => ?_; (try with_reducible conv at he => (rhs; whnf)); (try dsimp only at he hy)) | (refine All'.mk ?_; intro y hy)) | refine F4 (fun h => ?_) fun h => ?_ | refine R1 ?_ | refine Q1 ?_ | fail)); all_goals (conv => whnf))
        refine CallP.mk (C := mergedC) [a, b].flatten ?_
        ((repeat' ((conv => whnf) <;> first | exact True.intro | (guard_target =~ Fork _ _ _; first | refine F1 ?_ | refine F2 ?_ | refine F3 (fun h => ?_) fun h => ?_) | (guard_target =~ Ar _ _ _; first | refine A1 ?_ | refine A2 ?_ | refine A3 ?_) | (guard_target =~ Go.Eng.Ask _ _; first | refine K1 ?_) | (guard_target =~ All' _ _; first | (refine Y2 fun y he he' hy => ?_; (try dsimp only at he he' hy)) | (refine Y1 fun y he hy => ?_; (try with_reducible conv at he => (rhs; whnf)); (try dsimp only at he hy)) | (refine All'.mk ?_; intro y hy)) | refine F4 (fun h => ?_) fun h => ?_ | refine R1 ?_ | refine Q1 ?_ | fail)); all_goals (conv => whnf))
        refine AskL.mk ?_ ?_
        · (dsimp only [conj]; repeat' apply And.intro) <;> rfl
        refine Ask.mk ⟨hall, by show [a, b].flatten.length ≤ _; omega⟩ ?_
        ((repeat' ((conv => whnf) <;> first | exact True.intro | (guard_target =~ Fork _ _ _; first | refine F1 ?_ | refine F2 ?_ | refine F3 (fun h => ?_) fun h => ?_) | (guard_target =~ Ar _ _ _; first | refine A1 ?_ | refine A2 ?_ | refine A3 ?_) | (guard_target =~ AskL _ _; first | refine L1 ?_) | (guard_target =~ Go.Eng.Ask _ _; first | refine K1 ?_) | (guard_target =~ All' _ _; first | (refine Y2 fun y he he' hy => ?_; (try dsimp only at he he' hy)) | (refine Y1 fun y he hy => ?_; (try with_reducible conv at he => (rhs; whnf)); (try dsimp only at he hy)) | (refine All'.mk ?_; intro y hy)) | refine F4 (fun h => ?_) fun h => ?_ | refine R1 ?_ | refine Q1 ?_ | fail)); all_goals (conv => whnf))
        refine CallP.mk (C := equalCRu) (mrg [] (sortR [a, b].flatten), a) ?_
        ((repeat' ((conv => whnf) <;> first | exact True.intro | (guard_target =~ Fork _ _ _; first | refine F1 ?_ | refine F2 ?_ | refine F3 (fun h => ?_) fun h => ?_) | (guard_target =~ Ar _ _ _; first | refine A1 ?_ | refine A2 ?_ | refine A3 ?_) | (guard_target =~ AskL _ _; first | refine L1 ?_) | (guard_target =~ Go.Eng.Ask _ _; first | refine K1 ?_) | (guard_target =~ All' _ _; first | (refine Y2 fun y he he' hy => ?_; (try dsimp only at he he' hy)) | (refine Y1 fun y he hy => ?_; (try with_reducible conv at he => (rhs; whnf)); (try dsimp only at he hy)) | (refine All'.mk ?_; intro y hy)) | refine F4 (fun h => ?_) fun h => ?_ | refine R1 ?_ | refine Q1 ?_ | fail)); all_goals (conv => whnf))
        refine CallP.mk (C := equalCRu) (mrg [] (sortR [a, b].flatten), b) ?_
        ((repeat' ((conv => whnf) <;> first | exact True.intro | (guard_target =~ Fork _ _ _; first | refine F1 ?_ | refine F2 ?_ | refine F3 (fun h => ?_) fun h => ?_) | (guard_target =~ Ar _ _ _; first | refine A1 ?_ | refine A2 ?_ | refine A3 ?_) | (guard_target =~ AskL _ _; first | refine L1 ?_) | (guard_target =~ Go.Eng.Ask _ _; first | refine K1 ?_) | (guard_target =~ All' _ _; first | (refine Y2 fun y he he' hy => ?_; (try dsimp only at he he' hy)) | (refine Y1 fun y he hy => ?_; (try with_reducible conv at he => (rhs; whnf)); (try dsimp only at he hy)) | (refine All'.mk ?_; intro y hy)) | refine F4 (fun h => ?_) fun h => ?_ | refine R1 ?_ | refine Q1 ?_ | fail)); all_goals (conv => whnf))
end Go.Proofs.YtoaaieiiamdopaaGreatDoor

set_option linter.unusedVariables false
set_option linter.unusedSimpArgs false
set_option maxRecDepth 100000
set_option maxHeartbeats 4000000
namespace Go.Proofs.YtoaaieiiamdopaaGreatDoor
open Go.Eng
variable [DM]
set_option linter.unusedSectionVars false
@[reducible] def raddC : Ctr := {
  X := List Run × Run
  Y := Unit
  args := fun x => [.ro true runT x.1, .agg (runS x.2)]
  rw := fun _ => []
  side := fun x => x.1.length ≤ 1000000 ∧ runP x.2 ∧ ∀ r, r ∈ x.1 → runP r
  val := fun _ => ()
  ens := fun _ _ => True
  res := fun _ _ => .sl 1000
  out := fun x _ => [(1000, .row 57 runT (addF x.2 false x.1))] }
structure AddS where
  i : Nat
  r : Run
  d : Bool
  out : List Run
@[reducible] def raddL (x : List Run × Run) : LA := {
  X := AddS
  pre := fun s => s.i ≤ x.1.length ∧ addF x.2 false x.1 = s.out ++ addF s.r s.d (x.1.drop s.i) ∧ runP s.r ∧ s.out.length ≤ 2 * s.i
  mu := fun s => x.1.length - s.i
  T := fun s => [(3, .ptr 3 0), (5, .sl 4), (6, .v (.bool s.d)), (9, .ro true runT x.1), (10, .v (.int .i64 x.1.length)), (11, .v (.int .i64 (s.i : Nat)))]
  M := fun s => [(3, .cells 57 (runS s.r)), (4, .row 57 runT s.out)] }
theorem radd_ok : raddC.ok Tryz.prog 69 := by
  refine ok_of_vc (An := fun x => anOf [(0, .loop (raddL x))]) (known_nil _) mo Tryz.func69 (by kernel_rfl) (by kernel_rfl) (fun _ _ => trivial) (fun x hs => ?_)
  obtain ⟨c, ⟨rn, rf, rt⟩⟩ := x
  obtain ⟨hl, hr, hc⟩ := hs
  have hl : c.length ≤ 1000000 := hl
  have hr : runP (rn, rf, rt) := hr
  have hc : ∀ r, r ∈ c → runP r := hc
  ((repeat' ((conv => whnf) <;> first | exact True.intro | (guard_target =~ Fork _ _ _; first | refine F1 ?_ | refine F2 ?_ | refine F3 (fun h => ?_) fun h => ?_) | (guard_target =~ Ar _ _ _; first | refine A1 ?_ | refine A2 ?_ | refine A3 ?_) | (guard_target =~ AskL _ _; first | refine L1 ?_) | (guard_target =~ Go.Eng.Ask _ _; first | refine K1 ?_) | (guard_target =~ All' _ _; first | (refine Y2 fun y he he' hy => ?_; (try dsimp only at he he' hy)) | (refine Y1 fun y he hy => ?_; (try with_reducible conv at he => (rhs; whnf)); (try dsimp only at he hy)) | (refine All'.mk ?_; intro y hy)) | refine F4 (fun h => ?_) fun h => ?_ | refine R1 ?_ | refine Q1 ?_ | fail)); all_goals (conv => whnf))
  refine Some'.mk ⟨0, (rn, rf, rt), false, []⟩ ?_
  ((repeat' ((conv => whnf) <;> first | exact True.intro | (guard_target =~ Fork _ _ _; first | refine F1 ?_ | refine F2 ?_ | refine F3 (fun h => ?_) fun h => ?_) | (guard_target =~ Ar _ _ _; first | refine A1 ?_ | refine A2 ?_ | refine A3 ?_) | (guard_target =~ AskL _ _; first | refine L1 ?_) | (guard_target =~ Go.Eng.Ask _ _; first | refine K1 ?_) | (guard_target =~ All' _ _; first | (refine Y2 fun y he he' hy => ?_; (try dsimp only at he he' hy)) | (refine Y1 fun y he hy => ?_; (try with_reducible conv at he => (rhs; whnf)); (try dsimp only at he hy)) | (refine All'.mk ?_; intro y hy)) | refine F4 (fun h => ?_) fun h => ?_ | refine R1 ?_ | refine Q1 ?_ | fail)); all_goals (conv => whnf))
  refine Ask.mk ⟨Nat.zero_le _, rfl, hr, Nat.le_refl _⟩ ?_
  ((repeat' ((conv => whnf) <;> first | exact True.intro | (guard_target =~ Fork _ _ _; first | refine F1 ?_ | refine F2 ?_ | refine F3 (fun h => ?_) fun h => ?_) | (guard_target =~ Ar _ _ _; first | refine A1 ?_ | refine A2 ?_ | refine A3 ?_) | (guard_target =~ AskL _ _; first | refine L1 ?_) | (guard_target =~ Go.Eng.Ask _ _; first | refine K1 ?_) | (guard_target =~ All' _ _; first | (refine Y2 fun y he he' hy => ?_; (try dsimp only at he he' hy)) | (refine Y1 fun y he hy => ?_; (try with_reducible conv at he => (rhs; whnf)); (try dsimp only at he hy)) | (refine All'.mk ?_; intro y hy)) | refine F4 (fun h => ?_) fun h => ?_ | refine R1 ?_ | refine Q1 ?_ | fail)); all_goals (conv => whnf))
  refine AllI.mk ?_
  rintro ⟨i, ⟨n, f, t⟩, d, out⟩ ⟨h1, h2, h3, h4⟩
  have h1 : i ≤ c.length := h1
  have h2 : addF (rn, rf, rt) false c = out ++ addF (n, f, t) d (c.drop i) := h2
  obtain ⟨b1, b2, b3, b4, b5⟩ : runP (n, f, t) := h3
  have h4 : out.length ≤ 2 * i := h4
  dsimp only at b1 b2 b3 b4 b5
  clear hr
  by_cases hi : i = c.length
  · subst hi
    rw [List.drop_length] at h2
    cases d with
    | true =>
      have h2 : addF (rn, rf, rt) false c = out := by rw [h2]; exact List.append_nil _
      ((repeat' ((conv => whnf) <;> first | exact True.intro | (guard_target =~ Fork _ _ _; first | refine F1 ?_ | refine F2 ?_ | refine F3 (fun h => ?_) fun h => ?_) | (guard_target =~ Ar _ _ _; first | refine A1 ?_ | refine A2 ?_ | refine A3 ?_) | (guard_target =~ AskL _ _; first | refine L1 ?_) | (guard_target =~ Go.Eng.Ask _ _; first | refine K1 ?_) | (guard_target =~ All' _ _; first | (refine Y2 fun y he he' hy => ?_; (try dsimp only at he he' hy)) | (refine Y1 fun y he hy => ?_; (try with_reducible conv at he => (rhs; whnf)); (try dsimp only at he hy)) | (refine All'.mk ?_; intro y hy)) | refine F4 (fun h => ?_) fun h => ?_ | refine R1 ?_ | refine Q1 ?_ | fail)); all_goals (conv => whnf))
      refine AskL.mk ?_ trivial
      exact congrArg (SV.ro true runT) h2.symm
    | false =>
      have h2 : addF (rn, rf, rt) false c = out ++ [(n, f, t)] := h2
      ((repeat' ((conv => whnf) <;> first | exact True.intro | (guard_target =~ Fork _ _ _; first | refine F1 ?_ | refine F2 ?_ | refine F3 (fun h => ?_) fun h => ?_) | (guard_target =~ Ar _ _ _; first | refine A1 ?_ | refine A2 ?_ | refine A3 ?_) | (guard_target =~ AskL _ _; first | refine L1 ?_) | (guard_target =~ Go.Eng.Ask _ _; first | refine K1 ?_) | (guard_target =~ All' _ _; first | (refine Y2 fun y he he' hy => ?_; (try dsimp only at he he' hy)) | (refine Y1 fun y he hy => ?_; (try with_reducible conv at he => (rhs; whnf)); (try dsimp only at he hy)) | (refine All'.mk ?_; intro y hy)) | refine F4 (fun h => ?_) fun h => ?_ | refine R1 ?_ | refine Q1 ?_ | fail)); all_goals (conv => whnf))
      refine AskL.mk ?_ trivial
      exact congrArg (SV.ro true runT) h2.symm
  · obtain ⟨⟨xn, xf, xt⟩, he⟩ : ∃ e, c[i]? = some e := ⟨_, List.getElem?_eq_getElem (by omega)⟩
    obtain ⟨x1, x2, x3, x4, x5⟩ : runP (xn, xf, xt) := hc _ (List.mem_of_getElem? he)
    dsimp only at x1 x2 x3 x4 x5
    rw [drop_sn he] at h2
    have hst : addF (n, f, t) d ((xn, xf, xt) :: c.drop (i + 1)) = if tchP (xn, xf, xt) (n, f, t) then addF (hull (xn, xf, xt) (n, f, t)) d (c.drop (i + 1)) else if d = false ∧ befP (n, f, t) (xn, xf, xt) then (n, f, t) :: (xn, xf, xt) :: addF (n, f, t) true (c.drop (i + 1)) else (xn, xf, xt) :: addF (n, f, t) d (c.drop (i + 1)) := by
      conv => lhs; unfold addF
    rw [hst] at h2
    clear hst
    by_cases ht : tchP (xn, xf, xt) (n, f, t)
    · rw [if_pos ht] at h2
      obtain ⟨t1, t2, t3⟩ : xn = n ∧ xf ≤ t + 1 ∧ f ≤ xt + 1 := ht
      have hmin : (xf < f ∧ min xf f = xf) ∨ (¬ xf < f ∧ min xf f = f) := by omega
      have hmax : (t < xt ∧ max xt t = xt) ∨ (¬ t < xt ∧ max xt t = t) := by omega
      have hh : hull (xn, xf, xt) (n, f, t) = (n, min xf f, max xt t) := rfl
      rw [hh] at h2
      rcases hmin with ⟨m1, m2⟩ | ⟨m1, m2⟩ <;> rcases hmax with ⟨m3, m4⟩ | ⟨m3, m4⟩
      all_goals
        rw [m2, m4] at h2
        ((repeat' ((conv => whnf) <;> first | exact True.intro | (guard_target =~ Fork _ _ _; first | refine F1 ?_ | refine F2 ?_ | refine F3 (fun h => ?_) fun h => ?_) | (guard_target =~ Ar _ _ _; first | refine A1 ?_ | refine A2 ?_ | refine A3 ?_) | (guard_target =~ AskL _ _; first | refine L1 ?_) | (guard_target =~ Go.Eng.Ask _ _; first | refine K1 ?_) | (guard_target =~ All' _ _; first | (refine Y2 fun y he he' hy => ?_; (try dsimp only at he he' hy)) | (refine Y1 fun y he hy => ?_; (try with_reducible conv at he => (rhs; whnf)); (try dsimp only at he hy))) | refine F4 (fun h => ?_) fun h => ?_ | refine R1 ?_ | refine Q1 ?_ | fail)); all_goals (conv => whnf))
        refine All'.mk ?_; rintro (e' : Run) he'
        obtain rfl : (xn, xf, xt) = e' := Option.some.inj (he.symm.trans he')
        clear he'
        ((repeat' ((conv => whnf) <;> first | exact True.intro | (guard_target =~ Fork _ _ _; first | refine F1 ?_ | refine F2 ?_ | refine F3 (fun h => ?_) fun h => ?_) | (guard_target =~ Ar _ _ _; first | refine A1 ?_ | refine A2 ?_ | refine A3 ?_) | (guard_target =~ AskL _ _; first | refine L1 ?_) | (guard_target =~ Go.Eng.Ask _ _; first | refine K1 ?_) | (guard_target =~ All' _ _; first | (refine Y2 fun y he he' hy => ?_; (try dsimp only at he he' hy)) | (refine Y1 fun y he hy => ?_; (try with_reducible conv at he => (rhs; whnf)); (try dsimp only at he hy)) | (refine All'.mk ?_; intro y hy)) | refine F4 (fun h => ?_) fun h => ?_ | refine R1 ?_ | refine Q1 ?_ | fail)); all_goals (conv => whnf))
      · refine Some'.mk ⟨i + 1, (n, xf, xt), d, out⟩ ?_
        ((repeat' ((conv => whnf) <;> first | exact True.intro | (guard_target =~ Fork _ _ _; first | refine F1 ?_ | refine F2 ?_ | refine F3 (fun h => ?_) fun h => ?_) | (guard_target =~ Ar _ _ _; first | refine A1 ?_ | refine A2 ?_ | refine A3 ?_) | (guard_target =~ AskL _ _; first | refine L1 ?_) | (guard_target =~ Go.Eng.Ask _ _; first | refine K1 ?_) | (guard_target =~ All' _ _; first | (refine Y2 fun y he he' hy => ?_; (try dsimp only at he he' hy)) | (refine Y1 fun y he hy => ?_; (try with_reducible conv at he => (rhs; whnf)); (try dsimp only at he hy)) | (refine All'.mk ?_; intro y hy)) | refine F4 (fun h => ?_) fun h => ?_ | refine R1 ?_ | refine Q1 ?_ | fail)); all_goals (conv => whnf))
        refine Ask.mk ⟨by show i + 1 ≤ c.length; omega, h2, by unfold runP; dsimp only; omega, by show out.length ≤ 2 * (i + 1); omega⟩ ?_
        exact G1
      · refine Some'.mk ⟨i + 1, (n, xf, t), d, out⟩ ?_
        ((repeat' ((conv => whnf) <;> first | exact True.intro | (guard_target =~ Fork _ _ _; first | refine F1 ?_ | refine F2 ?_ | refine F3 (fun h => ?_) fun h => ?_) | (guard_target =~ Ar _ _ _; first | refine A1 ?_ | refine A2 ?_ | refine A3 ?_) | (guard_target =~ AskL _ _; first | refine L1 ?_) | (guard_target =~ Go.Eng.Ask _ _; first | refine K1 ?_) | (guard_target =~ All' _ _; first | (refine Y2 fun y he he' hy => ?_; (try dsimp only at he he' hy)) | (refine Y1 fun y he hy => ?_; (try with_reducible conv at he => (rhs; whnf)); (try dsimp only at he hy)) | (refine All'.mk ?_; intro y hy)) | refine F4 (fun h => ?_) fun h => ?_ | refine R1 ?_ | refine Q1 ?_ | fail)); all_goals (conv => whnf))
        refine Ask.mk ⟨by show i + 1 ≤ c.length; omega, h2, by unfold runP; dsimp only; omega, by show out.length ≤ 2 * (i + 1); omega⟩ ?_
        exact G1
      · refine Some'.mk ⟨i + 1, (n, f, xt), d, out⟩ ?_
        ((repeat' ((conv => whnf) <;> first | exact True.intro | (guard_target =~ Fork _ _ _; first | refine F1 ?_ | refine F2 ?_ | refine F3 (fun h => ?_) fun h => ?_) | (guard_target =~ Ar _ _ _; first | refine A1 ?_ | refine A2 ?_ | refine A3 ?_) | (guard_target =~ AskL _ _; first | refine L1 ?_) | (guard_target =~ Go.Eng.Ask _ _; first | refine K1 ?_) | (guard_target =~ All' _ _; first | (refine Y2 fun y he he' hy => ?_; (try dsimp only at he he' hy)) | (refine Y1 fun y he hy => ?_; (try with_reducible conv at he => (rhs; whnf)); (try dsimp only at he hy)) | (refine All'.mk ?_; intro y hy)) | refine F4 (fun h => ?_) fun h => ?_ | refine R1 ?_ | refine Q1 ?_ | fail)); all_goals (conv => whnf))
        refine Ask.mk ⟨by show i + 1 ≤ c.length; omega, h2, by unfold runP; dsimp only; omega, by show out.length ≤ 2 * (i + 1); omega⟩ ?_
        exact G1
      · refine Some'.mk ⟨i + 1, (n, f, t), d, out⟩ ?_
        ((repeat' ((conv => whnf) <;> first | exact True.intro | (guard_target =~ Fork _ _ _; first | refine F1 ?_ | refine F2 ?_ | refine F3 (fun h => ?_) fun h => ?_) | (guard_target =~ Ar _ _ _; first | refine A1 ?_ | refine A2 ?_ | refine A3 ?_) | (guard_target =~ AskL _ _; first | refine L1 ?_) | (guard_target =~ Go.Eng.Ask _ _; first | refine K1 ?_) | (guard_target =~ All' _ _; first | (refine Y2 fun y he he' hy => ?_; (try dsimp only at he he' hy)) | (refine Y1 fun y he hy => ?_; (try with_reducible conv at he => (rhs; whnf)); (try dsimp only at he hy)) | (refine All'.mk ?_; intro y hy)) | refine F4 (fun h => ?_) fun h => ?_ | refine R1 ?_ | refine Q1 ?_ | fail)); all_goals (conv => whnf))
        refine Ask.mk ⟨by show i + 1 ≤ c.length; omega, h2, by unfold runP; dsimp only; omega, by show out.length ≤ 2 * (i + 1); omega⟩ ?_
        exact G1
    · rw [if_neg ht] at h2
      have ht' : ¬ (xn = n ∧ xf ≤ t + 1 ∧ f ≤ xt + 1) := ht
      cases d with
      | true =>
        rw [if_neg (by simp)] at h2
        ((repeat' ((conv => whnf) <;> first | exact True.intro | (guard_target =~ Fork _ _ _; first | refine F1 ?_ | refine F2 ?_ | refine F3 (fun h => ?_) fun h => ?_) | (guard_target =~ Ar _ _ _; first | refine A1 ?_ | refine A2 ?_ | refine A3 ?_) | (guard_target =~ AskL _ _; first | refine L1 ?_) | (guard_target =~ Go.Eng.Ask _ _; first | refine K1 ?_) | (guard_target =~ All' _ _; first | (refine Y2 fun y he he' hy => ?_; (try dsimp only at he he' hy)) | (refine Y1 fun y he hy => ?_; (try with_reducible conv at he => (rhs; whnf)); (try dsimp only at he hy))) | refine F4 (fun h => ?_) fun h => ?_ | refine R1 ?_ | refine Q1 ?_ | fail)); all_goals (conv => whnf))
        refine All'.mk ?_; rintro (e' : Run) he'
        obtain rfl : (xn, xf, xt) = e' := Option.some.inj (he.symm.trans he')
        clear he'
        ((repeat' ((conv => whnf) <;> first | exact True.intro | (guard_target =~ Fork _ _ _; first | refine F1 ?_ | refine F2 ?_ | refine F3 (fun h => ?_) fun h => ?_) | (guard_target =~ Ar _ _ _; first | refine A1 ?_ | refine A2 ?_ | refine A3 ?_) | (guard_target =~ AskL _ _; first | refine L1 ?_) | (guard_target =~ Go.Eng.Ask _ _; first | refine K1 ?_) | (guard_target =~ All' _ _; first | (refine Y2 fun y he he' hy => ?_; (try dsimp only at he he' hy)) | (refine Y1 fun y he hy => ?_; (try with_reducible conv at he => (rhs; whnf)); (try dsimp only at he hy)) | (refine All'.mk ?_; intro y hy)) | refine F4 (fun h => ?_) fun h => ?_ | refine R1 ?_ | refine Q1 ?_ | fail)); all_goals (conv => whnf))
        all_goals
          refine Some'.mk ⟨i + 1, (n, f, t), true, out ++ [(xn, xf, xt)]⟩ ?_
          ((repeat' ((conv => whnf) <;> first | exact True.intro | (guard_target =~ Fork _ _ _; first | refine F1 ?_ | refine F2 ?_ | refine F3 (fun h => ?_) fun h => ?_) | (guard_target =~ Ar _ _ _; first | refine A1 ?_ | refine A2 ?_ | refine A3 ?_) | (guard_target =~ AskL _ _; first | refine L1 ?_) | (guard_target =~ Go.Eng.Ask _ _; first | refine K1 ?_) | (guard_target =~ All' _ _; first | (refine Y2 fun y he he' hy => ?_; (try dsimp only at he he' hy)) | (refine Y1 fun y he hy => ?_; (try with_reducible conv at he => (rhs; whnf)); (try dsimp only at he hy)) | (refine All'.mk ?_; intro y hy)) | refine F4 (fun h => ?_) fun h => ?_ | refine R1 ?_ | refine Q1 ?_ | fail)); all_goals (conv => whnf))
          refine Ask.mk ⟨by show i + 1 ≤ c.length; omega, by rw [h2]; simp, by unfold runP; dsimp only; omega, by show (out ++ [(xn, xf, xt)]).length ≤ 2 * (i + 1); simp; omega⟩ ?_
          ((repeat' ((conv => whnf) <;> first | exact True.intro | (guard_target =~ Fork _ _ _; first | refine F1 ?_ | refine F2 ?_ | refine F3 (fun h => ?_) fun h => ?_) | (guard_target =~ Ar _ _ _; first | refine A1 ?_ | refine A2 ?_ | refine A3 ?_) | (guard_target =~ AskL _ _; first | refine L1 ?_) | (guard_target =~ Go.Eng.Ask _ _; first | refine K1 ?_) | (guard_target =~ All' _ _; first | (refine Y2 fun y he he' hy => ?_; (try dsimp only at he he' hy)) | (refine Y1 fun y he hy => ?_; (try with_reducible conv at he => (rhs; whnf)); (try dsimp only at he hy)) | (refine All'.mk ?_; intro y hy)) | refine F4 (fun h => ?_) fun h => ?_ | refine R1 ?_ | refine Q1 ?_ | fail)); all_goals (conv => whnf))
      | false =>
        by_cases hb : befP (n, f, t) (xn, xf, xt)
        · rw [if_pos ⟨rfl, hb⟩] at h2
          have hb' : n < xn ∨ xn = n ∧ t < xf := hb
          have hla : (out ++ [(n, f, t)]).length = out.length + 1 := by simp
          ((repeat' ((conv => whnf) <;> first | exact True.intro | (guard_target =~ Fork _ _ _; first | refine F1 ?_ | refine F2 ?_ | refine F3 (fun h => ?_) fun h => ?_) | (guard_target =~ Ar _ _ _; first | refine A1 ?_ | refine A2 ?_ | refine A3 ?_) | (guard_target =~ AskL _ _; first | refine L1 ?_) | (guard_target =~ Go.Eng.Ask _ _; first | refine K1 ?_) | (guard_target =~ All' _ _; first | (refine Y2 fun y he he' hy => ?_; (try dsimp only at he he' hy)) | (refine Y1 fun y he hy => ?_; (try with_reducible conv at he => (rhs; whnf)); (try dsimp only at he hy))) | refine F4 (fun h => ?_) fun h => ?_ | refine R1 ?_ | refine Q1 ?_ | fail)); all_goals (conv => whnf))
          refine All'.mk ?_; rintro (e' : Run) he'
          obtain rfl : (xn, xf, xt) = e' := Option.some.inj (he.symm.trans he')
          clear he'
          ((repeat' ((conv => whnf) <;> first | exact True.intro | (guard_target =~ Fork _ _ _; first | refine F1 ?_ | refine F2 ?_ | refine F3 (fun h => ?_) fun h => ?_) | (guard_target =~ Ar _ _ _; first | refine A1 ?_ | refine A2 ?_ | refine A3 ?_) | (guard_target =~ AskL _ _; first | refine L1 ?_) | (guard_target =~ Go.Eng.Ask _ _; first | refine K1 ?_) | (guard_target =~ All' _ _; first | (refine Y2 fun y he he' hy => ?_; (try dsimp only at he he' hy)) | (refine Y1 fun y he hy => ?_; (try with_reducible conv at he => (rhs; whnf)); (try dsimp only at he hy)) | (refine All'.mk ?_; intro y hy)) | refine F4 (fun h => ?_) fun h => ?_ | refine R1 ?_ | refine Q1 ?_ | fail)); all_goals (conv => whnf))
          all_goals
            refine Some'.mk ⟨i + 1, (n, f, t), true, out ++ [(n, f, t)] ++ [(xn, xf, xt)]⟩ ?_
            ((repeat' ((conv => whnf) <;> first | exact True.intro | (guard_target =~ Fork _ _ _; first | refine F1 ?_ | refine F2 ?_ | refine F3 (fun h => ?_) fun h => ?_) | (guard_target =~ Ar _ _ _; first | refine A1 ?_ | refine A2 ?_ | refine A3 ?_) | (guard_target =~ AskL _ _; first | refine L1 ?_) | (guard_target =~ Go.Eng.Ask _ _; first | refine K1 ?_) | (guard_target =~ All' _ _; first | (refine Y2 fun y he he' hy => ?_; (try dsimp only at he he' hy)) | (refine Y1 fun y he hy => ?_; (try with_reducible conv at he => (rhs; whnf)); (try dsimp only at he hy)) | (refine All'.mk ?_; intro y hy)) | refine F4 (fun h => ?_) fun h => ?_ | refine R1 ?_ | refine Q1 ?_ | fail)); all_goals (conv => whnf))
            refine Ask.mk ⟨by show i + 1 ≤ c.length; omega, by rw [h2]; simp, by unfold runP; dsimp only; omega, by show (out ++ [(n, f, t)] ++ [(xn, xf, xt)]).length ≤ 2 * (i + 1); simp; omega⟩ ?_
            ((repeat' ((conv => whnf) <;> first | exact True.intro | (guard_target =~ Fork _ _ _; first | refine F1 ?_ | refine F2 ?_ | refine F3 (fun h => ?_) fun h => ?_) | (guard_target =~ Ar _ _ _; first | refine A1 ?_ | refine A2 ?_ | refine A3 ?_) | (guard_target =~ AskL _ _; first | refine L1 ?_) | (guard_target =~ Go.Eng.Ask _ _; first | refine K1 ?_) | (guard_target =~ All' _ _; first | (refine Y2 fun y he he' hy => ?_; (try dsimp only at he he' hy)) | (refine Y1 fun y he hy => ?_; (try with_reducible conv at he => (rhs; whnf)); (try dsimp only at he hy)) | (refine All'.mk ?_; intro y hy)) | refine F4 (fun h => ?_) fun h => ?_ | refine R1 ?_ | refine Q1 ?_ | fail)); all_goals (conv => whnf))
        · rw [if_neg (fun hh => hb hh.2)] at h2
          have hb' : ¬ (n < xn ∨ xn = n ∧ t < xf) := hb
          ((repeat' ((conv => whnf) <;> first | exact True.intro | (guard_target =~ Fork _ _ _; first | refine F1 ?_ | refine F2 ?_ | refine F3 (fun h => ?_) fun h => ?_) | (guard_target =~ Ar _ _ _; first | refine A1 ?_ | refine A2 ?_ | refine A3 ?_) | (guard_target =~ AskL _ _; first | refine L1 ?_) | (guard_target =~ Go.Eng.Ask _ _; first | refine K1 ?_) | (guard_target =~ All' _ _; first | (refine Y2 fun y he he' hy => ?_; (try dsimp only at he he' hy)) | (refine Y1 fun y he hy => ?_; (try with_reducible conv at he => (rhs; whnf)); (try dsimp only at he hy))) | refine F4 (fun h => ?_) fun h => ?_ | refine R1 ?_ | refine Q1 ?_ | fail)); all_goals (conv => whnf))
          refine All'.mk ?_; rintro (e' : Run) he'
          obtain rfl : (xn, xf, xt) = e' := Option.some.inj (he.symm.trans he')
          clear he'
          ((repeat' ((conv => whnf) <;> first | exact True.intro | (guard_target =~ Fork _ _ _; first | refine F1 ?_ | refine F2 ?_ | refine F3 (fun h => ?_) fun h => ?_) | (guard_target =~ Ar _ _ _; first | refine A1 ?_ | refine A2 ?_ | refine A3 ?_) | (guard_target =~ AskL _ _; first | refine L1 ?_) | (guard_target =~ Go.Eng.Ask _ _; first | refine K1 ?_) | (guard_target =~ All' _ _; first | (refine Y2 fun y he he' hy => ?_; (try dsimp only at he he' hy)) | (refine Y1 fun y he hy => ?_; (try with_reducible conv at he => (rhs; whnf)); (try dsimp only at he hy)) | (refine All'.mk ?_; intro y hy)) | refine F4 (fun h => ?_) fun h => ?_ | refine R1 ?_ | refine Q1 ?_ | fail)); all_goals (conv => whnf))
          all_goals
            refine Some'.mk ⟨i + 1, (n, f, t), false, out ++ [(xn, xf, xt)]⟩ ?_
            ((repeat' ((conv => whnf) <;> first | exact True.intro | (guard_target =~ Fork _ _ _; first | refine F1 ?_ | refine F2 ?_ | refine F3 (fun h => ?_) fun h => ?_) | (guard_target =~ Ar _ _ _; first | refine A1 ?_ | refine A2 ?_ | refine A3 ?_) | (guard_target =~ AskL _ _; first | refine L1 ?_) | (guard_target =~ Go.Eng.Ask _ _; first | refine K1 ?_) | (guard_target =~ All' _ _; first | (refine Y2 fun y he he' hy => ?_; (try dsimp only at he he' hy)) | (refine Y1 fun y he hy => ?_; (try with_reducible conv at he => (rhs; whnf)); (try dsimp only at he hy)) | (refine All'.mk ?_; intro y hy)) | refine F4 (fun h => ?_) fun h => ?_ | refine R1 ?_ | refine Q1 ?_ | fail)); all_goals (conv => whnf))
            refine Ask.mk ⟨by show i + 1 ≤ c.length; omega, by rw [h2]; simp, by unfold runP; dsimp only; omega, by show (out ++ [(xn, xf, xt)]).length ≤ 2 * (i + 1); simp; omega⟩ ?_
            ((repeat' ((conv => whnf) <;> first | exact True.intro | (guard_target =~ Fork _ _ _; first | refine F1 ?_ | refine F2 ?_ | refine F3 (fun h => ?_) fun h => ?_) | (guard_target =~ Ar _ _ _; first | refine A1 ?_ | refine A2 ?_ | refine A3 ?_) | (guard_target =~ AskL _ _; first | refine L1 ?_) | (guard_target =~ Go.Eng.Ask _ _; first | refine K1 ?_) | (guard_target =~ All' _ _; first | (refine Y2 fun y he he' hy => ?_; (try dsimp only at he he' hy)) | (refine Y1 fun y he hy => ?_; (try with_reducible conv at he => (rhs; whnf)); (try dsimp only at he hy)) | (refine All'.mk ?_; intro y hy)) | refine F4 (fun h => ?_) fun h => ?_ | refine R1 ?_ | refine Q1 ?_ | fail)); all_goals (conv => whnf))
end Go.Proofs.YtoaaieiiamdopaaGreatDoor

set_option linter.unusedVariables false
set_option linter.unusedSimpArgs false
set_option maxRecDepth 100000
set_option maxHeartbeats 4000000
namespace Go.Proofs.YtoaaieiiamdopaaGreatDoor
open Go.Eng
variable [DM]
set_option linter.unusedSectionVars false
theorem knownI1 : Known Tryz.prog (gOf [(11, drightC), (31, dgoodC), (69, raddC)]) :=
  known_cons ⟨rdright_ok, Tryz.call11⟩ (known_cons ⟨rgood_ok, Tryz.call31⟩ (known_cons ⟨radd_ok, Tryz.call69⟩ (known_nil _)))
theorem rdwith_ok : dwithC.ok Tryz.prog 37 := by
  refine ok_of_vc (An := fun _ => anOf []) knownI1 mo Tryz.func37 (by kernel_rfl) (by kernel_rfl) (fun _ _ => trivial) (fun x hs => ?_)
  obtain ⟨a, ⟨n, k⟩⟩ := x
  have la : a.length ≤ 400000 := hs
  have hj : withF a (n, k) = if rightB a && goodB (n, k) then addF (n, k, k) false a else [] := rfl
  cases h1 : rightB a with
  | false =>
    rw [h1, Bool.false_and, if_neg (by simp)] at hj
    have lm := h1
    ((repeat' ((conv => whnf) <;> first | exact True.intro | (guard_target =~ Fork _ _ _; first | refine F1 ?_ | refine F2 ?_ | refine F3 (fun h => ?_) fun h => ?_) | (guard_target =~ Ar _ _ _; first | refine A1 ?_ | refine A2 ?_ | refine A3 ?_) | (guard_target =~ AskL _ _; first | refine L1 ?_) | (guard_target =~ Go.Eng.Ask _ _; first | refine K1 ?_) | (guard_target =~ All' _ _; first | (refine Y2 fun y he he' hy => ?_; (try dsimp only at he he' hy)) | (refine Y1 fun y he hy => ?_; (try with_reducible conv at he => (rhs; whnf)); (try dsimp only at he hy)) | (refine All'.mk ?_; intro y hy)) | refine F4 (fun h => ?_) fun h => ?_ | refine R1 ?_ | refine Q1 ?_ | fail)); all_goals (conv => whnf))
    refine CallP.mk (C := drightC) a ?_
    exact G1
  | true =>
    cases h2 : goodB (n, k) with
    | false =>
      rw [h1, h2, Bool.and_false, if_neg (by simp)] at hj
      have lm := And.intro h1 h2
      ((repeat' ((conv => whnf) <;> first | exact True.intro | (guard_target =~ Fork _ _ _; first | refine F1 ?_ | refine F2 ?_ | refine F3 (fun h => ?_) fun h => ?_) | (guard_target =~ Ar _ _ _; first | refine A1 ?_ | refine A2 ?_ | refine A3 ?_) | (guard_target =~ AskL _ _; first | refine L1 ?_) | (guard_target =~ Go.Eng.Ask _ _; first | refine K1 ?_) | (guard_target =~ All' _ _; first | (refine Y2 fun y he he' hy => ?_; (try dsimp only at he he' hy)) | (refine Y1 fun y he hy => ?_; (try with_reducible conv at he => (rhs; whnf)); (try dsimp only at he hy)) | (refine All'.mk ?_; intro y hy)) | refine F4 (fun h => ?_) fun h => ?_ | refine R1 ?_ | refine Q1 ?_ | fail)); all_goals (conv => whnf))
      refine CallP.mk (C := drightC) a ?_
      ((repeat' ((conv => whnf) <;> first | exact True.intro | (guard_target =~ Fork _ _ _; first | refine F1 ?_ | refine F2 ?_ | refine F3 (fun h => ?_) fun h => ?_) | (guard_target =~ Ar _ _ _; first | refine A1 ?_ | refine A2 ?_ | refine A3 ?_) | (guard_target =~ AskL _ _; first | refine L1 ?_) | (guard_target =~ Go.Eng.Ask _ _; first | refine K1 ?_) | (guard_target =~ All' _ _; first | (refine Y2 fun y he he' hy => ?_; (try dsimp only at he he' hy)) | (refine Y1 fun y he hy => ?_; (try with_reducible conv at he => (rhs; whnf)); (try dsimp only at he hy)) | (refine All'.mk ?_; intro y hy)) | refine F4 (fun h => ?_) fun h => ?_ | refine R1 ?_ | refine Q1 ?_ | fail)); all_goals (conv => whnf))
      refine CallP.mk (C := dgoodC) (n, k) ?_
      exact G1
    | true =>
      rw [h1, h2, Bool.and_true, if_pos rfl] at hj
      have lm := And.intro h1 h2
      have ra := right_iff.1 h1
      have hg := good_run h2
      ((repeat' ((conv => whnf) <;> first | exact True.intro | (guard_target =~ Fork _ _ _; first | refine F1 ?_ | refine F2 ?_ | refine F3 (fun h => ?_) fun h => ?_) | (guard_target =~ Ar _ _ _; first | refine A1 ?_ | refine A2 ?_ | refine A3 ?_) | (guard_target =~ AskL _ _; first | refine L1 ?_) | (guard_target =~ Go.Eng.Ask _ _; first | refine K1 ?_) | (guard_target =~ All' _ _; first | (refine Y2 fun y he he' hy => ?_; (try dsimp only at he he' hy)) | (refine Y1 fun y he hy => ?_; (try with_reducible conv at he => (rhs; whnf)); (try dsimp only at he hy)) | (refine All'.mk ?_; intro y hy)) | refine F4 (fun h => ?_) fun h => ?_ | refine R1 ?_ | refine Q1 ?_ | fail)); all_goals (conv => whnf))
      refine CallP.mk (C := drightC) a ?_
      ((repeat' ((conv => whnf) <;> first | exact True.intro | (guard_target =~ Fork _ _ _; first | refine F1 ?_ | refine F2 ?_ | refine F3 (fun h => ?_) fun h => ?_) | (guard_target =~ Ar _ _ _; first | refine A1 ?_ | refine A2 ?_ | refine A3 ?_) | (guard_target =~ AskL _ _; first | refine L1 ?_) | (guard_target =~ Go.Eng.Ask _ _; first | refine K1 ?_) | (guard_target =~ All' _ _; first | (refine Y2 fun y he he' hy => ?_; (try dsimp only at he he' hy)) | (refine Y1 fun y he hy => ?_; (try with_reducible conv at he => (rhs; whnf)); (try dsimp only at he hy)) | (refine All'.mk ?_; intro y hy)) | refine F4 (fun h => ?_) fun h => ?_ | refine R1 ?_ | refine Q1 ?_ | fail)); all_goals (conv => whnf))
      refine CallP.mk (C := dgoodC) (n, k) ?_
      ((repeat' ((conv => whnf) <;> first | exact True.intro | (guard_target =~ Fork _ _ _; first | refine F1 ?_ | refine F2 ?_ | refine F3 (fun h => ?_) fun h => ?_) | (guard_target =~ Ar _ _ _; first | refine A1 ?_ | refine A2 ?_ | refine A3 ?_) | (guard_target =~ AskL _ _; first | refine L1 ?_) | (guard_target =~ Go.Eng.Ask _ _; first | refine K1 ?_) | (guard_target =~ All' _ _; first | (refine Y2 fun y he he' hy => ?_; (try dsimp only at he he' hy)) | (refine Y1 fun y he hy => ?_; (try with_reducible conv at he => (rhs; whnf)); (try dsimp only at he hy)) | (refine All'.mk ?_; intro y hy)) | refine F4 (fun h => ?_) fun h => ?_ | refine R1 ?_ | refine Q1 ?_ | fail)); all_goals (conv => whnf))
      refine CallP.mk (C := raddC) (a, (n, k, k)) ?_
      ((repeat' ((conv => whnf) <;> first | exact True.intro | (guard_target =~ Fork _ _ _; first | refine F1 ?_ | refine F2 ?_ | refine F3 (fun h => ?_) fun h => ?_) | (guard_target =~ Ar _ _ _; first | refine A1 ?_ | refine A2 ?_ | refine A3 ?_) | (guard_target =~ Go.Eng.Ask _ _; first | refine K1 ?_) | (guard_target =~ All' _ _; first | (refine Y2 fun y he he' hy => ?_; (try dsimp only at he he' hy)) | (refine Y1 fun y he hy => ?_; (try with_reducible conv at he => (rhs; whnf)); (try dsimp only at he hy)) | (refine All'.mk ?_; intro y hy)) | refine F4 (fun h => ?_) fun h => ?_ | refine R1 ?_ | refine Q1 ?_ | fail)); all_goals (conv => whnf))
      refine AskL.mk ?_ ?_
      · (dsimp only [conj]; repeat' apply And.intro) <;> rfl
      refine Ask.mk ⟨by show a.length ≤ _; omega, hg, ra.all⟩ ?_
      exact G1
@[reducible] def rdjoinL (x : List Run × List Run) : LA := {
  X := Nat
  pre := fun i => i ≤ x.2.length
  mu := fun i => x.2.length - i
  T := fun i => [(5, .sl 4), (19, .ro true runT x.2), (20, .v (.int .i64 x.2.length)), (21, .v (.int .i64 (i : Nat)))]
  M := fun i => [(4, .row 57 runT (joinL x.1 (x.2.take i)))] }
theorem rdjoin_ok : djoinC.ok Tryz.prog 38 := by
  refine ok_of_vc (An := fun x => anOf [(0, .loop (rdjoinL x))]) knownI1 mo Tryz.func38 (by kernel_rfl) (by kernel_rfl) (fun _ _ => trivial) (fun x hs => ?_)
  obtain ⟨a, b⟩ := x
  obtain ⟨la, lb⟩ := hs
  have la : a.length ≤ 400000 := la
  have lb : b.length ≤ 400000 := lb
  have hj : joinF a b = if rightB a && rightB b then joinL a b else [] := rfl
  cases h1 : rightB a with
  | false =>
    rw [h1, Bool.false_and, if_neg (by simp)] at hj
    have lm := h1
    ((repeat' ((conv => whnf) <;> first | exact True.intro | (guard_target =~ Fork _ _ _; first | refine F1 ?_ | refine F2 ?_ | refine F3 (fun h => ?_) fun h => ?_) | (guard_target =~ Ar _ _ _; first | refine A1 ?_ | refine A2 ?_ | refine A3 ?_) | (guard_target =~ AskL _ _; first | refine L1 ?_) | (guard_target =~ Go.Eng.Ask _ _; first | refine K1 ?_) | (guard_target =~ All' _ _; first | (refine Y2 fun y he he' hy => ?_; (try dsimp only at he he' hy)) | (refine Y1 fun y he hy => ?_; (try with_reducible conv at he => (rhs; whnf)); (try dsimp only at he hy)) | (refine All'.mk ?_; intro y hy)) | refine F4 (fun h => ?_) fun h => ?_ | refine R1 ?_ | refine Q1 ?_ | fail)); all_goals (conv => whnf))
    refine CallP.mk (C := drightC) a ?_
    exact G1
  | true =>
    cases h2 : rightB b with
    | false =>
      rw [h1, h2, Bool.and_false, if_neg (by simp)] at hj
      have lm := And.intro h1 h2
      ((repeat' ((conv => whnf) <;> first | exact True.intro | (guard_target =~ Fork _ _ _; first | refine F1 ?_ | refine F2 ?_ | refine F3 (fun h => ?_) fun h => ?_) | (guard_target =~ Ar _ _ _; first | refine A1 ?_ | refine A2 ?_ | refine A3 ?_) | (guard_target =~ AskL _ _; first | refine L1 ?_) | (guard_target =~ Go.Eng.Ask _ _; first | refine K1 ?_) | (guard_target =~ All' _ _; first | (refine Y2 fun y he he' hy => ?_; (try dsimp only at he he' hy)) | (refine Y1 fun y he hy => ?_; (try with_reducible conv at he => (rhs; whnf)); (try dsimp only at he hy)) | (refine All'.mk ?_; intro y hy)) | refine F4 (fun h => ?_) fun h => ?_ | refine R1 ?_ | refine Q1 ?_ | fail)); all_goals (conv => whnf))
      refine CallP.mk (C := drightC) a ?_
      ((repeat' ((conv => whnf) <;> first | exact True.intro | (guard_target =~ Fork _ _ _; first | refine F1 ?_ | refine F2 ?_ | refine F3 (fun h => ?_) fun h => ?_) | (guard_target =~ Ar _ _ _; first | refine A1 ?_ | refine A2 ?_ | refine A3 ?_) | (guard_target =~ AskL _ _; first | refine L1 ?_) | (guard_target =~ Go.Eng.Ask _ _; first | refine K1 ?_) | (guard_target =~ All' _ _; first | (refine Y2 fun y he he' hy => ?_; (try dsimp only at he he' hy)) | (refine Y1 fun y he hy => ?_; (try with_reducible conv at he => (rhs; whnf)); (try dsimp only at he hy)) | (refine All'.mk ?_; intro y hy)) | refine F4 (fun h => ?_) fun h => ?_ | refine R1 ?_ | refine Q1 ?_ | fail)); all_goals (conv => whnf))
      refine CallP.mk (C := drightC) b ?_
      exact G1
    | true =>
      rw [h1, h2, Bool.and_true, if_pos rfl] at hj
      have lm := And.intro h1 h2
      have ra := right_iff.1 h1
      have rb := right_iff.1 h2
      have h0 : joinL a (b.take 0) = a := rfl
      ((repeat' ((conv => whnf) <;> first | exact True.intro | (guard_target =~ Fork _ _ _; first | refine F1 ?_ | refine F2 ?_ | refine F3 (fun h => ?_) fun h => ?_) | (guard_target =~ Ar _ _ _; first | refine A1 ?_ | refine A2 ?_ | refine A3 ?_) | (guard_target =~ AskL _ _; first | refine L1 ?_) | (guard_target =~ Go.Eng.Ask _ _; first | refine K1 ?_) | (guard_target =~ All' _ _; first | (refine Y2 fun y he he' hy => ?_; (try dsimp only at he he' hy)) | (refine Y1 fun y he hy => ?_; (try with_reducible conv at he => (rhs; whnf)); (try dsimp only at he hy)) | (refine All'.mk ?_; intro y hy)) | refine F4 (fun h => ?_) fun h => ?_ | refine R1 ?_ | refine Q1 ?_ | fail)); all_goals (conv => whnf))
      refine CallP.mk (C := drightC) a ?_
      ((repeat' ((conv => whnf) <;> first | exact True.intro | (guard_target =~ Fork _ _ _; first | refine F1 ?_ | refine F2 ?_ | refine F3 (fun h => ?_) fun h => ?_) | (guard_target =~ Ar _ _ _; first | refine A1 ?_ | refine A2 ?_ | refine A3 ?_) | (guard_target =~ AskL _ _; first | refine L1 ?_) | (guard_target =~ Go.Eng.Ask _ _; first | refine K1 ?_) | (guard_target =~ All' _ _; first | (refine Y2 fun y he he' hy => ?_; (try dsimp only at he he' hy)) | (refine Y1 fun y he hy => ?_; (try with_reducible conv at he => (rhs; whnf)); (try dsimp only at he hy)) | (refine All'.mk ?_; intro y hy)) | refine F4 (fun h => ?_) fun h => ?_ | refine R1 ?_ | refine Q1 ?_ | fail)); all_goals (conv => whnf))
      refine CallP.mk (C := drightC) b ?_
      ((repeat' ((conv => whnf) <;> first | exact True.intro | (guard_target =~ Fork _ _ _; first | refine F1 ?_ | refine F2 ?_ | refine F3 (fun h => ?_) fun h => ?_) | (guard_target =~ Ar _ _ _; first | refine A1 ?_ | refine A2 ?_ | refine A3 ?_) | (guard_target =~ AskL _ _; first | refine L1 ?_) | (guard_target =~ Go.Eng.Ask _ _; first | refine K1 ?_) | (guard_target =~ All' _ _; first | (refine Y2 fun y he he' hy => ?_; (try dsimp only at he he' hy)) | (refine Y1 fun y he hy => ?_; (try with_reducible conv at he => (rhs; whnf)); (try dsimp only at he hy)) | (refine All'.mk ?_; intro y hy)) | refine F4 (fun h => ?_) fun h => ?_ | refine R1 ?_ | refine Q1 ?_ | fail)); all_goals (conv => whnf))
      refine Some'.mk (0 : Nat) ?_
      dsimp only [rdjoinL]
      rw [h0]
      ((repeat' ((conv => whnf) <;> first | exact True.intro | (guard_target =~ Fork _ _ _; first | refine F1 ?_ | refine F2 ?_ | refine F3 (fun h => ?_) fun h => ?_) | (guard_target =~ Ar _ _ _; first | refine A1 ?_ | refine A2 ?_ | refine A3 ?_) | (guard_target =~ AskL _ _; first | refine L1 ?_) | (guard_target =~ Go.Eng.Ask _ _; first | refine K1 ?_) | (guard_target =~ All' _ _; first | (refine Y2 fun y he he' hy => ?_; (try dsimp only at he he' hy)) | (refine Y1 fun y he hy => ?_; (try with_reducible conv at he => (rhs; whnf)); (try dsimp only at he hy)) | (refine All'.mk ?_; intro y hy)) | refine F4 (fun h => ?_) fun h => ?_ | refine R1 ?_ | refine Q1 ?_ | fail)); all_goals (conv => whnf))
      refine AllI.mk ?_
      rintro (i : Nat) hi
      have hi : i ≤ b.length := hi
      by_cases hil : i = b.length
      · subst hil
        try dsimp only [rdjoinL]
        rw [List.take_length]
        exact G1
      · obtain ⟨e, he⟩ : ∃ e, b[i]? = some e := ⟨_, List.getElem?_eq_getElem (by omega)⟩
        have hle := join_len (b.take i) a
        rw [List.length_take] at hle
        have hsn : joinL a (b.take (i + 1)) = addF e false (joinL a (b.take i)) := by rw [take_sn he, join_snoc]
        have hre := rb.all e (List.mem_of_getElem? he)
        have hrj := (join_ok (b.take i) a ra (fun r hr => rb.all r (List.mem_of_mem_take hr))).1
        ((repeat' ((conv => whnf) <;> first | exact True.intro | (guard_target =~ Fork _ _ _; first | refine F1 ?_ | refine F2 ?_ | refine F3 (fun h => ?_) fun h => ?_) | (guard_target =~ Ar _ _ _; first | refine A1 ?_ | refine A2 ?_ | refine A3 ?_) | (guard_target =~ AskL _ _; first | refine L1 ?_) | (guard_target =~ Go.Eng.Ask _ _; first | refine K1 ?_) | (guard_target =~ All' _ _; first | (refine Y2 fun y he he' hy => ?_; (try dsimp only at he he' hy)) | (refine Y1 fun y he hy => ?_; (try with_reducible conv at he => (rhs; whnf)); (try dsimp only at he hy))) | refine F4 (fun h => ?_) fun h => ?_ | refine R1 ?_ | refine Q1 ?_ | fail)); all_goals (conv => whnf))
        refine All'.mk ?_; rintro (e' : Run) he'
        obtain rfl : e = e' := Option.some.inj (he.symm.trans he')
        ((repeat' ((conv => whnf) <;> first | exact True.intro | (guard_target =~ Fork _ _ _; first | refine F1 ?_ | refine F2 ?_ | refine F3 (fun h => ?_) fun h => ?_) | (guard_target =~ Ar _ _ _; first | refine A1 ?_ | refine A2 ?_ | refine A3 ?_) | (guard_target =~ AskL _ _; first | refine L1 ?_) | (guard_target =~ Go.Eng.Ask _ _; first | refine K1 ?_) | (guard_target =~ All' _ _; first | (refine Y2 fun y he he' hy => ?_; (try dsimp only at he he' hy)) | (refine Y1 fun y he hy => ?_; (try with_reducible conv at he => (rhs; whnf)); (try dsimp only at he hy)) | (refine All'.mk ?_; intro y hy)) | refine F4 (fun h => ?_) fun h => ?_ | refine R1 ?_ | refine Q1 ?_ | fail)); all_goals (conv => whnf))
        refine CallP.mk (C := raddC) (joinL a (b.take i), e) ?_
        ((repeat' ((conv => whnf) <;> first | exact True.intro | (guard_target =~ Fork _ _ _; first | refine F1 ?_ | refine F2 ?_ | refine F3 (fun h => ?_) fun h => ?_) | (guard_target =~ Ar _ _ _; first | refine A1 ?_ | refine A2 ?_ | refine A3 ?_) | (guard_target =~ Go.Eng.Ask _ _; first | refine K1 ?_) | (guard_target =~ All' _ _; first | (refine Y2 fun y he he' hy => ?_; (try dsimp only at he he' hy)) | (refine Y1 fun y he hy => ?_; (try with_reducible conv at he => (rhs; whnf)); (try dsimp only at he hy)) | (refine All'.mk ?_; intro y hy)) | refine F4 (fun h => ?_) fun h => ?_ | refine R1 ?_ | refine Q1 ?_ | fail)); all_goals (conv => whnf))
        refine AskL.mk ?_ ?_
        · (dsimp only [conj]; repeat' apply And.intro) <;> rfl
        refine Ask.mk ⟨by show (joinL a (b.take i)).length ≤ _; omega, hre, hrj.all⟩ ?_
        ((repeat' ((conv => whnf) <;> first | exact True.intro | (guard_target =~ Fork _ _ _; first | refine F1 ?_ | refine F2 ?_ | refine F3 (fun h => ?_) fun h => ?_) | (guard_target =~ Ar _ _ _; first | refine A1 ?_ | refine A2 ?_ | refine A3 ?_) | (guard_target =~ AskL _ _; first | refine L1 ?_) | (guard_target =~ Go.Eng.Ask _ _; first | refine K1 ?_) | (guard_target =~ All' _ _; first | (refine Y2 fun y he he' hy => ?_; (try dsimp only at he he' hy)) | (refine Y1 fun y he hy => ?_; (try with_reducible conv at he => (rhs; whnf)); (try dsimp only at he hy)) | (refine All'.mk ?_; intro y hy)) | refine F4 (fun h => ?_) fun h => ?_ | refine R1 ?_ | refine Q1 ?_ | fail)); all_goals (conv => whnf))
        refine Some'.mk (i + 1 : Nat) ?_
        try dsimp only [rdjoinL]
        rw [hsn]
        exact G1

def covB (b : List Run) (r : Run) : Bool := b.any fun x => decide (x.1 = r.1 ∧ x.2.1 ≤ r.2.1 ∧ r.2.2 ≤ x.2.2)
theorem below_cov (a b : List Run) : belowB a b = a.all (covB b) := rfl
@[reducible] def belowC : Ctr := {
  X := List Run × List Run
  Y := Unit
  args := fun x => [.ro true runT x.1, .ro true runT x.2]
  rw := fun _ => []
  side := fun x => x.1.length ≤ 400000 ∧ x.2.length ≤ 400000
  val := fun _ => ()
  ens := fun _ _ => True
  res := fun x _ => .v (.bool (belowB x.1 x.2))
  out := fun _ _ => [] }
@[reducible] def belowL0 (x : List Run × List Run) : LA := {
  X := Nat
  pre := fun i => i ≤ x.1.length ∧ ∀ r, r ∈ x.1.take i → covB x.2 r = true
  mu := fun i => x.1.length - i
  T := fun i => [(1, .ro true runT x.2), (10, .ro true runT x.1), (11, .v (.int .i64 x.1.length)), (12, .v (.int .i64 (i : Nat)))]
  M := fun _ => [] }
@[reducible] def belowL2 (x : List Run × List Run) (i : Nat) : LA := {
  X := Nat
  pre := fun j => j ≤ x.2.length
  mu := fun j => x.2.length - j
  T := fun j => [(1, .ro true runT x.2), (10, .ro true runT x.1), (11, .v (.int .i64 x.1.length)), (12, .v (.int .i64 (i : Nat))), (6, .ptr 3 0), (7, .v (.bool (covB (x.2.take j) (x.1.getD i (0, 0, 0))))), (16, .ro true runT x.2), (17, .v (.int .i64 x.2.length)), (18, .v (.int .i64 (j : Nat)))]
  M := fun _ => [(3, .cells 57 (runS (x.1.getD i (0, 0, 0))))] }
theorem below_ok : belowC.ok Tryz.prog 73 := by
  refine ok_of_vc (An := fun (x : List Run × List Run) => anOfM fun ms => [(0, .loop (belowL0 x)), (2, .loop (belowL2 x (x.1.length - ms.headD 0)))]) (known_nil _) mo Tryz.func73 (by kernel_rfl) (by kernel_rfl) (fun _ _ => trivial) (fun x hs => ?_)
  obtain ⟨a, b⟩ := x
  obtain ⟨la, lb⟩ := hs
  have la : a.length ≤ 400000 := la
  have lb : b.length ≤ 400000 := lb
  ((repeat' ((conv => whnf) <;> first | exact True.intro | (guard_target =~ Fork _ _ _; first | refine F1 ?_ | refine F2 ?_ | refine F3 (fun h => ?_) fun h => ?_) | (guard_target =~ Ar _ _ _; first | refine A1 ?_ | refine A2 ?_ | refine A3 ?_) | (guard_target =~ AskL _ _; first | refine L1 ?_) | (guard_target =~ Go.Eng.Ask _ _; first | refine K1 ?_) | (guard_target =~ All' _ _; first | (refine Y2 fun y he he' hy => ?_; (try dsimp only at he he' hy)) | (refine Y1 fun y he hy => ?_; (try with_reducible conv at he => (rhs; whnf)); (try dsimp only at he hy)) | (refine All'.mk ?_; intro y hy)) | refine F4 (fun h => ?_) fun h => ?_ | refine R1 ?_ | refine Q1 ?_ | fail)); all_goals (conv => whnf))
  refine Some'.mk (0 : Nat) ?_
  ((repeat' ((conv => whnf) <;> first | exact True.intro | (guard_target =~ Fork _ _ _; first | refine F1 ?_ | refine F2 ?_ | refine F3 (fun h => ?_) fun h => ?_) | (guard_target =~ Ar _ _ _; first | refine A1 ?_ | refine A2 ?_ | refine A3 ?_) | (guard_target =~ AskL _ _; first | refine L1 ?_) | (guard_target =~ Go.Eng.Ask _ _; first | refine K1 ?_) | (guard_target =~ All' _ _; first | (refine Y2 fun y he he' hy => ?_; (try dsimp only at he he' hy)) | (refine Y1 fun y he hy => ?_; (try with_reducible conv at he => (rhs; whnf)); (try dsimp only at he hy)) | (refine All'.mk ?_; intro y hy)) | refine F4 (fun h => ?_) fun h => ?_ | refine R1 ?_ | refine Q1 ?_ | fail)); all_goals (conv => whnf))
  refine Ask.mk ⟨Nat.zero_le _, fun r hr => nomatch hr⟩ ?_
  refine AllI.mk ?_
  rintro (i : Nat) ⟨h1, h2⟩
  have h1 : i ≤ a.length := h1
  have h2 : ∀ r, r ∈ a.take i → covB b r = true := h2
  by_cases hil : i = a.length
  · subst hil
    rw [List.take_length] at h2
    have hr : belowB a b = true := by rw [below_cov]; exact List.all_eq_true.2 h2
    exact G1
  · obtain ⟨⟨n, f, t⟩, he⟩ : ∃ e, a[i]? = some e := ⟨_, List.getElem?_eq_getElem (by omega)⟩
    have hgd : a.getD i (0, 0, 0) = (n, f, t) := by rw [List.getD_eq_getElem?_getD, he]; rfl
    have hai : a.length - (a.length - i) = i := by omega
    ((repeat' ((conv => whnf) <;> first | exact True.intro | (guard_target =~ Fork _ _ _; first | refine F1 ?_ | refine F2 ?_ | refine F3 (fun h => ?_) fun h => ?_) | (guard_target =~ Ar _ _ _; first | refine A1 ?_ | refine A2 ?_ | refine A3 ?_) | (guard_target =~ AskL _ _; first | refine L1 ?_) | (guard_target =~ Go.Eng.Ask _ _; first | refine K1 ?_) | (guard_target =~ All' _ _; first | (refine Y2 fun y he he' hy => ?_; (try dsimp only at he he' hy)) | (refine Y1 fun y he hy => ?_; (try with_reducible conv at he => (rhs; whnf)); (try dsimp only at he hy))) | refine F4 (fun h => ?_) fun h => ?_ | refine R1 ?_ | refine Q1 ?_ | fail)); all_goals (conv => whnf))
    refine All'.mk ?_; rintro (e' : Run) he'
    obtain rfl : (n, f, t) = e' := Option.some.inj (he.symm.trans he')
    clear he'
    ((repeat' ((conv => whnf) <;> first | exact True.intro | (guard_target =~ Fork _ _ _; first | refine F1 ?_ | refine F2 ?_ | refine F3 (fun h => ?_) fun h => ?_) | (guard_target =~ Ar _ _ _; first | refine A1 ?_ | refine A2 ?_ | refine A3 ?_) | (guard_target =~ AskL _ _; first | refine L1 ?_) | (guard_target =~ Go.Eng.Ask _ _; first | refine K1 ?_) | (guard_target =~ All' _ _; first | (refine Y2 fun y he he' hy => ?_; (try dsimp only at he he' hy)) | (refine Y1 fun y he hy => ?_; (try with_reducible conv at he => (rhs; whnf)); (try dsimp only at he hy)) | (refine All'.mk ?_; intro y hy)) | refine F4 (fun h => ?_) fun h => ?_ | refine R1 ?_ | refine Q1 ?_ | fail)); all_goals (conv => whnf))
    rw [show a.length - ([a.length - i] : List Nat).headD 0 = i from hai]
    refine Some'.mk (0 : Nat) ?_
    dsimp only [belowL2]
    rw [hgd]
    have hc0 : covB (b.take 0) (n, f, t) = false := rfl
    rw [hc0]
    ((repeat' ((conv => whnf) <;> first | exact True.intro | (guard_target =~ Fork _ _ _; first | refine F1 ?_ | refine F2 ?_ | refine F3 (fun h => ?_) fun h => ?_) | (guard_target =~ Ar _ _ _; first | refine A1 ?_ | refine A2 ?_ | refine A3 ?_) | (guard_target =~ AskL _ _; first | refine L1 ?_) | (guard_target =~ Go.Eng.Ask _ _; first | refine K1 ?_) | (guard_target =~ All' _ _; first | (refine Y2 fun y he he' hy => ?_; (try dsimp only at he he' hy)) | (refine Y1 fun y he hy => ?_; (try with_reducible conv at he => (rhs; whnf)); (try dsimp only at he hy)) | (refine All'.mk ?_; intro y hy)) | refine F4 (fun h => ?_) fun h => ?_ | refine R1 ?_ | refine Q1 ?_ | fail)); all_goals (conv => whnf))
    refine AllI.mk ?_
    rintro (j : Nat) hj
    have hj : j ≤ b.length := hj
    by_cases hjl : j = b.length
    · subst hjl
      try dsimp only [belowL2]
      rw [List.take_length]
      cases hc : covB b (n, f, t) with
      | true =>
        ((repeat' ((conv => whnf) <;> first | exact True.intro | (guard_target =~ Fork _ _ _; first | refine F1 ?_ | refine F2 ?_ | refine F3 (fun h => ?_) fun h => ?_) | (guard_target =~ Ar _ _ _; first | refine A1 ?_ | refine A2 ?_ | refine A3 ?_) | (guard_target =~ AskL _ _; first | refine L1 ?_) | (guard_target =~ Go.Eng.Ask _ _; first | refine K1 ?_) | (guard_target =~ All' _ _; first | (refine Y2 fun y he he' hy => ?_; (try dsimp only at he he' hy)) | (refine Y1 fun y he hy => ?_; (try with_reducible conv at he => (rhs; whnf)); (try dsimp only at he hy)) | (refine All'.mk ?_; intro y hy)) | refine F4 (fun h => ?_) fun h => ?_ | refine R1 ?_ | refine Q1 ?_ | fail)); all_goals (conv => whnf))
        refine Some'.mk (i + 1 : Nat) ?_
        ((repeat' ((conv => whnf) <;> first | exact True.intro | (guard_target =~ Fork _ _ _; first | refine F1 ?_ | refine F2 ?_ | refine F3 (fun h => ?_) fun h => ?_) | (guard_target =~ Ar _ _ _; first | refine A1 ?_ | refine A2 ?_ | refine A3 ?_) | (guard_target =~ AskL _ _; first | refine L1 ?_) | (guard_target =~ Go.Eng.Ask _ _; first | refine K1 ?_) | (guard_target =~ All' _ _; first | (refine Y2 fun y he he' hy => ?_; (try dsimp only at he he' hy)) | (refine Y1 fun y he hy => ?_; (try with_reducible conv at he => (rhs; whnf)); (try dsimp only at he hy)) | (refine All'.mk ?_; intro y hy)) | refine F4 (fun h => ?_) fun h => ?_ | refine R1 ?_ | refine Q1 ?_ | fail)); all_goals (conv => whnf))
        refine Ask.mk ⟨by show i + 1 ≤ a.length; omega, fun r hr => by
          rw [take_sn he] at hr
          rcases List.mem_append.1 hr with hr | hr
          · exact h2 r hr
          · rcases List.mem_singleton.1 hr with rfl; exact hc⟩ ?_
        exact G1
      | false =>
        have hr : belowB a b = false := by
          rw [below_cov, List.all_eq_false]
          exact ⟨(n, f, t), List.mem_of_getElem? he, by rw [hc]; simp⟩
        exact G1
    · obtain ⟨⟨xn, xf, xt⟩, hx⟩ : ∃ e, b[j]? = some e := ⟨_, List.getElem?_eq_getElem (by omega)⟩
      have hcs : covB (b.take (j + 1)) (n, f, t) = (covB (b.take j) (n, f, t) || decide (xn = n ∧ xf ≤ f ∧ t ≤ xt)) := by
        unfold covB
        rw [take_sn hx, List.any_append]; simp
      cases hc : covB (b.take j) (n, f, t) with
      | true =>
        rw [hc, Bool.true_or] at hcs
        ((repeat' ((conv => whnf) <;> first | exact True.intro | (guard_target =~ Fork _ _ _; first | refine F1 ?_ | refine F2 ?_ | refine F3 (fun h => ?_) fun h => ?_) | (guard_target =~ Ar _ _ _; first | refine A1 ?_ | refine A2 ?_ | refine A3 ?_) | (guard_target =~ AskL _ _; first | refine L1 ?_) | (guard_target =~ Go.Eng.Ask _ _; first | refine K1 ?_) | (guard_target =~ All' _ _; first | (refine Y2 fun y he he' hy => ?_; (try dsimp only at he he' hy)) | (refine Y1 fun y he hy => ?_; (try with_reducible conv at he => (rhs; whnf)); (try dsimp only at he hy))) | refine F4 (fun h => ?_) fun h => ?_ | refine R1 ?_ | refine Q1 ?_ | fail)); all_goals (conv => whnf))
        refine All'.mk ?_; rintro (e' : Run) he'
        obtain rfl : (xn, xf, xt) = e' := Option.some.inj (hx.symm.trans he')
        clear he'
        ((repeat' ((conv => whnf) <;> first | exact True.intro | (guard_target =~ Fork _ _ _; first | refine F1 ?_ | refine F2 ?_ | refine F3 (fun h => ?_) fun h => ?_) | (guard_target =~ Ar _ _ _; first | refine A1 ?_ | refine A2 ?_ | refine A3 ?_) | (guard_target =~ AskL _ _; first | refine L1 ?_) | (guard_target =~ Go.Eng.Ask _ _; first | refine K1 ?_) | (guard_target =~ All' _ _; first | (refine Y2 fun y he he' hy => ?_; (try dsimp only at he he' hy)) | (refine Y1 fun y he hy => ?_; (try with_reducible conv at he => (rhs; whnf)); (try dsimp only at he hy)) | (refine All'.mk ?_; intro y hy)) | refine F4 (fun h => ?_) fun h => ?_ | refine R1 ?_ | refine Q1 ?_ | fail)); all_goals (conv => whnf))
        refine Some'.mk (j + 1 : Nat) ?_
        try dsimp only [belowL2]
        rw [hcs]
        exact G1
      | false =>
        rw [hc, Bool.false_or] at hcs
        by_cases hin : xn = n ∧ xf ≤ f ∧ t ≤ xt
        · rw [decide_eq_true hin] at hcs
          obtain ⟨i1, i2, i3⟩ := hin
          ((repeat' ((conv => whnf) <;> first | exact True.intro | (guard_target =~ Fork _ _ _; first | refine F1 ?_ | refine F2 ?_ | refine F3 (fun h => ?_) fun h => ?_) | (guard_target =~ Ar _ _ _; first | refine A1 ?_ | refine A2 ?_ | refine A3 ?_) | (guard_target =~ AskL _ _; first | refine L1 ?_) | (guard_target =~ Go.Eng.Ask _ _; first | refine K1 ?_) | (guard_target =~ All' _ _; first | (refine Y2 fun y he he' hy => ?_; (try dsimp only at he he' hy)) | (refine Y1 fun y he hy => ?_; (try with_reducible conv at he => (rhs; whnf)); (try dsimp only at he hy))) | refine F4 (fun h => ?_) fun h => ?_ | refine R1 ?_ | refine Q1 ?_ | fail)); all_goals (conv => whnf))
          refine All'.mk ?_; rintro (e' : Run) he'
          obtain rfl : (xn, xf, xt) = e' := Option.some.inj (hx.symm.trans he')
          clear he'
          ((repeat' ((conv => whnf) <;> first | exact True.intro | (guard_target =~ Fork _ _ _; first | refine F1 ?_ | refine F2 ?_ | refine F3 (fun h => ?_) fun h => ?_) | (guard_target =~ Ar _ _ _; first | refine A1 ?_ | refine A2 ?_ | refine A3 ?_) | (guard_target =~ AskL _ _; first | refine L1 ?_) | (guard_target =~ Go.Eng.Ask _ _; first | refine K1 ?_) | (guard_target =~ All' _ _; first | (refine Y2 fun y he he' hy => ?_; (try dsimp only at he he' hy)) | (refine Y1 fun y he hy => ?_; (try with_reducible conv at he => (rhs; whnf)); (try dsimp only at he hy)) | (refine All'.mk ?_; intro y hy)) | refine F4 (fun h => ?_) fun h => ?_ | refine R1 ?_ | refine Q1 ?_ | fail)); all_goals (conv => whnf))
          refine Some'.mk (j + 1 : Nat) ?_
          try dsimp only [belowL2]
          rw [hcs]
          exact G1
        · rw [decide_eq_false hin] at hcs
          ((repeat' ((conv => whnf) <;> first | exact True.intro | (guard_target =~ Fork _ _ _; first | refine F1 ?_ | refine F2 ?_ | refine F3 (fun h => ?_) fun h => ?_) | (guard_target =~ Ar _ _ _; first | refine A1 ?_ | refine A2 ?_ | refine A3 ?_) | (guard_target =~ AskL _ _; first | refine L1 ?_) | (guard_target =~ Go.Eng.Ask _ _; first | refine K1 ?_) | (guard_target =~ All' _ _; first | (refine Y2 fun y he he' hy => ?_; (try dsimp only at he he' hy)) | (refine Y1 fun y he hy => ?_; (try with_reducible conv at he => (rhs; whnf)); (try dsimp only at he hy))) | refine F4 (fun h => ?_) fun h => ?_ | refine R1 ?_ | refine Q1 ?_ | fail)); all_goals (conv => whnf))
          refine All'.mk ?_; rintro (e' : Run) he'
          obtain rfl : (xn, xf, xt) = e' := Option.some.inj (hx.symm.trans he')
          clear he'
          ((repeat' ((conv => whnf) <;> first | exact True.intro | (guard_target =~ Fork _ _ _; first | refine F1 ?_ | refine F2 ?_ | refine F3 (fun h => ?_) fun h => ?_) | (guard_target =~ Ar _ _ _; first | refine A1 ?_ | refine A2 ?_ | refine A3 ?_) | (guard_target =~ AskL _ _; first | refine L1 ?_) | (guard_target =~ Go.Eng.Ask _ _; first | refine K1 ?_) | (guard_target =~ All' _ _; first | (refine Y2 fun y he he' hy => ?_; (try dsimp only at he he' hy)) | (refine Y1 fun y he hy => ?_; (try with_reducible conv at he => (rhs; whnf)); (try dsimp only at he hy)) | (refine All'.mk ?_; intro y hy)) | refine F4 (fun h => ?_) fun h => ?_ | refine R1 ?_ | refine Q1 ?_ | fail)); all_goals (conv => whnf))
          all_goals
            refine Some'.mk (j + 1 : Nat) ?_
            try dsimp only [belowL2]
            rw [hcs]
            ((repeat' ((conv => whnf) <;> first | exact True.intro | (guard_target =~ Fork _ _ _; first | refine F1 ?_ | refine F2 ?_ | refine F3 (fun h => ?_) fun h => ?_) | (guard_target =~ Ar _ _ _; first | refine A1 ?_ | refine A2 ?_ | refine A3 ?_) | (guard_target =~ AskL _ _; first | refine L1 ?_) | (guard_target =~ Go.Eng.Ask _ _; first | refine K1 ?_) | (guard_target =~ All' _ _; first | (refine Y2 fun y he he' hy => ?_; (try dsimp only at he he' hy)) | (refine Y1 fun y he hy => ?_; (try with_reducible conv at he => (rhs; whnf)); (try dsimp only at he hy)) | (refine All'.mk ?_; intro y hy)) | refine F4 (fun h => ?_) fun h => ?_ | refine R1 ?_ | refine Q1 ?_ | fail)); all_goals (conv => whnf))
end Go.Proofs.YtoaaieiiamdopaaGreatDoor

set_option linter.unusedVariables false
set_option linter.unusedSimpArgs false
set_option maxRecDepth 100000
set_option maxHeartbeats 4000000
namespace Go.Proofs.YtoaaieiiamdopaaGreatDoor
open Go.Eng
variable [DM]
set_option linter.unusedSectionVars false
theorem rdsame_ok : equalCRu.ok Tryz.prog 45 := by
  refine ok_of_vc (An := fun (x : List Run × List Run) => anOf [(0, .loop (equalLRu x))]) (known_nil _) mo Tryz.func45 (by kernel_rfl) (by kernel_rfl) (fun _ _ => trivial) (fun x hs => ?_)
  obtain ⟨a, b⟩ := x
  have hs : a.length ≤ 9223372036854775807 := hs
  by_cases hl : a.length = b.length
  · ((repeat' ((conv => whnf) <;> first | exact True.intro | (guard_target =~ Fork _ _ _; first | refine F1 ?_ | refine F2 ?_ | refine F3 (fun h => ?_) fun h => ?_) | (guard_target =~ Ar _ _ _; first | refine A1 ?_ | refine A2 ?_ | refine A3 ?_) | (guard_target =~ AskL _ _; first | refine L1 ?_) | (guard_target =~ Go.Eng.Ask _ _; first | refine K1 ?_) | (guard_target =~ All' _ _; first | (refine Y2 fun y he he' hy => ?_; (try dsimp only at he he' hy)) | (refine Y1 fun y he hy => ?_; (try with_reducible conv at he => (rhs; whnf)); (try dsimp only at he hy)) | (refine All'.mk ?_; intro y hy)) | refine F4 (fun h => ?_) fun h => ?_ | refine R1 ?_ | refine Q1 ?_ | fail)); all_goals (conv => whnf))
    refine Some'.mk (0 : Nat) ?_
    ((repeat' ((conv => whnf) <;> first | exact True.intro | (guard_target =~ Fork _ _ _; first | refine F1 ?_ | refine F2 ?_ | refine F3 (fun h => ?_) fun h => ?_) | (guard_target =~ Ar _ _ _; first | refine A1 ?_ | refine A2 ?_ | refine A3 ?_) | (guard_target =~ AskL _ _; first | refine L1 ?_) | (guard_target =~ Go.Eng.Ask _ _; first | refine K1 ?_) | (guard_target =~ All' _ _; first | (refine Y2 fun y he he' hy => ?_; (try dsimp only at he he' hy)) | (refine Y1 fun y he hy => ?_; (try with_reducible conv at he => (rhs; whnf)); (try dsimp only at he hy)) | (refine All'.mk ?_; intro y hy)) | refine F4 (fun h => ?_) fun h => ?_ | refine R1 ?_ | refine Q1 ?_ | fail)); all_goals (conv => whnf))
    refine Ask.mk ⟨Nat.zero_le _, hl, fun j hj => absurd hj (Nat.not_lt_zero _)⟩ ?_
    refine AllI.mk ?_
    rintro (i : Nat) ⟨h1, h2, h3⟩
    have h1 : i ≤ a.length := h1
    have h2 : a.length = b.length := h2
    have h3 : ∀ j, j < i → a[j]? = b[j]? := h3
    by_cases hi : i = a.length
    · subst hi
      have k1 : decide (a = b) = true := decide_eq_true (List.ext_getElem? fun j => by
        by_cases hj : j < a.length
        · exact h3 j hj
        · rw [List.getElem?_eq_none (by omega), List.getElem?_eq_none (by omega)])
      exact G1
    · obtain ⟨x, hx⟩ : ∃ x, a[i]? = some x := ⟨_, List.getElem?_eq_getElem (by omega)⟩
      obtain ⟨y, hy⟩ : ∃ y, b[i]? = some y := ⟨_, List.getElem?_eq_getElem (by omega)⟩
      ((repeat' ((conv => whnf) <;> first | exact True.intro | (guard_target =~ Fork _ _ _; first | refine F1 ?_ | refine F2 ?_ | refine F3 (fun h => ?_) fun h => ?_) | (guard_target =~ Ar _ _ _; first | refine A1 ?_ | refine A2 ?_ | refine A3 ?_) | (guard_target =~ AskL _ _; first | refine L1 ?_) | (guard_target =~ Go.Eng.Ask _ _; first | refine K1 ?_) | (guard_target =~ All' _ _; first | (refine Y2 fun y he he' hy => ?_; (try dsimp only at he he' hy)) | (refine Y1 fun y he hy => ?_; (try with_reducible conv at he => (rhs; whnf)); (try dsimp only at he hy))) | refine F4 (fun h => ?_) fun h => ?_ | refine R1 ?_ | refine Q1 ?_ | fail)); all_goals (conv => whnf))
      refine All'.mk ?_; rintro (x' : Run) hx'
      obtain rfl : x = x' := Option.some.inj (hx.symm.trans hx')
      ((repeat' ((conv => whnf) <;> first | exact True.intro | (guard_target =~ Fork _ _ _; first | refine F1 ?_ | refine F2 ?_ | refine F3 (fun h => ?_) fun h => ?_) | (guard_target =~ Ar _ _ _; first | refine A1 ?_ | refine A2 ?_ | refine A3 ?_) | (guard_target =~ AskL _ _; first | refine L1 ?_) | (guard_target =~ Go.Eng.Ask _ _; first | refine K1 ?_) | (guard_target =~ All' _ _; first | (refine Y2 fun y he he' hy => ?_; (try dsimp only at he he' hy)) | (refine Y1 fun y he hy => ?_; (try with_reducible conv at he => (rhs; whnf)); (try dsimp only at he hy))) | refine F4 (fun h => ?_) fun h => ?_ | refine R1 ?_ | refine Q1 ?_ | fail)); all_goals (conv => whnf))
      refine All'.mk ?_; rintro (y' : Run) hy'
      obtain rfl : y = y' := Option.some.inj (hy.symm.trans hy')
      clear hx' hy'
      by_cases hxy : x = y
      · subst hxy
        have k2 : (x.1 == x.1) = true := beq_self_eq_true _
        have k3 : (x.2.1 == x.2.1) = true := beq_self_eq_true _
        have k4 : (x.2.2 == x.2.2) = true := beq_self_eq_true _
        have hk : (x.1 == x.1 && (x.2.1 == x.2.1 && x.2.2 == x.2.2)) = true := by simp
        have lm := hk
        ((repeat' ((conv => whnf) <;> first | exact True.intro | (guard_target =~ Fork _ _ _; first | refine F1 ?_ | refine F2 ?_ | refine F3 (fun h => ?_) fun h => ?_) | (guard_target =~ Ar _ _ _; first | refine A1 ?_ | refine A2 ?_ | refine A3 ?_) | (guard_target =~ AskL _ _; first | refine L1 ?_) | (guard_target =~ Go.Eng.Ask _ _; first | refine K1 ?_) | (guard_target =~ All' _ _; first | (refine Y2 fun y he he' hy => ?_; (try dsimp only at he he' hy)) | (refine Y1 fun y he hy => ?_; (try with_reducible conv at he => (rhs; whnf)); (try dsimp only at he hy)) | (refine All'.mk ?_; intro y hy)) | refine F4 (fun h => ?_) fun h => ?_ | refine R1 ?_ | refine Q1 ?_ | fail)); all_goals (conv => whnf))
        refine Some'.mk (i + 1 : Nat) ?_
        ((repeat' ((conv => whnf) <;> first | exact True.intro | (guard_target =~ Fork _ _ _; first | refine F1 ?_ | refine F2 ?_ | refine F3 (fun h => ?_) fun h => ?_) | (guard_target =~ Ar _ _ _; first | refine A1 ?_ | refine A2 ?_ | refine A3 ?_) | (guard_target =~ AskL _ _; first | refine L1 ?_) | (guard_target =~ Go.Eng.Ask _ _; first | refine K1 ?_) | (guard_target =~ All' _ _; first | (refine Y2 fun y he he' hy => ?_; (try dsimp only at he he' hy)) | (refine Y1 fun y he hy => ?_; (try with_reducible conv at he => (rhs; whnf)); (try dsimp only at he hy)) | (refine All'.mk ?_; intro y hy)) | refine F4 (fun h => ?_) fun h => ?_ | refine R1 ?_ | refine Q1 ?_ | fail)); all_goals (conv => whnf))
        refine Ask.mk ⟨by show i + 1 ≤ a.length; omega, h2, fun j hj => ?_⟩ ?_
        · show a[j]? = b[j]?
          by_cases hji : j = i
          · subst hji; rw [hx, hy]
          · exact h3 j (by omega)
        exact G1
      · have hk : (x.1 == y.1 && (x.2.1 == y.2.1 && x.2.2 == y.2.2)) = false := by
          cases hh : (x.1 == y.1 && (x.2.1 == y.2.1 && x.2.2 == y.2.2)) with
          | false => rfl
          | true =>
            simp only [Bool.and_eq_true, beq_iff_eq] at hh
            exact absurd (Prod.ext hh.1 (Prod.ext hh.2.1 hh.2.2)) hxy
        have k1 : decide (a = b) = false := decide_eq_false (fun h => hxy (Option.some.inj (hx.symm.trans (by rw [h]; exact hy))))
        have lm := hk
        exact G1
  · have k1 : decide (a = b) = false := decide_eq_false (fun h => hl (by rw [h]))
    exact G1

theorem knownJ0 : Known Tryz.prog (gOf [(59, equalCRu)]) := known_cons ⟨equal_okRu, Tryz.call59⟩ (known_nil _)
theorem dsame_ok : equalCRu.ok Tryz.prog 19 := by
  refine ok_of_vc (An := fun _ => anOf []) knownJ0 mo Tryz.func19 (by kernel_rfl) (by kernel_rfl) (fun _ _ => trivial) (fun x hs => ?_)
  obtain ⟨a, b⟩ := x
  have hs : a.length ≤ 9223372036854775807 := hs
  ((repeat' ((conv => whnf) <;> first | exact True.intro | (guard_target =~ Fork _ _ _; first | refine F1 ?_ | refine F2 ?_ | refine F3 (fun h => ?_) fun h => ?_) | (guard_target =~ Ar _ _ _; first | refine A1 ?_ | refine A2 ?_ | refine A3 ?_) | (guard_target =~ AskL _ _; first | refine L1 ?_) | (guard_target =~ Go.Eng.Ask _ _; first | refine K1 ?_) | (guard_target =~ All' _ _; first | (refine Y2 fun y he he' hy => ?_; (try dsimp only at he he' hy)) | (refine Y1 fun y he hy => ?_; (try with_reducible conv at he => (rhs; whnf)); (try dsimp only at he hy)) | (refine All'.mk ?_; intro y hy)) | refine F4 (fun h => ?_) fun h => ?_ | refine R1 ?_ | refine Q1 ?_ | fail)); all_goals (conv => whnf))
  refine CallP.mk (C := equalCRu) (a, b) ?_
  exact G1
theorem knownJ1 : Known Tryz.prog (gOf [(11, drightC), (73, belowC)]) :=
  known_cons ⟨rdright_ok, Tryz.call11⟩ (known_cons ⟨below_ok, Tryz.call73⟩ (known_nil _))
theorem rdcmp_ok : dcmpC.ok Tryz.prog 42 := by
  refine ok_of_vc (An := fun _ => anOf []) knownJ1 mo Tryz.func42 (by kernel_rfl) (by kernel_rfl) (fun _ _ => trivial) (fun x hs => ?_)
  obtain ⟨a, b⟩ := x
  obtain ⟨la, lb⟩ := hs
  have la : a.length ≤ 400000 := la
  have lb : b.length ≤ 400000 := lb
  have hj : cmpF a b = if rightB a && rightB b then (if belowB a b then (if belowB b a then 0 else -1) else (if belowB b a then 1 else 2)) else 2 := rfl
  cases h1 : rightB a with
  | false =>
    rw [h1, Bool.false_and, if_neg (by simp)] at hj
    have lm := h1
    ((repeat' ((conv => whnf) <;> first | exact True.intro | (guard_target =~ Fork _ _ _; first | refine F1 ?_ | refine F2 ?_ | refine F3 (fun h => ?_) fun h => ?_) | (guard_target =~ Ar _ _ _; first | refine A1 ?_ | refine A2 ?_ | refine A3 ?_) | (guard_target =~ AskL _ _; first | refine L1 ?_) | (guard_target =~ Go.Eng.Ask _ _; first | refine K1 ?_) | (guard_target =~ All' _ _; first | (refine Y2 fun y he he' hy => ?_; (try dsimp only at he he' hy)) | (refine Y1 fun y he hy => ?_; (try with_reducible conv at he => (rhs; whnf)); (try dsimp only at he hy)) | (refine All'.mk ?_; intro y hy)) | refine F4 (fun h => ?_) fun h => ?_ | refine R1 ?_ | refine Q1 ?_ | fail)); all_goals (conv => whnf))
    refine CallP.mk (C := drightC) a ?_
    exact G1
  | true =>
    cases h2 : rightB b with
    | false =>
      rw [h1, h2, Bool.and_false, if_neg (by simp)] at hj
      have lm := And.intro h1 h2
      ((repeat' ((conv => whnf) <;> first | exact True.intro | (guard_target =~ Fork _ _ _; first | refine F1 ?_ | refine F2 ?_ | refine F3 (fun h => ?_) fun h => ?_) | (guard_target =~ Ar _ _ _; first | refine A1 ?_ | refine A2 ?_ | refine A3 ?_) | (guard_target =~ AskL _ _; first | refine L1 ?_) | (guard_target =~ Go.Eng.Ask _ _; first | refine K1 ?_) | (guard_target =~ All' _ _; first | (refine Y2 fun y he he' hy => ?_; (try dsimp only at he he' hy)) | (refine Y1 fun y he hy => ?_; (try with_reducible conv at he => (rhs; whnf)); (try dsimp only at he hy)) | (refine All'.mk ?_; intro y hy)) | refine F4 (fun h => ?_) fun h => ?_ | refine R1 ?_ | refine Q1 ?_ | fail)); all_goals (conv => whnf))
      refine CallP.mk (C := drightC) a ?_
      ((repeat' ((conv => whnf) <;> first | exact True.intro | (guard_target =~ Fork _ _ _; first | refine F1 ?_ | refine F2 ?_ | refine F3 (fun h => ?_) fun h => ?_) | (guard_target =~ Ar _ _ _; first | refine A1 ?_ | refine A2 ?_ | refine A3 ?_) | (guard_target =~ AskL _ _; first | refine L1 ?_) | (guard_target =~ Go.Eng.Ask _ _; first | refine K1 ?_) | (guard_target =~ All' _ _; first | (refine Y2 fun y he he' hy => ?_; (try dsimp only at he he' hy)) | (refine Y1 fun y he hy => ?_; (try with_reducible conv at he => (rhs; whnf)); (try dsimp only at he hy)) | (refine All'.mk ?_; intro y hy)) | refine F4 (fun h => ?_) fun h => ?_ | refine R1 ?_ | refine Q1 ?_ | fail)); all_goals (conv => whnf))
      refine CallP.mk (C := drightC) b ?_
      exact G1
    | true =>
      rw [h1, h2, Bool.and_true, if_pos rfl] at hj
      cases h3 : belowB a b with
      | false =>
        cases h4 : belowB b a with
        | false =>
          rw [h3, h4] at hj
          simp only [if_false, Bool.false_eq_true] at hj
          have lm := And.intro h1 (And.intro h2 (And.intro h3 h4))
          ((repeat' ((conv => whnf) <;> first | exact True.intro | (guard_target =~ Fork _ _ _; first | refine F1 ?_ | refine F2 ?_ | refine F3 (fun h => ?_) fun h => ?_) | (guard_target =~ Ar _ _ _; first | refine A1 ?_ | refine A2 ?_ | refine A3 ?_) | (guard_target =~ AskL _ _; first | refine L1 ?_) | (guard_target =~ Go.Eng.Ask _ _; first | refine K1 ?_) | (guard_target =~ All' _ _; first | (refine Y2 fun y he he' hy => ?_; (try dsimp only at he he' hy)) | (refine Y1 fun y he hy => ?_; (try with_reducible conv at he => (rhs; whnf)); (try dsimp only at he hy)) | (refine All'.mk ?_; intro y hy)) | refine F4 (fun h => ?_) fun h => ?_ | refine R1 ?_ | refine Q1 ?_ | fail)); all_goals (conv => whnf))
          refine CallP.mk (C := drightC) a ?_
          ((repeat' ((conv => whnf) <;> first | exact True.intro | (guard_target =~ Fork _ _ _; first | refine F1 ?_ | refine F2 ?_ | refine F3 (fun h => ?_) fun h => ?_) | (guard_target =~ Ar _ _ _; first | refine A1 ?_ | refine A2 ?_ | refine A3 ?_) | (guard_target =~ AskL _ _; first | refine L1 ?_) | (guard_target =~ Go.Eng.Ask _ _; first | refine K1 ?_) | (guard_target =~ All' _ _; first | (refine Y2 fun y he he' hy => ?_; (try dsimp only at he he' hy)) | (refine Y1 fun y he hy => ?_; (try with_reducible conv at he => (rhs; whnf)); (try dsimp only at he hy)) | (refine All'.mk ?_; intro y hy)) | refine F4 (fun h => ?_) fun h => ?_ | refine R1 ?_ | refine Q1 ?_ | fail)); all_goals (conv => whnf))
          refine CallP.mk (C := drightC) b ?_
          ((repeat' ((conv => whnf) <;> first | exact True.intro | (guard_target =~ Fork _ _ _; first | refine F1 ?_ | refine F2 ?_ | refine F3 (fun h => ?_) fun h => ?_) | (guard_target =~ Ar _ _ _; first | refine A1 ?_ | refine A2 ?_ | refine A3 ?_) | (guard_target =~ AskL _ _; first | refine L1 ?_) | (guard_target =~ Go.Eng.Ask _ _; first | refine K1 ?_) | (guard_target =~ All' _ _; first | (refine Y2 fun y he he' hy => ?_; (try dsimp only at he he' hy)) | (refine Y1 fun y he hy => ?_; (try with_reducible conv at he => (rhs; whnf)); (try dsimp only at he hy)) | (refine All'.mk ?_; intro y hy)) | refine F4 (fun h => ?_) fun h => ?_ | refine R1 ?_ | refine Q1 ?_ | fail)); all_goals (conv => whnf))
          refine CallP.mk (C := belowC) (a, b) ?_
          ((repeat' ((conv => whnf) <;> first | exact True.intro | (guard_target =~ Fork _ _ _; first | refine F1 ?_ | refine F2 ?_ | refine F3 (fun h => ?_) fun h => ?_) | (guard_target =~ Ar _ _ _; first | refine A1 ?_ | refine A2 ?_ | refine A3 ?_) | (guard_target =~ AskL _ _; first | refine L1 ?_) | (guard_target =~ Go.Eng.Ask _ _; first | refine K1 ?_) | (guard_target =~ All' _ _; first | (refine Y2 fun y he he' hy => ?_; (try dsimp only at he he' hy)) | (refine Y1 fun y he hy => ?_; (try with_reducible conv at he => (rhs; whnf)); (try dsimp only at he hy)) | (refine All'.mk ?_; intro y hy)) | refine F4 (fun h => ?_) fun h => ?_ | refine R1 ?_ | refine Q1 ?_ | fail)); all_goals (conv => whnf))
          refine CallP.mk (C := belowC) (b, a) ?_
          exact G1
        | true =>
          rw [h3, h4] at hj
          simp only [if_false, if_true, Bool.false_eq_true] at hj
          have lm := And.intro h1 (And.intro h2 (And.intro h3 h4))
          ((repeat' ((conv => whnf) <;> first | exact True.intro | (guard_target =~ Fork _ _ _; first | refine F1 ?_ | refine F2 ?_ | refine F3 (fun h => ?_) fun h => ?_) | (guard_target =~ Ar _ _ _; first | refine A1 ?_ | refine A2 ?_ | refine A3 ?_) | (guard_target =~ AskL _ _; first | refine L1 ?_) | (guard_target =~ Go.Eng.Ask _ _; first | refine K1 ?_) | (guard_target =~ All' _ _; first | (refine Y2 fun y he he' hy => ?_; (try dsimp only at he he' hy)) | (refine Y1 fun y he hy => ?_; (try with_reducible conv at he => (rhs; whnf)); (try dsimp only at he hy)) | (refine All'.mk ?_; intro y hy)) | refine F4 (fun h => ?_) fun h => ?_ | refine R1 ?_ | refine Q1 ?_ | fail)); all_goals (conv => whnf))
          refine CallP.mk (C := drightC) a ?_
          ((repeat' ((conv => whnf) <;> first | exact True.intro | (guard_target =~ Fork _ _ _; first | refine F1 ?_ | refine F2 ?_ | refine F3 (fun h => ?_) fun h => ?_) | (guard_target =~ Ar _ _ _; first | refine A1 ?_ | refine A2 ?_ | refine A3 ?_) | (guard_target =~ AskL _ _; first | refine L1 ?_) | (guard_target =~ Go.Eng.Ask _ _; first | refine K1 ?_) | (guard_target =~ All' _ _; first | (refine Y2 fun y he he' hy => ?_; (try dsimp only at he he' hy)) | (refine Y1 fun y he hy => ?_; (try with_reducible conv at he => (rhs; whnf)); (try dsimp only at he hy)) | (refine All'.mk ?_; intro y hy)) | refine F4 (fun h => ?_) fun h => ?_ | refine R1 ?_ | refine Q1 ?_ | fail)); all_goals (conv => whnf))
          refine CallP.mk (C := drightC) b ?_
          ((repeat' ((conv => whnf) <;> first | exact True.intro | (guard_target =~ Fork _ _ _; first | refine F1 ?_ | refine F2 ?_ | refine F3 (fun h => ?_) fun h => ?_) | (guard_target =~ Ar _ _ _; first | refine A1 ?_ | refine A2 ?_ | refine A3 ?_) | (guard_target =~ AskL _ _; first | refine L1 ?_) | (guard_target =~ Go.Eng.Ask _ _; first | refine K1 ?_) | (guard_target =~ All' _ _; first | (refine Y2 fun y he he' hy => ?_; (try dsimp only at he he' hy)) | (refine Y1 fun y he hy => ?_; (try with_reducible conv at he => (rhs; whnf)); (try dsimp only at he hy)) | (refine All'.mk ?_; intro y hy)) | refine F4 (fun h => ?_) fun h => ?_ | refine R1 ?_ | refine Q1 ?_ | fail)); all_goals (conv => whnf))
          refine CallP.mk (C := belowC) (a, b) ?_
          ((repeat' ((conv => whnf) <;> first | exact True.intro | (guard_target =~ Fork _ _ _; first | refine F1 ?_ | refine F2 ?_ | refine F3 (fun h => ?_) fun h => ?_) | (guard_target =~ Ar _ _ _; first | refine A1 ?_ | refine A2 ?_ | refine A3 ?_) | (guard_target =~ AskL _ _; first | refine L1 ?_) | (guard_target =~ Go.Eng.Ask _ _; first | refine K1 ?_) | (guard_target =~ All' _ _; first | (refine Y2 fun y he he' hy => ?_; (try dsimp only at he he' hy)) | (refine Y1 fun y he hy => ?_; (try with_reducible conv at he => (rhs; whnf)); (try dsimp only at he hy)) | (refine All'.mk ?_; intro y hy)) | refine F4 (fun h => ?_) fun h => ?_ | refine R1 ?_ | refine Q1 ?_ | fail)); all_goals (conv => whnf))
          refine CallP.mk (C := belowC) (b, a) ?_
          ((repeat' ((conv => whnf) <;> first | exact True.intro | (guard_target =~ Fork _ _ _; first | refine F1 ?_ | refine F2 ?_ | refine F3 (fun h => ?_) fun h => ?_) | (guard_target =~ Ar _ _ _; first | refine A1 ?_ | refine A2 ?_ | refine A3 ?_) | (guard_target =~ AskL _ _; first | refine L1 ?_) | (guard_target =~ Go.Eng.Ask _ _; first | refine K1 ?_) | (guard_target =~ All' _ _; first | (refine Y2 fun y he he' hy => ?_; (try dsimp only at he he' hy)) | (refine Y1 fun y he hy => ?_; (try with_reducible conv at he => (rhs; whnf)); (try dsimp only at he hy)) | (refine All'.mk ?_; intro y hy)) | refine F4 (fun h => ?_) fun h => ?_ | refine R1 ?_ | refine Q1 ?_ | fail)); all_goals (conv => whnf))
          refine CallP.mk (C := belowC) (a, b) ?_
          ((repeat' ((conv => whnf) <;> first | exact True.intro | (guard_target =~ Fork _ _ _; first | refine F1 ?_ | refine F2 ?_ | refine F3 (fun h => ?_) fun h => ?_) | (guard_target =~ Ar _ _ _; first | refine A1 ?_ | refine A2 ?_ | refine A3 ?_) | (guard_target =~ AskL _ _; first | refine L1 ?_) | (guard_target =~ Go.Eng.Ask _ _; first | refine K1 ?_) | (guard_target =~ All' _ _; first | (refine Y2 fun y he he' hy => ?_; (try dsimp only at he he' hy)) | (refine Y1 fun y he hy => ?_; (try with_reducible conv at he => (rhs; whnf)); (try dsimp only at he hy)) | (refine All'.mk ?_; intro y hy)) | refine F4 (fun h => ?_) fun h => ?_ | refine R1 ?_ | refine Q1 ?_ | fail)); all_goals (conv => whnf))
          refine CallP.mk (C := belowC) (a, b) ?_
          exact G1
      | true =>
        cases h4 : belowB b a with
        | false =>
          rw [h3, h4] at hj
          simp only [if_false, if_true, Bool.false_eq_true] at hj
          have lm := And.intro h1 (And.intro h2 (And.intro h3 h4))
          ((repeat' ((conv => whnf) <;> first | exact True.intro | (guard_target =~ Fork _ _ _; first | refine F1 ?_ | refine F2 ?_ | refine F3 (fun h => ?_) fun h => ?_) | (guard_target =~ Ar _ _ _; first | refine A1 ?_ | refine A2 ?_ | refine A3 ?_) | (guard_target =~ AskL _ _; first | refine L1 ?_) | (guard_target =~ Go.Eng.Ask _ _; first | refine K1 ?_) | (guard_target =~ All' _ _; first | (refine Y2 fun y he he' hy => ?_; (try dsimp only at he he' hy)) | (refine Y1 fun y he hy => ?_; (try with_reducible conv at he => (rhs; whnf)); (try dsimp only at he hy)) | (refine All'.mk ?_; intro y hy)) | refine F4 (fun h => ?_) fun h => ?_ | refine R1 ?_ | refine Q1 ?_ | fail)); all_goals (conv => whnf))
          refine CallP.mk (C := drightC) a ?_
          ((repeat' ((conv => whnf) <;> first | exact True.intro | (guard_target =~ Fork _ _ _; first | refine F1 ?_ | refine F2 ?_ | refine F3 (fun h => ?_) fun h => ?_) | (guard_target =~ Ar _ _ _; first | refine A1 ?_ | refine A2 ?_ | refine A3 ?_) | (guard_target =~ AskL _ _; first | refine L1 ?_) | (guard_target =~ Go.Eng.Ask _ _; first | refine K1 ?_) | (guard_target =~ All' _ _; first | (refine Y2 fun y he he' hy => ?_; (try dsimp only at he he' hy)) | (refine Y1 fun y he hy => ?_; (try with_reducible conv at he => (rhs; whnf)); (try dsimp only at he hy)) | (refine All'.mk ?_; intro y hy)) | refine F4 (fun h => ?_) fun h => ?_ | refine R1 ?_ | refine Q1 ?_ | fail)); all_goals (conv => whnf))
          refine CallP.mk (C := drightC) b ?_
          ((repeat' ((conv => whnf) <;> first | exact True.intro | (guard_target =~ Fork _ _ _; first | refine F1 ?_ | refine F2 ?_ | refine F3 (fun h => ?_) fun h => ?_) | (guard_target =~ Ar _ _ _; first | refine A1 ?_ | refine A2 ?_ | refine A3 ?_) | (guard_target =~ AskL _ _; first | refine L1 ?_) | (guard_target =~ Go.Eng.Ask _ _; first | refine K1 ?_) | (guard_target =~ All' _ _; first | (refine Y2 fun y he he' hy => ?_; (try dsimp only at he he' hy)) | (refine Y1 fun y he hy => ?_; (try with_reducible conv at he => (rhs; whnf)); (try dsimp only at he hy)) | (refine All'.mk ?_; intro y hy)) | refine F4 (fun h => ?_) fun h => ?_ | refine R1 ?_ | refine Q1 ?_ | fail)); all_goals (conv => whnf))
          refine CallP.mk (C := belowC) (a, b) ?_
          ((repeat' ((conv => whnf) <;> first | exact True.intro | (guard_target =~ Fork _ _ _; first | refine F1 ?_ | refine F2 ?_ | refine F3 (fun h => ?_) fun h => ?_) | (guard_target =~ Ar _ _ _; first | refine A1 ?_ | refine A2 ?_ | refine A3 ?_) | (guard_target =~ AskL _ _; first | refine L1 ?_) | (guard_target =~ Go.Eng.Ask _ _; first | refine K1 ?_) | (guard_target =~ All' _ _; first | (refine Y2 fun y he he' hy => ?_; (try dsimp only at he he' hy)) | (refine Y1 fun y he hy => ?_; (try with_reducible conv at he => (rhs; whnf)); (try dsimp only at he hy)) | (refine All'.mk ?_; intro y hy)) | refine F4 (fun h => ?_) fun h => ?_ | refine R1 ?_ | refine Q1 ?_ | fail)); all_goals (conv => whnf))
          refine CallP.mk (C := belowC) (a, b) ?_
          ((repeat' ((conv => whnf) <;> first | exact True.intro | (guard_target =~ Fork _ _ _; first | refine F1 ?_ | refine F2 ?_ | refine F3 (fun h => ?_) fun h => ?_) | (guard_target =~ Ar _ _ _; first | refine A1 ?_ | refine A2 ?_ | refine A3 ?_) | (guard_target =~ AskL _ _; first | refine L1 ?_) | (guard_target =~ Go.Eng.Ask _ _; first | refine K1 ?_) | (guard_target =~ All' _ _; first | (refine Y2 fun y he he' hy => ?_; (try dsimp only at he he' hy)) | (refine Y1 fun y he hy => ?_; (try with_reducible conv at he => (rhs; whnf)); (try dsimp only at he hy)) | (refine All'.mk ?_; intro y hy)) | refine F4 (fun h => ?_) fun h => ?_ | refine R1 ?_ | refine Q1 ?_ | fail)); all_goals (conv => whnf))
          refine CallP.mk (C := belowC) (b, a) ?_
          ((repeat' ((conv => whnf) <;> first | exact True.intro | (guard_target =~ Fork _ _ _; first | refine F1 ?_ | refine F2 ?_ | refine F3 (fun h => ?_) fun h => ?_) | (guard_target =~ Ar _ _ _; first | refine A1 ?_ | refine A2 ?_ | refine A3 ?_) | (guard_target =~ AskL _ _; first | refine L1 ?_) | (guard_target =~ Go.Eng.Ask _ _; first | refine K1 ?_) | (guard_target =~ All' _ _; first | (refine Y2 fun y he he' hy => ?_; (try dsimp only at he he' hy)) | (refine Y1 fun y he hy => ?_; (try with_reducible conv at he => (rhs; whnf)); (try dsimp only at he hy)) | (refine All'.mk ?_; intro y hy)) | refine F4 (fun h => ?_) fun h => ?_ | refine R1 ?_ | refine Q1 ?_ | fail)); all_goals (conv => whnf))
          refine CallP.mk (C := belowC) (a, b) ?_
          exact G1
        | true =>
          rw [h3, h4] at hj
          simp only [if_true] at hj
          have lm := And.intro h1 (And.intro h2 (And.intro h3 h4))
          ((repeat' ((conv => whnf) <;> first | exact True.intro | (guard_target =~ Fork _ _ _; first | refine F1 ?_ | refine F2 ?_ | refine F3 (fun h => ?_) fun h => ?_) | (guard_target =~ Ar _ _ _; first | refine A1 ?_ | refine A2 ?_ | refine A3 ?_) | (guard_target =~ AskL _ _; first | refine L1 ?_) | (guard_target =~ Go.Eng.Ask _ _; first | refine K1 ?_) | (guard_target =~ All' _ _; first | (refine Y2 fun y he he' hy => ?_; (try dsimp only at he he' hy)) | (refine Y1 fun y he hy => ?_; (try with_reducible conv at he => (rhs; whnf)); (try dsimp only at he hy)) | (refine All'.mk ?_; intro y hy)) | refine F4 (fun h => ?_) fun h => ?_ | refine R1 ?_ | refine Q1 ?_ | fail)); all_goals (conv => whnf))
          refine CallP.mk (C := drightC) a ?_
          ((repeat' ((conv => whnf) <;> first | exact True.intro | (guard_target =~ Fork _ _ _; first | refine F1 ?_ | refine F2 ?_ | refine F3 (fun h => ?_) fun h => ?_) | (guard_target =~ Ar _ _ _; first | refine A1 ?_ | refine A2 ?_ | refine A3 ?_) | (guard_target =~ AskL _ _; first | refine L1 ?_) | (guard_target =~ Go.Eng.Ask _ _; first | refine K1 ?_) | (guard_target =~ All' _ _; first | (refine Y2 fun y he he' hy => ?_; (try dsimp only at he he' hy)) | (refine Y1 fun y he hy => ?_; (try with_reducible conv at he => (rhs; whnf)); (try dsimp only at he hy)) | (refine All'.mk ?_; intro y hy)) | refine F4 (fun h => ?_) fun h => ?_ | refine R1 ?_ | refine Q1 ?_ | fail)); all_goals (conv => whnf))
          refine CallP.mk (C := drightC) b ?_
          ((repeat' ((conv => whnf) <;> first | exact True.intro | (guard_target =~ Fork _ _ _; first | refine F1 ?_ | refine F2 ?_ | refine F3 (fun h => ?_) fun h => ?_) | (guard_target =~ Ar _ _ _; first | refine A1 ?_ | refine A2 ?_ | refine A3 ?_) | (guard_target =~ AskL _ _; first | refine L1 ?_) | (guard_target =~ Go.Eng.Ask _ _; first | refine K1 ?_) | (guard_target =~ All' _ _; first | (refine Y2 fun y he he' hy => ?_; (try dsimp only at he he' hy)) | (refine Y1 fun y he hy => ?_; (try with_reducible conv at he => (rhs; whnf)); (try dsimp only at he hy)) | (refine All'.mk ?_; intro y hy)) | refine F4 (fun h => ?_) fun h => ?_ | refine R1 ?_ | refine Q1 ?_ | fail)); all_goals (conv => whnf))
          refine CallP.mk (C := belowC) (a, b) ?_
          ((repeat' ((conv => whnf) <;> first | exact True.intro | (guard_target =~ Fork _ _ _; first | refine F1 ?_ | refine F2 ?_ | refine F3 (fun h => ?_) fun h => ?_) | (guard_target =~ Ar _ _ _; first | refine A1 ?_ | refine A2 ?_ | refine A3 ?_) | (guard_target =~ AskL _ _; first | refine L1 ?_) | (guard_target =~ Go.Eng.Ask _ _; first | refine K1 ?_) | (guard_target =~ All' _ _; first | (refine Y2 fun y he he' hy => ?_; (try dsimp only at he he' hy)) | (refine Y1 fun y he hy => ?_; (try with_reducible conv at he => (rhs; whnf)); (try dsimp only at he hy)) | (refine All'.mk ?_; intro y hy)) | refine F4 (fun h => ?_) fun h => ?_ | refine R1 ?_ | refine Q1 ?_ | fail)); all_goals (conv => whnf))
          refine CallP.mk (C := belowC) (a, b) ?_
          ((repeat' ((conv => whnf) <;> first | exact True.intro | (guard_target =~ Fork _ _ _; first | refine F1 ?_ | refine F2 ?_ | refine F3 (fun h => ?_) fun h => ?_) | (guard_target =~ Ar _ _ _; first | refine A1 ?_ | refine A2 ?_ | refine A3 ?_) | (guard_target =~ AskL _ _; first | refine L1 ?_) | (guard_target =~ Go.Eng.Ask _ _; first | refine K1 ?_) | (guard_target =~ All' _ _; first | (refine Y2 fun y he he' hy => ?_; (try dsimp only at he he' hy)) | (refine Y1 fun y he hy => ?_; (try with_reducible conv at he => (rhs; whnf)); (try dsimp only at he hy)) | (refine All'.mk ?_; intro y hy)) | refine F4 (fun h => ?_) fun h => ?_ | refine R1 ?_ | refine Q1 ?_ | fail)); all_goals (conv => whnf))
          refine CallP.mk (C := belowC) (b, a) ?_
          exact G1

def cntL : List Run → Int
  | [] => 0
  | r :: l => (r.2.2 - r.2.1 + 1) + cntL l
theorem cntL_snoc (r : Run) : ∀ l : List Run, cntL (l ++ [r]) = cntL l + (r.2.2 - r.2.1 + 1)
  | [] => by simp [cntL]
  | x :: l => by simp only [List.cons_append, cntL, cntL_snoc r l]; omega
theorem cntL_rng : ∀ l : List Run, (∀ r, r ∈ l → runP r) → 0 ≤ cntL l ∧ cntL l ≤ 1099511627776 * l.length
  | [], _ => by simp [cntL]
  | r :: l, h => by
    have h1 := h r (List.mem_cons_self ..)
    have h2 := cntL_rng l (fun x hx => h x (List.mem_cons_of_mem _ hx))
    unfold runP at h1
    simp only [cntL, List.length_cons]
    omega
def cntN (c : List Run) : Int := if rightB c then cntL c else 0
@[reducible] def dcountC : Ctr := {
  X := List Run
  Y := Unit
  args := fun c => [.ro true runT c]
  rw := fun _ => []
  side := fun c => c.length ≤ 400000
  val := fun _ => ()
  ens := fun _ _ => True
  res := fun c _ => .v (.int .i64 (cntN c))
  out := fun _ _ => [] }
@[reducible] def dcountL (c : List Run) : LA := {
  X := Nat
  pre := fun i => i ≤ c.length
  mu := fun i => c.length - i
  T := fun i => [(3, .v (.int .i64 (cntL (c.take i)))), (10, .ro true runT c), (11, .v (.int .i64 c.length)), (12, .v (.int .i64 (i : Nat)))]
  M := fun _ => [] }
theorem knownJ2 : Known Tryz.prog (gOf [(24, drightC)]) := known_cons ⟨dright_ok, Tryz.call24⟩ (known_nil _)
theorem dcount_ok : dcountC.ok Tryz.prog 43 := by
  refine ok_of_vc (An := fun (c : List Run) => anOf [(0, .loop (dcountL c))]) knownJ2 mo Tryz.func43 (by kernel_rfl) (by kernel_rfl) (fun _ _ => trivial) (fun (c : List Run) hs => ?_)
  have hs : c.length ≤ 400000 := hs
  have hj : cntN c = if rightB c then cntL c else 0 := rfl
  cases h1 : rightB c with
  | false =>
    rw [h1, if_neg (by simp)] at hj
    have lm := h1
    ((repeat' ((conv => whnf) <;> first | exact True.intro | (guard_target =~ Fork _ _ _; first | refine F1 ?_ | refine F2 ?_ | refine F3 (fun h => ?_) fun h => ?_) | (guard_target =~ Ar _ _ _; first | refine A1 ?_ | refine A2 ?_ | refine A3 ?_) | (guard_target =~ AskL _ _; first | refine L1 ?_) | (guard_target =~ Go.Eng.Ask _ _; first | refine K1 ?_) | (guard_target =~ All' _ _; first | (refine Y2 fun y he he' hy => ?_; (try dsimp only at he he' hy)) | (refine Y1 fun y he hy => ?_; (try with_reducible conv at he => (rhs; whnf)); (try dsimp only at he hy)) | (refine All'.mk ?_; intro y hy)) | refine F4 (fun h => ?_) fun h => ?_ | refine R1 ?_ | refine Q1 ?_ | fail)); all_goals (conv => whnf))
    refine CallP.mk (C := drightC) c ?_
    exact G1
  | true =>
    rw [h1, if_pos rfl] at hj
    have lm := h1
    have rc := right_iff.1 h1
    have h0 : cntL (c.take 0) = 0 := rfl
    ((repeat' ((conv => whnf) <;> first | exact True.intro | (guard_target =~ Fork _ _ _; first | refine F1 ?_ | refine F2 ?_ | refine F3 (fun h => ?_) fun h => ?_) | (guard_target =~ Ar _ _ _; first | refine A1 ?_ | refine A2 ?_ | refine A3 ?_) | (guard_target =~ AskL _ _; first | refine L1 ?_) | (guard_target =~ Go.Eng.Ask _ _; first | refine K1 ?_) | (guard_target =~ All' _ _; first | (refine Y2 fun y he he' hy => ?_; (try dsimp only at he he' hy)) | (refine Y1 fun y he hy => ?_; (try with_reducible conv at he => (rhs; whnf)); (try dsimp only at he hy)) | (refine All'.mk ?_; intro y hy)) | refine F4 (fun h => ?_) fun h => ?_ | refine R1 ?_ | refine Q1 ?_ | fail)); all_goals (conv => whnf))
    refine CallP.mk (C := drightC) c ?_
    ((repeat' ((conv => whnf) <;> first | exact True.intro | (guard_target =~ Fork _ _ _; first | refine F1 ?_ | refine F2 ?_ | refine F3 (fun h => ?_) fun h => ?_) | (guard_target =~ Ar _ _ _; first | refine A1 ?_ | refine A2 ?_ | refine A3 ?_) | (guard_target =~ AskL _ _; first | refine L1 ?_) | (guard_target =~ Go.Eng.Ask _ _; first | refine K1 ?_) | (guard_target =~ All' _ _; first | (refine Y2 fun y he he' hy => ?_; (try dsimp only at he he' hy)) | (refine Y1 fun y he hy => ?_; (try with_reducible conv at he => (rhs; whnf)); (try dsimp only at he hy)) | (refine All'.mk ?_; intro y hy)) | refine F4 (fun h => ?_) fun h => ?_ | refine R1 ?_ | refine Q1 ?_ | fail)); all_goals (conv => whnf))
    refine Some'.mk (0 : Nat) ?_
    dsimp only [dcountL]
    rw [h0]
    ((repeat' ((conv => whnf) <;> first | exact True.intro | (guard_target =~ Fork _ _ _; first | refine F1 ?_ | refine F2 ?_ | refine F3 (fun h => ?_) fun h => ?_) | (guard_target =~ Ar _ _ _; first | refine A1 ?_ | refine A2 ?_ | refine A3 ?_) | (guard_target =~ AskL _ _; first | refine L1 ?_) | (guard_target =~ Go.Eng.Ask _ _; first | refine K1 ?_) | (guard_target =~ All' _ _; first | (refine Y2 fun y he he' hy => ?_; (try dsimp only at he he' hy)) | (refine Y1 fun y he hy => ?_; (try with_reducible conv at he => (rhs; whnf)); (try dsimp only at he hy)) | (refine All'.mk ?_; intro y hy)) | refine F4 (fun h => ?_) fun h => ?_ | refine R1 ?_ | refine Q1 ?_ | fail)); all_goals (conv => whnf))
    refine AllI.mk ?_
    rintro (i : Nat) hi
    have hi : i ≤ c.length := hi
    by_cases hil : i = c.length
    · subst hil
      try dsimp only [dcountL]
      rw [List.take_length]
      exact G1
    · obtain ⟨⟨n, f, t⟩, he⟩ : ∃ e, c[i]? = some e := ⟨_, List.getElem?_eq_getElem (by omega)⟩
      obtain ⟨b1, b2, b3, b4, b5⟩ : runP (n, f, t) := rc.all _ (List.mem_of_getElem? he)
      dsimp only at b1 b2 b3 b4 b5
      have hrng := cntL_rng (c.take i) (fun r hr => rc.all r (List.mem_of_mem_take hr))
      rw [List.length_take] at hrng
      have hsn : cntL (c.take (i + 1)) = cntL (c.take i) + (t - f + 1) := by rw [take_sn he, cntL_snoc]
      ((repeat' ((conv => whnf) <;> first | exact True.intro | (guard_target =~ Fork _ _ _; first | refine F1 ?_ | refine F2 ?_ | refine F3 (fun h => ?_) fun h => ?_) | (guard_target =~ Ar _ _ _; first | refine A1 ?_ | refine A2 ?_ | refine A3 ?_) | (guard_target =~ AskL _ _; first | refine L1 ?_) | (guard_target =~ Go.Eng.Ask _ _; first | refine K1 ?_) | (guard_target =~ All' _ _; first | (refine Y2 fun y he he' hy => ?_; (try dsimp only at he he' hy)) | (refine Y1 fun y he hy => ?_; (try with_reducible conv at he => (rhs; whnf)); (try dsimp only at he hy))) | refine F4 (fun h => ?_) fun h => ?_ | refine R1 ?_ | refine Q1 ?_ | fail)); all_goals (conv => whnf))
      refine All'.mk ?_; rintro (e' : Run) he'
      obtain rfl : (n, f, t) = e' := Option.some.inj (he.symm.trans he')
      clear he'
      ((repeat' ((conv => whnf) <;> first | exact True.intro | (guard_target =~ Fork _ _ _; first | refine F1 ?_ | refine F2 ?_ | refine F3 (fun h => ?_) fun h => ?_) | (guard_target =~ Ar _ _ _; first | refine A1 ?_ | refine A2 ?_ | refine A3 ?_) | (guard_target =~ AskL _ _; first | refine L1 ?_) | (guard_target =~ Go.Eng.Ask _ _; first | refine K1 ?_) | (guard_target =~ All' _ _; first | (refine Y2 fun y he he' hy => ?_; (try dsimp only at he he' hy)) | (refine Y1 fun y he hy => ?_; (try with_reducible conv at he => (rhs; whnf)); (try dsimp only at he hy)) | (refine All'.mk ?_; intro y hy)) | refine F4 (fun h => ?_) fun h => ?_ | refine R1 ?_ | refine Q1 ?_ | fail)); all_goals (conv => whnf))
      refine Some'.mk (i + 1 : Nat) ?_
      try dsimp only [dcountL]
      rw [hsn]
      exact G1
@[reducible] def rdcountL (c : List Run) : LA := {
  X := Nat
  pre := fun i => i ≤ c.length
  mu := fun i => c.length - i
  T := fun i => [(0, .ro true runT c), (3, .v (.int .i64 (if rightB c then cntL (c.take i) else 0))), (6, .ro true runT c), (7, .v (.int .i64 c.length)), (8, .v (.int .i64 (i : Nat)))]
  M := fun _ => [] }
theorem rdcount_ok : dcountC.ok Tryz.prog 44 := by
  refine ok_of_vc (An := fun (c : List Run) => anOf [(0, .loop (rdcountL c))]) knownJ1 mo Tryz.func44 (by kernel_rfl) (by kernel_rfl) (fun _ _ => trivial) (fun (c : List Run) hs => ?_)
  have hs : c.length ≤ 400000 := hs
  have hj : cntN c = if rightB c then cntL c else 0 := rfl
  cases h1 : rightB c with
  | false =>
    rw [h1, if_neg (by simp)] at hj
    have lm := h1
    ((repeat' ((conv => whnf) <;> first | exact True.intro | (guard_target =~ Fork _ _ _; first | refine F1 ?_ | refine F2 ?_ | refine F3 (fun h => ?_) fun h => ?_) | (guard_target =~ Ar _ _ _; first | refine A1 ?_ | refine A2 ?_ | refine A3 ?_) | (guard_target =~ AskL _ _; first | refine L1 ?_) | (guard_target =~ Go.Eng.Ask _ _; first | refine K1 ?_) | (guard_target =~ All' _ _; first | (refine Y2 fun y he he' hy => ?_; (try dsimp only at he he' hy)) | (refine Y1 fun y he hy => ?_; (try with_reducible conv at he => (rhs; whnf)); (try dsimp only at he hy)) | (refine All'.mk ?_; intro y hy)) | refine F4 (fun h => ?_) fun h => ?_ | refine R1 ?_ | refine Q1 ?_ | fail)); all_goals (conv => whnf))
    refine Some'.mk (0 : Nat) ?_
    dsimp only [rdcountL]
    simp only [h1, Bool.false_eq_true, if_false]
    ((repeat' ((conv => whnf) <;> first | exact True.intro | (guard_target =~ Fork _ _ _; first | refine F1 ?_ | refine F2 ?_ | refine F3 (fun h => ?_) fun h => ?_) | (guard_target =~ Ar _ _ _; first | refine A1 ?_ | refine A2 ?_ | refine A3 ?_) | (guard_target =~ AskL _ _; first | refine L1 ?_) | (guard_target =~ Go.Eng.Ask _ _; first | refine K1 ?_) | (guard_target =~ All' _ _; first | (refine Y2 fun y he he' hy => ?_; (try dsimp only at he he' hy)) | (refine Y1 fun y he hy => ?_; (try with_reducible conv at he => (rhs; whnf)); (try dsimp only at he hy)) | (refine All'.mk ?_; intro y hy)) | refine F4 (fun h => ?_) fun h => ?_ | refine R1 ?_ | refine Q1 ?_ | fail)); all_goals (conv => whnf))
    refine AllI.mk ?_
    rintro (i : Nat) hi
    have hi : i ≤ c.length := hi
    by_cases hil : i = c.length
    · subst hil
      exact G1
    · obtain ⟨⟨n, f, t⟩, he⟩ : ∃ e, c[i]? = some e := ⟨_, List.getElem?_eq_getElem (by omega)⟩
      ((repeat' ((conv => whnf) <;> first | exact True.intro | (guard_target =~ Fork _ _ _; first | refine F1 ?_ | refine F2 ?_ | refine F3 (fun h => ?_) fun h => ?_) | (guard_target =~ Ar _ _ _; first | refine A1 ?_ | refine A2 ?_ | refine A3 ?_) | (guard_target =~ AskL _ _; first | refine L1 ?_) | (guard_target =~ Go.Eng.Ask _ _; first | refine K1 ?_) | (guard_target =~ All' _ _; first | (refine Y2 fun y he he' hy => ?_; (try dsimp only at he he' hy)) | (refine Y1 fun y he hy => ?_; (try with_reducible conv at he => (rhs; whnf)); (try dsimp only at he hy))) | refine F4 (fun h => ?_) fun h => ?_ | refine R1 ?_ | refine Q1 ?_ | fail)); all_goals (conv => whnf))
      refine All'.mk ?_; rintro (e' : Run) he'
      obtain rfl : (n, f, t) = e' := Option.some.inj (he.symm.trans he')
      clear he'
      ((repeat' ((conv => whnf) <;> first | exact True.intro | (guard_target =~ Fork _ _ _; first | refine F1 ?_ | refine F2 ?_ | refine F3 (fun h => ?_) fun h => ?_) | (guard_target =~ Ar _ _ _; first | refine A1 ?_ | refine A2 ?_ | refine A3 ?_) | (guard_target =~ AskL _ _; first | refine L1 ?_) | (guard_target =~ Go.Eng.Ask _ _; first | refine K1 ?_) | (guard_target =~ All' _ _; first | (refine Y2 fun y he he' hy => ?_; (try dsimp only at he he' hy)) | (refine Y1 fun y he hy => ?_; (try with_reducible conv at he => (rhs; whnf)); (try dsimp only at he hy)) | (refine All'.mk ?_; intro y hy)) | refine F4 (fun h => ?_) fun h => ?_ | refine R1 ?_ | refine Q1 ?_ | fail)); all_goals (conv => whnf))
      refine CallP.mk (C := drightC) c ?_
      ((repeat' ((conv => whnf) <;> first | exact True.intro | (guard_target =~ Fork _ _ _; first | refine F1 ?_ | refine F2 ?_ | refine F3 (fun h => ?_) fun h => ?_) | (guard_target =~ Ar _ _ _; first | refine A1 ?_ | refine A2 ?_ | refine A3 ?_) | (guard_target =~ AskL _ _; first | refine L1 ?_) | (guard_target =~ Go.Eng.Ask _ _; first | refine K1 ?_) | (guard_target =~ All' _ _; first | (refine Y2 fun y he he' hy => ?_; (try dsimp only at he he' hy)) | (refine Y1 fun y he hy => ?_; (try with_reducible conv at he => (rhs; whnf)); (try dsimp only at he hy)) | (refine All'.mk ?_; intro y hy)) | refine F4 (fun h => ?_) fun h => ?_ | refine R1 ?_ | refine Q1 ?_ | fail)); all_goals (conv => whnf))
      refine Some'.mk (i + 1 : Nat) ?_
      exact G1
  | true =>
    rw [h1, if_pos rfl] at hj
    have lm := h1
    have rc := right_iff.1 h1
    have h0 : cntL (c.take 0) = 0 := rfl
    ((repeat' ((conv => whnf) <;> first | exact True.intro | (guard_target =~ Fork _ _ _; first | refine F1 ?_ | refine F2 ?_ | refine F3 (fun h => ?_) fun h => ?_) | (guard_target =~ Ar _ _ _; first | refine A1 ?_ | refine A2 ?_ | refine A3 ?_) | (guard_target =~ AskL _ _; first | refine L1 ?_) | (guard_target =~ Go.Eng.Ask _ _; first | refine K1 ?_) | (guard_target =~ All' _ _; first | (refine Y2 fun y he he' hy => ?_; (try dsimp only at he he' hy)) | (refine Y1 fun y he hy => ?_; (try with_reducible conv at he => (rhs; whnf)); (try dsimp only at he hy)) | (refine All'.mk ?_; intro y hy)) | refine F4 (fun h => ?_) fun h => ?_ | refine R1 ?_ | refine Q1 ?_ | fail)); all_goals (conv => whnf))
    refine Some'.mk (0 : Nat) ?_
    dsimp only [rdcountL]
    simp only [h1, if_true, h0]
    ((repeat' ((conv => whnf) <;> first | exact True.intro | (guard_target =~ Fork _ _ _; first | refine F1 ?_ | refine F2 ?_ | refine F3 (fun h => ?_) fun h => ?_) | (guard_target =~ Ar _ _ _; first | refine A1 ?_ | refine A2 ?_ | refine A3 ?_) | (guard_target =~ AskL _ _; first | refine L1 ?_) | (guard_target =~ Go.Eng.Ask _ _; first | refine K1 ?_) | (guard_target =~ All' _ _; first | (refine Y2 fun y he he' hy => ?_; (try dsimp only at he he' hy)) | (refine Y1 fun y he hy => ?_; (try with_reducible conv at he => (rhs; whnf)); (try dsimp only at he hy)) | (refine All'.mk ?_; intro y hy)) | refine F4 (fun h => ?_) fun h => ?_ | refine R1 ?_ | refine Q1 ?_ | fail)); all_goals (conv => whnf))
    refine AllI.mk ?_
    rintro (i : Nat) hi
    have hi : i ≤ c.length := hi
    by_cases hil : i = c.length
    · subst hil
      try dsimp only [rdcountL]
      rw [List.take_length]
      exact G1
    · obtain ⟨⟨n, f, t⟩, he⟩ : ∃ e, c[i]? = some e := ⟨_, List.getElem?_eq_getElem (by omega)⟩
      obtain ⟨b1, b2, b3, b4, b5⟩ : runP (n, f, t) := rc.all _ (List.mem_of_getElem? he)
      dsimp only at b1 b2 b3 b4 b5
      have hrng := cntL_rng (c.take i) (fun r hr => rc.all r (List.mem_of_mem_take hr))
      rw [List.length_take] at hrng
      have hsn : cntL (c.take (i + 1)) = cntL (c.take i) + (t - f + 1) := by rw [take_sn he, cntL_snoc]
      ((repeat' ((conv => whnf) <;> first | exact True.intro | (guard_target =~ Fork _ _ _; first | refine F1 ?_ | refine F2 ?_ | refine F3 (fun h => ?_) fun h => ?_) | (guard_target =~ Ar _ _ _; first | refine A1 ?_ | refine A2 ?_ | refine A3 ?_) | (guard_target =~ AskL _ _; first | refine L1 ?_) | (guard_target =~ Go.Eng.Ask _ _; first | refine K1 ?_) | (guard_target =~ All' _ _; first | (refine Y2 fun y he he' hy => ?_; (try dsimp only at he he' hy)) | (refine Y1 fun y he hy => ?_; (try with_reducible conv at he => (rhs; whnf)); (try dsimp only at he hy))) | refine F4 (fun h => ?_) fun h => ?_ | refine R1 ?_ | refine Q1 ?_ | fail)); all_goals (conv => whnf))
      refine All'.mk ?_; rintro (e' : Run) he'
      obtain rfl : (n, f, t) = e' := Option.some.inj (he.symm.trans he')
      clear he'
      ((repeat' ((conv => whnf) <;> first | exact True.intro | (guard_target =~ Fork _ _ _; first | refine F1 ?_ | refine F2 ?_ | refine F3 (fun h => ?_) fun h => ?_) | (guard_target =~ Ar _ _ _; first | refine A1 ?_ | refine A2 ?_ | refine A3 ?_) | (guard_target =~ AskL _ _; first | refine L1 ?_) | (guard_target =~ Go.Eng.Ask _ _; first | refine K1 ?_) | (guard_target =~ All' _ _; first | (refine Y2 fun y he he' hy => ?_; (try dsimp only at he he' hy)) | (refine Y1 fun y he hy => ?_; (try with_reducible conv at he => (rhs; whnf)); (try dsimp only at he hy)) | (refine All'.mk ?_; intro y hy)) | refine F4 (fun h => ?_) fun h => ?_ | refine R1 ?_ | refine Q1 ?_ | fail)); all_goals (conv => whnf))
      refine CallP.mk (C := drightC) c ?_
      ((repeat' ((conv => whnf) <;> first | exact True.intro | (guard_target =~ Fork _ _ _; first | refine F1 ?_ | refine F2 ?_ | refine F3 (fun h => ?_) fun h => ?_) | (guard_target =~ Ar _ _ _; first | refine A1 ?_ | refine A2 ?_ | refine A3 ?_) | (guard_target =~ AskL _ _; first | refine L1 ?_) | (guard_target =~ Go.Eng.Ask _ _; first | refine K1 ?_) | (guard_target =~ All' _ _; first | (refine Y2 fun y he he' hy => ?_; (try dsimp only at he he' hy)) | (refine Y1 fun y he hy => ?_; (try with_reducible conv at he => (rhs; whnf)); (try dsimp only at he hy)) | (refine All'.mk ?_; intro y hy)) | refine F4 (fun h => ?_) fun h => ?_ | refine R1 ?_ | refine Q1 ?_ | fail)); all_goals (conv => whnf))
      refine Some'.mk (i + 1 : Nat) ?_
      try dsimp only [rdcountL]
      try simp only [h1, if_true]
      rw [hsn]
      exact G1
end Go.Proofs.YtoaaieiiamdopaaGreatDoor

set_option linter.unusedVariables false
set_option linter.unusedSimpArgs false
set_option maxRecDepth 100000
namespace Go.Proofs.YtoaaieiiamdopaaGreatDoor
open Go.Eng
end Go.Proofs.YtoaaieiiamdopaaGreatDoor

set_option linter.unusedVariables false
set_option linter.unusedSimpArgs false
set_option linter.unusedSectionVars false
namespace Go.Proofs.YtoaaieiiamdopaaGreatDoor
open Go.Eng
variable [DM]
theorem row_ro {E : Env} {w : World} {fp : Nat → Prop} {id : Nat} {te : TypeId} {t : Ty} {xs : List t.den} {s : Slot} {E' : Env} (hle : E.le E')
    (h : EntSat E w fp id (.row te t xs)) (hs : E.slot id = some s) (hI : ∀ b, fp b → E'.I b) : Sat E' w (.ro false t xs) s.val := by
  obtain ⟨s', h1, h2⟩ := h
  obtain rfl : s' = s := Option.some.inj (h1.symm.trans hs)
  rcases h2 with ⟨h2, rfl, -⟩ | ⟨o, c, arr, fz, g1, g2, g3, g4, g5, g6, g7⟩
  · rw [h2]; exact .nil _ _ _ _
  · rw [g1]
    have hin : ∀ m, m < xs.length * t.size → o + m < arr.size := fun m hm => by
      have : xs.length * t.size ≤ c * t.size := Nat.mul_le_mul_right _ g5
      omega
    refine .ro false t xs s'.blk o c (fun m => arr.getD (o + m) undef) (.inl (hI _ ((g2 _).2 rfl))) g5 (fun m hm => ?_) (fun i x j sv hi hj => ?_)
    · have := hin m hm
      simp [World.cell?, g3, Array.getD, this]
    · obtain ⟨u, hu, hsat⟩ := g7 i x j sv hi hj
      have e : o + (i * t.size + j) = o + i * t.size + j := by omega
      have h9 : arr.getD (o + (i * t.size + j)) undef = u := by
        rw [e]
        have h8 := (Array.getElem?_eq_some_iff.1 hu)
        obtain ⟨h8, h9⟩ := h8
        simp [Array.getD, h8, h9]
      rw [h9]
      exact hsat.mono hle (fun _ _ _ => rfl)

theorem ctr_freeze {P : Program} {f : FuncId} {C : Ctr} {te : TypeId} {ty : Ty} {xs : C.X → List ty.den} (hr : ∀ x, C.res x (C.val x) = .sl 1000) (ho : ∀ x, C.out x (C.val x) = [(1000, .row te ty (xs x))])
    (h : C.ok P f) : ({ C with res := fun x _ => .ro false ty (xs x), out := fun _ _ => [] } : Ctr).ok P f := by
  intro x hs
  obtain ⟨he, H⟩ := h x hs
  refine ⟨he, fun E fp vals w h1 h2 h3 h4 => CallsIn.mono (H E fp vals w h1 h2 h3 h4) ?_⟩
  rintro e w' ⟨v, E', fp', rfl, hv, hents, hadv, hn⟩
  rw [hr] at hv
  rw [ho] at hents
  have hrow : EntSat E' w' (fp' 1000) 1000 (.row te ty (xs x)) := hents.sat 1000
  let E2 : Env := { E' with I := fun b => E'.I b ∨ fp' 1000 b }
  have hle : E'.le E2 := ⟨fun _ _ h => h, fun _ h => .inl h, fun _ h => h⟩
  refine ⟨v, E2, fun _ _ => False, rfl, ?_, ⟨fun id => fun b h => h, fun _ _ h => h.elim, fun _ _ h => h.elim, fun _ _ h => h.elim, fun _ _ _ _ h => h.elim, fun b hb => ?_, hents.nil.mono hle, hents.gl.mono (fun b hb => .inl hb) (fun _ _ => rfl)⟩, ⟨hadv.keep, hadv.le.trans hle, fun b hb => ?_, hadv.Beq, fun _ _ h => h.elim⟩, hn⟩
  · cases hv with
    | sl _ s hs => exact row_ro hle hrow hs (fun b hb => .inr hb)
  · rcases hb with (hb | hb) | hb
    · exact hents.Ilt b (.inl hb)
    · exact hents.lt _ b hb
    · exact hents.Ilt b (.inr hb)
  · rcases hb with hb | hb
    · exact hadv.Inew b hb
    · exact .inr (hadv.onew _ b hb)
end Go.Proofs.YtoaaieiiamdopaaGreatDoor

set_option linter.unusedVariables false
set_option linter.unusedSimpArgs false
set_option linter.unusedSectionVars false
namespace Go.Proofs.YtoaaieiiamdopaaGreatDoor
open Go.Eng
variable [DM]
/-- All that is lent is taken for what is only read. -/
def envIB (E : Env) : Env := { E with I := fun b => E.I b ∨ E.B b }
theorem le_envIB (E : Env) : E.le (envIB E) := ⟨fun _ _ h => h, fun _ h => .inl h, fun _ h => h⟩
theorem ro_lend {E : Env} {w : World} {t : Ty} {xs : List t.den} {v : Value} (h : Sat E w (.ro true t xs) v) : Sat (envIB E) w (.ro false t xs) v := by
  cases h with
  | nil _ _ A c => exact .nil _ _ A c
  | ro _ _ _ k o c u hb hle' hc hs => exact .ro false t xs k o c u (.inl (hb.imp id And.right)) hle' hc (fun i x j sv hi hj => (hs i x j sv hi hj).mono (le_envIB E) (fun _ _ _ => rfl))
/-- What a caller need not freeze. -/
inductive Lends : SV → SV → Prop where
  | ro (t : Ty) (xs : List t.den) : Lends (.ro true t xs) (.ro false t xs)
  | same (s : SV) : Lends s s
theorem Lends.sat {s' s : SV} (h : Lends s' s) {E : Env} {w : World} {v : Value} (hs : Sat E w s' v) : Sat (envIB E) w s v := by
  cases h with
  | ro t xs => exact ro_lend hs
  | same => exact hs.mono (le_envIB E) (fun _ _ _ => rfl)
/-- Results that lean on nothing. -/
inductive Plain1 : SV → Prop where
  | v (x : Value) : Plain1 (.v x)
  | sl (i : Nat) : Plain1 (.sl i)
theorem ctr_lend {P : Program} {f : FuncId} {C : Ctr} {args' : C.X → List SV} (hrw : ∀ x, C.rw x = [])
    (hout : ∀ x, ∀ id, find (C.out x (C.val x)) id = .gone ∨ ∃ te t xs, find (C.out x (C.val x)) id = .row te t xs ∧ ∀ (y : t.den) (j : Nat) (sv : SV), (enc t y)[j]? = some sv → ∃ u, sv = .v u)
    (hres : ∀ x, Plain1 (C.res x (C.val x)))
    (hargs : ∀ x, (args' x).length = (C.args x).length ∧ ∀ (j : Nat) (s' : SV), (args' x)[j]? = some s' → ∃ s, (C.args x)[j]? = some s ∧ Lends s' s)
    (h : C.ok P f) : ({ C with args := args' } : Ctr).ok P f := by
  intro x hs
  obtain ⟨he, H⟩ := h x hs
  refine ⟨he, fun E fp vals w h1 h2 h3 h4 => ?_⟩
  have h3 : EntsSat E w fp (C.rw x) := h3
  rw [hrw x] at h3
  have hfp : ∀ id b, ¬ fp id b := fun id b hf => h3.sat id b hf
  have hE3 : EntsSat (envIB E) w fp (C.rw x) := by
    rw [hrw x]
    exact ⟨fun id => fun b hb => hfp id b hb, fun id b hb => (hfp id b hb).elim, fun id b hb => (hfp id b hb).elim, fun id b hb => (hfp id b hb).elim, fun i j b _ hb => (hfp i b hb).elim,
      fun b hb => h3.Ilt b (by rcases hb with (hb | hb) | hb; exact .inl hb; exact .inr hb; exact .inr hb), h3.nil.mono (le_envIB E), h3.gl.mono (fun b hb => .inl hb) (fun _ _ => rfl)⟩
  refine CallsIn.mono (H (envIB E) fp vals w (h1.trans (hargs x).1) (fun j s hj => ?_) hE3 h4) ?_
  · have hj' : j < (args' x).length := by rw [(hargs x).1]; exact (List.getElem?_eq_some_iff.1 hj).1
    obtain ⟨s2, e2, l2⟩ := (hargs x).2 j _ (List.getElem?_eq_getElem hj')
    obtain rfl : s2 = s := Option.some.inj (e2.symm.trans hj)
    exact l2.sat (h2 j _ (List.getElem?_eq_getElem hj'))
  · rintro e w' ⟨v, E', fp', rfl, hv, hents, hadv, hn⟩
    let E2 : Env := { E' with I := fun b => E.I b ∨ (E'.I b ∧ w.heap.size ≤ b) }
    have hIE : ∀ b, E2.I b → E'.I b := fun b hb => hb.elim (fun h => hadv.le.I b (.inl h)) And.left
    refine ⟨v, E2, fp', rfl, ?_, ⟨fun id => ?_, hents.lt, fun id b hb hI => hents.I id b hb (hIE b hI), hents.B, hents.apart, fun b hb => hents.Ilt b (hb.imp (hIE b) id), hents.nil, ?_⟩,
      ⟨hadv.keep, ⟨hadv.le.slot, fun b hb => .inl hb, hadv.le.B⟩, fun b hb => hb.imp id (fun h => .inr h.2), hadv.Beq, hadv.onew⟩, hn⟩
    · have hp := hres x
      generalize C.res x (C.val x) = r at hv hp
      cases hp with
      | v y => cases hv; exact .v _
      | sl i => cases hv with | sl _ s hs => exact .sl i s hs
    · have hsat := hents.sat id
      show EntSat E2 w' (fp' id) id (find (C.out x (C.val x)) id)
      rcases hout x id with hg | ⟨te, t, xs, hr, hpl⟩
      · rw [hg] at hsat ⊢; exact hsat
      · rw [hr] at hsat ⊢
        obtain ⟨s, k1, k2⟩ := hsat
        refine ⟨s, k1, ?_⟩
        rcases k2 with k2 | ⟨o, c, arr, fz, g1, g2, g3, g4, g5, g6, g7⟩
        · exact .inl k2
        · refine .inr ⟨o, c, arr, fz, g1, g2, g3, g4, g5, g6, fun i y j sv hi hj => ?_⟩
          obtain ⟨u, hu, hsu⟩ := g7 i y j sv hi hj
          obtain ⟨q, rfl⟩ := hpl y j sv hj
          cases hsu
          exact ⟨_, hu, .v _⟩
    · exact h3.gl.mono (fun b hb => .inl hb) (fun b hb => (h3.stays hadv.keep) b (.inl hb) (h3.Ilt b (.inl hb)))
end Go.Proofs.YtoaaieiiamdopaaGreatDoor
