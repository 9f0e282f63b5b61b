/- Parts of the proof, one behind the other (VerB, GetI, DotM, SlRu, DotD, DotE, LibD, Sort, DotF, OrdI, Wkn, VerC, TxtB, TxtC, LibK). -/
import Derived.Test.YthmbdjhlfieldaaGreatDoorPk8
import Derived.Shelf.SlSortCmp.NoneTotal
import Derived.Shelf.SlSortCmp.WholeK
import Derived.Test.YthmbdjhlfieldaaGreatDoorChecked
import Derived.Shelf.Strings.Cut
import Derived.Lib.SmallJoins
set_option linter.unusedVariables false
set_option linter.unusedSimpArgs false
set_option linter.unusedSectionVars false
set_option linter.unusedVariables false
set_option linter.unusedSimpArgs false
set_option maxRecDepth 100000
namespace Go.Proofs.YthmbdjhlfieldaaGreatDoor
open Go.Eng
variable [DM]
set_option linter.unusedSectionVars false
/-- An item's bytes. -/
def itemBy (x : Item) : List Int := numL x.1.size ++ (bytesL x.1 ++ (numL x.2.1.1.toNat ++ (numL x.2.1.2.toNat ++ (clockBy x.2.2.1 ++ (if x.2.2.2.1 then [1] else 0 :: (numL x.2.2.2.2.length ++ x.2.2.2.2))))))
def itemBs (x : Item) : List Int := if itemB x = true then itemBy x else []
structure ItemOk (key : ByteArray) (m n : Int) (c : List Run) (b : Bool) (v : List Int) : Prop where
  hk : 1 ≤ key.size ∧ key.size ≤ 24
  hv : v.length ≤ 64
  hb : b = true → v.length = 0
  hm : 0 ≤ m ∧ m ≤ 7
  hn : 1 ≤ n ∧ n ≤ 1099511627776
  hc : rightB c = true
  hl : c.length ≤ 32
theorem item_ok {key : ByteArray} {m n : Int} {c : List Run} {b : Bool} {v : List Int} (h : itemB (key, (m, n), c, b, v) = true) : ItemOk key m n c b v := by
  unfold itemB at h
  simp only [Bool.and_eq_true, decide_eq_true_eq] at h
  obtain ⟨⟨h1, h2⟩, h3, h4, h5, h6, h7, h8⟩ := h
  have h1 : 0 ≤ m ∧ m ≤ 7 ∧ 1 ≤ n ∧ n ≤ 1099511627776 := of_decide_eq_true h1
  exact ⟨⟨h3, h4⟩, h5, h6, ⟨h1.1, h1.2.1⟩, h1.2.2, h2, h7⟩

structure IPutX where
  bs : List Int
  it : Item
@[reducible] def iputC : Ctr := {
  X := IPutX
  Y := Unit
  args := fun x => [.ptr 0 0, itemA x.it]
  rw := fun x => penE 0 x.bs 1
  side := fun x => itemL x.it ∧ x.bs.length ≤ 10000000000
  val := fun _ => ()
  ens := fun _ _ => True
  res := fun x y => .v (.bool (itemB x.it))
  out := fun x _ => penE 0 (x.bs ++ itemBs x.it) 1000 }
theorem knownV2 : Known Tryz.prog (gOf [(14, irightC), (69, numC), (68, textC), (70, dputC)]) :=
  known_cons ⟨iright_ok, Tryz.call14⟩ (known_cons ⟨num_ok, Tryz.call69⟩ (known_cons ⟨text_ok, Tryz.call68⟩ (known_cons ⟨dput_ok, Tryz.call70⟩ (known_nil _))))
theorem iput_ok : iputC.ok Tryz.prog 28 := by
  refine ok_of_vc (An := fun _ => anOf []) knownV2 mo Tryz.func28 (by kernel_rfl) (by kernel_rfl) (fun _ _ => trivial) (fun x hs => ?_)
  obtain ⟨bs, key, ⟨m, n⟩, c, b, v⟩ := x
  have hs : (key.size ≤ 9223372036854775807 ∧ c.length ≤ 9223372036854775807 ∧ v.length ≤ 9223372036854775807) ∧ bs.length ≤ 10000000000 := hs
  cases hi : itemB (key, (m, n), c, b, v) with
  | false =>
    have hz : itemBs (key, (m, n), c, b, v) = [] := by unfold itemBs; rw [hi]; rfl
    have ck : Hc irightC (key, (m, n), c, b, v) True := .mk trivial
    ((repeat' ((conv => whnf) <;> first | exact True.intro | (guard_target =~ Fork _ _ _; first | refine F1 ?_ | refine F2 ?_ | (refine Fork.pos ?_ ?_; · (simp only [hz, List.append_nil, Bool.not_true, Bool.not_false, decide_eq_true_eq, beq_iff_eq, bne_iff_ne, ne_eq] <;> omega)) | (refine Fork.neg ?_ ?_; · (simp only [hz, List.append_nil, Bool.not_true, Bool.not_false, decide_eq_false_iff_not, beq_eq_false_iff_ne] <;> omega)) | refine F3 (fun h => ?_) fun h => ?_) | (guard_target =~ Ar _ _ _; first | refine A1 ?_ | refine A2 ?_ | refine A3 ?_ | (refine Ar.fit (wrap_i64 ?_ ?_) ?_; · ((try dsimp only) <;> simp only [hz, List.append_nil] <;> omega); · ((try dsimp only) <;> simp only [hz, List.append_nil] <;> omega)) | (refine Ar.fit (wrap_u64 ?_ ?_) ?_; · ((try dsimp only) <;> simp only [hz, List.append_nil] <;> omega); · ((try dsimp only) <;> simp only [hz, List.append_nil] <;> omega))) | (guard_target =~ AskL _ _; first | (refine AskL.mk ?_ ?_; · ((simp only [conj]; repeat' apply And.intro) <;> first | rfl | trivial | omega | (simp only [hz, List.append_nil]; done) | (simp only [hz, List.append_nil] <;> omega) | (simp only [hz, List.append_nil]; refine Bool.eq_iff_iff.2 ?_; simp only [decide_eq_true_eq, Bool.false_eq_true, true_iff, iff_true, false_iff, iff_false, eq_self]; omega) | (simp only [*, hz, List.append_nil]; done))) | refine L1 ?_) | (guard_target =~ Go.Eng.Ask _ _; first | refine K1 ?_ | (refine Ask.mk ?_ ?_; · ((try dsimp only) <;> simp only [hz, List.append_nil] <;> omega))) | (guard_target =~ CallP _ _ _ _ _; first | refine H1 ck fun ck => ?_ | refine H2 ck fun ck => ?_) | (guard_target =~ All' _ _; first | (refine Y2 fun y he he' hy => ?_; (try dsimp only at he he' hy)) | (refine Y1 fun y he hy => ?_; (try with_reducible conv at he => (rhs; whnf)); (try dsimp only at he hy)) | (refine All'.mk ?_; intro y hy)) | refine F4 (fun h => ?_) fun h => ?_ | refine R1 ?_ | refine Q1 ?_ | fail)); all_goals (conv => whnf))
  | true =>
    have hz : itemBs (key, (m, n), c, b, v) = itemBy (key, (m, n), c, b, v) := by unfold itemBs; rw [hi]; rfl
    obtain ⟨⟨k1, k2⟩, k3, k4, ⟨k5, k6⟩, ⟨k7, k8⟩, k9, k10⟩ := item_ok hi
    obtain ⟨m, rfl⟩ := natOf k5
    obtain ⟨n, rfl⟩ := natOf (n := n) (by omega)
    have hw1 : IntKind.u64.wrap ((m : Nat) : Int) = ((m : Nat) : Int) := wrap_u64 (by omega) (by omega)
    have hw2 : IntKind.u64.wrap ((n : Nat) : Int) = ((n : Nat) : Int) := wrap_u64 (by omega) (by omega)
    have hn1 := numL_le (u := m) (by omega)
    have hn2 := numL_le (u := n) (by omega)
    have hn3 := numL_le (u := key.size) (by omega)
    have hn4 := clockBy_le k9 (by omega)
    have hn5 := numL_small (u := 0) (by omega)
    have hn6 := numL_small (u := 1) (by omega)
    have ck : Hc irightC (key, (((m : Nat) : Int), ((n : Nat) : Int)), c, b, v) True := .mk trivial
    ((repeat' ((conv => whnf) <;> first | exact True.intro | (guard_target =~ Fork _ _ _; first | refine F1 ?_ | refine F2 ?_ | (refine Fork.pos ?_ ?_; · (simp only [List.length_append, bytesL_length, Bool.not_true, Bool.not_false, decide_eq_true_eq, beq_iff_eq, bne_iff_ne, ne_eq] <;> omega)) | (refine Fork.neg ?_ ?_; · (simp only [List.length_append, bytesL_length, Bool.not_true, Bool.not_false, decide_eq_false_iff_not, beq_eq_false_iff_ne] <;> omega)) | refine F3 (fun h => ?_) fun h => ?_) | (guard_target =~ Ar _ _ _; first | refine A1 ?_ | refine A2 ?_ | refine A3 ?_ | (refine Ar.fit (wrap_i64 ?_ ?_) ?_; · ((try dsimp only) <;> simp only [List.length_append, bytesL_length] <;> omega); · ((try dsimp only) <;> simp only [List.length_append, bytesL_length] <;> omega)) | (refine Ar.fit (wrap_u64 ?_ ?_) ?_; · ((try dsimp only) <;> simp only [List.length_append, bytesL_length] <;> omega); · ((try dsimp only) <;> simp only [List.length_append, bytesL_length] <;> omega))) | (guard_target =~ AskL _ _; first | (refine AskL.mk ?_ ?_; · ((simp only [conj]; repeat' apply And.intro) <;> first | rfl | trivial | omega | (simp only [List.length_append, bytesL_length]; done) | (simp only [List.length_append, bytesL_length] <;> omega) | (simp only [List.length_append, bytesL_length]; refine Bool.eq_iff_iff.2 ?_; simp only [decide_eq_true_eq, Bool.false_eq_true, true_iff, iff_true, false_iff, iff_false, eq_self]; omega) | (simp only [*, List.length_append, bytesL_length]; done))) | refine L1 ?_) | (guard_target =~ Go.Eng.Ask _ _; first | refine K1 ?_ | (refine Ask.mk ?_ ?_; · ((try dsimp only) <;> simp only [List.length_append, bytesL_length] <;> omega))) | (guard_target =~ CallP _ _ _ _ _; first | refine H1 ck fun ck => ?_ | refine H2 ck fun ck => ?_) | (guard_target =~ All' _ _; first | (refine Y2 fun y he he' hy => ?_; (try dsimp only at he he' hy)) | (refine Y1 fun y he hy => ?_; (try with_reducible conv at he => (rhs; whnf)); (try dsimp only at he hy)) | (refine All'.mk ?_; intro y hy)) | refine F4 (fun h => ?_) fun h => ?_ | refine R1 ?_ | refine Q1 ?_ | fail)); all_goals (conv => whnf))
    clear he
    refine CallP.mk (C := textC) (bs, bytesL key) ?_
    ((repeat' ((conv => whnf) <;> first | exact True.intro | (guard_target =~ Fork _ _ _; first | refine F1 ?_ | refine F2 ?_ | (refine Fork.pos ?_ ?_; · (simp only [List.length_append, bytesL_length, Bool.not_true, Bool.not_false, decide_eq_true_eq, beq_iff_eq, bne_iff_ne, ne_eq] <;> omega)) | (refine Fork.neg ?_ ?_; · (simp only [List.length_append, bytesL_length, Bool.not_true, Bool.not_false, decide_eq_false_iff_not, beq_eq_false_iff_ne] <;> omega)) | refine F3 (fun h => ?_) fun h => ?_) | (guard_target =~ Ar _ _ _; first | refine A1 ?_ | refine A2 ?_ | refine A3 ?_ | (refine Ar.fit (wrap_i64 ?_ ?_) ?_; · ((try dsimp only) <;> simp only [List.length_append, bytesL_length] <;> omega); · ((try dsimp only) <;> simp only [List.length_append, bytesL_length] <;> omega)) | (refine Ar.fit (wrap_u64 ?_ ?_) ?_; · ((try dsimp only) <;> simp only [List.length_append, bytesL_length] <;> omega); · ((try dsimp only) <;> simp only [List.length_append, bytesL_length] <;> omega))) | (guard_target =~ AskL _ _; first | (refine AskL.mk ?_ ?_; · ((simp only [conj]; repeat' apply And.intro) <;> first | rfl | trivial | omega | (simp only [List.length_append, bytesL_length]; done) | (simp only [List.length_append, bytesL_length] <;> omega) | (simp only [List.length_append, bytesL_length]; refine Bool.eq_iff_iff.2 ?_; simp only [decide_eq_true_eq, Bool.false_eq_true, true_iff, iff_true, false_iff, iff_false, eq_self]; omega) | (simp only [*, List.length_append, bytesL_length]; done))) | refine L1 ?_) | (guard_target =~ Go.Eng.Ask _ _; first | refine K1 ?_ | (refine Ask.mk ?_ ?_; · ((try dsimp only) <;> simp only [List.length_append, bytesL_length] <;> omega))) | (guard_target =~ CallP _ _ _ _ _; first | refine H1 ck fun ck => ?_ | refine H2 ck fun ck => ?_) | (guard_target =~ All' _ _; first | (refine Y2 fun y he he' hy => ?_; (try dsimp only at he he' hy)) | (refine Y1 fun y he hy => ?_; (try with_reducible conv at he => (rhs; whnf)); (try dsimp only at he hy)) | (refine All'.mk ?_; intro y hy)) | refine F4 (fun h => ?_) fun h => ?_ | refine R1 ?_ | refine Q1 ?_ | fail)); all_goals (conv => whnf))
    clear he
    refine CallP.mk (C := numC) ⟨bs ++ numL (bytesL key).length ++ bytesL key, m⟩ ?_
    ((repeat' ((conv => whnf) <;> first | exact True.intro | (guard_target =~ Fork _ _ _; first | refine F1 ?_ | refine F2 ?_ | (refine Fork.pos ?_ ?_; · (simp only [List.length_append, bytesL_length, Bool.not_true, Bool.not_false, decide_eq_true_eq, beq_iff_eq, bne_iff_ne, ne_eq] <;> omega)) | (refine Fork.neg ?_ ?_; · (simp only [List.length_append, bytesL_length, Bool.not_true, Bool.not_false, decide_eq_false_iff_not, beq_eq_false_iff_ne] <;> omega)) | refine F3 (fun h => ?_) fun h => ?_) | (guard_target =~ Ar _ _ _; first | refine A1 ?_ | refine A2 ?_ | refine A3 ?_ | (refine Ar.fit (wrap_i64 ?_ ?_) ?_; · ((try dsimp only) <;> simp only [List.length_append, bytesL_length] <;> omega); · ((try dsimp only) <;> simp only [List.length_append, bytesL_length] <;> omega)) | (refine Ar.fit (wrap_u64 ?_ ?_) ?_; · ((try dsimp only) <;> simp only [List.length_append, bytesL_length] <;> omega); · ((try dsimp only) <;> simp only [List.length_append, bytesL_length] <;> omega))) | (guard_target =~ AskL _ _; first | (refine AskL.mk ?_ ?_; · ((simp only [conj]; repeat' apply And.intro) <;> first | rfl | trivial | omega | (simp only [List.length_append, bytesL_length]; done) | (simp only [List.length_append, bytesL_length] <;> omega) | (simp only [List.length_append, bytesL_length]; refine Bool.eq_iff_iff.2 ?_; simp only [decide_eq_true_eq, Bool.false_eq_true, true_iff, iff_true, false_iff, iff_false, eq_self]; omega) | (simp only [*, List.length_append, bytesL_length]; done))) | refine L1 ?_) | (guard_target =~ Go.Eng.Ask _ _; first | refine K1 ?_ | (refine Ask.mk ?_ ?_; · ((try dsimp only) <;> simp only [List.length_append, bytesL_length] <;> omega))) | (guard_target =~ CallP _ _ _ _ _; first | refine H1 ck fun ck => ?_ | refine H2 ck fun ck => ?_) | (guard_target =~ All' _ _; first | (refine Y2 fun y he he' hy => ?_; (try dsimp only at he he' hy)) | (refine Y1 fun y he hy => ?_; (try with_reducible conv at he => (rhs; whnf)); (try dsimp only at he hy)) | (refine All'.mk ?_; intro y hy)) | refine F4 (fun h => ?_) fun h => ?_ | refine R1 ?_ | refine Q1 ?_ | fail)); all_goals (conv => whnf))
    clear he
    refine CallP.mk (C := numC) ⟨bs ++ numL (bytesL key).length ++ bytesL key ++ numL m, n⟩ ?_
    ((repeat' ((conv => whnf) <;> first | exact True.intro | (guard_target =~ Fork _ _ _; first | refine F1 ?_ | refine F2 ?_ | (refine Fork.pos ?_ ?_; · (simp only [List.length_append, bytesL_length, Bool.not_true, Bool.not_false, decide_eq_true_eq, beq_iff_eq, bne_iff_ne, ne_eq] <;> omega)) | (refine Fork.neg ?_ ?_; · (simp only [List.length_append, bytesL_length, Bool.not_true, Bool.not_false, decide_eq_false_iff_not, beq_eq_false_iff_ne] <;> omega)) | refine F3 (fun h => ?_) fun h => ?_) | (guard_target =~ Ar _ _ _; first | refine A1 ?_ | refine A2 ?_ | refine A3 ?_ | (refine Ar.fit (wrap_i64 ?_ ?_) ?_; · ((try dsimp only) <;> simp only [List.length_append, bytesL_length] <;> omega); · ((try dsimp only) <;> simp only [List.length_append, bytesL_length] <;> omega)) | (refine Ar.fit (wrap_u64 ?_ ?_) ?_; · ((try dsimp only) <;> simp only [List.length_append, bytesL_length] <;> omega); · ((try dsimp only) <;> simp only [List.length_append, bytesL_length] <;> omega))) | (guard_target =~ AskL _ _; first | (refine AskL.mk ?_ ?_; · ((simp only [conj]; repeat' apply And.intro) <;> first | rfl | trivial | omega | (simp only [List.length_append, bytesL_length]; done) | (simp only [List.length_append, bytesL_length] <;> omega) | (simp only [List.length_append, bytesL_length]; refine Bool.eq_iff_iff.2 ?_; simp only [decide_eq_true_eq, Bool.false_eq_true, true_iff, iff_true, false_iff, iff_false, eq_self]; omega) | (simp only [*, List.length_append, bytesL_length]; done))) | refine L1 ?_) | (guard_target =~ Go.Eng.Ask _ _; first | refine K1 ?_ | (refine Ask.mk ?_ ?_; · ((try dsimp only) <;> simp only [List.length_append, bytesL_length] <;> omega))) | (guard_target =~ CallP _ _ _ _ _; first | refine H1 ck fun ck => ?_ | refine H2 ck fun ck => ?_) | (guard_target =~ All' _ _; first | (refine Y2 fun y he he' hy => ?_; (try dsimp only at he he' hy)) | (refine Y1 fun y he hy => ?_; (try with_reducible conv at he => (rhs; whnf)); (try dsimp only at he hy)) | (refine All'.mk ?_; intro y hy)) | refine F4 (fun h => ?_) fun h => ?_ | refine R1 ?_ | refine Q1 ?_ | fail)); all_goals (conv => whnf))
    clear he
    refine CallP.mk (C := dputC) ⟨bs ++ numL (bytesL key).length ++ bytesL key ++ numL m ++ numL n, c⟩ ?_
    ((repeat' ((conv => whnf) <;> first | exact True.intro | (guard_target =~ Fork _ _ _; first | refine F1 ?_ | refine F2 ?_ | (refine Fork.pos ?_ ?_; · (simp only [List.length_append, bytesL_length, Bool.not_true, Bool.not_false, decide_eq_true_eq, beq_iff_eq, bne_iff_ne, ne_eq] <;> omega)) | (refine Fork.neg ?_ ?_; · (simp only [List.length_append, bytesL_length, Bool.not_true, Bool.not_false, decide_eq_false_iff_not, beq_eq_false_iff_ne] <;> omega)) | refine F3 (fun h => ?_) fun h => ?_) | (guard_target =~ Ar _ _ _; first | refine A1 ?_ | refine A2 ?_ | refine A3 ?_ | (refine Ar.fit (wrap_i64 ?_ ?_) ?_; · ((try dsimp only) <;> simp only [List.length_append, bytesL_length] <;> omega); · ((try dsimp only) <;> simp only [List.length_append, bytesL_length] <;> omega)) | (refine Ar.fit (wrap_u64 ?_ ?_) ?_; · ((try dsimp only) <;> simp only [List.length_append, bytesL_length] <;> omega); · ((try dsimp only) <;> simp only [List.length_append, bytesL_length] <;> omega))) | (guard_target =~ AskL _ _; first | (refine AskL.mk ?_ ?_; · ((simp only [conj]; repeat' apply And.intro) <;> first | rfl | trivial | omega | (simp only [List.length_append, bytesL_length]; done) | (simp only [List.length_append, bytesL_length] <;> omega) | (simp only [List.length_append, bytesL_length]; refine Bool.eq_iff_iff.2 ?_; simp only [decide_eq_true_eq, Bool.false_eq_true, true_iff, iff_true, false_iff, iff_false, eq_self]; omega) | (simp only [*, List.length_append, bytesL_length]; done))) | refine L1 ?_) | (guard_target =~ Go.Eng.Ask _ _; first | refine K1 ?_ | (refine Ask.mk ?_ ?_; · ((try dsimp only) <;> simp only [List.length_append, bytesL_length] <;> omega))) | (guard_target =~ CallP _ _ _ _ _; first | refine H1 ck fun ck => ?_ | refine H2 ck fun ck => ?_) | (guard_target =~ All' _ _; first | (refine Y2 fun y he he' hy => ?_; (try dsimp only at he he' hy)) | (refine Y1 fun y he hy => ?_; (try with_reducible conv at he => (rhs; whnf)); (try dsimp only at he hy)) | (refine All'.mk ?_; intro y hy)) | refine F4 (fun h => ?_) fun h => ?_ | refine R1 ?_ | refine Q1 ?_ | fail)); all_goals (conv => whnf))
    refine Ask.mk ⟨k9, Nat.le_trans k10 (by decide), by simp only [List.length_append, bytesL_length]; omega⟩ ?_
    cases b
    · have hz2 : itemBs (key, (((m : Nat) : Int), ((n : Nat) : Int)), c, false, v) = numL (bytesL key).length ++ (bytesL key ++ (numL m ++ (numL n ++ (clockBy c ++ (numL 0 ++ (numL v.length ++ v)))))) := by
        rw [hz, bytesL_length, hn5]; rfl
      have hn7 := numL_le (u := v.length) (by omega)
      have hn8 := numL_le (u := 0) (by omega)
      clear hz hn5 hn6
      have ck : Hc numC ⟨bs ++ numL (bytesL key).length ++ bytesL key ++ numL m ++ numL n ++ clockBy c, 0⟩ True := .mk trivial
      ((repeat' ((conv => whnf) <;> first | exact True.intro | (guard_target =~ Fork _ _ _; first | refine F1 ?_ | refine F2 ?_ | (refine Fork.pos ?_ ?_; · (simp only [List.length_append, bytesL_length, Bool.not_true, Bool.not_false, decide_eq_true_eq, beq_iff_eq, bne_iff_ne, ne_eq] <;> omega)) | (refine Fork.neg ?_ ?_; · (simp only [List.length_append, bytesL_length, Bool.not_true, Bool.not_false, decide_eq_false_iff_not, beq_eq_false_iff_ne] <;> omega)) | refine F3 (fun h => ?_) fun h => ?_) | (guard_target =~ Ar _ _ _; first | refine A1 ?_ | refine A2 ?_ | refine A3 ?_ | (refine Ar.fit (wrap_i64 ?_ ?_) ?_; · ((try dsimp only) <;> simp only [List.length_append, bytesL_length] <;> omega); · ((try dsimp only) <;> simp only [List.length_append, bytesL_length] <;> omega)) | (refine Ar.fit (wrap_u64 ?_ ?_) ?_; · ((try dsimp only) <;> simp only [List.length_append, bytesL_length] <;> omega); · ((try dsimp only) <;> simp only [List.length_append, bytesL_length] <;> omega))) | (guard_target =~ AskL _ _; first | (refine AskL.mk ?_ ?_; · ((simp only [conj]; repeat' apply And.intro) <;> first | rfl | trivial | omega | (simp only [List.length_append, bytesL_length]; done) | (simp only [List.length_append, bytesL_length] <;> omega) | (simp only [List.length_append, bytesL_length]; refine Bool.eq_iff_iff.2 ?_; simp only [decide_eq_true_eq, Bool.false_eq_true, true_iff, iff_true, false_iff, iff_false, eq_self]; omega) | (simp only [*, List.length_append, bytesL_length]; done))) | refine L1 ?_) | (guard_target =~ Go.Eng.Ask _ _; first | refine K1 ?_ | (refine Ask.mk ?_ ?_; · ((try dsimp only) <;> simp only [List.length_append, bytesL_length] <;> omega))) | (guard_target =~ CallP _ _ _ _ _; first | refine H1 ck fun ck => ?_ | refine H2 ck fun ck => ?_) | (guard_target =~ All' _ _; first | (refine Y2 fun y he he' hy => ?_; (try dsimp only at he he' hy)) | (refine Y1 fun y he hy => ?_; (try with_reducible conv at he => (rhs; whnf)); (try dsimp only at he hy)) | (refine All'.mk ?_; intro y hy)) | refine F4 (fun h => ?_) fun h => ?_ | refine R1 ?_ | refine Q1 ?_ | fail)); all_goals (conv => whnf))
      clear he
      refine CallP.mk (C := textC) (bs ++ numL (bytesL key).length ++ bytesL key ++ numL m ++ numL n ++ clockBy c ++ numL 0, v) ?_
      ((repeat' ((conv => whnf) <;> first | exact True.intro | (guard_target =~ Fork _ _ _; first | refine F1 ?_ | refine F2 ?_ | (refine Fork.pos ?_ ?_; · (simp only [List.length_append, bytesL_length, Bool.not_true, Bool.not_false, decide_eq_true_eq, beq_iff_eq, bne_iff_ne, ne_eq] <;> omega)) | (refine Fork.neg ?_ ?_; · (simp only [List.length_append, bytesL_length, Bool.not_true, Bool.not_false, decide_eq_false_iff_not, beq_eq_false_iff_ne] <;> omega)) | refine F3 (fun h => ?_) fun h => ?_) | (guard_target =~ Ar _ _ _; first | refine A1 ?_ | refine A2 ?_ | refine A3 ?_ | (refine Ar.fit (wrap_i64 ?_ ?_) ?_; · ((try dsimp only) <;> simp only [List.length_append, bytesL_length] <;> omega); · ((try dsimp only) <;> simp only [List.length_append, bytesL_length] <;> omega)) | (refine Ar.fit (wrap_u64 ?_ ?_) ?_; · ((try dsimp only) <;> simp only [List.length_append, bytesL_length] <;> omega); · ((try dsimp only) <;> simp only [List.length_append, bytesL_length] <;> omega))) | (guard_target =~ AskL _ _; first | (refine AskL.mk ?_ ?_; · ((simp only [conj]; repeat' apply And.intro) <;> first | rfl | trivial | omega | (simp only [List.length_append, bytesL_length]; done) | (simp only [List.length_append, bytesL_length] <;> omega) | (simp only [List.length_append, bytesL_length]; refine Bool.eq_iff_iff.2 ?_; simp only [decide_eq_true_eq, Bool.false_eq_true, true_iff, iff_true, false_iff, iff_false, eq_self]; omega) | (simp only [*, List.length_append, bytesL_length]; done))) | refine L1 ?_) | (guard_target =~ Go.Eng.Ask _ _; first | refine K1 ?_ | (refine Ask.mk ?_ ?_; · ((try dsimp only) <;> simp only [List.length_append, bytesL_length] <;> omega))) | (guard_target =~ CallP _ _ _ _ _; first | refine H1 ck fun ck => ?_ | refine H2 ck fun ck => ?_) | (guard_target =~ All' _ _; first | (refine Y2 fun y he he' hy => ?_; (try dsimp only at he he' hy)) | (refine Y1 fun y he hy => ?_; (try with_reducible conv at he => (rhs; whnf)); (try dsimp only at he hy)) | (refine All'.mk ?_; intro y hy)) | refine F4 (fun h => ?_) fun h => ?_ | refine R1 ?_ | refine Q1 ?_ | fail)); all_goals (conv => whnf))
      clear he
      ((repeat' ((conv => whnf) <;> first | exact True.intro | (guard_target =~ Fork _ _ _; first | refine F1 ?_ | refine F2 ?_ | (refine Fork.pos ?_ ?_; · (simp only [hz2, List.append_assoc, Bool.not_true, Bool.not_false, decide_eq_true_eq, beq_iff_eq, bne_iff_ne, ne_eq] <;> omega)) | (refine Fork.neg ?_ ?_; · (simp only [hz2, List.append_assoc, Bool.not_true, Bool.not_false, decide_eq_false_iff_not, beq_eq_false_iff_ne] <;> omega)) | refine F3 (fun h => ?_) fun h => ?_) | (guard_target =~ Ar _ _ _; first | refine A1 ?_ | refine A2 ?_ | refine A3 ?_ | (refine Ar.fit (wrap_i64 ?_ ?_) ?_; · ((try dsimp only) <;> simp only [hz2, List.append_assoc] <;> omega); · ((try dsimp only) <;> simp only [hz2, List.append_assoc] <;> omega)) | (refine Ar.fit (wrap_u64 ?_ ?_) ?_; · ((try dsimp only) <;> simp only [hz2, List.append_assoc] <;> omega); · ((try dsimp only) <;> simp only [hz2, List.append_assoc] <;> omega))) | (guard_target =~ AskL _ _; first | (refine AskL.mk ?_ ?_; · ((simp only [conj]; repeat' apply And.intro) <;> first | rfl | trivial | omega | (simp only [hz2, List.append_assoc]; done) | (simp only [hz2, List.append_assoc] <;> omega) | (simp only [hz2, List.append_assoc]; refine Bool.eq_iff_iff.2 ?_; simp only [decide_eq_true_eq, Bool.false_eq_true, true_iff, iff_true, false_iff, iff_false, eq_self]; omega) | (simp only [*, hz2, List.append_assoc]; done))) | refine L1 ?_) | (guard_target =~ Go.Eng.Ask _ _; first | refine K1 ?_ | (refine Ask.mk ?_ ?_; · ((try dsimp only) <;> simp only [hz2, List.append_assoc] <;> omega))) | (guard_target =~ CallP _ _ _ _ _; first | refine H1 ck fun ck => ?_ | refine H2 ck fun ck => ?_) | (guard_target =~ All' _ _; first | (refine Y2 fun y he he' hy => ?_; (try dsimp only at he he' hy)) | (refine Y1 fun y he hy => ?_; (try with_reducible conv at he => (rhs; whnf)); (try dsimp only at he hy)) | (refine All'.mk ?_; intro y hy)) | refine F4 (fun h => ?_) fun h => ?_ | refine R1 ?_ | refine Q1 ?_ | fail)); all_goals (conv => whnf))
    · have hz2 : itemBs (key, (((m : Nat) : Int), ((n : Nat) : Int)), c, true, v) = numL (bytesL key).length ++ (bytesL key ++ (numL m ++ (numL n ++ (clockBy c ++ numL 1)))) := by
        rw [hz, bytesL_length, hn6]; rfl
      clear hz hn5 hn6
      have ck : Hc numC ⟨bs ++ numL (bytesL key).length ++ bytesL key ++ numL m ++ numL n ++ clockBy c, 1⟩ True := .mk trivial
      ((repeat' ((conv => whnf) <;> first | exact True.intro | (guard_target =~ Fork _ _ _; first | refine F1 ?_ | refine F2 ?_ | (refine Fork.pos ?_ ?_; · (simp only [List.length_append, bytesL_length, Bool.not_true, Bool.not_false, decide_eq_true_eq, beq_iff_eq, bne_iff_ne, ne_eq] <;> omega)) | (refine Fork.neg ?_ ?_; · (simp only [List.length_append, bytesL_length, Bool.not_true, Bool.not_false, decide_eq_false_iff_not, beq_eq_false_iff_ne] <;> omega)) | refine F3 (fun h => ?_) fun h => ?_) | (guard_target =~ Ar _ _ _; first | refine A1 ?_ | refine A2 ?_ | refine A3 ?_ | (refine Ar.fit (wrap_i64 ?_ ?_) ?_; · ((try dsimp only) <;> simp only [List.length_append, bytesL_length] <;> omega); · ((try dsimp only) <;> simp only [List.length_append, bytesL_length] <;> omega)) | (refine Ar.fit (wrap_u64 ?_ ?_) ?_; · ((try dsimp only) <;> simp only [List.length_append, bytesL_length] <;> omega); · ((try dsimp only) <;> simp only [List.length_append, bytesL_length] <;> omega))) | (guard_target =~ AskL _ _; first | (refine AskL.mk ?_ ?_; · ((simp only [conj]; repeat' apply And.intro) <;> first | rfl | trivial | omega | (simp only [List.length_append, bytesL_length]; done) | (simp only [List.length_append, bytesL_length] <;> omega) | (simp only [List.length_append, bytesL_length]; refine Bool.eq_iff_iff.2 ?_; simp only [decide_eq_true_eq, Bool.false_eq_true, true_iff, iff_true, false_iff, iff_false, eq_self]; omega) | (simp only [*, List.length_append, bytesL_length]; done))) | refine L1 ?_) | (guard_target =~ Go.Eng.Ask _ _; first | refine K1 ?_ | (refine Ask.mk ?_ ?_; · ((try dsimp only) <;> simp only [List.length_append, bytesL_length] <;> omega))) | (guard_target =~ CallP _ _ _ _ _; first | refine H1 ck fun ck => ?_ | refine H2 ck fun ck => ?_) | (guard_target =~ All' _ _; first | (refine Y2 fun y he he' hy => ?_; (try dsimp only at he he' hy)) | (refine Y1 fun y he hy => ?_; (try with_reducible conv at he => (rhs; whnf)); (try dsimp only at he hy)) | (refine All'.mk ?_; intro y hy)) | refine F4 (fun h => ?_) fun h => ?_ | refine R1 ?_ | refine Q1 ?_ | fail)); all_goals (conv => whnf))
      clear he
      ((repeat' ((conv => whnf) <;> first | exact True.intro | (guard_target =~ Fork _ _ _; first | refine F1 ?_ | refine F2 ?_ | (refine Fork.pos ?_ ?_; · (simp only [hz2, List.append_assoc, Bool.not_true, Bool.not_false, decide_eq_true_eq, beq_iff_eq, bne_iff_ne, ne_eq] <;> omega)) | (refine Fork.neg ?_ ?_; · (simp only [hz2, List.append_assoc, Bool.not_true, Bool.not_false, decide_eq_false_iff_not, beq_eq_false_iff_ne] <;> omega)) | refine F3 (fun h => ?_) fun h => ?_) | (guard_target =~ Ar _ _ _; first | refine A1 ?_ | refine A2 ?_ | refine A3 ?_ | (refine Ar.fit (wrap_i64 ?_ ?_) ?_; · ((try dsimp only) <;> simp only [hz2, List.append_assoc] <;> omega); · ((try dsimp only) <;> simp only [hz2, List.append_assoc] <;> omega)) | (refine Ar.fit (wrap_u64 ?_ ?_) ?_; · ((try dsimp only) <;> simp only [hz2, List.append_assoc] <;> omega); · ((try dsimp only) <;> simp only [hz2, List.append_assoc] <;> omega))) | (guard_target =~ AskL _ _; first | (refine AskL.mk ?_ ?_; · ((simp only [conj]; repeat' apply And.intro) <;> first | rfl | trivial | omega | (simp only [hz2, List.append_assoc]; done) | (simp only [hz2, List.append_assoc] <;> omega) | (simp only [hz2, List.append_assoc]; refine Bool.eq_iff_iff.2 ?_; simp only [decide_eq_true_eq, Bool.false_eq_true, true_iff, iff_true, false_iff, iff_false, eq_self]; omega) | (simp only [*, hz2, List.append_assoc]; done))) | refine L1 ?_) | (guard_target =~ Go.Eng.Ask _ _; first | refine K1 ?_ | (refine Ask.mk ?_ ?_; · ((try dsimp only) <;> simp only [hz2, List.append_assoc] <;> omega))) | (guard_target =~ CallP _ _ _ _ _; first | refine H1 ck fun ck => ?_ | refine H2 ck fun ck => ?_) | (guard_target =~ All' _ _; first | (refine Y2 fun y he he' hy => ?_; (try dsimp only at he he' hy)) | (refine Y1 fun y he hy => ?_; (try with_reducible conv at he => (rhs; whnf)); (try dsimp only at he hy)) | (refine All'.mk ?_; intro y hy)) | refine F4 (fun h => ?_) fun h => ?_ | refine R1 ?_ | refine Q1 ?_ | fail)); all_goals (conv => whnf))
@[reducible] def ibytesC : Ctr := {
  X := Item
  Y := Unit
  args := fun x => [itemA x]
  rw := fun _ => []
  side := fun x => itemL x
  val := fun _ => ()
  ens := fun _ _ => True
  res := fun _ _ => .sl 1000
  out := fun x _ => [(1000, .row 5 (.int .u8) (itemBs x))] }
theorem knownV3 : Known Tryz.prog (gOf [(28, iputC), (34, penBytesC)]) :=
  known_cons ⟨iput_ok, Tryz.call28⟩ (known_cons ⟨penBytes_ok, Tryz.call34⟩ (known_nil _))
theorem itemBy_le {key : ByteArray} {m n : Int} {c : List Run} {b : Bool} {v : List Int} (hi : itemB (key, (m, n), c, b, v) = true) : (itemBy (key, (m, n), c, b, v)).length ≤ 28000 := by
  obtain ⟨⟨k1, k2⟩, k3, k4, ⟨k5, k6⟩, ⟨k7, k8⟩, k9, k10⟩ := item_ok hi
  have hn1 := numL_le (u := m.toNat) (by omega)
  have hn2 := numL_le (u := n.toNat) (by omega)
  have hn3 := numL_le (u := key.size) (by omega)
  have hn4 := clockBy_le k9 (by omega)
  have hn5 := numL_le (u := v.length) (by omega)
  simp only [itemBy, List.length_append, bytesL_length]
  split
  · simp only [List.length_cons, List.length_nil]; omega
  · simp only [List.length_cons, List.length_append]; omega
theorem itemBs_le (x : Item) : (itemBs x).length ≤ 28000 := by
  unfold itemBs
  split
  · rename_i h
    exact itemBy_le h
  · exact Nat.zero_le _
theorem ibytes_ok : ibytesC.ok Tryz.prog 16 := by
  refine ok_of_vc (An := fun _ => anOf []) knownV3 mo Tryz.func16 (by kernel_rfl) (by kernel_rfl) (fun _ _ => trivial) (fun x hs => ?_)
  have hl := itemBs_le x
  obtain ⟨key, ⟨m, n⟩, c, b, v⟩ := x
  have hs : key.size ≤ 9223372036854775807 ∧ c.length ≤ 9223372036854775807 ∧ v.length ≤ 9223372036854775807 := hs
  have ck : Hc iputC ⟨[], key, (m, n), c, b, v⟩ (Hc penBytesC (itemBs (key, (m, n), c, b, v)) True) := .mk (.mk trivial)
  ((repeat' ((conv => whnf) <;> first | exact True.intro | (guard_target =~ Fork _ _ _; first | refine F1 ?_ | refine F2 ?_ | (refine Fork.pos ?_ ?_; · (simp only [List.nil_append, Bool.not_true, Bool.not_false, decide_eq_true_eq, beq_iff_eq, bne_iff_ne, ne_eq] <;> omega)) | (refine Fork.neg ?_ ?_; · (simp only [List.nil_append, Bool.not_true, Bool.not_false, decide_eq_false_iff_not, beq_eq_false_iff_ne] <;> omega)) | refine F3 (fun h => ?_) fun h => ?_) | (guard_target =~ Ar _ _ _; first | refine A1 ?_ | refine A2 ?_ | refine A3 ?_ | (refine Ar.fit (wrap_i64 ?_ ?_) ?_; · ((try dsimp only) <;> simp only [List.nil_append] <;> omega); · ((try dsimp only) <;> simp only [List.nil_append] <;> omega)) | (refine Ar.fit (wrap_u64 ?_ ?_) ?_; · ((try dsimp only) <;> simp only [List.nil_append] <;> omega); · ((try dsimp only) <;> simp only [List.nil_append] <;> omega))) | (guard_target =~ AskL _ _; first | (refine AskL.mk ?_ ?_; · ((simp only [conj]; repeat' apply And.intro) <;> first | rfl | trivial | omega | (simp only [List.nil_append]; done) | (simp only [List.nil_append] <;> omega) | (simp only [List.nil_append]; refine Bool.eq_iff_iff.2 ?_; simp only [decide_eq_true_eq, Bool.false_eq_true, true_iff, iff_true, false_iff, iff_false, eq_self]; omega) | (simp only [*, List.nil_append]; done))) | refine L1 ?_) | (guard_target =~ Go.Eng.Ask _ _; first | refine K1 ?_ | (refine Ask.mk ?_ ?_; · ((try dsimp only) <;> simp only [List.nil_append] <;> omega))) | (guard_target =~ CallP _ _ _ _ _; first | refine H1 ck fun ck => ?_ | refine H2 ck fun ck => ?_) | (guard_target =~ All' _ _; first | (refine Y2 fun y he he' hy => ?_; (try dsimp only at he he' hy)) | (refine Y1 fun y he hy => ?_; (try with_reducible conv at he => (rhs; whnf)); (try dsimp only at he hy)) | (refine All'.mk ?_; intro y hy)) | refine F4 (fun h => ?_) fun h => ?_ | refine R1 ?_ | refine Q1 ?_ | fail)); all_goals (conv => whnf))

@[reducible] def ribytesC : Ctr := {
  X := Item
  Y := Unit
  args := fun x => [itemA x]
  rw := fun _ => []
  side := fun x => itemB x = true
  val := fun _ => ()
  ens := fun _ _ => True
  res := fun x _ => .v (.string (strOfNums (itemBy x)))
  out := fun x _ => [] }
theorem knownV4 : Known Tryz.prog (gOf [(72, rnumC), (71, rtextC), (73, rclockC)]) :=
  known_cons ⟨rnum_ok, Tryz.call72⟩ (known_cons ⟨rtext_ok, Tryz.call71⟩ (known_cons ⟨rclock_ok, Tryz.call73⟩ (known_nil _)))
theorem text_str (v : List Int) : strOfNums (numL (strOfNums v).size ++ bytesL (strOfNums v)) = strOfNums (numL v.length ++ v) := by
  rw [← str_cat, str_bytesL, str_size, str_cat]
theorem ribytes_ok : ribytesC.ok Tryz.prog 29 := by
  refine ok_of_vc (An := fun _ => anOf []) knownV4 mo Tryz.func29 (by kernel_rfl) (by kernel_rfl) (fun _ _ => trivial) (fun x hs => ?_)
  obtain ⟨key, ⟨m, n⟩, c, b, v⟩ := x
  have hi : itemB (key, (m, n), c, b, v) = true := hs
  obtain ⟨⟨k1, k2⟩, k3, k4, ⟨k5, k6⟩, ⟨k7, k8⟩, k9, k10⟩ := item_ok hi
  clear hs hi
  obtain ⟨m, rfl⟩ := natOf k5
  obtain ⟨n, rfl⟩ := natOf (n := n) (by omega)
  have hw1 : IntKind.u64.wrap ((m : Nat) : Int) = ((m : Nat) : Int) := wrap_u64 (by omega) (by omega)
  have hw2 : IntKind.u64.wrap ((n : Nat) : Int) = ((n : Nat) : Int) := wrap_u64 (by omega) (by omega)
  have hn1 := numL_le (u := m) (by omega)
  have hn2 := numL_le (u := n) (by omega)
  have hn3 := numL_le (u := key.size) (by omega)
  have hn4 := clockBy_le k9 (by omega)
  have hn7 := numL_le (u := v.length) (by omega)
  have ck : Hc rtextC key True := .mk trivial
  ((repeat' ((conv => whnf) <;> first | exact True.intro | (guard_target =~ Fork _ _ _; first | refine F1 ?_ | refine F2 ?_ | (refine Fork.pos ?_ ?_; · (simp only [str_cat, str_size, List.length_append, bytesL_length, Bool.not_true, Bool.not_false, decide_eq_true_eq, beq_iff_eq, bne_iff_ne, ne_eq] <;> omega)) | (refine Fork.neg ?_ ?_; · (simp only [str_cat, str_size, List.length_append, bytesL_length, Bool.not_true, Bool.not_false, decide_eq_false_iff_not, beq_eq_false_iff_ne] <;> omega)) | refine F3 (fun h => ?_) fun h => ?_) | (guard_target =~ Ar _ _ _; first | refine A1 ?_ | refine A2 ?_ | refine A3 ?_ | (refine Ar.fit (wrap_i64 ?_ ?_) ?_; · ((try dsimp only) <;> simp only [str_cat, str_size, List.length_append, bytesL_length] <;> omega); · ((try dsimp only) <;> simp only [str_cat, str_size, List.length_append, bytesL_length] <;> omega)) | (refine Ar.fit (wrap_u64 ?_ ?_) ?_; · ((try dsimp only) <;> simp only [str_cat, str_size, List.length_append, bytesL_length] <;> omega); · ((try dsimp only) <;> simp only [str_cat, str_size, List.length_append, bytesL_length] <;> omega))) | (guard_target =~ AskL _ _; first | (refine AskL.mk ?_ ?_; · ((simp only [conj]; repeat' apply And.intro) <;> first | rfl | trivial | omega | (simp only [str_cat, str_size, List.length_append, bytesL_length]; done) | (simp only [str_cat, str_size, List.length_append, bytesL_length] <;> omega) | (simp only [str_cat, str_size, List.length_append, bytesL_length]; refine Bool.eq_iff_iff.2 ?_; simp only [decide_eq_true_eq, Bool.false_eq_true, true_iff, iff_true, false_iff, iff_false, eq_self]; omega) | (simp only [*, str_cat, str_size, List.length_append, bytesL_length]; done))) | refine L1 ?_) | (guard_target =~ Go.Eng.Ask _ _; first | refine K1 ?_ | (refine Ask.mk ?_ ?_; · ((try dsimp only) <;> simp only [str_cat, str_size, List.length_append, bytesL_length] <;> omega))) | (guard_target =~ CallP _ _ _ _ _; first | refine H1 ck fun ck => ?_ | refine H2 ck fun ck => ?_) | (guard_target =~ All' _ _; first | (refine Y2 fun y he he' hy => ?_; (try dsimp only at he he' hy)) | (refine Y1 fun y he hy => ?_; (try with_reducible conv at he => (rhs; whnf)); (try dsimp only at he hy)) | (refine All'.mk ?_; intro y hy)) | refine F4 (fun h => ?_) fun h => ?_ | refine R1 ?_ | refine Q1 ?_ | fail)); all_goals (conv => whnf))
  clear he
  refine CallP.mk (C := rnumC) m ?_
  ((repeat' ((conv => whnf) <;> first | exact True.intro | (guard_target =~ Fork _ _ _; first | refine F1 ?_ | refine F2 ?_ | (refine Fork.pos ?_ ?_; · (simp only [str_cat, str_size, List.length_append, bytesL_length, Bool.not_true, Bool.not_false, decide_eq_true_eq, beq_iff_eq, bne_iff_ne, ne_eq] <;> omega)) | (refine Fork.neg ?_ ?_; · (simp only [str_cat, str_size, List.length_append, bytesL_length, Bool.not_true, Bool.not_false, decide_eq_false_iff_not, beq_eq_false_iff_ne] <;> omega)) | refine F3 (fun h => ?_) fun h => ?_) | (guard_target =~ Ar _ _ _; first | refine A1 ?_ | refine A2 ?_ | refine A3 ?_ | (refine Ar.fit (wrap_i64 ?_ ?_) ?_; · ((try dsimp only) <;> simp only [str_cat, str_size, List.length_append, bytesL_length] <;> omega); · ((try dsimp only) <;> simp only [str_cat, str_size, List.length_append, bytesL_length] <;> omega)) | (refine Ar.fit (wrap_u64 ?_ ?_) ?_; · ((try dsimp only) <;> simp only [str_cat, str_size, List.length_append, bytesL_length] <;> omega); · ((try dsimp only) <;> simp only [str_cat, str_size, List.length_append, bytesL_length] <;> omega))) | (guard_target =~ AskL _ _; first | (refine AskL.mk ?_ ?_; · ((simp only [conj]; repeat' apply And.intro) <;> first | rfl | trivial | omega | (simp only [str_cat, str_size, List.length_append, bytesL_length]; done) | (simp only [str_cat, str_size, List.length_append, bytesL_length] <;> omega) | (simp only [str_cat, str_size, List.length_append, bytesL_length]; refine Bool.eq_iff_iff.2 ?_; simp only [decide_eq_true_eq, Bool.false_eq_true, true_iff, iff_true, false_iff, iff_false, eq_self]; omega) | (simp only [*, str_cat, str_size, List.length_append, bytesL_length]; done))) | refine L1 ?_) | (guard_target =~ Go.Eng.Ask _ _; first | refine K1 ?_ | (refine Ask.mk ?_ ?_; · ((try dsimp only) <;> simp only [str_cat, str_size, List.length_append, bytesL_length] <;> omega))) | (guard_target =~ CallP _ _ _ _ _; first | refine H1 ck fun ck => ?_ | refine H2 ck fun ck => ?_) | (guard_target =~ All' _ _; first | (refine Y2 fun y he he' hy => ?_; (try dsimp only at he he' hy)) | (refine Y1 fun y he hy => ?_; (try with_reducible conv at he => (rhs; whnf)); (try dsimp only at he hy)) | (refine All'.mk ?_; intro y hy)) | refine F4 (fun h => ?_) fun h => ?_ | refine R1 ?_ | refine Q1 ?_ | fail)); all_goals (conv => whnf))
  clear he
  refine CallP.mk (C := rnumC) n ?_
  ((repeat' ((conv => whnf) <;> first | exact True.intro | (guard_target =~ Fork _ _ _; first | refine F1 ?_ | refine F2 ?_ | (refine Fork.pos ?_ ?_; · (simp only [str_cat, str_size, List.length_append, bytesL_length, Bool.not_true, Bool.not_false, decide_eq_true_eq, beq_iff_eq, bne_iff_ne, ne_eq] <;> omega)) | (refine Fork.neg ?_ ?_; · (simp only [str_cat, str_size, List.length_append, bytesL_length, Bool.not_true, Bool.not_false, decide_eq_false_iff_not, beq_eq_false_iff_ne] <;> omega)) | refine F3 (fun h => ?_) fun h => ?_) | (guard_target =~ Ar _ _ _; first | refine A1 ?_ | refine A2 ?_ | refine A3 ?_ | (refine Ar.fit (wrap_i64 ?_ ?_) ?_; · ((try dsimp only) <;> simp only [str_cat, str_size, List.length_append, bytesL_length] <;> omega); · ((try dsimp only) <;> simp only [str_cat, str_size, List.length_append, bytesL_length] <;> omega)) | (refine Ar.fit (wrap_u64 ?_ ?_) ?_; · ((try dsimp only) <;> simp only [str_cat, str_size, List.length_append, bytesL_length] <;> omega); · ((try dsimp only) <;> simp only [str_cat, str_size, List.length_append, bytesL_length] <;> omega))) | (guard_target =~ AskL _ _; first | (refine AskL.mk ?_ ?_; · ((simp only [conj]; repeat' apply And.intro) <;> first | rfl | trivial | omega | (simp only [str_cat, str_size, List.length_append, bytesL_length]; done) | (simp only [str_cat, str_size, List.length_append, bytesL_length] <;> omega) | (simp only [str_cat, str_size, List.length_append, bytesL_length]; refine Bool.eq_iff_iff.2 ?_; simp only [decide_eq_true_eq, Bool.false_eq_true, true_iff, iff_true, false_iff, iff_false, eq_self]; omega) | (simp only [*, str_cat, str_size, List.length_append, bytesL_length]; done))) | refine L1 ?_) | (guard_target =~ Go.Eng.Ask _ _; first | refine K1 ?_ | (refine Ask.mk ?_ ?_; · ((try dsimp only) <;> simp only [str_cat, str_size, List.length_append, bytesL_length] <;> omega))) | (guard_target =~ CallP _ _ _ _ _; first | refine H1 ck fun ck => ?_ | refine H2 ck fun ck => ?_) | (guard_target =~ All' _ _; first | (refine Y2 fun y he he' hy => ?_; (try dsimp only at he he' hy)) | (refine Y1 fun y he hy => ?_; (try with_reducible conv at he => (rhs; whnf)); (try dsimp only at he hy)) | (refine All'.mk ?_; intro y hy)) | refine F4 (fun h => ?_) fun h => ?_ | refine R1 ?_ | refine Q1 ?_ | fail)); all_goals (conv => whnf))
  clear he
  refine CallP.mk (C := rclockC) c ?_
  ((repeat' ((conv => whnf) <;> first | exact True.intro | (guard_target =~ Fork _ _ _; first | refine F1 ?_ | refine F2 ?_ | (refine Fork.pos ?_ ?_; · (simp only [str_cat, str_size, List.length_append, bytesL_length, Bool.not_true, Bool.not_false, decide_eq_true_eq, beq_iff_eq, bne_iff_ne, ne_eq] <;> omega)) | (refine Fork.neg ?_ ?_; · (simp only [str_cat, str_size, List.length_append, bytesL_length, Bool.not_true, Bool.not_false, decide_eq_false_iff_not, beq_eq_false_iff_ne] <;> omega)) | refine F3 (fun h => ?_) fun h => ?_) | (guard_target =~ Ar _ _ _; first | refine A1 ?_ | refine A2 ?_ | refine A3 ?_ | (refine Ar.fit (wrap_i64 ?_ ?_) ?_; · ((try dsimp only) <;> simp only [str_cat, str_size, List.length_append, bytesL_length] <;> omega); · ((try dsimp only) <;> simp only [str_cat, str_size, List.length_append, bytesL_length] <;> omega)) | (refine Ar.fit (wrap_u64 ?_ ?_) ?_; · ((try dsimp only) <;> simp only [str_cat, str_size, List.length_append, bytesL_length] <;> omega); · ((try dsimp only) <;> simp only [str_cat, str_size, List.length_append, bytesL_length] <;> omega))) | (guard_target =~ AskL _ _; first | (refine AskL.mk ?_ ?_; · ((simp only [conj]; repeat' apply And.intro) <;> first | rfl | trivial | omega | (simp only [str_cat, str_size, List.length_append, bytesL_length]; done) | (simp only [str_cat, str_size, List.length_append, bytesL_length] <;> omega) | (simp only [str_cat, str_size, List.length_append, bytesL_length]; refine Bool.eq_iff_iff.2 ?_; simp only [decide_eq_true_eq, Bool.false_eq_true, true_iff, iff_true, false_iff, iff_false, eq_self]; omega) | (simp only [*, str_cat, str_size, List.length_append, bytesL_length]; done))) | refine L1 ?_) | (guard_target =~ Go.Eng.Ask _ _; first | refine K1 ?_ | (refine Ask.mk ?_ ?_; · ((try dsimp only) <;> simp only [str_cat, str_size, List.length_append, bytesL_length] <;> omega))) | (guard_target =~ CallP _ _ _ _ _; first | refine H1 ck fun ck => ?_ | refine H2 ck fun ck => ?_) | (guard_target =~ All' _ _; first | (refine Y2 fun y he he' hy => ?_; (try dsimp only at he he' hy)) | (refine Y1 fun y he hy => ?_; (try with_reducible conv at he => (rhs; whnf)); (try dsimp only at he hy)) | (refine All'.mk ?_; intro y hy)) | refine F4 (fun h => ?_) fun h => ?_ | refine R1 ?_ | refine Q1 ?_ | fail)); all_goals (conv => whnf))
  refine Ask.mk ⟨k9, Nat.le_trans k10 (by decide)⟩ ?_
  cases b
  · have hz : itemBy (key, (((m : Nat) : Int), ((n : Nat) : Int)), c, false, v) = numL key.size ++ (bytesL key ++ (numL m ++ (numL n ++ (clockBy c ++ (0 :: (numL v.length ++ v)))))) := rfl
    have h0 : (⟨#[0]⟩ : ByteArray) = strOfNums [0] := rfl
    ((repeat' ((conv => whnf) <;> first | exact True.intro | (guard_target =~ Fork _ _ _; first | refine F1 ?_ | refine F2 ?_ | (refine Fork.pos ?_ ?_; · (simp only [text_str, h0, str_cat, str_size, List.length_append, bytesL_length, List.length_singleton, Bool.not_true, Bool.not_false, decide_eq_true_eq, beq_iff_eq, bne_iff_ne, ne_eq] <;> omega)) | (refine Fork.neg ?_ ?_; · (simp only [text_str, h0, str_cat, str_size, List.length_append, bytesL_length, List.length_singleton, Bool.not_true, Bool.not_false, decide_eq_false_iff_not, beq_eq_false_iff_ne] <;> omega)) | refine F3 (fun h => ?_) fun h => ?_) | (guard_target =~ Ar _ _ _; first | refine A1 ?_ | refine A2 ?_ | refine A3 ?_ | (refine Ar.fit (wrap_i64 ?_ ?_) ?_; · ((try dsimp only) <;> simp only [text_str, h0, str_cat, str_size, List.length_append, bytesL_length, List.length_singleton] <;> omega); · ((try dsimp only) <;> simp only [text_str, h0, str_cat, str_size, List.length_append, bytesL_length, List.length_singleton] <;> omega)) | (refine Ar.fit (wrap_u64 ?_ ?_) ?_; · ((try dsimp only) <;> simp only [text_str, h0, str_cat, str_size, List.length_append, bytesL_length, List.length_singleton] <;> omega); · ((try dsimp only) <;> simp only [text_str, h0, str_cat, str_size, List.length_append, bytesL_length, List.length_singleton] <;> omega))) | (guard_target =~ AskL _ _; first | (refine AskL.mk ?_ ?_; · ((simp only [conj]; repeat' apply And.intro) <;> first | rfl | trivial | omega | (simp only [text_str, h0, str_cat, str_size, List.length_append, bytesL_length, List.length_singleton]; done) | (simp only [text_str, h0, str_cat, str_size, List.length_append, bytesL_length, List.length_singleton] <;> omega) | (simp only [text_str, h0, str_cat, str_size, List.length_append, bytesL_length, List.length_singleton]; refine Bool.eq_iff_iff.2 ?_; simp only [decide_eq_true_eq, Bool.false_eq_true, true_iff, iff_true, false_iff, iff_false, eq_self]; omega) | (simp only [*, text_str, h0, str_cat, str_size, List.length_append, bytesL_length, List.length_singleton]; done))) | refine L1 ?_) | (guard_target =~ Go.Eng.Ask _ _; first | refine K1 ?_ | (refine Ask.mk ?_ ?_; · ((try dsimp only) <;> simp only [text_str, h0, str_cat, str_size, List.length_append, bytesL_length, List.length_singleton] <;> omega))) | (guard_target =~ CallP _ _ _ _ _; first | refine H1 ck fun ck => ?_ | refine H2 ck fun ck => ?_) | (guard_target =~ All' _ _; first | (refine Y2 fun y he he' hy => ?_; (try dsimp only at he he' hy)) | (refine Y1 fun y he hy => ?_; (try with_reducible conv at he => (rhs; whnf)); (try dsimp only at he hy)) | (refine All'.mk ?_; intro y hy)) | refine F4 (fun h => ?_) fun h => ?_ | refine R1 ?_ | refine Q1 ?_ | fail)); all_goals (conv => whnf))
    clear he
    refine CallP.mk (C := rtextC) (strOfNums v) ?_
    ((repeat' ((conv => whnf) <;> first | exact True.intro | (guard_target =~ Fork _ _ _; first | refine F1 ?_ | refine F2 ?_ | (refine Fork.pos ?_ ?_; · (simp only [text_str, h0, str_cat, str_size, List.length_append, bytesL_length, List.length_singleton, Bool.not_true, Bool.not_false, decide_eq_true_eq, beq_iff_eq, bne_iff_ne, ne_eq] <;> omega)) | (refine Fork.neg ?_ ?_; · (simp only [text_str, h0, str_cat, str_size, List.length_append, bytesL_length, List.length_singleton, Bool.not_true, Bool.not_false, decide_eq_false_iff_not, beq_eq_false_iff_ne] <;> omega)) | refine F3 (fun h => ?_) fun h => ?_) | (guard_target =~ Ar _ _ _; first | refine A1 ?_ | refine A2 ?_ | refine A3 ?_ | (refine Ar.fit (wrap_i64 ?_ ?_) ?_; · ((try dsimp only) <;> simp only [text_str, h0, str_cat, str_size, List.length_append, bytesL_length, List.length_singleton] <;> omega); · ((try dsimp only) <;> simp only [text_str, h0, str_cat, str_size, List.length_append, bytesL_length, List.length_singleton] <;> omega)) | (refine Ar.fit (wrap_u64 ?_ ?_) ?_; · ((try dsimp only) <;> simp only [text_str, h0, str_cat, str_size, List.length_append, bytesL_length, List.length_singleton] <;> omega); · ((try dsimp only) <;> simp only [text_str, h0, str_cat, str_size, List.length_append, bytesL_length, List.length_singleton] <;> omega))) | (guard_target =~ AskL _ _; first | (refine AskL.mk ?_ ?_; · ((simp only [conj]; repeat' apply And.intro) <;> first | rfl | trivial | omega | (simp only [text_str, h0, str_cat, str_size, List.length_append, bytesL_length, List.length_singleton]; done) | (simp only [text_str, h0, str_cat, str_size, List.length_append, bytesL_length, List.length_singleton] <;> omega) | (simp only [text_str, h0, str_cat, str_size, List.length_append, bytesL_length, List.length_singleton]; refine Bool.eq_iff_iff.2 ?_; simp only [decide_eq_true_eq, Bool.false_eq_true, true_iff, iff_true, false_iff, iff_false, eq_self]; omega) | (simp only [*, text_str, h0, str_cat, str_size, List.length_append, bytesL_length, List.length_singleton]; done))) | refine L1 ?_) | (guard_target =~ Go.Eng.Ask _ _; first | refine K1 ?_ | (refine Ask.mk ?_ ?_; · ((try dsimp only) <;> simp only [text_str, h0, str_cat, str_size, List.length_append, bytesL_length, List.length_singleton] <;> omega))) | (guard_target =~ CallP _ _ _ _ _; first | refine H1 ck fun ck => ?_ | refine H2 ck fun ck => ?_) | (guard_target =~ All' _ _; first | (refine Y2 fun y he he' hy => ?_; (try dsimp only at he he' hy)) | (refine Y1 fun y he hy => ?_; (try with_reducible conv at he => (rhs; whnf)); (try dsimp only at he hy)) | (refine All'.mk ?_; intro y hy)) | refine F4 (fun h => ?_) fun h => ?_ | refine R1 ?_ | refine Q1 ?_ | fail)); all_goals (conv => whnf))
    clear he
    ((repeat' ((conv => whnf) <;> first | exact True.intro | (guard_target =~ Fork _ _ _; first | refine F1 ?_ | refine F2 ?_ | (refine Fork.pos ?_ ?_; · (simp only [hz, text_str, h0, str_cat, List.append_assoc, List.cons_append, List.nil_append, Bool.not_true, Bool.not_false, decide_eq_true_eq, beq_iff_eq, bne_iff_ne, ne_eq] <;> omega)) | (refine Fork.neg ?_ ?_; · (simp only [hz, text_str, h0, str_cat, List.append_assoc, List.cons_append, List.nil_append, Bool.not_true, Bool.not_false, decide_eq_false_iff_not, beq_eq_false_iff_ne] <;> omega)) | refine F3 (fun h => ?_) fun h => ?_) | (guard_target =~ Ar _ _ _; first | refine A1 ?_ | refine A2 ?_ | refine A3 ?_ | (refine Ar.fit (wrap_i64 ?_ ?_) ?_; · ((try dsimp only) <;> simp only [hz, text_str, h0, str_cat, List.append_assoc, List.cons_append, List.nil_append] <;> omega); · ((try dsimp only) <;> simp only [hz, text_str, h0, str_cat, List.append_assoc, List.cons_append, List.nil_append] <;> omega)) | (refine Ar.fit (wrap_u64 ?_ ?_) ?_; · ((try dsimp only) <;> simp only [hz, text_str, h0, str_cat, List.append_assoc, List.cons_append, List.nil_append] <;> omega); · ((try dsimp only) <;> simp only [hz, text_str, h0, str_cat, List.append_assoc, List.cons_append, List.nil_append] <;> omega))) | (guard_target =~ AskL _ _; first | (refine AskL.mk ?_ ?_; · ((simp only [conj]; repeat' apply And.intro) <;> first | rfl | trivial | omega | (simp only [hz, text_str, h0, str_cat, List.append_assoc, List.cons_append, List.nil_append]; done) | (simp only [hz, text_str, h0, str_cat, List.append_assoc, List.cons_append, List.nil_append] <;> omega) | (simp only [hz, text_str, h0, str_cat, List.append_assoc, List.cons_append, List.nil_append]; refine Bool.eq_iff_iff.2 ?_; simp only [decide_eq_true_eq, Bool.false_eq_true, true_iff, iff_true, false_iff, iff_false, eq_self]; omega) | (simp only [*, hz, text_str, h0, str_cat, List.append_assoc, List.cons_append, List.nil_append]; done))) | refine L1 ?_) | (guard_target =~ Go.Eng.Ask _ _; first | refine K1 ?_ | (refine Ask.mk ?_ ?_; · ((try dsimp only) <;> simp only [hz, text_str, h0, str_cat, List.append_assoc, List.cons_append, List.nil_append] <;> omega))) | (guard_target =~ CallP _ _ _ _ _; first | refine H1 ck fun ck => ?_ | refine H2 ck fun ck => ?_) | (guard_target =~ All' _ _; first | (refine Y2 fun y he he' hy => ?_; (try dsimp only at he he' hy)) | (refine Y1 fun y he hy => ?_; (try with_reducible conv at he => (rhs; whnf)); (try dsimp only at he hy)) | (refine All'.mk ?_; intro y hy)) | refine F4 (fun h => ?_) fun h => ?_ | refine R1 ?_ | refine Q1 ?_ | fail)); all_goals (conv => whnf))
  · have hz : itemBy (key, (((m : Nat) : Int), ((n : Nat) : Int)), c, true, v) = numL key.size ++ (bytesL key ++ (numL m ++ (numL n ++ (clockBy c ++ [1])))) := rfl
    have h1 : (⟨#[1]⟩ : ByteArray) = strOfNums [1] := rfl
    ((repeat' ((conv => whnf) <;> first | exact True.intro | (guard_target =~ Fork _ _ _; first | refine F1 ?_ | refine F2 ?_ | (refine Fork.pos ?_ ?_; · (simp only [h1, str_cat, str_size, List.length_append, bytesL_length, List.length_singleton, Bool.not_true, Bool.not_false, decide_eq_true_eq, beq_iff_eq, bne_iff_ne, ne_eq] <;> omega)) | (refine Fork.neg ?_ ?_; · (simp only [h1, str_cat, str_size, List.length_append, bytesL_length, List.length_singleton, Bool.not_true, Bool.not_false, decide_eq_false_iff_not, beq_eq_false_iff_ne] <;> omega)) | refine F3 (fun h => ?_) fun h => ?_) | (guard_target =~ Ar _ _ _; first | refine A1 ?_ | refine A2 ?_ | refine A3 ?_ | (refine Ar.fit (wrap_i64 ?_ ?_) ?_; · ((try dsimp only) <;> simp only [h1, str_cat, str_size, List.length_append, bytesL_length, List.length_singleton] <;> omega); · ((try dsimp only) <;> simp only [h1, str_cat, str_size, List.length_append, bytesL_length, List.length_singleton] <;> omega)) | (refine Ar.fit (wrap_u64 ?_ ?_) ?_; · ((try dsimp only) <;> simp only [h1, str_cat, str_size, List.length_append, bytesL_length, List.length_singleton] <;> omega); · ((try dsimp only) <;> simp only [h1, str_cat, str_size, List.length_append, bytesL_length, List.length_singleton] <;> omega))) | (guard_target =~ AskL _ _; first | (refine AskL.mk ?_ ?_; · ((simp only [conj]; repeat' apply And.intro) <;> first | rfl | trivial | omega | (simp only [h1, str_cat, str_size, List.length_append, bytesL_length, List.length_singleton]; done) | (simp only [h1, str_cat, str_size, List.length_append, bytesL_length, List.length_singleton] <;> omega) | (simp only [h1, str_cat, str_size, List.length_append, bytesL_length, List.length_singleton]; refine Bool.eq_iff_iff.2 ?_; simp only [decide_eq_true_eq, Bool.false_eq_true, true_iff, iff_true, false_iff, iff_false, eq_self]; omega) | (simp only [*, h1, str_cat, str_size, List.length_append, bytesL_length, List.length_singleton]; done))) | refine L1 ?_) | (guard_target =~ Go.Eng.Ask _ _; first | refine K1 ?_ | (refine Ask.mk ?_ ?_; · ((try dsimp only) <;> simp only [h1, str_cat, str_size, List.length_append, bytesL_length, List.length_singleton] <;> omega))) | (guard_target =~ CallP _ _ _ _ _; first | refine H1 ck fun ck => ?_ | refine H2 ck fun ck => ?_) | (guard_target =~ All' _ _; first | (refine Y2 fun y he he' hy => ?_; (try dsimp only at he he' hy)) | (refine Y1 fun y he hy => ?_; (try with_reducible conv at he => (rhs; whnf)); (try dsimp only at he hy)) | (refine All'.mk ?_; intro y hy)) | refine F4 (fun h => ?_) fun h => ?_ | refine R1 ?_ | refine Q1 ?_ | fail)); all_goals (conv => whnf))
    clear he
    ((repeat' ((conv => whnf) <;> first | exact True.intro | (guard_target =~ Fork _ _ _; first | refine F1 ?_ | refine F2 ?_ | (refine Fork.pos ?_ ?_; · (simp only [hz, h1, str_cat, List.append_assoc, List.cons_append, List.nil_append, Bool.not_true, Bool.not_false, decide_eq_true_eq, beq_iff_eq, bne_iff_ne, ne_eq] <;> omega)) | (refine Fork.neg ?_ ?_; · (simp only [hz, h1, str_cat, List.append_assoc, List.cons_append, List.nil_append, Bool.not_true, Bool.not_false, decide_eq_false_iff_not, beq_eq_false_iff_ne] <;> omega)) | refine F3 (fun h => ?_) fun h => ?_) | (guard_target =~ Ar _ _ _; first | refine A1 ?_ | refine A2 ?_ | refine A3 ?_ | (refine Ar.fit (wrap_i64 ?_ ?_) ?_; · ((try dsimp only) <;> simp only [hz, h1, str_cat, List.append_assoc, List.cons_append, List.nil_append] <;> omega); · ((try dsimp only) <;> simp only [hz, h1, str_cat, List.append_assoc, List.cons_append, List.nil_append] <;> omega)) | (refine Ar.fit (wrap_u64 ?_ ?_) ?_; · ((try dsimp only) <;> simp only [hz, h1, str_cat, List.append_assoc, List.cons_append, List.nil_append] <;> omega); · ((try dsimp only) <;> simp only [hz, h1, str_cat, List.append_assoc, List.cons_append, List.nil_append] <;> omega))) | (guard_target =~ AskL _ _; first | (refine AskL.mk ?_ ?_; · ((simp only [conj]; repeat' apply And.intro) <;> first | rfl | trivial | omega | (simp only [hz, h1, str_cat, List.append_assoc, List.cons_append, List.nil_append]; done) | (simp only [hz, h1, str_cat, List.append_assoc, List.cons_append, List.nil_append] <;> omega) | (simp only [hz, h1, str_cat, List.append_assoc, List.cons_append, List.nil_append]; refine Bool.eq_iff_iff.2 ?_; simp only [decide_eq_true_eq, Bool.false_eq_true, true_iff, iff_true, false_iff, iff_false, eq_self]; omega) | (simp only [*, hz, h1, str_cat, List.append_assoc, List.cons_append, List.nil_append]; done))) | refine L1 ?_) | (guard_target =~ Go.Eng.Ask _ _; first | refine K1 ?_ | (refine Ask.mk ?_ ?_; · ((try dsimp only) <;> simp only [hz, h1, str_cat, List.append_assoc, List.cons_append, List.nil_append] <;> omega))) | (guard_target =~ CallP _ _ _ _ _; first | refine H1 ck fun ck => ?_ | refine H2 ck fun ck => ?_) | (guard_target =~ All' _ _; first | (refine Y2 fun y he he' hy => ?_; (try dsimp only at he he' hy)) | (refine Y1 fun y he hy => ?_; (try with_reducible conv at he => (rhs; whnf)); (try dsimp only at he hy)) | (refine All'.mk ?_; intro y hy)) | refine F4 (fun h => ?_) fun h => ?_ | refine R1 ?_ | refine Q1 ?_ | fail)); all_goals (conv => whnf))
end Go.Proofs.YthmbdjhlfieldaaGreatDoor

set_option linter.unusedVariables false
set_option linter.unusedSimpArgs false
set_option maxRecDepth 100000
namespace Go.Proofs.YthmbdjhlfieldaaGreatDoor
open Go.Eng
theorem rdN_runs {c : List Run} (hc : ∀ r, r ∈ c → runP r) (l : List Int) : ∀ n : Nat, n ≤ c.length → rdN ⟨runsBy c ++ l, 0⟩ n = (c.take n, ⟨runsBy (c.drop n) ++ l, 0⟩)
  | 0, _ => rfl
  | n + 1, h => by
    have ih := rdN_runs hc l n (by omega)
    obtain ⟨r, hr⟩ := get_ex (show n < c.length by omega)
    have hd : c.drop n = r :: c.drop (n + 1) := by
      obtain ⟨h5, h6⟩ := List.getElem?_eq_some_iff.1 hr
      rw [List.drop_eq_getElem_cons h5, h6]
    unfold rdN
    rw [ih, hd]
    dsimp only
    rw [show runsBy (r :: c.drop (n + 1)) ++ l = runBy r ++ (runsBy (c.drop (n + 1)) ++ l) from List.append_assoc .., rd1_run (hc r (List.mem_of_getElem? hr))]
    dsimp only
    rw [List.take_add_one, hr]; rfl
theorem get_putS {c : List Run} (h : rightB c = true) (hl : c.length ≤ 1024) (l : List Int) : getS ⟨clockBy c ++ l, 0⟩ = (c, ⟨l, 0⟩) := by
  have hall : ∀ r, r ∈ c → runP r := fun r hr => by
    obtain ⟨i, hi⟩ := List.getElem?_of_mem hr
    exact right_all h hi
  have e1 := eyS_num (u := c.length) (m := 1024) (by omega) (runsBy c ++ l)
  have e0 : clockBy c ++ l = numL c.length ++ (runsBy c ++ l) := List.append_assoc ..
  have e2 : getP ⟨clockBy c ++ l, 0⟩ = (c, ⟨l, 0⟩) := by
    unfold getP getN
    rw [e0, e1]
    dsimp only
    rw [Int.toNat_natCast, rdN_runs hall l c.length (Nat.le_refl _), List.take_length, List.drop_length]; rfl
  unfold getS
  rw [e2]
  dsimp only
  rw [if_pos rfl, if_pos h]
theorem eyT_text {t : List Int} {m : Int} (hm : (t.length : Int) ≤ m) (hl : t.length < 18446744073709551616) (l : List Int) : eyT ⟨numL t.length ++ (t ++ l), 0⟩ m = (t, ⟨l, 0⟩) := by
  have e1 := eyS_num (u := t.length) (m := 18446744073709551615) (by omega) (t ++ l)
  unfold eyT
  rw [e1]
  dsimp only
  rw [if_pos rfl, if_neg (by omega)]
  unfold eyF
  dsimp only
  rw [if_pos rfl, if_neg (by omega), if_neg (by rw [List.length_append]; omega), Int.toNat_natCast, List.take_left' rfl, List.drop_left' rfl]

def zeroI : Item := (⟨#[]⟩, (0, 0), [], false, [])
def giK (x : EyX) : List Int × EyX := eyT x 24
def giM (x : EyX) : Int × EyX := eyS (giK x).2 7
def giN (x : EyX) : Int × EyX := eyS (giM x).2 1099511627776
def giP (x : EyX) : List Run × EyX := getS (giN x).2
def giG (x : EyX) : Int × EyX := eyS (giP x).2 1
def giV (x : EyX) : List Int × EyX := if (giG x).1 = 1 then ([], (giG x).2) else eyT (giG x).2 64
def giI (x : EyX) : Item := (strOfNums (giK x).1, ((giM x).1, (giN x).1), (giP x).1, decide ((giG x).1 = 1), (giV x).1)
def getI (x : EyX) : Item × EyX := if (giV x).2.e = 0 then (if itemB (giI x) then (giI x, (giV x).2) else (zeroI, ⟨[], 11⟩)) else (zeroI, (giV x).2)
theorem gi_put {it : Item} (h : itemB it = true) (l : List Int) : getI ⟨itemBy it ++ l, 0⟩ = (it, ⟨l, 0⟩) := by
  obtain ⟨key, ⟨m, n⟩, c, b, v⟩ := it
  obtain ⟨⟨k1, k2⟩, k3, k4, ⟨k5, k6⟩, ⟨k7, k8⟩, k9, k10⟩ := item_ok h
  have hkl : (bytesL key).length = key.size := bytesL_length key
  have hm : ((m.toNat : Nat) : Int) = m := by omega
  have hn : ((n.toNat : Nat) : Int) = n := by omega
  let tl : List Int := if b then [1] else 0 :: (numL v.length ++ v)
  have e0 : itemBy (key, (m, n), c, b, v) ++ l = numL (bytesL key).length ++ (bytesL key ++ (numL m.toNat ++ (numL n.toNat ++ (clockBy c ++ (tl ++ l))))) := by
    rw [hkl]
    show (numL key.size ++ (bytesL key ++ (numL m.toNat ++ (numL n.toNat ++ (clockBy c ++ tl))))) ++ l = _
    simp only [List.append_assoc]
  have a1 : giK ⟨itemBy (key, (m, n), c, b, v) ++ l, 0⟩ = (bytesL key, ⟨numL m.toNat ++ (numL n.toNat ++ (clockBy c ++ (tl ++ l))), 0⟩) := by
    unfold giK; rw [e0]; exact eyT_text (by omega) (by omega) _
  have a2 : giM ⟨itemBy (key, (m, n), c, b, v) ++ l, 0⟩ = (m, ⟨numL n.toNat ++ (clockBy c ++ (tl ++ l)), 0⟩) := by
    unfold giM; rw [a1]; dsimp only; rw [eyS_num (by omega), hm]
  have a3 : giN ⟨itemBy (key, (m, n), c, b, v) ++ l, 0⟩ = (n, ⟨clockBy c ++ (tl ++ l), 0⟩) := by
    unfold giN; rw [a2]; dsimp only; rw [eyS_num (by omega), hn]
  have a4 : giP ⟨itemBy (key, (m, n), c, b, v) ++ l, 0⟩ = (c, ⟨tl ++ l, 0⟩) := by
    unfold giP; rw [a3]; exact get_putS k9 (by omega) _
  have key2 : giI ⟨itemBy (key, (m, n), c, b, v) ++ l, 0⟩ = (key, (m, n), c, b, v) ∧ (giV ⟨itemBy (key, (m, n), c, b, v) ++ l, 0⟩).2 = ⟨l, 0⟩ := by
    cases b with
    | true =>
      have a5 : giG ⟨itemBy (key, (m, n), c, true, v) ++ l, 0⟩ = (1, ⟨l, 0⟩) := by
        unfold giG; rw [a4]
        show eyS ⟨[1] ++ l, 0⟩ 1 = _
        have := eyS_num (u := 1) (m := 1) (by omega) l
        rw [numL_small (by omega)] at this
        exact this
      have hv : v = [] := List.length_eq_zero_iff.1 (k4 rfl)
      have a6 : giV ⟨itemBy (key, (m, n), c, true, v) ++ l, 0⟩ = ([], ⟨l, 0⟩) := by unfold giV; rw [a5]; exact if_pos rfl
      refine ⟨?_, by rw [a6]⟩
      unfold giI
      rw [a1, a2, a3, a4, a5, a6, hv]
      dsimp only
      rw [str_bytesL]; rfl
    | false =>
      have a5 : giG ⟨itemBy (key, (m, n), c, false, v) ++ l, 0⟩ = (0, ⟨numL v.length ++ (v ++ l), 0⟩) := by
        unfold giG; rw [a4]
        show eyS ⟨(0 :: (numL v.length ++ v)) ++ l, 0⟩ 1 = _
        have := eyS_num (u := 0) (m := 1) (by omega) (numL v.length ++ (v ++ l))
        rw [numL_small (by omega)] at this
        rw [List.cons_append, List.append_assoc]
        exact this
      have a6 : giV ⟨itemBy (key, (m, n), c, false, v) ++ l, 0⟩ = (v, ⟨l, 0⟩) := by
        unfold giV; rw [a5]; dsimp only
        rw [if_neg (by decide)]
        exact eyT_text (by omega) (by omega) _
      refine ⟨?_, by rw [a6]⟩
      unfold giI
      rw [a1, a2, a3, a4, a5, a6]
      dsimp only
      rw [str_bytesL]; rfl
  unfold getI
  rw [key2.1, key2.2]
  dsimp only
  rw [if_pos rfl, if_pos h]
/-- An item's bytes tell which item it is. -/
theorem itemBy_inj {a b : Item} (ha : itemB a = true) (hb : itemB b = true) (h : itemBy a = itemBy b) : a = b := by
  have h1 := gi_put ha []
  have h2 := gi_put hb []
  rw [h, h2] at h1
  exact ((Prod.mk.inj h1).1).symm
theorem getI_okE {x : EyX} (h : okE x) : okE (getI x).2 := by
  have e1 := (eyT_okE h (m := 24) (by omega)).1
  have e2 := (eyS_ok e1 7 (by omega)).1
  have e3 := (eyS_ok e2 1099511627776 (by omega)).1
  have e4 := getS_okE e3
  have e5 := (eyS_ok e4 1 (by omega)).1
  have e6 : okE (giV x).2 := by
    unfold giV
    split
    · exact e5
    · exact (eyT_okE e5 (m := 64) (by omega)).1
  unfold getI
  split
  · split
    · exact e6
    · exact ⟨fun c hc => (nomatch hc), Nat.zero_le _⟩
  · exact e6
/-- What Read answers. -/
def readI (l : List Int) : Item × Int := if (enS (getI ⟨l, 0⟩).2).e = 0 then ((getI ⟨l, 0⟩).1, 0) else (zeroI, (enS (getI ⟨l, 0⟩).2).e)
theorem read_bytes {it : Item} (h : itemB it = true) : readI (itemBy it) = (it, 0) := by
  have h1 := gi_put h []
  rw [List.append_nil] at h1
  unfold readI
  rw [h1]; rfl
end Go.Proofs.YthmbdjhlfieldaaGreatDoor

set_option linter.unusedVariables false
set_option linter.unusedSimpArgs false
set_option maxRecDepth 100000
namespace Go.Proofs.YthmbdjhlfieldaaGreatDoor
open Go.Eng
abbrev Dot := Int × Int
def inR (r : Run) (d : Dot) : Prop := r.1 = d.1 ∧ r.2.1 ≤ d.2 ∧ d.2 ≤ r.2.2
instance (r : Run) (d : Dot) : Decidable (inR r d) := inferInstanceAs (Decidable (_ ∧ _))
def inB (c : List Run) (d : Dot) : Bool := c.any fun r => decide (inR r d)
def inC (c : List Run) (d : Dot) : Prop := ∃ r, r ∈ c ∧ inR r d
theorem inB_iff {c : List Run} {d : Dot} : inB c d = true ↔ inC c d := by
  unfold inB inC; rw [List.any_eq_true]; simp
theorem inC_nil {d : Dot} : ¬ inC [] d := fun ⟨_, h, _⟩ => nomatch h
theorem inC_cons {r : Run} {l : List Run} {d : Dot} : inC (r :: l) d ↔ inR r d ∨ inC l d := by
  unfold inC; simp
def gapP (p r : Run) : Prop := p.1 < r.1 ∨ p.1 = r.1 ∧ p.2.2 + 1 < r.2.1
/-- A right clock. -/
structure Rt (c : List Run) : Prop where
  all : ∀ r, r ∈ c → runP r
  gap : c.Pairwise gapP
theorem gap_trans {a b c : Run} (h1 : gapP a b) (hb : runP b) (h2 : gapP b c) : gapP a c := by
  unfold gapP runP at *; omega
theorem Rt.nil : Rt [] := ⟨fun r h => (nomatch h), .nil⟩
theorem Rt.tail {r : Run} {l : List Run} (h : Rt (r :: l)) : Rt l := ⟨fun x hx => h.all x (List.mem_cons_of_mem _ hx), (List.pairwise_cons.1 h.gap).2⟩
theorem Rt.hd {r : Run} {l : List Run} (h : Rt (r :: l)) : runP r := h.all r (List.mem_cons_self ..)
theorem Rt.gaps {r : Run} {l : List Run} (h : Rt (r :: l)) : ∀ x, x ∈ l → gapP r x := (List.pairwise_cons.1 h.gap).1
theorem Rt.cons {r : Run} {l : List Run} (h : Rt l) (hr : runP r) (hg : ∀ x, x ∈ l → gapP r x) : Rt (r :: l) :=
  ⟨fun x hx => (List.mem_cons.1 hx).elim (fun e => e ▸ hr) (h.all x), List.pairwise_cons.2 ⟨hg, h.gap⟩⟩
theorem right_of : ∀ {c : List Run} {p : Option Run}, rightFrom p c = true → Rt c ∧ ∀ q, p = some q → ∀ r, r ∈ c → gapP q r
  | [], _, _ => ⟨.nil, fun _ _ r h => (nomatch h)⟩
  | r :: l, p, h => by
    simp only [rightFrom, Bool.and_eq_true] at h
    obtain ⟨⟨h1, h2⟩, h3⟩ := h
    have h1 : runP r := of_decide_eq_true h1
    obtain ⟨k1, k2⟩ := right_of h3
    have k2 := k2 r rfl
    refine ⟨k1.cons h1 k2, fun q hq x hx => ?_⟩
    subst hq
    have h2 : nextP q r := of_decide_eq_true h2
    have hg : gapP q r := by unfold nextP at h2; unfold gapP; omega
    rcases List.mem_cons.1 hx with rfl | hx
    · exact hg
    · exact gap_trans hg h1 (k2 x hx)
theorem of_right : ∀ {c : List Run} {p : Option Run}, Rt c → (∀ q, p = some q → ∀ r, r ∈ c → gapP q r) → rightFrom p c = true
  | [], _, _, _ => rfl
  | r :: l, p, h, hp => by
    simp only [rightFrom, Bool.and_eq_true]
    refine ⟨⟨decide_eq_true h.hd, ?_⟩, of_right h.tail (fun q hq x hx => by cases hq; exact h.gaps x hx)⟩
    cases p with
    | none => rfl
    | some q =>
      refine decide_eq_true ?_
      have := hp q rfl r (List.mem_cons_self ..)
      unfold gapP at this
      unfold nextP; omega
theorem right_iff {c : List Run} : rightB c = true ↔ Rt c := ⟨fun h => (right_of h).1, fun h => of_right h (fun q hq => nomatch hq)⟩
/-- Two right clocks of the same dots are the same. -/
theorem clk_uniq : ∀ (a b : List Run), Rt a → Rt b → (∀ d, inC a d ↔ inC b d) → a = b
  | [], [], _, _, _ => rfl
  | [], s :: b, _, hb, h => by
    have := (h (s.1, s.2.1)).2 (inC_cons.2 (.inl ⟨rfl, Int.le_refl _, hb.hd.2.2.2.1⟩))
    exact absurd this inC_nil
  | r :: a, [], ha, _, h => by
    have := (h (r.1, r.2.1)).1 (inC_cons.2 (.inl ⟨rfl, Int.le_refl _, ha.hd.2.2.2.1⟩))
    exact absurd this inC_nil
  | r :: a, s :: b, ha, hb, h => by
    have hr := ha.hd
    have hs := hb.hd
    have e1 : inC (s :: b) (r.1, r.2.1) := (h _).1 (inC_cons.2 (.inl ⟨rfl, Int.le_refl _, hr.2.2.2.1⟩))
    have e2 : inC (r :: a) (s.1, s.2.1) := (h _).2 (inC_cons.2 (.inl ⟨rfl, Int.le_refl _, hs.2.2.2.1⟩))
    have f1 : s.1 < r.1 ∨ s.1 = r.1 ∧ s.2.1 ≤ r.2.1 := by
      rcases inC_cons.1 e1 with h1 | ⟨x, hx, h1⟩
      · unfold inR at h1; dsimp only at h1; omega
      · have := hb.gaps x hx; unfold gapP at this; unfold inR at h1; dsimp only at h1; unfold runP at hs; omega
    have f2 : r.1 < s.1 ∨ r.1 = s.1 ∧ r.2.1 ≤ s.2.1 := by
      rcases inC_cons.1 e2 with h1 | ⟨x, hx, h1⟩
      · unfold inR at h1; dsimp only at h1; omega
      · have := ha.gaps x hx; unfold gapP at this; unfold inR at h1; dsimp only at h1; unfold runP at hr; omega
    have g1 : r.1 = s.1 ∧ r.2.1 = s.2.1 := by omega
    have half : ∀ (r s : Run) (a : List Run), Rt (r :: a) → r.1 = s.1 → r.2.1 = s.2.1 → runP r → (∀ d, inR s d → inC (r :: a) d) → s.2.2 ≤ r.2.2 := fun r s a ha e1 e2 hr hh => by
      by_cases hlt : r.2.2 < s.2.2
      · have : inC (r :: a) (r.1, r.2.2 + 1) := hh _ ⟨e1.symm, by dsimp only; unfold runP at hr; omega, by dsimp only; omega⟩
        rcases inC_cons.1 this with h1 | ⟨x, hx, h1⟩
        · unfold inR at h1; dsimp only at h1; omega
        · have := ha.gaps x hx; unfold gapP at this; unfold inR at h1; dsimp only at h1; omega
      · omega
    have t1 := half r s a ha g1.1 g1.2 hr (fun d hd => (h d).2 (inC_cons.2 (.inl hd)))
    have t2 := half s r b hb g1.1.symm g1.2.symm hs (fun d hd => (h d).1 (inC_cons.2 (.inl hd)))
    obtain rfl : r = s := Prod.ext g1.1 (Prod.ext g1.2 (by omega))
    have dis : ∀ (a : List Run), Rt (r :: a) → ∀ d, inR r d → ¬ inC a d := fun a ha d hd ⟨x, hx, h1⟩ => by
      have := ha.gaps x hx; unfold gapP at this; unfold inR at h1 hd; omega
    rw [clk_uniq a b ha.tail hb.tail (fun d => ⟨fun hd => ((inC_cons.1 ((h d).1 (inC_cons.2 (.inr hd)))).resolve_left (fun hh => dis a ha d hh hd)),
      fun hd => ((inC_cons.1 ((h d).2 (inC_cons.2 (.inr hd)))).resolve_left (fun hh => dis b hb d hh hd))⟩)]

def tchP (x r : Run) : Prop := x.1 = r.1 ∧ x.2.1 ≤ r.2.2 + 1 ∧ r.2.1 ≤ x.2.2 + 1
instance (x r : Run) : Decidable (tchP x r) := inferInstanceAs (Decidable (_ ∧ _))
def befP (r x : Run) : Prop := r.1 < x.1 ∨ x.1 = r.1 ∧ r.2.2 < x.2.1
instance (x r : Run) : Decidable (befP x r) := inferInstanceAs (Decidable (_ ∨ _))
def hull (x r : Run) : Run := (r.1, min x.2.1 r.2.1, max x.2.2 r.2.2)
def addF : Run → Bool → List Run → List Run
  | r, d, [] => if d then [] else [r]
  | r, d, x :: l => if tchP x r then addF (hull x r) d l else if d = false ∧ befP r x then r :: x :: addF r true l else x :: addF r d l
theorem add_done {r : Run} : ∀ {l : List Run}, (∀ x, x ∈ l → gapP r x) → addF r true l = l
  | [], _ => rfl
  | x :: l, h => by
    have h1 := h x (List.mem_cons_self ..)
    have h2 : ¬ tchP x r := by unfold gapP at h1; unfold tchP; omega
    unfold addF
    rw [if_neg h2, if_neg (by simp), add_done (fun y hy => h y (List.mem_cons_of_mem _ hy))]
theorem add_ok : ∀ (l : List Run) (r : Run), Rt l → runP r → Rt (addF r false l) ∧ (∀ d, inC (addF r false l) d ↔ inR r d ∨ inC l d) ∧ ∀ q, gapP q r → (∀ x, x ∈ l → gapP q x) → ∀ y, y ∈ addF r false l → gapP q y
  | [], r, _, hr => by
    refine ⟨Rt.nil.cons hr (fun x h => nomatch h), fun d => ?_, fun q hq _ y hy => ?_⟩
    · show inC [r] d ↔ _
      rw [inC_cons]
    · rcases List.mem_singleton.1 hy with rfl; exact hq
  | x :: l, r, h, hr => by
    have hx := h.hd
    unfold addF
    by_cases ht : tchP x r
    · rw [if_pos ht]
      have hh : runP (hull x r) := by unfold runP hull at *; unfold tchP at ht; dsimp only; omega
      obtain ⟨k1, k2, k3⟩ := add_ok l (hull x r) h.tail hh
      refine ⟨k1, fun d => ?_, fun q hq hqx => k3 q ?_ (fun y hy => hqx y (List.mem_cons_of_mem _ hy))⟩
      · rw [k2, inC_cons, ← or_assoc]
        refine or_congr ?_ Iff.rfl
        unfold tchP at ht; unfold runP at hx hr; unfold inR hull; dsimp only; omega
      · have := hqx x (List.mem_cons_self ..)
        unfold gapP hull at *; unfold tchP at ht; dsimp only; omega
    · rw [if_neg ht]
      by_cases hb : befP r x
      · rw [if_pos ⟨rfl, hb⟩]
        have hg : gapP r x := by unfold tchP at ht; unfold befP at hb; unfold gapP; unfold runP at hx hr; omega
        have hgl : ∀ y, y ∈ x :: l → gapP r y := fun y hy => by
          rcases List.mem_cons.1 hy with rfl | hy
          · exact hg
          · exact gap_trans hg hx (h.gaps y hy)
        rw [add_done (fun y hy => hgl y (List.mem_cons_of_mem _ hy))]
        refine ⟨h.cons hr hgl, fun d => inC_cons, fun q hq hqx y hy => ?_⟩
        rcases List.mem_cons.1 hy with rfl | hy
        · exact hq
        · exact hqx y hy
      · rw [if_neg (fun hh => hb hh.2)]
        have hg : gapP x r := by unfold tchP at ht; unfold befP at hb; unfold gapP; unfold runP at hx hr; omega
        obtain ⟨k1, k2, k3⟩ := add_ok l r h.tail hr
        refine ⟨k1.cons hx (k3 x hg h.gaps), fun d => ?_, fun q hq hqx y hy => ?_⟩
        · rw [inC_cons, inC_cons, k2]
          constructor
          · rintro (h | h | h)
            · exact .inr (.inl h)
            · exact .inl h
            · exact .inr (.inr h)
          · rintro (h | h | h)
            · exact .inr (.inl h)
            · exact .inl h
            · exact .inr (.inr h)
        · rcases List.mem_cons.1 hy with rfl | hy
          · exact hqx y (List.mem_cons_self ..)
          · exact k3 q hq (fun z hz => hqx z (List.mem_cons_of_mem _ hz)) y hy
def joinL (a b : List Run) : List Run := b.foldl (fun c r => addF r false c) a
theorem join_ok : ∀ (b a : List Run), Rt a → (∀ r, r ∈ b → runP r) → Rt (joinL a b) ∧ ∀ d, inC (joinL a b) d ↔ inC a d ∨ inC b d
  | [], a, ha, _ => ⟨ha, fun d => ⟨.inl, fun h => h.resolve_right inC_nil⟩⟩
  | r :: b, a, ha, hb => by
    obtain ⟨k1, k2, _⟩ := add_ok a r ha (hb r (List.mem_cons_self ..))
    obtain ⟨j1, j2⟩ := join_ok b (addF r false a) k1 (fun x hx => hb x (List.mem_cons_of_mem _ hx))
    refine ⟨j1, fun d => ?_⟩
    show inC (joinL (addF r false a) b) d ↔ _
    rw [j2, k2, inC_cons]
    constructor
    · rintro ((h | h) | h)
      · exact .inr (.inl h)
      · exact .inl h
      · exact .inr (.inr h)
    · rintro (h | h | h)
      · exact .inl (.inr h)
      · exact .inl (.inl h)
      · exact .inr h

def belowB (a b : List Run) : Bool := a.all fun r => b.any fun x => decide (x.1 = r.1 ∧ x.2.1 ≤ r.2.1 ∧ r.2.2 ≤ x.2.2)
theorem mem_gap {c : List Run} (h : Rt c) {x y : Run} (hx : x ∈ c) (hy : y ∈ c) : x = y ∨ gapP x y ∨ gapP y x := by
  induction c with
  | nil => exact nomatch hx
  | cons r l ih =>
    rcases List.mem_cons.1 hx with e1 | h1 <;> rcases List.mem_cons.1 hy with e2 | h2
    · exact .inl (e1.trans e2.symm)
    · exact .inr (.inl (e1 ▸ h.gaps y h2))
    · exact .inr (.inr (e2 ▸ h.gaps x h1))
    · exact ih h.tail h1 h2
theorem below_iff {a b : List Run} (ha : Rt a) (hb : Rt b) : belowB a b = true ↔ ∀ d, inC a d → inC b d := by
  unfold belowB
  simp only [List.all_eq_true, List.any_eq_true, decide_eq_true_eq]
  constructor
  · rintro h d ⟨r, hr, hd⟩
    obtain ⟨x, hx, h1⟩ := h r hr
    exact ⟨x, hx, by unfold inR at *; omega⟩
  · intro h r hr
    have hrr := ha.all r hr
    obtain ⟨x, hx, h1⟩ := h (r.1, r.2.1) ⟨r, hr, rfl, Int.le_refl _, hrr.2.2.2.1⟩
    refine ⟨x, hx, ?_⟩
    unfold inR at h1; dsimp only at h1
    by_cases hlt : x.2.2 < r.2.2
    · exfalso
      obtain ⟨y, hy, h2⟩ := h (r.1, x.2.2 + 1) ⟨r, hr, rfl, by dsimp only; omega, by dsimp only; omega⟩
      have hyy := hb.all y hy
      have hxx := hb.all x hx
      unfold inR at h2; dsimp only at h2
      rcases mem_gap hb hx hy with rfl | h3 | h3
      · omega
      · unfold gapP at h3; omega
      · unfold gapP at h3; unfold runP at hyy hxx; omega
    · omega
end Go.Proofs.YthmbdjhlfieldaaGreatDoor

set_option linter.unusedVariables false
set_option linter.unusedSimpArgs false
set_option maxRecDepth 100000
set_option maxHeartbeats 4000000
namespace Go.Proofs.YthmbdjhlfieldaaGreatDoor
open Go.Eng
variable [DM]
set_option linter.unusedSectionVars false
@[reducible] def cloneCRu : Ctr := {
  X := List Run
  Y := Unit
  args := fun x => [.ro true runT x]
  rw := fun _ => []
  side := fun x => x.length ≤ 274877906944
  val := fun _ => ()
  ens := fun _ _ => True
  res := fun _ _ => .sl 1000
  out := fun x _ => [(1000, .row 47 runT x)] }
theorem clone_okRu : cloneCRu.ok Tryz.prog 62 := by
  refine ok_of_vc (An := fun _ => anOf []) (known_nil _) mo Tryz.func62 (by kernel_rfl) (by kernel_rfl) (fun _ _ => trivial) (fun (x : List Run) hs => ?_)
  have hs : x.length ≤ 274877906944 := hs
  exact G1
@[reducible] def equalCRu : Ctr := {
  X := List Run × List Run
  Y := Unit
  args := fun x => [.ro true runT x.1, .ro true runT x.2]
  rw := fun _ => []
  side := fun x => x.1.length ≤ 9223372036854775807
  val := fun _ => ()
  ens := fun _ _ => True
  res := fun x _ => .v (.bool (decide (x.1 = x.2)))
  out := fun _ _ => [] }
@[reducible] def equalLRu (x : List Run × List Run) : LA := {
  X := Nat
  pre := fun i => i ≤ x.1.length ∧ x.1.length = x.2.length ∧ ∀ j, j < i → x.1[j]? = x.2[j]?
  mu := fun i => x.1.length - i
  T := fun i => [(0, .ro true runT x.1), (1, .ro true runT x.2), (12, .v (.int .i64 x.1.length)), (13, .v (.int .i64 (i : Nat)))]
  M := fun _ => [] }
theorem equal_okRu : equalCRu.ok Tryz.prog 93 := by
  refine ok_of_vc (An := fun (x : List Run × List Run) => anOf [(0, .loop (equalLRu x))]) (known_nil _) mo Tryz.func93 (by kernel_rfl) (by kernel_rfl) (fun _ _ => trivial) (fun x hs => ?_)
  obtain ⟨a, b⟩ := x
  have hs : a.length ≤ 9223372036854775807 := hs
  by_cases hl : a.length = b.length
  · (refine Z ?_; repeat' (first | exact .intro | ((first | refine B1 (fun h => ?_) fun h => ?_ | refine B2 fun y he he' hy => ?_ | refine B3 fun y he hy => ?_ | refine B4 fun y hy => ?_ | refine B5 fun ck => ?_ | fail) <;> refine Z ?_)))
    refine Some'.mk (0 : Nat) ?_
    (refine Z ?_; repeat' (first | exact .intro | ((first | refine B1 (fun h => ?_) fun h => ?_ | refine B2 fun y he he' hy => ?_ | refine B3 fun y he hy => ?_ | refine B4 fun y hy => ?_ | refine B5 fun ck => ?_ | fail) <;> refine Z ?_)))
    refine Ask.mk ⟨Nat.zero_le _, hl, fun j hj => absurd hj (Nat.not_lt_zero _)⟩ ?_
    refine AllI.mk ?_
    rintro (i : Nat) ⟨h1, h2, h3⟩
    have h1 : i ≤ a.length := h1
    have h2 : a.length = b.length := h2
    have h3 : ∀ j, j < i → a[j]? = b[j]? := h3
    by_cases hi : i = a.length
    · subst hi
      have k1 : decide (a = b) = true := decide_eq_true (List.ext_getElem? fun j => by
        by_cases hj : j < a.length
        · exact h3 j hj
        · rw [List.getElem?_eq_none (by omega), List.getElem?_eq_none (by omega)])
      exact G1
    · obtain ⟨x, hx⟩ : ∃ x, a[i]? = some x := ⟨_, List.getElem?_eq_getElem (by omega)⟩
      obtain ⟨y, hy⟩ : ∃ y, b[i]? = some y := ⟨_, List.getElem?_eq_getElem (by omega)⟩
      (refine Zm ?_; repeat' (first | exact .intro | ((first | refine B1 (fun h => ?_) fun h => ?_ | refine B2 fun y he he' hy => ?_ | refine B3 fun y he hy => ?_ | refine B4 fun y hy => ?_ | refine B5 fun ck => ?_ | fail) <;> refine Zm ?_)))
      refine All'.mk ?_; rintro (x' : Run) hx'
      obtain rfl : x = x' := Option.some.inj (hx.symm.trans hx')
      (refine Zm ?_; repeat' (first | exact .intro | ((first | refine B1 (fun h => ?_) fun h => ?_ | refine B2 fun y he he' hy => ?_ | refine B3 fun y he hy => ?_ | refine B4 fun y hy => ?_ | refine B5 fun ck => ?_ | fail) <;> refine Zm ?_)))
      refine All'.mk ?_; rintro (y' : Run) hy'
      obtain rfl : y = y' := Option.some.inj (hy.symm.trans hy')
      clear hx' hy'
      by_cases hxy : x = y
      · subst hxy
        have k2 : (x.1 == x.1) = true := beq_self_eq_true _
        have k3 : (x.2.1 == x.2.1) = true := beq_self_eq_true _
        have k4 : (x.2.2 == x.2.2) = true := beq_self_eq_true _
        have hk : (x.1 == x.1 && (x.2.1 == x.2.1 && x.2.2 == x.2.2)) = true := by simp
        have lm := hk
        (refine Z ?_; repeat' (first | exact .intro | ((first | refine B1 (fun h => ?_) fun h => ?_ | refine B2 fun y he he' hy => ?_ | refine B3 fun y he hy => ?_ | refine B4 fun y hy => ?_ | refine B5 fun ck => ?_ | fail) <;> refine Z ?_)))
        refine Some'.mk (i + 1 : Nat) ?_
        (refine Z ?_; repeat' (first | exact .intro | ((first | refine B1 (fun h => ?_) fun h => ?_ | refine B2 fun y he he' hy => ?_ | refine B3 fun y he hy => ?_ | refine B4 fun y hy => ?_ | refine B5 fun ck => ?_ | fail) <;> refine Z ?_)))
        refine Ask.mk ⟨by show i + 1 ≤ a.length; omega, h2, fun j hj => ?_⟩ ?_
        · show a[j]? = b[j]?
          by_cases hji : j = i
          · subst hji; rw [hx, hy]
          · exact h3 j (by omega)
        exact G1
      · have hk : (x.1 == y.1 && (x.2.1 == y.2.1 && x.2.2 == y.2.2)) = false := by
          cases hh : (x.1 == y.1 && (x.2.1 == y.2.1 && x.2.2 == y.2.2)) with
          | false => rfl
          | true =>
            simp only [Bool.and_eq_true, beq_iff_eq] at hh
            exact absurd (Prod.ext hh.1 (Prod.ext hh.2.1 hh.2.2)) hxy
        have k1 : decide (a = b) = false := decide_eq_false (fun h => hxy (Option.some.inj (hx.symm.trans (by rw [h]; exact hy))))
        have lm := hk
        exact G1
  · have k1 : decide (a = b) = false := decide_eq_false (fun h => hl (by rw [h]))
    exact G1
end Go.Proofs.YthmbdjhlfieldaaGreatDoor

set_option linter.unusedVariables false
set_option linter.unusedSimpArgs false
set_option maxRecDepth 100000
set_option maxHeartbeats 4000000
namespace Go.Proofs.YthmbdjhlfieldaaGreatDoor
open Go.Eng
variable [DM]
set_option linter.unusedSectionVars false
abbrev dotS (d : Dot) : List SV := [.v (.int .i64 d.1), .v (.int .i64 d.2)]
abbrev runS (r : Run) : List SV := [.v (.int .i64 r.1), .v (.int .i64 r.2.1), .v (.int .i64 r.2.2)]
@[reducible] def capAm (d : Dot) : List SV := [.rop true (dotS d) 0]
def predAm (d : Dot) (r : Run) : Bool := decide (inR r d)
def goodAny (_ : Run) : Prop := True
@[reducible] def clAmC : Ctr := {
  X := Dot × Run
  Y := Unit
  args := fun x => .agg (runS x.2) :: capAm x.1
  rw := fun _ => []
  side := fun x => goodAny x.2
  val := fun _ => ()
  ens := fun _ _ => True
  res := fun x _ => .v (.bool (predAm x.1 x.2))
  out := fun _ _ => [] }
theorem clAm_ok : clAmC.ok Tryz.prog 118 := by
  refine ok_of_vc (An := fun _ => anOf []) (known_nil _) mo Tryz.func118 (by kernel_rfl) (by kernel_rfl) (fun _ _ => trivial) (fun x hs => ?_)
  obtain ⟨⟨a, n⟩, ⟨m, f, t⟩⟩ := x
  (refine Zm ?_; repeat' (first | exact .intro | ((first | refine B1 (fun h => ?_) fun h => ?_ | refine B2 fun y he he' hy => ?_ | refine B3 fun y he hy => ?_ | refine B4 fun y hy => ?_ | refine B5 fun ck => ?_ | fail) <;> refine Zm ?_)))
  all_goals
    refine AskL.mk ?_ trivial
    dsimp only [conj]
    first
      | exact (decide_eq_true (show inR (m, f, t) (a, n) from ⟨by dsimp only; omega, by dsimp only; omega, by dsimp only; omega⟩)).symm
      | exact (decide_eq_false (fun (hh : inR (m, f, t) (a, n)) => by unfold inR at hh; dsimp only at hh; omega)).symm
      | (refine decide_eq_decide.2 ?_; unfold inR; dsimp only; omega)
theorem knownClAm : Known Tryz.prog (gOf [(118, clAmC)]) := known_cons ⟨clAm_ok, Tryz.call118⟩ (known_nil _)
@[reducible] def idxAmC : Ctr := {
  X := List Run × Dot
  Y := Unit
  args := fun x => [.ro true runT x.1, .func (.func 118) [] (capAm x.2)]
  rw := fun _ => []
  side := fun x => (∀ e, e ∈ x.1 → goodAny e) ∧ x.1.length ≤ 274877906944
  val := fun _ => ()
  ens := fun _ _ => True
  res := fun x _ => .v (.int .i64 (idxP (predAm x.2) x.1))
  out := fun _ _ => [] }
@[reducible] def idxAmL (x : List Run × Dot) : LA := {
  X := Nat
  pre := fun i => i ≤ x.1.length ∧ ∀ (j : Nat), j < i → ∀ e, x.1[j]? = some e → predAm x.2 e = false
  mu := fun i => x.1.length - i
  T := fun i => [(0, .ro true runT x.1), (1, .func (.func 118) [] (capAm x.2)), (7, .v (.int .i64 x.1.length)), (8, .v (.int .i64 (i : Nat)))]
  M := fun _ => [] }
theorem idxAm_ok : idxAmC.ok Tryz.prog 136 := by
  refine ok_of_vc (An := fun (x : List Run × Dot) => anOf [(0, .loop (idxAmL x))]) knownClAm mo Tryz.func136 (by kernel_rfl) (by kernel_rfl) (fun _ _ => trivial) (fun x hs => ?_)
  obtain ⟨l, k⟩ := x
  obtain ⟨hg, hlen⟩ := hs
  have hg : ∀ e, e ∈ l → goodAny e := hg
  have hlen : l.length ≤ 274877906944 := hlen
  (refine Z ?_; repeat' (first | exact .intro | ((first | refine B1 (fun h => ?_) fun h => ?_ | refine B2 fun y he he' hy => ?_ | refine B3 fun y he hy => ?_ | refine B4 fun y hy => ?_ | refine B5 fun ck => ?_ | fail) <;> refine Z ?_)))
  refine Some'.mk (0 : Nat) ?_
  (refine Z ?_; repeat' (first | exact .intro | ((first | refine B1 (fun h => ?_) fun h => ?_ | refine B2 fun y he he' hy => ?_ | refine B3 fun y he hy => ?_ | refine B4 fun y hy => ?_ | refine B5 fun ck => ?_ | fail) <;> refine Z ?_)))
  refine Ask.mk ⟨Nat.zero_le _, fun j hj => absurd hj (Nat.not_lt_zero _)⟩ ?_
  (refine Z ?_; repeat' (first | exact .intro | ((first | refine B1 (fun h => ?_) fun h => ?_ | refine B2 fun y he he' hy => ?_ | refine B3 fun y he hy => ?_ | refine B4 fun y hy => ?_ | refine B5 fun ck => ?_ | fail) <;> refine Z ?_)))
  refine AllI.mk ?_
  rintro (i : Nat) ⟨h1, h2⟩
  have h1 : i ≤ l.length := h1
  have h2 : ∀ (j : Nat), j < i → ∀ e, l[j]? = some e → predAm k e = false := h2
  by_cases hi : i = l.length
  · subst hi
    have e : idxP (predAm k) l = -1 := idxP_none (fun j e he => h2 j (List.getElem?_eq_some_iff.1 he).1 e he)
    exact G1
  · obtain ⟨e, he⟩ : ∃ e, l[i]? = some e := ⟨_, List.getElem?_eq_getElem (by omega)⟩
    have hge := hg e (List.mem_of_getElem? he)
    (refine Zm ?_; repeat' (first | exact .intro | ((first | refine B1 (fun h => ?_) fun h => ?_ | refine B2 fun y he he' hy => ?_ | refine B3 fun y he hy => ?_ | refine B4 fun y hy => ?_ | refine B5 fun ck => ?_ | fail) <;> refine Zm ?_)))
    refine All'.mk ?_; rintro (e' : Run) he'
    obtain rfl : e = e' := Option.some.inj (he.symm.trans he')
    clear he'
    cases hp : predAm k e with
    | true =>
      have hidx : idxP (predAm k) l = (i : Nat) := idxP_at he hp h2
      (refine Z ?_; repeat' (first | exact .intro | ((first | refine B1 (fun h => ?_) fun h => ?_ | refine B2 fun y he he' hy => ?_ | refine B3 fun y he hy => ?_ | refine B4 fun y hy => ?_ | refine B5 fun ck => ?_ | fail) <;> refine Z ?_)))
      refine CallP.mk (C := clAmC) (k, e) ?_
      have lm := hp
      exact G1
    | false =>
      (refine Z ?_; repeat' (first | exact .intro | ((first | refine B1 (fun h => ?_) fun h => ?_ | refine B2 fun y he he' hy => ?_ | refine B3 fun y he hy => ?_ | refine B4 fun y hy => ?_ | refine B5 fun ck => ?_ | fail) <;> refine Z ?_)))
      refine CallP.mk (C := clAmC) (k, e) ?_
      have lm := hp
      (refine Z ?_; repeat' (first | exact .intro | ((first | refine B1 (fun h => ?_) fun h => ?_ | refine B2 fun y he he' hy => ?_ | refine B3 fun y he hy => ?_ | refine B4 fun y hy => ?_ | refine B5 fun ck => ?_ | fail) <;> refine Z ?_)))
      refine Some'.mk (i + 1 : Nat) ?_
      (refine Z ?_; repeat' (first | exact .intro | ((first | refine B1 (fun h => ?_) fun h => ?_ | refine B2 fun y he he' hy => ?_ | refine B3 fun y he hy => ?_ | refine B4 fun y hy => ?_ | refine B5 fun ck => ?_ | fail) <;> refine Z ?_)))
      refine Ask.mk ⟨by show i + 1 ≤ l.length; omega, fun j hj e2 he2 => ?_⟩ ?_
      · by_cases hji : j = i
        · subst hji
          obtain rfl : e = e2 := Option.some.inj (he.symm.trans he2)
          exact hp
        · exact h2 j (by omega) e2 he2
      exact G1
theorem knownIdxAm : Known Tryz.prog (gOf [(136, idxAmC), (118, clAmC)]) := known_cons ⟨idxAm_ok, Tryz.call136⟩ knownClAm
@[reducible] def hasAmC : Ctr := {
  X := List Run × Dot
  Y := Unit
  args := fun x => [.ro true runT x.1, .func (.func 118) [] (capAm x.2)]
  rw := fun _ => []
  side := fun x => (∀ e, e ∈ x.1 → goodAny e) ∧ x.1.length ≤ 274877906944
  val := fun _ => ()
  ens := fun _ _ => True
  res := fun x _ => .v (.bool (x.1.any (predAm x.2)))
  out := fun _ _ => [] }
theorem hasAm_ok : hasAmC.ok Tryz.prog 117 := by
  refine ok_of_vc (An := fun _ => anOf []) knownIdxAm mo Tryz.func117 (by kernel_rfl) (by kernel_rfl) (fun _ _ => trivial) (fun x hs => ?_)
  obtain ⟨l, k⟩ := x
  have ha := idxP_any (predAm k) l
  have ck : Hc idxAmC (l, k) True := .mk trivial
  exact G1
end Go.Proofs.YthmbdjhlfieldaaGreatDoor

set_option linter.unusedVariables false
set_option linter.unusedSimpArgs false
set_option maxRecDepth 100000
set_option maxHeartbeats 4000000
namespace Go.Proofs.YthmbdjhlfieldaaGreatDoor
open Go.Eng
variable [DM]
set_option linter.unusedSectionVars false
@[reducible] def damongC : Ctr := {
  X := List Run × Dot
  Y := Unit
  args := fun x => [.ro true runT x.1, .agg (dotS x.2)]
  rw := fun _ => []
  side := fun x => x.1.length ≤ 274877906944
  val := fun _ => ()
  ens := fun _ _ => True
  res := fun x _ => .v (.bool (inB x.1 x.2))
  out := fun _ _ => [] }
theorem knownE1 : Known Tryz.prog (gOf [(117, hasAmC)]) := known_cons ⟨hasAm_ok, Tryz.call117⟩ (known_nil _)
theorem damong_ok : damongC.ok Tryz.prog 95 := by
  refine ok_of_vc (An := fun _ => anOf []) knownE1 mo Tryz.func95 (by kernel_rfl) (by kernel_rfl) (fun _ _ => trivial) (fun x hs => ?_)
  obtain ⟨c, d⟩ := x
  have hs : c.length ≤ 274877906944 := hs
  have hg : ∀ e, e ∈ c → goodAny e := fun _ _ => trivial
  have hi : inB c d = c.any (predAm d) := rfl
  have ck : Hc hasAmC (c, d) True := .mk trivial
  exact G1
def hasB (c : List Run) (d : Dot) : Bool := rightB c && goodB d && inB c d
@[reducible] def dhasC : Ctr := {
  X := List Run × Dot
  Y := Unit
  args := fun x => [.ro true runT x.1, .agg (dotS x.2)]
  rw := fun _ => []
  side := fun x => x.1.length ≤ 274877906944
  val := fun _ => ()
  ens := fun _ _ => True
  res := fun x _ => .v (.bool (hasB x.1 x.2))
  out := fun _ _ => [] }
theorem knownE2 : Known Tryz.prog (gOf [(51, drightC), (50, dgoodC), (95, damongC)]) :=
  known_cons ⟨dright_ok, Tryz.call51⟩ (known_cons ⟨dgood_ok, Tryz.call50⟩ (known_cons ⟨damong_ok, Tryz.call95⟩ (known_nil _)))
theorem dhas_ok : dhasC.ok Tryz.prog 54 := by
  refine ok_of_vc (An := fun _ => anOf []) knownE2 mo Tryz.func54 (by kernel_rfl) (by kernel_rfl) (fun _ _ => trivial) (fun x hs => ?_)
  obtain ⟨c, d⟩ := x
  have hs : c.length ≤ 274877906944 := hs
  have hh : hasB c d = (rightB c && goodB d && inB c d) := rfl
  cases h1 : rightB c with
  | false =>
    rw [h1, Bool.false_and, Bool.false_and] at hh
    have lm := h1
    have ck : Hc drightC c True := .mk trivial
    exact G1
  | true =>
    cases h2 : goodB d with
    | false =>
      rw [h1, h2, Bool.true_and, Bool.false_and] at hh
      have lm := And.intro h1 h2
      have ck : Hc drightC c (Hc dgoodC d True) := .mk (.mk trivial)
      exact G1
    | true =>
      rw [h1, h2, Bool.true_and, Bool.true_and] at hh
      have lm := And.intro h1 h2
      have ck : Hc drightC c (Hc dgoodC d (Hc damongC (c, d) True)) := .mk (.mk (.mk trivial))
      exact G1
@[reducible] def rdhasL (x : List Run × Dot) : LA := {
  X := Nat
  pre := fun i => i ≤ x.1.length ∧ ∀ r, r ∈ x.1.take i → ¬ inR r x.2
  mu := fun i => x.1.length - i
  T := fun i => [(0, .ro true runT x.1), (3, .ptr 3 0), (7, .ro true runT x.1), (8, .v (.int .i64 x.1.length)), (9, .v (.int .i64 (i : Nat)))]
  M := fun _ => [(3, .cells 23 (dotS x.2))] }
theorem knownE3 : Known Tryz.prog (gOf [(60, drightC), (59, dgoodC)]) :=
  known_cons ⟨rdright_ok, Tryz.call60⟩ (known_cons ⟨rgood_ok, Tryz.call59⟩ (known_nil _))
theorem rdhas_ok : dhasC.ok Tryz.prog 64 := by
  refine ok_of_vc (An := fun x => anOf [(0, .loop (rdhasL x))]) knownE3 mo Tryz.func64 (by kernel_rfl) (by kernel_rfl) (fun _ _ => trivial) (fun x hs => ?_)
  obtain ⟨c, ⟨a, n⟩⟩ := x
  have hs : c.length ≤ 274877906944 := hs
  have hh : hasB c (a, n) = (rightB c && goodB (a, n) && inB c (a, n)) := rfl
  (refine Z ?_; repeat' (first | exact .intro | ((first | refine B1 (fun h => ?_) fun h => ?_ | refine B2 fun y he he' hy => ?_ | refine B3 fun y he hy => ?_ | refine B4 fun y hy => ?_ | refine B5 fun ck => ?_ | fail) <;> refine Z ?_)))
  refine Some'.mk (0 : Nat) ?_
  (refine Z ?_; repeat' (first | exact .intro | ((first | refine B1 (fun h => ?_) fun h => ?_ | refine B2 fun y he he' hy => ?_ | refine B3 fun y he hy => ?_ | refine B4 fun y hy => ?_ | refine B5 fun ck => ?_ | fail) <;> refine Z ?_)))
  refine Ask.mk ⟨Nat.zero_le _, fun r hr => nomatch hr⟩ ?_
  refine AllI.mk ?_
  rintro (i : Nat) ⟨h1, h2⟩
  have h1 : i ≤ c.length := h1
  have h2 : ∀ r, r ∈ c.take i → ¬ inR r (a, n) := h2
  by_cases hi : i = c.length
  · subst hi
    rw [List.take_length] at h2
    have hf : inB c (a, n) = false := by
      cases h : inB c (a, n) with
      | false => rfl
      | true => obtain ⟨r, hr, hd⟩ := inB_iff.1 h; exact absurd hd (h2 r hr)
    rw [hf, Bool.and_false] at hh
    exact G1
  · obtain ⟨⟨m, f, t⟩, he⟩ : ∃ e, c[i]? = some e := ⟨_, List.getElem?_eq_getElem (by omega)⟩
    have ht := take_sn he
    by_cases hin : inR (m, f, t) (a, n)
    · have hf : inB c (a, n) = true := inB_iff.2 ⟨_, List.mem_of_getElem? he, hin⟩
      rw [hf, Bool.and_true] at hh
      obtain ⟨q1, q2, q3⟩ : m = a ∧ f ≤ n ∧ n ≤ t := hin
      clear h2 ht
      cases h1 : rightB c with
      | false =>
        rw [h1, Bool.false_and] at hh
        have lm := h1
        (refine Zm ?_; repeat' (first | exact .intro | ((first | refine B1 (fun h => ?_) fun h => ?_ | refine B2 fun y he he' hy => ?_ | refine B3 fun y he hy => ?_ | refine B4 fun y hy => ?_ | refine B5 fun ck => ?_ | fail) <;> refine Zm ?_)))
        refine All'.mk ?_; rintro (e' : Run) he'
        obtain rfl : (m, f, t) = e' := Option.some.inj (he.symm.trans he')
        have ck : Hc drightC c True := .mk trivial
        exact G1
      | true =>
        rw [h1, Bool.true_and] at hh
        have lm := h1
        (refine Zm ?_; repeat' (first | exact .intro | ((first | refine B1 (fun h => ?_) fun h => ?_ | refine B2 fun y he he' hy => ?_ | refine B3 fun y he hy => ?_ | refine B4 fun y hy => ?_ | refine B5 fun ck => ?_ | fail) <;> refine Zm ?_)))
        refine All'.mk ?_; rintro (e' : Run) he'
        obtain rfl : (m, f, t) = e' := Option.some.inj (he.symm.trans he')
        have ck : Hc drightC c (Hc dgoodC (a, n) True) := .mk (.mk trivial)
        exact G1
    · have hin' : ¬ (m = a ∧ f ≤ n ∧ n ≤ t) := hin
      (refine Zm ?_; repeat' (first | exact .intro | ((first | refine B1 (fun h => ?_) fun h => ?_ | refine B2 fun y he he' hy => ?_ | refine B3 fun y he hy => ?_ | refine B4 fun y hy => ?_ | refine B5 fun ck => ?_ | fail) <;> refine Zm ?_)))
      refine All'.mk ?_; rintro (e' : Run) he'
      obtain rfl : (m, f, t) = e' := Option.some.inj (he.symm.trans he')
      clear he'
      (refine Zm ?_; repeat' (first | exact .intro | ((first | refine B1 (fun h => ?_) fun h => ?_ | refine B2 fun y he he' hy => ?_ | refine B3 fun y he hy => ?_ | refine B4 fun y hy => ?_ | refine B5 fun ck => ?_ | fail) <;> refine Zm ?_)))
      all_goals
        refine Some'.mk (i + 1 : Nat) ?_
        (refine Z ?_; repeat' (first | exact .intro | ((first | refine B1 (fun h => ?_) fun h => ?_ | refine B2 fun y he he' hy => ?_ | refine B3 fun y he hy => ?_ | refine B4 fun y hy => ?_ | refine B5 fun ck => ?_ | fail) <;> refine Z ?_)))
        refine Ask.mk ⟨by show i + 1 ≤ c.length; omega, fun r hr => by
          rw [ht] at hr
          rcases List.mem_append.1 hr with hr | hr
          · exact h2 r hr
          · rcases List.mem_singleton.1 hr with rfl; exact hin⟩ ?_
        (refine Z ?_; repeat' (first | exact .intro | ((first | refine B1 (fun h => ?_) fun h => ?_ | refine B2 fun y he he' hy => ?_ | refine B3 fun y he hy => ?_ | refine B4 fun y hy => ?_ | refine B5 fun ck => ?_ | fail) <;> refine Z ?_)))

end Go.Proofs.YthmbdjhlfieldaaGreatDoor

set_option linter.unusedVariables false
set_option linter.unusedSimpArgs false
set_option maxHeartbeats 1000000
namespace Go.Eng
open Go.Sort Go.Shelf Go.Proofs
section
variable {α : Type} [Inhabited α] (enc : α → List Value) (k : Nat) (w : World) (blk off m : Nat) (dk : Array α) (os : Array Obj)
end
section
variable {t : Ty} {good : t.den → Prop} [Inhabited {x : t.den // good x}] {cf : t.den → t.den → Int}
end
end Go.Eng

/-! No sort in this seat. -/
namespace Go.Proofs
end Go.Proofs

set_option linter.unusedVariables false
set_option linter.unusedSimpArgs false
set_option maxRecDepth 100000
set_option maxHeartbeats 4000000
namespace Go.Proofs.YthmbdjhlfieldaaGreatDoor
open Go.Eng
variable [DM]
set_option linter.unusedSectionVars false
@[reducible] def nanC : Ctr := {
  X := Int
  Y := Unit
  args := fun x => [.v (.int .i64 x)]
  rw := fun _ => []
  side := fun _ => True
  val := fun _ => ()
  ens := fun _ _ => True
  res := fun _ _ => .v (.bool false)
  out := fun _ _ => [] }
theorem nan_ok : nanC.ok Tryz.prog 97 := by
  refine ok_of_vc (An := fun _ => anOf []) (known_nil _) mo Tryz.func97 (by kernel_rfl) (by kernel_rfl) (fun _ _ => trivial) (fun (x : Int) hs => ?_)
  (refine Zn ?_; repeat' (first | exact .intro | ((first | refine B1 (fun h => ?_) fun h => ?_ | refine B2 fun y he he' hy => ?_ | refine B3 fun y he hy => ?_ | refine B4 fun y hy => ?_ | refine B5 fun ck => ?_ | fail) <;> refine Zn ?_)))
  refine AskL.mk ?_ trivial
  simp [conj]
def cmpI (a b : Int) : Int := if a < b then -1 else if b < a then 1 else 0
@[reducible] def cmpC : Ctr := {
  X := Int × Int
  Y := Unit
  args := fun x => [.v (.int .i64 x.1), .v (.int .i64 x.2)]
  rw := fun _ => []
  side := fun _ => True
  val := fun _ => ()
  ens := fun _ _ => True
  res := fun x _ => .v (.int .i64 (cmpI x.1 x.2))
  out := fun _ _ => [] }
theorem knownF0 : Known Tryz.prog (gOf [(97, nanC)]) := known_cons ⟨nan_ok, Tryz.call97⟩ (known_nil _)
theorem cmp_ok : cmpC.ok Tryz.prog 57 := by
  refine ok_of_vc (An := fun _ => anOf []) knownF0 mo Tryz.func57 (by kernel_rfl) (by kernel_rfl) (fun _ _ => trivial) (fun x hs => ?_)
  obtain ⟨a, b⟩ := x
  have h3 : (a < b ∧ cmpI a b = -1) ∨ (b < a ∧ ¬ a < b ∧ cmpI a b = 1) ∨ (¬ a < b ∧ ¬ b < a ∧ cmpI a b = 0) := by
    unfold cmpI
    by_cases h1 : a < b
    · rw [if_pos h1]; exact .inl ⟨h1, rfl⟩
    · rw [if_neg h1]
      by_cases h2 : b < a
      · rw [if_pos h2]; exact .inr (.inl ⟨h2, h1, rfl⟩)
      · rw [if_neg h2]; exact .inr (.inr ⟨h1, h2, rfl⟩)
  rcases h3 with ⟨h1, h2⟩ | ⟨h1, h2, h3⟩ | ⟨h1, h2, h3⟩
  all_goals
    have ck : Hc nanC a (Hc nanC b True) := .mk (.mk trivial)
    (refine Z ?_; repeat' (first | exact .intro | ((first | refine B1 (fun h => ?_) fun h => ?_ | refine B2 fun y he he' hy => ?_ | refine B3 fun y he hy => ?_ | refine B4 fun y hy => ?_ | refine B5 fun ck => ?_ | fail) <;> refine Z ?_)))
/-- The first one that is not 0. -/
def orL : List Int → Int
  | [] => 0
  | x :: l => if x = 0 then orL l else x
@[reducible] def orC : Ctr := {
  X := List Int
  Y := Unit
  args := fun l => [.ro true (.int .i64) l]
  rw := fun _ => []
  side := fun l => l.length ≤ 274877906944
  val := fun _ => ()
  ens := fun _ _ => True
  res := fun l _ => .v (.int .i64 (orL l))
  out := fun _ _ => [] }
@[reducible] def orLp (l : List Int) : LA := {
  X := Nat
  pre := fun i => i ≤ l.length ∧ orL l = orL (l.drop i)
  mu := fun i => l.length - i
  T := fun i => [(3, .v (.int .i64 0)), (6, .ro true (.int .i64) l), (7, .v (.int .i64 l.length)), (8, .v (.int .i64 (i : Nat)))]
  M := fun _ => [] }
theorem or_ok : orC.ok Tryz.prog 55 := by
  refine ok_of_vc (An := fun (l : List Int) => anOf [(0, .loop (orLp l))]) (known_nil _) mo Tryz.func55 (by kernel_rfl) (by kernel_rfl) (fun _ _ => trivial) (fun (l : List Int) hs => ?_)
  have hs : l.length ≤ 274877906944 := hs
  (refine Z ?_; repeat' (first | exact .intro | ((first | refine B1 (fun h => ?_) fun h => ?_ | refine B2 fun y he he' hy => ?_ | refine B3 fun y he hy => ?_ | refine B4 fun y hy => ?_ | refine B5 fun ck => ?_ | fail) <;> refine Z ?_)))
  refine Some'.mk (0 : Nat) ?_
  (refine Z ?_; repeat' (first | exact .intro | ((first | refine B1 (fun h => ?_) fun h => ?_ | refine B2 fun y he he' hy => ?_ | refine B3 fun y he hy => ?_ | refine B4 fun y hy => ?_ | refine B5 fun ck => ?_ | fail) <;> refine Z ?_)))
  refine Ask.mk ⟨Nat.zero_le _, rfl⟩ ?_
  refine AllI.mk ?_
  rintro (i : Nat) ⟨h1, h2⟩
  have h1 : i ≤ l.length := h1
  have h2 : orL l = orL (l.drop i) := h2
  by_cases hi : i = l.length
  · subst hi
    rw [List.drop_length] at h2
    have h2 : orL l = 0 := h2
    exact G1
  · obtain ⟨e, he⟩ : ∃ e, l[i]? = some e := ⟨_, List.getElem?_eq_getElem (by omega)⟩
    rw [drop_sn he] at h2
    by_cases h0 : e = 0
    · have h3 : orL l = orL (l.drop (i + 1)) := by rw [h2]; exact if_pos h0
      (refine Zm ?_; repeat' (first | exact .intro | ((first | refine B1 (fun h => ?_) fun h => ?_ | refine B2 fun y he he' hy => ?_ | refine B3 fun y he hy => ?_ | refine B4 fun y hy => ?_ | refine B5 fun ck => ?_ | fail) <;> refine Zm ?_)))
      refine All'.mk ?_; rintro (e' : Int) he'
      obtain rfl : e = e' := Option.some.inj (he.symm.trans he')
      (refine Z ?_; repeat' (first | exact .intro | ((first | refine B1 (fun h => ?_) fun h => ?_ | refine B2 fun y he he' hy => ?_ | refine B3 fun y he hy => ?_ | refine B4 fun y hy => ?_ | refine B5 fun ck => ?_ | fail) <;> refine Z ?_)))
      refine Some'.mk (i + 1 : Nat) ?_
      exact G1
    · have h3 : orL l = e := by rw [h2]; exact if_neg h0
      (refine Zm ?_; repeat' (first | exact .intro | ((first | refine B1 (fun h => ?_) fun h => ?_ | refine B2 fun y he he' hy => ?_ | refine B3 fun y he hy => ?_ | refine B4 fun y hy => ?_ | refine B5 fun ck => ?_ | fail) <;> refine Zm ?_)))
      refine All'.mk ?_; rintro (e' : Int) he'
      obtain rfl : e = e' := Option.some.inj (he.symm.trans he')
      exact G1
instance : Inhabited {r : runT.den // (fun _ : Run => True) r} := ⟨⟨((0 : Int), (0 : Int), (0 : Int)), trivial⟩⟩
end Go.Proofs.YthmbdjhlfieldaaGreatDoor

set_option linter.unusedVariables false
set_option linter.unusedSimpArgs false
set_option maxRecDepth 100000
namespace Go.Proofs.YthmbdjhlfieldaaGreatDoor
open Go.Eng
/-- An order told by numbers. -/
structure Ord (α : Type) (f : α → α → Int) : Prop where
  swap : ∀ a b, f b a = - f a b
  zero : ∀ a b, f a b = 0 ↔ a = b
  le : ∀ a b c, f a b ≤ 0 → f b c ≤ 0 → f a c ≤ 0
theorem ord_int : Ord Int cmpI := by
  refine ⟨fun a b => ?_, fun a b => ?_, fun a b c => ?_⟩
  · unfold cmpI; split <;> split <;> omega
  · unfold cmpI; split
    · constructor <;> intro h <;> omega
    · split <;> constructor <;> intro h <;> omega
  · unfold cmpI
    repeat' split
    all_goals omega
theorem cb_swap : ∀ a b : List UInt8, Lib.compareBytes b a = - Lib.compareBytes a b
  | [], [] => rfl
  | [], _ :: _ => rfl
  | _ :: _, [] => rfl
  | a :: xs, b :: ys => by
    unfold Lib.compareBytes
    by_cases h1 : a < b
    · have h2 : ¬ b < a := UInt8.lt_asymm h1
      rw [if_neg h2, if_pos h1, if_pos h1]; rfl
    · by_cases h2 : b < a
      · rw [if_pos h2, if_neg h1, if_pos h2]
      · rw [if_neg h2, if_neg h1, if_neg h1, if_neg h2]
        exact cb_swap xs ys
theorem u8_eq {a b : UInt8} (h1 : ¬ a < b) (h2 : ¬ b < a) : a = b := UInt8.le_antisymm (UInt8.not_lt.1 h2) (UInt8.not_lt.1 h1)
theorem cb_zero : ∀ a b : List UInt8, Lib.compareBytes a b = 0 ↔ a = b
  | [], [] => by simp [Lib.compareBytes]
  | [], _ :: _ => by simp [Lib.compareBytes]
  | _ :: _, [] => by simp [Lib.compareBytes]
  | a :: xs, b :: ys => by
    unfold Lib.compareBytes
    by_cases h1 : a < b
    · rw [if_pos h1]
      constructor
      · intro h; cases h
      · intro h
        obtain ⟨rfl, _⟩ := List.cons.inj h
        exact absurd h1 (UInt8.lt_irrefl a)
    · by_cases h2 : b < a
      · rw [if_neg h1, if_pos h2]
        constructor
        · intro h; cases h
        · intro h
          obtain ⟨rfl, _⟩ := List.cons.inj h
          exact absurd h2 (UInt8.lt_irrefl a)
      · obtain rfl := u8_eq h1 h2
        rw [if_neg h1, if_neg h2, cb_zero xs ys]
        simp
theorem cb_le : ∀ a b c : List UInt8, Lib.compareBytes a b ≤ 0 → Lib.compareBytes b c ≤ 0 → Lib.compareBytes a c ≤ 0
  | [], _, [], _, _ => by simp [Lib.compareBytes]
  | [], _, _ :: _, _, _ => by simp [Lib.compareBytes]
  | _ :: _, [], _, h, _ => by simp [Lib.compareBytes] at h
  | _ :: _, _ :: _, [], _, h => by simp [Lib.compareBytes] at h
  | a :: xs, b :: ys, c :: zs, h1, h2 => by
    unfold Lib.compareBytes at *
    by_cases ab : a < b
    · by_cases bc : b < c
      · rw [if_pos (UInt8.lt_trans ab bc)]; decide
      · rw [if_neg bc] at h2
        by_cases cb : c < b
        · rw [if_pos cb] at h2; exact absurd h2 (by decide)
        · obtain rfl := u8_eq bc cb
          rw [if_pos ab]; decide
    · rw [if_neg ab] at h1
      by_cases ba : b < a
      · rw [if_pos ba] at h1; exact absurd h1 (by decide)
      · rw [if_neg ba] at h1
        obtain rfl := u8_eq ab ba
        by_cases ac : a < c
        · rw [if_pos ac]; decide
        · rw [if_neg ac] at h2 ⊢
          by_cases ca : c < a
          · rw [if_pos ca] at h2; exact absurd h2 (by decide)
          · rw [if_neg ca] at h2 ⊢
            exact cb_le xs ys zs h1 h2
theorem ord_bytes : Ord (List UInt8) Lib.compareBytes := ⟨cb_swap, cb_zero, cb_le⟩
theorem bl_cb : ∀ a b : List UInt8, Op.bytesLess a b = decide (Lib.compareBytes a b < 0)
  | [], [] => rfl
  | _ :: _, [] => rfl
  | [], _ :: _ => rfl
  | a :: xs, b :: ys => by
    have ih := bl_cb xs ys
    unfold Op.bytesLess Lib.compareBytes
    by_cases h1 : a < b
    · rw [if_pos h1, decide_eq_true h1]; rfl
    · rw [if_neg h1, decide_eq_false h1, Bool.false_or]
      by_cases h2 : b < a
      · have : (a == b) = false := by
          rw [beq_eq_false_iff_ne]; rintro rfl; exact UInt8.lt_irrefl a h2
        rw [if_pos h2, this]; rfl
      · obtain rfl := u8_eq h1 h2
        rw [if_neg h2, beq_self_eq_true, Bool.true_and]; exact ih
def lexO (p q : Int) : Int := if p = 0 then q else p
theorem Ord.lex {α β : Type} {f : α → α → Int} {g : β → β → Int} (hf : Ord α f) (hg : Ord β g) : Ord (α × β) (fun x y => lexO (f x.1 y.1) (g x.2 y.2)) := by
  refine ⟨fun a b => ?_, fun a b => ?_, fun a b c h1 h2 => ?_⟩
  · have e1 := hf.swap a.1 b.1
    have e2 := hg.swap a.2 b.2
    show lexO (f b.1 a.1) (g b.2 a.2) = - lexO (f a.1 b.1) (g a.2 b.2)
    unfold lexO
    split <;> split <;> omega
  · show lexO (f a.1 b.1) (g a.2 b.2) = 0 ↔ a = b
    unfold lexO
    split
    · rename_i h
      rw [hg.zero]
      have := (hf.zero _ _).1 h
      exact ⟨fun e => Prod.ext this e, fun e => by rw [e]⟩
    · rename_i h
      exact ⟨fun e => absurd e h, fun e => absurd ((hf.zero _ _).2 (by rw [e])) h⟩
  · have h1 : lexO (f a.1 b.1) (g a.2 b.2) ≤ 0 := h1
    have h2 : lexO (f b.1 c.1) (g b.2 c.2) ≤ 0 := h2
    show lexO (f a.1 c.1) (g a.2 c.2) ≤ 0
    unfold lexO at *
    have t1 := hf.le a.1 b.1 c.1
    by_cases p1 : f a.1 b.1 = 0
    · have e1 := (hf.zero _ _).1 p1
      rw [if_pos p1] at h1
      by_cases p2 : f b.1 c.1 = 0
      · rw [if_pos p2] at h2
        have e2 := (hf.zero _ _).1 p2
        have p3 : f a.1 c.1 = 0 := (hf.zero _ _).2 (e1.trans e2)
        rw [if_pos p3]
        exact hg.le _ _ _ h1 h2
      · rw [if_neg p2] at h2
        rw [e1, if_neg p2]; exact h2
    · rw [if_neg p1] at h1
      by_cases p2 : f b.1 c.1 = 0
      · have e2 := (hf.zero _ _).1 p2
        rw [← e2, if_neg p1]; exact h1
      · rw [if_neg p2] at h2
        have p3 : f a.1 c.1 ≠ 0 := fun h => by
          have e3 := (hf.zero _ _).1 h
          have := hf.swap a.1 b.1
          rw [e3] at this h1
          have s2 := hf.swap b.1 c.1
          omega
        rw [if_neg p3]; exact t1 h1 h2

abbrev KeyI := List UInt8 × Int × Int × List UInt8
def keyI (x : Item) : KeyI := (x.1.data.toList, x.2.1.1, x.2.1.2, (strOfNums (itemBy x)).data.toList)
def cmpK (x y : KeyI) : Int := lexO (Lib.compareBytes x.1 y.1) (lexO (cmpI x.2.1 y.2.1) (lexO (cmpI x.2.2.1 y.2.2.1) (Lib.compareBytes x.2.2.2 y.2.2.2)))
theorem ord_key : Ord KeyI cmpK := ord_bytes.lex (ord_int.lex (ord_int.lex ord_bytes))
def cmpIt (x y : Item) : Int := if itemB x && itemB y then cmpK (keyI x) (keyI y) else 0
theorem okB_by {x : Item} (h : itemB x = true) (hv : okY x.2.2.2.2) : okY (itemBy x) := by
  obtain ⟨key, ⟨m, n⟩, c, b, v⟩ := x
  obtain ⟨⟨k1, k2⟩, k3, k4, ⟨k5, k6⟩, ⟨k7, k8⟩, k9, k10⟩ := item_ok h
  have h1 : okY (numL key.size) := numL_okB _ (by omega)
  have h2 : okY (bytesL key) := bytesL_ok key
  have h3 : okY (numL m.toNat) := numL_okB _ (by omega)
  have h4 : okY (numL n.toNat) := numL_okB _ (by omega)
  have h5 : okY (clockBy c) := okY_clock k9 (by omega)
  have h6 : okY (numL v.length) := numL_okB _ (by omega)
  intro z hz
  have hz : z ∈ numL key.size ++ (bytesL key ++ (numL m.toNat ++ (numL n.toNat ++ (clockBy c ++ (if b = true then [1] else 0 :: (numL v.length ++ v)))))) := hz
  simp only [List.mem_append] at hz
  rcases hz with hz | hz | hz | hz | hz | hz
  · exact h1 z hz
  · exact h2 z hz
  · exact h3 z hz
  · exact h4 z hz
  · exact h5 z hz
  · split at hz
    · rcases List.mem_singleton.1 hz with rfl; omega
    · rcases List.mem_cons.1 hz with rfl | hz
      · omega
      · rcases List.mem_append.1 hz with hz | hz
        · exact h6 z hz
        · exact hv z hz
theorem keyI_inj {x y : Item} (hx : itemB x = true) (hy : itemB y = true) (vx : okY x.2.2.2.2) (vy : okY y.2.2.2.2) (h : keyI x = keyI y) : x = y := by
  have h4 : (strOfNums (itemBy x)).data.toList = (strOfNums (itemBy y)).data.toList := congrArg (·.2.2.2) h
  have h5 : strOfNums (itemBy x) = strOfNums (itemBy y) := ByteArray.ext (Array.toList_inj.1 h4)
  have h6 := congrArg bytesL h5
  rw [bytes_str (okB_by hx vx), bytes_str (okB_by hy vy)] at h6
  exact itemBy_inj hx hy h6
theorem cmpIt_law {x y z : Item} (hx : itemB x = true) (hy : itemB y = true) (hz : itemB z = true) (vx : okY x.2.2.2.2) (vy : okY y.2.2.2.2) (vz : okY z.2.2.2.2) :
    cmpIt y x = - cmpIt x y ∧ (cmpIt x y = 0 ↔ x = y) ∧ (cmpIt x y ≤ 0 → cmpIt y z ≤ 0 → cmpIt x z ≤ 0) := by
  unfold cmpIt
  rw [hx, hy, hz]
  refine ⟨ord_key.swap _ _, ?_, ord_key.le _ _ _⟩
  show cmpK (keyI x) (keyI y) = 0 ↔ _
  rw [ord_key.zero]
  exact ⟨keyI_inj hx hy vx vy, fun h => by rw [h]⟩
end Go.Proofs.YthmbdjhlfieldaaGreatDoor

set_option linter.unusedVariables false
set_option linter.unusedSimpArgs false
set_option linter.unusedSectionVars false
namespace Go.Proofs.YthmbdjhlfieldaaGreatDoor
open Go.Eng
variable [DM]
inductive Wk : SV → SV → Prop where
  | ro (t : Ty) (xs : List t.den) : Wk (.ro false t xs) (.ro true t xs)
  | same (s : SV) : Wk s s
  | agg (l' l : List SV) (hl : l'.length = l.length) (h : ∀ (j : Nat) (s' s : SV), l'[j]? = some s' → l[j]? = some s → Wk s' s) : Wk (.agg l') (.agg l)
theorem Wk.sat {E : Env} {w : World} {s' s : SV} (h : Wk s' s) : ∀ {v : Value}, Sat E w s' v → Sat E w s v := by
  induction h with
  | ro t xs => intro v hv; exact hv.weaken (fun h => by cases h)
  | same s => intro v hv; exact hv
  | agg l' l hl h ih =>
    intro v hv
    cases hv with
    | agg _ vs u h1 h2 h3 =>
      refine .agg l vs u (h1.trans hl) (fun j hj => h2 j (by omega)) (fun j sv hj => ?_)
      have hlt := (List.getElem?_eq_some_iff.1 hj).1
      have e := List.getElem?_eq_getElem (l := l') (i := j) (by omega)
      exact ih j _ sv e hj (h3 j _ e)
inductive WkL : List SV → List SV → Prop where
  | nil : WkL [] []
  | cons {s' s : SV} {l' l : List SV} (h : Wk s' s) (k : WkL l' l) : WkL (s' :: l') (s :: l)
theorem WkL.len {l' l : List SV} (h : WkL l' l) : l'.length = l.length := by
  induction h with
  | nil => rfl
  | cons _ _ ih => simp [ih]
theorem WkL.at {l' l : List SV} (h : WkL l' l) : ∀ (j : Nat) (s' s : SV), l'[j]? = some s' → l[j]? = some s → Wk s' s := by
  induction h with
  | nil => intro j s' s h; simp at h
  | cons h _ ih =>
    intro j s' s h1 h2
    cases j with
    | zero =>
      obtain rfl := Option.some.inj h1
      obtain rfl := Option.some.inj h2
      exact h
    | succ j => exact ih j s' s h1 h2
theorem Wk.aggL {l' l : List SV} (h : WkL l' l) : Wk (.agg l') (.agg l) := .agg l' l h.len h.at
end Go.Proofs.YthmbdjhlfieldaaGreatDoor

set_option linter.unusedVariables false
set_option linter.unusedSimpArgs false
set_option maxRecDepth 100000
namespace Go.Proofs.YthmbdjhlfieldaaGreatDoor
open Go.Eng
variable [DM]
set_option linter.unusedSectionVars false
structure WeighS where
  i : Nat
  n : Int
def greatOne (x : Item) : Int := 20 + min (x.1.size : Int) 5000 + min (x.2.2.2.2.length : Int) 5000 + 5 * min (x.2.2.1.length : Int) 1000
def greatF : Int → List Item → Int
  | n, [] => n
  | n, x :: l => greatF (IntKind.i64.wrap (n + greatOne x)) l
theorem greatF_step {n : Int} {l : List Item} {i : Nat} {x : Item} (h : l[i]? = some x) : greatF n (l.drop i) = greatF (IntKind.i64.wrap (n + greatOne x)) (l.drop (i + 1)) := by
  obtain ⟨hi, rfl⟩ := List.getElem?_eq_some_iff.1 h
  rw [List.drop_eq_getElem_cons hi]; rfl
theorem greatF_end {n : Int} {l : List Item} {i : Nat} (h : l.length ≤ i) : greatF n (l.drop i) = n := by rw [List.drop_eq_nil_of_le h]; rfl
@[reducible] def greatC : Ctr := {
  X := List Item
  Y := Int
  args := fun l => [.ro false itemT l]
  rw := fun _ => []
  side := fun l => l.length ≤ 9223372036854775807 ∧ ∀ x, x ∈ l → itemL x
  val := fun l => greatF 0 l
  ens := fun _ _ => True
  res := fun _ y => .v (.int .i64 y)
  out := fun _ _ => [] }
@[reducible] def greatL (l : List Item) : LA := {
  X := WeighS
  pre := fun s => s.i ≤ l.length ∧ greatF 0 l = greatF s.n (l.drop s.i)
  mu := fun s => l.length - s.i
  T := fun s => [(3, .v (.int .i64 s.n)), (6, .ro false itemT l), (7, .v (.int .i64 l.length)), (8, .v (.int .i64 s.i))]
  M := fun _ => [] }
theorem great_ok : greatC.ok Tryz.prog 8 := by
  refine ok_of_vc (An := fun (l : List Item) => anOf [(0, .loop (greatL l))]) (known_nil _) mo Tryz.func8 (by kernel_rfl) (by kernel_rfl) (fun _ _ => trivial) (fun (l : List Item) hs => ?_)
  have hs : l.length ≤ 9223372036854775807 ∧ ∀ x, x ∈ l → itemL x := hs
  obtain ⟨hl, hx⟩ := hs
  (refine Z ?_; repeat' (first | exact .intro | ((first | refine B1 (fun h => ?_) fun h => ?_ | refine B2 fun y he he' hy => ?_ | refine B3 fun y he hy => ?_ | refine B4 fun y hy => ?_ | refine B5 fun ck => ?_ | fail) <;> refine Z ?_)))
  refine Some'.mk ⟨0, 0⟩ ?_
  (refine Z ?_; repeat' (first | exact .intro | ((first | refine B1 (fun h => ?_) fun h => ?_ | refine B2 fun y he he' hy => ?_ | refine B3 fun y he hy => ?_ | refine B4 fun y hy => ?_ | refine B5 fun ck => ?_ | fail) <;> refine Z ?_)))
  refine Ask.mk ⟨Nat.zero_le _, rfl⟩ ?_
  (refine Z ?_; repeat' (first | exact .intro | ((first | refine B1 (fun h => ?_) fun h => ?_ | refine B2 fun y he he' hy => ?_ | refine B3 fun y he hy => ?_ | refine B4 fun y hy => ?_ | refine B5 fun ck => ?_ | fail) <;> refine Z ?_)))
  refine AllI.mk ?_
  rintro ⟨i, n⟩ ⟨h1, h2⟩
  dsimp only at h1 h2
  rcases Nat.lt_or_ge i l.length with hlt | hge
  · obtain ⟨⟨key, ⟨m, k⟩, c, b, v⟩, hr⟩ := get_ex hlt
    rw [greatF_step hr] at h2
    obtain ⟨e1, e2, e3⟩ := hx _ (List.mem_of_getElem? hr)
    have hg : greatOne (key, (m, k), c, b, v) = 20 + min (key.size : Int) 5000 + min (v.length : Int) 5000 + 5 * min (c.length : Int) 1000 := rfl
    rw [hg] at h2
    clear hg
    dsimp only at e1 e2 e3
    (refine Zm ?_; repeat' (first | exact .intro | ((first | refine B1 (fun h => ?_) fun h => ?_ | refine B2 fun y he he' hy => ?_ | refine B3 fun y he hy => ?_ | refine B4 fun y hy => ?_ | refine B5 fun ck => ?_ | fail) <;> refine Zm ?_)))
    refine All'.mk ?_
    rintro (y : Item) hy
    obtain rfl : (key, (m, k), c, b, v) = y := Option.some.inj (hr.symm.trans hy)
    clear hy
    (refine Zm ?_; repeat' (first | exact .intro | ((first | refine B1 (fun h => ?_) fun h => ?_ | refine B2 fun y he he' hy => ?_ | refine B3 fun y he hy => ?_ | refine B4 fun y hy => ?_ | refine B5 fun ck => ?_ | fail) <;> refine Zm ?_)))
    refine Ar.wrap ?_
    (refine Z ?_; repeat' (first | exact .intro | ((first | refine B1 (fun h => ?_) fun h => ?_ | refine B2 fun y he he' hy => ?_ | refine B3 fun y he hy => ?_ | refine B4 fun y hy => ?_ | refine B5 fun ck => ?_ | fail) <;> refine Z ?_)))
    refine Some'.mk ⟨i + 1, IntKind.i64.wrap (n + (20 + min (key.size : Int) 5000 + min (v.length : Int) 5000 + 5 * min (c.length : Int) 1000))⟩ ?_
    exact G1
  · rw [greatF_end hge] at h2
    exact G1
end Go.Proofs.YthmbdjhlfieldaaGreatDoor

set_option linter.unusedVariables false
set_option linter.unusedSimpArgs false
set_option maxRecDepth 100000
set_option maxHeartbeats 4000000
namespace Go.Proofs.YthmbdjhlfieldaaGreatDoor
open Go.Eng
theorem right_runs : ∀ {c : List Run} {p : Option Run}, rightFrom p c = true → ∀ {i : Nat} {r : Run}, c[i]? = some r → runP r
  | [], _, _, _, _, h => by simp at h
  | x :: l, p, hr, 0, r, h => by
    simp only [rightFrom, Bool.and_eq_true] at hr
    obtain rfl : x = r := by simpa using h
    exact of_decide_eq_true hr.1.1
  | x :: l, p, hr, i + 1, r, h => by
    simp only [rightFrom, Bool.and_eq_true] at hr
    exact right_runs hr.2 (i := i) (by simpa using h)
/-- A run's word. -/
def runW (r : Run) : List Int := decL r.1.toNat ++ [58] ++ decL r.2.1.toNat ++ (if r.2.1 < r.2.2 then [45] ++ decL r.2.2.toNat else [])
def spT (ws : List (List Int)) : List Int := (ws.map (32 :: ·)).flatten
/-- Words with blanks between. -/
def spc : List (List Int) → List Int
  | [] => []
  | w :: ws => w ++ spT ws
def textL (c : List Run) : List Int := if rightB c then (if c = [] then [45] else spc (c.map runW)) else []
theorem runW_len {r : Run} (h : runP r) : (runW r).length ≤ 41 := by
  have h1 := decL_len 12 r.1.toNat (by omega)
  have h2 := decL_len 12 r.2.1.toNat (by omega)
  have h3 := decL_len 12 r.2.2.toNat (by omega)
  unfold runW
  split <;> simp only [List.length_append, List.length_cons, List.length_nil] <;> omega
theorem spc_len : ∀ (ws : List (List Int)), (∀ w, w ∈ ws → w.length ≤ 41) → (spc ws).length ≤ 42 * ws.length := fun ws => by
  have hT : ∀ (ws : List (List Int)), (∀ w, w ∈ ws → w.length ≤ 41) → (spT ws).length ≤ 42 * ws.length := fun ws => by
    induction ws with
    | nil => intro _; simp [spT]
    | cons w ws ih =>
      intro h
      have h1 := ih (fun x hx => h x (List.mem_cons_of_mem _ hx))
      have h2 := h w (List.mem_cons_self ..)
      have e : spT (w :: ws) = (32 :: w) ++ spT ws := rfl
      rw [e]; simp only [List.length_append, List.length_cons]; omega
  intro h
  cases ws with
  | nil => simp [spc]
  | cons w ws =>
    have h1 := hT ws (fun x hx => h x (List.mem_cons_of_mem _ hx))
    have h2 := h w (List.mem_cons_self ..)
    simp only [spc, List.length_append, List.length_cons]; omega
theorem join_spc (ws : List (List Int)) : joinS (ws.map strOfNums) ⟨#[32]⟩ = strOfNums (spc ws) := by
  unfold joinS
  have e : ∀ l : List Int, (strOfNums l).data.toList = l.map fun n => UInt8.ofNat n.toNat := strOfNums_data
  cases ws with
  | nil => rfl
  | cons w ws =>
    rw [List.map_cons, List.map_cons, Lib.join_cons]
    have h : strOfNums (spc (w :: ws)) = ⟨(((w ++ spT ws).map fun n => UInt8.ofNat n.toNat)).toArray⟩ := by
      show strOfNums (w ++ spT ws) = _
      rw [← e]
    rw [h, List.map_append]
    congr 2
    rw [e]
    congr 1
    unfold Lib.joinTail spT
    rw [List.map_flatten, List.map_map, List.map_map, List.map_map]
    exact congrArg List.flatten (List.map_congr_left fun l _ => by show [32] ++ (strOfNums l).data.toList = _; rw [e]; rfl)
@[reducible] def dtextC : Ctr := {
  X := List Run
  Y := Unit
  args := fun c => [.ro true runT c]
  rw := fun _ => []
  side := fun c => c.length ≤ 1000000
  val := fun _ => ()
  ens := fun _ _ => True
  res := fun c _ => .v (.string (strOfNums (textL c)))
  out := fun _ _ => [] }
@[reducible] def wordsS (c : List Run) : List ByteArray := (c.map runW).map strOfNums
@[reducible] def dtextL (c : List Run) : LA := {
  X := Nat
  pre := fun i => i ≤ c.length
  mu := fun i => c.length - i
  T := fun i => [(3, .sl 2), (13, .ro true runT c), (14, .v (.int .i64 c.length)), (15, .v (.int .i64 (i : Nat)))]
  M := fun i => [(2, .row 9 .str (wordsS (c.take i)))] }
theorem knownT1 : Known Tryz.prog (gOf [(51, drightC), (91, itoaC), (44, joinC)]) :=
  known_cons ⟨dright_ok, Tryz.call51⟩ (known_cons ⟨itoa_ok, Tryz.call91⟩ (known_cons ⟨sjoin_ok, Tryz.call44⟩ (known_nil _)))
theorem dtext_ok : dtextC.ok Tryz.prog 45 := by
  refine ok_of_vc (An := fun x => anOf [(0, .loop (dtextL x))]) knownT1 mo Tryz.func45 (by kernel_rfl) (by kernel_rfl) (fun _ _ => trivial) (fun (c : List Run) hs => ?_)
  have hs : c.length ≤ 1000000 := hs
  have hs2 : c.length ≤ 274877906944 := by omega
  cases hr : rightB c with
  | false =>
    have ht : strOfNums (textL c) = ⟨#[]⟩ := by unfold textL; rw [hr]; rfl
    have lm := And.intro hr ht
    have ck : Hc drightC c True := .mk trivial
    exact G1
  | true =>
    by_cases h0 : c = []
    · subst h0
      have ht : strOfNums (textL []) = ⟨#[45]⟩ := rfl
      have hln : ([] : List Run).length = 0 := rfl
      have lm := And.intro hr ht
      have ck : Hc drightC [] True := .mk trivial
      exact G1
    · have ht : textL c = spc (c.map runW) := by unfold textL; rw [hr, if_neg h0]; rfl
      have hp : 0 < c.length := List.length_pos_iff.2 h0
      have lm := And.intro hr ht
      have ck : Hc drightC c True := .mk trivial
      (refine Z ?_; repeat' (first | exact .intro | ((first | refine B1 (fun h => ?_) fun h => ?_ | refine B2 fun y he he' hy => ?_ | refine B3 fun y he hy => ?_ | refine B4 fun y hy => ?_ | refine B5 fun ck => ?_ | fail) <;> refine Z ?_)))
      refine Some'.mk (0 : Nat) ?_
      (refine Z ?_; repeat' (first | exact .intro | ((first | refine B1 (fun h => ?_) fun h => ?_ | refine B2 fun y he he' hy => ?_ | refine B3 fun y he hy => ?_ | refine B4 fun y hy => ?_ | refine B5 fun ck => ?_ | fail) <;> refine Z ?_)))
      refine AllI.mk ?_
      rintro (i : Nat) hi
      have hi : i ≤ c.length := hi
      by_cases hie : i = c.length
      · subst hie
        have hwl : wordsS (c.take c.length) = (c.map runW).map strOfNums := by show ((c.take c.length).map runW).map strOfNums = _; rw [List.take_length]
        have hj : joinS (wordsS (c.take c.length)) ⟨#[32]⟩ = strOfNums (spc (c.map runW)) := by rw [hwl]; exact join_spc _
        have hjk : (wordsS (c.take c.length)).length ≤ 140737488355328 ∧ (joinS (wordsS (c.take c.length)) ⟨#[32]⟩).size ≤ 140737488355328 := by
          rw [hj, str_size, hwl]
          have := spc_len (c.map runW) (fun w hw => by
            obtain ⟨r, hr1, rfl⟩ := List.mem_map.1 hw
            obtain ⟨k, hk⟩ := List.getElem?_of_mem hr1
            exact runW_len (right_runs hr hk))
          rw [List.length_map] at this
          rw [List.length_map, List.length_map]; omega
        clear hwl
        have lm := And.intro hr (And.intro ht hj)
        (refine Zm ?_; repeat' (first | exact .intro | ((first | refine B1 (fun h => ?_) fun h => ?_ | refine B2 fun y he he' hy => ?_ | refine B3 fun y he hy => ?_ | refine B4 fun y hy => ?_ | refine B5 fun ck => ?_ | fail) <;> refine Zm ?_)))
        refine CallP.mk (C := joinC) ⟨wordsS (c.take c.length), ⟨#[32]⟩⟩ ?_
        exact G1
      · obtain ⟨⟨m, f, t⟩, hce⟩ : ∃ e, c[i]? = some e := ⟨_, List.getElem?_eq_getElem (by omega)⟩
        have hrp : runP (m, f, t) := right_runs hr hce
        obtain ⟨q1, q2, q3, q4, q5⟩ : 0 ≤ m ∧ m ≤ 7 ∧ 1 ≤ f ∧ f ≤ t ∧ t ≤ 1099511627776 := hrp
        have hmd : itoaS m = strOfNums (decL m.toNat) := itoa_dec q1
        have hfd : itoaS f = strOfNums (decL f.toNat) := itoa_dec (by omega)
        have htd : itoaS t = strOfNums (decL t.toNat) := itoa_dec (by omega)
        have hml := decL_len 12 m.toNat (by omega)
        have hfl := decL_len 12 f.toNat (by omega)
        have htl := decL_len 12 t.toNat (by omega)
        (refine Zm ?_; repeat' (first | exact .intro | ((first | refine B1 (fun h => ?_) fun h => ?_ | refine B2 fun y he he' hy => ?_ | refine B3 fun y he hy => ?_ | refine B4 fun y hy => ?_ | refine B5 fun ck => ?_ | fail) <;> refine Zm ?_)))
        refine All'.mk ?_; rintro (e' : Run) he'
        obtain rfl : (m, f, t) = e' := Option.some.inj (hce.symm.trans he')
        clear he'
        (refine Zm ?_; repeat' (first | exact .intro | ((first | refine B1 (fun h => ?_) fun h => ?_ | refine B2 fun y he he' hy => ?_ | refine B3 fun y he hy => ?_ | refine B4 fun y hy => ?_ | refine B5 fun ck => ?_ | fail) <;> refine Zm ?_)))
        have h58 : (⟨#[58]⟩ : ByteArray) = strOfNums [58] := rfl
        have h45 : (⟨#[45]⟩ : ByteArray) = strOfNums [45] := rfl
        have hz1 : (itoaS m).size + (⟨#[58]⟩ : ByteArray).size ≤ 9223372036854775807 := by rw [hmd, h58, str_size, str_size]; simp only [List.length_cons, List.length_nil]; omega
        have hz2 : (itoaS m ++ (⟨#[58]⟩ : ByteArray)).size + (itoaS f).size ≤ 9223372036854775807 := by rw [hmd, hfd, h58, str_cat, str_size, str_size]; simp only [List.length_append, List.length_cons, List.length_nil]; omega
        have hz3 : (⟨#[45]⟩ : ByteArray).size + (itoaS t).size ≤ 9223372036854775807 := by rw [htd, h45, str_size, str_size]; simp only [List.length_cons, List.length_nil]; omega
        have hz4 : (itoaS m ++ (⟨#[58]⟩ : ByteArray) ++ itoaS f).size + ((⟨#[45]⟩ : ByteArray) ++ itoaS t).size ≤ 9223372036854775807 := by rw [hmd, hfd, htd, h58, h45, str_cat, str_cat, str_cat, str_size, str_size]; simp only [List.length_append, List.length_cons, List.length_nil]; omega
        refine CallP.mk (C := itoaC) m ?_
        (refine Z ?_; repeat' (first | exact .intro | ((first | refine B1 (fun h => ?_) fun h => ?_ | refine B2 fun y he he' hy => ?_ | refine B3 fun y he hy => ?_ | refine B4 fun y hy => ?_ | refine B5 fun ck => ?_ | fail) <;> refine Z ?_)))
        have hwn : (wordsS (c.take i)).length = i := by rw [List.length_map, List.length_map, List.length_take]; omega
        have hap : ∀ x : ByteArray, (wordsS (c.take i)).length + [x].length ≤ 274877906944 := fun x => by rw [hwn, List.length_singleton]; omega
        have hstep : wordsS (c.take (i + 1)) = wordsS (c.take i) ++ [strOfNums (runW (m, f, t))] := by
          show ((c.take (i + 1)).map runW).map strOfNums = _
          rw [take_get hce, List.map_append, List.map_append]; rfl
        have hpr : (dtextL c).pre (i + 1) := by show i + 1 ≤ c.length; omega
        have hmu : (dtextL c).mu (i + 1) < (dtextL c).mu i := by show c.length - (i + 1) < c.length - i; omega
        refine CallP.mk (C := itoaC) f ?_
        (refine Z ?_; repeat' (first | exact .intro | ((first | refine B1 (fun h => ?_) fun h => ?_ | refine B2 fun y he he' hy => ?_ | refine B3 fun y he hy => ?_ | refine B4 fun y hy => ?_ | refine B5 fun ck => ?_ | fail) <;> refine Z ?_)))
        · refine CallP.mk (C := itoaC) t ?_
          (refine Z ?_; repeat' (first | exact .intro | ((first | refine B1 (fun h => ?_) fun h => ?_ | refine B2 fun y he he' hy => ?_ | refine B3 fun y he hy => ?_ | refine B4 fun y hy => ?_ | refine B5 fun ck => ?_ | fail) <;> refine Z ?_)))
          refine Some'.mk (i + 1 : Nat) ?_
          have hrw : runW (m, f, t) = decL m.toNat ++ [58] ++ decL f.toNat ++ ([45] ++ decL t.toNat) := by
            have hft : f < t := by assumption
            show decL m.toNat ++ [58] ++ decL f.toNat ++ (if f < t then [45] ++ decL t.toNat else []) = _
            rw [if_pos hft]
          (refine Zn ?_; repeat' (first | exact .intro | ((first | refine B1 (fun h => ?_) fun h => ?_ | refine B2 fun y he he' hy => ?_ | refine B3 fun y he hy => ?_ | refine B4 fun y hy => ?_ | refine B5 fun ck => ?_ | fail) <;> refine Zn ?_)))
          refine AskL.mk ?_ (Ask.mk hpr (Ask.mk hmu trivial))
          (dsimp only [conj]; repeat' apply And.intro) <;> first | rfl | (show SV.ro true Ty.str _ = SV.ro true Ty.str (wordsS (c.take (i + 1))); rw [hstep, hrw, hmd, hfd, htd, h58, h45, str_cat, str_cat, str_cat, str_cat])
        · refine Some'.mk (i + 1 : Nat) ?_
          have hrw : runW (m, f, t) = decL m.toNat ++ [58] ++ decL f.toNat := by
            have hft : ¬ f < t := by assumption
            show decL m.toNat ++ [58] ++ decL f.toNat ++ (if f < t then [45] ++ decL t.toNat else []) = _
            rw [if_neg hft, List.append_nil]
          (refine Zn ?_; repeat' (first | exact .intro | ((first | refine B1 (fun h => ?_) fun h => ?_ | refine B2 fun y he he' hy => ?_ | refine B3 fun y he hy => ?_ | refine B4 fun y hy => ?_ | refine B5 fun ck => ?_ | fail) <;> refine Zn ?_)))
          refine AskL.mk ?_ (Ask.mk hpr (Ask.mk hmu trivial))
          (dsimp only [conj]; repeat' apply And.intro) <;> first | rfl | (show SV.ro true Ty.str _ = SV.ro true Ty.str (wordsS (c.take (i + 1))); rw [hstep, hrw, hmd, hfd, h58, str_cat, str_cat])
end Go.Proofs.YthmbdjhlfieldaaGreatDoor

set_option linter.unusedVariables false
set_option linter.unusedSimpArgs false
set_option maxRecDepth 100000
set_option maxHeartbeats 4000000
namespace Go.Proofs.YthmbdjhlfieldaaGreatDoor
open Go.Eng
end Go.Proofs.YthmbdjhlfieldaaGreatDoor

namespace Go.Proofs.YthmbdjhlfieldaaGreatDoor
open Go.Shelf Go.RowKit Go.Sort Go.Lib Go.Eng
set_option linter.unusedVariables false
set_option linter.unusedSimpArgs false
def cutS (s sep : ByteArray) : ByteArray × ByteArray × Bool :=
  (⟨(Lib.cut s.data.toList sep.data.toList).1.toArray⟩, ⟨(Lib.cut s.data.toList sep.data.toList).2.1.toArray⟩, (Lib.cut s.data.toList sep.data.toList).2.2)
@[reducible] def cutC : Ctr := {
  X := ByteArray × ByteArray
  Y := Unit
  args := fun x => [.v (.string x.1), .v (.string x.2)]
  rw := fun _ => []
  side := fun x => x.1.size < 4294967281
  val := fun _ => ()
  ens := fun _ _ => True
  res := fun x _ => .tuple [.v (.string (cutS x.1 x.2).1), .v (.string (cutS x.1 x.2).2.1), .v (.bool (cutS x.1 x.2).2.2)]
  out := fun _ _ => [] }
theorem sat_tuple3 (E : Env) (w : World) (a b c : Value) : Sat E w (.tuple [.v a, .v b, .v c]) (.tuple #[a, b, c]) :=
  .tuple _ _ (fun j => (#[a, b, c] : Array Value).getD j undef) rfl (fun j hj => by
    match j, hj with
    | 0, _ => rfl
    | 1, _ => rfl
    | 2, _ => rfl) (fun j sv hj => by
    match j, hj with
    | 0, hj => obtain rfl : SV.v a = sv := by simpa using hj
               exact .v _
    | 1, hj => obtain rfl : SV.v b = sv := by simpa using hj
               exact .v _
    | 2, hj => obtain rfl : SV.v c = sv := by simpa using hj
               exact .v _
    | j + 3, hj => simp at hj)
theorem cut_ok : cutC.ok Tryz.prog 37 := by
  refine ok_of_walk (fun _ => rfl) (fun _ => rfl) (fun x hs => ⟨trivial, fun E w vals hsz hv hg hI => ?_⟩)
  obtain ⟨s, t⟩ := x
  have h1 : s.size < 4294967281 := hs
  rw [vals_two hsz, sat_v (hv 0 _ rfl), sat_v (hv 1 _ rfl)]
  obtain ⟨a, ⟨m, ha⟩, hm⟩ := glob_some (g := 0) hg (List.mem_cons_of_mem _ (List.mem_cons_of_mem _ (List.mem_cons_of_mem _ (List.mem_cons_self ..))))
  refine (Tryz.strings_Cut s t m w h1 (hm _ ha)).mono ?_
  rintro e w' ⟨rfl, n, rfl⟩
  exact ⟨_, rfl, sat_tuple3 .., ⟨rfl, rfl, rfl, Nat.le_refl _, fun _ _ => rfl⟩, fun h => h.elim⟩
end Go.Proofs.YthmbdjhlfieldaaGreatDoor
