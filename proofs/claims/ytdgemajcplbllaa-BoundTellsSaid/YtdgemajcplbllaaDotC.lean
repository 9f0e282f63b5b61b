/- Clocks as bytes; the reference's. -/
import Derived.Test.YtdgemajcplbllaaDotB
set_option linter.unusedVariables false
set_option linter.unusedSimpArgs false
set_option maxRecDepth 100000
namespace Go.Proofs.Ytdgemajcplbllaa
open Go.Eng

theorem right_all : ∀ {c : List Run} {p : Option Run}, rightFrom p c = true → ∀ {i : Nat} {r : Run}, c[i]? = some r → runP r
  | [], _, _, _, _, h => by simp at h
  | x :: l, p, hr, 0, r, h => by
    simp only [rightFrom, Bool.and_eq_true] at hr
    obtain rfl : x = r := by simpa using h
    exact of_decide_eq_true hr.1.1
  | x :: l, p, hr, i + 1, r, h => by
    simp only [rightFrom, Bool.and_eq_true] at hr
    exact right_all hr.2 (i := i) (by simpa using h)

/-- A run's bytes. -/
def runBy (r : Run) : List Int := numL r.1.toNat ++ (numL r.2.1.toNat ++ numL (r.2.2 - r.2.1).toNat)
def runsBy : List Run → List Int
  | [] => []
  | r :: l => runBy r ++ runsBy l
def clockBy (c : List Run) : List Int := numL c.length ++ runsBy c
theorem runsBy_app : ∀ (a b : List Run), runsBy (a ++ b) = runsBy a ++ runsBy b
  | [], _ => rfl
  | r :: a, b => by simp only [List.cons_append, runsBy, runsBy_app a b, List.append_assoc]
theorem runsBy_step {c : List Run} {i : Nat} {r : Run} (h : c[i]? = some r) : runsBy (c.take (i + 1)) = runsBy (c.take i) ++ runBy r := by
  rw [List.take_add_one, h, runsBy_app]
  show runsBy _ ++ (runBy r ++ []) = _
  rw [List.append_nil]
theorem runBy_le {r : Run} (h : runP r) : (runBy r).length ≤ 27 := by
  have h1 := numL_le (u := r.1.toNat) (by omega)
  have h2 := numL_le (u := r.2.1.toNat) (by omega)
  have h3 := numL_le (u := (r.2.2 - r.2.1).toNat) (by omega)
  simp only [runBy, List.length_append]; omega
theorem runsBy_le {c : List Run} (h : rightB c = true) : ∀ i, i ≤ c.length → (runsBy (c.take i)).length ≤ 27 * i
  | 0, _ => by simp [runsBy]
  | i + 1, hi => by
    obtain ⟨r, hr⟩ := get_ex (show i < c.length by omega)
    have h1 := runsBy_le h i (by omega)
    have h2 := runBy_le (right_all h hr)
    rw [runsBy_step hr, List.length_append]; omega
theorem clockBy_le {c : List Run} (h : rightB c = true) (hl : c.length ≤ 1024) : (clockBy c).length ≤ 27657 := by
  have h1 := runsBy_le h c.length (Nat.le_refl _)
  rw [List.take_length] at h1
  have h2 := numL_le (u := c.length) (by omega)
  simp only [clockBy, List.length_append]; omega

structure PutX where
  bs : List Int
  c : List Run
@[reducible] def putOk (c : List Run) : Bool := rightB c && decide (c.length ≤ 1024)
@[reducible] def dputC : Ctr := {
  X := PutX
  Y := Unit
  args := fun x => [.ptr 0 0, .ro false runT x.c]
  rw := fun x => penE 0 x.bs 1
  side := fun x => rightB x.c = true ∧ x.c.length ≤ 1024 ∧ x.bs.length ≤ 100000000000
  val := fun _ => ()
  ens := fun _ _ => True
  res := fun x y => .v (.bool true)
  out := fun x _ => penE 0 (x.bs ++ clockBy x.c) 1000 }
@[reducible] def dputL (x : PutX) : LA := {
  X := Nat
  pre := fun i => i ≤ x.c.length
  mu := fun i => x.c.length - i
  T := fun i => [(0, .ptr 0 0), (20, .ro false runT x.c), (21, .v (.int .i64 x.c.length)), (22, .v (.int .i64 i))]
  M := fun i => penE 0 (x.bs ++ numL x.c.length ++ runsBy (x.c.take i)) 2 }
theorem knownD3 : Known Try.prog (gOf [(71, drightC), (66, numC)]) := known_cons ⟨dright_ok, Try.call71⟩ (known_cons ⟨num_ok, Try.call66⟩ (known_nil _))
theorem natOf {n : Int} (h : 0 ≤ n) : ∃ k : Nat, n = (k : Int) := ⟨n.toNat, by omega⟩
theorem dput_ok : dputC.ok Try.prog 67 := by
  refine ok_of_vc (An := fun (x : PutX) => anOf [(0, .loop (dputL x))]) knownD3 mo Try.func67 (by kernel_rfl) (by kernel_rfl) (fun _ _ => trivial) (fun x hs => ?_)
  obtain ⟨bs, c⟩ := x
  have hs : rightB c = true ∧ c.length ≤ 1024 ∧ bs.length ≤ 100000000000 := hs
  obtain ⟨hb, hl, hbl⟩ := hs
  have hw : IntKind.u64.wrap ((c.length : Nat) : Int) = ((c.length : Nat) : Int) := wrap_u64 (by omega) (by omega)
  have hn := numL_le (u := c.length) (by omega)
  ((repeat' ((conv => whnf) <;> first | exact True.intro | refine F1 ?_ | refine F2 ?_ | refine F3 (fun h => ?_) fun h => ?_ | refine F4 (fun h => ?_) fun h => ?_ | refine R1 ?_ | refine A1 ?_ | refine A2 ?_ | refine L1 ?_ | refine K1 ?_ | (refine Y2 fun y he he' hy => ?_; (try dsimp only at he he' hy)) | (refine Y1 fun y he hy => ?_; (try with_reducible conv at he => (rhs; whnf)); (try dsimp only at he hy)) | (refine All'.mk ?_; intro y hy) | refine Q1 ?_ | fail)); all_goals (conv => whnf))
  refine CallP.mk (C := drightC) c ?_
  ((repeat' ((conv => whnf) <;> first | exact True.intro | refine F1 ?_ | refine F2 ?_ | refine F3 (fun h => ?_) fun h => ?_ | refine F4 (fun h => ?_) fun h => ?_ | refine R1 ?_ | refine A1 ?_ | refine A2 ?_ | refine L1 ?_ | refine K1 ?_ | (refine Y2 fun y he he' hy => ?_; (try dsimp only at he he' hy)) | (refine Y1 fun y he hy => ?_; (try with_reducible conv at he => (rhs; whnf)); (try dsimp only at he hy)) | (refine All'.mk ?_; intro y hy) | refine Q1 ?_ | fail)); all_goals (conv => whnf))
  clear he
  refine CallP.mk (C := numC) ⟨bs, c.length⟩ ?_
  ((repeat' ((conv => whnf) <;> first | exact True.intro | refine F1 ?_ | refine F2 ?_ | refine F3 (fun h => ?_) fun h => ?_ | refine F4 (fun h => ?_) fun h => ?_ | refine R1 ?_ | refine A1 ?_ | refine A2 ?_ | refine L1 ?_ | refine K1 ?_ | (refine Y2 fun y he he' hy => ?_; (try dsimp only at he he' hy)) | (refine Y1 fun y he hy => ?_; (try with_reducible conv at he => (rhs; whnf)); (try dsimp only at he hy)) | (refine All'.mk ?_; intro y hy) | refine Q1 ?_ | fail)); all_goals (conv => whnf))
  refine Some'.mk 0 ?_
  have hz : bs ++ numL c.length ++ runsBy (c.take 0) = bs ++ numL c.length := by simp [runsBy]
  ((repeat' ((conv => whnf) <;> first | exact True.intro | refine F1 ?_ | refine F2 ?_ | (refine Fork.pos ?_ ?_; · (simp only [hz, decide_eq_true_eq, beq_iff_eq, bne_iff_ne, ne_eq] <;> omega)) | (refine Fork.neg ?_ ?_; · (simp only [hz, decide_eq_false_iff_not, beq_eq_false_iff_ne] <;> omega)) | refine F3 (fun h => ?_) fun h => ?_ | refine F4 (fun h => ?_) fun h => ?_ | refine R1 ?_ | refine A1 ?_ | refine A2 ?_ | (refine Ar.fit (wrap_i64 ?_ ?_) ?_; · ((try dsimp only) <;> simp only [hz] <;> omega); · ((try dsimp only) <;> simp only [hz] <;> omega)) | (refine Ar.fit (wrap_u64 ?_ ?_) ?_; · ((try dsimp only) <;> simp only [hz] <;> omega); · ((try dsimp only) <;> simp only [hz] <;> omega)) | (refine AskL.mk ?_ ?_; · ((simp only [conj]; repeat' apply And.intro) <;> first | rfl | trivial | omega | (simp only [hz]; done) | (simp only [hz] <;> omega) | (simp only [hz]; refine Bool.eq_iff_iff.2 ?_; simp only [decide_eq_true_eq, Bool.false_eq_true, true_iff, iff_true, false_iff, iff_false, eq_self]; omega) | (simp only [*, hz]; done))) | refine L1 ?_ | refine K1 ?_ | (refine Ask.mk ?_ ?_; · ((try dsimp only) <;> simp only [hz] <;> omega)) | (refine Y2 fun y he he' hy => ?_; (try dsimp only at he he' hy)) | (refine Y1 fun y he hy => ?_; (try with_reducible conv at he => (rhs; whnf)); (try dsimp only at he hy)) | (refine All'.mk ?_; intro y hy) | refine Q1 ?_ | fail)); all_goals (conv => whnf))
  refine AllI.mk ?_
  rintro (i : Nat) h1
  dsimp only at h1
  clear hz he
  rcases Nat.lt_or_ge i c.length with hlt | hge
  · obtain ⟨⟨m, f, t⟩, hr⟩ := get_ex hlt
    have hrl := runsBy_le hb i (by omega)
    have hst := runsBy_step hr
    obtain ⟨k1, k2, k3, k4, k5⟩ : 0 ≤ m ∧ m ≤ 7 ∧ 1 ≤ f ∧ f ≤ t ∧ t ≤ 1099511627776 := right_all hb hr
    obtain ⟨m, rfl⟩ := natOf k1
    obtain ⟨f, rfl⟩ := natOf (n := f) (by omega)
    obtain ⟨d, hd⟩ := natOf (n := t - f) (by omega)
    have hw1 : IntKind.u64.wrap ((m : Nat) : Int) = ((m : Nat) : Int) := wrap_u64 (by omega) (by omega)
    have hw2 : IntKind.u64.wrap ((f : Nat) : Int) = ((f : Nat) : Int) := wrap_u64 (by omega) (by omega)
    have hw3 : IntKind.u64.wrap (t - ((f : Nat) : Int)) = ((d : Nat) : Int) := by rw [hd, wrap_u64 (by omega) (by omega)]
    have hby : runBy (((m : Nat) : Int), ((f : Nat) : Int), t) = numL m ++ (numL f ++ numL d) := by
      show numL _ ++ (numL _ ++ numL (t - ((f : Nat) : Int)).toNat) = _
      rw [hd]; rfl
    have hn1 := numL_le (u := m) (by omega)
    have hn2 := numL_le (u := f) (by omega)
    have hn3 := numL_le (u := d) (by omega)
    rw [hby] at hst
    clear hby
    generalize hq : runsBy (c.take i) = q at hst hrl
    ((repeat' ((conv => whnf) <;> first | exact True.intro | refine F1 ?_ | refine F2 ?_ | (refine Fork.pos ?_ ?_; · (simp only [List.length_append, hq, decide_eq_true_eq, beq_iff_eq, bne_iff_ne, ne_eq] <;> omega)) | (refine Fork.neg ?_ ?_; · (simp only [List.length_append, hq, decide_eq_false_iff_not, beq_eq_false_iff_ne] <;> omega)) | refine F3 (fun h => ?_) fun h => ?_ | refine F4 (fun h => ?_) fun h => ?_ | refine R1 ?_ | refine A1 ?_ | refine A2 ?_ | (refine Ar.fit (wrap_i64 ?_ ?_) ?_; · ((try dsimp only) <;> simp only [List.length_append, hq] <;> omega); · ((try dsimp only) <;> simp only [List.length_append, hq] <;> omega)) | (refine Ar.fit (wrap_u64 ?_ ?_) ?_; · ((try dsimp only) <;> simp only [List.length_append, hq] <;> omega); · ((try dsimp only) <;> simp only [List.length_append, hq] <;> omega)) | (refine AskL.mk ?_ ?_; · ((simp only [conj]; repeat' apply And.intro) <;> first | rfl | trivial | omega | (simp only [List.length_append, hq]; done) | (simp only [List.length_append, hq] <;> omega) | (simp only [List.length_append, hq]; refine Bool.eq_iff_iff.2 ?_; simp only [decide_eq_true_eq, Bool.false_eq_true, true_iff, iff_true, false_iff, iff_false, eq_self]; omega) | (simp only [*, List.length_append, hq]; done))) | refine L1 ?_ | refine K1 ?_ | (refine Ask.mk ?_ ?_; · ((try dsimp only) <;> simp only [List.length_append, hq] <;> omega)) | (refine Y2 fun y he he' hy => ?_; (try dsimp only at he he' hy)) | (refine Y1 fun y he hy => ?_; (try with_reducible conv at he => (rhs; whnf)); (try dsimp only at he hy)) | refine Q1 ?_ | fail)); all_goals (conv => whnf))
    refine All'.mk ?_
    rintro (y : Run) hy
    obtain rfl : (((m : Nat) : Int), ((f : Nat) : Int), t) = y := Option.some.inj (hr.symm.trans hy)
    clear hy
    ((repeat' ((conv => whnf) <;> first | exact True.intro | refine F1 ?_ | refine F2 ?_ | (refine Fork.pos ?_ ?_; · (simp only [List.length_append, hq, decide_eq_true_eq, beq_iff_eq, bne_iff_ne, ne_eq] <;> omega)) | (refine Fork.neg ?_ ?_; · (simp only [List.length_append, hq, decide_eq_false_iff_not, beq_eq_false_iff_ne] <;> omega)) | refine F3 (fun h => ?_) fun h => ?_ | refine F4 (fun h => ?_) fun h => ?_ | refine R1 ?_ | refine A1 ?_ | refine A2 ?_ | (refine Ar.fit (wrap_i64 ?_ ?_) ?_; · ((try dsimp only) <;> simp only [List.length_append, hq] <;> omega); · ((try dsimp only) <;> simp only [List.length_append, hq] <;> omega)) | (refine Ar.fit (wrap_u64 ?_ ?_) ?_; · ((try dsimp only) <;> simp only [List.length_append, hq] <;> omega); · ((try dsimp only) <;> simp only [List.length_append, hq] <;> omega)) | (refine AskL.mk ?_ ?_; · ((simp only [conj]; repeat' apply And.intro) <;> first | rfl | trivial | omega | (simp only [List.length_append, hq]; done) | (simp only [List.length_append, hq] <;> omega) | (simp only [List.length_append, hq]; refine Bool.eq_iff_iff.2 ?_; simp only [decide_eq_true_eq, Bool.false_eq_true, true_iff, iff_true, false_iff, iff_false, eq_self]; omega) | (simp only [*, List.length_append, hq]; done))) | refine L1 ?_ | refine K1 ?_ | (refine Ask.mk ?_ ?_; · ((try dsimp only) <;> simp only [List.length_append, hq] <;> omega)) | (refine Y2 fun y he he' hy => ?_; (try dsimp only at he he' hy)) | (refine Y1 fun y he hy => ?_; (try with_reducible conv at he => (rhs; whnf)); (try dsimp only at he hy)) | refine Q1 ?_ | fail)); all_goals (conv => whnf))
    refine CallP.mk (C := numC) ⟨bs ++ numL c.length ++ q, m⟩ ?_
    ((repeat' ((conv => whnf) <;> first | exact True.intro | refine F1 ?_ | refine F2 ?_ | (refine Fork.pos ?_ ?_; · (simp only [List.length_append, hq, decide_eq_true_eq, beq_iff_eq, bne_iff_ne, ne_eq] <;> omega)) | (refine Fork.neg ?_ ?_; · (simp only [List.length_append, hq, decide_eq_false_iff_not, beq_eq_false_iff_ne] <;> omega)) | refine F3 (fun h => ?_) fun h => ?_ | refine F4 (fun h => ?_) fun h => ?_ | refine R1 ?_ | refine A1 ?_ | refine A2 ?_ | (refine Ar.fit (wrap_i64 ?_ ?_) ?_; · ((try dsimp only) <;> simp only [List.length_append, hq] <;> omega); · ((try dsimp only) <;> simp only [List.length_append, hq] <;> omega)) | (refine Ar.fit (wrap_u64 ?_ ?_) ?_; · ((try dsimp only) <;> simp only [List.length_append, hq] <;> omega); · ((try dsimp only) <;> simp only [List.length_append, hq] <;> omega)) | (refine AskL.mk ?_ ?_; · ((simp only [conj]; repeat' apply And.intro) <;> first | rfl | trivial | omega | (simp only [List.length_append, hq]; done) | (simp only [List.length_append, hq] <;> omega) | (simp only [List.length_append, hq]; refine Bool.eq_iff_iff.2 ?_; simp only [decide_eq_true_eq, Bool.false_eq_true, true_iff, iff_true, false_iff, iff_false, eq_self]; omega) | (simp only [*, List.length_append, hq]; done))) | refine L1 ?_ | refine K1 ?_ | (refine Ask.mk ?_ ?_; · ((try dsimp only) <;> simp only [List.length_append, hq] <;> omega)) | (refine Y2 fun y he he' hy => ?_; (try dsimp only at he he' hy)) | (refine Y1 fun y he hy => ?_; (try with_reducible conv at he => (rhs; whnf)); (try dsimp only at he hy)) | (refine All'.mk ?_; intro y hy) | refine Q1 ?_ | fail)); all_goals (conv => whnf))
    clear he
    refine CallP.mk (C := numC) ⟨bs ++ numL c.length ++ q ++ numL m, f⟩ ?_
    ((repeat' ((conv => whnf) <;> first | exact True.intro | refine F1 ?_ | refine F2 ?_ | (refine Fork.pos ?_ ?_; · (simp only [List.length_append, hq, decide_eq_true_eq, beq_iff_eq, bne_iff_ne, ne_eq] <;> omega)) | (refine Fork.neg ?_ ?_; · (simp only [List.length_append, hq, decide_eq_false_iff_not, beq_eq_false_iff_ne] <;> omega)) | refine F3 (fun h => ?_) fun h => ?_ | refine F4 (fun h => ?_) fun h => ?_ | refine R1 ?_ | refine A1 ?_ | refine A2 ?_ | (refine Ar.fit (wrap_i64 ?_ ?_) ?_; · ((try dsimp only) <;> simp only [List.length_append, hq] <;> omega); · ((try dsimp only) <;> simp only [List.length_append, hq] <;> omega)) | (refine Ar.fit (wrap_u64 ?_ ?_) ?_; · ((try dsimp only) <;> simp only [List.length_append, hq] <;> omega); · ((try dsimp only) <;> simp only [List.length_append, hq] <;> omega)) | (refine AskL.mk ?_ ?_; · ((simp only [conj]; repeat' apply And.intro) <;> first | rfl | trivial | omega | (simp only [List.length_append, hq]; done) | (simp only [List.length_append, hq] <;> omega) | (simp only [List.length_append, hq]; refine Bool.eq_iff_iff.2 ?_; simp only [decide_eq_true_eq, Bool.false_eq_true, true_iff, iff_true, false_iff, iff_false, eq_self]; omega) | (simp only [*, List.length_append, hq]; done))) | refine L1 ?_ | refine K1 ?_ | (refine Ask.mk ?_ ?_; · ((try dsimp only) <;> simp only [List.length_append, hq] <;> omega)) | (refine Y2 fun y he he' hy => ?_; (try dsimp only at he he' hy)) | (refine Y1 fun y he hy => ?_; (try with_reducible conv at he => (rhs; whnf)); (try dsimp only at he hy)) | (refine All'.mk ?_; intro y hy) | refine Q1 ?_ | fail)); all_goals (conv => whnf))
    clear he
    refine CallP.mk (C := numC) ⟨bs ++ numL c.length ++ q ++ numL m ++ numL f, d⟩ ?_
    ((repeat' ((conv => whnf) <;> first | exact True.intro | refine F1 ?_ | refine F2 ?_ | (refine Fork.pos ?_ ?_; · (simp only [List.length_append, hq, decide_eq_true_eq, beq_iff_eq, bne_iff_ne, ne_eq] <;> omega)) | (refine Fork.neg ?_ ?_; · (simp only [List.length_append, hq, decide_eq_false_iff_not, beq_eq_false_iff_ne] <;> omega)) | refine F3 (fun h => ?_) fun h => ?_ | refine F4 (fun h => ?_) fun h => ?_ | refine R1 ?_ | refine A1 ?_ | refine A2 ?_ | (refine Ar.fit (wrap_i64 ?_ ?_) ?_; · ((try dsimp only) <;> simp only [List.length_append, hq] <;> omega); · ((try dsimp only) <;> simp only [List.length_append, hq] <;> omega)) | (refine Ar.fit (wrap_u64 ?_ ?_) ?_; · ((try dsimp only) <;> simp only [List.length_append, hq] <;> omega); · ((try dsimp only) <;> simp only [List.length_append, hq] <;> omega)) | (refine AskL.mk ?_ ?_; · ((simp only [conj]; repeat' apply And.intro) <;> first | rfl | trivial | omega | (simp only [List.length_append, hq]; done) | (simp only [List.length_append, hq] <;> omega) | (simp only [List.length_append, hq]; refine Bool.eq_iff_iff.2 ?_; simp only [decide_eq_true_eq, Bool.false_eq_true, true_iff, iff_true, false_iff, iff_false, eq_self]; omega) | (simp only [*, List.length_append, hq]; done))) | refine L1 ?_ | refine K1 ?_ | (refine Ask.mk ?_ ?_; · ((try dsimp only) <;> simp only [List.length_append, hq] <;> omega)) | (refine Y2 fun y he he' hy => ?_; (try dsimp only at he he' hy)) | (refine Y1 fun y he hy => ?_; (try with_reducible conv at he => (rhs; whnf)); (try dsimp only at he hy)) | (refine All'.mk ?_; intro y hy) | refine Q1 ?_ | fail)); all_goals (conv => whnf))
    clear he
    refine Some'.mk (i + 1) ?_
    ((repeat' ((conv => whnf) <;> first | exact True.intro | refine F1 ?_ | refine F2 ?_ | (refine Fork.pos ?_ ?_; · (simp only [hst, List.append_assoc, decide_eq_true_eq, beq_iff_eq, bne_iff_ne, ne_eq] <;> omega)) | (refine Fork.neg ?_ ?_; · (simp only [hst, List.append_assoc, decide_eq_false_iff_not, beq_eq_false_iff_ne] <;> omega)) | refine F3 (fun h => ?_) fun h => ?_ | refine F4 (fun h => ?_) fun h => ?_ | refine R1 ?_ | refine A1 ?_ | refine A2 ?_ | (refine Ar.fit (wrap_i64 ?_ ?_) ?_; · ((try dsimp only) <;> simp only [hst, List.append_assoc] <;> omega); · ((try dsimp only) <;> simp only [hst, List.append_assoc] <;> omega)) | (refine Ar.fit (wrap_u64 ?_ ?_) ?_; · ((try dsimp only) <;> simp only [hst, List.append_assoc] <;> omega); · ((try dsimp only) <;> simp only [hst, List.append_assoc] <;> omega)) | (refine AskL.mk ?_ ?_; · ((simp only [conj]; repeat' apply And.intro) <;> first | rfl | trivial | omega | (simp only [hst, List.append_assoc]; done) | (simp only [hst, List.append_assoc] <;> omega) | (simp only [hst, List.append_assoc]; refine Bool.eq_iff_iff.2 ?_; simp only [decide_eq_true_eq, Bool.false_eq_true, true_iff, iff_true, false_iff, iff_false, eq_self]; omega) | (simp only [*, hst, List.append_assoc]; done))) | refine L1 ?_ | refine K1 ?_ | (refine Ask.mk ?_ ?_; · ((try dsimp only) <;> simp only [hst, List.append_assoc] <;> omega)) | (refine Y2 fun y he he' hy => ?_; (try dsimp only at he he' hy)) | (refine Y1 fun y he hy => ?_; (try with_reducible conv at he => (rhs; whnf)); (try dsimp only at he hy)) | (refine All'.mk ?_; intro y hy) | refine Q1 ?_ | fail)); all_goals (conv => whnf))
  · have hh : c.take i = c := List.take_of_length_le hge
    have hcb : bs ++ numL c.length ++ runsBy (c.take i) = bs ++ clockBy c := by rw [hh, List.append_assoc]; rfl
    ((repeat' ((conv => whnf) <;> first | exact True.intro | refine F1 ?_ | refine F2 ?_ | (refine Fork.pos ?_ ?_; · (simp only [hcb, decide_eq_true_eq, beq_iff_eq, bne_iff_ne, ne_eq] <;> omega)) | (refine Fork.neg ?_ ?_; · (simp only [hcb, decide_eq_false_iff_not, beq_eq_false_iff_ne] <;> omega)) | refine F3 (fun h => ?_) fun h => ?_ | refine F4 (fun h => ?_) fun h => ?_ | refine R1 ?_ | refine A1 ?_ | refine A2 ?_ | (refine Ar.fit (wrap_i64 ?_ ?_) ?_; · ((try dsimp only) <;> simp only [hcb] <;> omega); · ((try dsimp only) <;> simp only [hcb] <;> omega)) | (refine Ar.fit (wrap_u64 ?_ ?_) ?_; · ((try dsimp only) <;> simp only [hcb] <;> omega); · ((try dsimp only) <;> simp only [hcb] <;> omega)) | (refine AskL.mk ?_ ?_; · ((simp only [conj]; repeat' apply And.intro) <;> first | rfl | trivial | omega | (simp only [hcb]; done) | (simp only [hcb] <;> omega) | (simp only [hcb]; refine Bool.eq_iff_iff.2 ?_; simp only [decide_eq_true_eq, Bool.false_eq_true, true_iff, iff_true, false_iff, iff_false, eq_self]; omega) | (simp only [*, hcb]; done))) | refine L1 ?_ | refine K1 ?_ | (refine Ask.mk ?_ ?_; · ((try dsimp only) <;> simp only [hcb] <;> omega)) | (refine Y2 fun y he he' hy => ?_; (try dsimp only at he he' hy)) | (refine Y1 fun y he hy => ?_; (try with_reducible conv at he => (rhs; whnf)); (try dsimp only at he hy)) | (refine All'.mk ?_; intro y hy) | refine Q1 ?_ | fail)); all_goals (conv => whnf))
@[reducible] def rclockC : Ctr := {
  X := List Run
  Y := Unit
  args := fun c => [.ro false runT c]
  rw := fun _ => []
  side := fun c => rightB c = true ∧ c.length ≤ 1024
  val := fun _ => ()
  ens := fun _ _ => True
  res := fun c _ => .v (.string (strOfNums (clockBy c)))
  out := fun _ _ => [] }
@[reducible] def rclockL (c : List Run) : LA := {
  X := Nat
  pre := fun i => i ≤ c.length
  mu := fun i => c.length - i
  T := fun i => [(3, .v (.string (strOfNums (numL c.length ++ runsBy (c.take i))))), (10, .ro false runT c), (11, .v (.int .i64 c.length)), (12, .v (.int .i64 i))]
  M := fun i => [] }
theorem rclock_ok : rclockC.ok Try.prog 57 := by
  refine ok_of_vc (An := fun (x : List Run) => anOf [(0, .loop (rclockL x))]) knownP3 mo Try.func57 (by kernel_rfl) (by kernel_rfl) (fun _ _ => trivial) (fun (c : List Run) hs => ?_)
  have hs : rightB c = true ∧ c.length ≤ 1024 := hs
  obtain ⟨hb, hl⟩ := hs
  have hw : IntKind.u64.wrap ((c.length : Nat) : Int) = ((c.length : Nat) : Int) := wrap_u64 (by omega) (by omega)
  have hn := numL_le (u := c.length) (by omega)
  ((repeat' ((conv => whnf) <;> first | exact True.intro | refine F1 ?_ | refine F2 ?_ | refine F3 (fun h => ?_) fun h => ?_ | refine F4 (fun h => ?_) fun h => ?_ | refine R1 ?_ | refine A1 ?_ | refine A2 ?_ | refine L1 ?_ | refine K1 ?_ | (refine Y2 fun y he he' hy => ?_; (try dsimp only at he he' hy)) | (refine Y1 fun y he hy => ?_; (try with_reducible conv at he => (rhs; whnf)); (try dsimp only at he hy)) | (refine All'.mk ?_; intro y hy) | refine Q1 ?_ | fail)); all_goals (conv => whnf))
  refine CallP.mk (C := rnumC) c.length ?_
  ((repeat' ((conv => whnf) <;> first | exact True.intro | refine F1 ?_ | refine F2 ?_ | refine F3 (fun h => ?_) fun h => ?_ | refine F4 (fun h => ?_) fun h => ?_ | refine R1 ?_ | refine A1 ?_ | refine A2 ?_ | refine L1 ?_ | refine K1 ?_ | (refine Y2 fun y he he' hy => ?_; (try dsimp only at he he' hy)) | (refine Y1 fun y he hy => ?_; (try with_reducible conv at he => (rhs; whnf)); (try dsimp only at he hy)) | (refine All'.mk ?_; intro y hy) | refine Q1 ?_ | fail)); all_goals (conv => whnf))
  refine Some'.mk 0 ?_
  have hz : numL c.length ++ runsBy (c.take 0) = numL c.length := by simp [runsBy]
  ((repeat' ((conv => whnf) <;> first | exact True.intro | refine F1 ?_ | refine F2 ?_ | (refine Fork.pos ?_ ?_; · (simp only [hz, decide_eq_true_eq, beq_iff_eq, bne_iff_ne, ne_eq] <;> omega)) | (refine Fork.neg ?_ ?_; · (simp only [hz, decide_eq_false_iff_not, beq_eq_false_iff_ne] <;> omega)) | refine F3 (fun h => ?_) fun h => ?_ | refine F4 (fun h => ?_) fun h => ?_ | refine R1 ?_ | refine A1 ?_ | refine A2 ?_ | (refine Ar.fit (wrap_i64 ?_ ?_) ?_; · ((try dsimp only) <;> simp only [hz] <;> omega); · ((try dsimp only) <;> simp only [hz] <;> omega)) | (refine Ar.fit (wrap_u64 ?_ ?_) ?_; · ((try dsimp only) <;> simp only [hz] <;> omega); · ((try dsimp only) <;> simp only [hz] <;> omega)) | (refine AskL.mk ?_ ?_; · ((simp only [conj]; repeat' apply And.intro) <;> first | rfl | trivial | omega | (simp only [hz]; done) | (simp only [hz] <;> omega) | (simp only [hz]; refine Bool.eq_iff_iff.2 ?_; simp only [decide_eq_true_eq, Bool.false_eq_true, true_iff, iff_true, false_iff, iff_false, eq_self]; omega) | (simp only [*, hz]; done))) | refine L1 ?_ | refine K1 ?_ | (refine Ask.mk ?_ ?_; · ((try dsimp only) <;> simp only [hz] <;> omega)) | (refine Y2 fun y he he' hy => ?_; (try dsimp only at he he' hy)) | (refine Y1 fun y he hy => ?_; (try with_reducible conv at he => (rhs; whnf)); (try dsimp only at he hy)) | (refine All'.mk ?_; intro y hy) | refine Q1 ?_ | fail)); all_goals (conv => whnf))
  refine AllI.mk ?_
  rintro (i : Nat) h1
  dsimp only at h1
  clear hz he
  rcases Nat.lt_or_ge i c.length with hlt | hge
  · obtain ⟨⟨m, f, t⟩, hr⟩ := get_ex hlt
    have hrl := runsBy_le hb i (by omega)
    have hst := runsBy_step hr
    obtain ⟨k1, k2, k3, k4, k5⟩ : 0 ≤ m ∧ m ≤ 7 ∧ 1 ≤ f ∧ f ≤ t ∧ t ≤ 1099511627776 := right_all hb hr
    obtain ⟨m, rfl⟩ := natOf k1
    obtain ⟨f, rfl⟩ := natOf (n := f) (by omega)
    obtain ⟨d, hd⟩ := natOf (n := t - f) (by omega)
    have hw1 : IntKind.u64.wrap ((m : Nat) : Int) = ((m : Nat) : Int) := wrap_u64 (by omega) (by omega)
    have hw2 : IntKind.u64.wrap ((f : Nat) : Int) = ((f : Nat) : Int) := wrap_u64 (by omega) (by omega)
    have hw3 : IntKind.u64.wrap (t - ((f : Nat) : Int)) = ((d : Nat) : Int) := by rw [hd, wrap_u64 (by omega) (by omega)]
    have hby : runBy (((m : Nat) : Int), ((f : Nat) : Int), t) = numL m ++ (numL f ++ numL d) := by
      show numL _ ++ (numL _ ++ numL (t - ((f : Nat) : Int)).toNat) = _
      rw [hd]; rfl
    have hn1 := numL_le (u := m) (by omega)
    have hn2 := numL_le (u := f) (by omega)
    have hn3 := numL_le (u := d) (by omega)
    rw [hby] at hst
    clear hby
    generalize hq : runsBy (c.take i) = q at hst hrl
    ((repeat' ((conv => whnf) <;> first | exact True.intro | refine F1 ?_ | refine F2 ?_ | (refine Fork.pos ?_ ?_; · (simp only [str_cat, str_size, List.length_append, hq, decide_eq_true_eq, beq_iff_eq, bne_iff_ne, ne_eq] <;> omega)) | (refine Fork.neg ?_ ?_; · (simp only [str_cat, str_size, List.length_append, hq, decide_eq_false_iff_not, beq_eq_false_iff_ne] <;> omega)) | refine F3 (fun h => ?_) fun h => ?_ | refine F4 (fun h => ?_) fun h => ?_ | refine R1 ?_ | refine A1 ?_ | refine A2 ?_ | (refine Ar.fit (wrap_i64 ?_ ?_) ?_; · ((try dsimp only) <;> simp only [str_cat, str_size, List.length_append, hq] <;> omega); · ((try dsimp only) <;> simp only [str_cat, str_size, List.length_append, hq] <;> omega)) | (refine Ar.fit (wrap_u64 ?_ ?_) ?_; · ((try dsimp only) <;> simp only [str_cat, str_size, List.length_append, hq] <;> omega); · ((try dsimp only) <;> simp only [str_cat, str_size, List.length_append, hq] <;> omega)) | (refine AskL.mk ?_ ?_; · ((simp only [conj]; repeat' apply And.intro) <;> first | rfl | trivial | omega | (simp only [str_cat, str_size, List.length_append, hq]; done) | (simp only [str_cat, str_size, List.length_append, hq] <;> omega) | (simp only [str_cat, str_size, List.length_append, hq]; refine Bool.eq_iff_iff.2 ?_; simp only [decide_eq_true_eq, Bool.false_eq_true, true_iff, iff_true, false_iff, iff_false, eq_self]; omega) | (simp only [*, str_cat, str_size, List.length_append, hq]; done))) | refine L1 ?_ | refine K1 ?_ | (refine Ask.mk ?_ ?_; · ((try dsimp only) <;> simp only [str_cat, str_size, List.length_append, hq] <;> omega)) | (refine Y2 fun y he he' hy => ?_; (try dsimp only at he he' hy)) | (refine Y1 fun y he hy => ?_; (try with_reducible conv at he => (rhs; whnf)); (try dsimp only at he hy)) | refine Q1 ?_ | fail)); all_goals (conv => whnf))
    refine All'.mk ?_
    rintro (y : Run) hy
    obtain rfl : (((m : Nat) : Int), ((f : Nat) : Int), t) = y := Option.some.inj (hr.symm.trans hy)
    clear hy
    ((repeat' ((conv => whnf) <;> first | exact True.intro | refine F1 ?_ | refine F2 ?_ | (refine Fork.pos ?_ ?_; · (simp only [str_cat, str_size, List.length_append, hq, decide_eq_true_eq, beq_iff_eq, bne_iff_ne, ne_eq] <;> omega)) | (refine Fork.neg ?_ ?_; · (simp only [str_cat, str_size, List.length_append, hq, decide_eq_false_iff_not, beq_eq_false_iff_ne] <;> omega)) | refine F3 (fun h => ?_) fun h => ?_ | refine F4 (fun h => ?_) fun h => ?_ | refine R1 ?_ | refine A1 ?_ | refine A2 ?_ | (refine Ar.fit (wrap_i64 ?_ ?_) ?_; · ((try dsimp only) <;> simp only [str_cat, str_size, List.length_append, hq] <;> omega); · ((try dsimp only) <;> simp only [str_cat, str_size, List.length_append, hq] <;> omega)) | (refine Ar.fit (wrap_u64 ?_ ?_) ?_; · ((try dsimp only) <;> simp only [str_cat, str_size, List.length_append, hq] <;> omega); · ((try dsimp only) <;> simp only [str_cat, str_size, List.length_append, hq] <;> omega)) | (refine AskL.mk ?_ ?_; · ((simp only [conj]; repeat' apply And.intro) <;> first | rfl | trivial | omega | (simp only [str_cat, str_size, List.length_append, hq]; done) | (simp only [str_cat, str_size, List.length_append, hq] <;> omega) | (simp only [str_cat, str_size, List.length_append, hq]; refine Bool.eq_iff_iff.2 ?_; simp only [decide_eq_true_eq, Bool.false_eq_true, true_iff, iff_true, false_iff, iff_false, eq_self]; omega) | (simp only [*, str_cat, str_size, List.length_append, hq]; done))) | refine L1 ?_ | refine K1 ?_ | (refine Ask.mk ?_ ?_; · ((try dsimp only) <;> simp only [str_cat, str_size, List.length_append, hq] <;> omega)) | (refine Y2 fun y he he' hy => ?_; (try dsimp only at he he' hy)) | (refine Y1 fun y he hy => ?_; (try with_reducible conv at he => (rhs; whnf)); (try dsimp only at he hy)) | refine Q1 ?_ | fail)); all_goals (conv => whnf))
    refine CallP.mk (C := rnumC) m ?_
    ((repeat' ((conv => whnf) <;> first | exact True.intro | refine F1 ?_ | refine F2 ?_ | (refine Fork.pos ?_ ?_; · (simp only [str_cat, str_size, List.length_append, hq, decide_eq_true_eq, beq_iff_eq, bne_iff_ne, ne_eq] <;> omega)) | (refine Fork.neg ?_ ?_; · (simp only [str_cat, str_size, List.length_append, hq, decide_eq_false_iff_not, beq_eq_false_iff_ne] <;> omega)) | refine F3 (fun h => ?_) fun h => ?_ | refine F4 (fun h => ?_) fun h => ?_ | refine R1 ?_ | refine A1 ?_ | refine A2 ?_ | (refine Ar.fit (wrap_i64 ?_ ?_) ?_; · ((try dsimp only) <;> simp only [str_cat, str_size, List.length_append, hq] <;> omega); · ((try dsimp only) <;> simp only [str_cat, str_size, List.length_append, hq] <;> omega)) | (refine Ar.fit (wrap_u64 ?_ ?_) ?_; · ((try dsimp only) <;> simp only [str_cat, str_size, List.length_append, hq] <;> omega); · ((try dsimp only) <;> simp only [str_cat, str_size, List.length_append, hq] <;> omega)) | (refine AskL.mk ?_ ?_; · ((simp only [conj]; repeat' apply And.intro) <;> first | rfl | trivial | omega | (simp only [str_cat, str_size, List.length_append, hq]; done) | (simp only [str_cat, str_size, List.length_append, hq] <;> omega) | (simp only [str_cat, str_size, List.length_append, hq]; refine Bool.eq_iff_iff.2 ?_; simp only [decide_eq_true_eq, Bool.false_eq_true, true_iff, iff_true, false_iff, iff_false, eq_self]; omega) | (simp only [*, str_cat, str_size, List.length_append, hq]; done))) | refine L1 ?_ | refine K1 ?_ | (refine Ask.mk ?_ ?_; · ((try dsimp only) <;> simp only [str_cat, str_size, List.length_append, hq] <;> omega)) | (refine Y2 fun y he he' hy => ?_; (try dsimp only at he he' hy)) | (refine Y1 fun y he hy => ?_; (try with_reducible conv at he => (rhs; whnf)); (try dsimp only at he hy)) | (refine All'.mk ?_; intro y hy) | refine Q1 ?_ | fail)); all_goals (conv => whnf))
    clear he
    refine CallP.mk (C := rnumC) f ?_
    ((repeat' ((conv => whnf) <;> first | exact True.intro | refine F1 ?_ | refine F2 ?_ | (refine Fork.pos ?_ ?_; · (simp only [str_cat, str_size, List.length_append, hq, decide_eq_true_eq, beq_iff_eq, bne_iff_ne, ne_eq] <;> omega)) | (refine Fork.neg ?_ ?_; · (simp only [str_cat, str_size, List.length_append, hq, decide_eq_false_iff_not, beq_eq_false_iff_ne] <;> omega)) | refine F3 (fun h => ?_) fun h => ?_ | refine F4 (fun h => ?_) fun h => ?_ | refine R1 ?_ | refine A1 ?_ | refine A2 ?_ | (refine Ar.fit (wrap_i64 ?_ ?_) ?_; · ((try dsimp only) <;> simp only [str_cat, str_size, List.length_append, hq] <;> omega); · ((try dsimp only) <;> simp only [str_cat, str_size, List.length_append, hq] <;> omega)) | (refine Ar.fit (wrap_u64 ?_ ?_) ?_; · ((try dsimp only) <;> simp only [str_cat, str_size, List.length_append, hq] <;> omega); · ((try dsimp only) <;> simp only [str_cat, str_size, List.length_append, hq] <;> omega)) | (refine AskL.mk ?_ ?_; · ((simp only [conj]; repeat' apply And.intro) <;> first | rfl | trivial | omega | (simp only [str_cat, str_size, List.length_append, hq]; done) | (simp only [str_cat, str_size, List.length_append, hq] <;> omega) | (simp only [str_cat, str_size, List.length_append, hq]; refine Bool.eq_iff_iff.2 ?_; simp only [decide_eq_true_eq, Bool.false_eq_true, true_iff, iff_true, false_iff, iff_false, eq_self]; omega) | (simp only [*, str_cat, str_size, List.length_append, hq]; done))) | refine L1 ?_ | refine K1 ?_ | (refine Ask.mk ?_ ?_; · ((try dsimp only) <;> simp only [str_cat, str_size, List.length_append, hq] <;> omega)) | (refine Y2 fun y he he' hy => ?_; (try dsimp only at he he' hy)) | (refine Y1 fun y he hy => ?_; (try with_reducible conv at he => (rhs; whnf)); (try dsimp only at he hy)) | (refine All'.mk ?_; intro y hy) | refine Q1 ?_ | fail)); all_goals (conv => whnf))
    clear he
    refine CallP.mk (C := rnumC) d ?_
    ((repeat' ((conv => whnf) <;> first | exact True.intro | refine F1 ?_ | refine F2 ?_ | (refine Fork.pos ?_ ?_; · (simp only [str_cat, str_size, List.length_append, hq, decide_eq_true_eq, beq_iff_eq, bne_iff_ne, ne_eq] <;> omega)) | (refine Fork.neg ?_ ?_; · (simp only [str_cat, str_size, List.length_append, hq, decide_eq_false_iff_not, beq_eq_false_iff_ne] <;> omega)) | refine F3 (fun h => ?_) fun h => ?_ | refine F4 (fun h => ?_) fun h => ?_ | refine R1 ?_ | refine A1 ?_ | refine A2 ?_ | (refine Ar.fit (wrap_i64 ?_ ?_) ?_; · ((try dsimp only) <;> simp only [str_cat, str_size, List.length_append, hq] <;> omega); · ((try dsimp only) <;> simp only [str_cat, str_size, List.length_append, hq] <;> omega)) | (refine Ar.fit (wrap_u64 ?_ ?_) ?_; · ((try dsimp only) <;> simp only [str_cat, str_size, List.length_append, hq] <;> omega); · ((try dsimp only) <;> simp only [str_cat, str_size, List.length_append, hq] <;> omega)) | (refine AskL.mk ?_ ?_; · ((simp only [conj]; repeat' apply And.intro) <;> first | rfl | trivial | omega | (simp only [str_cat, str_size, List.length_append, hq]; done) | (simp only [str_cat, str_size, List.length_append, hq] <;> omega) | (simp only [str_cat, str_size, List.length_append, hq]; refine Bool.eq_iff_iff.2 ?_; simp only [decide_eq_true_eq, Bool.false_eq_true, true_iff, iff_true, false_iff, iff_false, eq_self]; omega) | (simp only [*, str_cat, str_size, List.length_append, hq]; done))) | refine L1 ?_ | refine K1 ?_ | (refine Ask.mk ?_ ?_; · ((try dsimp only) <;> simp only [str_cat, str_size, List.length_append, hq] <;> omega)) | (refine Y2 fun y he he' hy => ?_; (try dsimp only at he he' hy)) | (refine Y1 fun y he hy => ?_; (try with_reducible conv at he => (rhs; whnf)); (try dsimp only at he hy)) | (refine All'.mk ?_; intro y hy) | refine Q1 ?_ | fail)); all_goals (conv => whnf))
    clear he
    refine Some'.mk (i + 1) ?_
    ((repeat' ((conv => whnf) <;> first | exact True.intro | refine F1 ?_ | refine F2 ?_ | (refine Fork.pos ?_ ?_; · (simp only [hst, List.append_assoc, str_cat, decide_eq_true_eq, beq_iff_eq, bne_iff_ne, ne_eq] <;> omega)) | (refine Fork.neg ?_ ?_; · (simp only [hst, List.append_assoc, str_cat, decide_eq_false_iff_not, beq_eq_false_iff_ne] <;> omega)) | refine F3 (fun h => ?_) fun h => ?_ | refine F4 (fun h => ?_) fun h => ?_ | refine R1 ?_ | refine A1 ?_ | refine A2 ?_ | (refine Ar.fit (wrap_i64 ?_ ?_) ?_; · ((try dsimp only) <;> simp only [hst, List.append_assoc, str_cat] <;> omega); · ((try dsimp only) <;> simp only [hst, List.append_assoc, str_cat] <;> omega)) | (refine Ar.fit (wrap_u64 ?_ ?_) ?_; · ((try dsimp only) <;> simp only [hst, List.append_assoc, str_cat] <;> omega); · ((try dsimp only) <;> simp only [hst, List.append_assoc, str_cat] <;> omega)) | (refine AskL.mk ?_ ?_; · ((simp only [conj]; repeat' apply And.intro) <;> first | rfl | trivial | omega | (simp only [hst, List.append_assoc, str_cat]; done) | (simp only [hst, List.append_assoc, str_cat] <;> omega) | (simp only [hst, List.append_assoc, str_cat]; refine Bool.eq_iff_iff.2 ?_; simp only [decide_eq_true_eq, Bool.false_eq_true, true_iff, iff_true, false_iff, iff_false, eq_self]; omega) | (simp only [*, hst, List.append_assoc, str_cat]; done))) | refine L1 ?_ | refine K1 ?_ | (refine Ask.mk ?_ ?_; · ((try dsimp only) <;> simp only [hst, List.append_assoc, str_cat] <;> omega)) | (refine Y2 fun y he he' hy => ?_; (try dsimp only at he he' hy)) | (refine Y1 fun y he hy => ?_; (try with_reducible conv at he => (rhs; whnf)); (try dsimp only at he hy)) | (refine All'.mk ?_; intro y hy) | refine Q1 ?_ | fail)); all_goals (conv => whnf))
  · have hh : c.take i = c := List.take_of_length_le hge
    have hcb : numL c.length ++ runsBy (c.take i) = clockBy c := by rw [hh]; rfl
    ((repeat' ((conv => whnf) <;> first | exact True.intro | refine F1 ?_ | refine F2 ?_ | (refine Fork.pos ?_ ?_; · (simp only [hcb, decide_eq_true_eq, beq_iff_eq, bne_iff_ne, ne_eq] <;> omega)) | (refine Fork.neg ?_ ?_; · (simp only [hcb, decide_eq_false_iff_not, beq_eq_false_iff_ne] <;> omega)) | refine F3 (fun h => ?_) fun h => ?_ | refine F4 (fun h => ?_) fun h => ?_ | refine R1 ?_ | refine A1 ?_ | refine A2 ?_ | (refine Ar.fit (wrap_i64 ?_ ?_) ?_; · ((try dsimp only) <;> simp only [hcb] <;> omega); · ((try dsimp only) <;> simp only [hcb] <;> omega)) | (refine Ar.fit (wrap_u64 ?_ ?_) ?_; · ((try dsimp only) <;> simp only [hcb] <;> omega); · ((try dsimp only) <;> simp only [hcb] <;> omega)) | (refine AskL.mk ?_ ?_; · ((simp only [conj]; repeat' apply And.intro) <;> first | rfl | trivial | omega | (simp only [hcb]; done) | (simp only [hcb] <;> omega) | (simp only [hcb]; refine Bool.eq_iff_iff.2 ?_; simp only [decide_eq_true_eq, Bool.false_eq_true, true_iff, iff_true, false_iff, iff_false, eq_self]; omega) | (simp only [*, hcb]; done))) | refine L1 ?_ | refine K1 ?_ | (refine Ask.mk ?_ ?_; · ((try dsimp only) <;> simp only [hcb] <;> omega)) | (refine Y2 fun y he he' hy => ?_; (try dsimp only at he he' hy)) | (refine Y1 fun y he hy => ?_; (try with_reducible conv at he => (rhs; whnf)); (try dsimp only at he hy)) | (refine All'.mk ?_; intro y hy) | refine Q1 ?_ | fail)); all_goals (conv => whnf))
end Go.Proofs.Ytdgemajcplbllaa
