/- Parts of the proof, one behind the other (DotB, DotC, GetA, Rex, EyeT, GetD, VerA). -/
import Derived.Test.YthmbdjhlfieldaaGreatDoorPk7
set_option linter.unusedVariables false
set_option linter.unusedSimpArgs false
set_option linter.unusedSectionVars false
set_option linter.unusedVariables false
set_option linter.unusedSimpArgs false
set_option maxRecDepth 100000
namespace Go.Proofs.YthmbdjhlfieldaaGreatDoor
open Go.Eng
variable [DM]
set_option linter.unusedSectionVars false
def topF (node : Int) : Int → List Run → Int
  | n, [] => n
  | n, r :: l => topF node (if r.1 = node then r.2.2 else n) l
def topG (node : Int) : Int → List Run → Int
  | n, [] => n
  | n, r :: l => topG node (if r.1 = node ∧ n < r.2.2 then r.2.2 else n) l
theorem top_same (node : Int) : ∀ (l : List Run) (p : Option Run) (n : Int), rightFrom p l = true → 0 ≤ n →
    (match p with | none => n = 0 | some q => (q.1 = node → n = q.2.2) ∧ (q.1 < node → n = 0)) → topG node n l = topF node n l
  | [], _, _, _, _, _ => rfl
  | r :: l, p, n, hr, h0, hp => by
    simp only [rightFrom, Bool.and_eq_true] at hr
    obtain ⟨⟨h1, h2⟩, h3⟩ := hr
    have h1 : 0 ≤ r.1 ∧ r.1 ≤ 7 ∧ 1 ≤ r.2.1 ∧ r.2.1 ≤ r.2.2 ∧ r.2.2 ≤ 1099511627776 := of_decide_eq_true h1
    have hlt : r.1 = node → n < r.2.2 := by
      intro hn
      cases p with
      | none => dsimp only at hp; omega
      | some q =>
        have h2 : ¬ (r.1 < q.1 ∨ q.1 = r.1 ∧ r.2.1 - 1 ≤ q.2.2) := of_decide_eq_true h2
        dsimp only at hp
        by_cases hq : q.1 = node
        · have := hp.1 hq; omega
        · have := hp.2 (by omega); omega
    have he : (if r.1 = node ∧ n < r.2.2 then r.2.2 else n) = (if r.1 = node then r.2.2 else n) := by
      by_cases hn : r.1 = node
      · rw [if_pos ⟨hn, hlt hn⟩, if_pos hn]
      · rw [if_neg (fun h => hn h.1), if_neg hn]
    show topG node _ l = topF node _ l
    rw [he]
    refine top_same node l (some r) _ h3 (by split <;> omega) ?_
    dsimp only
    constructor
    · intro hn; rw [if_pos hn]
    · intro hn
      rw [if_neg (by omega)]
      cases p with
      | none => exact hp
      | some q =>
        have h2 : ¬ (r.1 < q.1 ∨ q.1 = r.1 ∧ r.2.1 - 1 ≤ q.2.2) := of_decide_eq_true h2
        dsimp only at hp
        exact hp.2 (by omega)

def topN (c : List Run) (node : Int) : Int := if rightB c = true then topF node 0 c else 0
theorem topN_right {c : List Run} (h : rightB c = true) (node : Int) : topN c node = topF node 0 c := if_pos h
theorem topN_wrong {c : List Run} (h : rightB c = false) (node : Int) : topN c node = 0 := by
  unfold topN; rw [h]; rfl
theorem topN_ref {c : List Run} (h : rightB c = true) (node : Int) : topN c node = topG node 0 c := by
  rw [topN_right h, top_same node c none 0 h (Int.le_refl 0) rfl]
theorem topF_step {node n : Int} {c : List Run} {i : Nat} {r : Run} (h : c[i]? = some r) : topF node n (c.drop i) = topF node (if r.1 = node then r.2.2 else n) (c.drop (i + 1)) := by
  obtain ⟨hi, rfl⟩ := List.getElem?_eq_some_iff.1 h
  rw [List.drop_eq_getElem_cons hi]; rfl
theorem topG_step {node n : Int} {c : List Run} {i : Nat} {r : Run} (h : c[i]? = some r) : topG node n (c.drop i) = topG node (if r.1 = node ∧ n < r.2.2 then r.2.2 else n) (c.drop (i + 1)) := by
  obtain ⟨hi, rfl⟩ := List.getElem?_eq_some_iff.1 h
  rw [List.drop_eq_getElem_cons hi]; rfl

@[reducible] def dtopC : Ctr := {
  X := List Run × Int
  Y := Int
  args := fun x => [.ro true runT x.1, .v (.int .i64 x.2)]
  rw := fun _ => []
  side := fun x => x.1.length ≤ 9223372036854775807
  val := fun x => topN x.1 x.2
  ens := fun _ _ => True
  res := fun _ y => .v (.int .i64 y)
  out := fun _ _ => [] }
structure TopS where
  i : Nat
  n : Int
@[reducible] def dtopL (c : List Run) (node : Int) : LA := {
  X := TopS
  pre := fun s => s.i ≤ c.length ∧ topN c node = topF node s.n (c.drop s.i)
  mu := fun s => c.length - s.i
  T := fun s => [(1, .v (.int .i64 node)), (5, .v (.int .i64 s.n)), (12, .ro true runT c), (13, .v (.int .i64 c.length)), (14, .v (.int .i64 s.i))]
  M := fun _ => [] }
theorem knownD2 : Known Tryz.prog (gOf [(51, drightC), (60, drightC)]) := known_cons ⟨dright_ok, Tryz.call51⟩ (known_cons ⟨rdright_ok, Tryz.call60⟩ (known_nil _))
theorem dtop_ok : dtopC.ok Tryz.prog 52 := by
  refine ok_of_vc (An := fun (x : List Run × Int) => anOf [(0, .loop (dtopL x.1 x.2))]) knownD2 mo Tryz.func52 (by kernel_rfl) (by kernel_rfl) (fun _ _ => trivial) (fun x hs => ?_)
  obtain ⟨c, node⟩ := x
  have hs : c.length ≤ 9223372036854775807 := hs
  cases hb : rightB c with
  | false =>
    have ht := topN_wrong hb node
    have ck : Hc drightC c True := .mk trivial
    exact G1
  | true =>
    have ht := topN_right hb node
    have ck : Hc drightC c True := .mk trivial
    (refine Z ?_; repeat' (first | exact .intro | ((first | refine B1 (fun h => ?_) fun h => ?_ | refine B2 fun y he he' hy => ?_ | refine B3 fun y he hy => ?_ | refine B4 fun y hy => ?_ | refine B5 fun ck => ?_ | fail) <;> refine Z ?_)))
    clear he
    refine Some'.mk ⟨0, 0⟩ ?_
    (refine Z ?_; repeat' (first | exact .intro | ((first | refine B1 (fun h => ?_) fun h => ?_ | refine B2 fun y he he' hy => ?_ | refine B3 fun y he hy => ?_ | refine B4 fun y hy => ?_ | refine B5 fun ck => ?_ | fail) <;> refine Z ?_)))
    refine Ask.mk ⟨Nat.zero_le _, ht⟩ ?_
    (refine Z ?_; repeat' (first | exact .intro | ((first | refine B1 (fun h => ?_) fun h => ?_ | refine B2 fun y he he' hy => ?_ | refine B3 fun y he hy => ?_ | refine B4 fun y hy => ?_ | refine B5 fun ck => ?_ | fail) <;> refine Z ?_)))
    refine AllI.mk ?_
    rintro ⟨i, n⟩ ⟨h1, h2⟩
    dsimp only at h1 h2
    clear ht
    rcases Nat.lt_or_ge i c.length with hlt | hge
    · obtain ⟨⟨m, f, t⟩, hr⟩ := get_ex hlt
      rw [topF_step hr] at h2
      dsimp only at h2
      by_cases hm : m = node
      · rw [if_pos hm] at h2
        (refine Zm ?_; repeat' (first | exact .intro | ((first | refine B1 (fun h => ?_) fun h => ?_ | refine B2 fun y he he' hy => ?_ | refine B3 fun y he hy => ?_ | refine B4 fun y hy => ?_ | refine B5 fun ck => ?_ | fail) <;> refine Zm ?_)))
        refine All'.mk ?_
        rintro (y : Run) hy
        obtain rfl : (m, f, t) = y := Option.some.inj (hr.symm.trans hy)
        clear hy
        (refine Zm ?_; repeat' (first | exact .intro | ((first | refine B1 (fun h => ?_) fun h => ?_ | refine B2 fun y he he' hy => ?_ | refine B3 fun y he hy => ?_ | refine B4 fun y hy => ?_ | refine B5 fun ck => ?_ | fail) <;> refine Zm ?_)))
        refine Some'.mk ⟨i + 1, t⟩ ?_
        exact G1
      · rw [if_neg hm] at h2
        (refine Zm ?_; repeat' (first | exact .intro | ((first | refine B1 (fun h => ?_) fun h => ?_ | refine B2 fun y he he' hy => ?_ | refine B3 fun y he hy => ?_ | refine B4 fun y hy => ?_ | refine B5 fun ck => ?_ | fail) <;> refine Zm ?_)))
        refine All'.mk ?_
        rintro (y : Run) hy
        obtain rfl : (m, f, t) = y := Option.some.inj (hr.symm.trans hy)
        clear hy
        (refine Zm ?_; repeat' (first | exact .intro | ((first | refine B1 (fun h => ?_) fun h => ?_ | refine B2 fun y he he' hy => ?_ | refine B3 fun y he hy => ?_ | refine B4 fun y hy => ?_ | refine B5 fun ck => ?_ | fail) <;> refine Zm ?_)))
        refine Some'.mk ⟨i + 1, n⟩ ?_
        exact G1
    · have hh : topF node n (c.drop i) = n := by rw [List.drop_eq_nil_of_le hge]; rfl
      rw [hh] at h2
      exact G1
@[reducible] def rdtopL (c : List Run) (node : Int) : LA := {
  X := TopS
  pre := fun s => s.i ≤ c.length ∧ if rightB c = true then topN c node = topG node s.n (c.drop s.i) else s.n = 0
  mu := fun s => c.length - s.i
  T := fun s => [(0, .ro true runT c), (1, .v (.int .i64 node)), (5, .v (.int .i64 s.n)), (8, .ro true runT c), (9, .v (.int .i64 c.length)), (10, .v (.int .i64 s.i))]
  M := fun _ => [] }
theorem rdtop_ok : dtopC.ok Tryz.prog 61 := by
  refine ok_of_vc (An := fun (x : List Run × Int) => anOf [(0, .loop (rdtopL x.1 x.2))]) knownD2 mo Tryz.func61 (by kernel_rfl) (by kernel_rfl) (fun _ _ => trivial) (fun x hs => ?_)
  obtain ⟨c, node⟩ := x
  have hs : c.length ≤ 9223372036854775807 := hs
  cases hb : rightB c with
  | false =>
    have ht := topN_wrong hb node
    have hp0 : if rightB c = true then topN c node = topG node 0 (c.drop 0) else (0 : Int) = 0 := by rw [hb]; rfl
    (refine Z ?_; repeat' (first | exact .intro | ((first | refine B1 (fun h => ?_) fun h => ?_ | refine B2 fun y he he' hy => ?_ | refine B3 fun y he hy => ?_ | refine B4 fun y hy => ?_ | refine B5 fun ck => ?_ | fail) <;> refine Z ?_)))
    refine Some'.mk ⟨0, 0⟩ ?_
    (refine Z ?_; repeat' (first | exact .intro | ((first | refine B1 (fun h => ?_) fun h => ?_ | refine B2 fun y he he' hy => ?_ | refine B3 fun y he hy => ?_ | refine B4 fun y hy => ?_ | refine B5 fun ck => ?_ | fail) <;> refine Z ?_)))
    refine Ask.mk ⟨Nat.zero_le _, hp0⟩ ?_
    (refine Z ?_; repeat' (first | exact .intro | ((first | refine B1 (fun h => ?_) fun h => ?_ | refine B2 fun y he he' hy => ?_ | refine B3 fun y he hy => ?_ | refine B4 fun y hy => ?_ | refine B5 fun ck => ?_ | fail) <;> refine Z ?_)))
    refine AllI.mk ?_
    rintro ⟨i, n⟩ ⟨h1, h2⟩
    dsimp only at h1 h2
    rw [hb] at h2
    obtain rfl : n = 0 := h2
    rcases Nat.lt_or_ge i c.length with hlt | hge
    · obtain ⟨⟨m, f, t⟩, hr⟩ := get_ex hlt
      (refine Zm ?_; repeat' (first | exact .intro | ((first | refine B1 (fun h => ?_) fun h => ?_ | refine B2 fun y he he' hy => ?_ | refine B3 fun y he hy => ?_ | refine B4 fun y hy => ?_ | refine B5 fun ck => ?_ | fail) <;> refine Zm ?_)))
      refine All'.mk ?_
      rintro (y : Run) hy
      obtain rfl : (m, f, t) = y := Option.some.inj (hr.symm.trans hy)
      clear hy
      (refine Zm ?_; repeat' (first | exact .intro | ((first | refine B1 (fun h => ?_) fun h => ?_ | refine B2 fun y he he' hy => ?_ | refine B3 fun y he hy => ?_ | refine B4 fun y hy => ?_ | refine B5 fun ck => ?_ | fail) <;> refine Zm ?_)))
      all_goals
        try
          refine CallP.mk (C := drightC) c ?_
          (refine Z ?_; repeat' (first | exact .intro | ((first | refine B1 (fun h => ?_) fun h => ?_ | refine B2 fun y he he' hy => ?_ | refine B3 fun y he hy => ?_ | refine B4 fun y hy => ?_ | refine B5 fun ck => ?_ | fail) <;> refine Z ?_)))
      all_goals
        refine Some'.mk ⟨i + 1, 0⟩ ?_
        (refine Z ?_; repeat' (first | exact .intro | ((first | refine B1 (fun h => ?_) fun h => ?_ | refine B2 fun y he he' hy => ?_ | refine B3 fun y he hy => ?_ | refine B4 fun y hy => ?_ | refine B5 fun ck => ?_ | fail) <;> refine Z ?_)))
        refine Ask.mk ⟨hlt, by rw [if_neg (by rw [hb]; exact Bool.false_ne_true)]⟩ ?_
        (refine Z ?_; repeat' (first | exact .intro | ((first | refine B1 (fun h => ?_) fun h => ?_ | refine B2 fun y he he' hy => ?_ | refine B3 fun y he hy => ?_ | refine B4 fun y hy => ?_ | refine B5 fun ck => ?_ | fail) <;> refine Z ?_)))
    · exact G1
  | true =>
    have ht := topN_ref hb node
    have hp0 : if rightB c = true then topN c node = topG node 0 (c.drop 0) else (0 : Int) = 0 := by rw [if_pos hb]; exact ht
    (refine Z ?_; repeat' (first | exact .intro | ((first | refine B1 (fun h => ?_) fun h => ?_ | refine B2 fun y he he' hy => ?_ | refine B3 fun y he hy => ?_ | refine B4 fun y hy => ?_ | refine B5 fun ck => ?_ | fail) <;> refine Z ?_)))
    refine Some'.mk ⟨0, 0⟩ ?_
    (refine Z ?_; repeat' (first | exact .intro | ((first | refine B1 (fun h => ?_) fun h => ?_ | refine B2 fun y he he' hy => ?_ | refine B3 fun y he hy => ?_ | refine B4 fun y hy => ?_ | refine B5 fun ck => ?_ | fail) <;> refine Z ?_)))
    refine Ask.mk ⟨Nat.zero_le _, hp0⟩ ?_
    (refine Z ?_; repeat' (first | exact .intro | ((first | refine B1 (fun h => ?_) fun h => ?_ | refine B2 fun y he he' hy => ?_ | refine B3 fun y he hy => ?_ | refine B4 fun y hy => ?_ | refine B5 fun ck => ?_ | fail) <;> refine Z ?_)))
    refine AllI.mk ?_
    rintro ⟨i, n⟩ ⟨h1, h2⟩
    dsimp only at h1 h2
    rw [if_pos hb] at h2
    clear ht hp0
    rcases Nat.lt_or_ge i c.length with hlt | hge
    · obtain ⟨⟨m, f, t⟩, hr⟩ := get_ex hlt
      rw [topG_step hr] at h2
      dsimp only at h2
      by_cases hm : m = node ∧ n < t
      · rw [if_pos hm] at h2
        have hp1 : if rightB c = true then topN c node = topG node t (c.drop (i + 1)) else t = 0 := by rw [if_pos hb]; exact h2
        obtain ⟨hm1, hm2⟩ := hm
        (refine Zm ?_; repeat' (first | exact .intro | ((first | refine B1 (fun h => ?_) fun h => ?_ | refine B2 fun y he he' hy => ?_ | refine B3 fun y he hy => ?_ | refine B4 fun y hy => ?_ | refine B5 fun ck => ?_ | fail) <;> refine Zm ?_)))
        refine All'.mk ?_
        rintro (y : Run) hy
        obtain rfl : (m, f, t) = y := Option.some.inj (hr.symm.trans hy)
        clear hy
        (refine Zm ?_; repeat' (first | exact .intro | ((first | refine B1 (fun h => ?_) fun h => ?_ | refine B2 fun y he he' hy => ?_ | refine B3 fun y he hy => ?_ | refine B4 fun y hy => ?_ | refine B5 fun ck => ?_ | fail) <;> refine Zm ?_)))
        refine CallP.mk (C := drightC) c ?_
        (refine Z ?_; repeat' (first | exact .intro | ((first | refine B1 (fun h => ?_) fun h => ?_ | refine B2 fun y he he' hy => ?_ | refine B3 fun y he hy => ?_ | refine B4 fun y hy => ?_ | refine B5 fun ck => ?_ | fail) <;> refine Z ?_)))
        refine Some'.mk ⟨i + 1, t⟩ ?_
        exact G1
      · rw [if_neg hm] at h2
        have hp1 : if rightB c = true then topN c node = topG node n (c.drop (i + 1)) else n = 0 := by rw [if_pos hb]; exact h2
        (refine Zm ?_; repeat' (first | exact .intro | ((first | refine B1 (fun h => ?_) fun h => ?_ | refine B2 fun y he he' hy => ?_ | refine B3 fun y he hy => ?_ | refine B4 fun y hy => ?_ | refine B5 fun ck => ?_ | fail) <;> refine Zm ?_)))
        refine All'.mk ?_
        rintro (y : Run) hy
        obtain rfl : (m, f, t) = y := Option.some.inj (hr.symm.trans hy)
        clear hy
        (refine Zm ?_; repeat' (first | exact .intro | ((first | refine B1 (fun h => ?_) fun h => ?_ | refine B2 fun y he he' hy => ?_ | refine B3 fun y he hy => ?_ | refine B4 fun y hy => ?_ | refine B5 fun ck => ?_ | fail) <;> refine Zm ?_)))
        all_goals
          refine Some'.mk ⟨i + 1, n⟩ ?_
          (refine Z ?_; repeat' (first | exact .intro | ((first | refine B1 (fun h => ?_) fun h => ?_ | refine B2 fun y he he' hy => ?_ | refine B3 fun y he hy => ?_ | refine B4 fun y hy => ?_ | refine B5 fun ck => ?_ | fail) <;> refine Z ?_)))
    · have hh : topG node n (c.drop i) = n := by rw [List.drop_eq_nil_of_le hge]; rfl
      rw [hh] at h2
      exact G1
end Go.Proofs.YthmbdjhlfieldaaGreatDoor

set_option linter.unusedVariables false
set_option linter.unusedSimpArgs false
set_option maxRecDepth 100000
namespace Go.Proofs.YthmbdjhlfieldaaGreatDoor
open Go.Eng
variable [DM]
set_option linter.unusedSectionVars false
theorem right_all : ∀ {c : List Run} {p : Option Run}, rightFrom p c = true → ∀ {i : Nat} {r : Run}, c[i]? = some r → runP r
  | [], _, _, _, _, h => by simp at h
  | x :: l, p, hr, 0, r, h => by
    simp only [rightFrom, Bool.and_eq_true] at hr
    obtain rfl : x = r := by simpa using h
    exact of_decide_eq_true hr.1.1
  | x :: l, p, hr, i + 1, r, h => by
    simp only [rightFrom, Bool.and_eq_true] at hr
    exact right_all hr.2 (i := i) (by simpa using h)

/-- A run's bytes. -/
def runBy (r : Run) : List Int := numL r.1.toNat ++ (numL r.2.1.toNat ++ numL (r.2.2 - r.2.1).toNat)
def runsBy : List Run → List Int
  | [] => []
  | r :: l => runBy r ++ runsBy l
def clockBy (c : List Run) : List Int := numL c.length ++ runsBy c
theorem runsBy_app : ∀ (a b : List Run), runsBy (a ++ b) = runsBy a ++ runsBy b
  | [], _ => rfl
  | r :: a, b => by simp only [List.cons_append, runsBy, runsBy_app a b, List.append_assoc]
theorem runsBy_step {c : List Run} {i : Nat} {r : Run} (h : c[i]? = some r) : runsBy (c.take (i + 1)) = runsBy (c.take i) ++ runBy r := by
  rw [List.take_add_one, h, runsBy_app]
  show runsBy _ ++ (runBy r ++ []) = _
  rw [List.append_nil]
theorem runBy_le {r : Run} (h : runP r) : (runBy r).length ≤ 27 := by
  have h1 := numL_le (u := r.1.toNat) (by omega)
  have h2 := numL_le (u := r.2.1.toNat) (by omega)
  have h3 := numL_le (u := (r.2.2 - r.2.1).toNat) (by omega)
  simp only [runBy, List.length_append]; omega
theorem runsBy_le {c : List Run} (h : rightB c = true) : ∀ i, i ≤ c.length → (runsBy (c.take i)).length ≤ 27 * i
  | 0, _ => by simp [runsBy]
  | i + 1, hi => by
    obtain ⟨r, hr⟩ := get_ex (show i < c.length by omega)
    have h1 := runsBy_le h i (by omega)
    have h2 := runBy_le (right_all h hr)
    rw [runsBy_step hr, List.length_append]; omega
theorem clockBy_le {c : List Run} (h : rightB c = true) (hl : c.length ≤ 1024) : (clockBy c).length ≤ 27657 := by
  have h1 := runsBy_le h c.length (Nat.le_refl _)
  rw [List.take_length] at h1
  have h2 := numL_le (u := c.length) (by omega)
  simp only [clockBy, List.length_append]; omega

structure PutX where
  bs : List Int
  c : List Run
@[reducible] def dputC : Ctr := {
  X := PutX
  Y := Unit
  args := fun x => [.ptr 0 0, .ro true runT x.c]
  rw := fun x => penE 0 x.bs 1
  side := fun x => rightB x.c = true ∧ x.c.length ≤ 1024 ∧ x.bs.length ≤ 100000000000
  val := fun _ => ()
  ens := fun _ _ => True
  res := fun x y => .v (.bool true)
  out := fun x _ => penE 0 (x.bs ++ clockBy x.c) 1000 }
@[reducible] def dputL (x : PutX) : LA := {
  X := Nat
  pre := fun i => i ≤ x.c.length
  mu := fun i => x.c.length - i
  T := fun i => [(0, .ptr 0 0), (20, .ro true runT x.c), (21, .v (.int .i64 x.c.length)), (22, .v (.int .i64 i))]
  M := fun i => penE 0 (x.bs ++ numL x.c.length ++ runsBy (x.c.take i)) 2 }
theorem knownD3 : Known Tryz.prog (gOf [(51, drightC), (69, numC)]) := known_cons ⟨dright_ok, Tryz.call51⟩ (known_cons ⟨num_ok, Tryz.call69⟩ (known_nil _))
theorem natOf {n : Int} (h : 0 ≤ n) : ∃ k : Nat, n = (k : Int) := ⟨n.toNat, by omega⟩
theorem dput_ok : dputC.ok Tryz.prog 70 := by
  refine ok_of_vc (An := fun (x : PutX) => anOf [(0, .loop (dputL x))]) knownD3 mo Tryz.func70 (by kernel_rfl) (by kernel_rfl) (fun _ _ => trivial) (fun x hs => ?_)
  obtain ⟨bs, c⟩ := x
  have hs : rightB c = true ∧ c.length ≤ 1024 ∧ bs.length ≤ 100000000000 := hs
  obtain ⟨hb, hl, hbl⟩ := hs
  have hw : IntKind.u64.wrap ((c.length : Nat) : Int) = ((c.length : Nat) : Int) := wrap_u64 (by omega) (by omega)
  have hn := numL_le (u := c.length) (by omega)
  have ck : Hc drightC c True := .mk trivial
  (refine Z ?_; repeat' (first | exact .intro | ((first | refine B1 (fun h => ?_) fun h => ?_ | refine B2 fun y he he' hy => ?_ | refine B3 fun y he hy => ?_ | refine B4 fun y hy => ?_ | refine B5 fun ck => ?_ | fail) <;> refine Z ?_)))
  clear he
  refine CallP.mk (C := numC) ⟨bs, c.length⟩ ?_
  (refine Z ?_; repeat' (first | exact .intro | ((first | refine B1 (fun h => ?_) fun h => ?_ | refine B2 fun y he he' hy => ?_ | refine B3 fun y he hy => ?_ | refine B4 fun y hy => ?_ | refine B5 fun ck => ?_ | fail) <;> refine Z ?_)))
  refine Some'.mk 0 ?_
  have hz : bs ++ numL c.length ++ runsBy (c.take 0) = bs ++ numL c.length := by simp [runsBy]
  have lm := hz
  (refine Z ?_; repeat' (first | exact .intro | ((first | refine B1 (fun h => ?_) fun h => ?_ | refine B2 fun y he he' hy => ?_ | refine B3 fun y he hy => ?_ | refine B4 fun y hy => ?_ | refine B5 fun ck => ?_ | fail) <;> refine Z ?_)))
  refine AllI.mk ?_
  rintro (i : Nat) h1
  dsimp only at h1
  clear hz he
  rcases Nat.lt_or_ge i c.length with hlt | hge
  · obtain ⟨⟨m, f, t⟩, hr⟩ := get_ex hlt
    have hrl := runsBy_le hb i (by omega)
    have hst := runsBy_step hr
    obtain ⟨k1, k2, k3, k4, k5⟩ : 0 ≤ m ∧ m ≤ 7 ∧ 1 ≤ f ∧ f ≤ t ∧ t ≤ 1099511627776 := right_all hb hr
    obtain ⟨m, rfl⟩ := natOf k1
    obtain ⟨f, rfl⟩ := natOf (n := f) (by omega)
    obtain ⟨d, hd⟩ := natOf (n := t - f) (by omega)
    have hw1 : IntKind.u64.wrap ((m : Nat) : Int) = ((m : Nat) : Int) := wrap_u64 (by omega) (by omega)
    have hw2 : IntKind.u64.wrap ((f : Nat) : Int) = ((f : Nat) : Int) := wrap_u64 (by omega) (by omega)
    have hw3 : IntKind.u64.wrap (t - ((f : Nat) : Int)) = ((d : Nat) : Int) := by rw [hd, wrap_u64 (by omega) (by omega)]
    have hby : runBy (((m : Nat) : Int), ((f : Nat) : Int), t) = numL m ++ (numL f ++ numL d) := by
      show numL _ ++ (numL _ ++ numL (t - ((f : Nat) : Int)).toNat) = _
      rw [hd]; rfl
    have hn1 := numL_le (u := m) (by omega)
    have hn2 := numL_le (u := f) (by omega)
    have hn3 := numL_le (u := d) (by omega)
    rw [hby] at hst
    clear hby
    generalize hq : runsBy (c.take i) = q at hst hrl
    ((repeat' ((conv => whnf) <;> first | exact True.intro | (guard_target =~ Fork _ _ _; first | refine F1 ?_ | refine F2 ?_ | (refine Fork.pos ?_ ?_; · (simp only [List.length_append, hq, Bool.not_true, Bool.not_false, decide_eq_true_eq, beq_iff_eq, bne_iff_ne, ne_eq] <;> omega)) | (refine Fork.neg ?_ ?_; · (simp only [List.length_append, hq, Bool.not_true, Bool.not_false, decide_eq_false_iff_not, beq_eq_false_iff_ne] <;> omega)) | refine F3 (fun h => ?_) fun h => ?_) | (guard_target =~ Ar _ _ _; first | refine A1 ?_ | refine A2 ?_ | refine A3 ?_ | (refine Ar.fit (wrap_i64 ?_ ?_) ?_; · ((try dsimp only) <;> simp only [List.length_append, hq] <;> omega); · ((try dsimp only) <;> simp only [List.length_append, hq] <;> omega)) | (refine Ar.fit (wrap_u64 ?_ ?_) ?_; · ((try dsimp only) <;> simp only [List.length_append, hq] <;> omega); · ((try dsimp only) <;> simp only [List.length_append, hq] <;> omega))) | (guard_target =~ AskL _ _; first | (refine AskL.mk ?_ ?_; · ((simp only [conj]; repeat' apply And.intro) <;> first | rfl | trivial | omega | (simp only [List.length_append, hq]; done) | (simp only [List.length_append, hq] <;> omega) | (simp only [List.length_append, hq]; refine Bool.eq_iff_iff.2 ?_; simp only [decide_eq_true_eq, Bool.false_eq_true, true_iff, iff_true, false_iff, iff_false, eq_self]; omega) | (simp only [*, List.length_append, hq]; done))) | refine L1 ?_) | (guard_target =~ Go.Eng.Ask _ _; first | refine K1 ?_ | (refine Ask.mk ?_ ?_; · ((try dsimp only) <;> simp only [List.length_append, hq] <;> omega))) | (guard_target =~ CallP _ _ _ _ _; first | refine H1 ck fun ck => ?_ | refine H2 ck fun ck => ?_) | (guard_target =~ All' _ _; first | (refine Y2 fun y he he' hy => ?_; (try dsimp only at he he' hy)) | (refine Y1 fun y he hy => ?_; (try with_reducible conv at he => (rhs; whnf)); (try dsimp only at he hy))) | refine F4 (fun h => ?_) fun h => ?_ | refine R1 ?_ | refine Q1 ?_ | fail)); all_goals (conv => whnf))
    refine All'.mk ?_
    rintro (y : Run) hy
    obtain rfl : (((m : Nat) : Int), ((f : Nat) : Int), t) = y := Option.some.inj (hr.symm.trans hy)
    clear hy
    ((repeat' ((conv => whnf) <;> first | exact True.intro | (guard_target =~ Fork _ _ _; first | refine F1 ?_ | refine F2 ?_ | (refine Fork.pos ?_ ?_; · (simp only [List.length_append, hq, Bool.not_true, Bool.not_false, decide_eq_true_eq, beq_iff_eq, bne_iff_ne, ne_eq] <;> omega)) | (refine Fork.neg ?_ ?_; · (simp only [List.length_append, hq, Bool.not_true, Bool.not_false, decide_eq_false_iff_not, beq_eq_false_iff_ne] <;> omega)) | refine F3 (fun h => ?_) fun h => ?_) | (guard_target =~ Ar _ _ _; first | refine A1 ?_ | refine A2 ?_ | refine A3 ?_ | (refine Ar.fit (wrap_i64 ?_ ?_) ?_; · ((try dsimp only) <;> simp only [List.length_append, hq] <;> omega); · ((try dsimp only) <;> simp only [List.length_append, hq] <;> omega)) | (refine Ar.fit (wrap_u64 ?_ ?_) ?_; · ((try dsimp only) <;> simp only [List.length_append, hq] <;> omega); · ((try dsimp only) <;> simp only [List.length_append, hq] <;> omega))) | (guard_target =~ AskL _ _; first | (refine AskL.mk ?_ ?_; · ((simp only [conj]; repeat' apply And.intro) <;> first | rfl | trivial | omega | (simp only [List.length_append, hq]; done) | (simp only [List.length_append, hq] <;> omega) | (simp only [List.length_append, hq]; refine Bool.eq_iff_iff.2 ?_; simp only [decide_eq_true_eq, Bool.false_eq_true, true_iff, iff_true, false_iff, iff_false, eq_self]; omega) | (simp only [*, List.length_append, hq]; done))) | refine L1 ?_) | (guard_target =~ Go.Eng.Ask _ _; first | refine K1 ?_ | (refine Ask.mk ?_ ?_; · ((try dsimp only) <;> simp only [List.length_append, hq] <;> omega))) | (guard_target =~ CallP _ _ _ _ _; first | refine H1 ck fun ck => ?_ | refine H2 ck fun ck => ?_) | (guard_target =~ All' _ _; first | (refine Y2 fun y he he' hy => ?_; (try dsimp only at he he' hy)) | (refine Y1 fun y he hy => ?_; (try with_reducible conv at he => (rhs; whnf)); (try dsimp only at he hy))) | refine F4 (fun h => ?_) fun h => ?_ | refine R1 ?_ | refine Q1 ?_ | fail)); all_goals (conv => whnf))
    refine CallP.mk (C := numC) ⟨bs ++ numL c.length ++ q, m⟩ ?_
    ((repeat' ((conv => whnf) <;> first | exact True.intro | (guard_target =~ Fork _ _ _; first | refine F1 ?_ | refine F2 ?_ | (refine Fork.pos ?_ ?_; · (simp only [List.length_append, hq, Bool.not_true, Bool.not_false, decide_eq_true_eq, beq_iff_eq, bne_iff_ne, ne_eq] <;> omega)) | (refine Fork.neg ?_ ?_; · (simp only [List.length_append, hq, Bool.not_true, Bool.not_false, decide_eq_false_iff_not, beq_eq_false_iff_ne] <;> omega)) | refine F3 (fun h => ?_) fun h => ?_) | (guard_target =~ Ar _ _ _; first | refine A1 ?_ | refine A2 ?_ | refine A3 ?_ | (refine Ar.fit (wrap_i64 ?_ ?_) ?_; · ((try dsimp only) <;> simp only [List.length_append, hq] <;> omega); · ((try dsimp only) <;> simp only [List.length_append, hq] <;> omega)) | (refine Ar.fit (wrap_u64 ?_ ?_) ?_; · ((try dsimp only) <;> simp only [List.length_append, hq] <;> omega); · ((try dsimp only) <;> simp only [List.length_append, hq] <;> omega))) | (guard_target =~ AskL _ _; first | (refine AskL.mk ?_ ?_; · ((simp only [conj]; repeat' apply And.intro) <;> first | rfl | trivial | omega | (simp only [List.length_append, hq]; done) | (simp only [List.length_append, hq] <;> omega) | (simp only [List.length_append, hq]; refine Bool.eq_iff_iff.2 ?_; simp only [decide_eq_true_eq, Bool.false_eq_true, true_iff, iff_true, false_iff, iff_false, eq_self]; omega) | (simp only [*, List.length_append, hq]; done))) | refine L1 ?_) | (guard_target =~ Go.Eng.Ask _ _; first | refine K1 ?_ | (refine Ask.mk ?_ ?_; · ((try dsimp only) <;> simp only [List.length_append, hq] <;> omega))) | (guard_target =~ CallP _ _ _ _ _; first | refine H1 ck fun ck => ?_ | refine H2 ck fun ck => ?_) | (guard_target =~ All' _ _; first | (refine Y2 fun y he he' hy => ?_; (try dsimp only at he he' hy)) | (refine Y1 fun y he hy => ?_; (try with_reducible conv at he => (rhs; whnf)); (try dsimp only at he hy)) | (refine All'.mk ?_; intro y hy)) | refine F4 (fun h => ?_) fun h => ?_ | refine R1 ?_ | refine Q1 ?_ | fail)); all_goals (conv => whnf))
    clear he
    refine CallP.mk (C := numC) ⟨bs ++ numL c.length ++ q ++ numL m, f⟩ ?_
    ((repeat' ((conv => whnf) <;> first | exact True.intro | (guard_target =~ Fork _ _ _; first | refine F1 ?_ | refine F2 ?_ | (refine Fork.pos ?_ ?_; · (simp only [List.length_append, hq, Bool.not_true, Bool.not_false, decide_eq_true_eq, beq_iff_eq, bne_iff_ne, ne_eq] <;> omega)) | (refine Fork.neg ?_ ?_; · (simp only [List.length_append, hq, Bool.not_true, Bool.not_false, decide_eq_false_iff_not, beq_eq_false_iff_ne] <;> omega)) | refine F3 (fun h => ?_) fun h => ?_) | (guard_target =~ Ar _ _ _; first | refine A1 ?_ | refine A2 ?_ | refine A3 ?_ | (refine Ar.fit (wrap_i64 ?_ ?_) ?_; · ((try dsimp only) <;> simp only [List.length_append, hq] <;> omega); · ((try dsimp only) <;> simp only [List.length_append, hq] <;> omega)) | (refine Ar.fit (wrap_u64 ?_ ?_) ?_; · ((try dsimp only) <;> simp only [List.length_append, hq] <;> omega); · ((try dsimp only) <;> simp only [List.length_append, hq] <;> omega))) | (guard_target =~ AskL _ _; first | (refine AskL.mk ?_ ?_; · ((simp only [conj]; repeat' apply And.intro) <;> first | rfl | trivial | omega | (simp only [List.length_append, hq]; done) | (simp only [List.length_append, hq] <;> omega) | (simp only [List.length_append, hq]; refine Bool.eq_iff_iff.2 ?_; simp only [decide_eq_true_eq, Bool.false_eq_true, true_iff, iff_true, false_iff, iff_false, eq_self]; omega) | (simp only [*, List.length_append, hq]; done))) | refine L1 ?_) | (guard_target =~ Go.Eng.Ask _ _; first | refine K1 ?_ | (refine Ask.mk ?_ ?_; · ((try dsimp only) <;> simp only [List.length_append, hq] <;> omega))) | (guard_target =~ CallP _ _ _ _ _; first | refine H1 ck fun ck => ?_ | refine H2 ck fun ck => ?_) | (guard_target =~ All' _ _; first | (refine Y2 fun y he he' hy => ?_; (try dsimp only at he he' hy)) | (refine Y1 fun y he hy => ?_; (try with_reducible conv at he => (rhs; whnf)); (try dsimp only at he hy)) | (refine All'.mk ?_; intro y hy)) | refine F4 (fun h => ?_) fun h => ?_ | refine R1 ?_ | refine Q1 ?_ | fail)); all_goals (conv => whnf))
    clear he
    refine CallP.mk (C := numC) ⟨bs ++ numL c.length ++ q ++ numL m ++ numL f, d⟩ ?_
    ((repeat' ((conv => whnf) <;> first | exact True.intro | (guard_target =~ Fork _ _ _; first | refine F1 ?_ | refine F2 ?_ | (refine Fork.pos ?_ ?_; · (simp only [List.length_append, hq, Bool.not_true, Bool.not_false, decide_eq_true_eq, beq_iff_eq, bne_iff_ne, ne_eq] <;> omega)) | (refine Fork.neg ?_ ?_; · (simp only [List.length_append, hq, Bool.not_true, Bool.not_false, decide_eq_false_iff_not, beq_eq_false_iff_ne] <;> omega)) | refine F3 (fun h => ?_) fun h => ?_) | (guard_target =~ Ar _ _ _; first | refine A1 ?_ | refine A2 ?_ | refine A3 ?_ | (refine Ar.fit (wrap_i64 ?_ ?_) ?_; · ((try dsimp only) <;> simp only [List.length_append, hq] <;> omega); · ((try dsimp only) <;> simp only [List.length_append, hq] <;> omega)) | (refine Ar.fit (wrap_u64 ?_ ?_) ?_; · ((try dsimp only) <;> simp only [List.length_append, hq] <;> omega); · ((try dsimp only) <;> simp only [List.length_append, hq] <;> omega))) | (guard_target =~ AskL _ _; first | (refine AskL.mk ?_ ?_; · ((simp only [conj]; repeat' apply And.intro) <;> first | rfl | trivial | omega | (simp only [List.length_append, hq]; done) | (simp only [List.length_append, hq] <;> omega) | (simp only [List.length_append, hq]; refine Bool.eq_iff_iff.2 ?_; simp only [decide_eq_true_eq, Bool.false_eq_true, true_iff, iff_true, false_iff, iff_false, eq_self]; omega) | (simp only [*, List.length_append, hq]; done))) | refine L1 ?_) | (guard_target =~ Go.Eng.Ask _ _; first | refine K1 ?_ | (refine Ask.mk ?_ ?_; · ((try dsimp only) <;> simp only [List.length_append, hq] <;> omega))) | (guard_target =~ CallP _ _ _ _ _; first | refine H1 ck fun ck => ?_ | refine H2 ck fun ck => ?_) | (guard_target =~ All' _ _; first | (refine Y2 fun y he he' hy => ?_; (try dsimp only at he he' hy)) | (refine Y1 fun y he hy => ?_; (try with_reducible conv at he => (rhs; whnf)); (try dsimp only at he hy)) | (refine All'.mk ?_; intro y hy)) | refine F4 (fun h => ?_) fun h => ?_ | refine R1 ?_ | refine Q1 ?_ | fail)); all_goals (conv => whnf))
    clear he
    refine Some'.mk (i + 1) ?_
    ((repeat' ((conv => whnf) <;> first | exact True.intro | (guard_target =~ Fork _ _ _; first | refine F1 ?_ | refine F2 ?_ | (refine Fork.pos ?_ ?_; · (simp only [hst, List.append_assoc, Bool.not_true, Bool.not_false, decide_eq_true_eq, beq_iff_eq, bne_iff_ne, ne_eq] <;> omega)) | (refine Fork.neg ?_ ?_; · (simp only [hst, List.append_assoc, Bool.not_true, Bool.not_false, decide_eq_false_iff_not, beq_eq_false_iff_ne] <;> omega)) | refine F3 (fun h => ?_) fun h => ?_) | (guard_target =~ Ar _ _ _; first | refine A1 ?_ | refine A2 ?_ | refine A3 ?_ | (refine Ar.fit (wrap_i64 ?_ ?_) ?_; · ((try dsimp only) <;> simp only [hst, List.append_assoc] <;> omega); · ((try dsimp only) <;> simp only [hst, List.append_assoc] <;> omega)) | (refine Ar.fit (wrap_u64 ?_ ?_) ?_; · ((try dsimp only) <;> simp only [hst, List.append_assoc] <;> omega); · ((try dsimp only) <;> simp only [hst, List.append_assoc] <;> omega))) | (guard_target =~ AskL _ _; first | (refine AskL.mk ?_ ?_; · ((simp only [conj]; repeat' apply And.intro) <;> first | rfl | trivial | omega | (simp only [hst, List.append_assoc]; done) | (simp only [hst, List.append_assoc] <;> omega) | (simp only [hst, List.append_assoc]; refine Bool.eq_iff_iff.2 ?_; simp only [decide_eq_true_eq, Bool.false_eq_true, true_iff, iff_true, false_iff, iff_false, eq_self]; omega) | (simp only [*, hst, List.append_assoc]; done))) | refine L1 ?_) | (guard_target =~ Go.Eng.Ask _ _; first | refine K1 ?_ | (refine Ask.mk ?_ ?_; · ((try dsimp only) <;> simp only [hst, List.append_assoc] <;> omega))) | (guard_target =~ CallP _ _ _ _ _; first | refine H1 ck fun ck => ?_ | refine H2 ck fun ck => ?_) | (guard_target =~ All' _ _; first | (refine Y2 fun y he he' hy => ?_; (try dsimp only at he he' hy)) | (refine Y1 fun y he hy => ?_; (try with_reducible conv at he => (rhs; whnf)); (try dsimp only at he hy)) | (refine All'.mk ?_; intro y hy)) | refine F4 (fun h => ?_) fun h => ?_ | refine R1 ?_ | refine Q1 ?_ | fail)); all_goals (conv => whnf))
  · have hh : c.take i = c := List.take_of_length_le hge
    have hcb : bs ++ numL c.length ++ runsBy (c.take i) = bs ++ clockBy c := by rw [hh, List.append_assoc]; rfl
    have lm := hcb
    exact G1
@[reducible] def rclockC : Ctr := {
  X := List Run
  Y := Unit
  args := fun c => [.ro true runT c]
  rw := fun _ => []
  side := fun c => rightB c = true ∧ c.length ≤ 1024
  val := fun _ => ()
  ens := fun _ _ => True
  res := fun c _ => .v (.string (strOfNums (clockBy c)))
  out := fun _ _ => [] }
@[reducible] def rclockL (c : List Run) : LA := {
  X := Nat
  pre := fun i => i ≤ c.length
  mu := fun i => c.length - i
  T := fun i => [(3, .v (.string (strOfNums (numL c.length ++ runsBy (c.take i))))), (10, .ro true runT c), (11, .v (.int .i64 c.length)), (12, .v (.int .i64 i))]
  M := fun i => [] }
theorem rclock_ok : rclockC.ok Tryz.prog 73 := by
  refine ok_of_vc (An := fun (x : List Run) => anOf [(0, .loop (rclockL x))]) knownP3 mo Tryz.func73 (by kernel_rfl) (by kernel_rfl) (fun _ _ => trivial) (fun (c : List Run) hs => ?_)
  have hs : rightB c = true ∧ c.length ≤ 1024 := hs
  obtain ⟨hb, hl⟩ := hs
  have hw : IntKind.u64.wrap ((c.length : Nat) : Int) = ((c.length : Nat) : Int) := wrap_u64 (by omega) (by omega)
  have hn := numL_le (u := c.length) (by omega)
  have ck : Hc rnumC c.length True := .mk trivial
  (refine Z ?_; repeat' (first | exact .intro | ((first | refine B1 (fun h => ?_) fun h => ?_ | refine B2 fun y he he' hy => ?_ | refine B3 fun y he hy => ?_ | refine B4 fun y hy => ?_ | refine B5 fun ck => ?_ | fail) <;> refine Z ?_)))
  refine Some'.mk 0 ?_
  have hz : numL c.length ++ runsBy (c.take 0) = numL c.length := by simp [runsBy]
  have lm := hz
  (refine Z ?_; repeat' (first | exact .intro | ((first | refine B1 (fun h => ?_) fun h => ?_ | refine B2 fun y he he' hy => ?_ | refine B3 fun y he hy => ?_ | refine B4 fun y hy => ?_ | refine B5 fun ck => ?_ | fail) <;> refine Z ?_)))
  refine AllI.mk ?_
  rintro (i : Nat) h1
  dsimp only at h1
  clear hz he
  rcases Nat.lt_or_ge i c.length with hlt | hge
  · obtain ⟨⟨m, f, t⟩, hr⟩ := get_ex hlt
    have hrl := runsBy_le hb i (by omega)
    have hst := runsBy_step hr
    obtain ⟨k1, k2, k3, k4, k5⟩ : 0 ≤ m ∧ m ≤ 7 ∧ 1 ≤ f ∧ f ≤ t ∧ t ≤ 1099511627776 := right_all hb hr
    obtain ⟨m, rfl⟩ := natOf k1
    obtain ⟨f, rfl⟩ := natOf (n := f) (by omega)
    obtain ⟨d, hd⟩ := natOf (n := t - f) (by omega)
    have hw1 : IntKind.u64.wrap ((m : Nat) : Int) = ((m : Nat) : Int) := wrap_u64 (by omega) (by omega)
    have hw2 : IntKind.u64.wrap ((f : Nat) : Int) = ((f : Nat) : Int) := wrap_u64 (by omega) (by omega)
    have hw3 : IntKind.u64.wrap (t - ((f : Nat) : Int)) = ((d : Nat) : Int) := by rw [hd, wrap_u64 (by omega) (by omega)]
    have hby : runBy (((m : Nat) : Int), ((f : Nat) : Int), t) = numL m ++ (numL f ++ numL d) := by
      show numL _ ++ (numL _ ++ numL (t - ((f : Nat) : Int)).toNat) = _
      rw [hd]; rfl
    have hn1 := numL_le (u := m) (by omega)
    have hn2 := numL_le (u := f) (by omega)
    have hn3 := numL_le (u := d) (by omega)
    rw [hby] at hst
    clear hby
    generalize hq : runsBy (c.take i) = q at hst hrl
    ((repeat' ((conv => whnf) <;> first | exact True.intro | (guard_target =~ Fork _ _ _; first | refine F1 ?_ | refine F2 ?_ | (refine Fork.pos ?_ ?_; · (simp only [str_cat, str_size, List.length_append, hq, Bool.not_true, Bool.not_false, decide_eq_true_eq, beq_iff_eq, bne_iff_ne, ne_eq] <;> omega)) | (refine Fork.neg ?_ ?_; · (simp only [str_cat, str_size, List.length_append, hq, Bool.not_true, Bool.not_false, decide_eq_false_iff_not, beq_eq_false_iff_ne] <;> omega)) | refine F3 (fun h => ?_) fun h => ?_) | (guard_target =~ Ar _ _ _; first | refine A1 ?_ | refine A2 ?_ | refine A3 ?_ | (refine Ar.fit (wrap_i64 ?_ ?_) ?_; · ((try dsimp only) <;> simp only [str_cat, str_size, List.length_append, hq] <;> omega); · ((try dsimp only) <;> simp only [str_cat, str_size, List.length_append, hq] <;> omega)) | (refine Ar.fit (wrap_u64 ?_ ?_) ?_; · ((try dsimp only) <;> simp only [str_cat, str_size, List.length_append, hq] <;> omega); · ((try dsimp only) <;> simp only [str_cat, str_size, List.length_append, hq] <;> omega))) | (guard_target =~ AskL _ _; first | (refine AskL.mk ?_ ?_; · ((simp only [conj]; repeat' apply And.intro) <;> first | rfl | trivial | omega | (simp only [str_cat, str_size, List.length_append, hq]; done) | (simp only [str_cat, str_size, List.length_append, hq] <;> omega) | (simp only [str_cat, str_size, List.length_append, hq]; refine Bool.eq_iff_iff.2 ?_; simp only [decide_eq_true_eq, Bool.false_eq_true, true_iff, iff_true, false_iff, iff_false, eq_self]; omega) | (simp only [*, str_cat, str_size, List.length_append, hq]; done))) | refine L1 ?_) | (guard_target =~ Go.Eng.Ask _ _; first | refine K1 ?_ | (refine Ask.mk ?_ ?_; · ((try dsimp only) <;> simp only [str_cat, str_size, List.length_append, hq] <;> omega))) | (guard_target =~ CallP _ _ _ _ _; first | refine H1 ck fun ck => ?_ | refine H2 ck fun ck => ?_) | (guard_target =~ All' _ _; first | (refine Y2 fun y he he' hy => ?_; (try dsimp only at he he' hy)) | (refine Y1 fun y he hy => ?_; (try with_reducible conv at he => (rhs; whnf)); (try dsimp only at he hy))) | refine F4 (fun h => ?_) fun h => ?_ | refine R1 ?_ | refine Q1 ?_ | fail)); all_goals (conv => whnf))
    refine All'.mk ?_
    rintro (y : Run) hy
    obtain rfl : (((m : Nat) : Int), ((f : Nat) : Int), t) = y := Option.some.inj (hr.symm.trans hy)
    clear hy
    ((repeat' ((conv => whnf) <;> first | exact True.intro | (guard_target =~ Fork _ _ _; first | refine F1 ?_ | refine F2 ?_ | (refine Fork.pos ?_ ?_; · (simp only [str_cat, str_size, List.length_append, hq, Bool.not_true, Bool.not_false, decide_eq_true_eq, beq_iff_eq, bne_iff_ne, ne_eq] <;> omega)) | (refine Fork.neg ?_ ?_; · (simp only [str_cat, str_size, List.length_append, hq, Bool.not_true, Bool.not_false, decide_eq_false_iff_not, beq_eq_false_iff_ne] <;> omega)) | refine F3 (fun h => ?_) fun h => ?_) | (guard_target =~ Ar _ _ _; first | refine A1 ?_ | refine A2 ?_ | refine A3 ?_ | (refine Ar.fit (wrap_i64 ?_ ?_) ?_; · ((try dsimp only) <;> simp only [str_cat, str_size, List.length_append, hq] <;> omega); · ((try dsimp only) <;> simp only [str_cat, str_size, List.length_append, hq] <;> omega)) | (refine Ar.fit (wrap_u64 ?_ ?_) ?_; · ((try dsimp only) <;> simp only [str_cat, str_size, List.length_append, hq] <;> omega); · ((try dsimp only) <;> simp only [str_cat, str_size, List.length_append, hq] <;> omega))) | (guard_target =~ AskL _ _; first | (refine AskL.mk ?_ ?_; · ((simp only [conj]; repeat' apply And.intro) <;> first | rfl | trivial | omega | (simp only [str_cat, str_size, List.length_append, hq]; done) | (simp only [str_cat, str_size, List.length_append, hq] <;> omega) | (simp only [str_cat, str_size, List.length_append, hq]; refine Bool.eq_iff_iff.2 ?_; simp only [decide_eq_true_eq, Bool.false_eq_true, true_iff, iff_true, false_iff, iff_false, eq_self]; omega) | (simp only [*, str_cat, str_size, List.length_append, hq]; done))) | refine L1 ?_) | (guard_target =~ Go.Eng.Ask _ _; first | refine K1 ?_ | (refine Ask.mk ?_ ?_; · ((try dsimp only) <;> simp only [str_cat, str_size, List.length_append, hq] <;> omega))) | (guard_target =~ CallP _ _ _ _ _; first | refine H1 ck fun ck => ?_ | refine H2 ck fun ck => ?_) | (guard_target =~ All' _ _; first | (refine Y2 fun y he he' hy => ?_; (try dsimp only at he he' hy)) | (refine Y1 fun y he hy => ?_; (try with_reducible conv at he => (rhs; whnf)); (try dsimp only at he hy))) | refine F4 (fun h => ?_) fun h => ?_ | refine R1 ?_ | refine Q1 ?_ | fail)); all_goals (conv => whnf))
    refine CallP.mk (C := rnumC) m ?_
    ((repeat' ((conv => whnf) <;> first | exact True.intro | (guard_target =~ Fork _ _ _; first | refine F1 ?_ | refine F2 ?_ | (refine Fork.pos ?_ ?_; · (simp only [str_cat, str_size, List.length_append, hq, Bool.not_true, Bool.not_false, decide_eq_true_eq, beq_iff_eq, bne_iff_ne, ne_eq] <;> omega)) | (refine Fork.neg ?_ ?_; · (simp only [str_cat, str_size, List.length_append, hq, Bool.not_true, Bool.not_false, decide_eq_false_iff_not, beq_eq_false_iff_ne] <;> omega)) | refine F3 (fun h => ?_) fun h => ?_) | (guard_target =~ Ar _ _ _; first | refine A1 ?_ | refine A2 ?_ | refine A3 ?_ | (refine Ar.fit (wrap_i64 ?_ ?_) ?_; · ((try dsimp only) <;> simp only [str_cat, str_size, List.length_append, hq] <;> omega); · ((try dsimp only) <;> simp only [str_cat, str_size, List.length_append, hq] <;> omega)) | (refine Ar.fit (wrap_u64 ?_ ?_) ?_; · ((try dsimp only) <;> simp only [str_cat, str_size, List.length_append, hq] <;> omega); · ((try dsimp only) <;> simp only [str_cat, str_size, List.length_append, hq] <;> omega))) | (guard_target =~ AskL _ _; first | (refine AskL.mk ?_ ?_; · ((simp only [conj]; repeat' apply And.intro) <;> first | rfl | trivial | omega | (simp only [str_cat, str_size, List.length_append, hq]; done) | (simp only [str_cat, str_size, List.length_append, hq] <;> omega) | (simp only [str_cat, str_size, List.length_append, hq]; refine Bool.eq_iff_iff.2 ?_; simp only [decide_eq_true_eq, Bool.false_eq_true, true_iff, iff_true, false_iff, iff_false, eq_self]; omega) | (simp only [*, str_cat, str_size, List.length_append, hq]; done))) | refine L1 ?_) | (guard_target =~ Go.Eng.Ask _ _; first | refine K1 ?_ | (refine Ask.mk ?_ ?_; · ((try dsimp only) <;> simp only [str_cat, str_size, List.length_append, hq] <;> omega))) | (guard_target =~ CallP _ _ _ _ _; first | refine H1 ck fun ck => ?_ | refine H2 ck fun ck => ?_) | (guard_target =~ All' _ _; first | (refine Y2 fun y he he' hy => ?_; (try dsimp only at he he' hy)) | (refine Y1 fun y he hy => ?_; (try with_reducible conv at he => (rhs; whnf)); (try dsimp only at he hy)) | (refine All'.mk ?_; intro y hy)) | refine F4 (fun h => ?_) fun h => ?_ | refine R1 ?_ | refine Q1 ?_ | fail)); all_goals (conv => whnf))
    clear he
    refine CallP.mk (C := rnumC) f ?_
    ((repeat' ((conv => whnf) <;> first | exact True.intro | (guard_target =~ Fork _ _ _; first | refine F1 ?_ | refine F2 ?_ | (refine Fork.pos ?_ ?_; · (simp only [str_cat, str_size, List.length_append, hq, Bool.not_true, Bool.not_false, decide_eq_true_eq, beq_iff_eq, bne_iff_ne, ne_eq] <;> omega)) | (refine Fork.neg ?_ ?_; · (simp only [str_cat, str_size, List.length_append, hq, Bool.not_true, Bool.not_false, decide_eq_false_iff_not, beq_eq_false_iff_ne] <;> omega)) | refine F3 (fun h => ?_) fun h => ?_) | (guard_target =~ Ar _ _ _; first | refine A1 ?_ | refine A2 ?_ | refine A3 ?_ | (refine Ar.fit (wrap_i64 ?_ ?_) ?_; · ((try dsimp only) <;> simp only [str_cat, str_size, List.length_append, hq] <;> omega); · ((try dsimp only) <;> simp only [str_cat, str_size, List.length_append, hq] <;> omega)) | (refine Ar.fit (wrap_u64 ?_ ?_) ?_; · ((try dsimp only) <;> simp only [str_cat, str_size, List.length_append, hq] <;> omega); · ((try dsimp only) <;> simp only [str_cat, str_size, List.length_append, hq] <;> omega))) | (guard_target =~ AskL _ _; first | (refine AskL.mk ?_ ?_; · ((simp only [conj]; repeat' apply And.intro) <;> first | rfl | trivial | omega | (simp only [str_cat, str_size, List.length_append, hq]; done) | (simp only [str_cat, str_size, List.length_append, hq] <;> omega) | (simp only [str_cat, str_size, List.length_append, hq]; refine Bool.eq_iff_iff.2 ?_; simp only [decide_eq_true_eq, Bool.false_eq_true, true_iff, iff_true, false_iff, iff_false, eq_self]; omega) | (simp only [*, str_cat, str_size, List.length_append, hq]; done))) | refine L1 ?_) | (guard_target =~ Go.Eng.Ask _ _; first | refine K1 ?_ | (refine Ask.mk ?_ ?_; · ((try dsimp only) <;> simp only [str_cat, str_size, List.length_append, hq] <;> omega))) | (guard_target =~ CallP _ _ _ _ _; first | refine H1 ck fun ck => ?_ | refine H2 ck fun ck => ?_) | (guard_target =~ All' _ _; first | (refine Y2 fun y he he' hy => ?_; (try dsimp only at he he' hy)) | (refine Y1 fun y he hy => ?_; (try with_reducible conv at he => (rhs; whnf)); (try dsimp only at he hy)) | (refine All'.mk ?_; intro y hy)) | refine F4 (fun h => ?_) fun h => ?_ | refine R1 ?_ | refine Q1 ?_ | fail)); all_goals (conv => whnf))
    clear he
    refine CallP.mk (C := rnumC) d ?_
    ((repeat' ((conv => whnf) <;> first | exact True.intro | (guard_target =~ Fork _ _ _; first | refine F1 ?_ | refine F2 ?_ | (refine Fork.pos ?_ ?_; · (simp only [str_cat, str_size, List.length_append, hq, Bool.not_true, Bool.not_false, decide_eq_true_eq, beq_iff_eq, bne_iff_ne, ne_eq] <;> omega)) | (refine Fork.neg ?_ ?_; · (simp only [str_cat, str_size, List.length_append, hq, Bool.not_true, Bool.not_false, decide_eq_false_iff_not, beq_eq_false_iff_ne] <;> omega)) | refine F3 (fun h => ?_) fun h => ?_) | (guard_target =~ Ar _ _ _; first | refine A1 ?_ | refine A2 ?_ | refine A3 ?_ | (refine Ar.fit (wrap_i64 ?_ ?_) ?_; · ((try dsimp only) <;> simp only [str_cat, str_size, List.length_append, hq] <;> omega); · ((try dsimp only) <;> simp only [str_cat, str_size, List.length_append, hq] <;> omega)) | (refine Ar.fit (wrap_u64 ?_ ?_) ?_; · ((try dsimp only) <;> simp only [str_cat, str_size, List.length_append, hq] <;> omega); · ((try dsimp only) <;> simp only [str_cat, str_size, List.length_append, hq] <;> omega))) | (guard_target =~ AskL _ _; first | (refine AskL.mk ?_ ?_; · ((simp only [conj]; repeat' apply And.intro) <;> first | rfl | trivial | omega | (simp only [str_cat, str_size, List.length_append, hq]; done) | (simp only [str_cat, str_size, List.length_append, hq] <;> omega) | (simp only [str_cat, str_size, List.length_append, hq]; refine Bool.eq_iff_iff.2 ?_; simp only [decide_eq_true_eq, Bool.false_eq_true, true_iff, iff_true, false_iff, iff_false, eq_self]; omega) | (simp only [*, str_cat, str_size, List.length_append, hq]; done))) | refine L1 ?_) | (guard_target =~ Go.Eng.Ask _ _; first | refine K1 ?_ | (refine Ask.mk ?_ ?_; · ((try dsimp only) <;> simp only [str_cat, str_size, List.length_append, hq] <;> omega))) | (guard_target =~ CallP _ _ _ _ _; first | refine H1 ck fun ck => ?_ | refine H2 ck fun ck => ?_) | (guard_target =~ All' _ _; first | (refine Y2 fun y he he' hy => ?_; (try dsimp only at he he' hy)) | (refine Y1 fun y he hy => ?_; (try with_reducible conv at he => (rhs; whnf)); (try dsimp only at he hy)) | (refine All'.mk ?_; intro y hy)) | refine F4 (fun h => ?_) fun h => ?_ | refine R1 ?_ | refine Q1 ?_ | fail)); all_goals (conv => whnf))
    clear he
    refine Some'.mk (i + 1) ?_
    ((repeat' ((conv => whnf) <;> first | exact True.intro | (guard_target =~ Fork _ _ _; first | refine F1 ?_ | refine F2 ?_ | (refine Fork.pos ?_ ?_; · (simp only [hst, List.append_assoc, str_cat, Bool.not_true, Bool.not_false, decide_eq_true_eq, beq_iff_eq, bne_iff_ne, ne_eq] <;> omega)) | (refine Fork.neg ?_ ?_; · (simp only [hst, List.append_assoc, str_cat, Bool.not_true, Bool.not_false, decide_eq_false_iff_not, beq_eq_false_iff_ne] <;> omega)) | refine F3 (fun h => ?_) fun h => ?_) | (guard_target =~ Ar _ _ _; first | refine A1 ?_ | refine A2 ?_ | refine A3 ?_ | (refine Ar.fit (wrap_i64 ?_ ?_) ?_; · ((try dsimp only) <;> simp only [hst, List.append_assoc, str_cat] <;> omega); · ((try dsimp only) <;> simp only [hst, List.append_assoc, str_cat] <;> omega)) | (refine Ar.fit (wrap_u64 ?_ ?_) ?_; · ((try dsimp only) <;> simp only [hst, List.append_assoc, str_cat] <;> omega); · ((try dsimp only) <;> simp only [hst, List.append_assoc, str_cat] <;> omega))) | (guard_target =~ AskL _ _; first | (refine AskL.mk ?_ ?_; · ((simp only [conj]; repeat' apply And.intro) <;> first | rfl | trivial | omega | (simp only [hst, List.append_assoc, str_cat]; done) | (simp only [hst, List.append_assoc, str_cat] <;> omega) | (simp only [hst, List.append_assoc, str_cat]; refine Bool.eq_iff_iff.2 ?_; simp only [decide_eq_true_eq, Bool.false_eq_true, true_iff, iff_true, false_iff, iff_false, eq_self]; omega) | (simp only [*, hst, List.append_assoc, str_cat]; done))) | refine L1 ?_) | (guard_target =~ Go.Eng.Ask _ _; first | refine K1 ?_ | (refine Ask.mk ?_ ?_; · ((try dsimp only) <;> simp only [hst, List.append_assoc, str_cat] <;> omega))) | (guard_target =~ CallP _ _ _ _ _; first | refine H1 ck fun ck => ?_ | refine H2 ck fun ck => ?_) | (guard_target =~ All' _ _; first | (refine Y2 fun y he he' hy => ?_; (try dsimp only at he he' hy)) | (refine Y1 fun y he hy => ?_; (try with_reducible conv at he => (rhs; whnf)); (try dsimp only at he hy)) | (refine All'.mk ?_; intro y hy)) | refine F4 (fun h => ?_) fun h => ?_ | refine R1 ?_ | refine Q1 ?_ | fail)); all_goals (conv => whnf))
  · have hh : c.take i = c := List.take_of_length_le hge
    have hcb : numL c.length ++ runsBy (c.take i) = clockBy c := by rw [hh]; rfl
    have lm := hcb
    exact G1
end Go.Proofs.YthmbdjhlfieldaaGreatDoor

set_option linter.unusedVariables false
set_option linter.unusedSimpArgs false
set_option maxRecDepth 100000
namespace Go.Proofs.YthmbdjhlfieldaaGreatDoor
open Go.Eng
theorem eyS_err {x : EyX} (h : ¬ x.e = 0) (m : Int) : eyS x m = (0, x) := if_neg h
/-- An eye's bytes are bytes. -/
def okE (x : EyX) : Prop := okY x.l ∧ x.l.length ≤ 274877906944
theorem eyS_ok {x : EyX} (h : okE x) (m : Int) (hm : 0 ≤ m) : okE (eyS x m).2 ∧ 0 ≤ (eyS x m).1 ∧ (eyS x m).1 ≤ m := by
  unfold eyS
  split
  · split
    · rename_i h1 h2
      unfold numF at h2
      split at h2
      · simp at h2
      · rename_i h3
        have hr := numS_rng h.1 h2
        refine ⟨⟨okY_drop h.1 _, ?_⟩, hr.2.2.1, ?_⟩
        · show (x.l.drop _).length ≤ _
          have := h.2
          rw [List.length_drop]; omega
        · show (numS x.l).1 ≤ m
          have : ¬ m < (numS x.l).1 := fun hh => h3 ⟨h2, hh⟩
          omega
    · exact ⟨⟨fun c hc => (nomatch hc), Nat.zero_le _⟩, Int.le_refl _, hm⟩
  · exact ⟨h, Int.le_refl _, hm⟩
def rd1 (x : EyX) : Run × EyX :=
  (((eyS x 7).1, (eyS (eyS x 7).2 1099511627776).1, (eyS (eyS x 7).2 1099511627776).1 + (eyS (eyS (eyS x 7).2 1099511627776).2 1099511627776).1),
    (eyS (eyS (eyS x 7).2 1099511627776).2 1099511627776).2)
theorem rd1_ok {x : EyX} (h : okE x) : okE (rd1 x).2 := by
  unfold rd1
  exact (eyS_ok (eyS_ok (eyS_ok h 7 (by omega)).1 1099511627776 (by omega)).1 1099511627776 (by omega)).1
theorem rd1_err {x : EyX} (h : ¬ x.e = 0) : (rd1 x).2 = x := by
  unfold rd1
  simp only [eyS_err h]
def rdN (x : EyX) : Nat → List Run × EyX
  | 0 => ([], x)
  | n + 1 => ((rdN x n).1 ++ [(rd1 (rdN x n).2).1], (rd1 (rdN x n).2).2)
theorem rdN_ok {x : EyX} (h : okE x) : ∀ n, okE (rdN x n).2
  | 0 => h
  | n + 1 => rd1_ok (rdN_ok h n)
theorem rdN_len (x : EyX) : ∀ n, (rdN x n).1.length = n
  | 0 => rfl
  | n + 1 => by show ((rdN x n).1 ++ [_]).length = _; rw [List.length_append, rdN_len x n]; rfl
theorem rdN_err {x : EyX} {i : Nat} (h : ¬ (rdN x i).2.e = 0) : ∀ k, (rdN x (i + k)).2 = (rdN x i).2
  | 0 => rfl
  | k + 1 => by
    have ih := rdN_err h k
    show (rd1 (rdN x (i + k)).2).2 = _
    rw [ih]; exact rd1_err h
def getN (x : EyX) : Nat := (eyS x 1024).1.toNat
def getP (x : EyX) : List Run × EyX := rdN (eyS x 1024).2 (getN x)
/-- What Get answers, and the eye behind it. -/
def getS (x : EyX) : List Run × EyX :=
  if (getP x).2.e = 0 then (if rightB (getP x).1 then getP x else ([], ⟨[], 11⟩)) else ([], (getP x).2)
theorem getS_err {x : EyX} {i : Nat} (hi : i ≤ getN x) (h : ¬ (rdN (eyS x 1024).2 i).2.e = 0) : getS x = ([], (rdN (eyS x 1024).2 i).2) := by
  have e : (getP x).2 = (rdN (eyS x 1024).2 i).2 := by
    have := rdN_err h (getN x - i)
    rw [show i + (getN x - i) = getN x by omega] at this
    exact this
  unfold getS
  rw [e, if_neg h]
end Go.Proofs.YthmbdjhlfieldaaGreatDoor

set_option linter.unusedVariables false
set_option linter.unusedSimpArgs false
set_option linter.unusedSectionVars false
namespace Go.Proofs.YthmbdjhlfieldaaGreatDoor
open Go.Eng
variable [DM]
theorem beqB (c : Bool) : (c == c) = true := beq_self_eq_true c
theorem beqI (c : Int) : (c == c) = true := beq_self_eq_true c
theorem beqL (c : List UInt8) : (c == c) = true := beq_self_eq_true c
structure Same4 (C C' : Ctr) (x : C.X) (x' : C'.X) : Prop where
  side : C.side x
  ens : C'.ens x' (C'.val x')
  args : C'.args x' = C.args x
  rw : C'.rw x' = C.rw x
  res : C'.res x' (C'.val x') = C.res x (C.val x)
  out : C'.out x' (C'.val x') = C.out x (C.val x)
theorem ctr_re {P : Program} {F : FuncId} {C C' : Ctr} (f : C'.X → C.X) (k : ∀ x, C'.side x → Same4 C C' (f x) x) (h : C.ok P F) : C'.ok P F := by
  intro x hs
  obtain ⟨k0, k1, k2, k3, k4, k5⟩ := k x hs
  obtain ⟨-, H⟩ := h (f x) k0
  refine ⟨k1, ?_⟩
  rw [k2, k3, k4, k5]
  exact H
end Go.Proofs.YthmbdjhlfieldaaGreatDoor

set_option linter.unusedVariables false
set_option linter.unusedSimpArgs false
set_option maxRecDepth 100000
set_option maxHeartbeats 4000000
namespace Go.Proofs.YthmbdjhlfieldaaGreatDoor
open Go.Eng
/-- So many bytes, and what is left. -/
def eyF (x : EyX) (n : Int) : List Int × EyX := if x.e = 0 then (if n < 0 then ([], ⟨[], 2⟩) else if (x.l.length : Int) < n then ([], ⟨[], 10⟩) else (x.l.take n.toNat, ⟨x.l.drop n.toNat, 0⟩)) else ([], x)
/-- A text of at most so many bytes, and what is left. -/
def eyT (x : EyX) (m : Int) : List Int × EyX :=
  if (eyS x 18446744073709551615).2.e = 0 then (if m < 0 ∨ m < (eyS x 18446744073709551615).1 then ([], ⟨[], 12⟩) else eyF (eyS x 18446744073709551615).2 (eyS x 18446744073709551615).1) else ([], (eyS x 18446744073709551615).2)
theorem eyF_okE {x : EyX} (h : okE x) (n : Int) : okE (eyF x n).2 ∧ okY (eyF x n).1 ∧ (0 ≤ n → ((eyF x n).1.length : Int) ≤ n) := by
  have hz : ∀ e, okE ⟨[], e⟩ := fun e => ⟨fun c hc => (nomatch hc), Nat.zero_le _⟩
  have hn : okY [] := fun c hc => nomatch hc
  unfold eyF
  split
  · split
    · exact ⟨hz _, hn, fun h => by simpa using h⟩
    · split
      · exact ⟨hz _, hn, fun h => by simpa using h⟩
      · refine ⟨⟨okY_drop h.1 _, ?_⟩, okY_take h.1 _, fun h0 => ?_⟩
        · have := h.2
          show (x.l.drop _).length ≤ _
          rw [List.length_drop]; omega
        · show ((x.l.take n.toNat).length : Int) ≤ n
          rw [List.length_take]; omega
  · exact ⟨h, hn, fun h => by simpa using h⟩
theorem eyT_okE {x : EyX} (h : okE x) {m : Int} (hm : 0 ≤ m) : okE (eyT x m).2 ∧ okY (eyT x m).1 ∧ ((eyT x m).1.length : Int) ≤ m := by
  obtain ⟨h1, h2, h3⟩ := eyS_ok h 18446744073709551615 (by omega)
  have hn : okY [] := fun c hc => nomatch hc
  unfold eyT
  split
  · split
    · exact ⟨⟨hn, Nat.zero_le _⟩, hn, by simpa using hm⟩
    · rename_i h4
      obtain ⟨k1, k2, k3⟩ := eyF_okE h1 (eyS x 18446744073709551615).1
      exact ⟨k1, k2, by have := k3 h2; omega⟩
  · exact ⟨h1, hn, by simpa using hm⟩

structure EyR where
  x : EyX
  m : Int
  u : Int
  z : EyX
@[reducible] def eyNumX : Ctr := {
  X := EyR
  Y := Unit
  args := fun x => [.ptr 0 0, .v (.int .u64 x.m)]
  rw := fun x => eyeE 0 x.x.l x.x.e
  side := fun x => okE x.x ∧ eyS x.x x.m = (x.u, x.z)
  val := fun _ => ()
  ens := fun _ _ => True
  res := fun x _ => .v (.int .u64 x.u)
  out := fun x _ => eyeE 0 x.z.l x.z.e }
theorem eyNumX_ok : eyNumX.ok Tryz.prog 75 := ctr_re (C := eyNumC) (fun x => (x.x, x.m)) (fun x h => ⟨h.1, trivial, rfl, rfl, by show SV.v (.int .u64 x.u) = .v (.int .u64 (eyS x.x x.m).1); rw [h.2], by show eyeE _ _ _ = eyeE _ (eyS x.x x.m).2.l (eyS x.x x.m).2.e; rw [h.2]⟩) eyNum_ok
@[reducible] def reyNumX : Ctr := {
  X := EyR
  Y := Unit
  args := fun x => [.ptr 0 0, .v (.int .u64 x.m)]
  rw := fun x => reyeE 0 x.x.l x.x.e
  side := fun x => okE x.x ∧ eyS x.x x.m = (x.u, x.z)
  val := fun _ => ()
  ens := fun _ _ => True
  res := fun x _ => .v (.int .u64 x.u)
  out := fun x _ => reyeE 0 x.z.l x.z.e }
theorem reyNumX_ok : reyNumX.ok Tryz.prog 79 := ctr_re (C := reyNumC) (fun x => (x.x, x.m)) (fun x h => ⟨h.1, trivial, rfl, rfl, by show SV.v (.int .u64 x.u) = .v (.int .u64 (eyS x.x x.m).1); rw [h.2], by show reyeE _ _ _ = reyeE _ (eyS x.x x.m).2.l (eyS x.x x.m).2.e; rw [h.2]⟩) reyNum_ok
structure EyW where
  x : EyX
  n : Int
  b : List Int
  z : EyX
@[reducible] def fixC : Ctr := {
  X := EyW
  Y := Unit
  args := fun x => [.ptr 0 0, .v (.int .i64 x.n)]
  rw := fun x => eyeE 0 x.x.l x.x.e
  side := fun x => okE x.x ∧ eyF x.x x.n = (x.b, x.z)
  val := fun _ => ()
  ens := fun _ _ => True
  res := fun x _ => .ro false (.int .u8) x.b
  out := fun x _ => eyeE 0 x.z.l x.z.e }
theorem knownFix : Known Tryz.prog (gOf [(77, failC), (108, takeC), (63, cloneFC)]) :=
  known_cons ⟨fail_ok, Tryz.call77⟩ (known_cons ⟨take_ok, Tryz.call108⟩ (known_cons ⟨cloneF_ok, Tryz.call63⟩ (known_nil _)))
theorem fix_ok : fixC.ok Tryz.prog 106 := by
  refine ok_of_vc (An := fun _ => anOf []) knownFix mo Tryz.func106 (by kernel_rfl) (by kernel_rfl) (fun _ _ => trivial) (fun (x : EyW) hs => ?_)
  obtain ⟨⟨l, e⟩, n, b, ⟨zl, ze⟩⟩ := x
  obtain ⟨⟨hl, hlen⟩, hw⟩ := hs
  dsimp only at hl hlen hw
  unfold eyF at hw
  dsimp only at hw
  by_cases h1 : e = 0
  · subst h1
    rw [if_pos rfl] at hw
    by_cases h2 : n < 0
    · rw [if_pos h2] at hw
      obtain ⟨rfl, rfl, rfl⟩ : [] = b ∧ [] = zl ∧ 2 = ze := by
        simp only [Prod.mk.injEq, EyX.mk.injEq] at hw; exact hw
      have k2 : failL ⟨l, 0⟩ 2 = [] := if_pos ⟨rfl, by decide⟩
      have k3 : failE ⟨l, 0⟩ 2 = 2 := if_pos ⟨rfl, by decide⟩
      have lm := And.intro k2 k3
      have ck : Hc failC (⟨l, 0⟩, 2) True := .mk trivial
      exact G1
    · rw [if_neg h2] at hw
      by_cases h3 : (l.length : Int) < n
      · rw [if_pos h3] at hw
        obtain ⟨rfl, rfl, rfl⟩ : [] = b ∧ [] = zl ∧ 10 = ze := by
          simp only [Prod.mk.injEq, EyX.mk.injEq] at hw; exact hw
        have k2 : failL ⟨l, 0⟩ 10 = [] := if_pos ⟨rfl, by decide⟩
        have k3 : failE ⟨l, 0⟩ 10 = 10 := if_pos ⟨rfl, by decide⟩
        have lm := And.intro k2 k3
        have ck : Hc failC (⟨l, 0⟩, 10) True := .mk trivial
        exact G1
      · rw [if_neg h3] at hw
        obtain ⟨rfl, rfl, rfl⟩ : l.take n.toNat = b ∧ l.drop n.toNat = zl ∧ 0 = ze := by
          simp only [Prod.mk.injEq, EyX.mk.injEq] at hw; exact hw
        have hlt : (l.take n.toNat).length ≤ 274877906944 := by rw [List.length_take]; omega
        have ck : Hc takeC (⟨l, 0⟩, n) (Hc cloneFC (l.take n.toNat) True) := .mk (.mk trivial)
        exact G1
  · rw [if_neg h1] at hw
    obtain ⟨rfl, rfl, rfl⟩ : [] = b ∧ l = zl ∧ e = ze := by
      simp only [Prod.mk.injEq, EyX.mk.injEq] at hw; exact hw
    exact G1
@[reducible] def rfixC : Ctr := {
  X := EyW
  Y := Unit
  args := fun x => [.ptr 0 0, .v (.int .i64 x.n)]
  rw := fun x => reyeE 0 x.x.l x.x.e
  side := fun x => okE x.x ∧ eyF x.x x.n = (x.b, x.z)
  val := fun _ => ()
  ens := fun _ _ => True
  res := fun x _ => .v (.string (strOfNums x.b))
  out := fun x _ => reyeE 0 x.z.l x.z.e }
theorem knownRfix : Known Tryz.prog (gOf [(81, rfailC)]) := known_cons ⟨rfail_ok, Tryz.call81⟩ (known_nil _)
theorem rfix_ok : rfixC.ok Tryz.prog 109 := by
  refine ok_of_vc (An := fun _ => anOf []) knownRfix mo Tryz.func109 (by kernel_rfl) (by kernel_rfl) (fun _ _ => trivial) (fun (x : EyW) hs => ?_)
  obtain ⟨⟨l, e⟩, n, b, ⟨zl, ze⟩⟩ := x
  obtain ⟨⟨hl, hlen⟩, hw⟩ := hs
  dsimp only at hl hlen hw
  have hls : (strOfNums l).size = l.length := str_size l
  have hnil : strOfNums [] = ⟨#[]⟩ := rfl
  unfold eyF at hw
  dsimp only at hw
  by_cases h1 : e = 0
  · subst h1
    rw [if_pos rfl] at hw
    by_cases h2 : n < 0
    · rw [if_pos h2] at hw
      obtain ⟨rfl, rfl, rfl⟩ : [] = b ∧ [] = zl ∧ 2 = ze := by
        simp only [Prod.mk.injEq, EyX.mk.injEq] at hw; exact hw
      have k2 : failL ⟨l, 0⟩ 2 = [] := if_pos ⟨rfl, by decide⟩
      have k3 : failE ⟨l, 0⟩ 2 = 2 := if_pos ⟨rfl, by decide⟩
      have lm := And.intro k2 (And.intro k3 hnil)
      have ck : Hc rfailC (⟨l, 0⟩, 2) True := .mk trivial
      exact G1
    · rw [if_neg h2] at hw
      by_cases h3 : (l.length : Int) < n
      · rw [if_pos h3] at hw
        obtain ⟨rfl, rfl, rfl⟩ : [] = b ∧ [] = zl ∧ 10 = ze := by
          simp only [Prod.mk.injEq, EyX.mk.injEq] at hw; exact hw
        have k2 : failL ⟨l, 0⟩ 10 = [] := if_pos ⟨rfl, by decide⟩
        have k3 : failE ⟨l, 0⟩ 10 = 10 := if_pos ⟨rfl, by decide⟩
        have lm := And.intro k2 (And.intro k3 (And.intro hnil hls))
        have ck : Hc rfailC (⟨l, 0⟩, 10) True := .mk trivial
        exact G1
      · rw [if_neg h3] at hw
        obtain ⟨rfl, rfl, rfl⟩ : l.take n.toNat = b ∧ l.drop n.toNat = zl ∧ 0 = ze := by
          simp only [Prod.mk.injEq, EyX.mk.injEq] at hw; exact hw
        have he1 : (strOfNums l).extract (Int.toNat 0) n.toNat = strOfNums (l.take n.toNat) := by rw [str_extract]; rfl
        have he2 : (strOfNums l).extract n.toNat (((strOfNums l).size : Nat) : Int).toNat = strOfNums (l.drop n.toNat) := by rw [str_extract, hls, Int.toNat_natCast, List.take_length]
        have lm := And.intro he1 (And.intro he2 hls)
        exact G1
  · rw [if_neg h1] at hw
    obtain ⟨rfl, rfl, rfl⟩ : [] = b ∧ l = zl ∧ e = ze := by
      simp only [Prod.mk.injEq, EyX.mk.injEq] at hw; exact hw
    have lm := hnil
    exact G1

@[reducible] def etextC : Ctr := {
  X := EyW
  Y := Unit
  args := fun x => [.ptr 0 0, .v (.int .i64 x.n)]
  rw := fun x => eyeE 0 x.x.l x.x.e
  side := fun x => okE x.x ∧ 0 ≤ x.n ∧ x.n ≤ 1000000 ∧ eyT x.x x.n = (x.b, x.z)
  val := fun _ => ()
  ens := fun _ _ => True
  res := fun x _ => .ro false (.int .u8) x.b
  out := fun x _ => eyeE 0 x.z.l x.z.e }
theorem knownEt : Known Tryz.prog (gOf [(75, eyNumX), (77, failC), (106, fixC)]) :=
  known_cons ⟨eyNumX_ok, Tryz.call75⟩ (known_cons ⟨fail_ok, Tryz.call77⟩ (known_cons ⟨fix_ok, Tryz.call106⟩ (known_nil _)))
theorem etext_ok : etextC.ok Tryz.prog 74 := by
  refine ok_of_vc (An := fun _ => anOf []) knownEt mo Tryz.func74 (by kernel_rfl) (by kernel_rfl) (fun _ _ => trivial) (fun (x : EyW) hs => ?_)
  obtain ⟨⟨l, e⟩, n, b, z⟩ := x
  obtain ⟨hok, h0, h1, hw⟩ := hs
  dsimp only at hok h0 h1 hw
  obtain ⟨⟨u, ⟨yl, ye⟩⟩, hy⟩ : ∃ r, eyS ⟨l, e⟩ 18446744073709551615 = r := ⟨_, rfl⟩
  obtain ⟨ok2, u0, u1⟩ := eyS_ok hok 18446744073709551615 (by omega)
  unfold eyT at hw
  rw [hy] at hw ok2 u0 u1
  dsimp only at hw ok2 u0 u1
  have hwn : IntKind.u64.wrap n = n := wrap_u64 (by omega) (by omega)
  by_cases h2 : ye = 0
  · subst h2
    rw [if_pos rfl] at hw
    by_cases h3 : n < u
    · rw [if_pos (.inr h3)] at hw
      obtain ⟨rfl, rfl⟩ : [] = b ∧ ⟨[], 12⟩ = z := by
        simp only [Prod.mk.injEq] at hw; exact hw
      have k2 : failL ⟨yl, 0⟩ 12 = [] := if_pos ⟨rfl, by decide⟩
      have k3 : failE ⟨yl, 0⟩ 12 = 12 := if_pos ⟨rfl, by decide⟩
      have lm := And.intro k2 (And.intro k3 hwn)
      have ck : Hc eyNumX ⟨⟨l, e⟩, 18446744073709551615, u, ⟨yl, 0⟩⟩ (Hc failC (⟨yl, 0⟩, 12) True) := .mk (.mk trivial)
      exact G1
    · rw [if_neg (by omega)] at hw
      have hwu : IntKind.i64.wrap u = u := wrap_i64 (by omega) (by omega)
      have lm := And.intro hwn hwu
      have ck : Hc eyNumX ⟨⟨l, e⟩, 18446744073709551615, u, ⟨yl, 0⟩⟩ (Hc fixC ⟨⟨yl, 0⟩, u, b, z⟩ True) := .mk (.mk trivial)
      exact G1
  · rw [if_neg h2] at hw
    obtain ⟨rfl, rfl⟩ : [] = b ∧ ⟨yl, ye⟩ = z := by
      simp only [Prod.mk.injEq] at hw; exact hw
    have ck : Hc eyNumX ⟨⟨l, e⟩, 18446744073709551615, u, ⟨yl, ye⟩⟩ True := .mk trivial
    exact G1
@[reducible] def retextC : Ctr := {
  X := EyW
  Y := Unit
  args := fun x => [.ptr 0 0, .v (.int .i64 x.n)]
  rw := fun x => reyeE 0 x.x.l x.x.e
  side := fun x => okE x.x ∧ 0 ≤ x.n ∧ x.n ≤ 1000000 ∧ eyT x.x x.n = (x.b, x.z)
  val := fun _ => ()
  ens := fun _ _ => True
  res := fun x _ => .v (.string (strOfNums x.b))
  out := fun x _ => reyeE 0 x.z.l x.z.e }
theorem knownRet : Known Tryz.prog (gOf [(79, reyNumX), (81, rfailC), (109, rfixC)]) :=
  known_cons ⟨reyNumX_ok, Tryz.call79⟩ (known_cons ⟨rfail_ok, Tryz.call81⟩ (known_cons ⟨rfix_ok, Tryz.call109⟩ (known_nil _)))
theorem retext_ok : retextC.ok Tryz.prog 78 := by
  refine ok_of_vc (An := fun _ => anOf []) knownRet mo Tryz.func78 (by kernel_rfl) (by kernel_rfl) (fun _ _ => trivial) (fun (x : EyW) hs => ?_)
  obtain ⟨⟨l, e⟩, n, b, z⟩ := x
  obtain ⟨hok, h0, h1, hw⟩ := hs
  dsimp only at hok h0 h1 hw
  obtain ⟨⟨u, ⟨yl, ye⟩⟩, hy⟩ : ∃ r, eyS ⟨l, e⟩ 18446744073709551615 = r := ⟨_, rfl⟩
  obtain ⟨ok2, u0, u1⟩ := eyS_ok hok 18446744073709551615 (by omega)
  unfold eyT at hw
  rw [hy] at hw ok2 u0 u1
  dsimp only at hw ok2 u0 u1
  have hwn : IntKind.u64.wrap n = n := wrap_u64 (by omega) (by omega)
  have hnil : strOfNums [] = ⟨#[]⟩ := rfl
  by_cases h2 : ye = 0
  · subst h2
    rw [if_pos rfl] at hw
    by_cases h3 : n < u
    · rw [if_pos (.inr h3)] at hw
      obtain ⟨rfl, rfl⟩ : [] = b ∧ ⟨[], 12⟩ = z := by
        simp only [Prod.mk.injEq] at hw; exact hw
      have k2 : failL ⟨yl, 0⟩ 12 = [] := if_pos ⟨rfl, by decide⟩
      have k3 : failE ⟨yl, 0⟩ 12 = 12 := if_pos ⟨rfl, by decide⟩
      have lm := And.intro k2 (And.intro k3 (And.intro hwn hnil))
      have ck : Hc reyNumX ⟨⟨l, e⟩, 18446744073709551615, u, ⟨yl, 0⟩⟩ (Hc rfailC (⟨yl, 0⟩, 12) True) := .mk (.mk trivial)
      exact G1
    · rw [if_neg (by omega)] at hw
      have hwu : IntKind.i64.wrap u = u := wrap_i64 (by omega) (by omega)
      have lm := And.intro hwn (And.intro hwu hnil)
      have ck : Hc reyNumX ⟨⟨l, e⟩, 18446744073709551615, u, ⟨yl, 0⟩⟩ (Hc rfixC ⟨⟨yl, 0⟩, u, b, z⟩ True) := .mk (.mk trivial)
      exact G1
  · rw [if_neg h2] at hw
    obtain ⟨rfl, rfl⟩ : [] = b ∧ ⟨yl, ye⟩ = z := by
      simp only [Prod.mk.injEq] at hw; exact hw
    have lm := hnil
    have ck : Hc reyNumX ⟨⟨l, e⟩, 18446744073709551615, u, ⟨yl, ye⟩⟩ True := .mk trivial
    exact G1
end Go.Proofs.YthmbdjhlfieldaaGreatDoor

set_option linter.unusedVariables false
set_option linter.unusedSimpArgs false
set_option maxRecDepth 100000
namespace Go.Proofs.YthmbdjhlfieldaaGreatDoor
open Go.Eng
theorem beV_beL : ∀ u : Nat, beV (beL u) = u := fun u => by
  induction u using Nat.strongRecOn with
  | _ u ih =>
    rcases Nat.eq_zero_or_pos u with rfl | hp
    · rw [beL_zero]; rfl
    · rw [beL_pos hp, beV_snoc, ih (u / 256) (by omega)]; omega
theorem numS_num {u : Nat} (l : List Int) : numS (numL u ++ l) = ((u : Int), (((numL u).length : Nat) : Int), 0) := by
  by_cases h : u ≤ 247
  · rw [numL_small h]
    show numS ((u : Int) :: l) = _
    rw [numS_cons, if_pos (by omega)]; rfl
  · have hp : 1 ≤ (beL u).length := by rw [beL_len_pos (by omega)]; omega
    have hk : ((247 + (beL u).length : Nat) : Int) - 247 = ((beL u).length : Nat) := by omega
    have ht : (beL u ++ l).take (beL u).length = beL u := List.take_left' rfl
    have hn : numL (beV (beL u)) = ((247 + (beL u).length : Nat) : Int) :: beL u := by rw [beV_beL]; exact numL_great h
    rw [numL_great h, List.cons_append, numS_cons, if_neg (by omega), hk, if_neg (by rw [List.length_append]; omega), Int.toNat_natCast, ht]
    rw [if_pos hn, beV_beL]
    simp only [List.length_cons, Prod.mk.injEq, and_true, true_and]
    omega
theorem eyS_num {u : Nat} {m : Int} (hm : (u : Int) ≤ m) (l : List Int) : eyS ⟨numL u ++ l, 0⟩ m = ((u : Int), ⟨l, 0⟩) := by
  have h1 := numS_num (u := u) l
  have h2 : numF (numL u ++ l) m = 0 := by unfold numF; rw [h1, if_neg (by simp; omega)]
  unfold eyS
  rw [if_pos rfl, if_pos h2, h1]
  dsimp only
  rw [Int.toNat_natCast, List.drop_left' rfl]
theorem rd1_run {r : Run} (h : runP r) (l : List Int) : rd1 ⟨runBy r ++ l, 0⟩ = (r, ⟨l, 0⟩) := by
  obtain ⟨n, f, t⟩ := r
  unfold runP at h; dsimp only at h
  have e1 := eyS_num (u := n.toNat) (m := 7) (by omega) (numL f.toNat ++ (numL (t - f).toNat ++ l))
  have e2 := eyS_num (u := f.toNat) (m := 1099511627776) (by omega) (numL (t - f).toNat ++ l)
  have e3 := eyS_num (u := (t - f).toNat) (m := 1099511627776) (by omega) l
  have e0 : runBy (n, f, t) ++ l = numL n.toNat ++ (numL f.toNat ++ (numL (t - f).toNat ++ l)) := by simp [runBy]
  rw [e0]
  unfold rd1
  rw [e1]; dsimp only; rw [e2]; dsimp only; rw [e3]
  have : ((n.toNat : Int), ((f.toNat : Int), (f.toNat : Int) + ((t - f).toNat : Int))) = (n, f, t) := by
    refine Prod.ext (by dsimp only; omega) (Prod.ext (by dsimp only; omega) (by dsimp only; omega))
  rw [this]
theorem okY_runs {c : List Run} (hc : ∀ r, r ∈ c → runP r) : okY (runsBy c) := by
  induction c with
  | nil => intro x hx; cases hx
  | cons r l ih =>
    have hr := hc r (List.mem_cons_self ..)
    unfold runP at hr
    intro x hx
    have hx : x ∈ numL r.1.toNat ++ (numL r.2.1.toNat ++ numL (r.2.2 - r.2.1).toNat) ++ runsBy l := hx
    simp only [List.mem_append] at hx
    rcases hx with (hx | hx | hx) | hx
    · exact numL_okB _ (by omega) x hx
    · exact numL_okB _ (by omega) x hx
    · exact numL_okB _ (by omega) x hx
    · exact ih (fun y hy => hc y (List.mem_cons_of_mem _ hy)) x hx
theorem okY_clock {c : List Run} (h : rightB c = true) (hl : c.length ≤ 1024) : okY (clockBy c) := fun x hx => by
  rcases List.mem_append.1 hx with hx | hx
  · exact numL_okB _ (by omega) x hx
  · exact okY_runs (fun r hr => by obtain ⟨i, hi⟩ := List.getElem?_of_mem hr; exact right_all h hi) x hx
theorem getS_okE {x : EyX} (h : okE x) : okE (getS x).2 := by
  have hp : okE (getP x).2 := rdN_ok (eyS_ok h 1024 (by omega)).1 _
  unfold getS
  split
  · split
    · exact hp
    · exact ⟨fun c hc => (nomatch hc), Nat.zero_le _⟩
  · exact hp
theorem getS_len {x : EyX} (h : okE x) : (getS x).1.length ≤ 1024 := by
  have hp : (getP x).1.length ≤ 1024 := by
    show (rdN _ (getN x)).1.length ≤ _
    rw [rdN_len]
    have := (eyS_ok h 1024 (by omega)).2.2
    unfold getN; omega
  unfold getS
  split
  · split
    · exact hp
    · simp
  · simp
end Go.Proofs.YthmbdjhlfieldaaGreatDoor

set_option linter.unusedVariables false
set_option linter.unusedSimpArgs false
set_option maxRecDepth 100000
namespace Go.Proofs.YthmbdjhlfieldaaGreatDoor
open Go.Eng
variable [DM]
set_option linter.unusedSectionVars false
abbrev itemT : Ty := .pair .str (.pair (.pair (.int .i64) (.int .i64)) (.pair (.sl runT) (.pair .bool (.sl (.int .u8)))))
abbrev Item := ByteArray × (Int × Int) × List Run × Bool × List Int
@[reducible] def itemA (x : Item) : SV := .agg [.v (.string x.1), .v (.int .i64 x.2.1.1), .v (.int .i64 x.2.1.2), .ro false runT x.2.2.1, .v (.bool x.2.2.2.1), .ro false (.int .u8) x.2.2.2.2]
@[reducible] def itemL (x : Item) : Prop := x.1.size ≤ 9223372036854775807 ∧ x.2.2.1.length ≤ 9223372036854775807 ∧ x.2.2.2.2.length ≤ 9223372036854775807
def itemB (x : Item) : Bool :=
  goodB (x.2.1.1, x.2.1.2) && rightB x.2.2.1 && decide (1 ≤ x.1.size ∧ x.1.size ≤ 24 ∧ x.2.2.2.2.length ≤ 64 ∧ (x.2.2.2.1 = true → x.2.2.2.2.length = 0) ∧ x.2.2.1.length ≤ 32 ∧ topN x.2.2.1 x.2.1.1 < x.2.1.2)
@[reducible] def irightC : Ctr := {
  X := Item
  Y := Bool
  args := fun x => [itemA x]
  rw := fun _ => []
  side := fun x => itemL x
  val := fun x => itemB x
  ens := fun _ _ => True
  res := fun _ y => .v (.bool y)
  out := fun _ _ => [] }
theorem knownV0 : Known Tryz.prog (gOf [(50, dgoodC), (51, drightC), (52, dtopC)]) :=
  known_cons ⟨dgood_ok, Tryz.call50⟩ (known_cons ⟨dright_ok, Tryz.call51⟩ (known_cons ⟨dtop_ok, Tryz.call52⟩ (known_nil _)))
theorem knownV1 : Known Tryz.prog (gOf [(59, dgoodC), (60, drightC), (61, dtopC)]) :=
  known_cons ⟨rgood_ok, Tryz.call59⟩ (known_cons ⟨rdright_ok, Tryz.call60⟩ (known_cons ⟨rdtop_ok, Tryz.call61⟩ (known_nil _)))
theorem itemB_tt {key : ByteArray} {m n : Int} {c : List Run} {v : List Int} (hg : goodB (m, n) = true) (hr : rightB c = true) :
    itemB (key, (m, n), c, true, v) = decide (1 ≤ key.size ∧ key.size ≤ 24 ∧ v.length ≤ 64 ∧ v.length = 0 ∧ c.length ≤ 32 ∧ topN c m < n) := by
  unfold itemB
  dsimp only
  rw [hg, hr, Bool.true_and, Bool.true_and]
  simp only [forall_const]
theorem itemB_tf {key : ByteArray} {m n : Int} {c : List Run} {v : List Int} (hg : goodB (m, n) = true) (hr : rightB c = true) :
    itemB (key, (m, n), c, false, v) = decide (1 ≤ key.size ∧ key.size ≤ 24 ∧ v.length ≤ 64 ∧ c.length ≤ 32 ∧ topN c m < n) := by
  unfold itemB
  dsimp only
  rw [hg, hr, Bool.true_and, Bool.true_and]
  simp only [Bool.false_eq_true, false_implies, true_and]
theorem itemB_f1 {key : ByteArray} {m n : Int} {c : List Run} {b : Bool} {v : List Int} (hg : goodB (m, n) = false) : itemB (key, (m, n), c, b, v) = false := by
  unfold itemB
  dsimp only
  rw [hg]; rfl
theorem itemB_f2 {key : ByteArray} {m n : Int} {c : List Run} {b : Bool} {v : List Int} (hr : rightB c = false) : itemB (key, (m, n), c, b, v) = false := by
  unfold itemB
  dsimp only
  rw [hr, Bool.and_false]; rfl

theorem iright_ok : irightC.ok Tryz.prog 14 := by
  refine ok_of_vc (An := fun _ => anOf []) knownV0 mo Tryz.func14 (by kernel_rfl) (by kernel_rfl) (fun _ _ => trivial) (fun x hs => ?_)
  obtain ⟨key, ⟨m, n⟩, c, b, v⟩ := x
  have hs : key.size ≤ 9223372036854775807 ∧ c.length ≤ 9223372036854775807 ∧ v.length ≤ 9223372036854775807 := hs
  cases hg : goodB (m, n) with
  | false =>
    have hi := itemB_f1 (key := key) (c := c) (b := b) (v := v) hg
    cases b
    · (refine Z ?_; repeat' (first | exact .intro | ((first | refine B1 (fun h => ?_) fun h => ?_ | refine B2 fun y he he' hy => ?_ | refine B3 fun y he hy => ?_ | refine B4 fun y hy => ?_ | refine B5 fun ck => ?_ | fail) <;> refine Z ?_)))
      all_goals
        refine CallP.mk (C := dgoodC) (m, n) ?_
        (refine Z ?_; repeat' (first | exact .intro | ((first | refine B1 (fun h => ?_) fun h => ?_ | refine B2 fun y he he' hy => ?_ | refine B3 fun y he hy => ?_ | refine B4 fun y hy => ?_ | refine B5 fun ck => ?_ | fail) <;> refine Z ?_)))
    · (refine Z ?_; repeat' (first | exact .intro | ((first | refine B1 (fun h => ?_) fun h => ?_ | refine B2 fun y he he' hy => ?_ | refine B3 fun y he hy => ?_ | refine B4 fun y hy => ?_ | refine B5 fun ck => ?_ | fail) <;> refine Z ?_)))
      all_goals
        refine CallP.mk (C := dgoodC) (m, n) ?_
        (refine Z ?_; repeat' (first | exact .intro | ((first | refine B1 (fun h => ?_) fun h => ?_ | refine B2 fun y he he' hy => ?_ | refine B3 fun y he hy => ?_ | refine B4 fun y hy => ?_ | refine B5 fun ck => ?_ | fail) <;> refine Z ?_)))
  | true =>
    cases hr : rightB c with
    | false =>
      have hi := itemB_f2 (key := key) (m := m) (n := n) (b := b) (v := v) hr
      cases b
      · (refine Z ?_; repeat' (first | exact .intro | ((first | refine B1 (fun h => ?_) fun h => ?_ | refine B2 fun y he he' hy => ?_ | refine B3 fun y he hy => ?_ | refine B4 fun y hy => ?_ | refine B5 fun ck => ?_ | fail) <;> refine Z ?_)))
        all_goals
          refine CallP.mk (C := dgoodC) (m, n) ?_
          (refine Z ?_; repeat' (first | exact .intro | ((first | refine B1 (fun h => ?_) fun h => ?_ | refine B2 fun y he he' hy => ?_ | refine B3 fun y he hy => ?_ | refine B4 fun y hy => ?_ | refine B5 fun ck => ?_ | fail) <;> refine Z ?_)))
        all_goals
          refine CallP.mk (C := drightC) c ?_
          (refine Z ?_; repeat' (first | exact .intro | ((first | refine B1 (fun h => ?_) fun h => ?_ | refine B2 fun y he he' hy => ?_ | refine B3 fun y he hy => ?_ | refine B4 fun y hy => ?_ | refine B5 fun ck => ?_ | fail) <;> refine Z ?_)))
      · (refine Z ?_; repeat' (first | exact .intro | ((first | refine B1 (fun h => ?_) fun h => ?_ | refine B2 fun y he he' hy => ?_ | refine B3 fun y he hy => ?_ | refine B4 fun y hy => ?_ | refine B5 fun ck => ?_ | fail) <;> refine Z ?_)))
        all_goals
          refine CallP.mk (C := dgoodC) (m, n) ?_
          (refine Z ?_; repeat' (first | exact .intro | ((first | refine B1 (fun h => ?_) fun h => ?_ | refine B2 fun y he he' hy => ?_ | refine B3 fun y he hy => ?_ | refine B4 fun y hy => ?_ | refine B5 fun ck => ?_ | fail) <;> refine Z ?_)))
        all_goals
          refine CallP.mk (C := drightC) c ?_
          (refine Z ?_; repeat' (first | exact .intro | ((first | refine B1 (fun h => ?_) fun h => ?_ | refine B2 fun y he he' hy => ?_ | refine B3 fun y he hy => ?_ | refine B4 fun y hy => ?_ | refine B5 fun ck => ?_ | fail) <;> refine Z ?_)))
    | true =>
      cases b
      · have hi := itemB_tf (key := key) (v := v) hg hr
        generalize ht : topN c m = tp at hi
        have lm := hi
        (refine Z ?_; repeat' (first | exact .intro | ((first | refine B1 (fun h => ?_) fun h => ?_ | refine B2 fun y he he' hy => ?_ | refine B3 fun y he hy => ?_ | refine B4 fun y hy => ?_ | refine B5 fun ck => ?_ | fail) <;> refine Z ?_)))
        all_goals
          refine CallP.mk (C := dgoodC) (m, n) ?_
          (refine Z ?_; repeat' (first | exact .intro | ((first | refine B1 (fun h => ?_) fun h => ?_ | refine B2 fun y he he' hy => ?_ | refine B3 fun y he hy => ?_ | refine B4 fun y hy => ?_ | refine B5 fun ck => ?_ | fail) <;> refine Z ?_)))
        all_goals
          refine CallP.mk (C := drightC) c ?_
          (refine Z ?_; repeat' (first | exact .intro | ((first | refine B1 (fun h => ?_) fun h => ?_ | refine B2 fun y he he' hy => ?_ | refine B3 fun y he hy => ?_ | refine B4 fun y hy => ?_ | refine B5 fun ck => ?_ | fail) <;> refine Z ?_)))
          obtain rfl : y = true := he.trans hr
          (refine Z ?_; repeat' (first | exact .intro | ((first | refine B1 (fun h => ?_) fun h => ?_ | refine B2 fun y he he' hy => ?_ | refine B3 fun y he hy => ?_ | refine B4 fun y hy => ?_ | refine B5 fun ck => ?_ | fail) <;> refine Z ?_)))
        all_goals
          refine CallP.mk (C := dtopC) (c, m) ?_
          (refine Z ?_; repeat' (first | exact .intro | ((first | refine B1 (fun h => ?_) fun h => ?_ | refine B2 fun y he he' hy => ?_ | refine B3 fun y he hy => ?_ | refine B4 fun y hy => ?_ | refine B5 fun ck => ?_ | fail) <;> refine Z ?_)))
      · have hi := itemB_tt (key := key) (v := v) hg hr
        generalize ht : topN c m = tp at hi
        have lm := hi
        (refine Z ?_; repeat' (first | exact .intro | ((first | refine B1 (fun h => ?_) fun h => ?_ | refine B2 fun y he he' hy => ?_ | refine B3 fun y he hy => ?_ | refine B4 fun y hy => ?_ | refine B5 fun ck => ?_ | fail) <;> refine Z ?_)))
        all_goals
          refine CallP.mk (C := dgoodC) (m, n) ?_
          (refine Z ?_; repeat' (first | exact .intro | ((first | refine B1 (fun h => ?_) fun h => ?_ | refine B2 fun y he he' hy => ?_ | refine B3 fun y he hy => ?_ | refine B4 fun y hy => ?_ | refine B5 fun ck => ?_ | fail) <;> refine Z ?_)))
        all_goals
          refine CallP.mk (C := drightC) c ?_
          (refine Z ?_; repeat' (first | exact .intro | ((first | refine B1 (fun h => ?_) fun h => ?_ | refine B2 fun y he he' hy => ?_ | refine B3 fun y he hy => ?_ | refine B4 fun y hy => ?_ | refine B5 fun ck => ?_ | fail) <;> refine Z ?_)))
          obtain rfl : y = true := he.trans hr
          (refine Z ?_; repeat' (first | exact .intro | ((first | refine B1 (fun h => ?_) fun h => ?_ | refine B2 fun y he he' hy => ?_ | refine B3 fun y he hy => ?_ | refine B4 fun y hy => ?_ | refine B5 fun ck => ?_ | fail) <;> refine Z ?_)))
        all_goals
          refine CallP.mk (C := dtopC) (c, m) ?_
          (refine Z ?_; repeat' (first | exact .intro | ((first | refine B1 (fun h => ?_) fun h => ?_ | refine B2 fun y he he' hy => ?_ | refine B3 fun y he hy => ?_ | refine B4 fun y hy => ?_ | refine B5 fun ck => ?_ | fail) <;> refine Z ?_)))
theorem riright_ok : irightC.ok Tryz.prog 19 := by
  refine ok_of_vc (An := fun _ => anOf []) knownV1 mo Tryz.func19 (by kernel_rfl) (by kernel_rfl) (fun _ _ => trivial) (fun x hs => ?_)
  obtain ⟨key, ⟨m, n⟩, c, b, v⟩ := x
  have hs : key.size ≤ 9223372036854775807 ∧ c.length ≤ 9223372036854775807 ∧ v.length ≤ 9223372036854775807 := hs
  cases hg : goodB (m, n) with
  | false =>
    have hi := itemB_f1 (key := key) (c := c) (b := b) (v := v) hg
    cases b
    · (refine Z ?_; repeat' (first | exact .intro | ((first | refine B1 (fun h => ?_) fun h => ?_ | refine B2 fun y he he' hy => ?_ | refine B3 fun y he hy => ?_ | refine B4 fun y hy => ?_ | refine B5 fun ck => ?_ | fail) <;> refine Z ?_)))
      all_goals
        refine CallP.mk (C := dgoodC) (m, n) ?_
        (refine Z ?_; repeat' (first | exact .intro | ((first | refine B1 (fun h => ?_) fun h => ?_ | refine B2 fun y he he' hy => ?_ | refine B3 fun y he hy => ?_ | refine B4 fun y hy => ?_ | refine B5 fun ck => ?_ | fail) <;> refine Z ?_)))
    · (refine Z ?_; repeat' (first | exact .intro | ((first | refine B1 (fun h => ?_) fun h => ?_ | refine B2 fun y he he' hy => ?_ | refine B3 fun y he hy => ?_ | refine B4 fun y hy => ?_ | refine B5 fun ck => ?_ | fail) <;> refine Z ?_)))
      all_goals
        refine CallP.mk (C := dgoodC) (m, n) ?_
        (refine Z ?_; repeat' (first | exact .intro | ((first | refine B1 (fun h => ?_) fun h => ?_ | refine B2 fun y he he' hy => ?_ | refine B3 fun y he hy => ?_ | refine B4 fun y hy => ?_ | refine B5 fun ck => ?_ | fail) <;> refine Z ?_)))
  | true =>
    cases hr : rightB c with
    | false =>
      have hi := itemB_f2 (key := key) (m := m) (n := n) (b := b) (v := v) hr
      cases b
      · (refine Z ?_; repeat' (first | exact .intro | ((first | refine B1 (fun h => ?_) fun h => ?_ | refine B2 fun y he he' hy => ?_ | refine B3 fun y he hy => ?_ | refine B4 fun y hy => ?_ | refine B5 fun ck => ?_ | fail) <;> refine Z ?_)))
        all_goals
          refine CallP.mk (C := dgoodC) (m, n) ?_
          (refine Z ?_; repeat' (first | exact .intro | ((first | refine B1 (fun h => ?_) fun h => ?_ | refine B2 fun y he he' hy => ?_ | refine B3 fun y he hy => ?_ | refine B4 fun y hy => ?_ | refine B5 fun ck => ?_ | fail) <;> refine Z ?_)))
        all_goals
          refine CallP.mk (C := drightC) c ?_
          (refine Z ?_; repeat' (first | exact .intro | ((first | refine B1 (fun h => ?_) fun h => ?_ | refine B2 fun y he he' hy => ?_ | refine B3 fun y he hy => ?_ | refine B4 fun y hy => ?_ | refine B5 fun ck => ?_ | fail) <;> refine Z ?_)))
      · (refine Z ?_; repeat' (first | exact .intro | ((first | refine B1 (fun h => ?_) fun h => ?_ | refine B2 fun y he he' hy => ?_ | refine B3 fun y he hy => ?_ | refine B4 fun y hy => ?_ | refine B5 fun ck => ?_ | fail) <;> refine Z ?_)))
        all_goals
          refine CallP.mk (C := dgoodC) (m, n) ?_
          (refine Z ?_; repeat' (first | exact .intro | ((first | refine B1 (fun h => ?_) fun h => ?_ | refine B2 fun y he he' hy => ?_ | refine B3 fun y he hy => ?_ | refine B4 fun y hy => ?_ | refine B5 fun ck => ?_ | fail) <;> refine Z ?_)))
        all_goals
          refine CallP.mk (C := drightC) c ?_
          (refine Z ?_; repeat' (first | exact .intro | ((first | refine B1 (fun h => ?_) fun h => ?_ | refine B2 fun y he he' hy => ?_ | refine B3 fun y he hy => ?_ | refine B4 fun y hy => ?_ | refine B5 fun ck => ?_ | fail) <;> refine Z ?_)))
    | true =>
      cases b
      · have hi := itemB_tf (key := key) (v := v) hg hr
        generalize ht : topN c m = tp at hi
        have lm := hi
        (refine Z ?_; repeat' (first | exact .intro | ((first | refine B1 (fun h => ?_) fun h => ?_ | refine B2 fun y he he' hy => ?_ | refine B3 fun y he hy => ?_ | refine B4 fun y hy => ?_ | refine B5 fun ck => ?_ | fail) <;> refine Z ?_)))
        all_goals
          refine CallP.mk (C := dgoodC) (m, n) ?_
          (refine Z ?_; repeat' (first | exact .intro | ((first | refine B1 (fun h => ?_) fun h => ?_ | refine B2 fun y he he' hy => ?_ | refine B3 fun y he hy => ?_ | refine B4 fun y hy => ?_ | refine B5 fun ck => ?_ | fail) <;> refine Z ?_)))
        all_goals
          refine CallP.mk (C := drightC) c ?_
          (refine Z ?_; repeat' (first | exact .intro | ((first | refine B1 (fun h => ?_) fun h => ?_ | refine B2 fun y he he' hy => ?_ | refine B3 fun y he hy => ?_ | refine B4 fun y hy => ?_ | refine B5 fun ck => ?_ | fail) <;> refine Z ?_)))
          obtain rfl : y = true := he.trans hr
          (refine Z ?_; repeat' (first | exact .intro | ((first | refine B1 (fun h => ?_) fun h => ?_ | refine B2 fun y he he' hy => ?_ | refine B3 fun y he hy => ?_ | refine B4 fun y hy => ?_ | refine B5 fun ck => ?_ | fail) <;> refine Z ?_)))
        all_goals
          refine CallP.mk (C := dtopC) (c, m) ?_
          (refine Z ?_; repeat' (first | exact .intro | ((first | refine B1 (fun h => ?_) fun h => ?_ | refine B2 fun y he he' hy => ?_ | refine B3 fun y he hy => ?_ | refine B4 fun y hy => ?_ | refine B5 fun ck => ?_ | fail) <;> refine Z ?_)))
      · have hi := itemB_tt (key := key) (v := v) hg hr
        generalize ht : topN c m = tp at hi
        have lm := hi
        (refine Z ?_; repeat' (first | exact .intro | ((first | refine B1 (fun h => ?_) fun h => ?_ | refine B2 fun y he he' hy => ?_ | refine B3 fun y he hy => ?_ | refine B4 fun y hy => ?_ | refine B5 fun ck => ?_ | fail) <;> refine Z ?_)))
        all_goals
          refine CallP.mk (C := dgoodC) (m, n) ?_
          (refine Z ?_; repeat' (first | exact .intro | ((first | refine B1 (fun h => ?_) fun h => ?_ | refine B2 fun y he he' hy => ?_ | refine B3 fun y he hy => ?_ | refine B4 fun y hy => ?_ | refine B5 fun ck => ?_ | fail) <;> refine Z ?_)))
        all_goals
          refine CallP.mk (C := drightC) c ?_
          (refine Z ?_; repeat' (first | exact .intro | ((first | refine B1 (fun h => ?_) fun h => ?_ | refine B2 fun y he he' hy => ?_ | refine B3 fun y he hy => ?_ | refine B4 fun y hy => ?_ | refine B5 fun ck => ?_ | fail) <;> refine Z ?_)))
          obtain rfl : y = true := he.trans hr
          (refine Z ?_; repeat' (first | exact .intro | ((first | refine B1 (fun h => ?_) fun h => ?_ | refine B2 fun y he he' hy => ?_ | refine B3 fun y he hy => ?_ | refine B4 fun y hy => ?_ | refine B5 fun ck => ?_ | fail) <;> refine Z ?_)))
        all_goals
          refine CallP.mk (C := dtopC) (c, m) ?_
          (refine Z ?_; repeat' (first | exact .intro | ((first | refine B1 (fun h => ?_) fun h => ?_ | refine B2 fun y he he' hy => ?_ | refine B3 fun y he hy => ?_ | refine B4 fun y hy => ?_ | refine B5 fun ck => ?_ | fail) <;> refine Z ?_)))
end Go.Proofs.YthmbdjhlfieldaaGreatDoor
