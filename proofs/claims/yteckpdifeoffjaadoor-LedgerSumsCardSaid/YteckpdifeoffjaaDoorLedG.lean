/- Ledger: its text. -/
import Derived.Test.YteckpdifeoffjaaDoorLedF
import Derived.Test.YteckpdifeoffjaaDoorLibA
set_option linter.unusedVariables false
set_option linter.unusedSimpArgs false
set_option maxRecDepth 100000
namespace Go.Proofs.YteckpdifeoffjaaDoor
open Go.Eng

theorem nDigits_le20 {u : Nat} (h : u ≤ 18446744073709551615) : Lib.nDigits u ≤ 20 := by
  by_cases h1 : 1 ≤ u
  · have := Lib.numDigits_eq u h1 (by omega)
    split at this <;> omega
  · have : u = 0 := by omega
    subst this
    rw [Lib.nDigits_small (by omega)]; omega
theorem decS_size {u : Nat} (h : u ≤ 18446744073709551615) : (decS u).size ≤ 20 := by
  have := nDigits_le20 h
  show Array.size _ ≤ 20
  simp only [decS, List.size_toArray, Lib.decDigits_length]
  exact this

def spS : ByteArray := ⟨#[32]⟩
def rowS (o : LedO) (k : Nat) : ByteArray := decS k ++ spS ++ decS (fO o k).1 ++ spS ++ decS (fO o k).2
def textL (o : LedO) (n : Nat) : List ByteArray := ((ksO o).take n).map (rowS o)
theorem textL_succ {o : LedO} {c : Nat} (h : c < (ksO o).length) : textL o (c + 1) = textL o c ++ [rowS o (kth o c)] := by
  unfold textL; rw [take_succ_of (kth_at h)]; simp
theorem textL_length {o : LedO} {n : Nat} (h : n ≤ (ksO o).length) : (textL o n).length = n := by simp [textL]; omega
def textS (o : LedO) : ByteArray := if ksO o = [] then ⟨#[45]⟩ else joinS (textL o (ksO o).length) ⟨#[44, 32]⟩

theorem size_append (a b : ByteArray) : (a ++ b).size = a.size + b.size := by simp
theorem rowS_size {o : LedO} (h : ∀ f, o = some f → okL f) {k : Nat} (hk : k ≤ 14) : (rowS o k).size ≤ 62 := by
  have h0 := fO_okR h k
  have h1 := decS_size (u := k) (by omega)
  have h2 := decS_size h0.1
  have h3 := decS_size h0.2
  have h4 : spS.size = 1 := rfl
  unfold rowS
  simp only [size_append]
  omega
theorem lens_le {l : List (List UInt8)} {m : Nat} (h : ∀ x, x ∈ l → x.length ≤ m) : Lib.lens l ≤ m * l.length := by
  induction l with
  | nil => simp [Lib.lens]
  | cons x l ih =>
    have h1 := h x (List.mem_cons_self ..)
    have h2 := ih (fun y hy => h y (List.mem_cons_of_mem _ hy))
    simp only [Lib.lens, List.map_cons, List.sum_cons, List.length_cons, Nat.mul_add, Nat.mul_one] at *
    omega
theorem joinS_size {l : List ByteArray} {sep : ByteArray} {m : Nat} (h : ∀ x, x ∈ l → x.size ≤ m) : (joinS l sep).size ≤ (m + sep.size) * l.length := by
  have e : (joinS l sep).size = (Lib.join (l.map (·.data.toList)) sep.data.toList).length := by
    show (Array.size _) = _
    simp [joinS]
  rw [e]
  cases l with
  | nil => simp [Lib.join_nil]
  | cons x l =>
    rw [List.map_cons, Lib.join_length]
    have h1 := lens_le (l := (x :: l).map (·.data.toList)) (m := m) (fun y hy => by
      obtain ⟨z, hz, rfl⟩ := List.mem_map.1 hy
      exact h z hz)
    have h2 : sep.data.toList.length = sep.size := rfl
    simp only [List.map_cons, List.length_cons, List.length_map, h2] at h1 ⊢
    rw [Nat.add_mul]
    have h3 : sep.size * l.length ≤ sep.size * (l.length + 1) := Nat.mul_le_mul_left _ (by omega)
    omega
theorem textJ_size {o : LedO} (h : ∀ f, o = some f → okL f) (n : Nat) : (textL o n).length ≤ 14 ∧ (joinS (textL o n) ⟨#[44, 32]⟩).size ≤ 1000 := by
  have hl : (textL o n).length ≤ 14 := by
    have := ksO_len o
    simp [textL]; omega
  refine ⟨hl, ?_⟩
  have := joinS_size (l := textL o n) (sep := ⟨#[44, 32]⟩) (m := 62) (fun x hx => by
    obtain ⟨k, hk, rfl⟩ := List.mem_map.1 hx
    have hm := List.mem_of_mem_take hk
    refine rowS_size h ?_
    cases o with
    | none => simp [ksO] at hm
    | some f => have := ksF_mem 14 1 hm; omega)
  have h2 : (⟨#[44, 32]⟩ : ByteArray).size = 2 := rfl
  rw [h2] at this
  have h3 : (62 + 2) * (textL o n).length ≤ (62 + 2) * 14 := Nat.mul_le_mul_left _ hl
  omega

@[reducible] def textC : Ctr := {
  X := LedO
  Y := Unit
  args := fun o => [ledA o]
  rw := ledM
  side := fun o => ∀ f, o = some f → okL f
  val := fun _ => ()
  ens := fun _ _ => True
  res := fun o _ => .v (.string (textS o))
  out := fun o _ => ledM o }
@[reducible] def textR (o : LedO) : RA := {
  X := Unit
  T := fun _ => [(3, .ptr 1 0), (7, .func (.func 30) [] [.ptr 2 0])]
  M := fun _ k => [(1, .cells 61 [.sl 4]), (4, .row 9 .str (textL o k))]
  R := fun _ => restM o
  rg := [0, 1, 2]
  n := fun _ => (ksO o).length
  args := fun _ k => [.v (.int .i64 (kth o k : Nat)), rowV (fO o (kth o k))]
  goes := fun _ _ => true
  jump := fun _ _ => .ret }
theorem knownText : Known Tryd.prog (gOf [(25, itoaC), (26, futC), (27, joinC), (23, rowsC), (30, iterC), (22, sumC)]) :=
  known_cons ⟨itoa_ok, Tryd.call25⟩ (known_cons ⟨fut_ok, Tryd.call26⟩ (known_cons ⟨join_ok, Tryd.call27⟩ knownTot))
theorem text_ok : textC.ok Tryd.prog 18 := by
  refine ok_of_vc (An := fun (o : LedO) => anOf [(0, .range (textR o))]) knownText mo Tryd.func18 (by kernel_rfl) (by kernel_rfl) (fun _ _ => trivial) (fun o hs => ?_)
  have hs : ∀ f, o = some f → okL f := hs
  have ht0 : textL o 0 = [] := by simp [textL]
  cases o with
  | none =>
    have hte : textS none = ⟨#[45]⟩ := rfl
    have htn : (textL none 0).length = 0 := rfl
    ((repeat' ((conv => whnf) <;> first | exact True.intro | (guard_target =~ Fork _ _ _; first | refine F1 ?_ | refine F2 ?_ | refine F3 (fun h => ?_) fun h => ?_) | (guard_target =~ Ar _ _ _; first | refine A1 ?_ | refine A2 ?_) | (guard_target =~ AskL _ _; first | refine L1 ?_) | (guard_target =~ Go.Eng.Ask _ _; first | refine K1 ?_) | (guard_target =~ All' _ _; first | (refine Y2 fun y he he' hy => ?_; (try dsimp only at he he' hy)) | (refine Y1 fun y he hy => ?_; (try with_reducible conv at he => (rhs; whnf)); (try dsimp only at he hy)) | (refine All'.mk ?_; intro y hy)) | refine F4 (fun h => ?_) fun h => ?_ | refine R1 ?_ | refine Q1 ?_ | fail)); all_goals (conv => whnf))
    refine CallP.mk (C := rowsC) none ?_
    ((repeat' ((conv => whnf) <;> first | exact True.intro | (guard_target =~ Fork _ _ _; first | refine F1 ?_ | refine F2 ?_ | refine F3 (fun h => ?_) fun h => ?_) | (guard_target =~ Ar _ _ _; first | refine A1 ?_ | refine A2 ?_) | (guard_target =~ AskL _ _; first | refine L1 ?_) | (guard_target =~ Go.Eng.Ask _ _; first | refine K1 ?_) | (guard_target =~ All' _ _; first | (refine Y2 fun y he he' hy => ?_; (try dsimp only at he he' hy)) | (refine Y1 fun y he hy => ?_; (try with_reducible conv at he => (rhs; whnf)); (try dsimp only at he hy)) | (refine All'.mk ?_; intro y hy)) | refine F4 (fun h => ?_) fun h => ?_ | refine R1 ?_ | refine Q1 ?_ | fail)); all_goals (conv => whnf))
    refine Some'.mk () ?_
    ((repeat' ((conv => whnf) <;> first | exact True.intro | (guard_target =~ Fork _ _ _; first | refine F1 ?_ | refine F2 ?_ | refine F3 (fun h => ?_) fun h => ?_) | (guard_target =~ Ar _ _ _; first | refine A1 ?_ | refine A2 ?_) | (guard_target =~ AskL _ _; first | refine L1 ?_) | (guard_target =~ Go.Eng.Ask _ _; first | refine K1 ?_) | (guard_target =~ All' _ _; first | (refine Y2 fun y he he' hy => ?_; (try dsimp only at he he' hy)) | (refine Y1 fun y he hy => ?_; (try with_reducible conv at he => (rhs; whnf)); (try dsimp only at he hy)) | (refine All'.mk ?_; intro y hy)) | refine F4 (fun h => ?_) fun h => ?_ | refine R1 ?_ | refine Q1 ?_ | fail)); all_goals (conv => whnf))
    refine Two.mk ?_ ?_
    · refine AllI.mk ?_
      intro k hk
      exact absurd (liveB_iff.1 hk).1 (Nat.not_lt_zero _)
    · refine AllI.mk ?_
      rintro ⟨l, Y⟩ ⟨h1, h2, h3, h4⟩
      dsimp only at h1 h2 h3 h4
      ((repeat' ((conv => whnf) <;> first | exact True.intro | (guard_target =~ Fork _ _ _; first | refine F1 ?_ | refine F2 ?_ | refine F3 (fun h => ?_) fun h => ?_) | (guard_target =~ Ar _ _ _; first | refine A1 ?_ | refine A2 ?_) | (guard_target =~ AskL _ _; first | refine L1 ?_) | (guard_target =~ Go.Eng.Ask _ _; first | refine K1 ?_) | (guard_target =~ All' _ _; first | (refine Y2 fun y he he' hy => ?_; (try dsimp only at he he' hy)) | (refine Y1 fun y he hy => ?_; (try with_reducible conv at he => (rhs; whnf)); (try dsimp only at he hy)) | (refine All'.mk ?_; intro y hy)) | refine F4 (fun h => ?_) fun h => ?_ | refine R1 ?_ | refine Q1 ?_ | fail)); all_goals (conv => whnf))
      refine CallP.mk (C := iterC) ⟨Y, l, none⟩ ?_
      ((repeat' ((conv => whnf) <;> first | exact True.intro | (guard_target =~ Fork _ _ _; first | refine F1 ?_ | refine F2 ?_ | refine F3 (fun h => ?_) fun h => ?_) | (guard_target =~ Ar _ _ _; first | refine A1 ?_ | refine A2 ?_) | (guard_target =~ AskL _ _; first | refine L1 ?_) | (guard_target =~ Go.Eng.Ask _ _; first | refine K1 ?_) | (guard_target =~ All' _ _; first | (refine Y2 fun y he he' hy => ?_; (try dsimp only at he he' hy)) | (refine Y1 fun y he hy => ?_; (try with_reducible conv at he => (rhs; whnf)); (try dsimp only at he hy)) | (refine All'.mk ?_; intro y hy)) | refine F4 (fun h => ?_) fun h => ?_ | refine R1 ?_ | refine Q1 ?_ | fail)); all_goals (conv => whnf))
      refine Ask.mk ⟨h4, sideK _ Y h1 h2 h3⟩ ?_
      ((repeat' ((conv => whnf) <;> first | exact True.intro | (guard_target =~ Fork _ _ _; first | refine F1 ?_ | refine F2 ?_ | refine F3 (fun h => ?_) fun h => ?_) | (guard_target =~ Ar _ _ _; first | refine A1 ?_ | refine A2 ?_) | (guard_target =~ AskL _ _; first | refine L1 ?_) | (guard_target =~ Go.Eng.Ask _ _; first | refine K1 ?_) | (guard_target =~ All' _ _; first | (refine Y2 fun y he he' hy => ?_; (try dsimp only at he he' hy)) | (refine Y1 fun y he hy => ?_; (try with_reducible conv at he => (rhs; whnf)); (try dsimp only at he hy)) | (refine All'.mk ?_; intro y hy)) | refine F4 (fun h => ?_) fun h => ?_ | refine R1 ?_ | refine Q1 ?_ | fail)); all_goals (conv => whnf))
      refine Some'.mk 0 ?_
      conv => whnf
      refine Eqn.mk rfl ?_
      ((repeat' ((conv => whnf) <;> first | exact True.intro | (guard_target =~ Fork _ _ _; first | refine F1 ?_ | refine F2 ?_ | refine F3 (fun h => ?_) fun h => ?_) | (guard_target =~ Ar _ _ _; first | refine A1 ?_ | refine A2 ?_) | (guard_target =~ AskL _ _; first | refine L1 ?_) | (guard_target =~ Go.Eng.Ask _ _; first | refine K1 ?_) | (guard_target =~ All' _ _; first | (refine Y2 fun y he he' hy => ?_; (try dsimp only at he he' hy)) | (refine Y1 fun y he hy => ?_; (try with_reducible conv at he => (rhs; whnf)); (try dsimp only at he hy)) | (refine All'.mk ?_; intro y hy)) | refine F4 (fun h => ?_) fun h => ?_ | refine R1 ?_ | refine Q1 ?_ | fail)); all_goals (conv => whnf))
      rw [goesB_iff.2 (fun j _ => rfl)] at h
      cases h
  | some f =>
    have hf := hs f rfl
    have hsz := textJ_size hs
    ((repeat' ((conv => whnf) <;> first | exact True.intro | (guard_target =~ Fork _ _ _; first | refine F1 ?_ | refine F2 ?_ | refine F3 (fun h => ?_) fun h => ?_) | (guard_target =~ Ar _ _ _; first | refine A1 ?_ | refine A2 ?_) | (guard_target =~ AskL _ _; first | refine L1 ?_) | (guard_target =~ Go.Eng.Ask _ _; first | refine K1 ?_) | (guard_target =~ All' _ _; first | (refine Y2 fun y he he' hy => ?_; (try dsimp only at he he' hy)) | (refine Y1 fun y he hy => ?_; (try with_reducible conv at he => (rhs; whnf)); (try dsimp only at he hy)) | (refine All'.mk ?_; intro y hy)) | refine F4 (fun h => ?_) fun h => ?_ | refine R1 ?_ | refine Q1 ?_ | fail)); all_goals (conv => whnf))
    refine CallP.mk (C := rowsC) (some f) ?_
    ((repeat' ((conv => whnf) <;> first | exact True.intro | (guard_target =~ Fork _ _ _; first | refine F1 ?_ | refine F2 ?_ | refine F3 (fun h => ?_) fun h => ?_) | (guard_target =~ Ar _ _ _; first | refine A1 ?_ | refine A2 ?_) | (guard_target =~ AskL _ _; first | refine L1 ?_) | (guard_target =~ Go.Eng.Ask _ _; first | refine K1 ?_) | (guard_target =~ All' _ _; first | (refine Y2 fun y he he' hy => ?_; (try dsimp only at he he' hy)) | (refine Y1 fun y he hy => ?_; (try with_reducible conv at he => (rhs; whnf)); (try dsimp only at he hy)) | (refine All'.mk ?_; intro y hy)) | refine F4 (fun h => ?_) fun h => ?_ | refine R1 ?_ | refine Q1 ?_ | fail)); all_goals (conv => whnf))
    refine Some'.mk () ?_
    ((repeat' ((conv => whnf) <;> first | exact True.intro | (guard_target =~ Fork _ _ _; first | refine F1 ?_ | refine F2 ?_ | refine F3 (fun h => ?_) fun h => ?_) | (guard_target =~ Ar _ _ _; first | refine A1 ?_ | refine A2 ?_) | (guard_target =~ AskL _ _; first | refine L1 ?_) | (guard_target =~ Go.Eng.Ask _ _; first | refine K1 ?_) | (guard_target =~ All' _ _; first | (refine Y2 fun y he he' hy => ?_; (try dsimp only at he he' hy)) | (refine Y1 fun y he hy => ?_; (try with_reducible conv at he => (rhs; whnf)); (try dsimp only at he hy)) | (refine All'.mk ?_; intro y hy)) | refine F4 (fun h => ?_) fun h => ?_ | refine R1 ?_ | refine Q1 ?_ | fail)); all_goals (conv => whnf))
    refine Two.mk ?_ ?_
    · refine AllI.mk ?_
      intro k hk
      have hk := (liveB_iff.1 hk).1
      dsimp only at hk
      have hr := kth_range hk
      have hsn := textL_succ hk
      have hl := textL_length (o := some f) (n := k) (by omega)
      have hk14 := ksO_len (some f)
      have ho := fO_okR hs (kth (some f) k)
      have hi := itoaS_nat (kth (some f) k)
      have z1 := decS_size (u := kth (some f) k) (by omega)
      have z2 := decS_size ho.1
      have z3 := decS_size ho.2
      have z4 : (⟨#[32]⟩ : ByteArray).size = 1 := rfl
      have hrs : rowS (some f) (kth (some f) k) = decS (kth (some f) k) ++ ⟨#[32]⟩ ++ decS (fO (some f) (kth (some f) k)).1 ++ ⟨#[32]⟩ ++ decS (fO (some f) (kth (some f) k)).2 := rfl
      ((repeat' ((conv => whnf) <;> first | exact True.intro | (guard_target =~ Fork _ _ _; first | refine F1 ?_ | refine F2 ?_ | refine F3 (fun h => ?_) fun h => ?_) | (guard_target =~ Ar _ _ _; first | refine A1 ?_ | refine A2 ?_) | (guard_target =~ AskL _ _; first | refine L1 ?_) | (guard_target =~ Go.Eng.Ask _ _; first | refine K1 ?_) | (guard_target =~ All' _ _; first | (refine Y2 fun y he he' hy => ?_; (try dsimp only at he he' hy)) | (refine Y1 fun y he hy => ?_; (try with_reducible conv at he => (rhs; whnf)); (try dsimp only at he hy)) | (refine All'.mk ?_; intro y hy)) | refine F4 (fun h => ?_) fun h => ?_ | refine R1 ?_ | refine Q1 ?_ | fail)); all_goals (conv => whnf))
      rw [← hi] at z1 hrs
      have ho1 : (fO (some f) (kth (some f) k)).1 ≤ 18446744073709551615 := ho.1
      have ho2 : (fO (some f) (kth (some f) k)).2 ≤ 18446744073709551615 := ho.2
      refine CallP.mk (C := itoaC) (kth (some f) k : Nat) ?_
      ((repeat' ((conv => whnf) <;> first | exact True.intro | (guard_target =~ Fork _ _ _; first | refine F1 ?_ | refine F2 ?_ | (refine Fork.pos ?_ ?_; · (simp only [size_append, decide_eq_true_eq, beq_iff_eq, bne_iff_ne, ne_eq] <;> omega)) | (refine Fork.neg ?_ ?_; · (simp only [size_append, decide_eq_false_iff_not, beq_eq_false_iff_ne] <;> omega)) | refine F3 (fun h => ?_) fun h => ?_) | (guard_target =~ Ar _ _ _; first | refine A1 ?_ | refine A2 ?_ | (refine Ar.fit (wrap_i64 ?_ ?_) ?_; · ((try dsimp only) <;> simp only [size_append] <;> omega); · ((try dsimp only) <;> simp only [size_append] <;> omega)) | (refine Ar.fit (wrap_u64 ?_ ?_) ?_; · ((try dsimp only) <;> simp only [size_append] <;> omega); · ((try dsimp only) <;> simp only [size_append] <;> omega))) | (guard_target =~ AskL _ _; first | (refine AskL.mk ?_ ?_; · ((simp only [conj]; repeat' apply And.intro) <;> first | rfl | trivial | omega | (simp only [size_append]; done) | (simp only [size_append] <;> omega) | (simp only [size_append]; refine Bool.eq_iff_iff.2 ?_; simp only [decide_eq_true_eq, Bool.false_eq_true, true_iff, iff_true, false_iff, iff_false, eq_self]; omega) | (simp only [*, size_append]; done))) | refine L1 ?_) | (guard_target =~ Go.Eng.Ask _ _; first | refine K1 ?_ | (refine Ask.mk ?_ ?_; · ((try dsimp only) <;> simp only [size_append] <;> omega))) | (guard_target =~ All' _ _; first | (refine Y2 fun y he he' hy => ?_; (try dsimp only at he he' hy)) | (refine Y1 fun y he hy => ?_; (try with_reducible conv at he => (rhs; whnf)); (try dsimp only at he hy)) | (refine All'.mk ?_; intro y hy)) | refine F4 (fun h => ?_) fun h => ?_ | refine R1 ?_ | refine Q1 ?_ | fail)); all_goals (conv => whnf))
      refine CallP.mk (C := futC) (fO (some f) (kth (some f) k)).1 ?_
      ((repeat' ((conv => whnf) <;> first | exact True.intro | (guard_target =~ Fork _ _ _; first | refine F1 ?_ | refine F2 ?_ | (refine Fork.pos ?_ ?_; · (simp only [size_append, decide_eq_true_eq, beq_iff_eq, bne_iff_ne, ne_eq] <;> omega)) | (refine Fork.neg ?_ ?_; · (simp only [size_append, decide_eq_false_iff_not, beq_eq_false_iff_ne] <;> omega)) | refine F3 (fun h => ?_) fun h => ?_) | (guard_target =~ Ar _ _ _; first | refine A1 ?_ | refine A2 ?_ | (refine Ar.fit (wrap_i64 ?_ ?_) ?_; · ((try dsimp only) <;> simp only [size_append] <;> omega); · ((try dsimp only) <;> simp only [size_append] <;> omega)) | (refine Ar.fit (wrap_u64 ?_ ?_) ?_; · ((try dsimp only) <;> simp only [size_append] <;> omega); · ((try dsimp only) <;> simp only [size_append] <;> omega))) | (guard_target =~ AskL _ _; first | (refine AskL.mk ?_ ?_; · ((simp only [conj]; repeat' apply And.intro) <;> first | rfl | trivial | omega | (simp only [size_append]; done) | (simp only [size_append] <;> omega) | (simp only [size_append]; refine Bool.eq_iff_iff.2 ?_; simp only [decide_eq_true_eq, Bool.false_eq_true, true_iff, iff_true, false_iff, iff_false, eq_self]; omega) | (simp only [*, size_append]; done))) | refine L1 ?_) | (guard_target =~ Go.Eng.Ask _ _; first | refine K1 ?_ | (refine Ask.mk ?_ ?_; · ((try dsimp only) <;> simp only [size_append] <;> omega))) | (guard_target =~ All' _ _; first | (refine Y2 fun y he he' hy => ?_; (try dsimp only at he he' hy)) | (refine Y1 fun y he hy => ?_; (try with_reducible conv at he => (rhs; whnf)); (try dsimp only at he hy)) | (refine All'.mk ?_; intro y hy)) | refine F4 (fun h => ?_) fun h => ?_ | refine R1 ?_ | refine Q1 ?_ | fail)); all_goals (conv => whnf))
      refine CallP.mk (C := futC) (fO (some f) (kth (some f) k)).2 ?_
      ((repeat' ((conv => whnf) <;> first | exact True.intro | (guard_target =~ Fork _ _ _; first | refine F1 ?_ | refine F2 ?_ | (refine Fork.pos ?_ ?_; · (simp only [size_append, decide_eq_true_eq, beq_iff_eq, bne_iff_ne, ne_eq] <;> omega)) | (refine Fork.neg ?_ ?_; · (simp only [size_append, decide_eq_false_iff_not, beq_eq_false_iff_ne] <;> omega)) | refine F3 (fun h => ?_) fun h => ?_) | (guard_target =~ Ar _ _ _; first | refine A1 ?_ | refine A2 ?_ | (refine Ar.fit (wrap_i64 ?_ ?_) ?_; · ((try dsimp only) <;> simp only [size_append] <;> omega); · ((try dsimp only) <;> simp only [size_append] <;> omega)) | (refine Ar.fit (wrap_u64 ?_ ?_) ?_; · ((try dsimp only) <;> simp only [size_append] <;> omega); · ((try dsimp only) <;> simp only [size_append] <;> omega))) | (guard_target =~ AskL _ _; first | (refine AskL.mk ?_ ?_; · ((simp only [conj]; repeat' apply And.intro) <;> first | rfl | trivial | omega | (simp only [size_append]; done) | (simp only [size_append] <;> omega) | (simp only [size_append]; refine Bool.eq_iff_iff.2 ?_; simp only [decide_eq_true_eq, Bool.false_eq_true, true_iff, iff_true, false_iff, iff_false, eq_self]; omega) | (simp only [*, size_append]; done))) | refine L1 ?_) | (guard_target =~ Go.Eng.Ask _ _; first | refine K1 ?_ | (refine Ask.mk ?_ ?_; · ((try dsimp only) <;> simp only [size_append] <;> omega))) | (guard_target =~ All' _ _; first | (refine Y2 fun y he he' hy => ?_; (try dsimp only at he he' hy)) | (refine Y1 fun y he hy => ?_; (try with_reducible conv at he => (rhs; whnf)); (try dsimp only at he hy)) | (refine All'.mk ?_; intro y hy)) | refine F4 (fun h => ?_) fun h => ?_ | refine R1 ?_ | refine Q1 ?_ | fail)); all_goals (conv => whnf))
    · refine AllI.mk ?_
      rintro ⟨l, Y⟩ ⟨h1, h2, h3, h4⟩
      dsimp only at h1 h2 h3 h4
      ((repeat' ((conv => whnf) <;> first | exact True.intro | (guard_target =~ Fork _ _ _; first | refine F1 ?_ | refine F2 ?_ | refine F3 (fun h => ?_) fun h => ?_) | (guard_target =~ Ar _ _ _; first | refine A1 ?_ | refine A2 ?_) | (guard_target =~ AskL _ _; first | refine L1 ?_) | (guard_target =~ Go.Eng.Ask _ _; first | refine K1 ?_) | (guard_target =~ All' _ _; first | (refine Y2 fun y he he' hy => ?_; (try dsimp only at he he' hy)) | (refine Y1 fun y he hy => ?_; (try with_reducible conv at he => (rhs; whnf)); (try dsimp only at he hy)) | (refine All'.mk ?_; intro y hy)) | refine F4 (fun h => ?_) fun h => ?_ | refine R1 ?_ | refine Q1 ?_ | fail)); all_goals (conv => whnf))
      refine CallP.mk (C := iterC) ⟨Y, l, some f⟩ ?_
      ((repeat' ((conv => whnf) <;> first | exact True.intro | (guard_target =~ Fork _ _ _; first | refine F1 ?_ | refine F2 ?_ | refine F3 (fun h => ?_) fun h => ?_) | (guard_target =~ Ar _ _ _; first | refine A1 ?_ | refine A2 ?_) | (guard_target =~ AskL _ _; first | refine L1 ?_) | (guard_target =~ Go.Eng.Ask _ _; first | refine K1 ?_) | (guard_target =~ All' _ _; first | (refine Y2 fun y he he' hy => ?_; (try dsimp only at he he' hy)) | (refine Y1 fun y he hy => ?_; (try with_reducible conv at he => (rhs; whnf)); (try dsimp only at he hy)) | (refine All'.mk ?_; intro y hy)) | refine F4 (fun h => ?_) fun h => ?_ | refine R1 ?_ | refine Q1 ?_ | fail)); all_goals (conv => whnf))
      refine Ask.mk ⟨h4, sideK _ Y h1 h2 h3⟩ ?_
      have hm := allgo (some f) Y h2
      ((repeat' ((conv => whnf) <;> first | exact True.intro | (guard_target =~ Fork _ _ _; first | refine F1 ?_ | refine F2 ?_ | refine F3 (fun h => ?_) fun h => ?_) | (guard_target =~ Ar _ _ _; first | refine A1 ?_ | refine A2 ?_) | (guard_target =~ AskL _ _; first | refine L1 ?_) | (guard_target =~ Go.Eng.Ask _ _; first | refine K1 ?_) | (guard_target =~ All' _ _; first | (refine Y2 fun y he he' hy => ?_; (try dsimp only at he he' hy)) | (refine Y1 fun y he hy => ?_; (try with_reducible conv at he => (rhs; whnf)); (try dsimp only at he hy)) | (refine All'.mk ?_; intro y hy)) | refine F4 (fun h => ?_) fun h => ?_ | refine R1 ?_ | refine Q1 ?_ | fail)); all_goals (conv => whnf))
      refine Some'.mk (ksO (some f)).length ?_
      conv => whnf
      refine Eqn.mk (by dsimp only; rw [hm]) ?_
      have htl := textL_length (o := some f) (n := (ksO (some f)).length) (Nat.le_refl _)
      have hj := textJ_size hs (ksO (some f)).length
      by_cases h0 : ksO (some f) = []
      · have hts : textS (some f) = ⟨#[45]⟩ := if_pos h0
        have hl0 : (ksO (some f)).length = 0 := by rw [h0]; rfl
        ((repeat' ((conv => whnf) <;> first | exact True.intro | (guard_target =~ Fork _ _ _; first | refine F1 ?_ | refine F2 ?_ | refine F3 (fun h => ?_) fun h => ?_) | (guard_target =~ Ar _ _ _; first | refine A1 ?_ | refine A2 ?_) | (guard_target =~ AskL _ _; first | refine L1 ?_) | (guard_target =~ Go.Eng.Ask _ _; first | refine K1 ?_) | (guard_target =~ All' _ _; first | (refine Y2 fun y he he' hy => ?_; (try dsimp only at he he' hy)) | (refine Y1 fun y he hy => ?_; (try with_reducible conv at he => (rhs; whnf)); (try dsimp only at he hy)) | (refine All'.mk ?_; intro y hy)) | refine F4 (fun h => ?_) fun h => ?_ | refine R1 ?_ | refine Q1 ?_ | fail)); all_goals (conv => whnf))
        all_goals (rw [goesB_iff.2 (fun j _ => rfl)] at h; cases h)
      · have hts : textS (some f) = joinS (textL (some f) (ksO (some f)).length) ⟨#[44, 32]⟩ := if_neg h0
        have hl0 : (ksO (some f)).length ≠ 0 := fun h => h0 (List.eq_nil_of_length_eq_zero h)
        obtain ⟨hj1, hj2⟩ := hj
        ((repeat' ((conv => whnf) <;> first | exact True.intro | (guard_target =~ Fork _ _ _; first | refine F1 ?_ | refine F2 ?_ | refine F3 (fun h => ?_) fun h => ?_) | (guard_target =~ Ar _ _ _; first | refine A1 ?_ | refine A2 ?_) | (guard_target =~ AskL _ _; first | refine L1 ?_) | (guard_target =~ Go.Eng.Ask _ _; first | refine K1 ?_) | (guard_target =~ All' _ _; first | (refine Y2 fun y he he' hy => ?_; (try dsimp only at he he' hy)) | (refine Y1 fun y he hy => ?_; (try with_reducible conv at he => (rhs; whnf)); (try dsimp only at he hy)) | (refine All'.mk ?_; intro y hy)) | refine F4 (fun h => ?_) fun h => ?_ | refine R1 ?_ | refine Q1 ?_ | fail)); all_goals (conv => whnf))
        all_goals try (rw [goesB_iff.2 (fun j _ => rfl)] at h; cases h)
        · refine CallP.mk (C := joinC) ⟨textL (some f) (ksO (some f)).length, ⟨#[44, 32]⟩⟩ ?_
          ((repeat' ((conv => whnf) <;> first | exact True.intro | (guard_target =~ Fork _ _ _; first | refine F1 ?_ | refine F2 ?_ | refine F3 (fun h => ?_) fun h => ?_) | (guard_target =~ Ar _ _ _; first | refine A1 ?_ | refine A2 ?_) | (guard_target =~ AskL _ _; first | refine L1 ?_) | (guard_target =~ Go.Eng.Ask _ _; first | refine K1 ?_) | (guard_target =~ All' _ _; first | (refine Y2 fun y he he' hy => ?_; (try dsimp only at he he' hy)) | (refine Y1 fun y he hy => ?_; (try with_reducible conv at he => (rhs; whnf)); (try dsimp only at he hy)) | (refine All'.mk ?_; intro y hy)) | refine F4 (fun h => ?_) fun h => ?_ | refine R1 ?_ | refine Q1 ?_ | fail)); all_goals (conv => whnf))
