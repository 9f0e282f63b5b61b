/- The engine, part T: the steps of a proof of conditions, each with the proof of its side. -/
import Derived.Test.YteckpdifeoffjaaDoorEngO
set_option linter.unusedVariables false
namespace Go.Eng

/-- A condition that holds. -/
theorem F1 {b : Bool} {A B : Prop} (h : A) (e : b = true := by
    first
      | with_reducible rfl
      | with_reducible assumption
      | with_reducible exact Eq.trans (by assumption) (by assumption)
      | (simp only [decide_eq_true_eq, decide_eq_false_iff_not, beq_iff_eq, bne_iff_ne, beq_eq_false_iff_ne, bne_eq_false_iff_eq, ge_iff_le, gt_iff_lt, Bool.not_eq_true', Bool.not_eq_false', ne_eq, Bool.or_eq_true, Bool.and_eq_true, Option.isNone_none, Option.isNone_some, Bool.true_eq_false, Bool.false_eq_true, not_true, not_false_eq_true] <;> first
          | with_reducible assumption
          | omega
          | with_reducible exact Eq.trans (by assumption) (by assumption)
          | fail)
      | fail) : Fork b A B := ⟨fun _ => h, fun h2 => (by rw [e] at h2; cases h2)⟩
/-- A condition that does not. -/
theorem F2 {b : Bool} {A B : Prop} (h : B) (e : b = false := by
    first
      | with_reducible rfl
      | with_reducible assumption
      | with_reducible exact Eq.trans (by assumption) (by assumption)
      | (simp only [decide_eq_true_eq, decide_eq_false_iff_not, beq_iff_eq, bne_iff_ne, beq_eq_false_iff_ne, bne_eq_false_iff_eq, ge_iff_le, gt_iff_lt, Bool.not_eq_true', Bool.not_eq_false', ne_eq, Bool.or_eq_true, Bool.and_eq_true, Option.isNone_none, Option.isNone_some, Bool.true_eq_false, Bool.false_eq_true, not_true, not_false_eq_true] <;> first
          | with_reducible assumption
          | omega
          | with_reducible exact Eq.trans (by assumption) (by assumption)
          | fail)
      | fail) : Fork b A B := ⟨fun h2 => (by rw [e] at h2; cases h2), fun _ => h⟩
/-- A condition either way, in plain words. -/
theorem F3 {b : Bool} {A B p q : Prop} (hp : p → A) (hq : q → B) (e : (b = true) = p := by first | (simp only [decide_eq_true_eq, beq_iff_eq, bne_iff_ne, ge_iff_le, gt_iff_lt, Bool.not_eq_true', ne_eq, Bool.or_eq_true, Bool.and_eq_true]; first | done | exact rfl) | exact rfl)
    (e' : (b = false) = q := by first | (simp only [decide_eq_false_iff_not, beq_eq_false_iff_ne, bne_eq_false_iff_eq, ge_iff_le, gt_iff_lt, Bool.not_eq_false', ne_eq]; first | done | exact rfl) | exact rfl) : Fork b A B :=
  ⟨fun h => hp (e ▸ h), fun h => hq (e' ▸ h)⟩
theorem F4 {r : Bool → Prop} {A B p q : Prop} (hp : p → A) (hq : q → B) (e : r true = p := by first | (simp only [forall_const, true_implies, Bool.false_eq_true, Bool.true_eq_false, false_implies, List.length_eq_zero_iff]; first | done | exact rfl) | exact rfl)
    (e' : r false = q := by first | (simp only [forall_const, true_implies, Bool.false_eq_true, Bool.true_eq_false, false_implies, List.length_eq_zero_iff]; first | done | exact rfl) | exact rfl) : ForkP r A B :=
  ⟨fun h => hp (e ▸ h), fun h => hq (e' ▸ h)⟩
/-- Any order. -/
theorem R1 {b : Bool} {K : Prop} (h : K) (e : b = true := by kernel_rfl) : Race b K := ⟨e, h⟩
/-- No overflow. -/
theorem A1 {n : Int} {K : Int → Prop} (h : K n) (h0 : -9223372036854775808 ≤ n := by first | omega | ((try dsimp only [List.length_cons, List.length_nil]); omega)) (h1 : n ≤ 9223372036854775807 := by first | omega | ((try dsimp only [List.length_cons, List.length_nil]); omega)) : Ar .i64 n K := .fit (wrap_i64 h0 h1) h
theorem A2 {n : Int} {K : Int → Prop} (h : K n) (h0 : 0 ≤ n := by first | omega | ((try dsimp only [List.length_cons, List.length_nil]); omega)) (h1 : n ≤ 18446744073709551615 := by first | omega | ((try dsimp only [List.length_cons, List.length_nil]); omega)) : Ar .u64 n K := .fit (wrap_u64 h0 h1) h
/-- Equations. -/
theorem L1 {q : List Prop} {K : Prop} (h : K) (e : conj q := by
    (simp only [conj]; repeat' apply And.intro) <;> first
      | rfl
      | trivial
      | ((try dsimp only) <;> omega)
      | (((try with_reducible conv => (rhs; whnf)) <;> (try dsimp only)) <;> first
           | omega
           | (refine Bool.eq_iff_iff.2 ?_; simp only [decide_eq_true_eq, Bool.false_eq_true, true_iff, iff_true, false_iff, iff_false, eq_self]; omega)
           | (simp only [decide_eq_true_eq, decide_eq_false_iff_not, beq_iff_eq, bne_iff_ne, beq_eq_false_iff_ne, ge_iff_le, gt_iff_lt, Bool.not_eq_true', Bool.not_eq_false', ne_eq, Bool.or_eq_true, Bool.and_eq_true, Bool.true_eq_false, Bool.false_eq_true, not_true, not_false_eq_true] <;> first
               | with_reducible assumption
               | omega)
           | (simp only [*, if_true, if_false, Bool.false_eq_true]; done)
           | fail)
      | fail) : AskL q K := ⟨e, h⟩
/-- A side condition. -/
theorem K1 {p K : Prop} (h : K) (e : p := by
    (((try with_reducible conv => whnf) <;> (try dsimp only [List.length_cons, List.length_nil])) <;> first
      | omega
      | trivial
      | fail)) : Ask p K := ⟨e, h⟩
/-- What a call hands back. -/
theorem Y2 {α β : Type} {v : α × β} {p K : α × β → Prop} (h : ∀ y, y.1 = v.1 → y.2 = v.2 → p y → K y) : All' (fun y => y = v ∧ p y) K := ⟨fun y hy => h y (by rw [hy.1]) (by rw [hy.1]) hy.2⟩
theorem Y1 {α : Type} {v : α} {p K : α → Prop} (h : ∀ y, y = v → p y → K y) : All' (fun y => y = v ∧ p y) K := ⟨fun y hy => h y hy.1 hy.2⟩
theorem Q1 {α : Type} {a b : α} {K : Prop} (h : K) (e : a = b := by with_reducible rfl) : Eqn a b K := ⟨e, h⟩

end Go.Eng
