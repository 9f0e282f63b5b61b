/- Ledger: what is sent; a row. -/
import Derived.Test.YteckpdifeoffjaaDoorLedA
set_option linter.unusedVariables false
set_option linter.unusedSimpArgs false
set_option maxRecDepth 100000
namespace Go.Proofs.YteckpdifeoffjaaDoor
open Go.Eng

def setR (f : Nat → Nat × Nat) (k : Nat) (r : Nat × Nat) : Nat → Nat × Nat := fun j => if j = k then r else f j
theorem okR_sum (p q : Nat × Nat) : okR (sumR p q) := by unfold okR sumR satN; constructor <;> (dsimp only; split <;> omega)
theorem okL_set {f : Nat → Nat × Nat} {k : Nat} {r : Nat × Nat} (h : okL f) (hr : okR r) : okL (setR f k r) := fun j => by
  unfold setR; split
  · exact hr
  · exact h j
theorem kinds {k : Int} (h : 1 ≤ k ∧ k ≤ 14) : k = 1 ∨ k = 2 ∨ k = 3 ∨ k = 4 ∨ k = 5 ∨ k = 6 ∨ k = 7 ∨ k = 8 ∨ k = 9 ∨ k = 10 ∨ k = 11 ∨ k = 12 ∨ k = 13 ∨ k = 14 := by omega

theorem ledS_at (f : Nat → Nat × Nat) : ∀ (n k j : Nat), j < n → (ledS f k n)[2 * j]? = some (.v (.int .u64 ((f (k + j)).1 : Nat))) ∧ (ledS f k n)[2 * j + 1]? = some (.v (.int .u64 ((f (k + j)).2 : Nat)))
  | 0, k, j, h => by omega
  | n + 1, k, 0, h => ⟨rfl, rfl⟩
  | n + 1, k, j + 1, h => by
    have := ledS_at f n (k + 1) j (by omega)
    rw [show k + 1 + j = k + (j + 1) by omega] at this
    exact ⟨this.1, this.2⟩
theorem ledS_length (f : Nat → Nat × Nat) : ∀ (n k : Nat), (ledS f k n).length = 2 * n
  | 0, k => rfl
  | n + 1, k => by simp only [ledS, List.length_cons, ledS_length f n]; omega
theorem cut_two : ∀ (l : List SV) (o : Nat) (a b : SV), l[o]? = some a → l[o + 1]? = some b → cutS l o 2 = some [a, b]
  | [], o, a, b, h, _ => by simp at h
  | x :: l, 0, a, b, h, h2 => by
    obtain rfl : x = a := by simpa using h
    cases l with
    | nil => simp at h2
    | cons y l =>
      obtain rfl : y = b := by simpa using h2
      cases l <;> rfl
  | x :: l, o + 1, a, b, h, h2 => by
    simp only [cutS]
    exact cut_two l o a b (by simpa using h) (by simpa using h2)
theorem cut_led {f : Nat → Nat × Nat} {k : Int} (h : 0 ≤ k ∧ k ≤ 14) : cutS (ledS f 0 15) (0 + k.toNat * 2) 2 = some [.v (.int .u64 ((f k.toNat).1 : Nat)), .v (.int .u64 ((f k.toNat).2 : Nat))] := by
  have := ledS_at f 15 0 k.toNat (by omega)
  rw [Nat.zero_add] at this
  exact cut_two _ _ _ _ (by rw [show 0 + k.toNat * 2 = 2 * k.toNat by omega]; exact this.1) (by rw [show 0 + k.toNat * 2 + 1 = 2 * k.toNat + 1 by omega]; exact this.2)
theorem set_skip (f : Nat → Nat × Nat) (m : Nat) (r : Nat × Nat) : ∀ (n k : Nat), m < k → ledS (setR f m r) k n = ledS f k n
  | 0, k, _ => rfl
  | n + 1, k, h => by
    have e : setR f m r k = f k := if_neg (by omega)
    simp only [ledS, e, set_skip f m r n (k + 1) (by omega)]
theorem set_two (f : Nat → Nat × Nat) (r : Nat × Nat) : ∀ (n k j : Nat), j < n → setAll (ledS f k n) (2 * j) [.v (.int .u64 (r.1 : Nat)), .v (.int .u64 (r.2 : Nat))] = some (ledS (setR f (k + j) r) k n)
  | 0, k, j, h => by omega
  | n + 1, k, 0, h => by
    have e : setR f k r k = r := if_pos rfl
    simp [setAll, setN, ledS, e, set_skip f k r n (k + 1) (by omega)]
  | n + 1, k, j + 1, h => by
    have ih := set_two f r n (k + 1) j (by omega)
    have e : setR f (k + 1 + j) r k = f k := if_neg (by omega)
    have e2 : k + (j + 1) = k + 1 + j := by omega
    have sh : ∀ (x y : SV) (l : List SV) (o : Nat) (z : SV), setN (x :: y :: l) (o + 2) z = (setN l o z).map fun l' => x :: y :: l' := fun x y l o z => by
      simp only [setN]; cases setN l o z <;> rfl
    have sa : ∀ (x y : SV) (l : List SV) (o : Nat) (a b : SV), setAll (x :: y :: l) (o + 2) [a, b] = (setAll l o [a, b]).map fun l' => x :: y :: l' := fun x y l o a b => by
      simp only [setAll, sh]
      cases setN l o a with
      | none => rfl
      | some l' =>
        simp only [Option.map_some]
        rw [show o + 2 + 1 = (o + 1) + 2 by omega, sh]
        cases setN l' (o + 1) b <;> rfl
    rw [show 2 * (j + 1) = 2 * j + 2 by omega]
    simp only [ledS]
    rw [sa, ih, e2, e]
    rfl
theorem set_led {f : Nat → Nat × Nat} {k : Int} (h : 0 ≤ k ∧ k ≤ 14) (a b : Nat) : setAll (ledS f 0 15) (0 + k.toNat * 2) [.v (.int .u64 (a : Nat)), .v (.int .u64 (b : Nat))] = some (ledS (setR f k.toNat (a, b)) 0 15) := by
  have := set_two f (a, b) 15 0 k.toNat (by omega)
  rw [Nat.zero_add] at this
  rw [← this, show 0 + k.toNat * 2 = 2 * k.toNat by omega]

theorem ent_conj (f : Nat → Nat × Nat) : True := trivial
theorem cutK {cs l : List SV} {o n : Nat} {A : List SV → Prop} (h : cutS cs o n = some l) (k : A l) : (match cutS cs o n with | some l => A l | none => False) := by rw [h]; exact k
theorem setK {cs vs cs' : List SV} {o : Nat} {A : List SV → Prop} (h : setAll cs o vs = some cs') (k : A cs') : (match setAll cs o vs with | some l => A l | none => False) := by rw [h]; exact k

structure SentX where
  o : LedO
  k : Int
  n : Int
@[reducible] def sentB (k n : Int) : Bool := decide ((1 ≤ k ∧ k ≤ 14) ∧ 0 ≤ n)
def sentF (f : Nat → Nat × Nat) (k n : Int) : Nat → Nat × Nat := if sentB k n = true then setR f k.toNat (sumR (f k.toNat) (1, n.toNat)) else f
@[reducible] def sentC : Ctr := {
  X := SentX
  Y := Bool
  args := fun x => [ledA x.o, .v (.int .i64 x.k), .v (.int .i64 x.n)]
  rw := fun x => ledM x.o
  side := fun x => (∀ f, x.o = some f → okL f) ∧ x.n ≤ 9223372036854775807
  val := fun x => x.o.isSome && sentB x.k x.n
  ens := fun _ _ => True
  res := fun _ y => .v (.bool y)
  out := fun x _ => match x.o with | some f => [(0, ledE (sentF f x.k x.n))] | none => [] }
theorem knownSent : Known Tryd.prog (gOf [(21, knownC), (22, sumC)]) := known_cons ⟨known_ok, Tryd.call21⟩ (known_cons ⟨sum_ok, Tryd.call22⟩ (known_nil _))
theorem sent_ok : sentC.ok Tryd.prog 8 := by
  refine ok_of_vc (An := fun _ => anOf []) knownSent mo Tryd.func8 (by kernel_rfl) (by kernel_rfl) (fun _ _ => trivial) (fun x hs => ?_)
  obtain ⟨o, k, n⟩ := x
  obtain ⟨hs, hn⟩ := hs
  dsimp only at hs hn
  cases o with
  | none => ((repeat' ((conv => whnf) <;> first | exact True.intro | (guard_target =~ Fork _ _ _; first | refine F1 ?_ | refine F2 ?_ | refine F3 (fun h => ?_) fun h => ?_) | (guard_target =~ Ar _ _ _; first | refine A1 ?_ | refine A2 ?_) | (guard_target =~ AskL _ _; first | refine L1 ?_) | (guard_target =~ Go.Eng.Ask _ _; first | refine K1 ?_) | (guard_target =~ All' _ _; first | (refine Y2 fun y he he' hy => ?_; (try dsimp only at he he' hy)) | (refine Y1 fun y he hy => ?_; (try with_reducible conv at he => (rhs; whnf)); (try dsimp only at he hy)) | (refine All'.mk ?_; intro y hy)) | refine F4 (fun h => ?_) fun h => ?_ | refine R1 ?_ | refine Q1 ?_ | fail)); all_goals (conv => whnf))
  | some f =>
    have hf := hs f rfl
    clear hs
    by_cases hk : 1 ≤ k ∧ k ≤ 14
    · have hd : decide (1 ≤ k ∧ k ≤ 14) = true := decide_eq_true hk
      by_cases h0 : 0 ≤ n
      · have hb1 : sentB k n = true := decide_eq_true ⟨hk, h0⟩
        have hse : sentF f k n = setR f k.toNat (sumR (f k.toNat) (1, n.toNat)) := if_pos hb1
        have hr : okR (f k.toNat) := hf _
        have hr2 : okR (1, n.toNat) := ⟨by dsimp only; omega, by dsimp only; omega⟩
        have hw : IntKind.u64.wrap n = (n.toNat : Int) := by rw [wrap_u64 h0 (by omega)]; omega
        ((repeat' ((conv => whnf) <;> first | exact True.intro | (guard_target =~ Fork _ _ _; first | refine F1 ?_ | refine F2 ?_ | refine F3 (fun h => ?_) fun h => ?_) | (guard_target =~ Ar _ _ _; first | refine A1 ?_ | refine A2 ?_) | (guard_target =~ AskL _ _; first | refine L1 ?_) | (guard_target =~ Go.Eng.Ask _ _; first | refine K1 ?_) | (guard_target =~ All' _ _; first | (refine Y2 fun y he he' hy => ?_; (try dsimp only at he he' hy)) | (refine Y1 fun y he hy => ?_; (try with_reducible conv at he => (rhs; whnf)); (try dsimp only at he hy)) | (refine All'.mk ?_; intro y hy)) | refine F4 (fun h => ?_) fun h => ?_ | refine R1 ?_ | refine Q1 ?_ | fail)); all_goals (conv => whnf))
        refine CallP.mk (C := knownC) k ?_
        ((repeat' ((conv => whnf) <;> first | exact True.intro | (guard_target =~ Fork _ _ _; first | refine F1 ?_ | refine F2 ?_ | refine F3 (fun h => ?_) fun h => ?_) | (guard_target =~ Ar _ _ _; first | refine A1 ?_ | refine A2 ?_) | (guard_target =~ AskL _ _; first | refine L1 ?_) | (guard_target =~ Go.Eng.Ask _ _; first | refine K1 ?_) | (guard_target =~ All' _ _; first | (refine Y2 fun y he he' hy => ?_; (try dsimp only at he he' hy)) | (refine Y1 fun y he hy => ?_; (try with_reducible conv at he => (rhs; whnf)); (try dsimp only at he hy)) | (refine All'.mk ?_; intro y hy)) | refine F4 (fun h => ?_) fun h => ?_ | refine R1 ?_ | refine Q1 ?_ | fail)); all_goals (conv => whnf))
        refine cutK (cut_led (k := k) (by omega)) ?_
        ((repeat' ((conv => whnf) <;> first | exact True.intro | (guard_target =~ Fork _ _ _; first | refine F1 ?_ | refine F2 ?_ | refine F3 (fun h => ?_) fun h => ?_) | (guard_target =~ Ar _ _ _; first | refine A1 ?_ | refine A2 ?_) | (guard_target =~ AskL _ _; first | refine L1 ?_) | (guard_target =~ Go.Eng.Ask _ _; first | refine K1 ?_) | (guard_target =~ All' _ _; first | (refine Y2 fun y he he' hy => ?_; (try dsimp only at he he' hy)) | (refine Y1 fun y he hy => ?_; (try with_reducible conv at he => (rhs; whnf)); (try dsimp only at he hy)) | (refine All'.mk ?_; intro y hy)) | refine F4 (fun h => ?_) fun h => ?_ | refine R1 ?_ | refine Q1 ?_ | fail)); all_goals (conv => whnf))
        refine CallP.mk (C := sumC) (f k.toNat, (1, n.toNat)) ?_
        ((repeat' ((conv => whnf) <;> first | exact True.intro | (guard_target =~ Fork _ _ _; first | refine F1 ?_ | refine F2 ?_ | refine F3 (fun h => ?_) fun h => ?_) | (guard_target =~ Ar _ _ _; first | refine A1 ?_ | refine A2 ?_) | (guard_target =~ AskL _ _; first | refine L1 ?_) | (guard_target =~ Go.Eng.Ask _ _; first | refine K1 ?_) | (guard_target =~ All' _ _; first | (refine Y2 fun y he he' hy => ?_; (try dsimp only at he he' hy)) | (refine Y1 fun y he hy => ?_; (try with_reducible conv at he => (rhs; whnf)); (try dsimp only at he hy)) | (refine All'.mk ?_; intro y hy)) | refine F4 (fun h => ?_) fun h => ?_ | refine R1 ?_ | refine Q1 ?_ | fail)); all_goals (conv => whnf))
        refine setK (set_led (k := k) (by omega) _ _) ?_
        ((repeat' ((conv => whnf) <;> first | exact True.intro | (guard_target =~ Fork _ _ _; first | refine F1 ?_ | refine F2 ?_ | refine F3 (fun h => ?_) fun h => ?_) | (guard_target =~ Ar _ _ _; first | refine A1 ?_ | refine A2 ?_) | (guard_target =~ Go.Eng.Ask _ _; first | refine K1 ?_) | (guard_target =~ All' _ _; first | (refine Y2 fun y he he' hy => ?_; (try dsimp only at he he' hy)) | (refine Y1 fun y he hy => ?_; (try with_reducible conv at he => (rhs; whnf)); (try dsimp only at he hy)) | (refine All'.mk ?_; intro y hy)) | refine F4 (fun h => ?_) fun h => ?_ | refine R1 ?_ | refine Q1 ?_ | fail)); all_goals (conv => whnf))
        refine AskL.mk ?_ trivial
        (rw [hse]; dsimp only [conj]; repeat' apply And.intro) <;> first | rfl | (rw [hb1]; rfl)
      · have hb1 : sentB k n = false := decide_eq_false (fun h => h0 h.2)
        have hse : sentF f k n = f := if_neg (by rw [hb1]; exact Bool.false_ne_true)
        ((repeat' ((conv => whnf) <;> first | exact True.intro | (guard_target =~ Fork _ _ _; first | refine F1 ?_ | refine F2 ?_ | refine F3 (fun h => ?_) fun h => ?_) | (guard_target =~ Ar _ _ _; first | refine A1 ?_ | refine A2 ?_) | (guard_target =~ AskL _ _; first | refine L1 ?_) | (guard_target =~ Go.Eng.Ask _ _; first | refine K1 ?_) | (guard_target =~ All' _ _; first | (refine Y2 fun y he he' hy => ?_; (try dsimp only at he he' hy)) | (refine Y1 fun y he hy => ?_; (try with_reducible conv at he => (rhs; whnf)); (try dsimp only at he hy)) | (refine All'.mk ?_; intro y hy)) | refine F4 (fun h => ?_) fun h => ?_ | refine R1 ?_ | refine Q1 ?_ | fail)); all_goals (conv => whnf))
        refine CallP.mk (C := knownC) k ?_
        ((repeat' ((conv => whnf) <;> first | exact True.intro | (guard_target =~ Fork _ _ _; first | refine F1 ?_ | refine F2 ?_ | refine F3 (fun h => ?_) fun h => ?_) | (guard_target =~ Ar _ _ _; first | refine A1 ?_ | refine A2 ?_) | (guard_target =~ AskL _ _; first | refine L1 ?_) | (guard_target =~ Go.Eng.Ask _ _; first | refine K1 ?_) | (guard_target =~ All' _ _; first | (refine Y2 fun y he he' hy => ?_; (try dsimp only at he he' hy)) | (refine Y1 fun y he hy => ?_; (try with_reducible conv at he => (rhs; whnf)); (try dsimp only at he hy)) | (refine All'.mk ?_; intro y hy)) | refine F4 (fun h => ?_) fun h => ?_ | refine R1 ?_ | refine Q1 ?_ | fail)); all_goals (conv => whnf))
        refine AskL.mk ?_ trivial
        (rw [hse]; dsimp only [conj]; repeat' apply And.intro) <;> first | rfl | (rw [hb1]; rfl)
    · have hd : decide (1 ≤ k ∧ k ≤ 14) = false := decide_eq_false hk
      have hb1 : sentB k n = false := decide_eq_false (fun h => hk h.1)
      have hse : sentF f k n = f := if_neg (by rw [hb1]; exact Bool.false_ne_true)
      ((repeat' ((conv => whnf) <;> first | exact True.intro | (guard_target =~ Fork _ _ _; first | refine F1 ?_ | refine F2 ?_ | refine F3 (fun h => ?_) fun h => ?_) | (guard_target =~ Ar _ _ _; first | refine A1 ?_ | refine A2 ?_) | (guard_target =~ AskL _ _; first | refine L1 ?_) | (guard_target =~ Go.Eng.Ask _ _; first | refine K1 ?_) | (guard_target =~ All' _ _; first | (refine Y2 fun y he he' hy => ?_; (try dsimp only at he he' hy)) | (refine Y1 fun y he hy => ?_; (try with_reducible conv at he => (rhs; whnf)); (try dsimp only at he hy)) | (refine All'.mk ?_; intro y hy)) | refine F4 (fun h => ?_) fun h => ?_ | refine R1 ?_ | refine Q1 ?_ | fail)); all_goals (conv => whnf))
      refine CallP.mk (C := knownC) k ?_
      ((repeat' ((conv => whnf) <;> first | exact True.intro | (guard_target =~ Fork _ _ _; first | refine F1 ?_ | refine F2 ?_ | refine F3 (fun h => ?_) fun h => ?_) | (guard_target =~ Ar _ _ _; first | refine A1 ?_ | refine A2 ?_) | (guard_target =~ AskL _ _; first | refine L1 ?_) | (guard_target =~ Go.Eng.Ask _ _; first | refine K1 ?_) | (guard_target =~ All' _ _; first | (refine Y2 fun y he he' hy => ?_; (try dsimp only at he he' hy)) | (refine Y1 fun y he hy => ?_; (try with_reducible conv at he => (rhs; whnf)); (try dsimp only at he hy)) | (refine All'.mk ?_; intro y hy)) | refine F4 (fun h => ?_) fun h => ?_ | refine R1 ?_ | refine Q1 ?_ | fail)); all_goals (conv => whnf))
      refine AskL.mk ?_ trivial
      (rw [hse]; dsimp only [conj]; repeat' apply And.intro) <;> first | rfl | (rw [hb1]; rfl)

structure WithX where
  o : LedO
  k : Int
  r : Nat × Nat
@[reducible] def withC : Ctr := {
  X := WithX
  Y := Bool
  args := fun x => [ledA x.o, .v (.int .i64 x.k), rowV x.r]
  rw := fun x => ledM x.o
  side := fun x => True
  val := fun x => x.o.isSome && decide (1 ≤ x.k ∧ x.k ≤ 14)
  ens := fun _ _ => True
  res := fun _ y => .v (.bool y)
  out := fun x _ => match x.o with | some f => [(0, ledE (if 1 ≤ x.k ∧ x.k ≤ 14 then setR f x.k.toNat x.r else f))] | none => [] }
theorem knownKn : Known Tryd.prog (gOf [(21, knownC)]) := known_cons ⟨known_ok, Tryd.call21⟩ (known_nil _)
theorem with_ok : withC.ok Tryd.prog 13 := by
  refine ok_of_vc (An := fun _ => anOf []) knownKn mo Tryd.func13 (by kernel_rfl) (by kernel_rfl) (fun _ _ => trivial) (fun x hs => ?_)
  obtain ⟨o, k, r⟩ := x
  cases o with
  | none => ((repeat' ((conv => whnf) <;> first | exact True.intro | (guard_target =~ Fork _ _ _; first | refine F1 ?_ | refine F2 ?_ | refine F3 (fun h => ?_) fun h => ?_) | (guard_target =~ Ar _ _ _; first | refine A1 ?_ | refine A2 ?_) | (guard_target =~ AskL _ _; first | refine L1 ?_) | (guard_target =~ Go.Eng.Ask _ _; first | refine K1 ?_) | (guard_target =~ All' _ _; first | (refine Y2 fun y he he' hy => ?_; (try dsimp only at he he' hy)) | (refine Y1 fun y he hy => ?_; (try with_reducible conv at he => (rhs; whnf)); (try dsimp only at he hy)) | (refine All'.mk ?_; intro y hy)) | refine F4 (fun h => ?_) fun h => ?_ | refine R1 ?_ | refine Q1 ?_ | fail)); all_goals (conv => whnf))
  | some f =>
    by_cases hk : 1 ≤ k ∧ k ≤ 14
    · have hd : decide (1 ≤ k ∧ k ≤ 14) = true := decide_eq_true hk
      have hse : (if 1 ≤ k ∧ k ≤ 14 then setR f k.toNat r else f) = setR f k.toNat r := if_pos hk
      ((repeat' ((conv => whnf) <;> first | exact True.intro | (guard_target =~ Fork _ _ _; first | refine F1 ?_ | refine F2 ?_ | refine F3 (fun h => ?_) fun h => ?_) | (guard_target =~ Ar _ _ _; first | refine A1 ?_ | refine A2 ?_) | (guard_target =~ AskL _ _; first | refine L1 ?_) | (guard_target =~ Go.Eng.Ask _ _; first | refine K1 ?_) | (guard_target =~ All' _ _; first | (refine Y2 fun y he he' hy => ?_; (try dsimp only at he he' hy)) | (refine Y1 fun y he hy => ?_; (try with_reducible conv at he => (rhs; whnf)); (try dsimp only at he hy)) | (refine All'.mk ?_; intro y hy)) | refine F4 (fun h => ?_) fun h => ?_ | refine R1 ?_ | refine Q1 ?_ | fail)); all_goals (conv => whnf))
      refine CallP.mk (C := knownC) k ?_
      ((repeat' ((conv => whnf) <;> first | exact True.intro | (guard_target =~ Fork _ _ _; first | refine F1 ?_ | refine F2 ?_ | refine F3 (fun h => ?_) fun h => ?_) | (guard_target =~ Ar _ _ _; first | refine A1 ?_ | refine A2 ?_) | (guard_target =~ AskL _ _; first | refine L1 ?_) | (guard_target =~ Go.Eng.Ask _ _; first | refine K1 ?_) | (guard_target =~ All' _ _; first | (refine Y2 fun y he he' hy => ?_; (try dsimp only at he he' hy)) | (refine Y1 fun y he hy => ?_; (try with_reducible conv at he => (rhs; whnf)); (try dsimp only at he hy)) | (refine All'.mk ?_; intro y hy)) | refine F4 (fun h => ?_) fun h => ?_ | refine R1 ?_ | refine Q1 ?_ | fail)); all_goals (conv => whnf))
      refine setK (set_led (k := k) (by omega) _ _) ?_
      ((repeat' ((conv => whnf) <;> first | exact True.intro | (guard_target =~ Fork _ _ _; first | refine F1 ?_ | refine F2 ?_ | refine F3 (fun h => ?_) fun h => ?_) | (guard_target =~ Ar _ _ _; first | refine A1 ?_ | refine A2 ?_) | (guard_target =~ Go.Eng.Ask _ _; first | refine K1 ?_) | (guard_target =~ All' _ _; first | (refine Y2 fun y he he' hy => ?_; (try dsimp only at he he' hy)) | (refine Y1 fun y he hy => ?_; (try with_reducible conv at he => (rhs; whnf)); (try dsimp only at he hy)) | (refine All'.mk ?_; intro y hy)) | refine F4 (fun h => ?_) fun h => ?_ | refine R1 ?_ | refine Q1 ?_ | fail)); all_goals (conv => whnf))
      refine AskL.mk ?_ trivial
      (rw [hse]; dsimp only [conj]; repeat' apply And.intro) <;> first | rfl | (rw [hd]; rfl)
    · have hd : decide (1 ≤ k ∧ k ≤ 14) = false := decide_eq_false hk
      have hse : (if 1 ≤ k ∧ k ≤ 14 then setR f k.toNat r else f) = f := if_neg hk
      ((repeat' ((conv => whnf) <;> first | exact True.intro | (guard_target =~ Fork _ _ _; first | refine F1 ?_ | refine F2 ?_ | refine F3 (fun h => ?_) fun h => ?_) | (guard_target =~ Ar _ _ _; first | refine A1 ?_ | refine A2 ?_) | (guard_target =~ AskL _ _; first | refine L1 ?_) | (guard_target =~ Go.Eng.Ask _ _; first | refine K1 ?_) | (guard_target =~ All' _ _; first | (refine Y2 fun y he he' hy => ?_; (try dsimp only at he he' hy)) | (refine Y1 fun y he hy => ?_; (try with_reducible conv at he => (rhs; whnf)); (try dsimp only at he hy)) | (refine All'.mk ?_; intro y hy)) | refine F4 (fun h => ?_) fun h => ?_ | refine R1 ?_ | refine Q1 ?_ | fail)); all_goals (conv => whnf))
      refine CallP.mk (C := knownC) k ?_
      ((repeat' ((conv => whnf) <;> first | exact True.intro | (guard_target =~ Fork _ _ _; first | refine F1 ?_ | refine F2 ?_ | refine F3 (fun h => ?_) fun h => ?_) | (guard_target =~ Ar _ _ _; first | refine A1 ?_ | refine A2 ?_) | (guard_target =~ AskL _ _; first | refine L1 ?_) | (guard_target =~ Go.Eng.Ask _ _; first | refine K1 ?_) | (guard_target =~ All' _ _; first | (refine Y2 fun y he he' hy => ?_; (try dsimp only at he he' hy)) | (refine Y1 fun y he hy => ?_; (try with_reducible conv at he => (rhs; whnf)); (try dsimp only at he hy)) | (refine All'.mk ?_; intro y hy)) | refine F4 (fun h => ?_) fun h => ?_ | refine R1 ?_ | refine Q1 ?_ | fail)); all_goals (conv => whnf))
      refine AskL.mk ?_ trivial
      (rw [hse]; dsimp only [conj]; repeat' apply And.intro) <;> first | rfl | (rw [hd]; rfl)

def rowAt (o : LedO) (k : Int) : Nat × Nat := match o with | some f => if 1 ≤ k ∧ k ≤ 14 then f k.toNat else (0, 0) | none => (0, 0)
@[reducible] def rowC : Ctr := {
  X := LedO × Int
  Y := Unit
  args := fun x => [ledA x.1, .v (.int .i64 x.2)]
  rw := fun x => ledM x.1
  side := fun x => True
  val := fun x => ()
  ens := fun _ _ => True
  res := fun x _ => rowV (rowAt x.1 x.2)
  out := fun x _ => ledM x.1 }
theorem row_ok : rowC.ok Tryd.prog 15 := by
  refine ok_of_vc (An := fun _ => anOf []) knownKn mo Tryd.func15 (by kernel_rfl) (by kernel_rfl) (fun _ _ => trivial) (fun x hs => ?_)
  obtain ⟨o, k⟩ := x
  cases o with
  | none => ((repeat' ((conv => whnf) <;> first | exact True.intro | (guard_target =~ Fork _ _ _; first | refine F1 ?_ | refine F2 ?_ | refine F3 (fun h => ?_) fun h => ?_) | (guard_target =~ Ar _ _ _; first | refine A1 ?_ | refine A2 ?_) | (guard_target =~ AskL _ _; first | refine L1 ?_) | (guard_target =~ Go.Eng.Ask _ _; first | refine K1 ?_) | (guard_target =~ All' _ _; first | (refine Y2 fun y he he' hy => ?_; (try dsimp only at he he' hy)) | (refine Y1 fun y he hy => ?_; (try with_reducible conv at he => (rhs; whnf)); (try dsimp only at he hy)) | (refine All'.mk ?_; intro y hy)) | refine F4 (fun h => ?_) fun h => ?_ | refine R1 ?_ | refine Q1 ?_ | fail)); all_goals (conv => whnf))
  | some f =>
    by_cases hk : 1 ≤ k ∧ k ≤ 14
    · have hd : decide (1 ≤ k ∧ k ≤ 14) = true := decide_eq_true hk
      have hse : rowAt (some f) k = f k.toNat := if_pos hk
      ((repeat' ((conv => whnf) <;> first | exact True.intro | (guard_target =~ Fork _ _ _; first | refine F1 ?_ | refine F2 ?_ | refine F3 (fun h => ?_) fun h => ?_) | (guard_target =~ Ar _ _ _; first | refine A1 ?_ | refine A2 ?_) | (guard_target =~ AskL _ _; first | refine L1 ?_) | (guard_target =~ Go.Eng.Ask _ _; first | refine K1 ?_) | (guard_target =~ All' _ _; first | (refine Y2 fun y he he' hy => ?_; (try dsimp only at he he' hy)) | (refine Y1 fun y he hy => ?_; (try with_reducible conv at he => (rhs; whnf)); (try dsimp only at he hy)) | (refine All'.mk ?_; intro y hy)) | refine F4 (fun h => ?_) fun h => ?_ | refine R1 ?_ | refine Q1 ?_ | fail)); all_goals (conv => whnf))
      refine CallP.mk (C := knownC) k ?_
      ((repeat' ((conv => whnf) <;> first | exact True.intro | (guard_target =~ Fork _ _ _; first | refine F1 ?_ | refine F2 ?_ | refine F3 (fun h => ?_) fun h => ?_) | (guard_target =~ Ar _ _ _; first | refine A1 ?_ | refine A2 ?_) | (guard_target =~ AskL _ _; first | refine L1 ?_) | (guard_target =~ Go.Eng.Ask _ _; first | refine K1 ?_) | (guard_target =~ All' _ _; first | (refine Y2 fun y he he' hy => ?_; (try dsimp only at he he' hy)) | (refine Y1 fun y he hy => ?_; (try with_reducible conv at he => (rhs; whnf)); (try dsimp only at he hy)) | (refine All'.mk ?_; intro y hy)) | refine F4 (fun h => ?_) fun h => ?_ | refine R1 ?_ | refine Q1 ?_ | fail)); all_goals (conv => whnf))
      refine cutK (cut_led (k := k) (by omega)) ?_
      ((repeat' ((conv => whnf) <;> first | exact True.intro | (guard_target =~ Fork _ _ _; first | refine F1 ?_ | refine F2 ?_ | refine F3 (fun h => ?_) fun h => ?_) | (guard_target =~ Ar _ _ _; first | refine A1 ?_ | refine A2 ?_) | (guard_target =~ Go.Eng.Ask _ _; first | refine K1 ?_) | (guard_target =~ All' _ _; first | (refine Y2 fun y he he' hy => ?_; (try dsimp only at he he' hy)) | (refine Y1 fun y he hy => ?_; (try with_reducible conv at he => (rhs; whnf)); (try dsimp only at he hy)) | (refine All'.mk ?_; intro y hy)) | refine F4 (fun h => ?_) fun h => ?_ | refine R1 ?_ | refine Q1 ?_ | fail)); all_goals (conv => whnf))
      refine AskL.mk ?_ trivial
      (rw [hse]; dsimp only [conj]; repeat' apply And.intro) <;> first | rfl | (rw [hd]; rfl)
    · have hd : decide (1 ≤ k ∧ k ≤ 14) = false := decide_eq_false hk
      have hse : rowAt (some f) k = (0, 0) := if_neg hk
      ((repeat' ((conv => whnf) <;> first | exact True.intro | (guard_target =~ Fork _ _ _; first | refine F1 ?_ | refine F2 ?_ | refine F3 (fun h => ?_) fun h => ?_) | (guard_target =~ Ar _ _ _; first | refine A1 ?_ | refine A2 ?_) | (guard_target =~ AskL _ _; first | refine L1 ?_) | (guard_target =~ Go.Eng.Ask _ _; first | refine K1 ?_) | (guard_target =~ All' _ _; first | (refine Y2 fun y he he' hy => ?_; (try dsimp only at he he' hy)) | (refine Y1 fun y he hy => ?_; (try with_reducible conv at he => (rhs; whnf)); (try dsimp only at he hy)) | (refine All'.mk ?_; intro y hy)) | refine F4 (fun h => ?_) fun h => ?_ | refine R1 ?_ | refine Q1 ?_ | fail)); all_goals (conv => whnf))
      refine CallP.mk (C := knownC) k ?_
      ((repeat' ((conv => whnf) <;> first | exact True.intro | (guard_target =~ Fork _ _ _; first | refine F1 ?_ | refine F2 ?_ | refine F3 (fun h => ?_) fun h => ?_) | (guard_target =~ Ar _ _ _; first | refine A1 ?_ | refine A2 ?_) | (guard_target =~ AskL _ _; first | refine L1 ?_) | (guard_target =~ Go.Eng.Ask _ _; first | refine K1 ?_) | (guard_target =~ All' _ _; first | (refine Y2 fun y he he' hy => ?_; (try dsimp only at he he' hy)) | (refine Y1 fun y he hy => ?_; (try with_reducible conv at he => (rhs; whnf)); (try dsimp only at he hy)) | (refine All'.mk ?_; intro y hy)) | refine F4 (fun h => ?_) fun h => ?_ | refine R1 ?_ | refine Q1 ?_ | fail)); all_goals (conv => whnf))
      refine AskL.mk ?_ trivial
      (rw [hse]; dsimp only [conj]; repeat' apply And.intro) <;> first | rfl | (rw [hd]; rfl)

@[reducible] def payC : Ctr := {
  X := LedO
  Y := Unit
  args := fun x => [ledA x]
  rw := fun x => ledM x
  side := fun x => ∀ f, x = some f → okL f
  val := fun x => ()
  ens := fun _ _ => True
  res := fun x _ => .v (.int .u64 (satN (rowAt x 10).2 (rowAt x 11).2 : Nat))
  out := fun x _ => ledM x }
theorem rowAt_ok {o : LedO} (h : ∀ f, o = some f → okL f) (k : Int) : okR (rowAt o k) := by
  cases o with
  | none => exact ⟨Nat.zero_le _, Nat.zero_le _⟩
  | some f =>
    show okR (if _ then _ else _)
    split
    · exact h f rfl _
    · exact ⟨Nat.zero_le _, Nat.zero_le _⟩
theorem knownPay : Known Tryd.prog (gOf [(15, rowC), (24, plusC)]) := known_cons ⟨row_ok, Tryd.call15⟩ knownPlus
theorem pay_ok : payC.ok Tryd.prog 12 := by
  refine ok_of_vc (An := fun _ => anOf []) knownPay mo Tryd.func12 (by kernel_rfl) (by kernel_rfl) (fun _ _ => trivial) (fun o hs => ?_)
  have h1 := rowAt_ok hs 10
  have h2 := rowAt_ok hs 11
  unfold okR at h1 h2
  cases o with
  | none =>
    ((repeat' ((conv => whnf) <;> first | exact True.intro | (guard_target =~ Fork _ _ _; first | refine F1 ?_ | refine F2 ?_ | refine F3 (fun h => ?_) fun h => ?_) | (guard_target =~ Ar _ _ _; first | refine A1 ?_ | refine A2 ?_) | (guard_target =~ AskL _ _; first | refine L1 ?_) | (guard_target =~ Go.Eng.Ask _ _; first | refine K1 ?_) | (guard_target =~ All' _ _; first | (refine Y2 fun y he he' hy => ?_; (try dsimp only at he he' hy)) | (refine Y1 fun y he hy => ?_; (try with_reducible conv at he => (rhs; whnf)); (try dsimp only at he hy)) | (refine All'.mk ?_; intro y hy)) | refine F4 (fun h => ?_) fun h => ?_ | refine R1 ?_ | refine Q1 ?_ | fail)); all_goals (conv => whnf))
    refine CallP.mk (C := rowC) (none, 10) ?_
    ((repeat' ((conv => whnf) <;> first | exact True.intro | (guard_target =~ Fork _ _ _; first | refine F1 ?_ | refine F2 ?_ | refine F3 (fun h => ?_) fun h => ?_) | (guard_target =~ Ar _ _ _; first | refine A1 ?_ | refine A2 ?_) | (guard_target =~ AskL _ _; first | refine L1 ?_) | (guard_target =~ Go.Eng.Ask _ _; first | refine K1 ?_) | (guard_target =~ All' _ _; first | (refine Y2 fun y he he' hy => ?_; (try dsimp only at he he' hy)) | (refine Y1 fun y he hy => ?_; (try with_reducible conv at he => (rhs; whnf)); (try dsimp only at he hy)) | (refine All'.mk ?_; intro y hy)) | refine F4 (fun h => ?_) fun h => ?_ | refine R1 ?_ | refine Q1 ?_ | fail)); all_goals (conv => whnf))
    refine CallP.mk (C := rowC) (none, 11) ?_
    ((repeat' ((conv => whnf) <;> first | exact True.intro | (guard_target =~ Fork _ _ _; first | refine F1 ?_ | refine F2 ?_ | refine F3 (fun h => ?_) fun h => ?_) | (guard_target =~ Ar _ _ _; first | refine A1 ?_ | refine A2 ?_) | (guard_target =~ AskL _ _; first | refine L1 ?_) | (guard_target =~ Go.Eng.Ask _ _; first | refine K1 ?_) | (guard_target =~ All' _ _; first | (refine Y2 fun y he he' hy => ?_; (try dsimp only at he he' hy)) | (refine Y1 fun y he hy => ?_; (try with_reducible conv at he => (rhs; whnf)); (try dsimp only at he hy)) | (refine All'.mk ?_; intro y hy)) | refine F4 (fun h => ?_) fun h => ?_ | refine R1 ?_ | refine Q1 ?_ | fail)); all_goals (conv => whnf))
    refine CallP.mk (C := plusC) ((rowAt none 10).2, (rowAt none 11).2) ?_
    ((repeat' ((conv => whnf) <;> first | exact True.intro | (guard_target =~ Fork _ _ _; first | refine F1 ?_ | refine F2 ?_ | refine F3 (fun h => ?_) fun h => ?_) | (guard_target =~ Ar _ _ _; first | refine A1 ?_ | refine A2 ?_) | (guard_target =~ AskL _ _; first | refine L1 ?_) | (guard_target =~ Go.Eng.Ask _ _; first | refine K1 ?_) | (guard_target =~ All' _ _; first | (refine Y2 fun y he he' hy => ?_; (try dsimp only at he he' hy)) | (refine Y1 fun y he hy => ?_; (try with_reducible conv at he => (rhs; whnf)); (try dsimp only at he hy)) | (refine All'.mk ?_; intro y hy)) | refine F4 (fun h => ?_) fun h => ?_ | refine R1 ?_ | refine Q1 ?_ | fail)); all_goals (conv => whnf))
  | some f =>
    ((repeat' ((conv => whnf) <;> first | exact True.intro | (guard_target =~ Fork _ _ _; first | refine F1 ?_ | refine F2 ?_ | refine F3 (fun h => ?_) fun h => ?_) | (guard_target =~ Ar _ _ _; first | refine A1 ?_ | refine A2 ?_) | (guard_target =~ AskL _ _; first | refine L1 ?_) | (guard_target =~ Go.Eng.Ask _ _; first | refine K1 ?_) | (guard_target =~ All' _ _; first | (refine Y2 fun y he he' hy => ?_; (try dsimp only at he he' hy)) | (refine Y1 fun y he hy => ?_; (try with_reducible conv at he => (rhs; whnf)); (try dsimp only at he hy)) | (refine All'.mk ?_; intro y hy)) | refine F4 (fun h => ?_) fun h => ?_ | refine R1 ?_ | refine Q1 ?_ | fail)); all_goals (conv => whnf))
    refine CallP.mk (C := rowC) (some f, 10) ?_
    ((repeat' ((conv => whnf) <;> first | exact True.intro | (guard_target =~ Fork _ _ _; first | refine F1 ?_ | refine F2 ?_ | refine F3 (fun h => ?_) fun h => ?_) | (guard_target =~ Ar _ _ _; first | refine A1 ?_ | refine A2 ?_) | (guard_target =~ AskL _ _; first | refine L1 ?_) | (guard_target =~ Go.Eng.Ask _ _; first | refine K1 ?_) | (guard_target =~ All' _ _; first | (refine Y2 fun y he he' hy => ?_; (try dsimp only at he he' hy)) | (refine Y1 fun y he hy => ?_; (try with_reducible conv at he => (rhs; whnf)); (try dsimp only at he hy)) | (refine All'.mk ?_; intro y hy)) | refine F4 (fun h => ?_) fun h => ?_ | refine R1 ?_ | refine Q1 ?_ | fail)); all_goals (conv => whnf))
    refine CallP.mk (C := rowC) (some f, 11) ?_
    ((repeat' ((conv => whnf) <;> first | exact True.intro | (guard_target =~ Fork _ _ _; first | refine F1 ?_ | refine F2 ?_ | refine F3 (fun h => ?_) fun h => ?_) | (guard_target =~ Ar _ _ _; first | refine A1 ?_ | refine A2 ?_) | (guard_target =~ AskL _ _; first | refine L1 ?_) | (guard_target =~ Go.Eng.Ask _ _; first | refine K1 ?_) | (guard_target =~ All' _ _; first | (refine Y2 fun y he he' hy => ?_; (try dsimp only at he he' hy)) | (refine Y1 fun y he hy => ?_; (try with_reducible conv at he => (rhs; whnf)); (try dsimp only at he hy)) | (refine All'.mk ?_; intro y hy)) | refine F4 (fun h => ?_) fun h => ?_ | refine R1 ?_ | refine Q1 ?_ | fail)); all_goals (conv => whnf))
    refine CallP.mk (C := plusC) ((rowAt (some f) 10).2, (rowAt (some f) 11).2) ?_
    ((repeat' ((conv => whnf) <;> first | exact True.intro | (guard_target =~ Fork _ _ _; first | refine F1 ?_ | refine F2 ?_ | refine F3 (fun h => ?_) fun h => ?_) | (guard_target =~ Ar _ _ _; first | refine A1 ?_ | refine A2 ?_) | (guard_target =~ AskL _ _; first | refine L1 ?_) | (guard_target =~ Go.Eng.Ask _ _; first | refine K1 ?_) | (guard_target =~ All' _ _; first | (refine Y2 fun y he he' hy => ?_; (try dsimp only at he he' hy)) | (refine Y1 fun y he hy => ?_; (try with_reducible conv at he => (rhs; whnf)); (try dsimp only at he hy)) | (refine All'.mk ?_; intro y hy)) | refine F4 (fun h => ?_) fun h => ?_ | refine R1 ?_ | refine Q1 ?_ | fail)); all_goals (conv => whnf))
