/- Ledger: the plain laws: totals are sums. -/
import Derived.Test.YteckpdifeoffjaaDoorLedF
set_option linter.unusedVariables false
set_option linter.unusedSimpArgs false
namespace Go.Proofs.YteckpdifeoffjaaDoor
open Go.Eng

theorem satN_le (a b : Nat) : satN a b ≤ 18446744073709551615 := by unfold satN; split <;> omega
theorem satN_eq (a b : Nat) : satN a b = min (a + b) 18446744073709551615 := by unfold satN; split <;> omega
theorem sumR_zero {p : Nat × Nat} (h : okR p) {q : Nat × Nat} (hq : q.1 = 0 ∧ q.2 = 0) : sumR p q = p := by
  obtain ⟨a, b⟩ := p
  obtain ⟨h1, h2⟩ := h
  dsimp only at h1 h2
  simp only [sumR, satN_eq, hq.1, hq.2]
  congr 1 <;> omega
theorem sumR_zero' {p : Nat × Nat} (h : okR p) : sumR (0, 0) p = p := by
  obtain ⟨a, b⟩ := p
  obtain ⟨h1, h2⟩ := h
  dsimp only at h1 h2
  simp only [sumR, satN_eq]
  congr 1 <;> omega

def su1 (f : Nat → Nat × Nat) : Nat → Nat → Nat
  | _, 0 => 0
  | k, n + 1 => (f k).1 + su1 f (k + 1) n
def su2 (f : Nat → Nat × Nat) : Nat → Nat → Nat
  | _, 0 => 0
  | k, n + 1 => (f k).2 + su2 f (k + 1) n

theorem fold_su (f : Nat → Nat × Nat) : ∀ (n k : Nat) (a : Nat × Nat), okR a →
    (ksF f k n).foldl (fun a k => sumR a (fO (some f) k)) a = (min (a.1 + su1 f k n) 18446744073709551615, min (a.2 + su2 f k n) 18446744073709551615)
  | 0, k, a, h => by
    obtain ⟨h1, h2⟩ := h
    obtain ⟨a, b⟩ := a
    dsimp only at h1 h2
    simp only [ksF, su1, su2, List.foldl_nil]
    congr 1 <;> omega
  | n + 1, k, a, h => by
    by_cases hz : (f k).1 = 0 ∧ (f k).2 = 0
    · rw [ksF_zero hz, fold_su f n (k + 1) a h]
      simp only [su1, su2, hz.1, hz.2, Nat.zero_add]
    · rw [ksF_some hz, List.foldl_cons, fold_su f n (k + 1) _ (okR_sum _ _)]
      have e1 : (fO (some f) k) = f k := rfl
      simp only [su1, su2, sumR, satN_eq, e1]
      obtain ⟨h1, h2⟩ := h
      congr 1 <;> omega
theorem tot_su (f : Nat → Nat × Nat) : foldK (some f) (ksO (some f)) = (min (su1 f 1 14) 18446744073709551615, min (su2 f 1 14) 18446744073709551615) := by
  have := fold_su f 14 1 (0, 0) ⟨Nat.zero_le _, Nat.zero_le _⟩
  simp only [Nat.zero_add] at this
  exact this

theorem su1_congr {f g : Nat → Nat × Nat} : ∀ (n k : Nat), (∀ j, k ≤ j → j < k + n → f j = g j) → su1 f k n = su1 g k n
  | 0, k, _ => rfl
  | n + 1, k, h => by simp only [su1]; rw [h k (Nat.le_refl _) (by omega), su1_congr n (k + 1) (fun j h1 h2 => h j (by omega) (by omega))]
theorem su2_congr {f g : Nat → Nat × Nat} : ∀ (n k : Nat), (∀ j, k ≤ j → j < k + n → f j = g j) → su2 f k n = su2 g k n
  | 0, k, _ => rfl
  | n + 1, k, h => by simp only [su2]; rw [h k (Nat.le_refl _) (by omega), su2_congr n (k + 1) (fun j h1 h2 => h j (by omega) (by omega))]
theorem su1_set (f : Nat → Nat × Nat) (j : Nat) (r : Nat × Nat) : ∀ (n k : Nat), k ≤ j → j < k + n → su1 (setR f j r) k n + (f j).1 = su1 f k n + r.1
  | 0, k, h1, h2 => by omega
  | n + 1, k, h1, h2 => by
    simp only [su1]
    by_cases e : k = j
    · subst e
      have e1 : setR f k r k = r := if_pos rfl
      have e2 : su1 (setR f k r) (k + 1) n = su1 f (k + 1) n := su1_congr n (k + 1) (fun i h _ => if_neg (by omega))
      rw [e1, e2]; omega
    · have e1 : setR f j r k = f k := if_neg e
      have := su1_set f j r n (k + 1) (by omega) (by omega)
      rw [e1]; omega
theorem su2_set (f : Nat → Nat × Nat) (j : Nat) (r : Nat × Nat) : ∀ (n k : Nat), k ≤ j → j < k + n → su2 (setR f j r) k n + (f j).2 = su2 f k n + r.2
  | 0, k, h1, h2 => by omega
  | n + 1, k, h1, h2 => by
    simp only [su2]
    by_cases e : k = j
    · subst e
      have e1 : setR f k r k = r := if_pos rfl
      have e2 : su2 (setR f k r) (k + 1) n = su2 f (k + 1) n := su2_congr n (k + 1) (fun i h _ => if_neg (by omega))
      rw [e1, e2]; omega
    · have e1 : setR f j r k = f k := if_neg e
      have := su2_set f j r n (k + 1) (by omega) (by omega)
      rw [e1]; omega
theorem su_add {f g h : Nat → Nat × Nat} : ∀ (n k : Nat), (∀ j, k ≤ j → j < k + n → (h j).1 = (f j).1 + (g j).1 ∧ (h j).2 = (f j).2 + (g j).2) → su1 h k n = su1 f k n + su1 g k n ∧ su2 h k n = su2 f k n + su2 g k n
  | 0, k, _ => ⟨rfl, rfl⟩
  | n + 1, k, hh => by
    obtain ⟨h1, h2⟩ := hh k (Nat.le_refl _) (by omega)
    obtain ⟨h3, h4⟩ := su_add n (k + 1) (fun j a b => hh j (by omega) (by omega))
    simp only [su1, su2]; omega
theorem su_at {f : Nat → Nat × Nat} : ∀ (n k j : Nat), k ≤ j → j < k + n → (f j).1 ≤ su1 f k n ∧ (f j).2 ≤ su2 f k n
  | 0, k, j, h1, h2 => by omega
  | n + 1, k, j, h1, h2 => by
    simp only [su1, su2]
    by_cases e : k = j
    · subst e; omega
    · have := su_at (f := f) n (k + 1) j (by omega) (by omega); omega
theorem su_two {f : Nat → Nat × Nat} : (f 10).2 + (f 11).2 ≤ su2 f 1 14 := by
  simp only [su2, show 1 + 1 = 2 from rfl, show 2 + 1 = 3 from rfl, show 3 + 1 = 4 from rfl, show 4 + 1 = 5 from rfl, show 5 + 1 = 6 from rfl, show 6 + 1 = 7 from rfl, show 7 + 1 = 8 from rfl, show 8 + 1 = 9 from rfl, show 9 + 1 = 10 from rfl, show 10 + 1 = 11 from rfl]
  omega

/-! ### What is added -/
theorem ksF_nodup (f : Nat → Nat × Nat) : ∀ (n k : Nat), (ksF f k n).Nodup
  | 0, k => List.nodup_nil
  | n + 1, k => by
    unfold ksF
    split
    · exact ksF_nodup f n (k + 1)
    · refine List.nodup_cons.2 ⟨fun h => ?_, ksF_nodup f n (k + 1)⟩
      have := ksF_mem n (k + 1) h; omega
theorem ksF_has (f : Nat → Nat × Nat) : ∀ (n k j : Nat), k ≤ j → j < k + n → (j ∈ ksF f k n ↔ ¬ ((f j).1 = 0 ∧ (f j).2 = 0))
  | 0, k, j, h1, h2 => by omega
  | n + 1, k, j, h1, h2 => by
    by_cases hz : (f k).1 = 0 ∧ (f k).2 = 0
    · rw [ksF_zero hz]
      by_cases e : j = k
      · subst e
        exact ⟨fun h => by have := ksF_mem n (j + 1) h; omega, fun h => absurd hz h⟩
      · exact ksF_has f n (k + 1) j (by omega) (by omega)
    · rw [ksF_some hz, List.mem_cons]
      by_cases e : j = k
      · subst e; exact ⟨fun _ => hz, fun _ => .inl rfl⟩
      · rw [← ksF_has f n (k + 1) j (by omega) (by omega)]
        exact ⟨fun h => h.resolve_left e, .inr⟩
theorem addFold_at (o : LedO) : ∀ (l : List Nat) (f : Nat → Nat × Nat) (j : Nat), l.Nodup → addFold o f l j = if j ∈ l then sumR (f j) (fO o j) else f j
  | [], f, j, _ => by simp [addFold]
  | k :: l, f, j, h => by
    obtain ⟨h1, h2⟩ := List.nodup_cons.1 h
    have ih := addFold_at o l (setR f k (sumR (f k) (fO o k))) j h2
    have e : addFold o f (k :: l) = addFold o (setR f k (sumR (f k) (fO o k))) l := rfl
    rw [e, ih]
    by_cases hj : j = k
    · subst hj
      have e1 : setR f j (sumR (f j) (fO o j)) j = sumR (f j) (fO o j) := if_pos rfl
      rw [if_neg h1, if_pos (List.mem_cons_self ..), e1]
    · have e1 : setR f k (sumR (f k) (fO o k)) j = f j := if_neg hj
      rw [e1]
      simp [hj]
def addL (f g : Nat → Nat × Nat) : Nat → Nat × Nat := addFold (some g) f (ksO (some g))
theorem addL_at {f g : Nat → Nat × Nat} (hf : okL f) {j : Nat} (h1 : 1 ≤ j) (h2 : j < 15) : addL f g j = sumR (f j) (g j) := by
  unfold addL
  rw [addFold_at (some g) (ksO (some g)) f j (ksF_nodup g 14 1)]
  by_cases h : j ∈ ksO (some g)
  · rw [if_pos h]; rfl
  · rw [if_neg h]
    have hz : (g j).1 = 0 ∧ (g j).2 = 0 := by
      apply Classical.byContradiction
      intro hn
      exact h ((ksF_has g 14 1 j h1 (by omega)).2 hn)
    exact (sumR_zero (hf j) hz).symm
/-- Where the sums stay below their end. -/
theorem addL_su {f g : Nat → Nat × Nat} (hf : okL f) (h1 : su1 f 1 14 + su1 g 1 14 ≤ 18446744073709551615) (h2 : su2 f 1 14 + su2 g 1 14 ≤ 18446744073709551615) :
    su1 (addL f g) 1 14 = su1 f 1 14 + su1 g 1 14 ∧ su2 (addL f g) 1 14 = su2 f 1 14 + su2 g 1 14 := by
  refine su_add 14 1 (fun j a b => ?_)
  rw [addL_at hf a b]
  obtain ⟨c1, c2⟩ := su_at (f := f) 14 1 j a b
  obtain ⟨d1, d2⟩ := su_at (f := g) 14 1 j a b
  simp only [sumR, satN_eq]
  omega
theorem okL_add {f : Nat → Nat × Nat} (g : Nat → Nat × Nat) (h : okL f) : okL (addL f g) := addFold_ok _ h _

def payN (f : Nat → Nat × Nat) : Nat := satN (rowAt (some f) 10).2 (rowAt (some f) 11).2
theorem payN_eq (f : Nat → Nat × Nat) : payN f = satN (f 10).2 (f 11).2 := rfl
def totN (f : Nat → Nat × Nat) : Nat × Nat := foldK (some f) (ksO (some f))
theorem lo_law {f g : Nat → Nat × Nat} (hf : okL f) (hg : okL g) (b1 : su1 f 1 14 ≤ 100000000) (b2 : su2 f 1 14 ≤ 100000000) (b3 : su1 g 1 14 ≤ 100000000) (b4 : su2 g 1 14 ≤ 100000000) :
    ∃ s1 s2, s1 ≤ 1000000000 ∧ s2 ≤ 1000000000 ∧ totN (addL f g) = (s1, s2) ∧ totN (addL g f) = (s1, s2) ∧ totN (addL (addL f g) (addL f g)) = (2 * s1, 2 * s2) ∧ payN (addL g f) = payN f + payN g ∧ payN f ≤ 1000000000 ∧ payN g ≤ 1000000000 := by
  obtain ⟨p1, p2⟩ := addL_su (f := f) (g := g) hf (by omega) (by omega)
  obtain ⟨q1, q2⟩ := addL_su (f := g) (g := f) hg (by omega) (by omega)
  obtain ⟨r1, r2⟩ := addL_su (f := addL f g) (g := addL f g) (okL_add g hf) (by omega) (by omega)
  refine ⟨su1 f 1 14 + su1 g 1 14, su2 f 1 14 + su2 g 1 14, by omega, by omega, ?_, ?_, ?_, ?_, ?_, ?_⟩
  · exact (tot_su _).trans (Prod.ext (show min _ _ = _ by omega) (show min _ _ = _ by omega))
  · exact (tot_su _).trans (Prod.ext (show min _ _ = _ by omega) (show min _ _ = _ by omega))
  · exact (tot_su _).trans (Prod.ext (show min _ _ = _ by omega) (show min _ _ = _ by omega))
  · rw [payN_eq, payN_eq, payN_eq, addL_at hg (by omega) (by omega), addL_at hg (by omega) (by omega)]
    have := su_two (f := f)
    have := su_two (f := g)
    simp only [sumR, satN_eq]
    omega
  · rw [payN_eq, satN_eq]; have := su_two (f := f); omega
  · rw [payN_eq, satN_eq]; have := su_two (f := g); omega

/-! ### What is sent -/
abbrev Two := Fin 2 → Int
@[reducible] def kOf (s : Two) : Int := (s 0).tmod 16
def sendAll (f : Nat → Nat × Nat) (l : List Two) : Nat → Nat × Nat := l.foldl (fun f s => sentF f (kOf s) (s 1)) f
def okS (s : Two) : Prop := (0 ≤ s 0 ∧ s 0 ≤ 65535) ∧ (0 ≤ s 1 ∧ s 1 ≤ 65535)
def knownS (s : Two) : Bool := decide (1 ≤ kOf s ∧ kOf s ≤ 14)
def cntS (l : List Two) : Nat := (l.filter knownS).length
def bytS (l : List Two) : Nat := ((l.filter knownS).map fun s => (s 1).toNat).sum
theorem led0_su : su1 (fun _ => (0, 0)) 1 14 = 0 ∧ su2 (fun _ => (0, 0)) 1 14 = 0 := by decide
theorem sent_su {f : Nat → Nat × Nat} (hf : okL f) {s : Two} (hs : okS s) (h1 : su1 f 1 14 ≤ 1000000000000) (h2 : su2 f 1 14 ≤ 1000000000000) :
    su1 (sentF f (kOf s) (s 1)) 1 14 = su1 f 1 14 + (if knownS s = true then 1 else 0) ∧ su2 (sentF f (kOf s) (s 1)) 1 14 = su2 f 1 14 + (if knownS s = true then (s 1).toNat else 0) := by
  by_cases hk : 1 ≤ kOf s ∧ kOf s ≤ 14
  · have e1 : knownS s = true := decide_eq_true hk
    have e2 : sentB (kOf s) (s 1) = true := decide_eq_true ⟨hk, hs.2.1⟩
    have e3 : sentF f (kOf s) (s 1) = setR f (kOf s).toNat (sumR (f (kOf s).toNat) (1, (s 1).toNat)) := if_pos e2
    rw [if_pos e1, if_pos e1, e3]
    have g1 := su1_set f (kOf s).toNat (sumR (f (kOf s).toNat) (1, (s 1).toNat)) 14 1 (by omega) (by omega)
    have g2 := su2_set f (kOf s).toNat (sumR (f (kOf s).toNat) (1, (s 1).toNat)) 14 1 (by omega) (by omega)
    obtain ⟨c1, c2⟩ := su_at (f := f) 14 1 (kOf s).toNat (by omega) (by omega)
    simp only [sumR, satN_eq] at g1 g2 ⊢
    obtain ⟨⟨_, _⟩, _, hs4⟩ := hs
    omega
  · have e1 : knownS s = false := decide_eq_false hk
    have e2 : sentB (kOf s) (s 1) = false := decide_eq_false (fun h => hk h.1)
    have e3 : sentF f (kOf s) (s 1) = f := if_neg (by rw [e2]; exact Bool.false_ne_true)
    rw [e3, e1]; simp
theorem okL_sentF {f : Nat → Nat × Nat} (h : okL f) (k n : Int) : okL (sentF f k n) := by
  unfold sentF
  split
  · exact okL_set h (okR_sum _ _)
  · exact h
theorem sendAll_snoc (f : Nat → Nat × Nat) (l : List Two) (s : Two) : sendAll f (l ++ [s]) = sentF (sendAll f l) (kOf s) (s 1) := by simp [sendAll]
theorem cntS_snoc (l : List Two) (s : Two) : cntS (l ++ [s]) = cntS l + (if knownS s = true then 1 else 0) := by
  unfold cntS
  rw [List.filter_append, List.length_append]
  cases h : knownS s <;> simp [h]
theorem bytS_snoc (l : List Two) (s : Two) : bytS (l ++ [s]) = bytS l + (if knownS s = true then (s 1).toNat else 0) := by
  unfold bytS
  rw [List.filter_append, List.map_append, List.sum_append]
  cases h : knownS s <;> simp [h]
theorem sendAll_su : ∀ (n : Nat) (l : List Two), n = l.length → l.length ≤ 1000 → (∀ s, s ∈ l → okS s) →
    okL (sendAll (fun _ => (0, 0)) l) ∧ su1 (sendAll (fun _ => (0, 0)) l) 1 14 = cntS l ∧ su2 (sendAll (fun _ => (0, 0)) l) 1 14 = bytS l ∧ cntS l ≤ l.length ∧ bytS l ≤ 65535 * l.length
  | 0, l, hn, _, _ => by
    have : l = [] := List.eq_nil_of_length_eq_zero hn.symm
    subst this
    exact ⟨fun _ => ⟨Nat.zero_le _, Nat.zero_le _⟩, led0_su.1, led0_su.2, Nat.le_refl _, Nat.le_refl _⟩
  | n + 1, l, hn, hl, hs => by
    obtain ⟨l', s, rfl⟩ : ∃ l' s, l = l' ++ [s] := by
      rcases List.eq_nil_or_concat l with h | ⟨l', s, h⟩
      · subst h; simp at hn
      · exact ⟨l', s, by simpa using h⟩
    have hn' : n = l'.length := by simpa using hn
    rw [List.length_append, List.length_singleton] at hl ⊢
    obtain ⟨h0, h1, h2, h3, h4⟩ := sendAll_su n l' hn' (by omega) (fun x hx => hs x (List.mem_append_left _ hx))
    have hsk := hs s (by simp)
    obtain ⟨g1, g2⟩ := sent_su h0 hsk (by omega) (by omega)
    rw [sendAll_snoc, cntS_snoc, bytS_snoc]
    refine ⟨okL_sentF h0 _ _, by rw [g1, h1], by rw [g2, h2], ?_, ?_⟩
    · split <;> omega
    · obtain ⟨_, _, hs4⟩ := hsk
      split <;> omega
end Go.Proofs.YteckpdifeoffjaaDoor
