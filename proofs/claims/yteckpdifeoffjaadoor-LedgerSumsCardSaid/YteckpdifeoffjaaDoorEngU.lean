/- The engine, part U: equality of structs and arrays of plain parts. -/
import Derived.Test.YteckpdifeoffjaaDoorEngL
import Derived.ChangeKeysEq
set_option linter.unusedVariables false
namespace Go.Eng

section
variable {P : Program}

theorem eqLv_cons {a b : Value} {l l' : List Value} {r : Bool} (h : eqLv (a :: l) (b :: l') = some r) : ∃ r1 r2, eq1 a b = some r1 ∧ eqLv l l' = some r2 ∧ r = (r1 && r2) := by
  cases l with
  | nil => cases l' with
    | nil => exact ⟨r, true, by simpa [eqLv] using h, rfl, by simp⟩
    | cons _ _ => simp only [eqLv] at h; split at h <;> cases h
  | cons c l =>
    cases l' with
    | nil => simp only [eqLv] at h; split at h <;> cases h
    | cons d l' =>
    rw [eqLv] at h
    · split at h
      · rename_i r1 h1
        split at h
        · rename_i r2 h2
          exact ⟨r1, r2, h1, h2, (Option.some.inj h).symm⟩
        · cases h
      · cases h
    · simp

theorem eqLv_length : ∀ (l l' : List Value) (r : Bool), eqLv l l' = some r → l.length = l'.length
  | [], [], _, _ => rfl
  | [], _ :: _, _, h => by simp [eqLv] at h
  | _ :: _, [], _, h => by simp [eqLv] at h
  | a :: l, b :: l', r, h => by
    obtain ⟨_, r2, _, h2, _⟩ := eqLv_cons h
    simp [eqLv_length l l' r2 h2]

theorem eqLv_split : ∀ (n : Nat) (l l' : List Value) (r : Bool), eqLv l l' = some r → n ≤ l.length →
    ∃ r1 r2, eqLv (l.take n) (l'.take n) = some r1 ∧ eqLv (l.drop n) (l'.drop n) = some r2 ∧ r = (r1 && r2)
  | 0, l, l', r, h, _ => ⟨true, r, by simp [eqLv], by simpa using h, by simp⟩
  | n + 1, [], l', r, h, hn => by simp at hn
  | n + 1, a :: l, [], r, h, hn => by have := eqLv_length _ _ _ h; simp at this
  | n + 1, a :: l, b :: l', r, h, hn => by
    obtain ⟨r1, r2, h1, h2, e⟩ := eqLv_cons h
    obtain ⟨s1, s2, g1, g2, e2⟩ := eqLv_split n l l' r2 h2 (by simpa using hn)
    refine ⟨r1 && s1, s2, ?_, by simpa using g2, by rw [e, e2, Bool.and_assoc]⟩
    simp only [List.take_succ_cons]
    generalize l.take n = p at g1
    generalize l'.take n = q at g1
    cases p with
    | nil => cases q with
      | nil => simp [eqLv] at g1; simp [eqLv, h1, ← g1]
      | cons _ _ => simp [eqLv] at g1
    | cons x p => cases q with
      | nil => simp [eqLv] at g1
      | cons y q => rw [eqLv]; · simp [h1, g1]
                    · simp

theorem kds_length (l : List Value) : (kds l).length = l.length := by simp [kds]
theorem kds_take (l : List Value) (n : Nat) : kds (l.take n) = (kds l).take n := by simp [kds]
theorem kds_drop (l : List Value) (n : Nat) : kds (l.drop n) = (kds l).drop n := by simp [kds]

/-- A value of a type, by its cells. -/
def ValOf (P : Program) (t : TypeId) (xs : List Value) (v : Value) : Prop := (aggOf P t = some true ∧ v = .agg xs.toArray) ∨ (aggOf P t = some false ∧ xs = [v])

theorem run_part {t : TypeId} {n o : Nat} {X : List Value} {w : World} (hn : szOf P t = some n) (hag : aggOf P t ≠ none) (h1 : aggOf P t = some false → n = 1) (hl : n ≤ (X.drop o).length) :
    ∃ v, (part t X.toArray o).run P w = .ok v w ∧ ValOf P t ((X.drop o).take n) v := by
  unfold part
  cases h : aggOf P t with
  | none => exact absurd h hag
  | some b =>
    rw [run_then (run_isAgg h w)]
    cases b with
    | true =>
      refine ⟨_, ?_, .inl ⟨h, rfl⟩⟩
      simp only [if_true]
      rw [run_then (run_sizeOf hn w)]
      have : X.toArray.extract o (o + n) = ((X.drop o).take n).toArray := by simp [List.extract_eq_take_drop]
      rw [this]; rfl
    | false =>
      have hn1 := h1 h
      subst hn1
      have ho : o < X.length := by rw [List.length_drop] at hl; omega
      refine ⟨X[o], ?_, .inr ⟨h, ?_⟩⟩
      · simp only [Bool.false_eq_true, if_false, List.getElem?_toArray]
        rw [List.getElem?_eq_getElem ho]; rfl
      · rw [List.drop_eq_getElem_cons ho, List.take_succ_cons, List.take_zero]

theorem lfs_agg {n : Nat} {t : TypeId} {l : List Nat} (h : lfs P n t = some l) : aggOf P t ≠ none ∧ (aggOf P t = some false → l.length = 1) := by
  cases n with
  | zero => simp [lfs] at h
  | succ n =>
    unfold lfs at h
    unfold aggOf
    split at h
    · rename_i hu; rw [hu]; obtain rfl := Option.some.inj h; exact ⟨by simp, fun _ => rfl⟩
    · rename_i hu; rw [hu]; obtain rfl := Option.some.inj h; exact ⟨by simp, fun _ => rfl⟩
    · rename_i hu; rw [hu]; obtain rfl := Option.some.inj h; exact ⟨by simp, fun _ => rfl⟩
    · rename_i hu; rw [hu]; exact ⟨by simp, fun h => by simp at h⟩
    · rename_i hu; rw [hu]; exact ⟨by simp, fun h => by simp at h⟩
    · cases h

theorem eq1_int {v : Value} {a : Value} {r : Bool} (h : eq1 a v = some r) (k : IntKind) (x : Int) (ha : a = .int k x) : ∃ y, v = .int k y ∧ r = (x == y) := by
  subst ha
  cases v <;> simp only [eq1] at h <;> try (cases h)
  rename_i k' y
  split at h
  · rename_i hk
    obtain rfl := eqK_eq hk
    exact ⟨y, rfl, (Option.some.inj h).symm⟩
  · cases h

theorem eq_run : ∀ (n : Nat),
    (∀ t ls, lfs P n t = some ls → ∀ (xs ys : List Value) r, kds xs = ls → kds ys = ls → eqLv xs ys = some r → ∀ d, n ≤ d → ∀ (w : World) vx vy, ValOf P t xs vx → ValOf P t ys vy → (Op.equalIn d t vx vy).run P w = .ok r w) ∧
    (∀ fs off ls, lfsF P n fs off = some ls → ∀ (X Y : List Value) r, kds (X.drop off) = ls → kds (Y.drop off) = ls → eqLv (X.drop off) (Y.drop off) = some r → ∀ d, n ≤ d + 1 → ∀ (w : World), (Op.eqFields d X.toArray Y.toArray fs).run P w = .ok r w) := by
  intro n
  induction n with
  | zero => exact ⟨fun t ls h => by simp [lfs] at h, fun fs off ls h => by simp [lfsF] at h⟩
  | succ n ih =>
    obtain ⟨ih1, ih2⟩ := ih
    have scal : ∀ {t : TypeId} {xs : List Value} {v : Value} {d : TypeDesc}, P.underlying t = some d → ValOf P t xs v → (∀ x, aggOf P t = some x → x = false) → xs = [v] := fun hu hv hf => by
      rcases hv with ⟨h1, _⟩ | ⟨_, h2⟩
      · have := hf _ h1; cases this
      · exact h2
    refine ⟨?_, ?_⟩
    · intro t ls h xs ys r hx hy he d hd w vx vy hvx hvy
      obtain ⟨d, rfl⟩ : ∃ d', d = d' + 1 := ⟨d - 1, by omega⟩
      unfold lfs at h
      split at h
      · rename_i k hu
        have hf : ∀ x, aggOf P t = some x → x = false := fun x hx => by unfold aggOf at hx; rw [hu] at hx; simpa using hx.symm
        obtain rfl := scal hu hvx hf
        obtain rfl := scal hu hvy hf
        obtain rfl := Option.some.inj h
        simp only [eqLv] at he
        cases vx <;> simp [kds, kd1] at hx
        rename_i k1 a
        obtain ⟨b, rfl, rfl⟩ := eq1_int he k1 a rfl
        exact run_equalIn_int w d t k1 k a b hu
      · rename_i hu
        have hf : ∀ x, aggOf P t = some x → x = false := fun x hx => by unfold aggOf at hx; rw [hu] at hx; simpa using hx.symm
        obtain rfl := scal hu hvx hf
        obtain rfl := scal hu hvy hf
        obtain rfl := Option.some.inj h
        simp only [eqLv] at he
        cases vx <;> simp [kds, kd1] at hx
        cases vy <;> simp [kds, kd1] at hy
        simp only [eq1, Option.some.injEq] at he
        subst he
        exact run_equalIn_bool' w d t _ _ hu
      · rename_i hu
        have hf : ∀ x, aggOf P t = some x → x = false := fun x hx => by unfold aggOf at hx; rw [hu] at hx; simpa using hx.symm
        obtain rfl := scal hu hvx hf
        obtain rfl := scal hu hvy hf
        obtain rfl := Option.some.inj h
        simp only [eqLv] at he
        cases vx <;> simp [kds, kd1] at hx
        cases vy <;> simp [kds, kd1] at hy
        simp only [eq1, Option.some.injEq] at he
        subst he
        rename_i a b
        rw [run_equalIn_string w d t a b hu, beq_toListBytes]
      · rename_i fs hu
        split at h
        · cases h
        · rename_i hs
          have hag : aggOf P t = some true := by unfold aggOf; rw [hu]
          have vagg : ∀ {xs v}, ValOf P t xs v → v = .agg xs.toArray := fun hv => by
            rcases hv with ⟨_, h2⟩ | ⟨h1, _⟩
            · exact h2
            · rw [hag] at h1; cases h1
          rw [vagg hvx, vagg hvy]
          have hfo : P.fieldsOf t = fs := by unfold Program.fieldsOf; rw [hu]
          rw [run_equalIn_struct w d t _ _ (by rw [hfo]; exact hu) hs, hfo]
          exact ih2 fs.toList 0 ls h xs ys r (by simpa using hx) (by simpa using hy) (by simpa using he) d (by omega) w
      · rename_i len e hu
        split at h
        · rename_i l sz hl hsz
          split at h
          · rename_i hb
            have hlen := Nat.eq_of_beq_eq_true hb
            have hls := Option.some.inj h
            have hag : aggOf P t = some true := by unfold aggOf; rw [hu]
            have vagg : ∀ {xs v}, ValOf P t xs v → v = .agg xs.toArray := fun hv => by
              rcases hv with ⟨_, h2⟩ | ⟨h1, _⟩
              · exact h2
              · rw [hag] at h1; cases h1
            rw [vagg hvx, vagg hvy]
            obtain ⟨i, hi⟩ : ∃ i, P.info? e = some i := by
              unfold szOf at hsz
              cases hi : P.info? e with
              | none => rw [hi] at hsz; cases hsz
              | some i => exact ⟨i, rfl⟩
            have hc : P.cellsOf e = sz := by
              unfold szOf at hsz; rw [hi] at hsz
              unfold Program.cellsOf; rw [hi]; simpa using hsz
            rw [run_equalIn_array w d _ _ hu hi, hc]
            obtain ⟨hna, hone⟩ := lfs_agg hl
            have key : ∀ (m j : Nat) r, kds (xs.drop (j * sz)) = (List.replicate m l).flatten → kds (ys.drop (j * sz)) = (List.replicate m l).flatten → eqLv (xs.drop (j * sz)) (ys.drop (j * sz)) = some r →
                (Op.eqItems d e sz xs.toArray ys.toArray (List.range' j m)).run P w = .ok r w := by
              intro m
              induction m with
              | zero =>
                intro j r h1 h2 h3
                have e1 : xs.drop (j * sz) = [] := List.eq_nil_of_length_eq_zero (by rw [← kds_length, h1]; rfl)
                have e2 : ys.drop (j * sz) = [] := List.eq_nil_of_length_eq_zero (by rw [← kds_length, h2]; rfl)
                rw [e1, e2] at h3
                simp [eqLv] at h3
                subst h3
                rfl
              | succ m ihm =>
                intro j r h1 h2 h3
                have hX : (xs.drop (j * sz)).length = sz + (List.replicate m l).flatten.length := by rw [← kds_length, h1, List.replicate_succ, List.flatten_cons, List.length_append, hlen]
                have hY : (ys.drop (j * sz)).length = sz + (List.replicate m l).flatten.length := by rw [← kds_length, h2, List.replicate_succ, List.flatten_cons, List.length_append, hlen]
                obtain ⟨r1, r2, g1, g2, rfl⟩ := eqLv_split sz _ _ r h3 (by omega)
                obtain ⟨v1, p1, q1⟩ := run_part (P := P) (t := e) (n := sz) (o := j * sz) (X := xs) (w := w) hsz hna (fun h => by rw [hlen]; exact hone h) (by omega)
                obtain ⟨v2, p2, q2⟩ := run_part (P := P) (t := e) (n := sz) (o := j * sz) (X := ys) (w := w) hsz hna (fun h => by rw [hlen]; exact hone h) (by omega)
                have kl : ∀ Z : List Value, kds Z = (List.replicate (m + 1) l).flatten → kds (Z.take sz) = l ∧ kds (Z.drop sz) = (List.replicate m l).flatten := fun Z hz => by
                  rw [List.replicate_succ, List.flatten_cons] at hz
                  refine ⟨by rw [kds_take, hz, hlen, List.take_left], by rw [kds_drop, hz, hlen, List.drop_left]⟩
                have hr := ih1 e l hl _ _ r1 (kl _ h1).1 (kl _ h2).1 g1 d (by omega) w v1 v2 q1 q2
                simp only [List.range'_succ, Op.eqItems, Sem.run_bind, p1, p2, hr, Result.andThen_ok]
                cases r1 with
                | false => simp
                | true =>
                  simp only [Bool.not_true, Bool.false_eq_true, if_false, Bool.true_and]
                  refine ihm (j + 1) r2 ?_ ?_ ?_
                  · rw [Nat.add_mul, Nat.one_mul, ← List.drop_drop]; exact (kl _ h1).2
                  · rw [Nat.add_mul, Nat.one_mul, ← List.drop_drop]; exact (kl _ h2).2
                  · rw [Nat.add_mul, Nat.one_mul, ← List.drop_drop, ← List.drop_drop]; exact g2
            rw [List.range_eq_range']
            exact key len 0 r (by simpa using hx.trans hls.symm) (by simpa using hy.trans hls.symm) (by simpa using he)
          · cases h
        · cases h
      · cases h
    · intro fs off ls h X Y r hx hy he d hd w
      unfold lfsF at h
      cases fs with
      | nil =>
        obtain rfl := Option.some.inj h
        have e1 : X.drop off = [] := List.eq_nil_of_length_eq_zero (by rw [← kds_length, hx]; rfl)
        have e2 : Y.drop off = [] := List.eq_nil_of_length_eq_zero (by rw [← kds_length, hy]; rfl)
        rw [e1, e2] at he
        simp [eqLv] at he
        subst he
        rfl
      | cons f fs =>
        dsimp only at h
        split at h
        · rename_i ks sz hname hoff hl hsz
          have hoff := Nat.eq_of_beq_eq_true hoff
          have hname : f.name ≠ "_" := of_decide_eq_false hname
          split at h
          · rename_i hb
            have hlen := Nat.eq_of_beq_eq_true hb
            split at h
            · rename_i rr hrr
              obtain rfl := Option.some.inj h
              obtain ⟨hna, hone⟩ := lfs_agg hl
              have hX : (X.drop off).length = sz + rr.length := by rw [← kds_length, hx, List.length_append, hlen]
              have hY : (Y.drop off).length = sz + rr.length := by rw [← kds_length, hy, List.length_append, hlen]
              cases n with
              | zero => simp [lfs] at hl
              | succ n' =>
              obtain ⟨r1, r2, g1, g2, rfl⟩ := eqLv_split sz _ _ r he (by omega)
              obtain ⟨v1, p1, q1⟩ := run_part (P := P) (t := f.type) (n := sz) (o := off) (X := X) (w := w) hsz hna (fun h => by rw [hlen]; exact hone h) (by omega)
              obtain ⟨v2, p2, q2⟩ := run_part (P := P) (t := f.type) (n := sz) (o := off) (X := Y) (w := w) hsz hna (fun h => by rw [hlen]; exact hone h) (by omega)
              have kl : ∀ Z : List Value, kds Z = ks ++ rr → kds (Z.take sz) = ks ∧ kds (Z.drop sz) = rr := fun Z hz =>
                ⟨by rw [kds_take, hz, hlen, List.take_left], by rw [kds_drop, hz, hlen, List.drop_left]⟩
              have hr := ih1 f.type ks hl _ _ r1 (kl _ hx).1 (kl _ hy).1 g1 d (by omega) w v1 v2 q1 q2
              unfold Op.eqFields
              rw [if_pos hname, hoff]
              simp only [Sem.run_bind, p1, p2, hr, Result.andThen_ok]
              cases r1 with
              | false => simp
              | true =>
                simp only [Bool.not_true, Bool.false_eq_true, if_false, Bool.true_and]
                refine ih2 fs (off + sz) rr hrr X Y r2 ?_ ?_ ?_ d (by omega) w
                · rw [← List.drop_drop]; exact (kl _ hx).2
                · rw [← List.drop_drop]; exact (kl _ hy).2
                · rw [← List.drop_drop, ← List.drop_drop]; exact g2
            · cases h
          · cases h
        · cases h

end
end Go.Eng
