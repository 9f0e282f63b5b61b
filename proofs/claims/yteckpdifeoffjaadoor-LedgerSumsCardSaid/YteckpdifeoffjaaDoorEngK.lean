/- The engine, part K: append. -/
import Derived.Test.YteckpdifeoffjaaDoorEngJ
set_option linter.unusedVariables false
namespace Go.Eng

theorem flatF_mem {α : Type} {f : α → List SV} {s : SV} : ∀ {l : List α}, s ∈ flatF f l → ∃ a, a ∈ l ∧ s ∈ f a
  | [], h => by cases h
  | a :: l, h => by
    rcases List.mem_append.1 h with h | h
    · exact ⟨a, List.mem_cons_self .., h⟩
    · obtain ⟨b, h1, h2⟩ := flatF_mem h
      exact ⟨b, List.mem_cons_of_mem _ h1, h2⟩

theorem enc_scal : ∀ (t : Ty) (x : t.den) (s : SV), s ∈ enc t x → scalB s = true
  | .int k, x, s, h => by obtain rfl := List.mem_singleton.1 h; rfl
  | .bool, x, s, h => by obtain rfl := List.mem_singleton.1 h; rfl
  | .str, x, s, h => by obtain rfl := List.mem_singleton.1 h; rfl
  | .unit, x, s, h => by cases h
  | .sl t, x, s, h => by obtain rfl := List.mem_singleton.1 h; rfl
  | .pair a b, x, s, h => by
    rcases List.mem_append.1 h with h | h
    · exact enc_scal a _ s h
    · exact enc_scal b _ s h
  | .arr n t, f, s, h => by
    obtain ⟨i, _, h2⟩ := flatF_mem h
    exact enc_scal t _ s h2

theorem CellsAre.append {E : Env} {w : World} {a b : List SV} {l m : List Value} (h : CellsAre E w a l) (k : CellsAre E w b m) : CellsAre E w (a ++ b) (l ++ m) := by
  refine ⟨by simp [h.1, k.1], fun j s hj => ?_⟩
  rcases Nat.lt_or_ge j a.length with hlt | hge
  · rw [List.getElem?_append_left hlt] at hj
    rw [List.getElem?_append_left (by rw [h.1]; exact hlt)]
    exact h.2 j s hj
  · rw [List.getElem?_append_right hge] at hj
    rw [List.getElem?_append_right (by rw [h.1]; exact hge), h.1]
    exact k.2 _ s hj

/-- A better spelling of cells. -/
def Spells (l l' : List SV) : Prop := ∀ (E : Env) (w : World) (vs : List Value), CellsAre E w l vs → CellsAre E w l' vs
theorem Spells.refl (l : List SV) : Spells l l := fun _ _ _ h => h
theorem Spells.trans {a b c : List SV} (h : Spells a b) (k : Spells b c) : Spells a c := fun E w vs x => k E w vs (h E w vs x)
theorem Spells.cons {s s' : SV} {l l' : List SV} (h : ∀ (E : Env) (w : World) (v : Value), Sat E w s v → Sat E w s' v) (k : Spells l l') : Spells (s :: l) (s' :: l') := fun E w vs hv => by
  cases vs with
  | nil => exact absurd hv.1 (by simp)
  | cons v vs =>
    have hk := k E w vs ⟨by simpa using hv.1, fun j s hj => hv.2 (j + 1) s (by simpa using hj)⟩
    refine ⟨by simpa using hk.1, fun j t hj => ?_⟩
    cases j with
    | zero =>
      obtain rfl : s' = t := by simpa using hj
      obtain ⟨u, hu, hs⟩ := hv.2 0 s rfl
      exact ⟨u, by simpa using hu, h E w u hs⟩
    | succ j => simpa using hk.2 j t (by simpa using hj)
theorem Spells.app {a : List SV} {l l' : List SV} (k : Spells l l') : Spells (a ++ l) (a ++ l') := by
  induction a with
  | nil => exact k
  | cons s a ih => exact Spells.cons (fun _ _ _ h => h) ih

theorem dec_spec : ∀ (t : Ty) (l : List SV) (x : t.den) (r : List SV), dec t l = some (x, r) → Spells l (enc t x ++ r)
  | .int k, l, x, r, h => by
    cases l with
    | nil => simp [dec] at h
    | cons s l =>
      simp only [dec] at h
      split at h
      · rename_i k' n l2 heq
        split at h
        · rename_i hk
          obtain rfl := eqK_eq hk
          obtain ⟨rfl, rfl⟩ : n = x ∧ l2 = r := by simpa using h
          rw [heq]; exact .refl _
        · cases h
      · cases h
  | .bool, l, x, r, h => by
    cases l with
    | nil => simp [dec] at h
    | cons s l =>
      simp only [dec] at h
      split at h
      · rename_i n l2 heq
        obtain ⟨rfl, rfl⟩ : n = x ∧ l2 = r := by simpa using h
        rw [heq]; exact .refl _
      · cases h
  | .str, l, x, r, h => by
    cases l with
    | nil => simp [dec] at h
    | cons s l =>
      simp only [dec] at h
      split at h
      · rename_i n l2 heq
        obtain ⟨rfl, rfl⟩ : n = x ∧ l2 = r := by simpa using h
        rw [heq]; exact .refl _
      · cases h
  | .unit, l, x, r, h => by
    obtain ⟨_, rfl⟩ : True ∧ l = r := by simpa [dec] using h
    exact .refl _
  | .sl t, l, x, r, h => by
    cases l with
    | nil => simp [dec] at h
    | cons s l =>
      simp only [dec] at h
      split at h
      · rename_i t' xs l2 heq
        split at h
        · rename_i hh _
          obtain ⟨he⟩ := hh
          subst he
          obtain ⟨rfl, rfl⟩ : xs = x ∧ l2 = r := by simpa using h
          rw [heq]; exact .refl _
        · cases h
      · rename_i l2 heq
        obtain ⟨rfl, rfl⟩ : [] = x ∧ l2 = r := by simpa using h
        rw [heq]
        exact Spells.cons (fun E w v hv => by cases hv; exact .nil false t _ _) (.refl _)
      · cases h
  | .pair a b, l, x, r, h => by
    simp only [dec] at h
    split at h
    · rename_i y l1 h1
      split at h
      · rename_i z l2 h2
        obtain ⟨rfl, rfl⟩ : (y, z) = x ∧ l2 = r := by simpa using h
        have s1 := dec_spec a l y l1 h1
        have s2 := dec_spec b l1 z l2 h2
        have := s1.trans (Spells.app (a := enc a y) s2)
        simpa [enc] using this
      · cases h
    · cases h
  | .arr n t, l, x, r, h => by
    have key : ∀ (n : Nat) (l : List SV) (f : Fin n → t.den) (r : List SV), decA (dec t) n l = some (f, r) → Spells l (flatF (fun i => enc t (f i)) (idx n) ++ r) := by
      intro n
      induction n with
      | zero =>
        intro l f r h
        obtain ⟨_, rfl⟩ : True ∧ l = r := by
          simp only [decA, Option.some.injEq, Prod.mk.injEq] at h
          exact ⟨trivial, h.2⟩
        exact .refl _
      | succ n ih =>
        intro l f r h
        simp only [decA] at h
        split at h
        · rename_i y l1 h1
          split at h
          · rename_i g l2 h2
            obtain ⟨rfl, rfl⟩ : consF y g = f ∧ l2 = r := by simpa using h
            have s1 := dec_spec t l y l1 h1
            have s2 := ih l1 g l2 h2
            have := s1.trans (Spells.app (a := enc t y) s2)
            have e : flatF (fun i => enc t (consF y g i)) (idx (n + 1)) = enc t y ++ flatF (fun i => enc t (g i)) (idx n) := by
              have e2 : ∀ l : List (Fin n), flatF (fun i => enc t (consF y g i)) (l.map Fin.succ) = flatF (fun i => enc t (g i)) l := by
                intro l
                induction l with
                | nil => rfl
                | cons a l ih => simp only [List.map_cons, flatF, ih]; rfl
              simp only [idx, flatF, e2]
              rfl
            rw [e, List.append_assoc]
            exact this
          · cases h
        · cases h
    exact key n l x r h

theorem decL_spec (t : Ty) : ∀ (n : Nat) (l : List SV) (xs : List t.den), decL t n l = some xs → xs.length = n ∧ Spells l (flatF (enc t) xs)
  | 0, l, xs, h => by
    cases l with
    | nil =>
      obtain rfl : [] = xs := by simpa [decL] using h
      exact ⟨rfl, .refl _⟩
    | cons s l => simp [decL] at h
  | n + 1, l, xs, h => by
    simp only [decL] at h
    split at h
    · rename_i x l1 h1
      split at h
      · rename_i ys h2
        obtain rfl : x :: ys = xs := by simpa using h
        obtain ⟨a1, a2⟩ := decL_spec t n l1 ys h2
        exact ⟨by simp [a1], (dec_spec t l x l1 h1).trans (Spells.app a2)⟩
      · cases h
    · cases h

section
variable {r : Option Nat} {P : Program} {G : Nat → Option Ctr} {o : Oper} {T : Tm} {M : En} {lo : Nat} {Kp : SV → List Nat → Prop} {Kg : SV → List Nat → List Nat → En → Prop}

theorem firstCells_some {k o : Nat} {size n c : Nat} {u : Nat → Value} {w : World} (h : ∀ m, m < n * size → w.cell? ⟨k, o + m, none⟩ = some (u m)) :
    ∃ vs, (∀ w', w'.heap = w.heap → (Builtin.firstCells size n (.slice (some ⟨k, o, none⟩) n c)).run P w' = .ok vs w') ∧ vs.toList = (List.range (n * size)).map u := by
  refine ⟨((List.range (n * size)).map u).toArray, fun w' hw => ?_, by simp⟩
  obtain ⟨vs, h1, h2, _, h4⟩ := run_loadCellsFrom (P := P) (w := w') (k := k) (o := o) (u := u) (n * size) 0 #[] (fun j hj => by
    have := h j hj
    unfold World.cell? at this ⊢
    rw [hw]; simpa using this)
  have e : vs = ((List.range (n * size)).map u).toArray := by
    refine Array.toList_inj.1 (List.ext_getElem? fun j => ?_)
    by_cases hj : j < n * size
    · have := h4 j hj
      simp only [List.size_toArray, List.length_nil, Nat.zero_add] at this
      rw [Array.getElem?_toList, this]
      simp [hj]
    · rw [List.getElem?_eq_none (by simp at h2 ⊢; omega), List.getElem?_eq_none (by simp; omega)]
  rw [← e]; exact h1

theorem range_cells {E : Env} {w : World} {cs : List SV} {u : Nat → Value} {n : Nat} (hn : cs.length = n) (h : ∀ (j : Nat) (s : SV), cs[j]? = some s → Sat E w s (u j)) : CellsAre E w cs ((List.range n).map u) :=
  ⟨by simp [hn], fun j s hj => ⟨u j, by
    have := (List.getElem?_eq_some_iff.1 hj).1
    have hlt : j < n := by omega
    simp [hlt], h j s hj⟩⟩

/-- What is appended lies there. -/
theorem srcV_spec {t : Ty} {x : SV} {K : List t.den → List Nat → Prop} (h : srcV M t x K) : ∃ ys S, K ys S ∧
    ∀ (E : Env) (fp : Nat → Nat → Prop) (w : World) (v : Value), (∀ i, i ∈ S → EntSat E w (fp i) i (find M i)) → Sat E w x v →
      ∃ a c cells, v = .slice a ys.length c ∧ (∀ w', w'.heap = w.heap → (Builtin.firstCells t.size ys.length v).run P w' = .ok cells w') ∧ CellsAre E w (flatF (enc t) ys) cells.toList := by
  have roCase : ∀ (E : Env) (w : World) (b : Bool) (ys : List t.den) (v : Value), Sat E w (.ro b t ys) v →
      ∃ a c cells, v = .slice a ys.length c ∧ (∀ w', w'.heap = w.heap → (Builtin.firstCells t.size ys.length v).run P w' = .ok cells w') ∧ CellsAre E w (flatF (enc t) ys) cells.toList := by
    intro E w b ys v hv
    cases hv with
    | nil _ _ A c =>
      cases A with
      | none => exact ⟨none, c, #[], rfl, fun _ _ => rfl, ⟨rfl, fun j s hj => by simp [flatF] at hj⟩⟩
      | some ad =>
        refine ⟨some ad, c, #[], rfl, fun w' _ => ?_, ⟨rfl, fun j s hj => by simp [flatF] at hj⟩⟩
        show (loadCells ad (0 * t.size)).run P w' = _
        rw [Nat.zero_mul]; rfl
    | ro _ _ _ k1 o1 c1 u hbk hle hc hs =>
      obtain ⟨vs, h1, h2⟩ := firstCells_some (P := P) (k := k1) (o := o1) (size := t.size) (n := ys.length) (c := c1) (u := u) (w := w) hc
      refine ⟨_, _, vs, rfl, h1, ?_⟩
      rw [h2]
      refine range_cells (by rw [flatF_length _ t.size (enc_length t)]) (fun j s hj => ?_)
      have hlt := (List.getElem?_eq_some_iff.1 hj).1
      rw [flatF_length _ t.size (enc_length t)] at hlt
      rcases Nat.eq_zero_or_pos t.size with hz | hpos
      · rw [hz] at hlt; omega
      · have hi : j / t.size < ys.length := (Nat.div_lt_iff_lt_mul hpos).2 hlt
        have hj2 : j = (j / t.size) * t.size + j % t.size := by rw [Nat.mul_comm]; exact (Nat.div_add_mod j t.size).symm
        have hm : j % t.size < t.size := Nat.mod_lt _ hpos
        have hg := flatF_get (enc t) t.size (enc_length t) ys (j / t.size) (j % t.size) ys[j / t.size] (by simp [hi]) hm
        rw [← hj2, hj] at hg
        have := hs (j / t.size) ys[j / t.size] (j % t.size) s (by simp [hi]) hg.symm
        rw [← hj2] at this
        exact this
  unfold srcV at h
  split at h
  · rename_i j o n c
    split at h
    · rename_i hble
      split at h
      · rename_i te cs hf
        split at h
        · rename_i l hcut
          split at h
          · rename_i ys hdec
            obtain ⟨d1, d2⟩ := decL_spec t n l ys hdec
            refine ⟨ys, [j], h, fun E fp w v hent hv => ?_⟩
            have he := hent j (List.mem_singleton.2 rfl)
            rw [hf] at he
            obtain ⟨s', arr, fz, e1, e2, e3, e4, e5, e6⟩ := he
            obtain ⟨c1, c2⟩ := cutS_spec cs o _ l hcut
            cases hv with
            | slc _ _ _ _ s hs =>
              obtain rfl := Option.some.inj (hs.symm.trans e1)
              subst d1
              have hsub : ∀ m, m < ys.length * t.size → ∃ u, arr[o + m]? = some u ∧ ∃ sv, l[m]? = some sv ∧ Sat E w sv u := fun m hm => by
                have h1 := c2 m hm
                have hlt : m < l.length := by omega
                rw [show l[m]? = some l[m] by simp [hlt]] at h1
                obtain ⟨u, hu, hsat⟩ := e6 _ _ h1
                exact ⟨u, hu, l[m], by simp [hlt], hsat⟩
              obtain ⟨vs, h1, h2⟩ := firstCells_some (P := P) (k := s.blk) (o := o) (size := t.size) (n := ys.length) (c := c) (u := fun m => arr.getD (o + m) undef) (w := w) (fun m hm => by
                obtain ⟨u, hu, _⟩ := hsub m hm
                rw [cell_of e3 hu]; simp [hu])
              refine ⟨_, _, vs, rfl, h1, ?_⟩
              rw [h2]
              refine d2 E w _ (range_cells c1 (fun m sv hm => ?_))
              have hlt := (List.getElem?_eq_some_iff.1 hm).1
              obtain ⟨u, hu, sv', g1, g2⟩ := hsub m (by omega)
              obtain rfl := Option.some.inj (hm.symm.trans g1)
              have : arr.getD (o + m) undef = u := by simp [hu]
              rw [this]; exact g2
          · exact h.elim
        · exact h.elim
      · exact h.elim
    · exact h.elim
  · rename_i b t' ys
    split at h
    · rename_i hh _
      obtain ⟨he⟩ := hh
      subst he
      exact ⟨_, [], h, fun E fp w v _ hv => roCase E w _ _ v hv⟩
    · exact h.elim
  · rename_i j
    split at h
    · rename_i te t' ys hf
      split at h
      · rename_i hh _
        obtain ⟨he⟩ := hh
        subst he
        refine ⟨_, [j], h, fun E fp w v hent hv => ?_⟩
        have he := hent j (List.mem_singleton.2 rfl)
        rw [hf] at he
        cases hv with
        | sl _ s hs =>
          have := row_ro (fp := fp) (m := []) (bs := [j]) (fs := []) (b := true) he hs (by simp)
          obtain ⟨a, c, cells, q1, q2, q3⟩ := roCase _ w true ys _ this
          refine ⟨a, c, cells, q1, q2, ⟨q3.1, fun k sv hk => ?_⟩⟩
          -- the cells' own names do not matter: data
          obtain ⟨s', g0, g⟩ := he
          obtain rfl := Option.some.inj (hs.symm.trans g0)
          have hlt := (List.getElem?_eq_some_iff.1 hk).1
          rw [flatF_length _ t'.size (enc_length t')] at hlt
          rcases g with ⟨_, gx, _⟩ | ⟨o2, c2, arr, fz, g1, g2, g3, g4, g5, g6, g7⟩
          · subst gx; simp at hlt
          · rcases Nat.eq_zero_or_pos t'.size with hz | hpos
            · rw [hz] at hlt; omega
            · have hi : k / t'.size < ys.length := (Nat.div_lt_iff_lt_mul hpos).2 hlt
              have hj2 : k = (k / t'.size) * t'.size + k % t'.size := by rw [Nat.mul_comm]; exact (Nat.div_add_mod k t'.size).symm
              have hm : k % t'.size < t'.size := Nat.mod_lt _ hpos
              have hg := flatF_get (enc t') t'.size (enc_length t') ys (k / t'.size) (k % t'.size) ys[k / t'.size] (by simp [hi]) hm
              rw [← hj2, hk] at hg
              obtain ⟨u, hu, hsat⟩ := g7 (k / t'.size) ys[k / t'.size] (k % t'.size) sv (by simp [hi]) hg.symm
              -- and it is that cell that was loaded
              have q2 := q2 w rfl
              rw [g1] at q2
              obtain ⟨vs, h1, h2⟩ := firstCells_some (P := P) (k := s.blk) (o := o2) (size := t'.size) (n := ys.length) (c := c2) (u := fun m => arr.getD (o2 + m) undef) (w := w) (fun m hm' => by
                have hle : ys.length * t'.size ≤ c2 * t'.size := Nat.mul_le_mul_right _ g5
                have hlt' : o2 + m < arr.size := by omega
                simp [World.cell?, g3, hlt'])
              rw [h1 w rfl] at q2
              obtain rfl : vs = cells := by simpa using q2
              refine ⟨u, ?_, hsat⟩
              rw [h2]
              have : arr[o2 + k]?.getD undef = u := by
                rw [Nat.add_assoc, ← hj2] at hu
                simp [hu]
              simp [hlt, this]
      · exact h.elim
    · exact h.elim
  · refine ⟨[], [], h, fun E fp w v _ hv => ?_⟩
    cases hv
    exact ⟨none, 0, #[], rfl, fun _ _ => rfl, ⟨rfl, fun j s hj => by simp [flatF] at hj⟩⟩
  · exact h.elim

end
end Go.Eng
