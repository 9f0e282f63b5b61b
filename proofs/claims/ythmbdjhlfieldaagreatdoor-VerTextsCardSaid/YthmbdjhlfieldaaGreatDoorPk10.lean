/- Parts of the proof, one behind the other (Lend, VerE, DotK, MisA, TxtF, TxtG, GetB, GetC, FstA, VerF, VerG, VerH, HexA). -/
import Derived.Test.YthmbdjhlfieldaaGreatDoorPk9
set_option linter.unusedVariables false
set_option linter.unusedSimpArgs false
set_option linter.unusedSectionVars false
set_option linter.unusedVariables false
set_option linter.unusedSimpArgs false
set_option linter.unusedSectionVars false
namespace Go.Proofs.YthmbdjhlfieldaaGreatDoor
open Go.Eng
variable [DM]
/-- All that is lent is taken for what is only read. -/
def envIB (E : Env) : Env := { E with I := fun b => E.I b ∨ E.B b }
theorem le_envIB (E : Env) : E.le (envIB E) := ⟨fun _ _ h => h, fun _ h => .inl h, fun _ h => h⟩
theorem ro_lend {E : Env} {w : World} {t : Ty} {xs : List t.den} {v : Value} (h : Sat E w (.ro true t xs) v) : Sat (envIB E) w (.ro false t xs) v := by
  cases h with
  | nil _ _ A c => exact .nil _ _ A c
  | ro _ _ _ k o c u hb hle' hc hs => exact .ro false t xs k o c u (.inl (hb.imp id And.right)) hle' hc (fun i x j sv hi hj => (hs i x j sv hi hj).mono (le_envIB E) (fun _ _ _ => rfl))
/-- What a caller need not freeze. -/
inductive Lends : SV → SV → Prop where
  | ro (t : Ty) (xs : List t.den) : Lends (.ro true t xs) (.ro false t xs)
  | same (s : SV) : Lends s s
  | agg (l' l : List SV) (hl : l'.length = l.length) (h : ∀ (j : Nat) (s' s : SV), l'[j]? = some s' → l[j]? = some s → Lends s' s) : Lends (.agg l') (.agg l)
theorem Lends.sat {s' s : SV} (h : Lends s' s) {E : Env} {w : World} : ∀ {v : Value}, Sat E w s' v → Sat (envIB E) w s v := by
  induction h with
  | ro t xs => intro v hs; exact ro_lend hs
  | same s => intro v hs; exact hs.mono (le_envIB E) (fun _ _ _ => rfl)
  | agg l' l hl h ih =>
    intro v hv
    cases hv with
    | agg _ vs u h1 h2 h3 =>
      refine .agg l vs u (h1.trans hl) (fun j hj => h2 j (by omega)) (fun j sv hj => ?_)
      have hlt := (List.getElem?_eq_some_iff.1 hj).1
      have e := List.getElem?_eq_getElem (l := l') (i := j) (by omega)
      exact ih j _ sv e hj (h3 j _ e)
inductive LendL : List SV → List SV → Prop where
  | nil : LendL [] []
  | cons {s' s : SV} {l' l : List SV} (h : Lends s' s) (k : LendL l' l) : LendL (s' :: l') (s :: l)
theorem LendL.len {l' l : List SV} (h : LendL l' l) : l'.length = l.length := by
  induction h with
  | nil => rfl
  | cons _ _ ih => simp [ih]
theorem LendL.at {l' l : List SV} (h : LendL l' l) : ∀ (j : Nat) (s' s : SV), l'[j]? = some s' → l[j]? = some s → Lends s' s := by
  induction h with
  | nil => intro j s' s h; simp at h
  | cons h _ ih =>
    intro j s' s h1 h2
    cases j with
    | zero =>
      obtain rfl := Option.some.inj h1
      obtain rfl := Option.some.inj h2
      exact h
    | succ j => exact ih j s' s h1 h2
theorem Lends.aggL {l' l : List SV} (h : LendL l' l) : Lends (.agg l') (.agg l) := .agg l' l h.len h.at
theorem LendL.all {l' l : List SV} (h : LendL l' l) : l'.length = l.length ∧ ∀ (j : Nat) (s' : SV), l'[j]? = some s' → ∃ s, l[j]? = some s ∧ Lends s' s :=
  ⟨h.len, fun j s' hj => by
    have hlt := (List.getElem?_eq_some_iff.1 hj).1
    have e := List.getElem?_eq_getElem (l := l) (i := j) (by rw [← h.len]; exact hlt)
    exact ⟨_, e, h.at j s' _ hj e⟩⟩
/-- Results that lean on nothing. -/
inductive Plain1 : SV → Prop where
  | v (x : Value) : Plain1 (.v x)
  | sl (i : Nat) : Plain1 (.sl i)
  | agg (l : List SV) (h : ∀ (j : Nat) (s : SV), l[j]? = some s → ∃ u, s = .v u) : Plain1 (.agg l)
theorem ctr_lend {P : Program} {f : FuncId} {C : Ctr} {args' : C.X → List SV} (hrw : ∀ x, C.rw x = [])
    (hout : ∀ x, ∀ id, find (C.out x (C.val x)) id = .gone ∨ ∃ te t xs, find (C.out x (C.val x)) id = .row te t xs ∧ ∀ (y : t.den) (j : Nat) (sv : SV), (enc t y)[j]? = some sv → ∃ u, sv = .v u)
    (hres : ∀ x, Plain1 (C.res x (C.val x)))
    (hargs : ∀ x, (args' x).length = (C.args x).length ∧ ∀ (j : Nat) (s' : SV), (args' x)[j]? = some s' → ∃ s, (C.args x)[j]? = some s ∧ Lends s' s)
    (h : C.ok P f) : ({ C with args := args' } : Ctr).ok P f := by
  intro x hs
  obtain ⟨he, H⟩ := h x hs
  refine ⟨he, fun E fp vals w h1 h2 h3 h4 => ?_⟩
  have h3 : EntsSat E w fp (C.rw x) := h3
  rw [hrw x] at h3
  have hfp : ∀ id b, ¬ fp id b := fun id b hf => h3.sat id b hf
  have hE3 : EntsSat (envIB E) w fp (C.rw x) := by
    rw [hrw x]
    exact ⟨fun id => fun b hb => hfp id b hb, fun id b hb => (hfp id b hb).elim, fun id b hb => (hfp id b hb).elim, fun id b hb => (hfp id b hb).elim, fun i j b _ hb => (hfp i b hb).elim,
      fun b hb => h3.Ilt b (by rcases hb with (hb | hb) | hb; exact .inl hb; exact .inr hb; exact .inr hb), h3.nil.mono (le_envIB E), h3.gl.mono (fun b hb => .inl hb) (fun _ _ => rfl)⟩
  refine CallsIn.mono (H (envIB E) fp vals w (h1.trans (hargs x).1) (fun j s hj => ?_) hE3 h4) ?_
  · have hj' : j < (args' x).length := by rw [(hargs x).1]; exact (List.getElem?_eq_some_iff.1 hj).1
    obtain ⟨s2, e2, l2⟩ := (hargs x).2 j _ (List.getElem?_eq_getElem hj')
    obtain rfl : s2 = s := Option.some.inj (e2.symm.trans hj)
    exact l2.sat (h2 j _ (List.getElem?_eq_getElem hj'))
  · rintro e w' ⟨v, E', fp', rfl, hv, hents, hadv, hn⟩
    let E2 : Env := { E' with I := fun b => E.I b ∨ (E'.I b ∧ w.heap.size ≤ b) }
    have hIE : ∀ b, E2.I b → E'.I b := fun b hb => hb.elim (fun h => hadv.le.I b (.inl h)) And.left
    refine ⟨v, E2, fp', rfl, ?_, ⟨fun id => ?_, hents.lt, fun id b hb hI => hents.I id b hb (hIE b hI), hents.B, hents.apart, fun b hb => hents.Ilt b (hb.imp (hIE b) id), hents.nil, ?_⟩,
      ⟨hadv.keep, ⟨hadv.le.slot, fun b hb => .inl hb, hadv.le.B⟩, fun b hb => hb.imp id (fun h => .inr h.2), hadv.Beq, hadv.onew⟩, hn⟩
    · have hp := hres x
      generalize C.res x (C.val x) = r at hv hp
      cases hp with
      | v y => cases hv; exact .v _
      | sl i => cases hv with | sl _ s hs => exact .sl i s hs
      | agg l h =>
        cases hv with
        | agg _ vs u h1 h2 h3 =>
          refine .agg l vs u h1 h2 (fun j sv hj => ?_)
          obtain ⟨y, rfl⟩ := h j sv hj
          have := h3 j _ hj
          cases this
          exact .v _
    · have hsat := hents.sat id
      show EntSat E2 w' (fp' id) id (find (C.out x (C.val x)) id)
      rcases hout x id with hg | ⟨te, t, xs, hr, hpl⟩
      · rw [hg] at hsat ⊢; exact hsat
      · rw [hr] at hsat ⊢
        obtain ⟨s, k1, k2⟩ := hsat
        refine ⟨s, k1, ?_⟩
        rcases k2 with k2 | ⟨o, c, arr, fz, g1, g2, g3, g4, g5, g6, g7⟩
        · exact .inl k2
        · refine .inr ⟨o, c, arr, fz, g1, g2, g3, g4, g5, g6, fun i y j sv hi hj => ?_⟩
          obtain ⟨u, hu, hsu⟩ := g7 i y j sv hi hj
          obtain ⟨q, rfl⟩ := hpl y j sv hj
          cases hsu
          exact ⟨_, hu, .v _⟩
    · exact h3.gl.mono (fun b hb => .inl hb) (fun b hb => (h3.stays hadv.keep) b (.inl hb) (h3.Ilt b (.inl hb)))
end Go.Proofs.YthmbdjhlfieldaaGreatDoor

set_option linter.unusedVariables false
set_option linter.unusedSimpArgs false
set_option maxRecDepth 100000
set_option maxHeartbeats 4000000
namespace Go.Proofs.YthmbdjhlfieldaaGreatDoor
open Go.Eng
theorem lend_item (x : Item) : Lends (itemV x) (itemA x) := .aggL (.cons (.same _) (.cons (.same _) (.cons (.same _) (.cons (.ro _ _) (.cons (.same _) (.cons (.ro _ _) .nil))))))
@[reducible] def irightV : Ctr := { irightC with args := fun x => [itemV x] }
@[reducible] def irightU : Ctr := { irightC with args := fun x => [itemV x], Y := Unit, val := fun _ => (), ens := fun _ _ => True, res := fun x _ => .v (.bool (itemB x)), out := fun _ _ => [] }
theorem iright_re {f : FuncId} (h : irightC.ok Tryz.prog f) : irightU.ok Tryz.prog f :=
  ctr_re (C := irightV) (fun x => x) (fun x h => ⟨h, trivial, rfl, rfl, rfl, rfl⟩) (ctr_lend (C := irightC) (fun _ => rfl) (fun x id => .inl rfl) (fun _ => .v _) (fun x => (LendL.cons (lend_item x) .nil).all) h)
theorem byte_find (n : Nat) (te : TypeId) (xs : List Int) (id : Nat) : find [(n, .row te (.int .u8) xs)] id = .gone ∨ ∃ te' t ys, find [(n, .row te (.int .u8) xs)] id = .row te' t ys ∧ ∀ (y : t.den) (j : Nat) (sv : SV), (enc t y)[j]? = some sv → ∃ u, sv = .v u := by
  by_cases h : n = id
  · subst h
    exact .inr ⟨te, .int .u8, xs, by simp [find], fun y j sv h => by
      match j, h with
      | 0, h => exact ⟨_, (Option.some.inj h).symm⟩⟩
  · left
    have hb : Nat.beq n id = false := by rw [← Bool.not_eq_true, Nat.beq_eq]; exact h
    simp [find, hb]
@[reducible] def ibytesV : Ctr := { ibytesC with args := fun x => [itemV x] }
theorem ibytesV_ok : ibytesV.ok Tryz.prog 16 := ctr_lend (C := ibytesC) (fun _ => rfl) (fun x id => byte_find 1000 _ _ id) (fun _ => .sl _) (fun x => (LendL.cons (lend_item x) .nil).all) ibytes_ok
theorem plain_mk (f : Nat → Int) : Plain1 (.agg (mk16 f)) := .agg _ (fun j s h => by
  match j, h with
  | 0, h => exact ⟨_, (Option.some.inj h).symm⟩
  | 1, h => exact ⟨_, (Option.some.inj h).symm⟩
  | 2, h => exact ⟨_, (Option.some.inj h).symm⟩
  | 3, h => exact ⟨_, (Option.some.inj h).symm⟩
  | 4, h => exact ⟨_, (Option.some.inj h).symm⟩
  | 5, h => exact ⟨_, (Option.some.inj h).symm⟩
  | 6, h => exact ⟨_, (Option.some.inj h).symm⟩
  | 7, h => exact ⟨_, (Option.some.inj h).symm⟩
  | 8, h => exact ⟨_, (Option.some.inj h).symm⟩
  | 9, h => exact ⟨_, (Option.some.inj h).symm⟩
  | 10, h => exact ⟨_, (Option.some.inj h).symm⟩
  | 11, h => exact ⟨_, (Option.some.inj h).symm⟩
  | 12, h => exact ⟨_, (Option.some.inj h).symm⟩
  | 13, h => exact ⟨_, (Option.some.inj h).symm⟩
  | 14, h => exact ⟨_, (Option.some.inj h).symm⟩
  | 15, h => exact ⟨_, (Option.some.inj h).symm⟩)
@[reducible] def imarkV : Ctr := { imarkC with args := fun x => [itemV x] }
theorem imarkV_ok : imarkV.ok Tryz.prog 24 := ctr_lend (C := imarkC) (fun _ => rfl) (fun x id => .inl rfl) (fun x => plain_mk _) (fun x => (LendL.cons (lend_item x) .nil).all) imark_ok
def aboveI (a b : Item) : Bool := decide (a.1 = b.1) && (itemB a && (itemB b && hasB a.2.2.1 b.2.1))
@[reducible] def iaboveC : Ctr := {
  X := Item × Item
  Y := Unit
  args := fun x => [itemV x.1, itemV x.2]
  rw := fun _ => []
  side := fun x => itemZ x.1 ∧ itemZ x.2
  val := fun _ => ()
  ens := fun _ _ => True
  res := fun x _ => .v (.bool (aboveI x.1 x.2))
  out := fun _ _ => [] }
theorem knownAb : Known Tryz.prog (gOf [(14, irightU), (54, dhasC), (19, irightU), (64, dhasC)]) :=
  known_cons ⟨iright_re iright_ok, Tryz.call14⟩ (known_cons ⟨dhas_ok, Tryz.call54⟩ (known_cons ⟨iright_re riright_ok, Tryz.call19⟩ (known_cons ⟨rdhas_ok, Tryz.call64⟩ (known_nil _))))
theorem above_eq (a b : Item) : aboveI a b = (decide (a.1 = b.1) && (itemB a && (itemB b && hasB a.2.2.1 b.2.1))) := rfl
theorem iabove_ok : iaboveC.ok Tryz.prog 17 := by
  refine ok_of_vc (An := fun _ => anOf []) knownAb mo Tryz.func17 (by kernel_rfl) (by kernel_rfl) (fun _ _ => trivial) (fun (x : Item × Item) hs => ?_)
  obtain ⟨a, b⟩ := x
  have hA := above_eq a b
  have hk := str_beq a.1 b.1
  have hla : itemB a = true → a.2.2.1.length ≤ 274877906944 := fun h => by
    obtain ⟨k, ⟨m, n⟩, c, g, v⟩ := a
    have := (item_ok h).hl
    exact Nat.le_trans this (by omega)
  obtain ⟨⟨h1, h2⟩, ⟨h3, h4⟩⟩ := hs
  by_cases e1 : a.1 = b.1
  · rw [decide_eq_true e1] at hk hA
    rw [Bool.true_and] at hA
    cases e2 : itemB a with
    | false =>
      rw [e2, Bool.false_and] at hA
      obtain ⟨k, ⟨m, n⟩, c, g, v⟩ := a
      obtain ⟨k', ⟨m', n'⟩, c', g', v'⟩ := b
      have lm := And.intro hk e2
      have ck : Hc irightU (k, (m, n), c, g, v) True := .mk trivial
      exact G1
    | true =>
      rw [e2, Bool.true_and] at hA
      have hla := hla e2
      cases e3 : itemB b with
      | false =>
        rw [e3, Bool.false_and] at hA
        obtain ⟨k, ⟨m, n⟩, c, g, v⟩ := a
        obtain ⟨k', ⟨m', n'⟩, c', g', v'⟩ := b
        have lm := And.intro hk (And.intro e2 e3)
        have ck : Hc irightU (k, (m, n), c, g, v) (Hc irightU (k', (m', n'), c', g', v') True) := .mk (.mk trivial)
        exact G1
      | true =>
        rw [e3, Bool.true_and] at hA
        obtain ⟨k, ⟨m, n⟩, c, g, v⟩ := a
        obtain ⟨k', ⟨m', n'⟩, c', g', v'⟩ := b
        have hla : c.length ≤ 274877906944 := hla
        have lm := And.intro hk (And.intro e2 e3)
        have ck : Hc irightU (k, (m, n), c, g, v) (Hc irightU (k', (m', n'), c', g', v') (Hc dhasC (c, (m', n')) True)) := .mk (.mk (.mk trivial))
        exact G1
  · rw [decide_eq_false e1] at hk hA
    rw [Bool.false_and] at hA
    obtain ⟨k, ⟨m, n⟩, c, g, v⟩ := a
    obtain ⟨k', ⟨m', n'⟩, c', g', v'⟩ := b
    have lm := hk
    exact G1
end Go.Proofs.YthmbdjhlfieldaaGreatDoor

set_option linter.unusedVariables false
set_option linter.unusedSimpArgs false
set_option linter.unusedSectionVars false
namespace Go.Proofs.YthmbdjhlfieldaaGreatDoor
open Go.Eng
variable [DM]
end Go.Proofs.YthmbdjhlfieldaaGreatDoor

set_option linter.unusedVariables false
set_option linter.unusedSimpArgs false
set_option maxRecDepth 100000
set_option maxHeartbeats 4000000
namespace Go.Proofs.YthmbdjhlfieldaaGreatDoor
open Go.Eng
def aboveF (a b : List Run) : Bool := decide (cmpF a b = 0) || decide (cmpF a b = 1)
end Go.Proofs.YthmbdjhlfieldaaGreatDoor

set_option linter.unusedVariables false
set_option linter.unusedSimpArgs false
set_option maxRecDepth 100000
namespace Go.Proofs.YthmbdjhlfieldaaGreatDoor
open Go.Eng
/-- A word as the reference reads it. -/
def refW2 (a : List Int) : List (List Int) → Option Run
  | [f] => if numOk a = true ∧ numOk f = true then some (numV a, numV f, numV f) else none
  | [f, t] => if (numOk a = true ∧ numOk f = true) ∧ numOk t = true ∧ numV t ≠ numV f then some (numV a, numV f, numV t) else none
  | _ => none
def refW1 : List (List Int) → Option Run
  | [a, b] => refW2 a (splitL 45 b)
  | _ => none
def refW (w : List Int) : Option Run := refW1 (splitL 58 w)
theorem refW_back {w : List Int} {r : Run} (h : refW w = some r) (hr : runP r) : runW r = w := by
  unfold refW at h
  obtain ⟨m, f', t'⟩ := r
  obtain ⟨q1, q2, q3, q4, q5⟩ : 0 ≤ m ∧ m ≤ 7 ∧ 1 ≤ f' ∧ f' ≤ t' ∧ t' ≤ 1099511627776 := hr
  rcases hs : splitL 58 w with _ | ⟨a, _ | ⟨b, _ | ⟨c, l⟩⟩⟩
  · rw [hs] at h; cases h
  · rw [hs] at h; cases h
  · rw [hs] at h
    have hw := split_two 58 w a b hs
    have h : refW2 a (splitL 45 b) = some (m, f', t') := h
    rcases hb : splitL 45 b with _ | ⟨f, _ | ⟨t, _ | ⟨c, l⟩⟩⟩
    · rw [hb] at h; cases h
    · rw [hb] at h
      have h : (if numOk a = true ∧ numOk f = true then some (numV a, numV f, numV f) else none) = some (m, f', t') := h
      by_cases hk : numOk a = true ∧ numOk f = true
      · rw [if_pos hk] at h
        obtain ⟨e1, e2, e3⟩ : numV a = m ∧ numV f = f' ∧ numV f = t' := by simpa using h
        have ha := num_canon hk.1
        have hf := num_canon hk.2
        have hbf := split_two.split_one 45 b f hb
        have hn : ¬ f' < t' := by omega
        show decL m.toNat ++ [58] ++ decL f'.toNat ++ (if f' < t' then [45] ++ decL t'.toNat else []) = w
        rw [if_neg hn, List.append_nil, ← e1, ← e2, ha.2, hf.2, hw, hbf]
      · rw [if_neg hk] at h; cases h
    · rw [hb] at h
      have h : (if (numOk a = true ∧ numOk f = true) ∧ numOk t = true ∧ numV t ≠ numV f then some (numV a, numV f, numV t) else none) = some (m, f', t') := h
      by_cases hk : (numOk a = true ∧ numOk f = true) ∧ numOk t = true ∧ numV t ≠ numV f
      · rw [if_pos hk] at h
        obtain ⟨e1, e2, e3⟩ : numV a = m ∧ numV f = f' ∧ numV t = t' := by simpa using h
        have ha := num_canon hk.1.1
        have hf := num_canon hk.1.2
        have ht := num_canon hk.2.1
        have hbf := split_two 45 b f t hb
        have hne := hk.2.2
        have hn : f' < t' := by omega
        show decL m.toNat ++ [58] ++ decL f'.toNat ++ (if f' < t' then [45] ++ decL t'.toNat else []) = w
        rw [if_pos hn, ← e1, ← e2, ← e3, ha.2, hf.2, ht.2, hw, hbf]
        simp only [List.append_assoc]
      · rw [if_neg hk] at h; cases h
    · rw [hb] at h; cases h
  · rw [hs] at h; cases h
theorem refW_of {r : Run} (h : runP r) : refW (runW r) = some r := by
  obtain ⟨m, f, t⟩ := r
  obtain ⟨q1, q2, q3, q4, q5⟩ : 0 ≤ m ∧ m ≤ 7 ∧ 1 ≤ f ∧ f ≤ t ∧ t ≤ 1099511627776 := h
  have om := numOk_dec (n := m.toNat) (by omega)
  have of := numOk_dec (n := f.toNat) (by omega)
  have ot := numOk_dec (n := t.toNat) (by omega)
  have vm := numV_dec m.toNat
  have vf := numV_dec f.toNat
  have vt := numV_dec t.toNat
  have e1 : runW (m, f, t) = decL m.toNat ++ 58 :: (decL f.toNat ++ (if f < t then [45] ++ decL t.toNat else [])) := by
    unfold runW; simp only [List.append_assoc, List.cons_append, List.nil_append]
  unfold refW
  by_cases hft : f < t
  · rw [if_pos hft] at e1
    have hfree : (58 : Int) ∉ decL f.toNat ++ ([45] ++ decL t.toNat) := by
      simp only [List.mem_append, List.mem_singleton, not_or]
      exact ⟨dec_free (by decide), by decide, dec_free (by decide)⟩
    rw [e1, splitL_app _ _ (dec_free (by decide)), splitL_free hfree]
    show refW2 _ (splitL 45 (decL f.toNat ++ 45 :: decL t.toNat)) = _
    rw [splitL_app _ _ (dec_free (by decide)), splitL_free (dec_free (by decide))]
    show (if (numOk (decL m.toNat) = true ∧ numOk (decL f.toNat) = true) ∧ numOk (decL t.toNat) = true ∧ numV (decL t.toNat) ≠ numV (decL f.toNat) then some (numV (decL m.toNat), numV (decL f.toNat), numV (decL t.toNat)) else none) = _
    rw [if_pos ⟨⟨om, of⟩, ot, by rw [vt, vf]; omega⟩, vm, vf, vt]
    congr 1
    have a1 : ((m.toNat : Nat) : Int) = m := by omega
    have a2 : ((f.toNat : Nat) : Int) = f := by omega
    have a3 : ((t.toNat : Nat) : Int) = t := by omega
    rw [a1, a2, a3]
  · rw [if_neg hft, List.append_nil] at e1
    rw [e1, splitL_app _ _ (dec_free (by decide)), splitL_free (dec_free (by decide))]
    show refW2 _ (splitL 45 (decL f.toNat)) = _
    rw [splitL_free (dec_free (by decide))]
    show (if numOk (decL m.toNat) = true ∧ numOk (decL f.toNat) = true then some (numV (decL m.toNat), numV (decL f.toNat), numV (decL f.toNat)) else none) = _
    rw [if_pos ⟨om, of⟩, vm, vf]
    congr 1
    have a1 : ((m.toNat : Nat) : Int) = m := by omega
    have a2 : ((f.toNat : Nat) : Int) = f := by omega
    have a3 : f = t := by omega
    rw [a1, a2, ← a3]
theorem parsed_words {s : ByteArray} (h : parsedOk s) (h1 : ¬ s = ⟨#[45]⟩) : ∃ c, rightB c = true ∧ splitL 32 (bytesL s) = c.map runW ∧ parse0 s = c := by
  obtain ⟨h2, h3⟩ : s ≠ ⟨#[]⟩ ∧ strOfNums (textL (parse0 s)) = s := h.elim (fun e => absurd e h1) id
  have hr : rightB (parse0 s) = true := by
    cases hr : rightB (parse0 s) with
    | true => rfl
    | false =>
      have : textL (parse0 s) = [] := by unfold textL; rw [hr]; rfl
      rw [this] at h3
      exact absurd h3.symm h2
  have h0 : parse0 s ≠ [] := fun e => by
    rw [e] at h3; exact h1 h3.symm
  refine ⟨parse0 s, hr, ?_, rfl⟩
  have ht : textL (parse0 s) = spc ((parse0 s).map runW) := by unfold textL; rw [hr, if_neg h0]; rfl
  have hok : okB (spc ((parse0 s).map runW)) := okB_spc _ (fun w hw => by obtain ⟨r, _, rfl⟩ := List.mem_map.1 hw; exact okB_runW r)
  conv => lhs; rw [← h3, ht, bytes_str hok]
  cases hc : parse0 s with
  | nil => exact absurd hc h0
  | cons r c =>
    rw [List.map_cons]
    exact split_spc _ _ (runW_free r) (fun t ht => by obtain ⟨r, _, rfl⟩ := List.mem_map.1 ht; exact runW_free r)
theorem words_parsed {s : ByteArray} {c : List Run} (hr : rightB c = true) (h : splitL 32 (bytesL s) = c.map runW) : parsedOk s ∧ parse0 s = c ∧ ¬ s = ⟨#[45]⟩ := by
  have h0 : c ≠ [] := fun e => by rw [e] at h; exact splitL_ne _ _ h
  have ht : textL c = spc (c.map runW) := by unfold textL; rw [hr, if_neg h0]; rfl
  have hs : strOfNums (textL c) = s := by rw [ht, ← h, spc_split, str_bytesL]
  have hp : parse0 s = c := by rw [← hs]; exact parse0_text hr h0
  have hb : bytesL s ≠ [] := fun e => by
    rw [e] at h
    cases c with
    | nil => exact h0 rfl
    | cons r c =>
      rw [List.map_cons] at h
      have : [] = runW r := (List.cons.inj h).1
      exact runW_ne r this.symm
  refine ⟨.inr ⟨fun e => hb (by rw [e]; rfl), by rw [hp, hs]⟩, hp, fun e => ?_⟩
  rw [e] at h
  have e2 : splitL 32 (bytesL ⟨#[45]⟩) = [[45]] := rfl
  rw [e2] at h
  cases c with
  | nil => exact h0 rfl
  | cons r c =>
    rw [List.map_cons] at h
    have h5 : [45] = runW r := (List.cons.inj h).1
    have h6 : (58 : Int) ∈ runW r := by unfold runW; simp
    rw [← h5] at h6
    simp at h6
/-- A word that the reference does not read. -/
theorem not_parsed {s : ByteArray} {w : List Int} (h1 : ¬ s = ⟨#[45]⟩) (hw : w ∈ splitL 32 (bytesL s)) (h : refW w = none) : ¬ parsedOk s := fun hp => by
  obtain ⟨c, hr, hc, -⟩ := parsed_words hp h1
  rw [hc] at hw
  obtain ⟨r, hm, rfl⟩ := List.mem_map.1 hw
  obtain ⟨k, hk⟩ := List.getElem?_of_mem hm
  rw [refW_of (right_runs hr hk)] at h; cases h
theorem refW_all {c : List Run} (hr : rightB c = true) {ws : List (List Int)} (h : ws.map refW = c.map some) : ws = c.map runW := by
  refine List.ext_getElem? fun i => ?_
  have e := congrArg (·[i]?) h
  simp only [List.getElem?_map] at e ⊢
  cases hw : ws[i]? with
  | none =>
    rw [hw] at e
    cases hc : c[i]? with
    | none => rfl
    | some r => rw [hc] at e; cases e
  | some w =>
    rw [hw] at e
    cases hc : c[i]? with
    | none => rw [hc] at e; cases e
    | some r =>
      rw [hc] at e
      have e : refW w = some r := Option.some.inj e
      have := refW_back e (right_runs hr hc)
      rw [← this]; rfl
theorem ref_parsed {s : ByteArray} {c : List Run} (h1 : ¬ s = ⟨#[45]⟩) (h : (splitL 32 (bytesL s)).map refW = c.map some) : (rightB c = true → parsedOk s ∧ parsedL s = c) ∧ (rightB c = false → ¬ parsedOk s) := by
  constructor
  · intro hr
    obtain ⟨k1, k2, k3⟩ := words_parsed hr (refW_all hr h)
    exact ⟨k1, by rw [parsedL_yes h1 k1, k2]⟩
  · intro hr hp
    obtain ⟨c', hr', hc', -⟩ := parsed_words hp h1
    have : (splitL 32 (bytesL s)).map refW = c'.map some := by
      rw [hc', List.map_map]
      refine List.map_congr_left fun r hm => ?_
      obtain ⟨k, hk⟩ := List.getElem?_of_mem hm
      exact refW_of (right_runs hr' hk)
    rw [h] at this
    have : c = c' := by
      have := congrArg (List.map (fun o : Option Run => o.getD (0, 0, 0))) this
      simpa [List.map_map, Function.comp_def] using this
    rw [this, hr'] at hr; cases hr
end Go.Proofs.YthmbdjhlfieldaaGreatDoor

set_option linter.unusedVariables false
set_option linter.unusedSimpArgs false
set_option maxRecDepth 100000
set_option maxHeartbeats 4000000
namespace Go.Proofs.YthmbdjhlfieldaaGreatDoor
open Go.Eng
/-- A string's parts. -/
@[reducible] def prt (c : Int) (s : ByteArray) : List ByteArray := (splitL c (bytesL s)).map strOfNums
@[reducible] def rwords (s : ByteArray) : List ByteArray := prt 32 s
@[reducible] def rparseL (s : ByteArray) : LA := {
  X := List Run
  pre := fun c => c.length ≤ (rwords s).length ∧ ((splitL 32 (bytesL s)).take c.length).map refW = c.map some
  mu := fun c => (rwords s).length - c.length
  T := fun c => [(0, .v (.string s)), (4, .sl 2), (19, .ro true .str (rwords s)), (20, .v (.int .i64 (rwords s).length)), (21, .v (.int .i64 c.length))]
  M := fun c => [(2, .row 47 runT c)] }
theorem refW2_bad {a f : List Int} (h : ¬ (numOk a = true ∧ numOk f = true)) : ∀ rest : List (List Int), refW2 a (f :: rest) = none
  | [] => if_neg h
  | [t] => if_neg (fun hh => h hh.1)
  | _ :: _ :: _ => rfl
theorem refW_two {v a b : List Int} (h : splitL 58 v = [a, b]) : refW v = refW2 a (splitL 45 b) := by unfold refW; rw [h]; rfl
theorem knownT6 : Known Tryz.prog (gOf [(40, rSplitC), (87, rNumTC), (60, drightC)]) :=
  known_cons ⟨rSplit_ok, Tryz.call40⟩ (known_cons ⟨rNumT_ok, Tryz.call87⟩ (known_cons ⟨rdright_ok, Tryz.call60⟩ (known_nil _)))
theorem rparse_ok : dparseC.ok Tryz.prog 42 := by
  refine ok_of_vc (An := fun s => anOf [(0, .loop (rparseL s))]) knownT6 mo Tryz.func42 (by kernel_rfl) (by kernel_rfl) (fun _ _ => trivial) (fun (s : ByteArray) hs => ?_)
  have hs : s.size ≤ 100000 := hs
  by_cases h1 : s = ⟨#[45]⟩
  · subst h1
    have k1 : parsedB ⟨#[45]⟩ = true := parsedB_true (.inl rfl)
    have k2 : parsedL ⟨#[45]⟩ = [] := if_pos rfl
    have lm := And.intro k1 k2
    exact G1
  · have g1 : ¬ s.toList = (⟨#[45]⟩ : ByteArray).toList := fun h => h1 (str_eq.1 h)
    have hwl : (rwords s).length ≤ 100001 := by
      have := splitL_le 32 (bytesL s)
      rw [bytesL_length] at this
      rw [List.length_map]; omega
    have ck : Hc rSplitC ⟨s, 32⟩ True := .mk trivial
    (refine Z ?_; repeat' (first | exact .intro | ((first | refine B1 (fun h => ?_) fun h => ?_ | refine B2 fun y he he' hy => ?_ | refine B3 fun y he hy => ?_ | refine B4 fun y hy => ?_ | refine B5 fun ck => ?_ | fail) <;> refine Z ?_)))
    refine Some'.mk ([] : List Run) ?_
    (refine Z ?_; repeat' (first | exact .intro | ((first | refine B1 (fun h => ?_) fun h => ?_ | refine B2 fun y he he' hy => ?_ | refine B3 fun y he hy => ?_ | refine B4 fun y hy => ?_ | refine B5 fun ck => ?_ | fail) <;> refine Z ?_)))
    refine Ask.mk ⟨Nat.zero_le _, rfl⟩ ?_
    refine AllI.mk ?_
    rintro (c : List Run) ⟨hcl, hpre⟩
    have hcl : c.length ≤ (rwords s).length := hcl
    have hpre : ((splitL 32 (bytesL s)).take c.length).map refW = c.map some := hpre
    by_cases hie : c.length = (rwords s).length
    · have hfull : (splitL 32 (bytesL s)).map refW = c.map some := by
        rw [hie, List.length_map, List.take_length] at hpre; exact hpre
      obtain ⟨p1, p2⟩ := ref_parsed h1 hfull
      have hc2 : c.length ≤ 274877906944 := by omega
      cases hr : rightB c with
      | true =>
        obtain ⟨k0, k2⟩ := p1 hr
        have k1 := parsedB_true k0
        clear hpre p1 p2 hfull
        have lm := And.intro hr (And.intro k1 k2)
        have ck : Hc drightC c True := .mk trivial
        exact G1
      | false =>
        have k0 := p2 hr
        have k1 := parsedB_false k0
        have k2 := parsedL_no k0
        clear hpre p1 p2 hfull
        have lm := And.intro hr (And.intro k1 k2)
        have ck : Hc drightC c True := .mk trivial
        exact G1
    · have hlt : c.length < (splitL 32 (bytesL s)).length := by rw [List.length_map] at hie hcl; omega
      obtain ⟨v, hv⟩ : ∃ e, (splitL 32 (bytesL s))[c.length]? = some e := ⟨_, List.getElem?_eq_getElem hlt⟩
      have hce : (rwords s)[c.length]? = some (strOfNums v) := by rw [List.getElem?_map, hv]; rfl
      have hvm := List.mem_of_getElem? hv
      have hvz : v.length ≤ 100000 := by
        have := (splitL_mem 32 (bytesL s) v hvm).1
        rw [bytesL_length] at this; omega
      have hvo : okB v := fun x hx => bytesL_ok s x ((splitL_mem 32 (bytesL s) v hvm).2 x hx).1
      have hvb : bytesL (strOfNums v) = v := bytes_str hvo
      have hsz : (strOfNums v).size ≤ 100000000000 := by rw [str_size]; omega
      rcases h58 : splitL 58 v with _ | ⟨a, _ | ⟨b, _ | ⟨x, l⟩⟩⟩
      · have hno : refW v = none := by unfold refW; rw [h58]; rfl
        have k0 : ¬ parsedOk s := not_parsed h1 hvm hno
        have k1 := parsedB_false k0
        have k2 := parsedL_no k0
        have hln : ((splitL 58 (bytesL (strOfNums v))).map strOfNums).length = 0 := by rw [List.length_map, hvb, h58]; rfl
        (refine Zm ?_; repeat' (first | exact .intro | ((first | refine B1 (fun h => ?_) fun h => ?_ | refine B2 fun y he he' hy => ?_ | refine B3 fun y he hy => ?_ | refine B4 fun y hy => ?_ | refine B5 fun ck => ?_ | fail) <;> refine Zm ?_)))
        refine All'.mk ?_; rintro (e' : ByteArray) he'
        obtain rfl : strOfNums v = e' := Option.some.inj (hce.symm.trans he')
        clear he'
        have ck : Hc rSplitC ⟨strOfNums v, 58⟩ True := .mk trivial
        exact G1

      · have hno : refW v = none := by unfold refW; rw [h58]; rfl
        have k0 : ¬ parsedOk s := not_parsed h1 hvm hno
        have k1 := parsedB_false k0
        have k2 := parsedL_no k0
        have hln : ((splitL 58 (bytesL (strOfNums v))).map strOfNums).length = 1 := by rw [List.length_map, hvb, h58]; rfl
        (refine Zm ?_; repeat' (first | exact .intro | ((first | refine B1 (fun h => ?_) fun h => ?_ | refine B2 fun y he he' hy => ?_ | refine B3 fun y he hy => ?_ | refine B4 fun y hy => ?_ | refine B5 fun ck => ?_ | fail) <;> refine Zm ?_)))
        refine All'.mk ?_; rintro (e' : ByteArray) he'
        obtain rfl : strOfNums v = e' := Option.some.inj (hce.symm.trans he')
        clear he'
        have ck : Hc rSplitC ⟨strOfNums v, 58⟩ True := .mk trivial
        exact G1

      · have hpr2 : (splitL 58 (bytesL (strOfNums v))).map strOfNums = [strOfNums a, strOfNums b] := by show (splitL 58 (bytesL (strOfNums v))).map strOfNums = _; rw [hvb, h58]; rfl
        have hln : ((splitL 58 (bytesL (strOfNums v))).map strOfNums).length = 2 := by rw [hpr2]; rfl
        have hp0 : ((splitL 58 (bytesL (strOfNums v))).map strOfNums)[Int.toNat 0]? = some (strOfNums a) := by rw [hpr2]; rfl
        have hp1 : ((splitL 58 (bytesL (strOfNums v))).map strOfNums)[Int.toNat 1]? = some (strOfNums b) := by rw [hpr2]; rfl
        have hma := splitL_mem 58 v a (by rw [h58]; simp)
        have hmb := splitL_mem 58 v b (by rw [h58]; simp)
        have hab : bytesL (strOfNums a) = a := bytes_str (fun x hx => hvo x (hma.2 x hx).1)
        have hbb : bytesL (strOfNums b) = b := bytes_str (fun x hx => hvo x (hmb.2 x hx).1)
        have hza : (strOfNums a).size ≤ 100000000000 := by rw [str_size]; omega
        have hzb : (strOfNums b).size ≤ 100000000000 := by rw [str_size]; omega
        have hrw := refW_two h58
        have hbo : okB b := fun x hx => hvo x (hmb.2 x hx).1
        have hbz : b.length ≤ 100000 := by omega
        clear hma hmb hpr2
        rcases h45 : splitL 45 b with _ | ⟨f, rest⟩
        · exact absurd h45 (splitL_ne 45 b)
        · have hqe : (splitL 45 (bytesL (strOfNums b))).map strOfNums = strOfNums f :: rest.map strOfNums := by show (splitL 45 (bytesL (strOfNums b))).map strOfNums = _; rw [hbb, h45]; rfl
          have hq0 : ((splitL 45 (bytesL (strOfNums b))).map strOfNums)[Int.toNat 0]? = some (strOfNums f) := by rw [hqe]; rfl
          have hql : ((splitL 45 (bytesL (strOfNums b))).map strOfNums).length = rest.length + 1 := by rw [hqe, List.length_cons, List.length_map]
          have hmf := splitL_mem 45 b f (by rw [h45]; simp)
          have hfb : bytesL (strOfNums f) = f := bytes_str (fun x hx => hbo x (hmf.2 x hx).1)
          have hzf : (strOfNums f).size ≤ 100000000000 := by rw [str_size]; omega
          rw [h45] at hrw
          clear hmf
          (refine Zm ?_; repeat' (first | exact .intro | ((first | refine B1 (fun h => ?_) fun h => ?_ | refine B2 fun y he he' hy => ?_ | refine B3 fun y he hy => ?_ | refine B4 fun y hy => ?_ | refine B5 fun ck => ?_ | fail) <;> refine Zm ?_)))
          refine All'.mk ?_; rintro (e' : ByteArray) he'
          obtain rfl : strOfNums v = e' := Option.some.inj (hce.symm.trans he')
          clear he'
          (refine Z ?_; repeat' (first | exact .intro | ((first | refine B1 (fun h => ?_) fun h => ?_ | refine B2 fun y he he' hy => ?_ | refine B3 fun y he hy => ?_ | refine B4 fun y hy => ?_ | refine B5 fun ck => ?_ | fail) <;> refine Z ?_)))
          refine CallP.mk (C := rSplitC) ⟨strOfNums v, 58⟩ ?_
          (refine Zm ?_; repeat' (first | exact .intro | ((first | refine B1 (fun h => ?_) fun h => ?_ | refine B2 fun y he he' hy => ?_ | refine B3 fun y he hy => ?_ | refine B4 fun y hy => ?_ | refine B5 fun ck => ?_ | fail) <;> refine Zm ?_)))
          refine All'.mk ?_; rintro (e' : ByteArray) he'
          obtain rfl : strOfNums b = e' := Option.some.inj (hp1.symm.trans he')
          clear he'
          (refine Z ?_; repeat' (first | exact .intro | ((first | refine B1 (fun h => ?_) fun h => ?_ | refine B2 fun y he he' hy => ?_ | refine B3 fun y he hy => ?_ | refine B4 fun y hy => ?_ | refine B5 fun ck => ?_ | fail) <;> refine Z ?_)))
          refine CallP.mk (C := rSplitC) ⟨strOfNums b, 45⟩ ?_
          (refine Zm ?_; repeat' (first | exact .intro | ((first | refine B1 (fun h => ?_) fun h => ?_ | refine B2 fun y he he' hy => ?_ | refine B3 fun y he hy => ?_ | refine B4 fun y hy => ?_ | refine B5 fun ck => ?_ | fail) <;> refine Zm ?_)))
          refine All'.mk ?_; rintro (e' : ByteArray) he'
          obtain rfl : strOfNums a = e' := Option.some.inj (hp0.symm.trans he')
          clear he'
          have lm := And.intro hab hfb
          (refine Z ?_; repeat' (first | exact .intro | ((first | refine B1 (fun h => ?_) fun h => ?_ | refine B2 fun y he he' hy => ?_ | refine B3 fun y he hy => ?_ | refine B4 fun y hy => ?_ | refine B5 fun ck => ?_ | fail) <;> refine Z ?_)))
          refine CallP.mk (C := rNumTC) (strOfNums a) ?_
          (refine Zm ?_; repeat' (first | exact .intro | ((first | refine B1 (fun h => ?_) fun h => ?_ | refine B2 fun y he he' hy => ?_ | refine B3 fun y he hy => ?_ | refine B4 fun y hy => ?_ | refine B5 fun ck => ?_ | fail) <;> refine Zm ?_)))
          refine All'.mk ?_; rintro (e' : ByteArray) he'
          obtain rfl : strOfNums f = e' := Option.some.inj (hq0.symm.trans he')
          clear he'
          (refine Z ?_; repeat' (first | exact .intro | ((first | refine B1 (fun h => ?_) fun h => ?_ | refine B2 fun y he he' hy => ?_ | refine B3 fun y he hy => ?_ | refine B4 fun y hy => ?_ | refine B5 fun ck => ?_ | fail) <;> refine Z ?_)))
          refine CallP.mk (C := rNumTC) (strOfNums f) ?_
          cases oa : numOk a with
          | false =>
            have hno : refW v = none := hrw.trans (refW2_bad (fun h => by rw [oa] at h; cases h.1) rest)
            have k0 : ¬ parsedOk s := not_parsed h1 hvm hno
            have k1 := parsedB_false k0
            have k2 := parsedL_no k0
            have oa' : numOk (bytesL (strOfNums a)) = false := by rw [hab]; exact oa
            ((repeat' ((conv => whnf) <;> first | exact True.intro | (guard_target =~ Fork _ _ _; first | refine F1 ?_ | refine F2 ?_ | (refine Fork.pos ?_ ?_; · (simp only [hab, hfb, oa, oa', k1, k2, Bool.not_true, Bool.not_false, decide_eq_true_eq, beq_iff_eq, bne_iff_ne, ne_eq] <;> omega)) | (refine Fork.neg ?_ ?_; · (simp only [hab, hfb, oa, oa', k1, k2, Bool.not_true, Bool.not_false, decide_eq_false_iff_not, beq_eq_false_iff_ne] <;> omega)) | refine F3 (fun h => ?_) fun h => ?_) | (guard_target =~ Ar _ _ _; first | refine A1 ?_ | refine A2 ?_ | refine A3 ?_ | (refine Ar.fit (wrap_i64 ?_ ?_) ?_; · ((try dsimp only) <;> simp only [hab, hfb, oa, oa', k1, k2] <;> omega); · ((try dsimp only) <;> simp only [hab, hfb, oa, oa', k1, k2] <;> omega)) | (refine Ar.fit (wrap_u64 ?_ ?_) ?_; · ((try dsimp only) <;> simp only [hab, hfb, oa, oa', k1, k2] <;> omega); · ((try dsimp only) <;> simp only [hab, hfb, oa, oa', k1, k2] <;> omega))) | (guard_target =~ AskL _ _; first | (refine AskL.mk ?_ ?_; · ((simp only [conj]; repeat' apply And.intro) <;> first | rfl | trivial | omega | (simp only [hab, hfb, oa, oa', k1, k2]; done) | (simp only [hab, hfb, oa, oa', k1, k2] <;> omega) | (simp only [hab, hfb, oa, oa', k1, k2]; refine Bool.eq_iff_iff.2 ?_; simp only [decide_eq_true_eq, Bool.false_eq_true, true_iff, iff_true, false_iff, iff_false, eq_self]; omega) | (simp only [*, hab, hfb, oa, oa', k1, k2]; done))) | refine L1 ?_) | (guard_target =~ Go.Eng.Ask _ _; first | refine K1 ?_ | (refine Ask.mk ?_ ?_; · ((try dsimp only) <;> simp only [hab, hfb, oa, oa', k1, k2] <;> omega))) | (guard_target =~ CallP _ _ _ _ _; first | refine H1 ck fun ck => ?_ | refine H2 ck fun ck => ?_) | (guard_target =~ All' _ _; first | (refine Y2 fun y he he' hy => ?_; (try dsimp only at he he' hy)) | (refine Y1 fun y he hy => ?_; (try with_reducible conv at he => (rhs; whnf)); (try dsimp only at he hy)) | (refine All'.mk ?_; intro y hy)) | refine F4 (fun h => ?_) fun h => ?_ | refine R1 ?_ | refine Q1 ?_ | fail)); all_goals (conv => whnf))
          | true =>
            have oa' : numOk (bytesL (strOfNums a)) = true := by rw [hab]; exact oa
            cases of : numOk f with
            | false =>
              have hno : refW v = none := hrw.trans (refW2_bad (fun h => by rw [of] at h; cases h.2) rest)
              have k0 : ¬ parsedOk s := not_parsed h1 hvm hno
              have k1 := parsedB_false k0
              have k2 := parsedL_no k0
              have of' : numOk (bytesL (strOfNums f)) = false := by rw [hfb]; exact of
              ((repeat' ((conv => whnf) <;> first | exact True.intro | (guard_target =~ Fork _ _ _; first | refine F1 ?_ | refine F2 ?_ | (refine Fork.pos ?_ ?_; · (simp only [hab, hfb, oa, oa', of, of', k1, k2, Bool.not_true, Bool.not_false, decide_eq_true_eq, beq_iff_eq, bne_iff_ne, ne_eq] <;> omega)) | (refine Fork.neg ?_ ?_; · (simp only [hab, hfb, oa, oa', of, of', k1, k2, Bool.not_true, Bool.not_false, decide_eq_false_iff_not, beq_eq_false_iff_ne] <;> omega)) | refine F3 (fun h => ?_) fun h => ?_) | (guard_target =~ Ar _ _ _; first | refine A1 ?_ | refine A2 ?_ | refine A3 ?_ | (refine Ar.fit (wrap_i64 ?_ ?_) ?_; · ((try dsimp only) <;> simp only [hab, hfb, oa, oa', of, of', k1, k2] <;> omega); · ((try dsimp only) <;> simp only [hab, hfb, oa, oa', of, of', k1, k2] <;> omega)) | (refine Ar.fit (wrap_u64 ?_ ?_) ?_; · ((try dsimp only) <;> simp only [hab, hfb, oa, oa', of, of', k1, k2] <;> omega); · ((try dsimp only) <;> simp only [hab, hfb, oa, oa', of, of', k1, k2] <;> omega))) | (guard_target =~ AskL _ _; first | (refine AskL.mk ?_ ?_; · ((simp only [conj]; repeat' apply And.intro) <;> first | rfl | trivial | omega | (simp only [hab, hfb, oa, oa', of, of', k1, k2]; done) | (simp only [hab, hfb, oa, oa', of, of', k1, k2] <;> omega) | (simp only [hab, hfb, oa, oa', of, of', k1, k2]; refine Bool.eq_iff_iff.2 ?_; simp only [decide_eq_true_eq, Bool.false_eq_true, true_iff, iff_true, false_iff, iff_false, eq_self]; omega) | (simp only [*, hab, hfb, oa, oa', of, of', k1, k2]; done))) | refine L1 ?_) | (guard_target =~ Go.Eng.Ask _ _; first | refine K1 ?_ | (refine Ask.mk ?_ ?_; · ((try dsimp only) <;> simp only [hab, hfb, oa, oa', of, of', k1, k2] <;> omega))) | (guard_target =~ CallP _ _ _ _ _; first | refine H1 ck fun ck => ?_ | refine H2 ck fun ck => ?_) | (guard_target =~ All' _ _; first | (refine Y2 fun y he he' hy => ?_; (try dsimp only at he he' hy)) | (refine Y1 fun y he hy => ?_; (try with_reducible conv at he => (rhs; whnf)); (try dsimp only at he hy)) | (refine All'.mk ?_; intro y hy)) | refine F4 (fun h => ?_) fun h => ?_ | refine R1 ?_ | refine Q1 ?_ | fail)); all_goals (conv => whnf))
            | true =>
              have of' : numOk (bytesL (strOfNums f)) = true := by rw [hfb]; exact of
              rcases rest with _ | ⟨t, _ | ⟨x, l⟩⟩
              · have hsome : refW v = some (numV a, numV f, numV f) := hrw.trans (if_pos ⟨oa, of⟩)
                have hpr : (rparseL s).pre (c ++ [(numV a, numV f, numV f)]) := by
                  refine ⟨by show (c ++ [_]).length ≤ ((splitL 32 (bytesL s)).map strOfNums).length; rw [List.length_append, List.length_singleton, List.length_map]; omega, ?_⟩
                  show ((splitL 32 (bytesL s)).take (c ++ [_]).length).map refW = (c ++ [_]).map some
                  rw [List.length_append, List.length_singleton, take_get hv, List.map_append, hpre, List.map_append, List.map_singleton, hsome]; rfl
                have hmu : (rparseL s).mu (c ++ [(numV a, numV f, numV f)]) < (rparseL s).mu c := by
                  show ((splitL 32 (bytesL s)).map strOfNums).length - (c ++ [_]).length < ((splitL 32 (bytesL s)).map strOfNums).length - c.length
                  rw [List.length_append, List.length_singleton, List.length_map]; omega
                have hap : ∀ x : Run, c.length + [x].length ≤ 274877906944 := fun x => by rw [List.length_singleton]; omega
                have hql : ((splitL 45 (bytesL (strOfNums b))).map strOfNums).length = 1 := hql
                ((repeat' ((conv => whnf) <;> first | exact True.intro | (guard_target =~ Fork _ _ _; first | refine F1 ?_ | refine F2 ?_ | (refine Fork.pos ?_ ?_; · (simp only [hab, hfb, oa, oa', of, of', Bool.not_true, Bool.not_false, decide_eq_true_eq, beq_iff_eq, bne_iff_ne, ne_eq] <;> omega)) | (refine Fork.neg ?_ ?_; · (simp only [hab, hfb, oa, oa', of, of', Bool.not_true, Bool.not_false, decide_eq_false_iff_not, beq_eq_false_iff_ne] <;> omega)) | refine F3 (fun h => ?_) fun h => ?_) | (guard_target =~ Ar _ _ _; first | refine A1 ?_ | refine A2 ?_ | refine A3 ?_ | (refine Ar.fit (wrap_i64 ?_ ?_) ?_; · ((try dsimp only) <;> simp only [hab, hfb, oa, oa', of, of'] <;> omega); · ((try dsimp only) <;> simp only [hab, hfb, oa, oa', of, of'] <;> omega)) | (refine Ar.fit (wrap_u64 ?_ ?_) ?_; · ((try dsimp only) <;> simp only [hab, hfb, oa, oa', of, of'] <;> omega); · ((try dsimp only) <;> simp only [hab, hfb, oa, oa', of, of'] <;> omega))) | (guard_target =~ AskL _ _; first | (refine AskL.mk ?_ ?_; · ((simp only [conj]; repeat' apply And.intro) <;> first | rfl | trivial | omega | (simp only [hab, hfb, oa, oa', of, of']; done) | (simp only [hab, hfb, oa, oa', of, of'] <;> omega) | (simp only [hab, hfb, oa, oa', of, of']; refine Bool.eq_iff_iff.2 ?_; simp only [decide_eq_true_eq, Bool.false_eq_true, true_iff, iff_true, false_iff, iff_false, eq_self]; omega) | (simp only [*, hab, hfb, oa, oa', of, of']; done))) | refine L1 ?_) | (guard_target =~ Go.Eng.Ask _ _; first | refine K1 ?_ | (refine Ask.mk ?_ ?_; · ((try dsimp only) <;> simp only [hab, hfb, oa, oa', of, of'] <;> omega))) | (guard_target =~ CallP _ _ _ _ _; first | refine H1 ck fun ck => ?_ | refine H2 ck fun ck => ?_) | (guard_target =~ All' _ _; first | (refine Y2 fun y he he' hy => ?_; (try dsimp only at he he' hy)) | (refine Y1 fun y he hy => ?_; (try with_reducible conv at he => (rhs; whnf)); (try dsimp only at he hy)) | (refine All'.mk ?_; intro y hy)) | refine F4 (fun h => ?_) fun h => ?_ | refine R1 ?_ | refine Q1 ?_ | fail)); all_goals (conv => whnf))
                refine Some'.mk (c ++ [(numV a, numV f, numV f)]) ?_
                ((repeat' ((conv => whnf) <;> first | exact True.intro | (guard_target =~ Fork _ _ _; first | refine F1 ?_ | refine F2 ?_ | (refine Fork.pos ?_ ?_; · (simp only [hab, hfb, oa, oa', of, of', Bool.not_true, Bool.not_false, decide_eq_true_eq, beq_iff_eq, bne_iff_ne, ne_eq] <;> omega)) | (refine Fork.neg ?_ ?_; · (simp only [hab, hfb, oa, oa', of, of', Bool.not_true, Bool.not_false, decide_eq_false_iff_not, beq_eq_false_iff_ne] <;> omega)) | refine F3 (fun h => ?_) fun h => ?_) | (guard_target =~ Ar _ _ _; first | refine A1 ?_ | refine A2 ?_ | refine A3 ?_ | (refine Ar.fit (wrap_i64 ?_ ?_) ?_; · ((try dsimp only) <;> simp only [hab, hfb, oa, oa', of, of'] <;> omega); · ((try dsimp only) <;> simp only [hab, hfb, oa, oa', of, of'] <;> omega)) | (refine Ar.fit (wrap_u64 ?_ ?_) ?_; · ((try dsimp only) <;> simp only [hab, hfb, oa, oa', of, of'] <;> omega); · ((try dsimp only) <;> simp only [hab, hfb, oa, oa', of, of'] <;> omega))) | (guard_target =~ Go.Eng.Ask _ _; first | refine K1 ?_ | (refine Ask.mk ?_ ?_; · ((try dsimp only) <;> simp only [hab, hfb, oa, oa', of, of'] <;> omega))) | (guard_target =~ CallP _ _ _ _ _; first | refine H1 ck fun ck => ?_ | refine H2 ck fun ck => ?_) | (guard_target =~ All' _ _; first | (refine Y2 fun y he he' hy => ?_; (try dsimp only at he he' hy)) | (refine Y1 fun y he hy => ?_; (try with_reducible conv at he => (rhs; whnf)); (try dsimp only at he hy)) | (refine All'.mk ?_; intro y hy)) | refine F4 (fun h => ?_) fun h => ?_ | refine R1 ?_ | refine Q1 ?_ | fail)); all_goals (conv => whnf))
                refine AskL.mk ?_ (Ask.mk hpr (Ask.mk hmu trivial))
                (dsimp only [conj]; repeat' apply And.intro) <;> first | rfl | (rw [List.length_append]; rfl) | (rw [if_pos oa', if_pos of', hab, hfb])
              · have hql : ((splitL 45 (bytesL (strOfNums b))).map strOfNums).length = 2 := hql
                have hq1 : ((splitL 45 (bytesL (strOfNums b))).map strOfNums)[Int.toNat 1]? = some (strOfNums t) := by rw [hqe]; rfl
                have hmt := splitL_mem 45 b t (by rw [h45]; simp)
                have htb : bytesL (strOfNums t) = t := bytes_str (fun x hx => hbo x (hmt.2 x hx).1)
                have hzt : (strOfNums t).size ≤ 100000000000 := by rw [str_size]; omega
                clear hmt
                ((repeat' ((conv => whnf) <;> first | exact True.intro | (guard_target =~ Fork _ _ _; first | refine F1 ?_ | refine F2 ?_ | (refine Fork.pos ?_ ?_; · (simp only [hab, hfb, oa, oa', of, of', Bool.not_true, Bool.not_false, decide_eq_true_eq, beq_iff_eq, bne_iff_ne, ne_eq] <;> omega)) | (refine Fork.neg ?_ ?_; · (simp only [hab, hfb, oa, oa', of, of', Bool.not_true, Bool.not_false, decide_eq_false_iff_not, beq_eq_false_iff_ne] <;> omega)) | refine F3 (fun h => ?_) fun h => ?_) | (guard_target =~ Ar _ _ _; first | refine A1 ?_ | refine A2 ?_ | refine A3 ?_ | (refine Ar.fit (wrap_i64 ?_ ?_) ?_; · ((try dsimp only) <;> simp only [hab, hfb, oa, oa', of, of'] <;> omega); · ((try dsimp only) <;> simp only [hab, hfb, oa, oa', of, of'] <;> omega)) | (refine Ar.fit (wrap_u64 ?_ ?_) ?_; · ((try dsimp only) <;> simp only [hab, hfb, oa, oa', of, of'] <;> omega); · ((try dsimp only) <;> simp only [hab, hfb, oa, oa', of, of'] <;> omega))) | (guard_target =~ AskL _ _; first | (refine AskL.mk ?_ ?_; · ((simp only [conj]; repeat' apply And.intro) <;> first | rfl | trivial | omega | (simp only [hab, hfb, oa, oa', of, of']; done) | (simp only [hab, hfb, oa, oa', of, of'] <;> omega) | (simp only [hab, hfb, oa, oa', of, of']; refine Bool.eq_iff_iff.2 ?_; simp only [decide_eq_true_eq, Bool.false_eq_true, true_iff, iff_true, false_iff, iff_false, eq_self]; omega) | (simp only [*, hab, hfb, oa, oa', of, of']; done))) | refine L1 ?_) | (guard_target =~ Go.Eng.Ask _ _; first | refine K1 ?_ | (refine Ask.mk ?_ ?_; · ((try dsimp only) <;> simp only [hab, hfb, oa, oa', of, of'] <;> omega))) | (guard_target =~ CallP _ _ _ _ _; first | refine H1 ck fun ck => ?_ | refine H2 ck fun ck => ?_) | (guard_target =~ All' _ _; first | (refine Y2 fun y he he' hy => ?_; (try dsimp only at he he' hy)) | (refine Y1 fun y he hy => ?_; (try with_reducible conv at he => (rhs; whnf)); (try dsimp only at he hy))) | refine F4 (fun h => ?_) fun h => ?_ | refine R1 ?_ | refine Q1 ?_ | fail)); all_goals (conv => whnf))
                refine All'.mk ?_; rintro (e' : ByteArray) he'
                obtain rfl : strOfNums t = e' := Option.some.inj (hq1.symm.trans he')
                clear he'
                ((repeat' ((conv => whnf) <;> first | exact True.intro | (guard_target =~ Fork _ _ _; first | refine F1 ?_ | refine F2 ?_ | (refine Fork.pos ?_ ?_; · (simp only [hab, hfb, oa, oa', of, of', Bool.not_true, Bool.not_false, decide_eq_true_eq, beq_iff_eq, bne_iff_ne, ne_eq] <;> omega)) | (refine Fork.neg ?_ ?_; · (simp only [hab, hfb, oa, oa', of, of', Bool.not_true, Bool.not_false, decide_eq_false_iff_not, beq_eq_false_iff_ne] <;> omega)) | refine F3 (fun h => ?_) fun h => ?_) | (guard_target =~ Ar _ _ _; first | refine A1 ?_ | refine A2 ?_ | refine A3 ?_ | (refine Ar.fit (wrap_i64 ?_ ?_) ?_; · ((try dsimp only) <;> simp only [hab, hfb, oa, oa', of, of'] <;> omega); · ((try dsimp only) <;> simp only [hab, hfb, oa, oa', of, of'] <;> omega)) | (refine Ar.fit (wrap_u64 ?_ ?_) ?_; · ((try dsimp only) <;> simp only [hab, hfb, oa, oa', of, of'] <;> omega); · ((try dsimp only) <;> simp only [hab, hfb, oa, oa', of, of'] <;> omega))) | (guard_target =~ AskL _ _; first | (refine AskL.mk ?_ ?_; · ((simp only [conj]; repeat' apply And.intro) <;> first | rfl | trivial | omega | (simp only [hab, hfb, oa, oa', of, of']; done) | (simp only [hab, hfb, oa, oa', of, of'] <;> omega) | (simp only [hab, hfb, oa, oa', of, of']; refine Bool.eq_iff_iff.2 ?_; simp only [decide_eq_true_eq, Bool.false_eq_true, true_iff, iff_true, false_iff, iff_false, eq_self]; omega) | (simp only [*, hab, hfb, oa, oa', of, of']; done))) | refine L1 ?_) | (guard_target =~ Go.Eng.Ask _ _; first | refine K1 ?_ | (refine Ask.mk ?_ ?_; · ((try dsimp only) <;> simp only [hab, hfb, oa, oa', of, of'] <;> omega))) | (guard_target =~ CallP _ _ _ _ _; first | refine H1 ck fun ck => ?_ | refine H2 ck fun ck => ?_) | (guard_target =~ All' _ _; first | (refine Y2 fun y he he' hy => ?_; (try dsimp only at he he' hy)) | (refine Y1 fun y he hy => ?_; (try with_reducible conv at he => (rhs; whnf)); (try dsimp only at he hy)) | (refine All'.mk ?_; intro y hy)) | refine F4 (fun h => ?_) fun h => ?_ | refine R1 ?_ | refine Q1 ?_ | fail)); all_goals (conv => whnf))
                refine CallP.mk (C := rNumTC) (strOfNums t) ?_
                cases ot : numOk t with
                | false =>
                  have hno : refW v = none := hrw.trans (if_neg (fun h => by rw [ot] at h; cases h.2.1))
                  have k0 : ¬ parsedOk s := not_parsed h1 hvm hno
                  have k1 := parsedB_false k0
                  have k2 := parsedL_no k0
                  have ot' : numOk (bytesL (strOfNums t)) = false := by rw [htb]; exact ot
                  ((repeat' ((conv => whnf) <;> first | exact True.intro | (guard_target =~ Fork _ _ _; first | refine F1 ?_ | refine F2 ?_ | (refine Fork.pos ?_ ?_; · (simp only [hab, hfb, htb, oa, oa', of, of', ot, ot', k1, k2, Bool.not_true, Bool.not_false, decide_eq_true_eq, beq_iff_eq, bne_iff_ne, ne_eq] <;> omega)) | (refine Fork.neg ?_ ?_; · (simp only [hab, hfb, htb, oa, oa', of, of', ot, ot', k1, k2, Bool.not_true, Bool.not_false, decide_eq_false_iff_not, beq_eq_false_iff_ne] <;> omega)) | refine F3 (fun h => ?_) fun h => ?_) | (guard_target =~ Ar _ _ _; first | refine A1 ?_ | refine A2 ?_ | refine A3 ?_ | (refine Ar.fit (wrap_i64 ?_ ?_) ?_; · ((try dsimp only) <;> simp only [hab, hfb, htb, oa, oa', of, of', ot, ot', k1, k2] <;> omega); · ((try dsimp only) <;> simp only [hab, hfb, htb, oa, oa', of, of', ot, ot', k1, k2] <;> omega)) | (refine Ar.fit (wrap_u64 ?_ ?_) ?_; · ((try dsimp only) <;> simp only [hab, hfb, htb, oa, oa', of, of', ot, ot', k1, k2] <;> omega); · ((try dsimp only) <;> simp only [hab, hfb, htb, oa, oa', of, of', ot, ot', k1, k2] <;> omega))) | (guard_target =~ AskL _ _; first | (refine AskL.mk ?_ ?_; · ((simp only [conj]; repeat' apply And.intro) <;> first | rfl | trivial | omega | (simp only [hab, hfb, htb, oa, oa', of, of', ot, ot', k1, k2]; done) | (simp only [hab, hfb, htb, oa, oa', of, of', ot, ot', k1, k2] <;> omega) | (simp only [hab, hfb, htb, oa, oa', of, of', ot, ot', k1, k2]; refine Bool.eq_iff_iff.2 ?_; simp only [decide_eq_true_eq, Bool.false_eq_true, true_iff, iff_true, false_iff, iff_false, eq_self]; omega) | (simp only [*, hab, hfb, htb, oa, oa', of, of', ot, ot', k1, k2]; done))) | refine L1 ?_) | (guard_target =~ Go.Eng.Ask _ _; first | refine K1 ?_ | (refine Ask.mk ?_ ?_; · ((try dsimp only) <;> simp only [hab, hfb, htb, oa, oa', of, of', ot, ot', k1, k2] <;> omega))) | (guard_target =~ CallP _ _ _ _ _; first | refine H1 ck fun ck => ?_ | refine H2 ck fun ck => ?_) | (guard_target =~ All' _ _; first | (refine Y2 fun y he he' hy => ?_; (try dsimp only at he he' hy)) | (refine Y1 fun y he hy => ?_; (try with_reducible conv at he => (rhs; whnf)); (try dsimp only at he hy)) | (refine All'.mk ?_; intro y hy)) | refine F4 (fun h => ?_) fun h => ?_ | refine R1 ?_ | refine Q1 ?_ | fail)); all_goals (conv => whnf))
                | true =>
                  have ot' : numOk (bytesL (strOfNums t)) = true := by rw [htb]; exact ot
                  by_cases hne : numV t = numV f
                  · have hno : refW v = none := hrw.trans (if_neg (fun h => h.2.2 hne))
                    have k0 : ¬ parsedOk s := not_parsed h1 hvm hno
                    have k1 := parsedB_false k0
                    have k2 := parsedL_no k0
                    have hne' : (if numOk (bytesL (strOfNums t)) = true then numV (bytesL (strOfNums t)) else 0) = (if numOk (bytesL (strOfNums f)) = true then numV (bytesL (strOfNums f)) else 0) := by rw [if_pos ot', if_pos of', htb, hfb]; exact hne
                    ((repeat' ((conv => whnf) <;> first | exact True.intro | (guard_target =~ Fork _ _ _; first | refine F1 ?_ | refine F2 ?_ | (refine Fork.pos ?_ ?_; · (simp only [hab, hfb, htb, oa, oa', of, of', ot, ot', k1, k2, Bool.not_true, Bool.not_false, decide_eq_true_eq, beq_iff_eq, bne_iff_ne, ne_eq] <;> omega)) | (refine Fork.neg ?_ ?_; · (simp only [hab, hfb, htb, oa, oa', of, of', ot, ot', k1, k2, Bool.not_true, Bool.not_false, decide_eq_false_iff_not, beq_eq_false_iff_ne] <;> omega)) | refine F3 (fun h => ?_) fun h => ?_) | (guard_target =~ Ar _ _ _; first | refine A1 ?_ | refine A2 ?_ | refine A3 ?_ | (refine Ar.fit (wrap_i64 ?_ ?_) ?_; · ((try dsimp only) <;> simp only [hab, hfb, htb, oa, oa', of, of', ot, ot', k1, k2] <;> omega); · ((try dsimp only) <;> simp only [hab, hfb, htb, oa, oa', of, of', ot, ot', k1, k2] <;> omega)) | (refine Ar.fit (wrap_u64 ?_ ?_) ?_; · ((try dsimp only) <;> simp only [hab, hfb, htb, oa, oa', of, of', ot, ot', k1, k2] <;> omega); · ((try dsimp only) <;> simp only [hab, hfb, htb, oa, oa', of, of', ot, ot', k1, k2] <;> omega))) | (guard_target =~ AskL _ _; first | (refine AskL.mk ?_ ?_; · ((simp only [conj]; repeat' apply And.intro) <;> first | rfl | trivial | omega | (simp only [hab, hfb, htb, oa, oa', of, of', ot, ot', k1, k2]; done) | (simp only [hab, hfb, htb, oa, oa', of, of', ot, ot', k1, k2] <;> omega) | (simp only [hab, hfb, htb, oa, oa', of, of', ot, ot', k1, k2]; refine Bool.eq_iff_iff.2 ?_; simp only [decide_eq_true_eq, Bool.false_eq_true, true_iff, iff_true, false_iff, iff_false, eq_self]; omega) | (simp only [*, hab, hfb, htb, oa, oa', of, of', ot, ot', k1, k2]; done))) | refine L1 ?_) | (guard_target =~ Go.Eng.Ask _ _; first | refine K1 ?_ | (refine Ask.mk ?_ ?_; · ((try dsimp only) <;> simp only [hab, hfb, htb, oa, oa', of, of', ot, ot', k1, k2] <;> omega))) | (guard_target =~ CallP _ _ _ _ _; first | refine H1 ck fun ck => ?_ | refine H2 ck fun ck => ?_) | (guard_target =~ All' _ _; first | (refine Y2 fun y he he' hy => ?_; (try dsimp only at he he' hy)) | (refine Y1 fun y he hy => ?_; (try with_reducible conv at he => (rhs; whnf)); (try dsimp only at he hy)) | (refine All'.mk ?_; intro y hy)) | refine F4 (fun h => ?_) fun h => ?_ | refine R1 ?_ | refine Q1 ?_ | fail)); all_goals (conv => whnf))
                  · have hsome : refW v = some (numV a, numV f, numV t) := hrw.trans (if_pos ⟨⟨oa, of⟩, ot, hne⟩)
                    have hpr : (rparseL s).pre (c ++ [(numV a, numV f, numV t)]) := by
                      refine ⟨by show (c ++ [_]).length ≤ ((splitL 32 (bytesL s)).map strOfNums).length; rw [List.length_append, List.length_singleton, List.length_map]; omega, ?_⟩
                      show ((splitL 32 (bytesL s)).take (c ++ [_]).length).map refW = (c ++ [_]).map some
                      rw [List.length_append, List.length_singleton, take_get hv, List.map_append, hpre, List.map_append, List.map_singleton, hsome]; rfl
                    have hmu : (rparseL s).mu (c ++ [(numV a, numV f, numV t)]) < (rparseL s).mu c := by
                      show ((splitL 32 (bytesL s)).map strOfNums).length - (c ++ [_]).length < ((splitL 32 (bytesL s)).map strOfNums).length - c.length
                      rw [List.length_append, List.length_singleton, List.length_map]; omega
                    have hap : ∀ x : Run, c.length + [x].length ≤ 274877906944 := fun x => by rw [List.length_singleton]; omega
                    have hne' : ¬ (if numOk (bytesL (strOfNums t)) = true then numV (bytesL (strOfNums t)) else 0) = (if numOk (bytesL (strOfNums f)) = true then numV (bytesL (strOfNums f)) else 0) := by rw [if_pos ot', if_pos of', htb, hfb]; exact hne
                    ((repeat' ((conv => whnf) <;> first | exact True.intro | (guard_target =~ Fork _ _ _; first | refine F1 ?_ | refine F2 ?_ | (refine Fork.pos ?_ ?_; · (simp only [hab, hfb, htb, oa, oa', of, of', ot, ot', Bool.not_true, Bool.not_false, decide_eq_true_eq, beq_iff_eq, bne_iff_ne, ne_eq] <;> omega)) | (refine Fork.neg ?_ ?_; · (simp only [hab, hfb, htb, oa, oa', of, of', ot, ot', Bool.not_true, Bool.not_false, decide_eq_false_iff_not, beq_eq_false_iff_ne] <;> omega)) | refine F3 (fun h => ?_) fun h => ?_) | (guard_target =~ Ar _ _ _; first | refine A1 ?_ | refine A2 ?_ | refine A3 ?_ | (refine Ar.fit (wrap_i64 ?_ ?_) ?_; · ((try dsimp only) <;> simp only [hab, hfb, htb, oa, oa', of, of', ot, ot'] <;> omega); · ((try dsimp only) <;> simp only [hab, hfb, htb, oa, oa', of, of', ot, ot'] <;> omega)) | (refine Ar.fit (wrap_u64 ?_ ?_) ?_; · ((try dsimp only) <;> simp only [hab, hfb, htb, oa, oa', of, of', ot, ot'] <;> omega); · ((try dsimp only) <;> simp only [hab, hfb, htb, oa, oa', of, of', ot, ot'] <;> omega))) | (guard_target =~ AskL _ _; first | (refine AskL.mk ?_ ?_; · ((simp only [conj]; repeat' apply And.intro) <;> first | rfl | trivial | omega | (simp only [hab, hfb, htb, oa, oa', of, of', ot, ot']; done) | (simp only [hab, hfb, htb, oa, oa', of, of', ot, ot'] <;> omega) | (simp only [hab, hfb, htb, oa, oa', of, of', ot, ot']; refine Bool.eq_iff_iff.2 ?_; simp only [decide_eq_true_eq, Bool.false_eq_true, true_iff, iff_true, false_iff, iff_false, eq_self]; omega) | (simp only [*, hab, hfb, htb, oa, oa', of, of', ot, ot']; done))) | refine L1 ?_) | (guard_target =~ Go.Eng.Ask _ _; first | refine K1 ?_ | (refine Ask.mk ?_ ?_; · ((try dsimp only) <;> simp only [hab, hfb, htb, oa, oa', of, of', ot, ot'] <;> omega))) | (guard_target =~ CallP _ _ _ _ _; first | refine H1 ck fun ck => ?_ | refine H2 ck fun ck => ?_) | (guard_target =~ All' _ _; first | (refine Y2 fun y he he' hy => ?_; (try dsimp only at he he' hy)) | (refine Y1 fun y he hy => ?_; (try with_reducible conv at he => (rhs; whnf)); (try dsimp only at he hy)) | (refine All'.mk ?_; intro y hy)) | refine F4 (fun h => ?_) fun h => ?_ | refine R1 ?_ | refine Q1 ?_ | fail)); all_goals (conv => whnf))
                    refine Some'.mk (c ++ [(numV a, numV f, numV t)]) ?_
                    ((repeat' ((conv => whnf) <;> first | exact True.intro | (guard_target =~ Fork _ _ _; first | refine F1 ?_ | refine F2 ?_ | (refine Fork.pos ?_ ?_; · (simp only [hab, hfb, htb, oa, oa', of, of', ot, ot', Bool.not_true, Bool.not_false, decide_eq_true_eq, beq_iff_eq, bne_iff_ne, ne_eq] <;> omega)) | (refine Fork.neg ?_ ?_; · (simp only [hab, hfb, htb, oa, oa', of, of', ot, ot', Bool.not_true, Bool.not_false, decide_eq_false_iff_not, beq_eq_false_iff_ne] <;> omega)) | refine F3 (fun h => ?_) fun h => ?_) | (guard_target =~ Ar _ _ _; first | refine A1 ?_ | refine A2 ?_ | refine A3 ?_ | (refine Ar.fit (wrap_i64 ?_ ?_) ?_; · ((try dsimp only) <;> simp only [hab, hfb, htb, oa, oa', of, of', ot, ot'] <;> omega); · ((try dsimp only) <;> simp only [hab, hfb, htb, oa, oa', of, of', ot, ot'] <;> omega)) | (refine Ar.fit (wrap_u64 ?_ ?_) ?_; · ((try dsimp only) <;> simp only [hab, hfb, htb, oa, oa', of, of', ot, ot'] <;> omega); · ((try dsimp only) <;> simp only [hab, hfb, htb, oa, oa', of, of', ot, ot'] <;> omega))) | (guard_target =~ Go.Eng.Ask _ _; first | refine K1 ?_ | (refine Ask.mk ?_ ?_; · ((try dsimp only) <;> simp only [hab, hfb, htb, oa, oa', of, of', ot, ot'] <;> omega))) | (guard_target =~ CallP _ _ _ _ _; first | refine H1 ck fun ck => ?_ | refine H2 ck fun ck => ?_) | (guard_target =~ All' _ _; first | (refine Y2 fun y he he' hy => ?_; (try dsimp only at he he' hy)) | (refine Y1 fun y he hy => ?_; (try with_reducible conv at he => (rhs; whnf)); (try dsimp only at he hy)) | (refine All'.mk ?_; intro y hy)) | refine F4 (fun h => ?_) fun h => ?_ | refine R1 ?_ | refine Q1 ?_ | fail)); all_goals (conv => whnf))
                    refine AskL.mk ?_ (Ask.mk hpr (Ask.mk hmu trivial))
                    (dsimp only [conj]; repeat' apply And.intro) <;> first | rfl | (rw [List.length_append]; rfl) | (rw [if_pos oa', if_pos of', if_pos ot', hab, hfb, htb])
              · have hno : refW v = none := hrw
                have k0 : ¬ parsedOk s := not_parsed h1 hvm hno
                have k1 := parsedB_false k0
                have k2 := parsedL_no k0
                have hql : ((splitL 45 (bytesL (strOfNums b))).map strOfNums).length = l.length + 3 := hql
                ((repeat' ((conv => whnf) <;> first | exact True.intro | (guard_target =~ Fork _ _ _; first | refine F1 ?_ | refine F2 ?_ | (refine Fork.pos ?_ ?_; · (simp only [hab, hfb, oa, oa', of, of', k1, k2, Bool.not_true, Bool.not_false, decide_eq_true_eq, beq_iff_eq, bne_iff_ne, ne_eq] <;> omega)) | (refine Fork.neg ?_ ?_; · (simp only [hab, hfb, oa, oa', of, of', k1, k2, Bool.not_true, Bool.not_false, decide_eq_false_iff_not, beq_eq_false_iff_ne] <;> omega)) | refine F3 (fun h => ?_) fun h => ?_) | (guard_target =~ Ar _ _ _; first | refine A1 ?_ | refine A2 ?_ | refine A3 ?_ | (refine Ar.fit (wrap_i64 ?_ ?_) ?_; · ((try dsimp only) <;> simp only [hab, hfb, oa, oa', of, of', k1, k2] <;> omega); · ((try dsimp only) <;> simp only [hab, hfb, oa, oa', of, of', k1, k2] <;> omega)) | (refine Ar.fit (wrap_u64 ?_ ?_) ?_; · ((try dsimp only) <;> simp only [hab, hfb, oa, oa', of, of', k1, k2] <;> omega); · ((try dsimp only) <;> simp only [hab, hfb, oa, oa', of, of', k1, k2] <;> omega))) | (guard_target =~ AskL _ _; first | (refine AskL.mk ?_ ?_; · ((simp only [conj]; repeat' apply And.intro) <;> first | rfl | trivial | omega | (simp only [hab, hfb, oa, oa', of, of', k1, k2]; done) | (simp only [hab, hfb, oa, oa', of, of', k1, k2] <;> omega) | (simp only [hab, hfb, oa, oa', of, of', k1, k2]; refine Bool.eq_iff_iff.2 ?_; simp only [decide_eq_true_eq, Bool.false_eq_true, true_iff, iff_true, false_iff, iff_false, eq_self]; omega) | (simp only [*, hab, hfb, oa, oa', of, of', k1, k2]; done))) | refine L1 ?_) | (guard_target =~ Go.Eng.Ask _ _; first | refine K1 ?_ | (refine Ask.mk ?_ ?_; · ((try dsimp only) <;> simp only [hab, hfb, oa, oa', of, of', k1, k2] <;> omega))) | (guard_target =~ CallP _ _ _ _ _; first | refine H1 ck fun ck => ?_ | refine H2 ck fun ck => ?_) | (guard_target =~ All' _ _; first | (refine Y2 fun y he he' hy => ?_; (try dsimp only at he he' hy)) | (refine Y1 fun y he hy => ?_; (try with_reducible conv at he => (rhs; whnf)); (try dsimp only at he hy)) | (refine All'.mk ?_; intro y hy)) | refine F4 (fun h => ?_) fun h => ?_ | refine R1 ?_ | refine Q1 ?_ | fail)); all_goals (conv => whnf))
      · have hno : refW v = none := by unfold refW; rw [h58]; rfl
        have k0 : ¬ parsedOk s := not_parsed h1 hvm hno
        have k1 := parsedB_false k0
        have k2 := parsedL_no k0
        have hln : ((splitL 58 (bytesL (strOfNums v))).map strOfNums).length = l.length + 3 := by rw [List.length_map, hvb, h58]; rfl
        ((repeat' ((conv => whnf) <;> first | exact True.intro | (guard_target =~ Fork _ _ _; first | refine F1 ?_ | refine F2 ?_ | (refine Fork.pos ?_ ?_; · (simp only [hab, hfb, oa, oa', of, of', k1, k2, Bool.not_true, Bool.not_false, decide_eq_true_eq, beq_iff_eq, bne_iff_ne, ne_eq] <;> omega)) | (refine Fork.neg ?_ ?_; · (simp only [hab, hfb, oa, oa', of, of', k1, k2, Bool.not_true, Bool.not_false, decide_eq_false_iff_not, beq_eq_false_iff_ne] <;> omega)) | refine F3 (fun h => ?_) fun h => ?_) | (guard_target =~ Ar _ _ _; first | refine A1 ?_ | refine A2 ?_ | refine A3 ?_ | (refine Ar.fit (wrap_i64 ?_ ?_) ?_; · ((try dsimp only) <;> simp only [hab, hfb, oa, oa', of, of', k1, k2] <;> omega); · ((try dsimp only) <;> simp only [hab, hfb, oa, oa', of, of', k1, k2] <;> omega)) | (refine Ar.fit (wrap_u64 ?_ ?_) ?_; · ((try dsimp only) <;> simp only [hab, hfb, oa, oa', of, of', k1, k2] <;> omega); · ((try dsimp only) <;> simp only [hab, hfb, oa, oa', of, of', k1, k2] <;> omega))) | (guard_target =~ AskL _ _; first | (refine AskL.mk ?_ ?_; · ((simp only [conj]; repeat' apply And.intro) <;> first | rfl | trivial | omega | (simp only [hab, hfb, oa, oa', of, of', k1, k2]; done) | (simp only [hab, hfb, oa, oa', of, of', k1, k2] <;> omega) | (simp only [hab, hfb, oa, oa', of, of', k1, k2]; refine Bool.eq_iff_iff.2 ?_; simp only [decide_eq_true_eq, Bool.false_eq_true, true_iff, iff_true, false_iff, iff_false, eq_self]; omega) | (simp only [*, hab, hfb, oa, oa', of, of', k1, k2]; done))) | refine L1 ?_) | (guard_target =~ Go.Eng.Ask _ _; first | refine K1 ?_ | (refine Ask.mk ?_ ?_; · ((try dsimp only) <;> simp only [hab, hfb, oa, oa', of, of', k1, k2] <;> omega))) | (guard_target =~ CallP _ _ _ _ _; first | refine H1 ck fun ck => ?_ | refine H2 ck fun ck => ?_) | (guard_target =~ All' _ _; first | (refine Y2 fun y he he' hy => ?_; (try dsimp only at he he' hy)) | (refine Y1 fun y he hy => ?_; (try with_reducible conv at he => (rhs; whnf)); (try dsimp only at he hy))) | refine F4 (fun h => ?_) fun h => ?_ | refine R1 ?_ | refine Q1 ?_ | fail)); all_goals (conv => whnf))
        refine All'.mk ?_; rintro (e' : ByteArray) he'
        obtain rfl : strOfNums v = e' := Option.some.inj (hce.symm.trans he')
        clear he'
        have ck : Hc rSplitC ⟨strOfNums v, 58⟩ True := .mk trivial
        ((repeat' ((conv => whnf) <;> first | exact True.intro | (guard_target =~ Fork _ _ _; first | refine F1 ?_ | refine F2 ?_ | (refine Fork.pos ?_ ?_; · (simp only [hab, hfb, oa, oa', of, of', k1, k2, Bool.not_true, Bool.not_false, decide_eq_true_eq, beq_iff_eq, bne_iff_ne, ne_eq] <;> omega)) | (refine Fork.neg ?_ ?_; · (simp only [hab, hfb, oa, oa', of, of', k1, k2, Bool.not_true, Bool.not_false, decide_eq_false_iff_not, beq_eq_false_iff_ne] <;> omega)) | refine F3 (fun h => ?_) fun h => ?_) | (guard_target =~ Ar _ _ _; first | refine A1 ?_ | refine A2 ?_ | refine A3 ?_ | (refine Ar.fit (wrap_i64 ?_ ?_) ?_; · ((try dsimp only) <;> simp only [hab, hfb, oa, oa', of, of', k1, k2] <;> omega); · ((try dsimp only) <;> simp only [hab, hfb, oa, oa', of, of', k1, k2] <;> omega)) | (refine Ar.fit (wrap_u64 ?_ ?_) ?_; · ((try dsimp only) <;> simp only [hab, hfb, oa, oa', of, of', k1, k2] <;> omega); · ((try dsimp only) <;> simp only [hab, hfb, oa, oa', of, of', k1, k2] <;> omega))) | (guard_target =~ AskL _ _; first | (refine AskL.mk ?_ ?_; · ((simp only [conj]; repeat' apply And.intro) <;> first | rfl | trivial | omega | (simp only [hab, hfb, oa, oa', of, of', k1, k2]; done) | (simp only [hab, hfb, oa, oa', of, of', k1, k2] <;> omega) | (simp only [hab, hfb, oa, oa', of, of', k1, k2]; refine Bool.eq_iff_iff.2 ?_; simp only [decide_eq_true_eq, Bool.false_eq_true, true_iff, iff_true, false_iff, iff_false, eq_self]; omega) | (simp only [*, hab, hfb, oa, oa', of, of', k1, k2]; done))) | refine L1 ?_) | (guard_target =~ Go.Eng.Ask _ _; first | refine K1 ?_ | (refine Ask.mk ?_ ?_; · ((try dsimp only) <;> simp only [hab, hfb, oa, oa', of, of', k1, k2] <;> omega))) | (guard_target =~ CallP _ _ _ _ _; first | refine H1 ck fun ck => ?_ | refine H2 ck fun ck => ?_) | (guard_target =~ All' _ _; first | (refine Y2 fun y he he' hy => ?_; (try dsimp only at he he' hy)) | (refine Y1 fun y he hy => ?_; (try with_reducible conv at he => (rhs; whnf)); (try dsimp only at he hy)) | (refine All'.mk ?_; intro y hy)) | refine F4 (fun h => ?_) fun h => ?_ | refine R1 ?_ | refine Q1 ?_ | fail)); all_goals (conv => whnf))

end Go.Proofs.YthmbdjhlfieldaaGreatDoor

set_option linter.unusedVariables false
set_option linter.unusedSimpArgs false
set_option maxRecDepth 100000
set_option maxHeartbeats 4000000
namespace Go.Proofs.YthmbdjhlfieldaaGreatDoor
open Go.Eng
@[reducible] def dgetC : Ctr := {
  X := EyX
  Y := Unit
  args := fun x => [.ptr 0 0]
  rw := fun x => eyeE 0 x.l x.e
  side := fun x => okE x
  val := fun _ => ()
  ens := fun _ _ => True
  res := fun _ _ => .sl 1000
  out := fun x _ => (1000, .row 47 runT (getS x).1) :: eyeE 0 (getS x).2.l (getS x).2.e }
@[reducible] def dgetL (x : EyX) : LA := {
  X := Nat
  pre := fun i => i ≤ getN x
  mu := fun i => getN x - i
  T := fun i => [(0, .ptr 0 0), (3, .sl 2), (6, .v (.int .u64 (getN x : Nat))), (7, .v (.int .u64 (i : Nat)))]
  M := fun i => (2, .row 47 runT (rdN (eyS x 1024).2 i).1) :: eyeE 0 (rdN (eyS x 1024).2 i).2.l (rdN (eyS x 1024).2 i).2.e }
theorem knownGet1 : Known Tryz.prog (gOf [(75, eyNumC), (35, errC), (77, failC), (51, drightC)]) :=
  known_cons ⟨eyNum_ok, Tryz.call75⟩ (known_cons ⟨err_ok, Tryz.call35⟩ (known_cons ⟨fail_ok, Tryz.call77⟩ (known_cons ⟨dright_ok, Tryz.call51⟩ (known_nil _))))
theorem dget_ok : dgetC.ok Tryz.prog 76 := by
  refine ok_of_vc (An := fun x => anOf [(0, .loop (dgetL x))]) knownGet1 mo Tryz.func76 (by kernel_rfl) (by kernel_rfl) (fun _ _ => trivial) (fun (x : EyX) hs => ?_)
  have hs : okE x := hs
  obtain ⟨hx1, hn0, hn1⟩ := eyS_ok hs 1024 (by omega)
  have hN : (eyS x 1024).1 = ((getN x : Nat) : Int) := by unfold getN; omega
  have hso : okY x.l ∧ x.l.length ≤ 274877906944 := hs
  have hNl : getN x ≤ 1024 := by omega
  have ck : Hc eyNumC (x, 1024) True := .mk trivial
  (refine Z ?_; repeat' (first | exact .intro | ((first | refine B1 (fun h => ?_) fun h => ?_ | refine B2 fun y he he' hy => ?_ | refine B3 fun y he hy => ?_ | refine B4 fun y hy => ?_ | refine B5 fun ck => ?_ | fail) <;> refine Z ?_)))
  refine Some'.mk (0 : Nat) ?_
  (refine Zn ?_; repeat' (first | exact .intro | ((first | refine B1 (fun h => ?_) fun h => ?_ | refine B2 fun y he he' hy => ?_ | refine B3 fun y he hy => ?_ | refine B4 fun y hy => ?_ | refine B5 fun ck => ?_ | fail) <;> refine Zn ?_)))
  refine AskL.mk ?_ (Ask.mk (Nat.zero_le _) ?_)
  · (dsimp only [conj]; repeat' apply And.intro) <;> first | rfl | exact hN
  refine AllI.mk ?_
  rintro (i : Nat) hi
  have hi : i ≤ getN x := hi
  have hxi := rdN_ok hx1 i
  by_cases hie : i = getN x
  · subst hie
    have hzl : (rdN (eyS x 1024).2 (getN x)).1.length = getN x := rdN_len _ _
    have hz2 : (rdN (eyS x 1024).2 (getN x)).1.length ≤ 274877906944 := by omega
    by_cases h3 : (rdN (eyS x 1024).2 (getN x)).2.e = 0
    · cases hr : rightB (rdN (eyS x 1024).2 (getN x)).1 with
      | true =>
        have hg : getS x = (rdN (eyS x 1024).2 (getN x)) := by unfold getS getP; rw [if_pos h3, if_pos hr]
        have lm := And.intro hg (And.intro hr h3)
        have ck : Hc errC (rdN (eyS x 1024).2 (getN x)).2 (Hc drightC (rdN (eyS x 1024).2 (getN x)).1 (Hc errC (rdN (eyS x 1024).2 (getN x)).2 True)) := .mk (.mk (.mk trivial))
        exact G1
      | false =>
        have hg : getS x = ([], ⟨[], 11⟩) := by unfold getS getP; rw [if_pos h3, if_neg (by rw [hr]; decide)]
        have k2 : failL (rdN (eyS x 1024).2 (getN x)).2 11 = [] := if_pos ⟨h3, by decide⟩
        have k3 : failE (rdN (eyS x 1024).2 (getN x)).2 11 = 11 := if_pos ⟨h3, by decide⟩
        have lm := And.intro hg (And.intro hr (And.intro h3 (And.intro k2 k3)))
        have ck : Hc errC (rdN (eyS x 1024).2 (getN x)).2 (Hc drightC (rdN (eyS x 1024).2 (getN x)).1 (Hc failC ((rdN (eyS x 1024).2 (getN x)).2, 11) (Hc errC ⟨[], 11⟩ True))) := .mk (.mk (.mk (.mk trivial)))
        exact G1
    · have hg : getS x = ([], (rdN (eyS x 1024).2 (getN x)).2) := getS_err (Nat.le_refl _) h3
      have lm := hg
      have ck : Hc errC (rdN (eyS x 1024).2 (getN x)).2 (Hc errC (rdN (eyS x 1024).2 (getN x)).2 True) := .mk (.mk trivial)
      exact G1
  · obtain ⟨ha1, ha2, ha3⟩ := eyS_ok hxi 7 (by omega)
    obtain ⟨hb1, hb2, hb3⟩ := eyS_ok ha1 1099511627776 (by omega)
    obtain ⟨hc1, hc2, hc3⟩ := eyS_ok hb1 1099511627776 (by omega)
    have hs1 : okY (rdN (eyS x 1024).2 i).2.l ∧ (rdN (eyS x 1024).2 i).2.l.length ≤ 274877906944 := hxi
    have hs2 : okY (eyS (rdN (eyS x 1024).2 i).2 7).2.l ∧ (eyS (rdN (eyS x 1024).2 i).2 7).2.l.length ≤ 274877906944 := ha1
    have hs3 : okY (eyS (eyS (rdN (eyS x 1024).2 i).2 7).2 1099511627776).2.l ∧ (eyS (eyS (rdN (eyS x 1024).2 i).2 7).2 1099511627776).2.l.length ≤ 274877906944 := hb1
    have hw1 : IntKind.i64.wrap (eyS (rdN (eyS x 1024).2 i).2 7).1 = (eyS (rdN (eyS x 1024).2 i).2 7).1 := wrap_i64 (by omega) (by omega)
    have hw2 : IntKind.i64.wrap (eyS (eyS (rdN (eyS x 1024).2 i).2 7).2 1099511627776).1 = (eyS (eyS (rdN (eyS x 1024).2 i).2 7).2 1099511627776).1 := wrap_i64 (by omega) (by omega)
    have hw3 : IntKind.i64.wrap (eyS (eyS (eyS (rdN (eyS x 1024).2 i).2 7).2 1099511627776).2 1099511627776).1 = (eyS (eyS (eyS (rdN (eyS x 1024).2 i).2 7).2 1099511627776).2 1099511627776).1 := wrap_i64 (by omega) (by omega)
    have hzl : (rdN (eyS x 1024).2 i).1.length = i := rdN_len _ _
    have hz2 : (rdN (eyS x 1024).2 i).1.length ≤ 1024 := by omega
    have lm := And.intro hw1 (And.intro hw2 hw3)
    have ck : Hc eyNumC ((rdN (eyS x 1024).2 i).2, 7) (Hc eyNumC ((eyS (rdN (eyS x 1024).2 i).2 7).2, 1099511627776) True) := .mk (.mk trivial)
    (refine Z ?_; repeat' (first | exact .intro | ((first | refine B1 (fun h => ?_) fun h => ?_ | refine B2 fun y he he' hy => ?_ | refine B3 fun y he hy => ?_ | refine B4 fun y hy => ?_ | refine B5 fun ck => ?_ | fail) <;> refine Z ?_)))
    refine CallP.mk (C := eyNumC) ((eyS (eyS (rdN (eyS x 1024).2 i).2 7).2 1099511627776).2, 1099511627776) ?_
    have hap : ∀ r : Run, (rdN (eyS x 1024).2 i).1.length + [r].length ≤ 274877906944 := fun r => by rw [List.length_singleton]; omega
    have hpr : (dgetL x).pre (i + 1) := by show i + 1 ≤ getN x; omega
    have hmu : (dgetL x).mu (i + 1) < (dgetL x).mu i := by show getN x - (i + 1) < getN x - i; omega
    by_cases h4 : (eyS (eyS (eyS (rdN (eyS x 1024).2 i).2 7).2 1099511627776).2 1099511627776).2.e = 0
    · have hst : (rdN (eyS x 1024).2 (i + 1)).1 = (rdN (eyS x 1024).2 i).1 ++ [(IntKind.i64.wrap (eyS (rdN (eyS x 1024).2 i).2 7).1, IntKind.i64.wrap (eyS (eyS (rdN (eyS x 1024).2 i).2 7).2 1099511627776).1, IntKind.i64.wrap (eyS (eyS (rdN (eyS x 1024).2 i).2 7).2 1099511627776).1 + IntKind.i64.wrap (eyS (eyS (eyS (rdN (eyS x 1024).2 i).2 7).2 1099511627776).2 1099511627776).1)] := by
        rw [hw1, hw2, hw3]; rfl
      have ck : Hc errC (eyS (eyS (eyS (rdN (eyS x 1024).2 i).2 7).2 1099511627776).2 1099511627776).2 True := .mk trivial
      (refine Z ?_; repeat' (first | exact .intro | ((first | refine B1 (fun h => ?_) fun h => ?_ | refine B2 fun y he he' hy => ?_ | refine B3 fun y he hy => ?_ | refine B4 fun y hy => ?_ | refine B5 fun ck => ?_ | fail) <;> refine Z ?_)))
      refine Some'.mk (i + 1 : Nat) ?_
      (refine Zn ?_; repeat' (first | exact .intro | ((first | refine B1 (fun h => ?_) fun h => ?_ | refine B2 fun y he he' hy => ?_ | refine B3 fun y he hy => ?_ | refine B4 fun y hy => ?_ | refine B5 fun ck => ?_ | fail) <;> refine Zn ?_)))
      refine AskL.mk ?_ (Ask.mk hpr (Ask.mk hmu trivial))
      (dsimp only [conj]; repeat' apply And.intro) <;> first | rfl | exact congrArg (SV.ro true runT) hst.symm
    · have hg : getS x = ([], (eyS (eyS (eyS (rdN (eyS x 1024).2 i).2 7).2 1099511627776).2 1099511627776).2) := getS_err (i := i + 1) (by omega) h4
      have lm := And.intro hg (And.intro hw1 (And.intro hw2 hw3))
      have ck : Hc errC (eyS (eyS (eyS (rdN (eyS x 1024).2 i).2 7).2 1099511627776).2 1099511627776).2 True := .mk trivial
      exact G1
end Go.Proofs.YthmbdjhlfieldaaGreatDoor

set_option linter.unusedVariables false
set_option linter.unusedSimpArgs false
set_option maxRecDepth 100000
set_option maxHeartbeats 4000000
namespace Go.Proofs.YthmbdjhlfieldaaGreatDoor
open Go.Eng
end Go.Proofs.YthmbdjhlfieldaaGreatDoor

set_option linter.unusedVariables false
set_option linter.unusedSimpArgs false
set_option maxRecDepth 100000
set_option maxHeartbeats 4000000
namespace Go.Proofs.YthmbdjhlfieldaaGreatDoor
open Go.Eng
theorem text_mem58 {c : List Run} (h : rightB c = true) (h0 : c ≠ []) : (58 : Int) ∈ textL c := by
  have ht : textL c = spc (c.map runW) := by unfold textL; rw [h, if_neg h0]; rfl
  cases c with
  | nil => exact absurd rfl h0
  | cons r l =>
    rw [ht]
    have h1 : (58 : Int) ∈ runW r := by simp [runW]
    show (58 : Int) ∈ runW r ++ _
    exact List.mem_append_left _ h1
theorem parsed_text {c : List Run} (h : rightB c = true) : parsedB (strOfNums (textL c)) = true ∧ parsedL (strOfNums (textL c)) = c := by
  by_cases h0 : c = []
  · subst h0
    exact ⟨parsedB_true (.inl rfl), if_pos rfl⟩
  · have hp := parse0_text h h0
    have h58 := text_mem58 h h0
    have hb : okB (textL c) := by
      have ht : textL c = spc (c.map runW) := by unfold textL; rw [h, if_neg h0]; rfl
      rw [ht]
      exact okB_spc _ (fun w hw => by obtain ⟨r, _, rfl⟩ := List.mem_map.1 hw; exact okB_runW r)
    have n1 : ¬ strOfNums (textL c) = ⟨#[45]⟩ := fun e => by
      have := bytes_str hb
      rw [e] at this
      rw [← this] at h58
      exact absurd h58 (by decide)
    have n2 : ¬ strOfNums (textL c) = ⟨#[]⟩ := fun e => by
      have := bytes_str hb
      rw [e] at this
      rw [← this] at h58
      exact absurd h58 (by decide)
    have hk : parsedOk (strOfNums (textL c)) := .inr ⟨n2, by rw [hp]⟩
    exact ⟨parsedB_true hk, by rw [parsedL_yes n1 hk, hp]⟩

structure GetXX where
  x : EyX
  c : List Run
  y : EyX
@[reducible] def dgetX : Ctr := {
  X := GetXX
  Y := Unit
  args := fun x => [.ptr 0 0]
  rw := fun x => eyeE 0 x.x.l x.x.e
  side := fun x => okE x.x ∧ getS x.x = (x.c, x.y)
  val := fun _ => ()
  ens := fun _ _ => True
  res := fun _ _ => .sl 1000
  out := fun x _ => (1000, .row 47 runT x.c) :: eyeE 0 x.y.l x.y.e }
theorem dgetX_ok : dgetX.ok Tryz.prog 76 := ctr_re (C := dgetC) (fun x => x.x) (fun x h => ⟨h.1, trivial, rfl, rfl, rfl, by show _ :: eyeE _ _ _ = _ :: eyeE _ _ _; rw [h.2]⟩) dget_ok
end Go.Proofs.YthmbdjhlfieldaaGreatDoor

set_option linter.unusedVariables false
set_option linter.unusedSimpArgs false
set_option maxRecDepth 100000
set_option maxHeartbeats 4000000
namespace Go.Proofs.YthmbdjhlfieldaaGreatDoor
open Go.Eng
structure GiX where
  x : EyX
  it : Item
  z : EyX
@[reducible] def igetC : Ctr := {
  X := GiX
  Y := Unit
  args := fun _ => [.ptr 0 0]
  rw := fun x => eyeE 0 x.x.l x.x.e
  side := fun x => okE x.x ∧ getI x.x = (x.it, x.z)
  val := fun _ => ()
  ens := fun _ _ => True
  res := fun x _ => itemA x.it
  out := fun x _ => eyeE 0 x.z.l x.z.e }
theorem knownIg : Known Tryz.prog (gOf [(74, etextC), (75, eyNumX), (76, dgetX), (35, errC), (14, irightU), (77, failC)]) :=
  known_cons ⟨etext_ok, Tryz.call74⟩ (known_cons ⟨eyNumX_ok, Tryz.call75⟩ (known_cons ⟨dgetX_ok, Tryz.call76⟩ (known_cons ⟨err_ok, Tryz.call35⟩ (known_cons ⟨iright_re iright_ok, Tryz.call14⟩ (known_cons ⟨fail_ok, Tryz.call77⟩ (known_nil _))))))
theorem iget_ok : igetC.ok Tryz.prog 31 := by
  refine ok_of_vc (An := fun _ => anOf []) knownIg mo Tryz.func31 (by kernel_rfl) (by kernel_rfl) (fun _ _ => trivial) (fun (x : GiX) hs => ?_)
  obtain ⟨x, it, z⟩ := x
  obtain ⟨hok, hg⟩ := hs
  dsimp only at hok hg
  obtain ⟨⟨kb, z1⟩, q1⟩ : ∃ r, eyT x 24 = r := ⟨_, rfl⟩
  have o1 := eyT_okE hok (m := 24) (by omega)
  obtain ⟨⟨um, z2⟩, q2⟩ : ∃ r, eyS z1 7 = r := ⟨_, rfl⟩
  rw [q1] at o1
  have o2 := eyS_ok o1.1 7 (by omega)
  obtain ⟨⟨un, z3⟩, q3⟩ : ∃ r, eyS z2 1099511627776 = r := ⟨_, rfl⟩
  rw [q2] at o2
  have o3 := eyS_ok o2.1 1099511627776 (by omega)
  obtain ⟨⟨cc, z4⟩, q4⟩ : ∃ r, getS z3 = r := ⟨_, rfl⟩
  rw [q3] at o3
  have o4 := getS_okE o3.1
  have o4l := getS_len o3.1
  obtain ⟨⟨ug, z5⟩, q5⟩ : ∃ r, eyS z4 1 = r := ⟨_, rfl⟩
  rw [q4] at o4 o4l
  have o5 := eyS_ok o4 1 (by omega)
  rw [q5] at o5
  dsimp only at o1 o2 o3 o4 o5 o4l
  have p1 : okE z1 := o1.1
  have p2 : okE z2 := o2.1
  have p3 : okE z3 := o3.1
  have p5 : okE z5 := o5.1
  have g1 : giK x = (kb, z1) := q1
  have g2 : giM x = (um, z2) := by unfold giM; rw [g1]; exact q2
  have g3 : giN x = (un, z3) := by unfold giN; rw [g2]; exact q3
  have g4 : giP x = (cc, z4) := by unfold giP; rw [g3]; exact q4
  have g5 : giG x = (ug, z5) := by unfold giG; rw [g4]; exact q5
  have w1 : IntKind.i64.wrap um = um := wrap_i64 (by omega) (by omega)
  have w2 : IntKind.i64.wrap un = un := wrap_i64 (by omega) (by omega)
  have gI : getI x = if (giV x).2.e = 0 then (if itemB (giI x) then (giI x, (giV x).2) else (zeroI, ⟨[], 11⟩)) else (zeroI, (giV x).2) := rfl
  rw [hg] at gI
  by_cases hu : ug = 1
  · subst hu
    have g6 : giV x = ([], z5) := by unfold giV; rw [g5]; exact if_pos rfl
    have gi : giI x = (strOfNums kb, (um, un), cc, true, []) := by unfold giI; rw [g1, g2, g3, g4, g5, g6]; rfl
    have hV : okY [] := fun c hc => nomatch hc
    have hVl : ([] : List Int).length ≤ 64 := Nat.zero_le _
    rw [g6, gi] at gI
    dsimp only at gI
    have hkl : (strOfNums kb).size = kb.length := str_size kb
    have hub : ((1 : Int) == 1) = true := rfl
    obtain ⟨zl, ze⟩ := z5
    by_cases he0 : ze = 0
    · rw [if_pos he0] at gI
      cases hi : itemB (strOfNums kb, (um, un), cc, true, []) with
      | true =>
        rw [hi, if_pos rfl] at gI
        obtain ⟨rfl, rfl⟩ := Prod.mk.inj gI
        subst he0
        have lm := And.intro w1 (And.intro w2 (And.intro hi hub))
        have ck : Hc etextC ⟨x, 24, kb, z1⟩ (Hc eyNumX ⟨z1, 7, um, z2⟩ (Hc eyNumX ⟨z2, 1099511627776, un, z3⟩ (Hc dgetX ⟨z3, cc, z4⟩ (Hc eyNumX ⟨z4, 1, 1, ⟨zl, 0⟩⟩ (Hc errC ⟨zl, 0⟩ (Hc irightU (strOfNums kb, (um, un), cc, true, []) (Hc errC ⟨zl, 0⟩ True))))))) := .mk (.mk (.mk (.mk (.mk (.mk (.mk (.mk trivial)))))))
        exact G1
      | false =>
        rw [hi, if_neg (by simp)] at gI
        obtain ⟨rfl, rfl⟩ := Prod.mk.inj gI
        subst he0
        have k2 : failL ⟨zl, 0⟩ 11 = [] := if_pos ⟨rfl, by decide⟩
        have k3 : failE ⟨zl, 0⟩ 11 = 11 := if_pos ⟨rfl, by decide⟩
        have lm := And.intro w1 (And.intro w2 (And.intro hi (And.intro hub (And.intro k2 k3))))
        have ck : Hc etextC ⟨x, 24, kb, z1⟩ (Hc eyNumX ⟨z1, 7, um, z2⟩ (Hc eyNumX ⟨z2, 1099511627776, un, z3⟩ (Hc dgetX ⟨z3, cc, z4⟩ (Hc eyNumX ⟨z4, 1, 1, ⟨zl, 0⟩⟩ (Hc errC ⟨zl, 0⟩ (Hc irightU (strOfNums kb, (um, un), cc, true, []) (Hc failC (⟨zl, 0⟩, 11) (Hc errC ⟨[], 11⟩ True)))))))) := .mk (.mk (.mk (.mk (.mk (.mk (.mk (.mk (.mk trivial))))))))
        exact G1
    · rw [if_neg he0] at gI
      obtain ⟨rfl, rfl⟩ := Prod.mk.inj gI
      have lm := And.intro w1 (And.intro w2 hub)
      have ck : Hc etextC ⟨x, 24, kb, z1⟩ (Hc eyNumX ⟨z1, 7, um, z2⟩ (Hc eyNumX ⟨z2, 1099511627776, un, z3⟩ (Hc dgetX ⟨z3, cc, z4⟩ (Hc eyNumX ⟨z4, 1, 1, ⟨zl, ze⟩⟩ (Hc errC ⟨zl, ze⟩ (Hc errC ⟨zl, ze⟩ True)))))) := .mk (.mk (.mk (.mk (.mk (.mk (.mk trivial))))))
      exact G1
  · obtain ⟨⟨vb, z6⟩, q6⟩ : ∃ r, eyT z5 64 = r := ⟨_, rfl⟩
    have o6 := eyT_okE o5.1 (m := 64) (by omega)
    rw [q6] at o6
    dsimp only at o6
    have g6 : giV x = (vb, z6) := by unfold giV; rw [g5]; dsimp only; rw [if_neg hu]; exact q6
    have gi : giI x = (strOfNums kb, (um, un), cc, false, vb) := by unfold giI; rw [g1, g2, g3, g4, g5, g6]; dsimp only; rw [decide_eq_false hu]
    rw [g6, gi] at gI
    dsimp only at gI
    have hkl : (strOfNums kb).size = kb.length := str_size kb
    have hub : (ug == 1) = false := beq_eq_false_iff_ne.2 hu
    have p6 : okE z6 := o6.1
    obtain ⟨zl, ze⟩ := z6
    by_cases he0 : ze = 0
    · rw [if_pos he0] at gI
      cases hi : itemB (strOfNums kb, (um, un), cc, false, vb) with
      | true =>
        rw [hi, if_pos rfl] at gI
        obtain ⟨rfl, rfl⟩ := Prod.mk.inj gI
        subst he0
        have lm := And.intro w1 (And.intro w2 (And.intro hi hub))
        have ck : Hc etextC ⟨x, 24, kb, z1⟩ (Hc eyNumX ⟨z1, 7, um, z2⟩ (Hc eyNumX ⟨z2, 1099511627776, un, z3⟩ (Hc dgetX ⟨z3, cc, z4⟩ (Hc eyNumX ⟨z4, 1, ug, z5⟩ (Hc etextC ⟨z5, 64, vb, ⟨zl, 0⟩⟩ (Hc errC ⟨zl, 0⟩ (Hc irightU (strOfNums kb, (um, un), cc, false, vb) (Hc errC ⟨zl, 0⟩ True)))))))) := .mk (.mk (.mk (.mk (.mk (.mk (.mk (.mk (.mk trivial))))))))
        exact G1
      | false =>
        rw [hi, if_neg (by simp)] at gI
        obtain ⟨rfl, rfl⟩ := Prod.mk.inj gI
        subst he0
        have k2 : failL ⟨zl, 0⟩ 11 = [] := if_pos ⟨rfl, by decide⟩
        have k3 : failE ⟨zl, 0⟩ 11 = 11 := if_pos ⟨rfl, by decide⟩
        have lm := And.intro w1 (And.intro w2 (And.intro hi (And.intro hub (And.intro k2 k3))))
        have ck : Hc etextC ⟨x, 24, kb, z1⟩ (Hc eyNumX ⟨z1, 7, um, z2⟩ (Hc eyNumX ⟨z2, 1099511627776, un, z3⟩ (Hc dgetX ⟨z3, cc, z4⟩ (Hc eyNumX ⟨z4, 1, ug, z5⟩ (Hc etextC ⟨z5, 64, vb, ⟨zl, 0⟩⟩ (Hc errC ⟨zl, 0⟩ (Hc irightU (strOfNums kb, (um, un), cc, false, vb) (Hc failC (⟨zl, 0⟩, 11) (Hc errC ⟨[], 11⟩ True))))))))) := .mk (.mk (.mk (.mk (.mk (.mk (.mk (.mk (.mk (.mk trivial)))))))))
        exact G1
    · rw [if_neg he0] at gI
      obtain ⟨rfl, rfl⟩ := Prod.mk.inj gI
      have lm := And.intro w1 (And.intro w2 hub)
      have ck : Hc etextC ⟨x, 24, kb, z1⟩ (Hc eyNumX ⟨z1, 7, um, z2⟩ (Hc eyNumX ⟨z2, 1099511627776, un, z3⟩ (Hc dgetX ⟨z3, cc, z4⟩ (Hc eyNumX ⟨z4, 1, ug, z5⟩ (Hc etextC ⟨z5, 64, vb, ⟨zl, ze⟩⟩ (Hc errC ⟨zl, ze⟩ (Hc errC ⟨zl, ze⟩ True))))))) := .mk (.mk (.mk (.mk (.mk (.mk (.mk (.mk trivial)))))))
      exact G1

@[reducible] def endX : Ctr := {
  X := EyX × EyX
  Y := Unit
  args := fun x => [.ptr 0 0]
  rw := fun x => eyeE 0 x.1.l x.1.e
  side := fun x => x.1.l.length ≤ 274877906944 ∧ enS x.1 = x.2
  val := fun _ => ()
  ens := fun _ _ => True
  res := fun x _ => .v (.int .i64 x.2.e)
  out := fun x _ => eyeE 0 x.2.l x.2.e }
theorem endX_ok : endX.ok Tryz.prog 53 := ctr_re (C := endC) (fun x => x.1) (fun x h => ⟨h.1, trivial, rfl, rfl, by show SV.v (.int .i64 x.2.e) = SV.v (.int .i64 (enS x.1).e); rw [h.2], by show eyeE _ _ _ = eyeE _ (enS x.1).l (enS x.1).e; rw [h.2]⟩) end_ok
structure RdX where
  l : List Int
  it : Item
  e : Int
@[reducible] def ireadC : Ctr := {
  X := RdX
  Y := Unit
  args := fun x => [.ro true (.int .u8) x.l]
  rw := fun _ => []
  side := fun x => okE ⟨x.l, 0⟩ ∧ readI x.l = (x.it, x.e)
  val := fun _ => ()
  ens := fun _ _ => True
  res := fun x _ => .tuple [itemA x.it, .v (.int .i64 x.e)]
  out := fun x _ => [] }
theorem knownIrd : Known Tryz.prog (gOf [(30, readC), (31, igetC), (53, endX)]) :=
  known_cons ⟨read_ok, Tryz.call30⟩ (known_cons ⟨iget_ok, Tryz.call31⟩ (known_cons ⟨endX_ok, Tryz.call53⟩ (known_nil _)))
theorem iread_ok : ireadC.ok Tryz.prog 15 := by
  refine ok_of_vc (An := fun _ => anOf []) knownIrd mo Tryz.func15 (by kernel_rfl) (by kernel_rfl) (fun _ _ => trivial) (fun (x : RdX) hs => ?_)
  obtain ⟨l, it, e⟩ := x
  obtain ⟨hok, hr⟩ := hs
  dsimp only at hok hr
  obtain ⟨⟨it0, z0⟩, q0⟩ : ∃ r, getI ⟨l, 0⟩ = r := ⟨_, rfl⟩
  have o0 := getI_okE hok
  obtain ⟨⟨zl, ze⟩, q1⟩ : ∃ r, enS z0 = r := ⟨_, rfl⟩
  unfold readI at hr
  rw [q0] at hr o0
  dsimp only at hr o0
  rw [q1] at hr
  dsimp only at hr
  have hlen : l.length ≤ 274877906944 := hok.2
  have o0l := o0.2
  by_cases he0 : ze = 0
  · rw [if_pos he0] at hr
    obtain ⟨rfl, rfl⟩ := Prod.mk.inj hr
    subst he0
    have ck : Hc readC l (Hc igetC ⟨⟨l, 0⟩, it0, z0⟩ (Hc endX (z0, ⟨zl, 0⟩) True)) := .mk (.mk (.mk trivial))
    exact G1
  · rw [if_neg he0] at hr
    obtain ⟨rfl, rfl⟩ := Prod.mk.inj hr
    have ck : Hc readC l (Hc igetC ⟨⟨l, 0⟩, it0, z0⟩ (Hc endX (z0, ⟨zl, ze⟩) True)) := .mk (.mk (.mk trivial))
    exact G1
end Go.Proofs.YthmbdjhlfieldaaGreatDoor

set_option linter.unusedVariables false
set_option linter.unusedSimpArgs false
set_option maxRecDepth 100000
set_option maxHeartbeats 4000000
namespace Go.Proofs.YthmbdjhlfieldaaGreatDoor
open Go.Eng
end Go.Proofs.YthmbdjhlfieldaaGreatDoor

set_option linter.unusedVariables false
set_option linter.unusedSimpArgs false
set_option maxRecDepth 100000
set_option maxHeartbeats 4000000
namespace Go.Proofs.YthmbdjhlfieldaaGreatDoor
open Go.Eng
end Go.Proofs.YthmbdjhlfieldaaGreatDoor

set_option linter.unusedVariables false
set_option linter.unusedSimpArgs false
set_option maxRecDepth 100000
set_option maxHeartbeats 4000000
namespace Go.Proofs.YthmbdjhlfieldaaGreatDoor
open Go.Eng
/-- A digit. -/
def digI (d : Int) : Int := if d < 10 then 48 + d else 87 + d
theorem digI_lt {d : Int} (h : d < 10) : digI d = 48 + d := if_pos h
theorem digI_ge {d : Int} (h : ¬ d < 10) : digI d = 87 + d := if_neg h
def hexL : List Int → List Int
  | [] => []
  | c :: l => digI (c / 16) :: digI (c % 16) :: hexL l
theorem hexL_app : ∀ (a b : List Int), hexL (a ++ b) = hexL a ++ hexL b
  | [], b => rfl
  | c :: a, b => by simp [hexL, hexL_app a b]
theorem hexL_len : ∀ a : List Int, (hexL a).length = 2 * a.length
  | [] => rfl
  | c :: a => by simp [hexL, hexL_len a]; omega
theorem dig_at (d : Int) (h0 : 0 ≤ d) (h1 : d < 16) : byteAt ⟨#[48, 49, 50, 51, 52, 53, 54, 55, 56, 57, 97, 98, 99, 100, 101, 102]⟩ d.toNat = digI d := by
  obtain ⟨n, rfl⟩ := Int.eq_ofNat_of_zero_le h0
  have hn : n < 16 := by omega
  have key : ∀ m : Fin 16, byteAt ⟨#[48, 49, 50, 51, 52, 53, 54, 55, 56, 57, 97, 98, 99, 100, 101, 102]⟩ (((m : Nat) : Int).toNat) = digI ((m : Nat) : Int) := by decide
  exact key ⟨n, hn⟩
theorem and15 (c : Int) (h0 : 0 ≤ c) (h1 : c < 256) : IntKind.u8.wrap ((BitVec.ofInt IntKind.u8.bits c &&& BitVec.ofInt IntKind.u8.bits 15).toNat : Nat) = c % 16 := by
  obtain ⟨n, rfl⟩ := Int.eq_ofNat_of_zero_le h0
  have hn : n < 256 := by omega
  have key : ∀ m : Fin 256, IntKind.u8.wrap ((BitVec.ofInt IntKind.u8.bits ((m : Nat) : Int) &&& BitVec.ofInt IntKind.u8.bits 15).toNat : Nat) = ((m : Nat) : Int) % 16 := by decide
  exact key ⟨n, hn⟩
theorem shr4 (c : Int) : c.fdiv (2 ^ min (4 : Int).toNat IntKind.u8.bits) = c / 16 := by
  have : min (4 : Int).toNat IntKind.u8.bits = 4 := rfl
  rw [this, Int.fdiv_eq_ediv_of_nonneg _ (by decide)]
  rfl

@[reducible] def hexesV : Ctr := {
  X := List Int
  Y := Unit
  args := fun x => [.ro true (.int .u8) x]
  rw := fun _ => []
  side := fun x => okB x ∧ x.length ≤ 100000000000
  val := fun _ => ()
  ens := fun _ _ => True
  res := fun x _ => .v (.string (strOfNums (hexL x)))
  out := fun _ _ => [] }
@[reducible] def hexesL (x : List Int) : LA := {
  X := Nat
  pre := fun i => i ≤ x.length
  mu := fun i => x.length - i
  T := fun i => [(3, .sl 2), (6, .ro true (.int .u8) x), (7, .v (.int .i64 x.length)), (8, .v (.int .i64 (i : Nat)))]
  M := fun i => [(2, .row 5 (.int .u8) (hexL (x.take i)))] }
theorem hexes_ok : hexesV.ok Tryz.prog 43 := by
  refine ok_of_vc (An := fun (x : List Int) => anOf [(0, .loop (hexesL x))]) (known_nil _) mo Tryz.func43 (by kernel_rfl) (by kernel_rfl) (fun _ _ => trivial) (fun (x : List Int) hs => ?_)
  obtain ⟨hb, hl⟩ : okB x ∧ x.length ≤ 100000000000 := hs
  (refine Z ?_; repeat' (first | exact .intro | ((first | refine B1 (fun h => ?_) fun h => ?_ | refine B2 fun y he he' hy => ?_ | refine B3 fun y he hy => ?_ | refine B4 fun y hy => ?_ | refine B5 fun ck => ?_ | fail) <;> refine Z ?_)))
  refine Some'.mk (0 : Nat) ?_
  (refine Z ?_; repeat' (first | exact .intro | ((first | refine B1 (fun h => ?_) fun h => ?_ | refine B2 fun y he he' hy => ?_ | refine B3 fun y he hy => ?_ | refine B4 fun y hy => ?_ | refine B5 fun ck => ?_ | fail) <;> refine Z ?_)))
  refine AllI.mk ?_
  rintro (i : Nat) hi
  dsimp only at hi
  have h2 := hexL_len (x.take i)
  have h3 : (x.take i).length ≤ x.length := by rw [List.length_take]; omega
  by_cases e : i = x.length
  · subst e
    rw [List.take_length] at h2
    have ht : x.take x.length = x := List.take_length
    exact G1
  · obtain ⟨c, hc⟩ : ∃ c, x[i]? = some c := ⟨_, List.getElem?_eq_getElem (by omega)⟩
    obtain ⟨c0, c1⟩ := hb c (List.mem_of_getElem? hc)
    (refine Zm ?_; repeat' (first | exact .intro | ((first | refine B1 (fun h => ?_) fun h => ?_ | refine B2 fun y he he' hy => ?_ | refine B3 fun y he hy => ?_ | refine B4 fun y hy => ?_ | refine B5 fun ck => ?_ | fail) <;> refine Zm ?_)))
    refine All'.mk ?_; rintro (c' : Int) hc'
    obtain rfl : c = c' := Option.some.inj (hc.symm.trans hc')
    have e1 := shr4 c
    have e2 := and15 c c0 c1
    have e3 := dig_at (c / 16) (by omega) (by omega)
    have e4 := dig_at (c % 16) (by omega) (by omega)
    (refine Z ?_; repeat' (first | exact .intro | ((first | refine B1 (fun h => ?_) fun h => ?_ | refine B2 fun y he he' hy => ?_ | refine B3 fun y he hy => ?_ | refine B4 fun y hy => ?_ | refine B5 fun ck => ?_ | fail) <;> refine Z ?_)))
    refine Ask.mk (by rw [e1]; exact ⟨by omega, by show c / 16 < 16; omega⟩) ?_
    (refine Z ?_; repeat' (first | exact .intro | ((first | refine B1 (fun h => ?_) fun h => ?_ | refine B2 fun y he he' hy => ?_ | refine B3 fun y he hy => ?_ | refine B4 fun y hy => ?_ | refine B5 fun ck => ?_ | fail) <;> refine Z ?_)))
    refine Ask.mk (by rw [e2]; exact ⟨by omega, by show c % 16 < 16; omega⟩) ?_
    (refine Z ?_; repeat' (first | exact .intro | ((first | refine B1 (fun h => ?_) fun h => ?_ | refine B2 fun y he he' hy => ?_ | refine B3 fun y he hy => ?_ | refine B4 fun y hy => ?_ | refine B5 fun ck => ?_ | fail) <;> refine Z ?_)))
    refine Some'.mk (i + 1) ?_
    (refine Z ?_; repeat' (first | exact .intro | ((first | refine B1 (fun h => ?_) fun h => ?_ | refine B2 fun y he he' hy => ?_ | refine B3 fun y he hy => ?_ | refine B4 fun y hy => ?_ | refine B5 fun ck => ?_ | fail) <;> refine Z ?_)))
    refine AskL.mk ?_ ?_
    · simp only [conj]
      have hc : (x : List Int)[i]? = some c := hc
      rw [take_get hc, hexL_app, e1, e2, e3, e4]
      (repeat' apply And.intro) <;> first | rfl | trivial | omega
    exact G1

@[reducible] def rHexC : Ctr := {
  X := ByteArray
  Y := Unit
  args := fun x => [.v (.string x)]
  rw := fun _ => []
  side := fun x => x.size ≤ 100000000000
  val := fun _ => ()
  ens := fun _ _ => True
  res := fun x _ => .v (.string (strOfNums (hexL (bytesL x))))
  out := fun _ _ => [] }
@[reducible] def rHexL (x : ByteArray) : LA := {
  X := Nat
  pre := fun i => i ≤ x.size
  mu := fun i => x.size - i
  T := fun i => [(0, .v (.string x)), (3, .v (.string (strOfNums (hexL ((bytesL x).take i))))), (4, .v (.int .i64 (i : Nat)))]
  M := fun i => [] }
def part2 (c : Int) (j : Nat) : List Int := ([digI (c / 16), digI (c % 16)] : List Int).take j
@[reducible] def rHexL2 (x : ByteArray) (i : Nat) : LA := {
  X := Nat
  pre := fun j => j ≤ 2
  mu := fun j => 2 - j
  T := fun j => [(0, .v (.string x)), (3, .v (.string (strOfNums (hexL ((bytesL x).take i) ++ part2 (byteAt x i) j)))), (4, .v (.int .i64 (i : Nat))), (21, .ro false (.int .u8) [byteAt x i / 16, byteAt x i % 16]), (22, .v (.int .i64 2)), (23, .v (.int .i64 (j : Nat)))]
  M := fun j => [] }
theorem rHex_ok : rHexC.ok Tryz.prog 27 := by
  refine ok_of_vc (An := fun (x : ByteArray) => anOfM fun ms => [(0, .loop (rHexL x)), (2, .loop (rHexL2 x (x.size - ms.headD 0)))]) (known_nil _) mo Tryz.func27 (by kernel_rfl) (by kernel_rfl) (fun _ _ => trivial) (fun (x : ByteArray) hs => ?_)
  have hs : x.size ≤ 100000000000 := hs
  (refine Z ?_; repeat' (first | exact .intro | ((first | refine B1 (fun h => ?_) fun h => ?_ | refine B2 fun y he he' hy => ?_ | refine B3 fun y he hy => ?_ | refine B4 fun y hy => ?_ | refine B5 fun ck => ?_ | fail) <;> refine Z ?_)))
  refine Some'.mk (0 : Nat) ?_
  (refine Z ?_; repeat' (first | exact .intro | ((first | refine B1 (fun h => ?_) fun h => ?_ | refine B2 fun y he he' hy => ?_ | refine B3 fun y he hy => ?_ | refine B4 fun y hy => ?_ | refine B5 fun ck => ?_ | fail) <;> refine Z ?_)))
  refine AllI.mk ?_
  rintro (i : Nat) hi
  have hi : i ≤ x.size := hi
  have hbl := bytesL_length x
  have h2 := hexL_len ((bytesL x).take i)
  rw [List.length_take, hbl] at h2
  by_cases e : i = x.size
  · subst e
    have ht : (bytesL x).take x.size = bytesL x := by rw [← hbl]; exact List.take_length
    exact G1
  · obtain ⟨c0, c1⟩ := byteAt_rng x i
    have hc := byteAt_some (s := x) (i := i) (by omega)
    have hms : x.size - (x.size - i) = i := by omega
    have hd : (byteAt x i).tdiv 16 = byteAt x i / 16 := Int.tdiv_eq_ediv_of_nonneg c0
    have hm : (byteAt x i).tmod 16 = byteAt x i % 16 := Int.tmod_eq_emod_of_nonneg c0
    (refine Z ?_; repeat' (first | exact .intro | ((first | refine B1 (fun h => ?_) fun h => ?_ | refine B2 fun y he he' hy => ?_ | refine B3 fun y he hy => ?_ | refine B4 fun y hy => ?_ | refine B5 fun ck => ?_ | fail) <;> refine Z ?_)))
    refine Ar.fit (wrap_u8 (by show 0 ≤ (byteAt x i).tdiv 16; omega) (by show (byteAt x i).tdiv 16 ≤ 255; omega)) ?_
    (refine Z ?_; repeat' (first | exact .intro | ((first | refine B1 (fun h => ?_) fun h => ?_ | refine B2 fun y he he' hy => ?_ | refine B3 fun y he hy => ?_ | refine B4 fun y hy => ?_ | refine B5 fun ck => ?_ | fail) <;> refine Z ?_)))
    rw [show x.size - [(rHexL x).mu i].headD 0 = i from hms]
    refine Some'.mk (0 : Nat) ?_
    have lm := And.intro hd hm
    (refine Z ?_; repeat' (first | exact .intro | ((first | refine B1 (fun h => ?_) fun h => ?_ | refine B2 fun y he he' hy => ?_ | refine B3 fun y he hy => ?_ | refine B4 fun y hy => ?_ | refine B5 fun ck => ?_ | fail) <;> refine Z ?_)))
    have hz : part2 (byteAt x i) 0 = [] := rfl
    refine AskL.mk ?_ ?_
    · simp only [conj, hz, List.append_nil]
      (repeat' apply And.intro) <;> first | rfl | trivial | assumption
    (refine Z ?_; repeat' (first | exact .intro | ((first | refine B1 (fun h => ?_) fun h => ?_ | refine B2 fun y he he' hy => ?_ | refine B3 fun y he hy => ?_ | refine B4 fun y hy => ?_ | refine B5 fun ck => ?_ | fail) <;> refine Z ?_)))
    refine AllI.mk ?_
    rintro (j : Nat) hj
    have hj : j ≤ 2 := hj
    have hj : j = 0 ∨ j = 1 ∨ j = 2 := by omega
    rcases hj with rfl | rfl | rfl
    · have hg1 := digI_lt (d := byteAt x i / 16)
      have hg2 := digI_ge (d := byteAt x i / 16)
      (refine Zm ?_; repeat' (first | exact .intro | ((first | refine B1 (fun h => ?_) fun h => ?_ | refine B2 fun y he he' hy => ?_ | refine B3 fun y he hy => ?_ | refine B4 fun y hy => ?_ | refine B5 fun ck => ?_ | fail) <;> refine Zm ?_)))
      refine All'.mk ?_; rintro (y : Int) hy
      have e : y = byteAt x i / 16 := (Option.some.inj hy).symm
      subst e
      (refine Z ?_; repeat' (first | exact .intro | ((first | refine B1 (fun h => ?_) fun h => ?_ | refine B2 fun y he he' hy => ?_ | refine B3 fun y he hy => ?_ | refine B4 fun y hy => ?_ | refine B5 fun ck => ?_ | fail) <;> refine Z ?_)))
      all_goals
        refine Ask.mk (by simp only [str_size, List.length_append, h2]; simp [part2]; omega) ?_
        (refine Z ?_; repeat' (first | exact .intro | ((first | refine B1 (fun h => ?_) fun h => ?_ | refine B2 fun y he he' hy => ?_ | refine B3 fun y he hy => ?_ | refine B4 fun y hy => ?_ | refine B5 fun ck => ?_ | fail) <;> refine Z ?_)))
        refine Some'.mk (1 : Nat) ?_
        (refine Zn ?_; repeat' (first | exact .intro | ((first | refine B1 (fun h => ?_) fun h => ?_ | refine B2 fun y he he' hy => ?_ | refine B3 fun y he hy => ?_ | refine B4 fun y hy => ?_ | refine B5 fun ck => ?_ | fail) <;> refine Zn ?_)))
        refine AskL.mk ?_ ?_
        · simp only [conj, str_cat, List.append_assoc]
          simp only [part2]
          first | rw [digI_lt h] | rw [digI_ge h]
          (repeat' apply And.intro) <;> first | rfl | trivial
        (refine Z ?_; repeat' (first | exact .intro | ((first | refine B1 (fun h => ?_) fun h => ?_ | refine B2 fun y he he' hy => ?_ | refine B3 fun y he hy => ?_ | refine B4 fun y hy => ?_ | refine B5 fun ck => ?_ | fail) <;> refine Z ?_)))
    · have hg1 := digI_lt (d := byteAt x i % 16)
      have hg2 := digI_ge (d := byteAt x i % 16)
      (refine Zm ?_; repeat' (first | exact .intro | ((first | refine B1 (fun h => ?_) fun h => ?_ | refine B2 fun y he he' hy => ?_ | refine B3 fun y he hy => ?_ | refine B4 fun y hy => ?_ | refine B5 fun ck => ?_ | fail) <;> refine Zm ?_)))
      refine All'.mk ?_; rintro (y : Int) hy
      have e : y = byteAt x i % 16 := (Option.some.inj hy).symm
      subst e
      (refine Z ?_; repeat' (first | exact .intro | ((first | refine B1 (fun h => ?_) fun h => ?_ | refine B2 fun y he he' hy => ?_ | refine B3 fun y he hy => ?_ | refine B4 fun y hy => ?_ | refine B5 fun ck => ?_ | fail) <;> refine Z ?_)))
      all_goals
        refine Ask.mk (by simp only [str_size, List.length_append, h2]; simp [part2]; omega) ?_
        (refine Z ?_; repeat' (first | exact .intro | ((first | refine B1 (fun h => ?_) fun h => ?_ | refine B2 fun y he he' hy => ?_ | refine B3 fun y he hy => ?_ | refine B4 fun y hy => ?_ | refine B5 fun ck => ?_ | fail) <;> refine Z ?_)))
        refine Some'.mk (2 : Nat) ?_
        (refine Zn ?_; repeat' (first | exact .intro | ((first | refine B1 (fun h => ?_) fun h => ?_ | refine B2 fun y he he' hy => ?_ | refine B3 fun y he hy => ?_ | refine B4 fun y hy => ?_ | refine B5 fun ck => ?_ | fail) <;> refine Zn ?_)))
        refine AskL.mk ?_ ?_
        · simp only [conj, str_cat, List.append_assoc]
          simp only [part2]
          first | rw [digI_lt h] | rw [digI_ge h]
          (repeat' apply And.intro) <;> first | rfl | trivial
        (refine Z ?_; repeat' (first | exact .intro | ((first | refine B1 (fun h => ?_) fun h => ?_ | refine B2 fun y he he' hy => ?_ | refine B3 fun y he hy => ?_ | refine B4 fun y hy => ?_ | refine B5 fun ck => ?_ | fail) <;> refine Z ?_)))
    · have ht := take_get hc
      have hp : part2 (byteAt x i) 2 = hexL [byteAt x i] := rfl
      (refine Z ?_; repeat' (first | exact .intro | ((first | refine B1 (fun h => ?_) fun h => ?_ | refine B2 fun y he he' hy => ?_ | refine B3 fun y he hy => ?_ | refine B4 fun y hy => ?_ | refine B5 fun ck => ?_ | fail) <;> refine Z ?_)))
      refine Some'.mk (i + 1) ?_
      (refine Zn ?_; repeat' (first | exact .intro | ((first | refine B1 (fun h => ?_) fun h => ?_ | refine B2 fun y he he' hy => ?_ | refine B3 fun y he hy => ?_ | refine B4 fun y hy => ?_ | refine B5 fun ck => ?_ | fail) <;> refine Zn ?_)))
      refine AskL.mk ?_ ?_
      · simp only [conj, hp]
        rw [ht, hexL_app]
        (repeat' apply And.intro) <;> first | rfl | trivial
      exact G1
def isH (c : Int) : Bool := decide (48 ≤ c ∧ c ≤ 57) || decide (97 ≤ c ∧ c ≤ 102)
/-- What a digit counts; 15: it is none. -/
def uI (c : Int) : Int := if 48 ≤ c ∧ c ≤ 57 then c - 48 else if 97 ≤ c ∧ c ≤ 102 then c - 87 else 15
theorem uI_rng (c : Int) : 0 ≤ uI c ∧ uI c < 16 := by
  unfold uI
  split
  · omega
  · split <;> omega
def unhexL : List Int → List Int
  | a :: b :: l => (uI a * 16 + uI b) :: unhexL l
  | _ => []
theorem unhexL_snoc : ∀ (k : Nat) (l : List Int) (a b : Int), l.length = 2 * k → unhexL (l ++ [a, b]) = unhexL l ++ [uI a * 16 + uI b]
  | 0, [], a, b, _ => rfl
  | k + 1, x :: y :: l, a, b, h => by
    have := unhexL_snoc k l a b (by simp at h; omega)
    simp only [List.cons_append, unhexL, this]
  | 0, _ :: _, _, _, h => by simp at h
  | k + 1, [], _, _, h => by simp at h
  | k + 1, [_], _, _, h => by simp at h; omega
theorem unhexL_odd : ∀ (k : Nat) (l r : List Int), l.length = 2 * k → r.length ≤ 1 → unhexL (l ++ r) = unhexL l
  | 0, [], [], _, _ => rfl
  | 0, [], [_], _, _ => rfl
  | k + 1, x :: y :: l, r, h, hr => by
    have := unhexL_odd k l r (by simp at h; omega) hr
    simp only [List.cons_append, unhexL, this]
  | 0, [], _ :: _ :: _, _, h => by simp at h
  | 0, _ :: _, _, h, _ => by simp at h
  | k + 1, [], _, h, _ => by simp at h
  | k + 1, [_], _, h, _ => by simp at h; omega
theorem unhexL_len : ∀ (k : Nat) (l : List Int), l.length ≤ 2 * k → (unhexL l).length ≤ k
  | _, [], _ => Nat.zero_le _
  | _, [_], _ => Nat.zero_le _
  | k + 1, _ :: _ :: l, h => by
    have := unhexL_len k l (by simp at h; omega)
    simp only [unhexL, List.length_cons]; omega
  | 0, _ :: _ :: _, h => by simp at h
theorem unhexL_ok : ∀ (l : List Int), okB (unhexL l)
  | [] => fun c hc => by cases hc
  | [_] => fun c hc => by cases hc
  | a :: b :: l => by
    have := uI_rng a
    have := uI_rng b
    exact okB_cons (by omega) (unhexL_ok l)

def digS : ByteArray := ⟨#[48, 49, 50, 51, 52, 53, 54, 55, 56, 57, 97, 98, 99, 100, 101, 102]⟩
theorem u8_back (c : Int) (h0 : 0 ≤ c) (h1 : c < 256) : (((c.toNat.toUInt8).toNat : Nat) : Int) = c := by
  have : (c.toNat.toUInt8).toNat = c.toNat % 256 := UInt8.toNat_ofNat'
  rw [this]; omega
/-- What two bytes make. -/
def mkI (c d : Int) : Int := IntKind.u8.wrap (IntKind.i64.wrap ((BitVec.ofInt IntKind.i64.bits (Lib.indexByte digS.data.toList c.toNat.toUInt8 * 2 ^ min (4 : Int).toNat IntKind.i64.bits) |||
  BitVec.ofInt IntKind.i64.bits (IntKind.i64.wrap ((BitVec.ofInt IntKind.i64.bits (Lib.indexByte digS.data.toList d.toNat.toUInt8) &&& BitVec.ofInt IntKind.i64.bits 15).toNat : Nat))).toNat : Nat))
def mk2 (u v : Int) : Int := IntKind.u8.wrap (IntKind.i64.wrap ((BitVec.ofInt IntKind.i64.bits (u * 2 ^ min (4 : Int).toNat IntKind.i64.bits) |||
  BitVec.ofInt IntKind.i64.bits (IntKind.i64.wrap ((BitVec.ofInt IntKind.i64.bits v &&& BitVec.ofInt IntKind.i64.bits 15).toNat : Nat))).toNat : Nat))
theorem ixb (c : Int) (h0 : 0 ≤ c) (h1 : c < 256) : Lib.indexByte digS.data.toList c.toNat.toUInt8 = (if isH c then uI c else -1) := by
  obtain ⟨n, rfl⟩ := Int.eq_ofNat_of_zero_le h0
  have hn : n < 256 := by omega
  have key : ∀ m : Fin 256, Lib.indexByte digS.data.toList (((m : Nat) : Int).toNat.toUInt8) = (if isH ((m : Nat) : Int) then uI ((m : Nat) : Int) else -1) := by decide
  exact key ⟨n, hn⟩
theorem mk2_eq (u v : Fin 17) : mk2 ((u : Nat) - 1 : Int) ((v : Nat) - 1 : Int) = (if (u : Nat) = 0 then 15 else ((u : Nat) - 1 : Int)) * 16 + (if (v : Nat) = 0 then 15 else ((v : Nat) - 1 : Int)) := by
  revert u v
  decide
theorem mkI_eq (c d : Int) (h0 : 0 ≤ c) (h1 : c < 256) (g0 : 0 ≤ d) (g1 : d < 256) : mkI c d = uI c * 16 + uI d := by
  have e : mkI c d = mk2 (if isH c then uI c else -1) (if isH d then uI d else -1) := by rw [← ixb c h0 h1, ← ixb d g0 g1]; rfl
  have hc := uI_rng c
  have hd := uI_rng d
  have key := mk2_eq ⟨((if isH c then uI c else -1) + 1).toNat, by split <;> omega⟩ ⟨((if isH d then uI d else -1) + 1).toNat, by split <;> omega⟩
  have nc : ∀ x : Int, isH x = false → uI x = 15 := fun x hx => by
    simp only [isH, Bool.or_eq_false_iff, decide_eq_false_iff_not] at hx
    unfold uI; rw [if_neg hx.1, if_neg hx.2]
  have ec : ((((if isH c then uI c else -1) + 1).toNat : Int) - 1) = (if isH c then uI c else -1) := by split <;> omega
  have ed : ((((if isH d then uI d else -1) + 1).toNat : Int) - 1) = (if isH d then uI d else -1) := by split <;> omega
  dsimp only at key
  rw [ec, ed] at key
  rw [e, key]
  cases h1 : isH c <;> cases h2 : isH d <;> simp [nc c, nc d, h1, h2] <;> omega

theorem knownA4 : Known Tryz.prog (gOf [(86, indexByteC)]) := known_cons ⟨indexByte_ok, Tryz.call86⟩ (known_nil _)
@[reducible] def unhexedC : Ctr := {
  X := ByteArray
  Y := Unit
  args := fun x => [.v (.string x)]
  rw := fun _ => []
  side := fun x => x.size ≤ 100000000000
  val := fun _ => ()
  ens := fun _ _ => True
  res := fun x _ => .ro false (.int .u8) (unhexL (bytesL x))
  out := fun _ _ => [] }
@[reducible] def unhexedL (x : ByteArray) : LA := {
  X := Nat
  pre := fun i => 2 * i ≤ x.size
  mu := fun i => x.size - 2 * i
  T := fun i => [(0, .v (.string x)), (3, .sl 2), (4, .v (.int .i64 (2 * i : Nat)))]
  M := fun i => [(2, .row 5 (.int .u8) (unhexL ((bytesL x).take (2 * i))))] }
theorem unhexed_ok : unhexedC.ok Tryz.prog 39 := by
  refine ok_of_vc (An := fun (x : ByteArray) => anOf [(0, .loop (unhexedL x))]) knownA4 mo Tryz.func39 (by kernel_rfl) (by kernel_rfl) (fun _ _ => trivial) (fun (x : ByteArray) hs => ?_)
  have hs : x.size ≤ 100000000000 := hs
  (refine Z ?_; repeat' (first | exact .intro | ((first | refine B1 (fun h => ?_) fun h => ?_ | refine B2 fun y he he' hy => ?_ | refine B3 fun y he hy => ?_ | refine B4 fun y hy => ?_ | refine B5 fun ck => ?_ | fail) <;> refine Z ?_)))
  refine Some'.mk (0 : Nat) ?_
  (refine Z ?_; repeat' (first | exact .intro | ((first | refine B1 (fun h => ?_) fun h => ?_ | refine B2 fun y he he' hy => ?_ | refine B3 fun y he hy => ?_ | refine B4 fun y hy => ?_ | refine B5 fun ck => ?_ | fail) <;> refine Z ?_)))
  refine AllI.mk ?_
  rintro (i : Nat) hi
  have hi : 2 * i ≤ x.size := hi
  have hbl := bytesL_length x
  have hln := unhexL_len i ((bytesL x).take (2 * i)) (by rw [List.length_take]; omega)
  by_cases e : 2 * i + 1 < x.size
  · obtain ⟨c0, c1⟩ := byteAt_rng x (2 * i)
    obtain ⟨d0, d1⟩ := byteAt_rng x (2 * i + 1)
    have hc := byteAt_some (s := x) (i := 2 * i) (by omega)
    have hd := byteAt_some (s := x) (i := 2 * i + 1) (by omega)
    have hci := ixb (byteAt x (2 * i)) c0 c1
    have hr := uI_rng (byteAt x (2 * i))
    (refine Z ?_; repeat' (first | exact .intro | ((first | refine B1 (fun h => ?_) fun h => ?_ | refine B2 fun y he he' hy => ?_ | refine B3 fun y he hy => ?_ | refine B4 fun y hy => ?_ | refine B5 fun ck => ?_ | fail) <;> refine Z ?_)))
    refine CallP.mk (C := indexByteC) ⟨digS, (byteAt x (2 * i)).toNat.toUInt8⟩ ?_
    (refine Zn ?_; repeat' (first | exact .intro | ((first | refine B1 (fun h => ?_) fun h => ?_ | refine B2 fun y he he' hy => ?_ | refine B3 fun y he hy => ?_ | refine B4 fun y hy => ?_ | refine B5 fun ck => ?_ | fail) <;> refine Zn ?_)))
    refine AskL.mk ⟨rfl, (u8_back _ c0 c1).symm⟩ ?_
    have hci' : -1 ≤ Lib.indexByte digS.data.toList (byteAt x (2 * i)).toNat.toUInt8 ∧ Lib.indexByte digS.data.toList (byteAt x (2 * i)).toNat.toUInt8 < 16 := by rw [hci]; split <;> omega
    (refine Z ?_; repeat' (first | exact .intro | ((first | refine B1 (fun h => ?_) fun h => ?_ | refine B2 fun y he he' hy => ?_ | refine B3 fun y he hy => ?_ | refine B4 fun y hy => ?_ | refine B5 fun ck => ?_ | fail) <;> refine Z ?_)))
    refine Ar.fit (wrap_i64 (by show (_ : Int) ≤ Lib.indexByte digS.data.toList (byteAt x (2 * i)).toNat.toUInt8 * 16; omega) (by show Lib.indexByte digS.data.toList (byteAt x (2 * i)).toNat.toUInt8 * 16 ≤ (_ : Int); omega)) ?_
    (refine Z ?_; repeat' (first | exact .intro | ((first | refine B1 (fun h => ?_) fun h => ?_ | refine B2 fun y he he' hy => ?_ | refine B3 fun y he hy => ?_ | refine B4 fun y hy => ?_ | refine B5 fun ck => ?_ | fail) <;> refine Z ?_)))
    refine CallP.mk (C := indexByteC) ⟨digS, (byteAt x (2 * i + 1)).toNat.toUInt8⟩ ?_
    (refine Zn ?_; repeat' (first | exact .intro | ((first | refine B1 (fun h => ?_) fun h => ?_ | refine B2 fun y he he' hy => ?_ | refine B3 fun y he hy => ?_ | refine B4 fun y hy => ?_ | refine B5 fun ck => ?_ | fail) <;> refine Zn ?_)))
    refine AskL.mk ⟨rfl, (u8_back _ d0 d1).symm⟩ ?_
    (refine Z ?_; repeat' (first | exact .intro | ((first | refine B1 (fun h => ?_) fun h => ?_ | refine B2 fun y he he' hy => ?_ | refine B3 fun y he hy => ?_ | refine B4 fun y hy => ?_ | refine B5 fun ck => ?_ | fail) <;> refine Z ?_)))
    refine Some'.mk (i + 1) ?_
    (refine Zn ?_; repeat' (first | exact .intro | ((first | refine B1 (fun h => ?_) fun h => ?_ | refine B2 fun y he he' hy => ?_ | refine B3 fun y he hy => ?_ | refine B4 fun y hy => ?_ | refine B5 fun ck => ?_ | fail) <;> refine Zn ?_)))
    refine AskL.mk ?_ ?_
    · simp only [conj]
      rw [show 2 * (i + 1) = 2 * i + 1 + 1 by omega, take_get hd, take_get hc, List.append_assoc]
      have hu := unhexL_snoc i ((bytesL x).take (2 * i)) (byteAt x (2 * i)) (byteAt x (2 * i + 1)) (by rw [List.length_take]; omega)
      rw [← mkI_eq _ _ c0 c1 d0 d1] at hu
      exact ⟨⟨trivial, by omega⟩, (congrArg (fun l => SV.ro true (Ty.int IntKind.u8) l) hu).symm⟩
    exact G1
  · have ht : (bytesL x).take (2 * i) ++ (bytesL x).drop (2 * i) = bytesL x := List.take_append_drop ..
    have ho := unhexL_odd i ((bytesL x).take (2 * i)) ((bytesL x).drop (2 * i)) (by rw [List.length_take]; omega) (by rw [List.length_drop]; omega)
    rw [ht] at ho
    exact G1

def unhexOk (l : List Int) : Bool := decide (l.length % 2 = 0) && l.all isH
@[reducible] def rUnhexC : Ctr := {
  X := ByteArray
  Y := Unit
  args := fun x => [.v (.string x)]
  rw := fun _ => []
  side := fun x => x.size ≤ 100000000000
  val := fun _ => ()
  ens := fun _ _ => True
  res := fun x _ => .tuple [.v (.string (if unhexOk (bytesL x) then strOfNums (unhexL (bytesL x)) else ⟨#[]⟩)), .v (.bool (unhexOk (bytesL x)))]
  out := fun _ _ => [] }
@[reducible] def rUnhexL (x : ByteArray) : LA := {
  X := Nat
  pre := fun i => 2 * i ≤ x.size ∧ ((bytesL x).take (2 * i)).all isH = true
  mu := fun i => x.size - 2 * i
  T := fun i => [(0, .v (.string x)), (4, .v (.string (strOfNums (unhexL ((bytesL x).take (2 * i)))))), (5, .v (.int .i64 (2 * i : Nat)))]
  M := fun i => [] }
def accI (c d : Int) (j : Nat) : Int := match j with | 0 => 0 | 1 => uI c | _ => uI c * 16 + uI d
@[reducible] def rUnhexL2 (x : ByteArray) (i : Nat) : LA := {
  X := Nat
  pre := fun j => j ≤ 2 ∧ ([byteAt x (2 * i), byteAt x (2 * i + 1)].take j).all isH = true
  mu := fun j => 2 - j
  T := fun j => [(0, .v (.string x)), (4, .v (.string (strOfNums (unhexL ((bytesL x).take (2 * i)))))), (5, .v (.int .i64 (2 * i : Nat))), (6, .v (.int .i64 (accI (byteAt x (2 * i)) (byteAt x (2 * i + 1)) j))),
    (26, .ro false (.int .u8) [byteAt x (2 * i), byteAt x (2 * i + 1)]), (27, .v (.int .i64 2)), (28, .v (.int .i64 (j : Nat)))]
  M := fun j => [] }
theorem isH_cases (c : Int) : (isH c = true ∧ ((48 ≤ c ∧ c ≤ 57 ∧ uI c = c - 48) ∨ (97 ≤ c ∧ c ≤ 102 ∧ uI c = c - 87))) ∨ (isH c = false ∧ ¬ (48 ≤ c ∧ c ≤ 57) ∧ ¬ (97 ≤ c ∧ c ≤ 102)) := by
  unfold isH uI
  by_cases h1 : 48 ≤ c ∧ c ≤ 57
  · left; exact ⟨by simp [h1], .inl ⟨h1.1, h1.2, if_pos h1⟩⟩
  · by_cases h2 : 97 ≤ c ∧ c ≤ 102
    · left; exact ⟨by simp [h1, h2], .inr ⟨h2.1, h2.2, by rw [if_neg h1, if_pos h2]⟩⟩
    · right; exact ⟨by simp [h1, h2], h1, h2⟩
theorem not_ok {l : List Int} {i : Nat} {c : Int} (h : l[i]? = some c) (hc : isH c = false) : unhexOk l = false := by
  unfold unhexOk
  have : l.all isH = false := List.all_eq_false.2 ⟨c, List.mem_of_getElem? h, by simp [hc]⟩
  rw [this, Bool.and_false]
theorem rUnhex_ok : rUnhexC.ok Tryz.prog 41 := by
  refine ok_of_vc (An := fun (x : ByteArray) => anOfM fun ms => [(0, .loop (rUnhexL x)), (2, .loop (rUnhexL2 x ((x.size - ms.headD 0) / 2)))]) (known_nil _) mo Tryz.func41 (by kernel_rfl) (by kernel_rfl) (fun _ _ => trivial) (fun (x : ByteArray) hs => ?_)
  have hs : x.size ≤ 100000000000 := hs
  have hbl := bytesL_length x
  have htm : ((x.size : Nat) : Int).tmod 2 = ((x.size % 2 : Nat) : Int) := (Int.ofNat_tmod x.size 2).symm
  by_cases hev : x.size % 2 = 1
  · rw [hev] at htm
    have hno : unhexOk (bytesL x) = false := by
      unfold unhexOk
      rw [decide_eq_false (by omega), Bool.false_and]
    exact G1
  have htm : ((x.size : Nat) : Int).tmod 2 = 0 := by rw [htm]; omega
  (refine Z ?_; repeat' (first | exact .intro | ((first | refine B1 (fun h => ?_) fun h => ?_ | refine B2 fun y he he' hy => ?_ | refine B3 fun y he hy => ?_ | refine B4 fun y hy => ?_ | refine B5 fun ck => ?_ | fail) <;> refine Z ?_)))
  refine Some'.mk (0 : Nat) ?_
  (refine Z ?_; repeat' (first | exact .intro | ((first | refine B1 (fun h => ?_) fun h => ?_ | refine B2 fun y he he' hy => ?_ | refine B3 fun y he hy => ?_ | refine B4 fun y hy => ?_ | refine B5 fun ck => ?_ | fail) <;> refine Z ?_)))
  refine Ask.mk ⟨Nat.zero_le _, rfl⟩ ?_
  (refine Z ?_; repeat' (first | exact .intro | ((first | refine B1 (fun h => ?_) fun h => ?_ | refine B2 fun y he he' hy => ?_ | refine B3 fun y he hy => ?_ | refine B4 fun y hy => ?_ | refine B5 fun ck => ?_ | fail) <;> refine Z ?_)))
  refine AllI.mk ?_
  rintro (i : Nat) ⟨hi, hal⟩
  have hi : 2 * i ≤ x.size := hi
  have hal : ((bytesL x).take (2 * i)).all isH = true := hal
  have hln := unhexL_len i ((bytesL x).take (2 * i)) (by rw [List.length_take]; omega)
  by_cases e : 2 * i < x.size
  · obtain ⟨c0, c1⟩ := byteAt_rng x (2 * i)
    obtain ⟨d0, d1⟩ := byteAt_rng x (2 * i + 1)
    have hc := byteAt_some (s := x) (i := 2 * i) (by omega)
    have hd := byteAt_some (s := x) (i := 2 * i + 1) (by omega)
    have hms : (x.size - (x.size - 2 * i)) / 2 = i := by omega
    (refine Z ?_; repeat' (first | exact .intro | ((first | refine B1 (fun h => ?_) fun h => ?_ | refine B2 fun y he he' hy => ?_ | refine B3 fun y he hy => ?_ | refine B4 fun y hy => ?_ | refine B5 fun ck => ?_ | fail) <;> refine Z ?_)))
    rw [show (x.size - [(rUnhexL x).mu i].headD 0) / 2 = i from hms]
    refine Some'.mk (0 : Nat) ?_
    (refine Z ?_; repeat' (first | exact .intro | ((first | refine B1 (fun h => ?_) fun h => ?_ | refine B2 fun y he he' hy => ?_ | refine B3 fun y he hy => ?_ | refine B4 fun y hy => ?_ | refine B5 fun ck => ?_ | fail) <;> refine Z ?_)))
    refine AllI.mk ?_
    rintro (j : Nat) ⟨hj, hj2⟩
    have hj : j ≤ 2 := hj
    have hj2 : ([byteAt x (2 * i), byteAt x (2 * i + 1)].take j).all isH = true := hj2
    have hj : j = 0 ∨ j = 1 ∨ j = 2 := by omega
    rcases hj with rfl | rfl | rfl
    · (refine Zm ?_; repeat' (first | exact .intro | ((first | refine B1 (fun h => ?_) fun h => ?_ | refine B2 fun y he he' hy => ?_ | refine B3 fun y he hy => ?_ | refine B4 fun y hy => ?_ | refine B5 fun ck => ?_ | fail) <;> refine Zm ?_)))
      refine All'.mk ?_; rintro (y : Int) hy
      have e : y = byteAt x (2 * i) := (Option.some.inj hy).symm
      subst e
      have hwc : IntKind.i64.wrap (byteAt x (2 * i)) = byteAt x (2 * i) := wrap_i64 (by omega) (by omega)
      have hcase := isH_cases (byteAt x (2 * i))
      have ha := uI_rng (byteAt x (2 * i))
      by_cases hH : isH (byteAt x (2 * i)) = true
      · have hcase : (48 ≤ byteAt x (2 * i) ∧ byteAt x (2 * i) ≤ 57 ∧ uI (byteAt x (2 * i)) = byteAt x (2 * i) - 48) ∨ (97 ≤ byteAt x (2 * i) ∧ byteAt x (2 * i) ≤ 102 ∧ uI (byteAt x (2 * i)) = byteAt x (2 * i) - 87) := by
          rcases hcase with h | h
          · exact h.2
          · rw [hH] at h; exact absurd h.1 (by decide)
        have hall : ([byteAt x (2 * i), byteAt x (2 * i + 1)].take (0 + 1)).all isH = true := by
          simp [hH]
        have hacc : accI (byteAt x (2 * i)) (byteAt x (2 * i + 1)) 0 = 0 := rfl
        have hacc2 : accI (byteAt x (2 * i)) (byteAt x (2 * i + 1)) (0 + 1) = uI (byteAt x (2 * i)) := rfl
        have lm := And.intro hacc (And.intro hacc2 hwc)
        rcases hcase with ⟨q1, q2, q3⟩ | ⟨q1, q2, q3⟩
        all_goals
          (refine Z ?_; repeat' (first | exact .intro | ((first | refine B1 (fun h => ?_) fun h => ?_ | refine B2 fun y he he' hy => ?_ | refine B3 fun y he hy => ?_ | refine B4 fun y hy => ?_ | refine B5 fun ck => ?_ | fail) <;> refine Z ?_)))
          refine Some'.mk (0 + 1 : Nat) ?_
          (refine Z ?_; repeat' (first | exact .intro | ((first | refine B1 (fun h => ?_) fun h => ?_ | refine B2 fun y he he' hy => ?_ | refine B3 fun y he hy => ?_ | refine B4 fun y hy => ?_ | refine B5 fun ck => ?_ | fail) <;> refine Z ?_)))
      · have hf : isH (byteAt x (2 * i)) = false := by simpa using hH
        have hcase : ¬ (48 ≤ byteAt x (2 * i) ∧ byteAt x (2 * i) ≤ 57) ∧ ¬ (97 ≤ byteAt x (2 * i) ∧ byteAt x (2 * i) ≤ 102) := by
          rcases hcase with h | h
          · exact absurd h.1 hH
          · exact h.2
        have hno := not_ok hc hf
        exact G1
    · (refine Zm ?_; repeat' (first | exact .intro | ((first | refine B1 (fun h => ?_) fun h => ?_ | refine B2 fun y he he' hy => ?_ | refine B3 fun y he hy => ?_ | refine B4 fun y hy => ?_ | refine B5 fun ck => ?_ | fail) <;> refine Zm ?_)))
      refine All'.mk ?_; rintro (y : Int) hy
      have e : y = byteAt x (2 * i + 1) := (Option.some.inj hy).symm
      subst e
      have hwc : IntKind.i64.wrap (byteAt x (2 * i + 1)) = byteAt x (2 * i + 1) := wrap_i64 (by omega) (by omega)
      have hcase := isH_cases (byteAt x (2 * i + 1))
      have ha := uI_rng (byteAt x (2 * i))
      by_cases hH : isH (byteAt x (2 * i + 1)) = true
      · have hcase : (48 ≤ byteAt x (2 * i + 1) ∧ byteAt x (2 * i + 1) ≤ 57 ∧ uI (byteAt x (2 * i + 1)) = byteAt x (2 * i + 1) - 48) ∨ (97 ≤ byteAt x (2 * i + 1) ∧ byteAt x (2 * i + 1) ≤ 102 ∧ uI (byteAt x (2 * i + 1)) = byteAt x (2 * i + 1) - 87) := by
          rcases hcase with h | h
          · exact h.2
          · rw [hH] at h; exact absurd h.1 (by decide)
        have hall : ([byteAt x (2 * i), byteAt x (2 * i + 1)].take (1 + 1)).all isH = true := by
          simp only [List.take, List.all_cons, List.all_nil, Bool.and_true, Bool.and_eq_true] at hj2 ⊢; exact ⟨hj2, hH⟩
        have hacc : accI (byteAt x (2 * i)) (byteAt x (2 * i + 1)) 1 = uI (byteAt x (2 * i)) := rfl
        have hacc2 : accI (byteAt x (2 * i)) (byteAt x (2 * i + 1)) (1 + 1) = uI (byteAt x (2 * i)) * 16 + uI (byteAt x (2 * i + 1)) := rfl
        have lm := And.intro hacc (And.intro hacc2 hwc)
        rcases hcase with ⟨q1, q2, q3⟩ | ⟨q1, q2, q3⟩
        all_goals
          (refine Z ?_; repeat' (first | exact .intro | ((first | refine B1 (fun h => ?_) fun h => ?_ | refine B2 fun y he he' hy => ?_ | refine B3 fun y he hy => ?_ | refine B4 fun y hy => ?_ | refine B5 fun ck => ?_ | fail) <;> refine Z ?_)))
          refine Some'.mk (1 + 1 : Nat) ?_
          (refine Z ?_; repeat' (first | exact .intro | ((first | refine B1 (fun h => ?_) fun h => ?_ | refine B2 fun y he he' hy => ?_ | refine B3 fun y he hy => ?_ | refine B4 fun y hy => ?_ | refine B5 fun ck => ?_ | fail) <;> refine Z ?_)))
      · have hf : isH (byteAt x (2 * i + 1)) = false := by simpa using hH
        have hcase : ¬ (48 ≤ byteAt x (2 * i + 1) ∧ byteAt x (2 * i + 1) ≤ 57) ∧ ¬ (97 ≤ byteAt x (2 * i + 1) ∧ byteAt x (2 * i + 1) ≤ 102) := by
          rcases hcase with h | h
          · exact absurd h.1 hH
          · exact h.2
        have hno := not_ok hd hf
        exact G1
    · have hdc := uI_rng (byteAt x (2 * i))
      have hdd := uI_rng (byteAt x (2 * i + 1))
      have hacc : accI (byteAt x (2 * i)) (byteAt x (2 * i + 1)) 2 = uI (byteAt x (2 * i)) * 16 + uI (byteAt x (2 * i + 1)) := rfl
      have hw : IntKind.u8.wrap (uI (byteAt x (2 * i)) * 16 + uI (byteAt x (2 * i + 1))) = uI (byteAt x (2 * i)) * 16 + uI (byteAt x (2 * i + 1)) := wrap_u8 (by omega) (by omega)
      (refine Z ?_; repeat' (first | exact .intro | ((first | refine B1 (fun h => ?_) fun h => ?_ | refine B2 fun y he he' hy => ?_ | refine B3 fun y he hy => ?_ | refine B4 fun y hy => ?_ | refine B5 fun ck => ?_ | fail) <;> refine Z ?_)))
      refine Ask.mk (by rw [hacc, hw]; simp only [str_size]; simp only [List.length_cons, List.length_nil]; omega) ?_
      have hu := unhexL_snoc i ((bytesL x).take (2 * i)) (byteAt x (2 * i)) (byteAt x (2 * i + 1)) (by rw [List.length_take]; omega)
      have ht : (bytesL x).take (2 * (i + 1)) = (bytesL x).take (2 * i) ++ [byteAt x (2 * i), byteAt x (2 * i + 1)] := by
        rw [show 2 * (i + 1) = 2 * i + 1 + 1 by omega, take_get hd, take_get hc, List.append_assoc]; rfl
      rw [← ht] at hu
      (refine Z ?_; repeat' (first | exact .intro | ((first | refine B1 (fun h => ?_) fun h => ?_ | refine B2 fun y he he' hy => ?_ | refine B3 fun y he hy => ?_ | refine B4 fun y hy => ?_ | refine B5 fun ck => ?_ | fail) <;> refine Z ?_)))
      refine Some'.mk (i + 1) ?_
      (refine Zn ?_; repeat' (first | exact .intro | ((first | refine B1 (fun h => ?_) fun h => ?_ | refine B2 fun y he he' hy => ?_ | refine B3 fun y he hy => ?_ | refine B4 fun y hy => ?_ | refine B5 fun ck => ?_ | fail) <;> refine Zn ?_)))
      refine AskL.mk ?_ ?_
      · simp only [conj, hacc, hw, str_cat, ← hu]
        (repeat' apply And.intro) <;> first | rfl | trivial | omega
      (refine Z ?_; repeat' (first | exact .intro | ((first | refine B1 (fun h => ?_) fun h => ?_ | refine B2 fun y he he' hy => ?_ | refine B3 fun y he hy => ?_ | refine B4 fun y hy => ?_ | refine B5 fun ck => ?_ | fail) <;> refine Z ?_)))
      refine Ask.mk ⟨by dsimp only; omega, ?_⟩ ?_
      · show ((bytesL x).take (2 * (i + 1))).all isH = true
        rw [ht, List.all_append, hal]
        exact hj2
      exact G1
  · have hie : 2 * i = x.size := by omega
    have ht : (bytesL x).take (2 * i) = bytesL x := by rw [hie, ← hbl]; exact List.take_length
    rw [ht] at hal
    have hok : unhexOk (bytesL x) = true := by unfold unhexOk; rw [hal, decide_eq_true (by omega)]; rfl
    (refine Z ?_; repeat' (first | exact .intro | ((first | refine B1 (fun h => ?_) fun h => ?_ | refine B2 fun y he he' hy => ?_ | refine B3 fun y he hy => ?_ | refine B4 fun y hy => ?_ | refine B5 fun ck => ?_ | fail) <;> refine Z ?_)))
    refine AskL.mk ?_ trivial
    simp only [conj, hok, ht, if_true]
    trivial
end Go.Proofs.YthmbdjhlfieldaaGreatDoor
