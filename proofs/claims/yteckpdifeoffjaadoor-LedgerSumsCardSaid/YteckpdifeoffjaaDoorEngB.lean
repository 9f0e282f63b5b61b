/- The engine, part B: what entries mean, what a step keeps, and the frame rule. -/
import Derived.Test.YteckpdifeoffjaaDoorEngA
import Derived.Test.YteckpdifeoffjaaDoorEngZ
set_option linter.unusedVariables false
namespace Go.Eng

def unfrozen (fz : Nat × Nat) (n : Nat) : Prop := ∀ o, o < n → ¬ (fz.1 ≤ o ∧ o < fz.2)

def EntSat (E : Env) (w : World) (fp : Nat → Prop) (id : Nat) : Ent → Prop
  | .gone => ∀ b, ¬ fp b
  | .cells t cs => ∃ (s : Slot) (arr : Array Value) (fz : Nat × Nat), E.slot id = some s ∧ (∀ b, fp b ↔ b = s.blk) ∧ w.heap[s.blk]? = some (.cells arr t fz) ∧ unfrozen fz arr.size ∧
      arr.size = cs.length ∧ ∀ (j : Nat) (sv : SV), cs[j]? = some sv → ∃ u, arr[j]? = some u ∧ Sat E w sv u
  | .row te t xs => ∃ (s : Slot), E.slot id = some s ∧ ((s.val = .slice none 0 0 ∧ xs = [] ∧ ∀ b, ¬ fp b) ∨
      ∃ (o c : Nat) (arr : Array Value) (fz : Nat × Nat), s.val = .slice (some ⟨s.blk, o, none⟩) xs.length c ∧ (∀ b, fp b ↔ b = s.blk) ∧ w.heap[s.blk]? = some (.cells arr te fz) ∧ unfrozen fz arr.size ∧
        xs.length ≤ c ∧ o + c * t.size = arr.size ∧
        ∀ (i : Nat) (x : t.den) (j : Nat) (sv : SV), xs[i]? = some x → (enc t x)[j]? = some sv → ∃ u, arr[o + i * t.size + j]? = some u ∧ Sat E w sv u)
  | .res F A => (∀ b, F b → (E.I b ∨ E.B b) ∧ b < w.heap.size) ∧ ∃ J : Nat → Prop, (∀ b, J b → E.I b ∧ b < w.heap.size) ∧ A J fp w ∧
      ∀ w', w.heap.size ≤ w'.heap.size → (∀ b, fp b ∨ F b ∨ J b → w'.heap[b]? = w.heap[b]?) → A J fp w'

theorem EntSat.mono {E E' : Env} {w w' : World} {fp : Nat → Prop} {id : Nat} {e : Ent} (hE : E.le E') (hs : Stays E w w') (hz : w.heap.size ≤ w'.heap.size)
    (hb : ∀ b, fp b → w'.heap[b]? = w.heap[b]?) (h : EntSat E w fp id e) : EntSat E' w' fp id e := by
  cases e with
  | gone => exact h
  | cells t cs =>
    obtain ⟨s, arr, fz, h1, h2, h3, h4, h5, h6⟩ := h
    exact ⟨s, arr, fz, hE.slot _ _ h1, h2, (hb _ ((h2 _).2 rfl)).trans h3, h4, h5, fun j sv hj => let ⟨u, hu, hsat⟩ := h6 j sv hj; ⟨u, hu, hsat.mono hE hs⟩⟩
  | row te t xs =>
    obtain ⟨s, h1, h2⟩ := h
    refine ⟨s, hE.slot _ _ h1, ?_⟩
    rcases h2 with h2 | ⟨o, c, arr, fz, g1, g2, g3, g4, g5, g6, g7⟩
    · exact .inl h2
    · exact .inr ⟨o, c, arr, fz, g1, g2, (hb _ ((g2 _).2 rfl)).trans g3, g4, g5, g6, fun i x j sv hi hj => let ⟨u, hu, hsat⟩ := g7 i x j sv hi hj; ⟨u, hu, hsat.mono hE hs⟩⟩
  | res F A =>
    obtain ⟨hF, J, hJ, hA, hst⟩ := h
    have hsame : ∀ b, fp b ∨ F b ∨ J b → w'.heap[b]? = w.heap[b]? := fun b h => by
      rcases h with h | h | h
      · exact hb b h
      · exact hs b (hF b h).1 (hF b h).2
      · exact hs b (.inl (hJ b h).1) (hJ b h).2
    exact ⟨fun b hf => ⟨(hF b hf).1.imp (hE.I b) (hE.B b), Nat.lt_of_lt_of_le (hF b hf).2 hz⟩, J, fun b h => ⟨hE.I b (hJ b h).1, Nat.lt_of_lt_of_le (hJ b h).2 hz⟩, hst w' hz hsame,
      fun w'' hz' hb' => hst w'' (Nat.le_trans hz hz') (fun b hf => (hb' b hf).trans (hsame b hf))⟩

/-- The package-level variables that are known. -/
def GlobOk (E : Env) (w : World) : Prop := ∀ g p, (g, p) ∈ gtab → E.I g ∧ ∃ (a : Array Value) (t : TypeId) (fz : Nat × Nat), w.heap[g]? = some (.cells a t fz) ∧ p a
theorem GlobOk.mono {E E' : Env} {w w' : World} (h : GlobOk E w) (hI : ∀ b, E.I b → E'.I b) (hw : ∀ b, E.I b → w'.heap[b]? = w.heap[b]?) : GlobOk E' w' := fun g p hp => by
  obtain ⟨h1, a, t, fz, h2, h3⟩ := h g p hp
  exact ⟨hI g h1, a, t, fz, (hw g h1).trans h2, h3⟩

structure EntsSat (E : Env) (w : World) (fp : Nat → Nat → Prop) (M : En) : Prop where
  sat : ∀ id, EntSat E w (fp id) id (find M id)
  lt : ∀ id b, fp id b → b < w.heap.size
  I : ∀ id b, fp id b → ¬ E.I b
  B : ∀ id b, fp id b → ¬ E.B b
  apart : ∀ i j b, i ≠ j → fp i b → fp j b → False
  Ilt : ∀ b, E.I b ∨ E.B b → b < w.heap.size
  nil : NilOk E
  gl : GlobOk E w

def own (fp : Nat → Nat → Prop) (b : Nat) : Prop := ∃ id, fp id b

/-- The tape stands. -/
structure TF (w w' : World) : Prop where
  tape : w'.tape = w.tape
theorem TF.refl (w : World) : TF w w := ⟨rfl⟩
theorem TF.trans {w w1 w2 : World} (h : TF w1 w2) (k : TF w w1) : TF w w2 := ⟨h.tape.trans k.tape⟩

structure Keep (own : Nat → Prop) (w w' : World) : Prop where
  os : w'.os = w.os
  tape : TF w w'
  output : w'.output = w.output
  size : w.heap.size ≤ w'.heap.size
  same : ∀ b, b < w.heap.size → ¬ own b → w'.heap[b]? = w.heap[b]?

theorem Keep.refl (o : Nat → Prop) (w : World) : Keep o w w := ⟨rfl, .refl w, rfl, Nat.le_refl _, fun _ _ _ => rfl⟩
theorem Keep.mono {o o' : Nat → Prop} {w w' : World} (h : Keep o w w') (ho : ∀ b, o b → o' b) : Keep o' w w' :=
  ⟨h.os, h.tape, h.output, h.size, fun b hb hn => h.same b hb (fun x => hn (ho b x))⟩

structure Adv (E : Env) (fp : Nat → Nat → Prop) (w : World) (E' : Env) (fp' : Nat → Nat → Prop) (w' : World) : Prop where
  keep : Keep (own fp) w w'
  le : E.le E'
  Inew : ∀ b, E'.I b → E.I b ∨ own fp b ∨ w.heap.size ≤ b
  Beq : ∀ b, E'.B b → E.B b
  onew : ∀ id b, fp' id b → own fp b ∨ w.heap.size ≤ b

theorem Adv.refl (E : Env) (fp : Nat → Nat → Prop) (w : World) : Adv E fp w E fp w :=
  ⟨.refl _ _, .refl _, fun _ h => .inl h, fun _ h => h, fun id _ h => .inl ⟨id, h⟩⟩

theorem Adv.trans {E E1 E2 : Env} {fp fp1 fp2 : Nat → Nat → Prop} {w w1 w2 : World} (h : Adv E fp w E1 fp1 w1) (k : Adv E1 fp1 w1 E2 fp2 w2) : Adv E fp w E2 fp2 w2 := by
  have onew : ∀ b, own fp1 b → own fp b ∨ w.heap.size ≤ b := fun b ⟨id, hb⟩ => h.onew id b hb
  refine ⟨⟨k.keep.os.trans h.keep.os, k.keep.tape.trans h.keep.tape, k.keep.output.trans h.keep.output, Nat.le_trans h.keep.size k.keep.size, fun b hb hn => ?_⟩, h.le.trans k.le, fun b hb => ?_, fun b hb => h.Beq b (k.Beq b hb), fun id b hb => ?_⟩
  · rw [k.keep.same b (Nat.lt_of_lt_of_le hb h.keep.size) (fun ho => ?_), h.keep.same b hb hn]
    rcases onew b ho with h1 | h1
    · exact hn h1
    · omega
  · rcases k.Inew b hb with h1 | h1 | h1
    · exact h.Inew b h1
    · exact .inr (onew b h1)
    · have := h.keep.size; exact .inr (.inr (by omega))
  · rcases k.onew id b hb with h1 | h1
    · exact onew b h1
    · have := h.keep.size; exact .inr (by omega)

theorem EntsSat.stays {E : Env} {w w' : World} {fp : Nat → Nat → Prop} {M : En} (h : EntsSat E w fp M) (k : Keep (own fp) w w') : Stays E w w' := by
  intro b hb hlt
  refine k.same b hlt ?_
  rintro ⟨id, hf⟩
  rcases hb with hb | hb
  · exact h.I id b hf hb
  · exact h.B id b hf hb

theorem EntsSat.glob {E E' : Env} {w w' : World} {fp : Nat → Nat → Prop} {M : En} (h : EntsSat E w fp M) (hst : Stays E w w') (hI : ∀ b, E.I b → E'.I b) : GlobOk E' w' :=
  h.gl.mono hI fun b hb => hst b (.inl hb) (h.Ilt b (.inl hb))

/-! ### Parts of memory -/

def sub (M : En) (S : List Nat) : En := S.map fun id => (id, find M id)
def gones (ci : List Nat) : En := ci.map fun id => (id, .gone)
def upd (eo : En) (ci : List Nat) (M : En) : En := eo ++ (gones ci ++ M)
def keys (M : En) : List Nat := M.map (·.1)

theorem find_append (A B : En) (id : Nat) : find (A ++ B) id = if id ∈ keys A then find A id else find B id := by
  induction A with
  | nil => simp [keys]
  | cons p A ih =>
    obtain ⟨j, x⟩ := p
    by_cases h : j = id
    · subst h; simp [find, keys]
    · have hb : Nat.beq j id = false := by rw [← Bool.not_eq_true, Nat.beq_eq]; exact h
      have h' : ¬ id = j := fun e => h e.symm
      simp only [List.cons_append, find, hb, ih, keys, List.map_cons, List.mem_cons, h', false_or]
      rfl

theorem find_gones (ci : List Nat) (id : Nat) : find (gones ci) id = .gone := by
  induction ci with
  | nil => rfl
  | cons j l ih =>
    simp only [gones, List.map_cons, find]
    split
    · rfl
    · exact ih

theorem find_sub (M : En) (S : List Nat) (id : Nat) : find (sub M S) id = if id ∈ S then find M id else .gone := by
  induction S with
  | nil => simp [sub, find]
  | cons j l ih =>
    by_cases h : j = id
    · subst h; simp [sub, find]
    · have hb : Nat.beq j id = false := by rw [← Bool.not_eq_true, Nat.beq_eq]; exact h
      have h' : ¬ id = j := fun e => h e.symm
      have e : find (sub M (j :: l)) id = find (sub M l) id := by simp only [sub, List.map_cons, find, hb]
      rw [e, ih]
      simp [h']

theorem keys_gones (ci : List Nat) : keys (gones ci) = ci := by simp [keys, gones, Function.comp_def]

theorem find_upd (eo : En) (ci : List Nat) (M : En) (id : Nat) :
    find (upd eo ci M) id = if id ∈ keys eo then find eo id else if id ∈ ci then .gone else find M id := by
  unfold upd
  rw [find_append, find_append, keys_gones, find_gones]

open Classical in
/-- The footprints of a part. -/
noncomputable def only (S : List Nat) (fp : Nat → Nat → Prop) : Nat → Nat → Prop := fun id => if id ∈ S then fp id else fun _ => False
open Classical in
noncomputable def both (S : List Nat) (fp fp' : Nat → Nat → Prop) : Nat → Nat → Prop := fun id => if id ∈ S then fp' id else fp id

theorem own_only {S : List Nat} {fp : Nat → Nat → Prop} {b : Nat} (h : own (only S fp) b) : ∃ id, id ∈ S ∧ fp id b := by
  obtain ⟨id, h⟩ := h
  unfold only at h
  split at h
  · exact ⟨id, ‹_›, h⟩
  · exact h.elim

theorem EntsSat.part {E : Env} {w : World} {fp : Nat → Nat → Prop} {M : En} (h : EntsSat E w fp M) (S : List Nat) : EntsSat E w (only S fp) (sub M S) := by
  have hsub : ∀ id b, only S fp id b → fp id b := fun id b hb => by unfold only at hb; split at hb; exact hb; exact hb.elim
  refine ⟨fun id => ?_, fun id b hb => h.lt id b (hsub id b hb), fun id b hb => h.I id b (hsub id b hb), fun id b hb => h.B id b (hsub id b hb), fun i j b hij hi hj => h.apart i j b hij (hsub i b hi) (hsub j b hj), h.Ilt, h.nil, h.gl⟩
  rw [find_sub]
  unfold only
  split
  · exact h.sat id
  · exact fun _ hb => hb

/-- THE FRAME RULE: a step on a part is a step on the whole. -/
theorem EntsSat.frame {E E' : Env} {w w' : World} {fp fp1 : Nat → Nat → Prop} {M eo : En} {S ci : List Nat} (h : EntsSat E w fp M)
    (hl : EntsSat E' w' fp1 (upd eo ci (sub M S))) (ha : Adv E (only S fp) w E' fp1 w') (hci : ∀ id, id ∈ ci → id ∈ S) :
    EntsSat E' w' (both (S ++ keys eo) fp fp1) (upd eo ci M) ∧ Adv E fp w E' (both (S ++ keys eo) fp fp1) w' := by
  have hown : ∀ b, own (only S fp) b → own fp b := fun b hb => let ⟨id, _, hf⟩ := own_only hb; ⟨id, hf⟩
  have hkeep : ∀ id b, id ∉ S → fp id b → w'.heap[b]? = w.heap[b]? := fun id b hid hf =>
    ha.keep.same b (h.lt id b hf) (fun ho => by
      obtain ⟨j, hj, hfj⟩ := own_only ho
      exact h.apart id j b (fun e => hid (e ▸ hj)) hf hfj)
  have hst : Stays E w w' := h.stays (ha.keep.mono hown)
  have hin : ∀ {id}, id ∈ S ++ keys eo → both (S ++ keys eo) fp fp1 id = fp1 id := fun hid => by unfold both; rw [if_pos hid]
  have hout : ∀ {id}, id ∉ S ++ keys eo → both (S ++ keys eo) fp fp1 id = fp id := fun hid => by unfold both; rw [if_neg hid]
  have newI : ∀ id b, id ∉ S → fp id b → ¬ E'.I b := fun id b hid hf hI => by
    rcases ha.Inew b hI with h1 | h1 | h1
    · exact h.I id b hf h1
    · obtain ⟨j, hj, hfj⟩ := own_only h1
      exact h.apart id j b (fun e => hid (e ▸ hj)) hf hfj
    · have := h.lt id b hf; omega
  have cross : ∀ i j b, i ∉ S ++ keys eo → fp i b → fp1 j b → False := fun i j b hi hf hf1 => by
    have hiS : i ∉ S := fun e => hi (List.mem_append_left _ e)
    rcases ha.onew j b hf1 with h1 | h1
    · obtain ⟨k, hk, hfk⟩ := own_only h1
      exact h.apart i k b (fun e => hiS (e ▸ hk)) hf hfk
    · have := h.lt i b hf; omega
  refine ⟨⟨fun id => ?_, fun id b hb => ?_, fun id b hb => ?_, fun id b hb => ?_, fun i j b hij hi hj => ?_, ?_, hl.nil, hl.gl⟩, ⟨ha.keep.mono hown, ha.le, fun b hb => ?_, ha.Beq, fun id b hb => ?_⟩⟩
  · by_cases hid : id ∈ S ++ keys eo
    · rw [hin hid]
      have := hl.sat id
      rw [find_upd, find_sub] at this
      rw [find_upd]
      by_cases hk : id ∈ keys eo
      · simpa only [hk, if_true] using this
      · have hS : id ∈ S := (List.mem_append.1 hid).resolve_right hk
        simpa only [hk, if_false, hS, if_true] using this
    · rw [hout hid, find_upd]
      have hk : id ∉ keys eo := fun e => hid (List.mem_append_right _ e)
      have hS : id ∉ S := fun e => hid (List.mem_append_left _ e)
      rw [if_neg hk, if_neg (fun e => hS (hci id e))]
      exact (h.sat id).mono ha.le hst ha.keep.size (fun b hf => hkeep id b hS hf)
  · by_cases hid : id ∈ S ++ keys eo
    · rw [hin hid] at hb; exact hl.lt id b hb
    · rw [hout hid] at hb; exact Nat.lt_of_lt_of_le (h.lt id b hb) ha.keep.size
  · by_cases hid : id ∈ S ++ keys eo
    · rw [hin hid] at hb; exact hl.I id b hb
    · rw [hout hid] at hb; exact newI id b (fun e => hid (List.mem_append_left _ e)) hb
  · by_cases hid : id ∈ S ++ keys eo
    · rw [hin hid] at hb; exact hl.B id b hb
    · rw [hout hid] at hb; exact fun hB => h.B id b hb (ha.Beq b hB)
  · by_cases h1 : i ∈ S ++ keys eo <;> by_cases h2 : j ∈ S ++ keys eo
    · rw [hin h1] at hi; rw [hin h2] at hj; exact hl.apart i j b hij hi hj
    · rw [hin h1] at hi; rw [hout h2] at hj; exact cross j i b h2 hj hi
    · rw [hout h1] at hi; rw [hin h2] at hj; exact cross i j b h1 hi hj
    · rw [hout h1] at hi; rw [hout h2] at hj; exact h.apart i j b hij hi hj
  · exact hl.Ilt
  · exact (ha.Inew b hb).imp id (Or.imp (hown b) id)
  · by_cases hid : id ∈ S ++ keys eo
    · rw [hin hid] at hb; exact (ha.onew id b hb).imp (hown b) (fun h => h)
    · rw [hout hid] at hb; exact .inl ⟨id, hb⟩

end Go.Eng
