/- The engine, part N: the conditions asked of a text of code suffice. -/
import Derived.Test.YteckpdifeoffjaaDoorEngM
set_option linter.unusedVariables false
namespace Go.Eng

/-- How a state lies to the one that was entered. -/
structure From (rg : Mp) (E0 : Env) (fp0 : Nat → Nat → Prop) (w0 : World) (E : Env) (fp : Nat → Nat → Prop) (w : World) : Prop where
  keep : Keep (own fp0) w0 w
  I : ∀ b, E0.I b → E.I b
  Inew : ∀ b, E.I b → E0.I b ∨ own fp0 b ∨ w0.heap.size ≤ b
  B : ∀ b, E.B b ↔ E0.B b
  onew : ∀ id b, fp id b → own fp0 b ∨ w0.heap.size ≤ b
  slot : ∀ j i, mlook rg j = some i → i = j ∧ j < 1984 ∧ E.slot j = E0.slot j

theorem From.refl {rg : Mp} (E : Env) (fp : Nat → Nat → Prop) (w : World) (h : ∀ j i, mlook rg j = some i → i = j ∧ j < 1984) : From rg E fp w E fp w :=
  ⟨.refl _ _, fun _ h => h, fun _ h => .inl h, fun _ => Iff.rfl, fun id _ h => .inl ⟨id, h⟩, fun j i hj => ⟨(h j i hj).1, (h j i hj).2, rfl⟩⟩

theorem From.step {rg : Mp} {E0 E E' : Env} {fp0 fp fp' : Nat → Nat → Prop} {w0 w w' : World} (h : From rg E0 fp0 w0 E fp w) (k : Adv E fp w E' fp' w') (hs : ∀ id, id < 2000 → E'.slot id = E.slot id) : From rg E0 fp0 w0 E' fp' w' := by
  have onew : ∀ b, own fp b → own fp0 b ∨ w0.heap.size ≤ b := fun b ⟨id, hb⟩ => h.onew id b hb
  refine ⟨⟨k.keep.os.trans h.keep.os, k.keep.tape.trans h.keep.tape, k.keep.output.trans h.keep.output, Nat.le_trans h.keep.size k.keep.size, fun b hb hn => ?_⟩, fun b hb => k.le.I b (h.I b hb), fun b hb => ?_,
    fun b => ⟨fun hb => (h.B b).1 (k.Beq b hb), fun hb => k.le.B b ((h.B b).2 hb)⟩, fun id b hb => ?_, fun j i hj => ?_⟩
  · rw [k.keep.same b (Nat.lt_of_lt_of_le hb h.keep.size) (fun ho => ?_), h.keep.same b hb hn]
    rcases onew b ho with h1 | h1
    · exact hn h1
    · omega
  · rcases k.Inew b hb with h1 | h1 | h1
    · exact h.Inew b h1
    · exact .inr (onew b h1)
    · have := h.keep.size; exact .inr (.inr (by omega))
  · rcases k.onew id b hb with h1 | h1
    · exact onew b h1
    · have := h.keep.size; exact .inr (by omega)
  · obtain ⟨h1, h2, h3⟩ := h.slot j i hj
    exact ⟨h1, h2, (hs j (by omega)).trans h3⟩

/-- The same state under the target's names. -/
theorem From.rename {rg m : Mp} {E0 E : Env} {fp0 fp : Nat → Nat → Prop} {w0 w : World} (h : From rg E0 fp0 w0 E fp w) (fs : List Nat) (tgt : En) (hm : ∀ j i, mlook rg j = some i → mlook m j = some i) :
    From rg E0 fp0 w0 (envF E fp m [] fs) (fpF fp m tgt) w := by
  refine ⟨h.keep, fun b hb => .inl (h.I b hb), fun b hb => ?_, fun b => ⟨fun hb => ?_, fun hb => .inl ((h.B b).2 hb)⟩, fun id b hb => ?_, fun j i hj => ?_⟩
  · rcases hb with hb | ⟨i, _, hb⟩
    · exact h.Inew b hb
    · exact .inr (h.onew i b hb)
  · rcases hb with hb | ⟨i, hi, _⟩
    · exact (h.B b).1 hb
    · cases hi
  · cases hi : mlook m id with
    | none => simp only [fpF, hi] at hb
    | some i => simp only [fpF, hi] at hb; exact h.onew _ b (fpG_sub hb)
  · obtain ⟨h1, h2, h3⟩ := h.slot j i hj
    subst h1
    exact ⟨rfl, h2, by simp only [envF, nilB_lt (show i < 1984 by omega), hm i i hj, Option.bind_some]; exact h3⟩

/-- A block that nobody here touches. -/
def Aside (E : Env) (fp : Nat → Nat → Prop) (w : World) (b : Nat) (o : Obj) : Prop := w.heap[b]? = some o ∧ ¬ own fp b ∧ ¬ E.I b ∧ ¬ E.B b

theorem Aside.step {E E' : Env} {fp fp' : Nat → Nat → Prop} {w w' : World} {b : Nat} {o : Obj} (h : Aside E fp w b o) (k : Adv E fp w E' fp' w') : Aside E' fp' w' b o := by
  obtain ⟨h1, h2, h3, h4⟩ := h
  have hlt := (Array.getElem?_eq_some_iff.1 h1).1
  refine ⟨(k.keep.same b hlt h2).trans h1, fun ⟨id, hb⟩ => ?_, fun hI => ?_, fun hB => h4 (k.Beq b hB)⟩
  · rcases k.onew id b hb with h5 | h5
    · exact h2 h5
    · omega
  · rcases k.Inew b hI with h5 | h5 | h5
    · exact h3 h5
    · exact h2 h5
    · omega

theorem Aside.rename {E : Env} {fp : Nat → Nat → Prop} {w : World} {b : Nat} {o : Obj} {m : Mp} (h : Aside E fp w b o) (fs : List Nat) (tgt : En) : Aside (envF E fp m [] fs) (fpF fp m tgt) w b o := by
  obtain ⟨h1, h2, h3, h4⟩ := h
  refine ⟨h1, fun ⟨id, hb⟩ => ?_, fun hI => ?_, fun hB => ?_⟩
  · cases hi : mlook m id with
    | none => simp only [fpF, hi] at hb
    | some i => simp only [fpF, hi] at hb; exact h2 ⟨i, fpG_sub hb⟩
  · rcases hI with hI | ⟨i, _, hb⟩
    · exact h3 hI
    · exact h2 ⟨i, hb⟩
  · rcases hB with hB | ⟨i, hi, _⟩
    · exact h4 hB
    · cases hi

def markOf (b : Nat) : Deferred := { target := .collected b, args := #[] }

/-- Side blocks that stay; and the marks among the deferred calls. -/
structure Held (H : List (Nat × Obj)) (w0 : World) (E : Env) (fp : Nat → Nat → Prop) (w : World) (df : List Deferred) : Prop where
  side : ∀ b o, (b, o) ∈ H → Aside E fp w b o
  marks : ∃ ds : List Nat, df = ds.map markOf ∧ ds.Nodup ∧ ∀ b, b ∈ ds → w0.heap.size ≤ b ∧ Aside E fp w b (.deferred (some []))

theorem Held.step {H : List (Nat × Obj)} {w0 : World} {E E' : Env} {fp fp' : Nat → Nat → Prop} {w w' : World} {df : List Deferred} (h : Held H w0 E fp w df) (k : Adv E fp w E' fp' w') : Held H w0 E' fp' w' df :=
  ⟨fun b o hb => (h.side b o hb).step k, let ⟨ds, h1, h2, h3⟩ := h.marks; ⟨ds, h1, h2, fun b hb => ⟨(h3 b hb).1, (h3 b hb).2.step k⟩⟩⟩
theorem Held.rename {H : List (Nat × Obj)} {w0 : World} {E : Env} {fp : Nat → Nat → Prop} {w : World} {df : List Deferred} {m : Mp} (h : Held H w0 E fp w df) (fs : List Nat) (tgt : En) :
    Held H w0 (envF E fp m [] fs) (fpF fp m tgt) w df :=
  ⟨fun b o hb => (h.side b o hb).rename fs tgt, let ⟨ds, h1, h2, h3⟩ := h.marks; ⟨ds, h1, h2, fun b hb => ⟨(h3 b hb).1, (h3 b hb).2.rename fs tgt⟩⟩⟩

/-- The state at a place of the text. -/
def Here (rg : Mp) (E0 : Env) (fp0 : Nat → Nat → Prop) (w0 : World) (nt : Nat) (H : List (Nat × Obj)) (nx : Nat) (T : Tm) (M : En) (a : Act) (w : World) : Prop :=
  ∃ E fp, StSat E w fp a nt T M ∧ (∀ id, E.slot id ≠ none → id < nx) ∧ From rg E0 fp0 w0 E fp w ∧ Held H w0 E fp w a.defers

theorem look_mem (t : Nat) : ∀ (T : Tm), look T t = .any ∨ (t, look T t) ∈ T
  | [] => .inl rfl
  | (j, x) :: T => by
    simp only [look]
    cases hb : Nat.beq j t with
    | true => obtain rfl := Nat.eq_of_beq_eq_true hb; exact .inr (List.mem_cons_self ..)
    | false => exact (look_mem t T).imp id (List.mem_cons_of_mem _)

theorem matT_good {M : En} {T : Tm} : ∀ (tgt : Tm) {m : Mp} {bs fs : List Nat} {q : List Prop} {K : MK}, matT M T tgt m bs fs q K →
    ∃ m' bs' fs' q', K m' bs' fs' q' ∧ Grow m m' bs bs' fs fs' q q' ∧ ∀ t s, (t, s) ∈ tgt → Good1 M s (look T t) m' bs' fs' q'
  | [], m, bs, fs, q, K, h => ⟨m, bs, fs, q, h, .refl _ _ _ _, fun _ _ h => by cases h⟩
  | (t, s) :: l, m, bs, fs, q, K, h => by
    obtain ⟨m1, bs1, fs1, q1, h, g1, d1⟩ := (mat_good M 200).1 _ _ _ _ _ _ _ h
    obtain ⟨m2, bs2, fs2, q2, h, g2, d2⟩ := matT_good l h
    refine ⟨m2, bs2, fs2, q2, h, g1.trans g2, fun t' s' hm => ?_⟩
    rcases List.mem_cons.1 hm with e | hm
    · obtain ⟨rfl, rfl⟩ := Prod.mk.inj e; exact d1.grow g2
    · exact d2 t' s' hm

section
variable {r : Option Nat} {P : Program} {G : Nat → Option Ctr} {An : List Nat → Nat → Option AN} {rg : Mp} {E0 : Env} {fp0 : Nat → Nat → Prop} {w0 : World} {nt : Nat} {df : List (Nat × Obj)}

theorem matSt_ok {T T' : Tm} {M M' : En} {K : Prop} {nx : Nat} {a : Act} {w : World} (h : matSt rg T M T' M' K) (hh : Here rg E0 fp0 w0 nt df nx T M a w) : K ∧ Here rg E0 fp0 w0 nt df 2000 T' M' a w := by
  obtain ⟨E, fp, hs, hnx, hf, hd⟩ := hh
  obtain ⟨m1, bs1, fs1, q1, h, g1, d1⟩ := matT_good _ h
  obtain ⟨m, bs, fs, q, us, h, g2, ht, hsem⟩ := matE_good _ h
  cases bs with
  | cons _ _ => exact h.elim
  | nil =>
    simp only at h
    split at h
    · exact h.elim
    · rename_i hchk
      simp only [Bool.or_eq_false_iff, Bool.not_eq_false'] at hchk
      obtain ⟨hfu, hlt⟩ := hchk
      obtain ⟨hq, hk⟩ := h
      have hq := conj_all q hq
      have hlent : Lent M E w fp [] fs := ⟨hs.en.nil, fun i hi => hs.en.sat i⟩
      have hT := EntsSat.target (M := M) (bs := []) hs.en (fun i hi => hs.en.sat i) ht (fun j e hm i hi he => hsem hq E w fp hlent j e hm i hi he) (by rfl) hfu
      refine ⟨hk, envF E fp m [] fs, fpF fp m M', ⟨hs.sz, fun t => ?_, hT⟩, fun id hne => ?_, hf.rename fs M' (fun j i hj => g2.m j i (g1.m j i hj)), hd.rename fs M'⟩
      · rcases look_mem t T' with e | e
        · rw [e]; exact .any _
        · exact (d1 _ _ e).grow g2 hq E w fp hlent _ (hs.tm t)
      · simp only [envF] at hne
        cases hz : nilB id with
        | true => exact (nilB_range hz).2
        | false =>
          rw [hz] at hne
          cases hm : mlook m id with
          | none => rw [hm] at hne; exact absurd rfl hne
          | some i => have := allLt_spec hlt id i hm; omega

end
end Go.Eng
