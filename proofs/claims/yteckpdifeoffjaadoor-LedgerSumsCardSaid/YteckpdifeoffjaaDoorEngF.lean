/- The engine, part F: what a comparison of states, and a renaming, are good for. -/
import Derived.Test.YteckpdifeoffjaaDoorEngE
set_option linter.unusedVariables false
namespace Go.Eng

def allq (q : List Prop) : Prop := ∀ p, p ∈ q → p

theorem conj_all : ∀ (q : List Prop), conj q → allq q
  | [], _ => fun p hp => by cases hp
  | [p], h => fun p' hp => by
    obtain rfl : p' = p := by simpa using hp
    exact h
  | p :: p2 :: l, h => fun p' hp => by
    obtain ⟨h1, h2⟩ := (h : conj (p2 :: l) ∧ p)
    rcases List.mem_cons.1 hp with rfl | hp
    · exact h2
    · exact conj_all (p2 :: l) h1 p' hp

theorem allq.tail {p : Prop} {q : List Prop} (h : allq (p :: q)) : allq q := fun p' hp => h p' (List.mem_cons_of_mem _ hp)
theorem allq.head {p : Prop} {q : List Prop} (h : allq (p :: q)) : p := h p (List.mem_cons_self ..)

def blks (fp : Nat → Nat → Prop) (l : List Nat) (b : Nat) : Prop := ∃ i, i ∈ l ∧ fp i b

/-- The environment of the target. -/
def envF (E : Env) (fp : Nat → Nat → Prop) (m : Mp) (bs fs : List Nat) : Env :=
  { slot := fun j => match nilB j with | true => some nilSlot | false => (mlook m j).bind E.slot, I := fun b => E.I b ∨ blks fp fs b, B := fun b => E.B b ∨ blks fp bs b }

structure Grow (m m' : Mp) (bs bs' fs fs' : List Nat) (q q' : List Prop) : Prop where
  m : ∀ j i, mlook m j = some i → mlook m' j = some i
  bs : ∀ i, i ∈ bs → i ∈ bs'
  fs : ∀ i, i ∈ fs → i ∈ fs'
  q : allq q' → allq q

theorem Grow.refl (m : Mp) (bs fs : List Nat) (q : List Prop) : Grow m m bs bs fs fs q q := ⟨fun _ _ h => h, fun _ h => h, fun _ h => h, fun h => h⟩
theorem Grow.trans {m m1 m2 : Mp} {bs bs1 bs2 fs fs1 fs2 : List Nat} {q q1 q2 : List Prop} (h : Grow m m1 bs bs1 fs fs1 q q1) (k : Grow m1 m2 bs1 bs2 fs1 fs2 q1 q2) :
    Grow m m2 bs bs2 fs fs2 q q2 := ⟨fun j i e => k.m j i (h.m j i e), fun i e => k.bs i (h.bs i e), fun i e => k.fs i (h.fs i e), fun e => h.q (k.q e)⟩

theorem Grow.env {m m' : Mp} {bs bs' fs fs' : List Nat} {q q' : List Prop} (h : Grow m m' bs bs' fs fs' q q') (E : Env) (fp : Nat → Nat → Prop) : (envF E fp m bs fs).le (envF E fp m' bs' fs') := by
  refine ⟨fun j s hj => ?_, fun b hb => hb.imp id (fun ⟨i, h1, h2⟩ => ⟨i, h.fs i h1, h2⟩), fun b hb => hb.imp id (fun ⟨i, h1, h2⟩ => ⟨i, h.bs i h1, h2⟩)⟩
  simp only [envF] at *
  cases hn : nilB j with
  | true => rw [hn] at hj; exact hj
  | false =>
    rw [hn] at hj
    cases hm : mlook m j with
    | none => rw [hm] at hj; cases hj
    | some i => rw [hm] at hj; rw [h.m j i hm]; exact hj

theorem mlook_cons (j i : Nat) (m : Mp) (k : Nat) : mlook ((j, i) :: m) k = if j = k then some i else mlook m k := by
  by_cases h : j = k
  · subst h; simp [mlook]
  · have hb : Nat.beq j k = false := by rw [← Bool.not_eq_true, Nat.beq_eq]; exact h
    simp [mlook, hb, h]

theorem mlook_new {j i : Nat} {m : Mp} (hn : mlook m j = none) (j' i' : Nat) (e : mlook m j' = some i') : mlook ((j, i) :: m) j' = some i' := by
  rw [mlook_cons]
  by_cases hj : j = j'
  · subst hj; rw [hn] at e; cases e
  · rw [if_neg hj]; exact e

theorem bindM_spec {j i : Nat} {m : Mp} {K : Mp → Prop} (h : bindM j i m K) : ∃ m', K m' ∧ (∀ j i, mlook m j = some i → mlook m' j = some i) ∧ mlook m' j = some i ∧ nilB j = false := by
  unfold bindM at h
  split at h
  · exact h.elim
  · rename_i hz
    split at h
    · rename_i i' hi
      split at h
      · rename_i hb
        obtain rfl := Nat.eq_of_beq_eq_true hb
        exact ⟨m, h, fun _ _ e => e, hi, hz⟩
      · exact h.elim
    · rename_i hn
      exact ⟨_, h, mlook_new hn, by rw [mlook_cons]; simp, hz⟩

theorem nilM_spec {j : Nat} {m : Mp} {K : Mp → Prop} (h : nilM j m K) : ∃ m' i, K m' ∧ (∀ j i, mlook m j = some i → mlook m' j = some i) ∧ mlook m' j = some i ∧ nilB i = true ∧ nilB j = false := by
  unfold nilM at h
  split at h
  · exact h.elim
  · rename_i hz
    split at h
    · rename_i i hi
      split at h
      · rename_i hb; exact ⟨m, i, h, fun _ _ e => e, hi, hb, hz⟩
      · exact h.elim
    · rename_i hn
      split at h
      · rename_i hb; exact ⟨_, _, h, mlook_new hn, by rw [mlook_cons]; simp, hb, hz⟩
      · exact h.elim

theorem eqK_eq {k k' : IntKind} (h : eqK k k' = true) : k = k' := by
  cases k <;> cases k' <;> first | rfl | (exact absurd h (by decide))

theorem eqV_spec {x y : Value} {q : List Prop} {K : List Prop → Prop} (h : eqV x y q K) : ∃ q', K q' ∧ (allq q' → allq q ∧ x = y) := by
  unfold eqV at h
  split at h
  · split at h
    · split at h
      · rename_i hk
        obtain rfl := eqK_eq hk
        exact ⟨_, h, fun ha => ⟨ha.tail, by rw [ha.head]⟩⟩
      · exact h.elim
    · exact h.elim
  · split at h
    · exact ⟨_, h, fun ha => ⟨ha.tail, by rw [ha.head]⟩⟩
    · exact h.elim
  · split at h
    · exact ⟨_, h, fun ha => ⟨ha.tail, by rw [ha.head]⟩⟩
    · exact h.elim
  · exact ⟨_, h, fun ha => ⟨ha.tail, ha.head⟩⟩

theorem Sat.weaken {E : Env} {w : World} {b b' : Bool} {t : Ty} {xs : List t.den} {v : Value} (h : Sat E w (.ro b t xs) v) (hb : b = true → b' = true) : Sat E w (.ro b' t xs) v := by
  generalize hs : SV.ro b t xs = s at h
  cases h <;> cases hs
  · exact .nil b' t _ _
  · rename_i k o c u hbk hle hc hs
    exact .ro b' t xs k o c u (hbk.imp id (fun ⟨h1, h2⟩ => ⟨hb h1, h2⟩)) hle hc hs

theorem flatF_get {α : Type} (f : α → List SV) (n : Nat) (hf : ∀ a, (f a).length = n) : ∀ (xs : List α) (i j : Nat) (x : α), xs[i]? = some x → j < n → (flatF f xs)[i * n + j]? = (f x)[j]?
  | [], i, j, x, h, _ => by simp at h
  | a :: l, 0, j, x, h, hj => by
    obtain rfl : a = x := by simpa using h
    simp only [flatF, Nat.zero_mul, Nat.zero_add]
    rw [List.getElem?_append_left (by rw [hf]; exact hj)]
  | a :: l, i + 1, j, x, h, hj => by
    simp only [flatF]
    rw [List.getElem?_append_right (by rw [hf, Nat.add_mul]; omega), hf, show (i + 1) * n + j - n = i * n + j by rw [Nat.add_mul]; omega]
    exact flatF_get f n hf l i j x (by simpa using h) hj

theorem cutS_spec : ∀ (cs : List SV) (o n : Nat) (l : List SV), cutS cs o n = some l → l.length = n ∧ ∀ j, j < n → cs[o + j]? = l[j]?
  | cs, o, 0, l, h => by
    have : l = [] := by cases cs <;> cases o <;> simp_all [cutS]
    subst this; exact ⟨rfl, fun j hj => by omega⟩
  | [], o, n + 1, l, h => by simp [cutS] at h
  | x :: cs, 0, n + 1, l, h => by
    simp only [cutS] at h
    split at h
    · rename_i l' hl
      simp only [Option.some.injEq] at h; subst h
      obtain ⟨h1, h2⟩ := cutS_spec cs 0 n l' hl
      refine ⟨by simp [h1], fun j hj => ?_⟩
      cases j with
      | zero => rfl
      | succ j => have := h2 j (by omega); simpa using this
    · cases h
  | x :: cs, o + 1, n + 1, l, h => by
    simp only [cutS] at h
    obtain ⟨h1, h2⟩ := cutS_spec cs o (n + 1) l h
    refine ⟨h1, fun j hj => ?_⟩
    rw [← h2 j hj, show o + 1 + j = (o + j) + 1 by omega]; rfl

/-- What is lent or given up is there. -/
def Lent (M : En) (E : Env) (w : World) (fp : Nat → Nat → Prop) (bs fs : List Nat) : Prop := NilOk E ∧ ∀ i, i ∈ bs ∨ i ∈ fs → EntSat E w (fp i) i (find M i)

def Good1 (M : En) (tgt src : SV) (m' : Mp) (bs' fs' : List Nat) (q' : List Prop) : Prop :=
  allq q' → ∀ (E : Env) (w : World) (fp : Nat → Nat → Prop), Lent M E w fp bs' fs' → ∀ v, Sat E w src v → Sat (envF E fp m' bs' fs') w tgt v

theorem Good1.grow {M : En} {tgt src : SV} {m m' : Mp} {bs bs' fs fs' : List Nat} {q q' : List Prop} (h : Good1 M tgt src m bs fs q) (g : Grow m m' bs bs' fs fs' q q') : Good1 M tgt src m' bs' fs' q' :=
  fun hq E w fp hl v hv => (h (g.q hq) E w fp ⟨hl.1, fun i hi => hl.2 i (hi.imp (g.bs i) (g.fs i))⟩ v hv).mono (g.env E fp) (fun _ _ _ => rfl)

def GoodL (M : En) (tgt src : List SV) (m' : Mp) (bs' fs' : List Nat) (q' : List Prop) : Prop :=
  tgt.length = src.length ∧ ∀ (j : Nat) (t s : SV), tgt[j]? = some t → src[j]? = some s → Good1 M t s m' bs' fs' q'

theorem envF_ok {E : Env} {fp : Nat → Nat → Prop} {m : Mp} {bs fs : List Nat} {b : Bool} {k : Nat} (h : E.ok b k) : (envF E fp m bs fs).ok b k := h.imp .inl (fun ⟨h1, h2⟩ => ⟨h1, .inl h2⟩)

theorem Sat.stay {E E' : Env} {w : World} {s : SV} {v : Value} (h : Sat E w s v) (hE : E.le E') : Sat E' w s v := h.mono hE (fun _ _ _ => rfl)

/-- Data know no names: of the environment they want what may be read alone. -/
theorem enc_move {E E' : Env} {w : World} (hI : ∀ b, E.I b → E'.I b) : ∀ (t : Ty),
    (∀ (x : t.den) (j : Nat) (sv : SV) (v : Value), (enc t x)[j]? = some sv → Sat E w sv v → Sat E' w sv v) ∧
    (∀ (xs : List t.den) (v : Value), Sat E w (.ro false t xs) v → Sat E' w (.ro false t xs) v)  := by
  have row : ∀ (t : Ty), (∀ (x : t.den) (j : Nat) (sv : SV) (v : Value), (enc t x)[j]? = some sv → Sat E w sv v → Sat E' w sv v) →
      ∀ (xs : List t.den) (v : Value), Sat E w (.ro false t xs) v → Sat E' w (.ro false t xs) v := by
    intro t ih xs v h
    generalize hs : SV.ro false t xs = s at h
    cases h <;> cases hs
    · exact .nil false t _ _
    · rename_i k o c u hbk hle hc hs
      exact .ro false t xs k o c u (hbk.imp (hI k) (fun ⟨h1, _⟩ => by cases h1)) hle hc (fun i x j sv hi hj => ih x j sv _ hj (hs i x j sv hi hj))
  have scal : ∀ (y : Value) (j : Nat) (sv : SV) (v : Value), [SV.v y][j]? = some sv → Sat E w sv v → Sat E' w sv v := by
    intro y j sv v hj hv
    cases j with
    | zero =>
      obtain rfl : SV.v y = sv := by simpa using hj
      cases hv; exact .v y
    | succ j => simp at hj
  intro t
  induction t with
  | int k => exact ⟨fun x => scal _, row _ fun x => scal _⟩
  | bool => exact ⟨fun x => scal _, row _ fun x => scal _⟩
  | str => exact ⟨fun x => scal _, row _ fun x => scal _⟩
  | unit => exact ⟨fun x j sv v hj => by simp [enc] at hj, row _ fun x j sv v hj => by simp [enc] at hj⟩
  | sl t ih =>
    have h1 : ∀ (x : (Ty.sl t).den) (j : Nat) (sv : SV) (v : Value), (enc (.sl t) x)[j]? = some sv → Sat E w sv v → Sat E' w sv v := by
      intro x j sv v hj hv
      cases j with
      | zero =>
        obtain rfl : SV.ro false t x = sv := by simpa [enc] using hj
        exact ih.2 x v hv
      | succ j => simp [enc] at hj
    exact ⟨h1, row _ h1⟩
  | pair a b iha ihb =>
    have h1 : ∀ (x : (Ty.pair a b).den) (j : Nat) (sv : SV) (v : Value), (enc (.pair a b) x)[j]? = some sv → Sat E w sv v → Sat E' w sv v := by
      intro x j sv v hj hv
      simp only [enc] at hj
      rcases Nat.lt_or_ge j (enc a x.1).length with hlt | hge
      · rw [List.getElem?_append_left hlt] at hj; exact iha.1 _ _ _ _ hj hv
      · rw [List.getElem?_append_right hge] at hj; exact ihb.1 _ _ _ _ hj hv
    exact ⟨h1, row _ h1⟩
  | arr n t ih =>
    have h0 : ∀ (f : Fin n → t.den) (l : List (Fin n)) (j : Nat) (sv : SV) (v : Value), (flatF (fun i => enc t (f i)) l)[j]? = some sv → Sat E w sv v → Sat E' w sv v := by
      intro f l
      induction l with
      | nil => intro j sv v hj; simp [flatF] at hj
      | cons a l ihl =>
        intro j sv v hj hv
        simp only [flatF] at hj
        rcases Nat.lt_or_ge j (enc t (f a)).length with hlt | hge
        · rw [List.getElem?_append_left hlt] at hj; exact ih.1 _ _ _ _ hj hv
        · rw [List.getElem?_append_right hge] at hj; exact ihl _ _ _ hj hv
    exact ⟨fun x => h0 x _, row _ fun x => h0 x _⟩

/-- Data again, whatever the names. -/
theorem enc_env {E : Env} {w : World} {fp : Nat → Nat → Prop} {m : Mp} {bs fs : List Nat} {t : Ty} {x : t.den} {j : Nat} {sv : SV} {v : Value} (hj : (enc t x)[j]? = some sv) (h : Sat E w sv v) :
    Sat (envF E fp m bs fs) w sv v := (enc_move (E' := envF E fp m bs fs) (fun b hb => Or.inl hb) t).1 x j sv v hj h

theorem ro_env {E : Env} {w : World} {fp : Nat → Nat → Prop} {m : Mp} {bs fs : List Nat} {b : Bool} {t : Ty} {xs : List t.den} {v : Value} (h : Sat E w (.ro b t xs) v) :
    Sat (envF E fp m bs fs) w (.ro b t xs) v := by
  generalize hs : SV.ro b t xs = s at h
  cases h <;> cases hs
  · exact .nil b t _ _
  · rename_i k o c u hbk hle hc hs
    exact .ro b t xs k o c u (envF_ok hbk) hle hc (fun i x j sv hi hj => enc_env hj (hs i x j sv hi hj))

theorem row_ro {E : Env} {w : World} {fp : Nat → Nat → Prop} {m : Mp} {bs fs : List Nat} {b : Bool} {te : TypeId} {t : Ty} {xs : List t.den} {i : Nat} {s : Slot}
    (h : EntSat E w (fp i) i (.row te t xs)) (hs : E.slot i = some s) (hb : if b = true then i ∈ bs else i ∈ fs) : Sat (envF E fp m bs fs) w (.ro b t xs) s.val := by
  obtain ⟨s', h1, h2⟩ := h
  obtain rfl := Option.some.inj (hs.symm.trans h1)
  rcases h2 with ⟨hv, hx, _⟩ | ⟨o, c, arr, fz, hv, hfp, hheap, _, hle, hsz, hcells⟩
  · rw [hv]; subst hx; exact .nil b t _ _
  · rw [hv]
    refine .ro b t xs s.blk o c (fun m => arr.getD (o + m) undef) ?_ hle (fun m hm => ?_) (fun i x j sv hi hj => ?_)
    · cases b with
      | true => exact .inr ⟨rfl, .inr ⟨i, by simpa using hb, (hfp _).2 rfl⟩⟩
      | false => exact .inl (.inr ⟨i, by simpa using hb, (hfp _).2 rfl⟩)
    · have : o + m < arr.size := by
        have := Nat.mul_le_mul_right t.size hle
        omega
      simp [World.cell?, hheap, this]
    · obtain ⟨u, hu, hsat⟩ := hcells i x j sv hi hj
      have : arr.getD (o + (i * t.size + j)) undef = u := by rw [← Nat.add_assoc]; simp [hu]
      rw [this]
      exact enc_env hj hsat

theorem ro_inj {t t' : Ty} {xs : List t.den} {ys : List t'.den} (h : SV.ro true t' ys = SV.ro true t xs) : ∃ e : t' = t, e ▸ ys = xs := by
  injection h with h1 h2 h3
  subst h2
  exact ⟨rfl, eq_of_heq h3⟩

theorem good_ro {M : En} {b b' : Bool} {t t' : Ty} {xs : List t.den} {ys : List t'.den} {m : Mp} {bs fs : List Nat} {q : List Prop} (hb : b' = true → b = true) :
    Good1 M (.ro b t xs) (.ro b' t' ys) m bs fs ((SV.ro true t' ys = SV.ro true t xs) :: q) := by
  intro hq E w fp _ v hv
  obtain ⟨e, he⟩ := ro_inj hq.head
  subst e
  simp only at he
  subst he
  exact (ro_env hv).weaken hb

theorem nilV_spec {y : Value} {A : Prop} (h : nilV y A) : y = .slice none 0 0 ∧ A := by
  unfold nilV at h
  split at h
  · exact ⟨rfl, h⟩
  · exact h.elim

theorem mat_good (M : En) : ∀ (n : Nat),
    (∀ tgt src m bs fs q K, matSV M n tgt src m bs fs q K → ∃ m' bs' fs' q', K m' bs' fs' q' ∧ Grow m m' bs bs' fs fs' q q' ∧ Good1 M tgt src m' bs' fs' q') ∧
    (∀ tgt src m bs fs q K, matL M n tgt src m bs fs q K → ∃ m' bs' fs' q', K m' bs' fs' q' ∧ Grow m m' bs bs' fs fs' q q' ∧ GoodL M tgt src m' bs' fs' q') := by
  intro n
  induction n with
  | zero => exact ⟨fun tgt src m bs fs q K h => by simp [matSV] at h, fun tgt src m bs fs q K h => by simp [matL] at h⟩
  | succ n ih =>
    obtain ⟨ih1, ih2⟩ := ih
    refine ⟨?_, ?_⟩
    · intro tgt src m bs fs q K h
      unfold matSV at h
      cases tgt with
      | any => exact ⟨m, bs, fs, q, h, .refl _ _ _ _, fun _ E w fp _ v _ => .any v⟩
      | v x =>
        cases src with
        | v y =>
          obtain ⟨q', h1, h2⟩ := eqV_spec h
          refine ⟨m, bs, fs, q', h1, ⟨fun _ _ e => e, fun _ e => e, fun _ e => e, fun e => (h2 e).1⟩, fun hq E w fp _ v hv => ?_⟩
          cases hv
          rw [(h2 hq).2]
          exact .v x
        | _ => exact h.elim
      | ptr j o =>
        cases src with
        | ptr i o' =>
          simp only at h
          split at h
          · rename_i hb
            obtain rfl := Nat.eq_of_beq_eq_true hb
            obtain ⟨m', h1, h2, h3, hz⟩ := bindM_spec h
            refine ⟨m', bs, fs, q, h1, ⟨h2, fun _ e => e, fun _ e => e, fun e => e⟩, fun hq E w fp _ v hv => ?_⟩
            cases hv with
            | ptr _ _ s hs => exact .ptr j o s (by simp [envF, hz, h3, hs])
          · exact h.elim
        | _ => exact h.elim
      | elp _ _ _ _ => exact h.elim
      | unkB _ => exact h.elim
      | rop b cs o =>
        cases src with
        | rop b' cs' o' =>
          simp only at h
          split at h
          · exact h.elim
          · rename_i hbb
            split at h
            · rename_i hb
              obtain rfl := Nat.eq_of_beq_eq_true hb
              obtain ⟨m', bs', fs', q', h1, h2, h3, h4⟩ := ih2 _ _ _ _ _ _ _ h
              refine ⟨m', bs', fs', q', h1, h2, fun hq E w fp hl v hv => ?_⟩
              cases hv with
              | rop _ _ _ k o1 u hbk hc hs =>
                refine .rop b cs o k o1 u ?_ (fun j hj => hc j (by omega)) (fun j sv hj => ?_)
                · refine (envF_ok hbk).imp id (fun ⟨e1, e2⟩ => ⟨?_, e2⟩)
                  subst e1
                  cases b <;> simp_all
                · have hlt : j < cs'.length := by
                    have := (List.getElem?_eq_some_iff.1 hj).1; omega
                  exact h4 j sv cs'[j] hj (by simp [hlt]) hq E w fp hl _ (hs j cs'[j] (by simp [hlt]))
            · exact h.elim
        | ptr i off =>
          dsimp only at h
          cases o with
          | succ o => exact h.elim
          | zero =>
            dsimp only at h
            cases hf : find M i with
            | cells te cs2 =>
              rw [hf] at h
              dsimp only at h
              cases hcut : cutS cs2 off cs.length with
              | none => rw [hcut] at h; exact h.elim
              | some l' =>
                rw [hcut] at h
                dsimp only at h
                obtain ⟨m', bs', fs', q', h1, h2, h3, h4⟩ := ih2 _ _ _ _ _ _ _ h
                obtain ⟨c1, c2⟩ := cutS_spec cs2 off _ l' hcut
                have key : ∀ bs2 fs2, (∀ i, i ∈ bs' → i ∈ bs2) → (∀ i, i ∈ fs' → i ∈ fs2) → (if b = true then i ∈ bs2 else i ∈ fs2) → Good1 M (.rop b cs 0) (.ptr i off) m' bs2 fs2 q' := by
                  intro bs2 fs2 hb2 hf2 hmem hq E w fp hl v hv
                  have hent := hl.2 i (by cases b; exact .inr (by simpa using hmem); exact .inl (by simpa using hmem))
                  rw [hf] at hent
                  obtain ⟨s', arr, fz, e1, e2, e3, e4, e5, e6⟩ := hent
                  cases hv with
                  | ptr _ _ s hs =>
                    obtain rfl := Option.some.inj (hs.symm.trans e1)
                    have hsub : ∀ m, m < cs.length → off + m < arr.size := fun m hm => by
                      have := c2 m hm
                      rw [e5]
                      have hlt : m < l'.length := by omega
                      rw [show l'[m]? = some l'[m] by simp [hlt]] at this
                      exact (List.getElem?_eq_some_iff.1 this).1
                    refine .rop b cs 0 s.blk off (fun m => arr.getD (off + m) undef) ?_ (fun m hm => ?_) (fun j sv hj => ?_)
                    · cases b with
                      | true => exact .inr ⟨rfl, .inr ⟨i, by simpa using hmem, (e2 _).2 rfl⟩⟩
                      | false => exact .inl (.inr ⟨i, by simpa using hmem, (e2 _).2 rfl⟩)
                    · simp [World.cell?, e3, hsub m hm]
                    · have hlc := (List.getElem?_eq_some_iff.1 hj).1
                      have hlt : j < l'.length := by omega
                      have hc := c2 j hlc
                      rw [show l'[j]? = some l'[j] by simp [hlt]] at hc
                      obtain ⟨u, hu, hsat⟩ := e6 _ _ hc
                      have : arr.getD (off + j) undef = u := by simp [hu]
                      rw [this]
                      refine (h4 _ _ _ hj (by simp [hlt]) hq E w fp ⟨hl.1, fun i hi => hl.2 i (hi.imp (hb2 i) (hf2 i))⟩ u hsat).stay ?_
                      exact ⟨fun j s hs => hs, fun k hk => hk.imp id (fun ⟨i, a, b⟩ => ⟨i, hf2 i a, b⟩), fun k hk => hk.imp id (fun ⟨i, a, b⟩ => ⟨i, hb2 i a, b⟩)⟩
                cases b with
                | true => exact ⟨m', _, fs', _, h1, ⟨h2.m, fun i e => List.mem_cons_of_mem _ (h2.bs i e), h2.fs, h2.q⟩, key _ _ (fun i e => List.mem_cons_of_mem _ e) (fun i e => e) (by simp)⟩
                | false => exact ⟨m', bs', _, _, h1, ⟨h2.m, h2.bs, fun i e => List.mem_cons_of_mem _ (h2.fs i e), h2.q⟩, key _ _ (fun i e => e) (fun i e => List.mem_cons_of_mem _ e) (by simp)⟩
            | _ => rw [hf] at h; exact h.elim
        | _ => exact h.elim
      | sl j =>
        cases src with
        | sl i =>
          obtain ⟨m', h1, h2, h3, hz⟩ := bindM_spec h
          refine ⟨m', bs, fs, q, h1, ⟨h2, fun _ e => e, fun _ e => e, fun e => e⟩, fun hq E w fp _ v hv => ?_⟩
          cases hv with
          | sl _ s hs => exact .sl j s (by simp [envF, hz, h3, hs])
        | v y =>
          obtain ⟨hy, h'⟩ := nilV_spec (A := nilM j m fun m => K m bs fs q) h
          subst hy
          obtain ⟨m', i, h1, h2, h3, hb, hz⟩ := nilM_spec h'
          refine ⟨m', bs, fs, q, h1, ⟨h2, fun _ e => e, fun _ e => e, fun e => e⟩, fun hq E w fp hl v hv => ?_⟩
          cases hv
          exact .sl j nilSlot (by simp [envF, hz, h3, hl.1 i hb])
        | _ => exact h.elim
      | slc _ _ _ _ => exact h.elim
      | ro b t xs =>
        cases src with
        | ro b' t' ys =>
          dsimp only at h
          split at h
          · exact h.elim
          · rename_i hbb
            exact ⟨m, bs, fs, _, h, ⟨fun _ _ e => e, fun _ e => e, fun _ e => e, fun e => e.tail⟩, good_ro (fun e => by subst e; cases b <;> simp_all)⟩
        | v y =>
          obtain ⟨rfl, h⟩ := nilV_spec h
          refine ⟨m, bs, fs, _, h, ⟨fun _ _ e => e, fun _ e => e, fun _ e => e, fun e => e.tail⟩, fun hq E w fp _ v hv => ?_⟩
          obtain ⟨e, he⟩ := ro_inj hq.head
          simp only at he
          subst he
          cases hv
          exact .nil b t _ _
        | sl i =>
          simp only at h
          cases hf : find M i with
          | row te t' ys =>
            rw [hf] at h
            simp only at h
            have key : ∀ bs' fs', (if b = true then i ∈ bs' else i ∈ fs') → Good1 M (.ro b t xs) (.sl i) m bs' fs' ((SV.ro true t' ys = SV.ro true t xs) :: q) := by
              intro bs' fs' hmem hq E w fp hl v hv
              obtain ⟨e, he⟩ := ro_inj hq.head
              subst e
              simp only at he
              subst he
              cases hv with
              | sl _ s hs =>
                have hent := hl.2 i (by cases b; exact .inr (by simpa using hmem); exact .inl (by simpa using hmem))
                rw [hf] at hent
                exact row_ro hent hs hmem
            cases b with
            | true => exact ⟨m, _, fs, _, h, ⟨fun _ _ e => e, fun _ e => List.mem_cons_of_mem _ e, fun _ e => e, fun e => e.tail⟩, key _ _ (by simp)⟩
            | false => exact ⟨m, bs, _, _, h, ⟨fun _ _ e => e, fun _ e => e, fun _ e => List.mem_cons_of_mem _ e, fun e => e.tail⟩, key _ _ (by simp)⟩
          | _ => rw [hf] at h; exact h.elim
        | slc i o l c =>
          simp only at h
          cases hf : find M i with
          | cells te cs =>
            rw [hf] at h
            simp only at h
            cases hle : Nat.ble l c with
            | false => rw [hle] at h; exact h.elim
            | true =>
              rw [hle] at h
              simp only at h
              cases hcut : cutS cs o (l * t.size) with
              | none => rw [hcut] at h; exact h.elim
              | some l' =>
                rw [hcut] at h
                simp only at h
                obtain ⟨m', bs', fs', q', h1, h2, h3, h4⟩ := ih2 _ _ _ _ _ _ _ h
                obtain ⟨c1, c2⟩ := cutS_spec cs o _ l' hcut
                have hlc : l ≤ c := Nat.le_of_ble_eq_true hle
                have key : ∀ bs2 fs2, (∀ i, i ∈ bs' → i ∈ bs2) → (∀ i, i ∈ fs' → i ∈ fs2) → (if b = true then i ∈ bs2 else i ∈ fs2) → Good1 M (.ro b t xs) (.slc i o l c) m' bs2 fs2 q' := by
                  intro bs2 fs2 hb2 hf2 hmem hq E w fp hl v hv
                  have hlen : xs.length = l := (h2.q hq).head
                  have hent := hl.2 i (by cases b; exact .inr (by simpa using hmem); exact .inl (by simpa using hmem))
                  rw [hf] at hent
                  obtain ⟨s', arr, fz, e1, e2, e3, e4, e5, e6⟩ := hent
                  cases hv with
                  | slc _ _ _ _ s hs =>
                    obtain rfl := Option.some.inj (hs.symm.trans e1)
                    subst hlen
                    have hsub : ∀ m, m < xs.length * t.size → o + m < arr.size := fun m hm => by
                      have := c2 m hm
                      rw [e5]
                      have hlt : m < l'.length := by omega
                      rw [show l'[m]? = some l'[m] by simp [hlt]] at this
                      exact (List.getElem?_eq_some_iff.1 this).1
                    refine .ro b t xs s.blk o c (fun m => arr.getD (o + m) undef) ?_ hlc (fun m hm => ?_) (fun i2 x j sv hi hj => ?_)
                    · cases b with
                      | true => exact .inr ⟨rfl, .inr ⟨i, by simpa using hmem, (e2 _).2 rfl⟩⟩
                      | false => exact .inl (.inr ⟨i, by simpa using hmem, (e2 _).2 rfl⟩)
                    · simp [World.cell?, e3, hsub m hm]
                    · have hjt : j < t.size := by
                        have := (List.getElem?_eq_some_iff.1 hj).1
                        rwa [enc_length] at this
                      have hi2 := (List.getElem?_eq_some_iff.1 hi).1
                      have hm : i2 * t.size + j < xs.length * t.size := by
                        have : (i2 + 1) * t.size ≤ xs.length * t.size := Nat.mul_le_mul_right _ hi2
                        rw [Nat.add_mul] at this; omega
                      have hg := flatF_get (enc t) t.size (enc_length t) xs i2 j x hi hjt
                      rw [hj] at hg
                      have hlt : i2 * t.size + j < l'.length := by omega
                      have hc := c2 _ hm
                      rw [show l'[i2 * t.size + j]? = some l'[i2 * t.size + j] by simp [hlt]] at hc
                      obtain ⟨u, hu, hsat⟩ := e6 _ _ hc
                      have : arr.getD (o + (i2 * t.size + j)) undef = u := by simp [hu]
                      rw [this]
                      refine (h4 _ _ _ hg (by simp [hlt]) hq E w fp ⟨hl.1, fun i hi => hl.2 i (hi.imp (hb2 i) (hf2 i))⟩ u hsat).stay ?_
                      exact ⟨fun j s hs => hs, fun k hk => hk.imp id (fun ⟨i, a, b⟩ => ⟨i, hf2 i a, b⟩), fun k hk => hk.imp id (fun ⟨i, a, b⟩ => ⟨i, hb2 i a, b⟩)⟩
                cases b with
                | true => exact ⟨m', _, fs', _, h1, ⟨h2.m, fun i e => List.mem_cons_of_mem _ (h2.bs i e), h2.fs, fun e => (h2.q e).tail⟩, key _ _ (fun i e => List.mem_cons_of_mem _ e) (fun i e => e) (by simp)⟩
                | false => exact ⟨m', bs', _, _, h1, ⟨h2.m, h2.bs, fun i e => List.mem_cons_of_mem _ (h2.fs i e), fun e => (h2.q e).tail⟩, key _ _ (fun i e => e) (fun i e => List.mem_cons_of_mem _ e) (by simp)⟩
          | _ => rw [hf] at h; exact h.elim
        | _ => exact h.elim
      | agg l =>
        cases src with
        | agg l' =>
          obtain ⟨m', bs', fs', q', h1, h2, h3, h4⟩ := ih2 _ _ _ _ _ _ _ h
          refine ⟨m', bs', fs', q', h1, h2, fun hq E w fp hl v hv => ?_⟩
          cases hv with
          | agg _ vs u hsz hu hs =>
            refine .agg l vs u (by omega) (fun j hj => hu j (by omega)) (fun j sv hj => ?_)
            have hlt : j < l'.length := by
              have := (List.getElem?_eq_some_iff.1 hj).1; omega
            exact h4 j sv l'[j] hj (by simp [hlt]) hq E w fp hl _ (hs j l'[j] (by simp [hlt]))
        | _ => exact h.elim
      | tuple l =>
        cases src with
        | tuple l' =>
          obtain ⟨m', bs', fs', q', h1, h2, h3, h4⟩ := ih2 _ _ _ _ _ _ _ h
          refine ⟨m', bs', fs', q', h1, h2, fun hq E w fp hl v hv => ?_⟩
          cases hv with
          | tuple _ vs u hsz hu hs =>
            refine .tuple l vs u (by omega) (fun j hj => hu j (by omega)) (fun j sv hj => ?_)
            have hlt : j < l'.length := by
              have := (List.getElem?_eq_some_iff.1 hj).1; omega
            exact h4 j sv l'[j] hj (by simp [hlt]) hq E w fp hl _ (hs j l'[j] (by simp [hlt]))
        | _ => exact h.elim
      | func fn fa fc =>
        cases fn with
        | func f =>
          cases src with
          | func fn' fa' fc' =>
            cases fn' with
            | func f' =>
              simp only at h
              split at h
              · rename_i hb
                obtain rfl := Nat.eq_of_beq_eq_true hb
                obtain ⟨m1, bs1, fs1, q1, h1, h2, h3, h4⟩ := ih2 _ _ _ _ _ _ _ h
                obtain ⟨m2, bs2, fs2, q2, k1, k2, k3, k4⟩ := ih2 _ _ _ _ _ _ _ h1
                refine ⟨m2, bs2, fs2, q2, k1, h2.trans k2, fun hq E w fp hl v hv => ?_⟩
                cases hv with
                | func _ _ _ vf vc uf uc hf hc huf huc hsf hsc =>
                  refine .func _ fa fc vf vc uf uc (by omega) (by omega) (fun j hj => huf j (by omega)) (fun j hj => huc j (by omega)) (fun j sv hj => ?_) (fun j sv hj => ?_)
                  · have hlt : j < fa'.length := by
                      have := (List.getElem?_eq_some_iff.1 hj).1; omega
                    exact (h4 j sv fa'[j] hj (by simp [hlt])).grow k2 hq E w fp hl _ (hsf j fa'[j] (by simp [hlt]))
                  · have hlt : j < fc'.length := by
                      have := (List.getElem?_eq_some_iff.1 hj).1; omega
                    exact k4 j sv fc'[j] hj (by simp [hlt]) hq E w fp hl _ (hsc j fc'[j] (by simp [hlt]))
              · exact h.elim
            | _ => exact h.elim
          | _ => exact h.elim
        | _ => exact h.elim
    · intro tgt src m bs fs q K h
      unfold matL at h
      cases tgt with
      | nil =>
        cases src with
        | nil => exact ⟨m, bs, fs, q, h, .refl _ _ _ _, rfl, fun j t s hj => by simp at hj⟩
        | cons y l' => exact h.elim
      | cons x l =>
        cases src with
        | nil => exact h.elim
        | cons y l' =>
          obtain ⟨m1, bs1, fs1, q1, h1, h2, h3⟩ := ih1 _ _ _ _ _ _ _ h
          obtain ⟨m2, bs2, fs2, q2, k1, k2, k3, k4⟩ := ih2 _ _ _ _ _ _ _ h1
          refine ⟨m2, bs2, fs2, q2, k1, h2.trans k2, by simp [k3], fun j t s hj hs => ?_⟩
          cases j with
          | zero =>
            obtain rfl : x = t := by simpa using hj
            obtain rfl : y = s := by simpa using hs
            exact h3.grow k2
          | succ j => exact k4 j t s (by simpa using hj) (by simpa using hs)

end Go.Eng
