/- The engine, part G: what a contract says of a function; a call by contract. -/
import Derived.Test.YteckpdifeoffjaaDoorEngF
set_option linter.unusedVariables false
namespace Go.Eng

/-- The contract holds of whatever is reckoned by Z. -/
def Ctr.okZ (C : Ctr) (Z : Array Value → World → (Ending → World → Prop) → Prop) : Prop :=
  ∀ (x : C.X), C.side x → C.ens x (C.val x) ∧ ∀ (E : Env) (fp : Nat → Nat → Prop) (vals : Array Value) (w : World), vals.size = (C.args x).length →
    (∀ (j : Nat) (s : SV), (C.args x)[j]? = some s → Sat E w s (vals.getD j undef)) → EntsSat E w fp (C.rw x) → (∀ id, E.slot id ≠ none → id < 1000 ∨ nilB id = true) →
    Z vals w fun e w' => ∃ v E' fp', e = .returned v ∧ Sat E' w' (C.res x (C.val x)) v ∧ EntsSat E' w' fp' (C.out x (C.val x)) ∧ Adv E fp w E' fp' w' ∧
      ∀ id, id < 1000 → E'.slot id = E.slot id
/-- The contract holds of function f. -/
def Ctr.ok (C : Ctr) (P : Program) (f : FuncId) : Prop := C.okZ fun vals w R => CallsIn (fence none) 0 P f vals w R
/-- The contract holds of function f, which has no body: the model answers by itself. -/
def Ctr.okV (C : Ctr) (P : Program) (f : FuncId) : Prop := C.okZ fun vals w R => ∃ v, (callFunc f vals).run P w = .ok (.value v) w ∧ R (.returned v) w

def fpG (e : Ent) (f : Nat → Prop) : Nat → Prop := match e with | .gone => fun _ => False | _ => f

theorem fpG_sub {e : Ent} {f : Nat → Prop} {b : Nat} (h : fpG e f b) : f b := by cases e <;> first | exact h | exact h.elim

theorem matEnt_good {M : En} {tgt src : Ent} {m : Mp} {bs fs : List Nat} {q : List Prop} {K : MK} (h : matEnt M tgt src m bs fs q K) :
    ∃ m' bs' fs' q', K m' bs' fs' q' ∧ Grow m m' bs bs' fs fs' q q' ∧
      (allq q' → ∀ (E : Env) (w : World) (fp : Nat → Nat → Prop), Lent M E w fp bs' fs' → ∀ i j, mlook m' j = some i → nilB j = false → ∀ f, EntSat E w f i src → EntSat (envF E fp m' bs' fs') w (fpG tgt f) j tgt) := by
  unfold matEnt at h
  cases tgt with
  | gone => exact ⟨m, bs, fs, q, h, .refl _ _ _ _, fun _ E w fp _ i j _ _ f _ => fun _ hb => hb⟩
  | cells t cs =>
    cases src with
    | cells t' cs' =>
      dsimp only at h
      split at h
      · rename_i hb
        obtain rfl := Nat.eq_of_beq_eq_true hb
        obtain ⟨m', bs', fs', q', h1, h2, h3, h4⟩ := (mat_good M 200).2 _ _ _ _ _ _ _ h
        refine ⟨m', bs', fs', q', h1, h2, fun hq E w fp hl i j hm hz f he => ?_⟩
        obtain ⟨s, arr, fz, e1, e2, e3, e4, e5, e6⟩ := he
        refine ⟨s, arr, fz, by simp [envF, hz, hm, e1], e2, e3, e4, by omega, fun k sv hk => ?_⟩
        have hlt : k < cs'.length := by
          have := (List.getElem?_eq_some_iff.1 hk).1; omega
        obtain ⟨u, hu, hs⟩ := e6 k cs'[k] (by simp [hlt])
        exact ⟨u, hu, h4 k sv cs'[k] hk (by simp [hlt]) hq E w fp hl u hs⟩
      · exact h.elim
    | _ => exact h.elim
  | row te t xs =>
    cases src with
    | row te' t' ys =>
      dsimp only at h
      split at h
      · rename_i hb
        obtain rfl := Nat.eq_of_beq_eq_true hb
        refine ⟨m, bs, fs, _, h, ⟨fun _ _ e => e, fun _ e => e, fun _ e => e, fun e => e.tail⟩, fun hq E w fp hl i j hm hz f he => ?_⟩
        obtain ⟨e, hx⟩ := ro_inj hq.head
        subst e
        simp only at hx
        subst hx
        obtain ⟨s, h1, h2⟩ := he
        refine ⟨s, by simp [envF, hz, hm, h1], h2.imp id ?_⟩
        rintro ⟨o, c, arr, fz, g1, g2, g3, g4, g5, g6, g7⟩
        exact ⟨o, c, arr, fz, g1, g2, g3, g4, g5, g6, fun i x j sv hi hj => let ⟨u, hu, hs⟩ := g7 i x j sv hi hj; ⟨u, hu, enc_env hj hs⟩⟩
      · exact h.elim
    | _ => exact h.elim
  | res F A =>
    cases src with
    | res F' B =>
      refine ⟨m, bs, fs, _, h, ⟨fun _ _ e => e, fun _ e => e, fun _ e => e, fun e => e.tail.tail⟩, fun hq E w fp hl i j hm hz f he => ?_⟩
      have e1 := hq.head
      have e2 := hq.tail.head
      subst e1
      subst e2
      obtain ⟨hF, J, hJ, hA⟩ := he
      exact ⟨fun b hb => ⟨(hF b hb).1.imp .inl .inl, (hF b hb).2⟩, J, fun b hb => ⟨.inl (hJ b hb).1, (hJ b hb).2⟩, hA⟩
    | _ => exact h.elim

/-- The names, each with its own. -/
structure Taken (tgt : En) (m : Mp) (us us' : List Nat) : Prop where
  old : ∀ i, i ∈ us → i ∈ us'
  at_ : ∀ j e, (j, e) ∈ tgt → ∃ i, mlook m j = some i ∧ i ∈ us' ∧ i ∉ us
  inj : ∀ j e j' e', (j, e) ∈ tgt → (j', e') ∈ tgt → mlook m j = mlook m j' → j = j'
  nodup : (keys tgt).Nodup
  only : ∀ i, i ∈ us' → i ∈ us ∨ ∃ j e, (j, e) ∈ tgt ∧ mlook m j = some i

theorem srcE_sat {E : Env} {w : World} {f : Nat → Prop} {M : En} {i : Nat} {e : Ent} (hn : NilOk E) (h : EntSat E w f i (find M i)) : EntSat E w f i (srcE M i e) := by
  unfold srcE
  split
  · rename_i hb
    split
    · rename_i hf
      rw [hf] at h
      split
      · exact ⟨nilSlot, hn i hb, .inl ⟨rfl, rfl, h⟩⟩
      · exact h
    · exact h
  · exact h

theorem resM_grow {M : En} {e : Ent} {j : Nat} (m : Mp) (bs fs : List Nat) (q : List Prop) : Grow m (resM M e j m) bs bs fs fs q q := by
  refine ⟨fun j' i h => ?_, fun _ h => h, fun _ h => h, fun h => h⟩
  unfold resM
  split
  · split
    · exact h
    · rename_i hn
      split
      · rw [mlook_cons]
        by_cases e : j = j'
        · subst e; rw [hn] at h; cases h
        · rw [if_neg e]; exact h
      · exact h
  · exact h

theorem matE_good {M : En} : ∀ (tgt : En) {m : Mp} {bs fs : List Nat} {q : List Prop} {us : List Nat} {K : Mp → List Nat → List Nat → List Prop → List Nat → Prop}, matE M tgt m bs fs q us K →
    ∃ m' bs' fs' q' us', K m' bs' fs' q' us' ∧ Grow m m' bs bs' fs fs' q q' ∧ Taken tgt m' us us' ∧
      (allq q' → ∀ (E : Env) (w : World) (fp : Nat → Nat → Prop), Lent M E w fp bs' fs' → ∀ j e, (j, e) ∈ tgt → ∀ i, mlook m' j = some i → EntSat E w (fp i) i (find M i) → EntSat (envF E fp m' bs' fs') w (fpG e (fp i)) j e)
  | [], m, bs, fs, q, us, K, h => ⟨m, bs, fs, q, us, h, .refl _ _ _ _, ⟨fun _ h => h, (fun _ _ h => by cases h), (fun _ _ _ _ h => by cases h), List.nodup_nil, fun i h => .inl h⟩, fun _ _ _ _ _ j e h => by cases h⟩
  | (j, e) :: l, m, bs, fs, q, us, K, h => by
    unfold matE at h
    have h0 := resM_grow (M := M) (e := e) (j := j) m bs fs q
    generalize resM M e j m = m0 at h h0
    cases hj : mlook m0 j with
    | none => rw [hj] at h; exact h.elim
    | some i =>
      rw [hj] at h
      dsimp only at h
      cases hu : memB i us with
      | true => rw [hu] at h; exact h.elim
      | false =>
        rw [hu] at h
        dsimp only at h
        have hius : i ∉ us := fun x => by rw [memB_iff.2 x] at hu; cases hu
        cases hz : nilB j with
        | true => rw [hz] at h; exact h.elim
        | false =>
        rw [hz] at h
        dsimp only at h
        obtain ⟨m1, bs1, fs1, q1, h1, h2, h3⟩ := matEnt_good h
        obtain ⟨m2, bs2, fs2, q2, us2, k1, k2, k3, k4⟩ := matE_good l h1
        have hj2 : mlook m2 j = some i := k2.m _ _ (h2.m _ _ hj)
        refine ⟨m2, bs2, fs2, q2, us2, k1, h0.trans (h2.trans k2), ⟨fun i' h' => k3.old i' (List.mem_cons_of_mem _ h'), ?_, ?_, ?_, ?_⟩, ?_⟩
        · intro j' e' hm
          rcases List.mem_cons.1 hm with heq | hm
          · obtain ⟨rfl, rfl⟩ := Prod.mk.inj heq
            exact ⟨i, hj2, k3.old i (List.mem_cons_self ..), hius⟩
          · obtain ⟨i', a1, a2, a3⟩ := k3.at_ j' e' hm
            exact ⟨i', a1, a2, fun hx => a3 (List.mem_cons_of_mem _ hx)⟩
        · have key : ∀ j' e', (j', e') ∈ l → mlook m2 j = mlook m2 j' → False := fun j' e' hm hx => by
            obtain ⟨i', a1, a2, a3⟩ := k3.at_ j' e' hm
            rw [hj2, a1] at hx
            obtain rfl := Option.some.inj hx
            exact a3 (List.mem_cons_self ..)
          intro ja ea jb eb hma hmb hx
          rcases List.mem_cons.1 hma with heqa | hma' <;> rcases List.mem_cons.1 hmb with heqb | hmb'
          · obtain ⟨rfl, rfl⟩ := Prod.mk.inj heqa
            obtain ⟨rfl, rfl⟩ := Prod.mk.inj heqb
            rfl
          · obtain ⟨rfl, rfl⟩ := Prod.mk.inj heqa
            exact (key jb eb hmb' hx).elim
          · obtain ⟨rfl, rfl⟩ := Prod.mk.inj heqb
            exact (key ja ea hma' hx.symm).elim
          · exact k3.inj ja ea jb eb hma' hmb' hx
        · show (j :: keys l).Nodup
          refine List.nodup_cons.2 ⟨fun hm => ?_, k3.nodup⟩
          obtain ⟨⟨j', e'⟩, hm', rfl⟩ := List.mem_map.1 hm
          obtain ⟨i', a1, a2, a3⟩ := k3.at_ j' e' hm'
          rw [hj2] at a1
          obtain rfl := Option.some.inj a1
          exact a3 (List.mem_cons_self ..)
        · intro i' hi'
          rcases k3.only i' hi' with h' | ⟨j', e', h1', h2'⟩
          · rcases List.mem_cons.1 h' with rfl | h'
            · exact .inr ⟨j, e, List.mem_cons_self .., hj2⟩
            · exact .inl h'
          · exact .inr ⟨j', e', List.mem_cons_of_mem _ h1', h2'⟩
        · intro hq E w fp hl j' e' hm i' hi' hent
          rcases List.mem_cons.1 hm with heq | hm
          · obtain ⟨rfl, rfl⟩ := Prod.mk.inj heq
            obtain rfl := Option.some.inj (hj2.symm.trans hi')
            have := h3 (k2.q hq) E w fp ⟨hl.1, fun i hi => hl.2 i (hi.imp (k2.bs i) (k2.fs i))⟩ i j' (h2.m _ _ hj) hz (fp i) (srcE_sat hl.1 hent)
            exact this.mono (k2.env E fp) (fun _ _ _ => rfl) (Nat.le_refl _) (fun _ _ => rfl)
          · exact k4 hq E w fp hl j' e' hm i' hi' hent

theorem find_mem {M : En} (hn : (keys M).Nodup) {j : Nat} {e : Ent} (h : (j, e) ∈ M) : find M j = e := by
  induction M with
  | nil => cases h
  | cons p M ih =>
    obtain ⟨k, x⟩ := p
    have hn' : k ∉ keys M ∧ (keys M).Nodup := List.nodup_cons.1 hn
    rcases List.mem_cons.1 h with heq | h
    · obtain ⟨rfl, rfl⟩ := Prod.mk.inj heq
      simp [find]
    · have hk : k ≠ j := fun e' => hn'.1 (List.mem_map.2 ⟨(j, e), h, e'.symm⟩)
      have hb : Nat.beq k j = false := by rw [← Bool.not_eq_true, Nat.beq_eq]; exact hk
      simp only [find, hb]
      exact ih hn'.2 h

theorem find_none {M : En} {j : Nat} (h : j ∉ keys M) : find M j = .gone := by
  induction M with
  | nil => rfl
  | cons p M ih =>
    obtain ⟨k, x⟩ := p
    have hk : k ≠ j := fun e => h (by simp [keys, e])
    have hb : Nat.beq k j = false := by rw [← Bool.not_eq_true, Nat.beq_eq]; exact hk
    simp only [find, hb]
    exact ih (fun hm => h (by simp only [keys, List.map_cons, List.mem_cons]; exact .inr hm))

theorem mem_of_find {M : En} {j : Nat} (h : j ∈ keys M) : (j, find M j) ∈ M := by
  induction M with
  | nil => cases h
  | cons p M ih =>
    obtain ⟨k, x⟩ := p
    by_cases hk : k = j
    · subst hk; simp [find]
    · have hb : Nat.beq k j = false := by rw [← Bool.not_eq_true, Nat.beq_eq]; exact hk
      simp only [find, hb]
      have : j ∈ keys M := by
        simp only [keys, List.map_cons, List.mem_cons] at h
        exact h.resolve_left (fun e => hk e.symm)
      exact List.mem_cons_of_mem _ (ih this)

/-- The footprints of the target. -/
def fpF (fp : Nat → Nat → Prop) (m : Mp) (tgt : En) : Nat → Nat → Prop := fun j => match mlook m j with
  | some i => fpG (find tgt j) (fp i)
  | none => fun _ => False

/-- The target's state holds in the target's environment. -/
theorem EntsSat.target {E : Env} {w : World} {fp : Nat → Nat → Prop} {M N tgt : En} {m : Mp} {bs fs us : List Nat} (h : EntsSat E w fp N) (hM : ∀ i, i ∈ us → EntSat E w (fp i) i (find M i)) (ht : Taken tgt m [] us)
    (hsem : ∀ j e, (j, e) ∈ tgt → ∀ i, mlook m j = some i → EntSat E w (fp i) i (find M i) → EntSat (envF E fp m bs fs) w (fpG e (fp i)) j e)
    (hb : anyB bs us = false) (hf : anyB fs us = false) : EntsSat (envF E fp m bs fs) w (fpF fp m tgt) tgt := by
  have hsub : ∀ j b, fpF fp m tgt j b → ∃ i, mlook m j = some i ∧ j ∈ keys tgt ∧ i ∈ us ∧ fp i b := by
    intro j b hj
    cases hi : mlook m j with
    | none => simp only [fpF, hi] at hj
    | some i =>
      simp only [fpF, hi] at hj
      by_cases hk : j ∈ keys tgt
      · have hmem := mem_of_find hk
        obtain ⟨i', a1, a2, _⟩ := ht.at_ _ _ hmem
        obtain rfl := Option.some.inj (hi.symm.trans a1)
        exact ⟨i, rfl, hk, a2, fpG_sub hj⟩
      · rw [find_none hk] at hj; exact hj.elim
  refine ⟨fun j => ?_, fun j b hj => ?_, fun j b hj hI => ?_, fun j b hj hB => ?_, fun j j' b hne hj hj' => ?_, fun b hb => ?_, fun i hi => by simp only [envF, hi], h.gl.mono (fun b hb => .inl hb) (fun _ _ => rfl)⟩
  · by_cases hk : j ∈ keys tgt
    · have hmem := mem_of_find hk
      obtain ⟨i, a1, a2, _⟩ := ht.at_ _ _ hmem
      have := hsem j _ hmem i a1 (hM i a2)
      have e : fpF fp m tgt j = fpG (find tgt j) (fp i) := by simp [fpF, a1]
      rw [e]; exact this
    · rw [find_none hk]
      intro b hb
      obtain ⟨i, _, hk', _⟩ := hsub j b hb
      exact hk hk'
  · obtain ⟨i, _, _, _, hb'⟩ := hsub j b hj; exact h.lt i b hb'
  · obtain ⟨i, _, _, hi, hb'⟩ := hsub j b hj
    rcases hI with hI | ⟨i', h1, h2⟩
    · exact h.I i b hb' hI
    · by_cases e : i = i'
      · subst e
        have : anyB fs us = true := anyB_iff.2 ⟨i, h1, hi⟩
        rw [hf] at this; cases this
      · exact h.apart i i' b e hb' h2
  · obtain ⟨i, _, _, hi, hb'⟩ := hsub j b hj
    rcases hB with hI | ⟨i', h1, h2⟩
    · exact h.B i b hb' hI
    · by_cases e : i = i'
      · subst e
        have : anyB bs us = true := anyB_iff.2 ⟨i, h1, hi⟩
        rw [hb] at this; cases this
      · exact h.apart i i' b e hb' h2
  · obtain ⟨i, a1, k1, _, hb1⟩ := hsub j b hj
    obtain ⟨i', a2, k2, _, hb2⟩ := hsub j' b hj'
    by_cases e : i = i'
    · subst e
      exact hne (ht.inj j _ j' _ (mem_of_find k1) (mem_of_find k2) (a1.trans a2.symm))
    · exact h.apart i i' b e hb1 hb2
  · rcases hb with (h1 | ⟨i, _, h1⟩) | (h1 | ⟨i, _, h1⟩)
    · exact h.Ilt b (.inl h1)
    · exact h.lt i b h1
    · exact h.Ilt b (.inr h1)
    · exact h.lt i b h1

/-! ### Names anew -/

theorem ren_good (bb : Bool) (m : Mp) : ∀ (n : Nat),
    (∀ s K, renS bb n m s K → ∃ s', K s' ∧ ∀ (E E' : Env) (w : World) (v : Value), (∀ j i, mlook m j = some i → ∀ sl, E.slot j = some sl → E'.slot i = some sl) → (∀ b, E.I b → E'.I b) → (bb = true → ∀ b, E.B b → E'.B b) → Sat E w s v → Sat E' w s' v) ∧
    (∀ l K, renL bb n m l K → ∃ l', K l' ∧ l'.length = l.length ∧ ∀ (E E' : Env) (w : World), (∀ j i, mlook m j = some i → ∀ sl, E.slot j = some sl → E'.slot i = some sl) → (∀ b, E.I b → E'.I b) → (bb = true → ∀ b, E.B b → E'.B b) →
      ∀ (k : Nat) (s' : SV), l'[k]? = some s' → ∃ s, l[k]? = some s ∧ ∀ v, Sat E w s v → Sat E' w s' v) := by
  intro n
  induction n with
  | zero => exact ⟨fun s K h => by simp [renS] at h, fun l K h => by simp [renL] at h⟩
  | succ n ih =>
    obtain ⟨ih1, ih2⟩ := ih
    refine ⟨?_, ?_⟩
    · intro s K h
      unfold renS at h
      cases s with
      | v x => exact ⟨_, h, fun E E' w v _ _ _ hv => by cases hv; exact .v x⟩
      | any => exact ⟨_, h, fun E E' w v _ _ _ hv => .any v⟩
      | unkB p => exact ⟨_, h, fun E E' w v _ _ _ hv => by cases hv with | unkB _ b hb => exact .unkB p b hb⟩
      | ptr j o =>
        dsimp only at h
        split at h
        · rename_i i hi
          exact ⟨_, h, fun E E' w v hs _ _ hv => by cases hv with | ptr _ _ s hsl => exact .ptr i o s (hs j i hi s hsl)⟩
        · exact h.elim
      | sl j =>
        dsimp only at h
        split at h
        · rename_i i hi
          exact ⟨_, h, fun E E' w v hs _ _ hv => by cases hv with | sl _ s hsl => exact .sl i s (hs j i hi s hsl)⟩
        · exact h.elim
      | elp j z x o =>
        dsimp only at h
        split at h
        · rename_i i hi
          exact ⟨_, h, fun E E' w v hs _ _ hv => by cases hv with | elp _ _ _ _ s hsl o' n' c' hv' => exact .elp i z x o s (hs j i hi s hsl) o' n' c' hv'⟩
        · exact h.elim
      | slc j o l c =>
        dsimp only at h
        split at h
        · rename_i i hi
          exact ⟨_, h, fun E E' w v hs _ _ hv => by cases hv with | slc _ _ _ _ s hsl => exact .slc i o l c s (hs j i hi s hsl)⟩
        · exact h.elim
      | ro b t xs =>
        dsimp only at h
        cases hbb : b && !bb with
        | true => rw [hbb] at h; exact h.elim
        | false =>
          rw [hbb] at h
          refine ⟨_, h, fun E E' w v _ hI hB hv => ?_⟩
          cases hv with
          | nil => exact .nil b t _ _
          | ro _ _ _ k o c u hbk hle hc hs =>
            exact .ro b t xs k o c u (hbk.imp (hI k) (fun ⟨e, h'⟩ => ⟨e, hB (by subst e; simpa using hbb) k h'⟩)) hle hc (fun i x j sv hi hj => (enc_move hI t).1 x j sv _ hj (hs i x j sv hi hj))
      | agg l =>
        obtain ⟨l', h1, h2, h3⟩ := ih2 _ _ h
        refine ⟨_, h1, fun E E' w v hs hI hB hv => ?_⟩
        cases hv with
        | agg _ vs u hl hu hss =>
          refine .agg l' vs u (by omega) (fun j hj => hu j (by omega)) (fun j sv hj => ?_)
          obtain ⟨s, e1, e2⟩ := h3 E E' w hs hI hB j sv hj
          exact e2 _ (hss j s e1)
      | tuple l =>
        obtain ⟨l', h1, h2, h3⟩ := ih2 _ _ h
        refine ⟨_, h1, fun E E' w v hs hI hB hv => ?_⟩
        cases hv with
        | tuple _ vs u hl hu hss =>
          refine .tuple l' vs u (by omega) (fun j hj => hu j (by omega)) (fun j sv hj => ?_)
          obtain ⟨s, e1, e2⟩ := h3 E E' w hs hI hB j sv hj
          exact e2 _ (hss j s e1)
      | func fn fa fc =>
        obtain ⟨la, h1, h2, h3⟩ := ih2 _ _ h
        obtain ⟨lc, k1, k2, k3⟩ := ih2 _ _ h1
        refine ⟨_, k1, fun E E' w v hs hI hB hv => ?_⟩
        cases hv with
        | func _ _ _ vf vc uf uc hf hc huf huc hsf hsc =>
          refine .func fn la lc vf vc uf uc (by omega) (by omega) (fun j hj => huf j (by omega)) (fun j hj => huc j (by omega)) (fun j sv hj => ?_) (fun j sv hj => ?_)
          · obtain ⟨s, e1, e2⟩ := h3 E E' w hs hI hB j sv hj
            exact e2 _ (hsf j s e1)
          · obtain ⟨s, e1, e2⟩ := k3 E E' w hs hI hB j sv hj
            exact e2 _ (hsc j s e1)
      | rop b cs o =>
        dsimp only at h
        cases hbb : b && !bb with
        | true => rw [hbb] at h; exact h.elim
        | false =>
          rw [hbb] at h
          obtain ⟨l', h1, h2, h3⟩ := ih2 _ _ h
          refine ⟨_, h1, fun E E' w v hs hI hB hv => ?_⟩
          cases hv with
          | rop _ _ _ k o1 u hbk hc hss =>
            refine .rop b l' o k o1 u (hbk.imp (hI k) (fun ⟨e, h'⟩ => ⟨e, hB (by subst e; simpa using hbb) k h'⟩)) (fun j hj => hc j (by omega)) (fun j sv hj => ?_)
            obtain ⟨s, e1, e2⟩ := h3 E E' w hs hI hB j sv hj
            exact e2 _ (hss j s e1)
    · intro l K h
      unfold renL at h
      cases l with
      | nil => exact ⟨_, h, rfl, fun E E' w _ _ _ k s' hk => by simp at hk⟩
      | cons x l =>
        obtain ⟨x', h1, h2⟩ := ih1 _ _ h
        obtain ⟨l', k1, k2, k3⟩ := ih2 _ _ h1
        refine ⟨_, k1, by simp [k2], fun E E' w hs hI hB k s' hk => ?_⟩
        cases k with
        | zero =>
          obtain rfl : x' = s' := by simpa using hk
          exact ⟨x, rfl, fun v hv => h2 E E' w v hs hI hB hv⟩
        | succ k => exact k3 E E' w hs hI hB k s' (by simpa using hk)

theorem renEnt_good {bb : Bool} {m : Mp} {e : Ent} {K : Ent → Prop} (h : renEnt bb m e K) : ∃ e', K e' ∧
    ∀ (E E' : Env) (w : World) (f : Nat → Prop) (j i : Nat), mlook m j = some i → (∀ j i, mlook m j = some i → ∀ sl, E.slot j = some sl → E'.slot i = some sl) → (∀ b, E.I b → E'.I b) → (bb = true → ∀ b, E.B b → E'.B b) → (∀ F A, e = .res F A → ∀ b, F b → E'.I b ∨ E'.B b) → EntSat E w f j e → EntSat E' w f i e' := by
  unfold renEnt at h
  cases e with
  | gone => exact ⟨_, h, fun E E' w f j i _ _ _ _ _ he => he⟩
  | cells t cs =>
    obtain ⟨l', h1, h2, h3⟩ := (ren_good bb m 200).2 _ _ h
    refine ⟨_, h1, fun E E' w f j i hji hs hI hB _ he => ?_⟩
    obtain ⟨s, arr, fz, e1, e2, e3, e4, e5, e6⟩ := he
    refine ⟨s, arr, fz, hs j i hji s e1, e2, e3, e4, by omega, fun k sv hk => ?_⟩
    obtain ⟨s0, g1, g2⟩ := h3 E E' w hs hI hB k sv hk
    obtain ⟨u, hu, hsat⟩ := e6 k s0 g1
    exact ⟨u, hu, g2 u hsat⟩
  | row te t xs =>
    refine ⟨_, h, fun E E' w f j i hji hs hI hB _ he => ?_⟩
    obtain ⟨s, h1, h2⟩ := he
    refine ⟨s, hs j i hji s h1, h2.imp id ?_⟩
    rintro ⟨o, c, arr, fz, g1, g2, g3, g4, g5, g6, g7⟩
    exact ⟨o, c, arr, fz, g1, g2, g3, g4, g5, g6, fun i x j sv hi hj => let ⟨u, hu, hs⟩ := g7 i x j sv hi hj; ⟨u, hu, (enc_move hI t).1 x j sv u hj hs⟩⟩
  | res F A => exact ⟨_, h, fun E E' w f j i _ _ hI _ hF he => by
    obtain ⟨h1, J, hJ, hA⟩ := he
    exact ⟨fun b hb => ⟨hF F A rfl b hb, (h1 b hb).2⟩, J, fun b hb => ⟨hI b (hJ b hb).1, (hJ b hb).2⟩, hA⟩⟩

/-- Entries under new names: each j's entry is now i's. -/
theorem renE_good {bb : Bool} {m : Mp} : ∀ (l : En) {K : En → Prop}, renE bb m l K → ∃ l', K l' ∧ l'.length = l.length ∧
    ∀ (k : Nat) (i : Nat) (e' : Ent), l'[k]? = some (i, e') → ∃ j e, l[k]? = some (j, e) ∧ mlook m j = some i ∧
      ∀ (E E' : Env) (w : World) (f : Nat → Prop), (∀ j i, mlook m j = some i → ∀ sl, E.slot j = some sl → E'.slot i = some sl) → (∀ b, E.I b → E'.I b) → (bb = true → ∀ b, E.B b → E'.B b) → (∀ F A, e = .res F A → ∀ b, F b → E'.I b ∨ E'.B b) → EntSat E w f j e → EntSat E' w f i e'
  | [], K, h => ⟨[], h, rfl, fun k i e' hk => by simp at hk⟩
  | (j, e) :: l, K, h => by
    unfold renE at h
    cases hj : mlook m j with
    | none => rw [hj] at h; exact h.elim
    | some i =>
      rw [hj] at h
      obtain ⟨e', h1, h2⟩ := renEnt_good h
      obtain ⟨l', k1, k2, k3⟩ := renE_good l h1
      refine ⟨_, k1, by simp [k2], fun k i' e'' hk => ?_⟩
      cases k with
      | zero =>
        obtain ⟨rfl, rfl⟩ : i = i' ∧ e' = e'' := by simpa using hk
        exact ⟨j, e, rfl, hj, fun E E' w f hs hI hB hF he => h2 E E' w f j i hj hs hI hB hF he⟩
      | succ k => exact k3 k i' e'' (by simpa using hk)

theorem memB_false {i : Nat} {l : List Nat} (h : memB i l = false) : i ∉ l := fun e => by rw [memB_iff.2 e] at h; cases h
theorem anyB_false {l m : List Nat} (h : anyB l m = false) {i : Nat} (h1 : i ∈ l) (h2 : i ∈ m) : False := by
  rw [anyB_iff.2 ⟨i, h1, h2⟩] at h; cases h
theorem nodupB_spec : ∀ {l : List Nat}, nodupB l = true → l.Nodup
  | [], _ => List.nodup_nil
  | i :: l, h => by
    simp only [nodupB] at h
    cases hm : memB i l with
    | true => rw [hm] at h; cases h
    | false => rw [hm] at h; exact List.nodup_cons.2 ⟨memB_false hm, nodupB_spec h⟩
theorem allLt_spec {n : Nat} : ∀ {m : Mp}, allLt n m = true → ∀ j i, mlook m j = some i → j < n
  | [], _, j, i, h => by cases h
  | (k, i0) :: m, h, j, i, hj => by
    simp only [allLt] at h
    cases hk : Nat.blt k n with
    | false => rw [hk] at h; cases h
    | true =>
      rw [hk] at h
      rw [mlook_cons] at hj
      split at hj
      · rename_i e; subst e; simp [Nat.blt] at hk; omega
      · exact allLt_spec h j i hj

theorem extM_old : ∀ (l : List Nat) (m : Mp) (lo : Nat) (j i : Nat), mlook m j = some i → mlook (extM m lo l) j = some i
  | [], _, _, _, _, h => h
  | k :: l, m, lo, j, i, h => by
    simp only [extM]
    cases hk : mlook m k with
    | some _ => exact extM_old l m lo j i h
    | none =>
      refine extM_old l _ _ j i ?_
      rw [mlook_cons]
      by_cases e : k = j
      · subst e; rw [hk] at h; cases h
      · rw [if_neg e]; exact h

theorem extM_new : ∀ (l : List Nat) (m : Mp) (lo : Nat) (j i : Nat), mlook (extM m lo l) j = some i → mlook m j = none → lo ≤ i ∧ i < lo + l.length
  | [], m, lo, j, i, h, hn => by rw [show extM m lo [] = m from rfl, hn] at h; cases h
  | k :: l, m, lo, j, i, h, hn => by
    simp only [extM] at h
    cases hk : mlook m k with
    | some _ =>
      rw [hk] at h
      have := extM_new l m lo j i h hn
      simp only [List.length_cons]; omega
    | none =>
      rw [hk] at h
      dsimp only at h
      by_cases e : k = j
      · subst e
        have h2 := extM_old l ((k, lo) :: m) (lo + 1) k lo (by rw [mlook_cons]; simp)
        rw [h2] at h
        obtain rfl := Option.some.inj h
        simp only [List.length_cons]; omega
      · have := extM_new l _ _ j i h (by rw [mlook_cons, if_neg e]; exact hn)
        simp only [List.length_cons]; omega

theorem extM_inj : ∀ (l : List Nat) (m : Mp) (lo : Nat) (j j' i : Nat), mlook (extM m lo l) j = some i → mlook (extM m lo l) j' = some i → mlook m j = none → mlook m j' = none → j = j'
  | [], m, lo, j, j', i, h, _, hn, _ => by rw [show extM m lo [] = m from rfl, hn] at h; cases h
  | k :: l, m, lo, j, j', i, h, h', hn, hn' => by
    simp only [extM] at h h'
    cases hk : mlook m k with
    | some _ => rw [hk] at h h'; exact extM_inj l m lo j j' i h h' hn hn'
    | none =>
      rw [hk] at h h'
      dsimp only at h h'
      have h2 := extM_old l ((k, lo) :: m) (lo + 1) k lo (by rw [mlook_cons]; simp)
      by_cases e : k = j <;> by_cases e' : k = j'
      · exact e.symm.trans e'
      · subst e
        rw [h2] at h
        obtain rfl := Option.some.inj h
        have := (extM_new l _ _ j' _ h' (by rw [mlook_cons, if_neg e']; exact hn')).1
        omega
      · subst e'
        rw [h2] at h'
        obtain rfl := Option.some.inj h'
        have := (extM_new l _ _ j _ h (by rw [mlook_cons, if_neg e]; exact hn)).1
        omega
      · exact extM_inj l _ _ j j' i h h' (by rw [mlook_cons, if_neg e]; exact hn) (by rw [mlook_cons, if_neg e']; exact hn')

theorem resQ_spec {m : Mp} {M : En} {us : List Nat} : ∀ (l : En) (q : List Prop), resQ m M us l = some q → allq q → ∀ j F A, (j, Ent.res F A) ∈ l → ∃ i A0, i ∈ us ∧ find M i = .res F A0
  | [], q, _, _, j, F, A, h => by cases h
  | (j0, e) :: l, q, hq, ha, j, F, A, h => by
    unfold resQ at hq
    split at hq
    · rename_i F1 A1
      split at hq
      · rename_i i hi
        split at hq
        · rename_i hm
          split at hq
          · rename_i F0 A0 hf
            split at hq
            · rename_i q1 hq1
              obtain rfl := Option.some.inj hq
              rcases List.mem_cons.1 h with e1 | h
              · obtain ⟨_, e2⟩ := Prod.mk.inj e1
                obtain ⟨rfl, rfl⟩ := Ent.res.inj e2
                have := ha.head
                subst this
                exact ⟨i, A0, memB_iff.1 hm, hf⟩
              · exact resQ_spec l q1 hq1 ha.tail j F A h
            · cases hq
          · cases hq
        · cases hq
      · cases hq
    · rename_i hne
      rcases List.mem_cons.1 h with e1 | h
      · obtain ⟨_, e2⟩ := Prod.mk.inj e1
        exact absurd e2.symm (hne F A)
      · exact resQ_spec l q hq ha j F A h

theorem AskR_spec {q : List Prop} {K : Prop} (h : AskR q K) : allq q ∧ K := by
  cases q with
  | nil => exact ⟨(fun p hp => by cases hp), h⟩
  | cons p l => exact ⟨conj_all _ h.e, h.h⟩

open Classical in
/-- The caller's environment behind a call. -/
noncomputable def envB (E E2 : Env) (m mx : Mp) : Env :=
  { slot := fun i => match E.slot i with
      | some s => some s
      | none => if h : ∃ j, mlook m j = none ∧ mlook mx j = some i then E2.slot (Classical.choose h) else none
    I := E2.I
    B := E.B }

/-- A CALL BY CONTRACT. -/
theorem call_goodZ {C : Ctr} {Z : Array Value → World → (Ending → World → Prop) → Prop} (hZ : ∀ vals w R R', Z vals w R → (∀ e w', R e w' → R' e w') → Z vals w R') (hC : C.okZ Z) {args : List SV} {M : En} {lo : Nat} {Kg : SV → List Nat → List Nat → En → Prop} {x : C.X} (h : CallB C args M lo Kg x) :
    ∃ out S ci eo, Kg out S ci eo ∧ (∀ id, id ∈ ci → id ∈ S) ∧
      ∀ (E : Env) (fp : Nat → Nat → Prop) (w : World) (vals : Array Value), vals.size = args.length → (∀ (j : Nat) (s : SV), args[j]? = some s → Sat E w s (vals.getD j undef)) →
        EntsSat E w fp (sub M S) → (∀ id, lo ≤ id → id < lo + 16 → E.slot id = none) →
        Z vals w fun e w' => ∃ v, e = .returned v ∧ ∃ E' fp', Sat E' w' out v ∧ EntsSat E' w' fp' (upd eo ci (sub M S)) ∧ Adv E fp w E' fp' w' ∧
          ∀ id, E'.slot id = E.slot id ∨ (lo ≤ id ∧ id < lo + 16) := by
  obtain ⟨m1, bs1, fs1, q1, h, g1, gl, ga⟩ := (mat_good M 200).2 _ _ _ _ _ _ _ h
  obtain ⟨m, bs, fs, q, us, h, g2, ht, hsem⟩ := matE_good _ h
  cases hchk : anyB bs us || anyB fs us || anyB fs bs || !allLt 1000 m with
  | true => rw [hchk] at h; exact h.elim
  | false =>
    rw [hchk] at h
    simp only [Bool.or_eq_false_iff, Bool.not_eq_false'] at hchk
    obtain ⟨⟨⟨hbu, hfu⟩, hfb⟩, hlt⟩ := hchk
    obtain ⟨hq, hside, hy⟩ := h
    have hq := conj_all q hq
    obtain ⟨hens, hcall⟩ := hC x hside
    have h := hy.h (C.val x) ⟨rfl, hens⟩
    clear hy
    cases hlen : Nat.ble (keys (C.out x (C.val x))).length 16 && nodupB (keys (C.out x (C.val x))) with
    | false => rw [hlen] at h; exact h.elim
    | true =>
      rw [hlen] at h
      simp only [Bool.and_eq_true] at hlen
      obtain ⟨hlen, hndo⟩ := hlen
      have hlen := Nat.le_of_ble_eq_true hlen
      have hndo := nodupB_spec hndo
      cases hres : resQ m M us (C.out x (C.val x)) with
      | none => rw [hres] at h; exact h.elim
      | some q' =>
      rw [hres] at h
      obtain ⟨hq', h⟩ := AskR_spec h
      have hrq := resQ_spec _ q' hres hq'
      obtain ⟨out, h, hout⟩ := (ren_good _ _ 200).1 _ _ h
      obtain ⟨eo, h, heol, heo⟩ := renE_good _ h
      cases hnd : nodupB (keys eo) && !anyB (keys eo) bs with
      | false => rw [hnd] at h; exact h.elim
      | true =>
        rw [hnd] at h
        simp only [Bool.and_eq_true, Bool.not_eq_true'] at hnd
        obtain ⟨hnde, hkb⟩ := hnd
        have hnde := nodupB_spec hnde
        refine ⟨out, _, _, eo, h, fun id hid => List.mem_append_left _ hid, fun E fp w vals hvs hvals hents hfresh => ?_⟩
        have hin : ∀ i, i ∈ us ++ fs ++ bs → find (sub M (us ++ fs ++ bs)) i = find M i := fun i hi => by rw [find_sub, if_pos hi]
        have hM : ∀ i, i ∈ us ++ fs ++ bs → EntSat E w (fp i) i (find M i) := fun i hi => by rw [← hin i hi]; exact hents.sat i
        have hlent : Lent M E w fp bs fs := ⟨hents.nil, fun i hi => hM i (by simp only [List.mem_append]; rcases hi with hi | hi; exact .inr hi; exact .inl (.inr hi))⟩
        have hT := EntsSat.target (M := M) hents (fun i hi => hM i (by simp [hi])) ht (fun j e hm i hi he => hsem hq E w fp hlent j e hm i hi he) hbu hfu
        have hslot : ∀ id, id < 1000 ∨ True → (envF E fp m bs fs).slot id ≠ none → id < 1000 ∨ nilB id = true := fun id _ hne => by
          simp only [envF] at hne
          cases hz : nilB id with
          | true => exact .inr rfl
          | false =>
            rw [hz] at hne
            cases hm : mlook m id with
            | none => rw [hm] at hne; exact absurd rfl hne
            | some i => exact .inl (allLt_spec hlt id i hm)
        refine hZ _ _ _ _ (hcall (envF E fp m bs fs) _ vals w (by omega) (fun j s hj => ?_) hT (fun id hne => hslot id (.inr trivial) hne)) ?_
        · have hlt' : j < args.length := by
            have := (List.getElem?_eq_some_iff.1 hj).1; omega
          exact (ga j s args[j] hj (by simp [hlt'])).grow g2 hq E w fp hlent _ (hvals j args[j] (by simp [hlt']))
        · rintro e w' ⟨v, E2, fp2, rfl, hres, hents2, hadv, hlow⟩
          refine ⟨v, rfl, ?_⟩
          -- what the callee owned
          have hownF : ∀ b, own (fpF fp m (C.rw x)) b → ∃ i, i ∈ us ∧ fp i b := by
            rintro b ⟨j, hj⟩
            cases hm : mlook m j with
            | none => simp only [fpF, hm] at hj
            | some i =>
              simp only [fpF, hm] at hj
              by_cases hk : j ∈ keys (C.rw x)
              · obtain ⟨i', a1, a2, _⟩ := ht.at_ _ _ (mem_of_find hk)
                obtain rfl := Option.some.inj (hm.symm.trans a1)
                exact ⟨i, a2, fpG_sub hj⟩
              · rw [find_none hk] at hj; exact hj.elim
          have hown : ∀ b, own (fpF fp m (C.rw x)) b → own fp b := fun b hb => let ⟨i, _, hf⟩ := hownF b hb; ⟨i, hf⟩
          have hkeep : Keep (own fp) w w' := hadv.keep.mono hown
          have hst := hents.stays hkeep
          -- the caller's environment
          let mx := extM m lo (keys (C.out x (C.val x)))
          have hle : E.le (envB E E2 m mx) := by
            refine ⟨fun id s hs => by simp only [envB, hs], fun b hb => hadv.le.I b (.inl hb), fun b hb => hb⟩
          have hnew : ∀ j i, mlook m j = none → mlook mx j = some i → lo ≤ i ∧ i < lo + 16 := fun j i h1 h2 => by
            have := extM_new _ m lo j i h2 h1; omega
          have hmap : ∀ j i, mlook mx j = some i → ∀ sl, E2.slot j = some sl → (envB E E2 m mx).slot i = some sl := by
            intro j i hji sl hsl
            cases hm : mlook m j with
            | some i' =>
              have := extM_old (keys (C.out x (C.val x))) m lo j i' hm
              obtain rfl : i' = i := Option.some.inj (this.symm.trans hji)
              have h1 := hlow j (allLt_spec hlt j i' hm)
              rw [hsl] at h1
              simp only [envF, hm, nilB_lt (show j < 1984 by have := allLt_spec hlt j i' hm; omega)] at h1
              have h2 : E.slot i' = some sl := h1.symm
              simp only [envB, h2]
            | none =>
              have hr := hnew j i hm hji
              have hfr := hfresh i hr.1 hr.2
              have hex : ∃ j, mlook m j = none ∧ mlook mx j = some i := ⟨j, hm, hji⟩
              have hch := Classical.choose_spec hex
              have : Classical.choose hex = j := extM_inj _ m lo _ _ i hch.2 hji hch.1 hm
              simp only [envB, hfr]
              rw [dif_pos hex, this]; exact hsl
          have hslots : ∀ id, (envB E E2 m mx).slot id = E.slot id ∨ (lo ≤ id ∧ id < lo + 16) := by
            intro id
            cases hs : E.slot id with
            | some s => exact .inl (by simp only [envB, hs])
            | none =>
              by_cases hex : ∃ j, mlook m j = none ∧ mlook mx j = some id
              · obtain ⟨j, h1, h2⟩ := hex
                exact .inr (hnew j id h1 h2)
              · exact .inl (by simp only [envB, hs]; rw [dif_neg hex])
          have hI2 : ∀ b, E2.I b → (envB E E2 m mx).I b := fun b hb => hb
          -- the new entries
          have hnewent : ∀ id, id ∈ keys eo → ∃ j, (j ∈ keys (C.out x (C.val x))) ∧ mlook mx j = some id ∧ EntSat (envB E E2 m mx) w' (fp2 j) id (find eo id) := by
            intro id hid
            have hmem := mem_of_find hid
            obtain ⟨k, hk, hget⟩ := List.mem_iff_getElem.1 hmem
            have hk' : eo[k]? = some (id, find eo id) := by rw [List.getElem?_eq_getElem hk, hget]
            obtain ⟨j, e, hje, hji, hsem2⟩ := heo k id _ hk'
            have hjm : (j, e) ∈ C.out x (C.val x) := List.mem_of_getElem? hje
            refine ⟨j, List.mem_map.2 ⟨_, hjm, rfl⟩, hji, hsem2 E2 _ w' (fp2 j) hmap hI2 (by simp) (fun F A hFA b hb => ?_) ?_⟩
            · subst hFA
              obtain ⟨i0, A0, hi0, hf0⟩ := hrq j F A hjm
              have he0 := hM i0 (by simp [hi0])
              rw [hf0] at he0
              rcases (he0.1 b hb).1 with h1 | h1
              · exact .inl (hadv.le.I b (.inl h1))
              · exact .inr h1
            have := hents2.sat j
            rw [find_mem hndo hjm] at this
            exact this
          let fp' : Nat → Nat → Prop := fun id b => (id ∈ keys eo ∧ ∃ j, j ∈ keys (C.out x (C.val x)) ∧ mlook mx j = some id ∧ fp2 j b) ∨ (id ∉ keys eo ∧ id ∈ bs ∧ fp id b)
          have hbsnot : ∀ i b, i ∈ bs → fp i b → ¬ own (fpF fp m (C.rw x)) b := fun i b hi hf ho => by
            obtain ⟨i', h1, h2⟩ := hownF b ho
            by_cases e : i = i'
            · subst e; exact anyB_false hbu hi h1
            · exact hents.apart i i' b e hf h2
          have hbsame : ∀ i b, i ∈ bs → fp i b → w'.heap[b]? = w.heap[b]? := fun i b hi hf => hadv.keep.same b (hents.lt i b hf) (hbsnot i b hi hf)
          have huniq : ∀ j j' id, j ∈ keys (C.out x (C.val x)) → j' ∈ keys (C.out x (C.val x)) → mlook mx j = some id → mlook mx j' = some id → id ∈ keys eo → j = j' := by
            intro j j' id hj hj' h1 h2 _
            -- both stand in eo at their places; eo names each once
            obtain ⟨k, hk, hget⟩ := List.mem_iff_getElem.1 (mem_of_find hj)
            obtain ⟨k', hk', hget'⟩ := List.mem_iff_getElem.1 (mem_of_find hj')
            have hke : k < eo.length := by omega
            have hke' : k' < eo.length := by omega
            obtain ⟨a, e1, b1, b2, _⟩ := heo k (eo[k]).1 (eo[k]).2 (by simp [hke])
            obtain ⟨a', e1', b1', b2', _⟩ := heo k' (eo[k']).1 (eo[k']).2 (by simp [hke'])
            have ea : a = j := by
              rw [List.getElem?_eq_getElem hk, hget] at b1
              exact (Prod.mk.inj (Option.some.inj b1)).1.symm
            have ea' : a' = j' := by
              rw [List.getElem?_eq_getElem hk', hget'] at b1'
              exact (Prod.mk.inj (Option.some.inj b1')).1.symm
            subst ea; subst ea'
            have i1 : (eo[k]).1 = id := Option.some.inj (b2.symm.trans h1)
            have i2 : (eo[k']).1 = id := Option.some.inj (b2'.symm.trans h2)
            have hkk : k = k' := by
              have n1 : (keys eo)[k]'(by simp [keys, hke]) = id := by simp [keys, i1]
              have n2 : (keys eo)[k']'(by simp [keys, hke']) = id := by simp [keys, i2]
              have hp := List.pairwise_iff_getElem.1 hnde
              rcases Nat.lt_trichotomy k k' with hlt | heq | hgt
              · exact absurd (n1.trans n2.symm) (hp k k' _ _ hlt)
              · exact heq
              · exact absurd (n2.trans n1.symm) (hp k' k _ _ hgt)
            subst hkk
            rw [hget] at hget'
            exact (Prod.mk.inj hget').1
          have hfpE : ∀ id j, id ∈ keys eo → j ∈ keys (C.out x (C.val x)) → mlook mx j = some id → fp' id = fp2 j := by
            intro id j hid hj hji
            funext b
            refine propext ⟨fun hb => ?_, fun hb => .inl ⟨hid, j, hj, hji, hb⟩⟩
            rcases hb with ⟨_, j', hj', hji', hb⟩ | ⟨hn, _⟩
            · rw [huniq j j' id hj hj' hji hji' hid]; exact hb
            · exact absurd hid hn
          refine ⟨envB E E2 m mx, fp', hout E2 _ w' v hmap hI2 (by simp) hres, ⟨fun id => ?_, fun id b hb => ?_, fun id b hb hI => ?_, fun id b hb hB => ?_, fun i i' b hne hb hb' => ?_, fun b hb => ?_, hents.nil.mono hle, hents.glob hst hle.I⟩,
            ⟨hkeep, hle, fun b hb => ?_, fun b hb => hb, fun id b hb => ?_⟩, hslots⟩
          · rw [find_upd]
            by_cases hk : id ∈ keys eo
            · rw [if_pos hk]
              obtain ⟨j, hj, hji, hs⟩ := hnewent id hk
              rw [hfpE id j hk hj hji]; exact hs
            · rw [if_neg hk]
              by_cases hci : id ∈ us ++ fs
              · rw [if_pos hci]
                intro b hb
                rcases hb with ⟨h1, _⟩ | ⟨_, h2, _⟩
                · exact hk h1
                · rcases List.mem_append.1 hci with h3 | h3
                  · exact anyB_false hbu h2 h3
                  · exact anyB_false hfb h3 h2
              · rw [if_neg hci, find_sub]
                by_cases hb : id ∈ bs
                · rw [if_pos (by simp [hb])]
                  have hfe : fp' id = fp id := by
                    funext b
                    exact propext ⟨fun h => by rcases h with ⟨h1, _⟩ | ⟨_, _, h⟩; exact absurd h1 hk; exact h, fun h => .inr ⟨hk, hb, h⟩⟩
                  rw [hfe]
                  exact (hM id (by simp [hb])).mono hle hst hadv.keep.size (fun b hf => hbsame id b hb hf)
                · rw [if_neg (by simp only [List.mem_append] at hci ⊢; rintro (h | h); exact hci h; exact hb h)]
                  intro b h
                  rcases h with ⟨h1, _⟩ | ⟨_, h2, _⟩
                  · exact hk h1
                  · exact hb h2
          · rcases hb with ⟨_, j, _, _, hb⟩ | ⟨_, _, hb⟩
            · exact hents2.lt j b hb
            · exact Nat.lt_of_lt_of_le (hents.lt id b hb) hadv.keep.size
          · rcases hb with ⟨_, j, _, _, hb⟩ | ⟨_, h2, hb⟩
            · exact hents2.I j b hb hI
            · rcases hadv.Inew b hI with h3 | h3 | h3
              · rcases h3 with h3 | ⟨i', h4, h5⟩
                · exact hents.I id b hb h3
                · by_cases e : id = i'
                  · subst e; exact anyB_false hfb h4 h2
                  · exact hents.apart id i' b e hb h5
              · exact hbsnot id b h2 hb h3
              · have := hents.lt id b hb; omega
          · rcases hb with ⟨_, j, _, _, hb⟩ | ⟨_, _, hb⟩
            · exact hents2.B j b hb (hadv.le.B b (.inl hB))
            · exact hents.B id b hb hB
          · have cross : ∀ id j b, id ∈ bs → fp id b → fp2 j b → False := fun id j b h1 h2 h3 => by
              rcases hadv.onew j b h3 with h4 | h4
              · exact hbsnot id b h1 h2 h4
              · have := hents.lt id b h2; omega
            rcases hb with ⟨k1, j, hj, hji, hb⟩ | ⟨k1, h1, hb⟩ <;> rcases hb' with ⟨k2, j', hj', hji', hb'⟩ | ⟨k2, h2, hb'⟩
            · by_cases e : j = j'
              · subst e; exact hne (Option.some.inj (hji.symm.trans hji'))
              · exact hents2.apart j j' b e hb hb'
            · exact cross i' j b h2 hb' hb
            · exact cross i j' b h1 hb hb'
            · exact hents.apart i i' b hne hb hb'
          · rcases hb with hb | hb
            · exact hents2.Ilt b (.inl hb)
            · exact Nat.lt_of_lt_of_le (hents.Ilt b (.inr hb)) hadv.keep.size
          · rcases hadv.Inew b hb with h3 | h3 | h3
            · rcases h3 with h3 | ⟨i', _, h5⟩
              · exact .inl h3
              · exact .inr (.inl ⟨i', h5⟩)
            · exact .inr (.inl (hown b h3))
            · exact .inr (.inr h3)
          · rcases hb with ⟨_, j, _, _, hb⟩ | ⟨_, _, hb⟩
            · exact (hadv.onew j b hb).imp (hown b) (fun h => h)
            · exact .inl ⟨id, hb⟩

theorem call_good {C : Ctr} {P : Program} {g : FuncId} (hC : C.ok P g) {args : List SV} {M : En} {lo : Nat} {Kg : SV → List Nat → List Nat → En → Prop} {x : C.X} (h : CallB C args M lo Kg x) :
    ∃ out S ci eo, Kg out S ci eo ∧ (∀ id, id ∈ ci → id ∈ S) ∧
      ∀ (E : Env) (fp : Nat → Nat → Prop) (w : World) (vals : Array Value), vals.size = args.length → (∀ (j : Nat) (s : SV), args[j]? = some s → Sat E w s (vals.getD j undef)) →
        EntsSat E w fp (sub M S) → (∀ id, lo ≤ id → id < lo + 16 → E.slot id = none) →
        CallsIn (fence none) 0 P g vals w fun e w' => ∃ v, e = .returned v ∧ ∃ E' fp', Sat E' w' out v ∧ EntsSat E' w' fp' (upd eo ci (sub M S)) ∧ Adv E fp w E' fp' w' ∧
          ∀ id, E'.slot id = E.slot id ∨ (lo ≤ id ∧ id < lo + 16) :=
  call_goodZ (Z := fun vals w R => CallsIn (fence none) 0 P g vals w R) (fun _ _ _ _ h k => CallsIn.mono h k) hC h
theorem call_goodV {C : Ctr} {P : Program} {g : FuncId} (hC : C.okV P g) {args : List SV} {M : En} {lo : Nat} {Kg : SV → List Nat → List Nat → En → Prop} {x : C.X} (h : CallB C args M lo Kg x) :
    ∃ out S ci eo, Kg out S ci eo ∧ (∀ id, id ∈ ci → id ∈ S) ∧
      ∀ (E : Env) (fp : Nat → Nat → Prop) (w : World) (vals : Array Value), vals.size = args.length → (∀ (j : Nat) (s : SV), args[j]? = some s → Sat E w s (vals.getD j undef)) →
        EntsSat E w fp (sub M S) → (∀ id, lo ≤ id → id < lo + 16 → E.slot id = none) →
        ∃ v, (callFunc g vals).run P w = .ok (.value v) w ∧ ∃ E' fp', Sat E' w out v ∧ EntsSat E' w fp' (upd eo ci (sub M S)) ∧ Adv E fp w E' fp' w ∧
          ∀ id, E'.slot id = E.slot id ∨ (lo ≤ id ∧ id < lo + 16) := by
  obtain ⟨out, S, ci, eo, h1, h2, h3⟩ := call_goodZ (Z := fun vals w R => ∃ v, (callFunc g vals).run P w = .ok (.value v) w ∧ R (.returned v) w) (fun _ _ _ _ ⟨v, h, k⟩ hh => ⟨v, h, hh _ _ k⟩) hC h
  refine ⟨out, S, ci, eo, h1, h2, fun E fp w vals a b c d => ?_⟩
  obtain ⟨v, k1, v', k2, k3⟩ := h3 E fp w vals a b c d
  cases k2
  exact ⟨v, k1, k3⟩

end Go.Eng
