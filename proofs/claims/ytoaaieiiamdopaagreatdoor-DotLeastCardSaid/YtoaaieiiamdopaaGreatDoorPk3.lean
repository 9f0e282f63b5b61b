/- Parts of the proof, one behind the other (EngG, EngH, EngI). -/
import Derived.Test.YtoaaieiiamdopaaGreatDoorPk2
set_option linter.unusedVariables false
set_option linter.unusedSimpArgs false
set_option linter.unusedSectionVars false
/-! The engine, part G: what a contract says of a function; a call by contract. -/
set_option linter.unusedVariables false
namespace Go.Eng
variable [DM]
set_option linter.unusedSectionVars false

/-- The contract holds of whatever is reckoned by Z. -/
def Ctr.okZ (C : Ctr) (Z : Array Value → World → (Ending → World → Prop) → Prop) : Prop :=
  ∀ (x : C.X), C.side x → C.ens x (C.val x) ∧ ∀ (E : Env) (fp : Nat → Nat → Prop) (vals : Array Value) (w : World), vals.size = (C.args x).length →
    (∀ (j : Nat) (s : SV), (C.args x)[j]? = some s → Sat E w s (vals.getD j undef)) → EntsSat E w fp (C.rw x) → (∀ id, E.slot id ≠ none → id < 1000 ∨ nilB id = true) →
    Z vals w fun e w' => ∃ v E' fp', e = .returned v ∧ Sat E' w' (C.res x (C.val x)) v ∧ EntsSat E' w' fp' (C.out x (C.val x)) ∧ Adv E fp w E' fp' w' ∧
      ∀ id, id < 1000 → E'.slot id = E.slot id
/-- The contract holds of function f. -/
def Ctr.ok (C : Ctr) (P : Program) (f : FuncId) : Prop := C.okZ fun vals w R => CallsIn (fence none) 0 P f vals w R
/-- The contract holds of function f, which has no body: the model answers by itself. -/
def Ctr.okV (C : Ctr) (P : Program) (f : FuncId) : Prop := C.okZ fun vals w R => ∃ v, (callFunc f vals).run P w = .ok (.value v) w ∧ R (.returned v) w

def fpG (e : Ent) (f : Nat → Prop) : Nat → Prop := match e with | .gone => fun _ => False | _ => f

theorem fpG_sub {e : Ent} {f : Nat → Prop} {b : Nat} (h : fpG e f b) : f b := by cases e <;> first | exact h | exact h.elim

theorem matEnt_good {M : En} {tgt src : Ent} {m : Mp} {bs fs : List Nat} {q : List Prop} {K : MK} (h : matEnt M tgt src m bs fs q K) :
    ∃ m' bs' fs' q', K m' bs' fs' q' ∧ Grow m m' bs bs' fs fs' q q' ∧
      (allq q' → ∀ (E : Env) (w : World) (fp : Nat → Nat → Prop), Lent M E w fp bs' fs' → ∀ i j, mlook m' j = some i → nilB j = false → ∀ f, EntSat E w f i src → EntSat (envF E fp m' bs' fs') w (fpG tgt f) j tgt) := by
  unfold matEnt at h
  cases tgt with
  | gone => exact ⟨m, bs, fs, q, h, .refl _ _ _ _, fun _ E w fp _ i j _ _ f _ => fun _ hb => hb⟩
  | cells t cs =>
    cases src with
    | cells t' cs' =>
      dsimp only at h
      split at h
      · rename_i hb
        obtain rfl := Nat.eq_of_beq_eq_true hb
        obtain ⟨m', bs', fs', q', h1, h2, h3, h4⟩ := (mat_good M 200).2 _ _ _ _ _ _ _ h
        refine ⟨m', bs', fs', q', h1, h2, fun hq E w fp hl i j hm hz f he => ?_⟩
        obtain ⟨s, arr, fz, e1, e2, e3, e4, e5, e6⟩ := he
        refine ⟨s, arr, fz, by simp [envF, hz, hm, e1], e2, e3, e4, by omega, fun k sv hk => ?_⟩
        have hlt : k < cs'.length := by
          have := (List.getElem?_eq_some_iff.1 hk).1; omega
        obtain ⟨u, hu, hs⟩ := e6 k cs'[k] (by simp [hlt])
        exact ⟨u, hu, h4 k sv cs'[k] hk (by simp [hlt]) hq E w fp hl u hs⟩
      · exact h.elim
    | _ => exact h.elim
  | row te t xs =>
    cases src with
    | row te' t' ys =>
      dsimp only at h
      split at h
      · rename_i hb
        obtain rfl := Nat.eq_of_beq_eq_true hb
        refine ⟨m, bs, fs, _, h, ⟨fun _ _ e => e, fun _ e => e, fun _ e => e, fun e => e.tail⟩, fun hq E w fp hl i j hm hz f he => ?_⟩
        obtain ⟨e, hx⟩ := ro_inj hq.head
        subst e
        simp only at hx
        subst hx
        obtain ⟨s, h1, h2⟩ := he
        refine ⟨s, by simp [envF, hz, hm, h1], h2.imp id ?_⟩
        rintro ⟨o, c, arr, fz, g1, g2, g3, g4, g5, g6, g7⟩
        exact ⟨o, c, arr, fz, g1, g2, g3, g4, g5, g6, fun i x j sv hi hj => let ⟨u, hu, hs⟩ := g7 i x j sv hi hj; ⟨u, hu, enc_env hj hs⟩⟩
      · exact h.elim
    | _ => exact h.elim
  | siter s p =>
    cases src with
    | siter s' p' =>
      refine ⟨m, bs, fs, _, h, ⟨fun _ _ e => e, fun _ e => e, fun _ e => e, fun e => e.tail.tail⟩, fun hq E w fp hl i j hm hz f he => ?_⟩
      have e1 := hq.head
      have e2 := hq.tail.head
      subst e1
      subst e2
      obtain ⟨sl, h1, h2, h3⟩ := he
      exact ⟨sl, by simp [envF, hz, hm, h1], h2, h3⟩
    | _ => exact h.elim
  | res F A =>
    cases src with
    | res F' B =>
      refine ⟨m, bs, fs, _, h, ⟨fun _ _ e => e, fun _ e => e, fun _ e => e, fun e => e.tail.tail⟩, fun hq E w fp hl i j hm hz f he => ?_⟩
      have e1 := hq.head
      have e2 := hq.tail.head
      subst e1
      subst e2
      obtain ⟨hF, J, hJ, hA⟩ := he
      exact ⟨fun b hb => ⟨(hF b hb).1.imp .inl .inl, (hF b hb).2⟩, J, fun b hb => ⟨.inl (hJ b hb).1, (hJ b hb).2⟩, hA⟩
    | _ => exact h.elim

/-- The names, each with its own. -/
structure Taken (tgt : En) (m : Mp) (us us' : List Nat) : Prop where
  old : ∀ i, i ∈ us → i ∈ us'
  at_ : ∀ j e, (j, e) ∈ tgt → ∃ i, mlook m j = some i ∧ i ∈ us' ∧ i ∉ us
  inj : ∀ j e j' e', (j, e) ∈ tgt → (j', e') ∈ tgt → mlook m j = mlook m j' → j = j'
  nodup : (keys tgt).Nodup
  only : ∀ i, i ∈ us' → i ∈ us ∨ ∃ j e, (j, e) ∈ tgt ∧ mlook m j = some i

theorem srcE_sat {E : Env} {w : World} {f : Nat → Prop} {M : En} {i : Nat} {e : Ent} (hn : NilOk E) (h : EntSat E w f i (find M i)) : EntSat E w f i (srcE M i e) := by
  unfold srcE
  split
  · rename_i hb
    split
    · rename_i hf
      rw [hf] at h
      split
      · exact ⟨nilSlot, hn i hb, .inl ⟨rfl, rfl, h⟩⟩
      · exact h
    · exact h
  · exact h

theorem resM_grow {M : En} {e : Ent} {j : Nat} (m : Mp) (bs fs : List Nat) (q : List Prop) : Grow m (resM M e j m) bs bs fs fs q q := by
  refine ⟨fun j' i h => ?_, fun _ h => h, fun _ h => h, fun h => h⟩
  unfold resM
  split
  · split
    · exact h
    · rename_i hn
      split
      · rw [mlook_cons]
        by_cases e : j = j'
        · subst e; rw [hn] at h; cases h
        · rw [if_neg e]; exact h
      · exact h
  · exact h

theorem matE_good {M : En} : ∀ (tgt : En) {m : Mp} {bs fs : List Nat} {q : List Prop} {us : List Nat} {K : Mp → List Nat → List Nat → List Prop → List Nat → Prop}, matE M tgt m bs fs q us K →
    ∃ m' bs' fs' q' us', K m' bs' fs' q' us' ∧ Grow m m' bs bs' fs fs' q q' ∧ Taken tgt m' us us' ∧
      (allq q' → ∀ (E : Env) (w : World) (fp : Nat → Nat → Prop), Lent M E w fp bs' fs' → ∀ j e, (j, e) ∈ tgt → ∀ i, mlook m' j = some i → EntSat E w (fp i) i (find M i) → EntSat (envF E fp m' bs' fs') w (fpG e (fp i)) j e)
  | [], m, bs, fs, q, us, K, h => ⟨m, bs, fs, q, us, h, .refl _ _ _ _, ⟨fun _ h => h, (fun _ _ h => by cases h), (fun _ _ _ _ h => by cases h), List.nodup_nil, fun i h => .inl h⟩, fun _ _ _ _ _ j e h => by cases h⟩
  | (j, e) :: l, m, bs, fs, q, us, K, h => by
    unfold matE at h
    have h0 := resM_grow (M := M) (e := e) (j := j) m bs fs q
    generalize resM M e j m = m0 at h h0
    cases hj : mlook m0 j with
    | none => rw [hj] at h; exact h.elim
    | some i =>
      rw [hj] at h
      dsimp only at h
      cases hu : memB i us with
      | true => rw [hu] at h; exact h.elim
      | false =>
        rw [hu] at h
        dsimp only at h
        have hius : i ∉ us := fun x => by rw [memB_iff.2 x] at hu; cases hu
        cases hz : nilB j with
        | true => rw [hz] at h; exact h.elim
        | false =>
        rw [hz] at h
        dsimp only at h
        obtain ⟨m1, bs1, fs1, q1, h1, h2, h3⟩ := matEnt_good h
        obtain ⟨m2, bs2, fs2, q2, us2, k1, k2, k3, k4⟩ := matE_good l h1
        have hj2 : mlook m2 j = some i := k2.m _ _ (h2.m _ _ hj)
        refine ⟨m2, bs2, fs2, q2, us2, k1, h0.trans (h2.trans k2), ⟨fun i' h' => k3.old i' (List.mem_cons_of_mem _ h'), ?_, ?_, ?_, ?_⟩, ?_⟩
        · intro j' e' hm
          rcases List.mem_cons.1 hm with heq | hm
          · obtain ⟨rfl, rfl⟩ := Prod.mk.inj heq
            exact ⟨i, hj2, k3.old i (List.mem_cons_self ..), hius⟩
          · obtain ⟨i', a1, a2, a3⟩ := k3.at_ j' e' hm
            exact ⟨i', a1, a2, fun hx => a3 (List.mem_cons_of_mem _ hx)⟩
        · have key : ∀ j' e', (j', e') ∈ l → mlook m2 j = mlook m2 j' → False := fun j' e' hm hx => by
            obtain ⟨i', a1, a2, a3⟩ := k3.at_ j' e' hm
            rw [hj2, a1] at hx
            obtain rfl := Option.some.inj hx
            exact a3 (List.mem_cons_self ..)
          intro ja ea jb eb hma hmb hx
          rcases List.mem_cons.1 hma with heqa | hma' <;> rcases List.mem_cons.1 hmb with heqb | hmb'
          · obtain ⟨rfl, rfl⟩ := Prod.mk.inj heqa
            obtain ⟨rfl, rfl⟩ := Prod.mk.inj heqb
            rfl
          · obtain ⟨rfl, rfl⟩ := Prod.mk.inj heqa
            exact (key jb eb hmb' hx).elim
          · obtain ⟨rfl, rfl⟩ := Prod.mk.inj heqb
            exact (key ja ea hma' hx.symm).elim
          · exact k3.inj ja ea jb eb hma' hmb' hx
        · show (j :: keys l).Nodup
          refine List.nodup_cons.2 ⟨fun hm => ?_, k3.nodup⟩
          obtain ⟨⟨j', e'⟩, hm', rfl⟩ := List.mem_map.1 hm
          obtain ⟨i', a1, a2, a3⟩ := k3.at_ j' e' hm'
          rw [hj2] at a1
          obtain rfl := Option.some.inj a1
          exact a3 (List.mem_cons_self ..)
        · intro i' hi'
          rcases k3.only i' hi' with h' | ⟨j', e', h1', h2'⟩
          · rcases List.mem_cons.1 h' with rfl | h'
            · exact .inr ⟨j, e, List.mem_cons_self .., hj2⟩
            · exact .inl h'
          · exact .inr ⟨j', e', List.mem_cons_of_mem _ h1', h2'⟩
        · intro hq E w fp hl j' e' hm i' hi' hent
          rcases List.mem_cons.1 hm with heq | hm
          · obtain ⟨rfl, rfl⟩ := Prod.mk.inj heq
            obtain rfl := Option.some.inj (hj2.symm.trans hi')
            have := h3 (k2.q hq) E w fp ⟨hl.1, fun i hi => hl.2 i (hi.imp (k2.bs i) (k2.fs i))⟩ i j' (h2.m _ _ hj) hz (fp i) (srcE_sat hl.1 hent)
            exact this.mono (k2.env E fp) (fun _ _ _ => rfl) (Nat.le_refl _) (fun _ _ => rfl)
          · exact k4 hq E w fp hl j' e' hm i' hi' hent

theorem find_mem {M : En} (hn : (keys M).Nodup) {j : Nat} {e : Ent} (h : (j, e) ∈ M) : find M j = e := by
  induction M with
  | nil => cases h
  | cons p M ih =>
    obtain ⟨k, x⟩ := p
    have hn' : k ∉ keys M ∧ (keys M).Nodup := List.nodup_cons.1 hn
    rcases List.mem_cons.1 h with heq | h
    · obtain ⟨rfl, rfl⟩ := Prod.mk.inj heq
      simp [find]
    · have hk : k ≠ j := fun e' => hn'.1 (List.mem_map.2 ⟨(j, e), h, e'.symm⟩)
      have hb : Nat.beq k j = false := by rw [← Bool.not_eq_true, Nat.beq_eq]; exact hk
      simp only [find, hb]
      exact ih hn'.2 h

theorem find_none {M : En} {j : Nat} (h : j ∉ keys M) : find M j = .gone := by
  induction M with
  | nil => rfl
  | cons p M ih =>
    obtain ⟨k, x⟩ := p
    have hk : k ≠ j := fun e => h (by simp [keys, e])
    have hb : Nat.beq k j = false := by rw [← Bool.not_eq_true, Nat.beq_eq]; exact hk
    simp only [find, hb]
    exact ih (fun hm => h (by simp only [keys, List.map_cons, List.mem_cons]; exact .inr hm))

theorem mem_of_find {M : En} {j : Nat} (h : j ∈ keys M) : (j, find M j) ∈ M := by
  induction M with
  | nil => cases h
  | cons p M ih =>
    obtain ⟨k, x⟩ := p
    by_cases hk : k = j
    · subst hk; simp [find]
    · have hb : Nat.beq k j = false := by rw [← Bool.not_eq_true, Nat.beq_eq]; exact hk
      simp only [find, hb]
      have : j ∈ keys M := by
        simp only [keys, List.map_cons, List.mem_cons] at h
        exact h.resolve_left (fun e => hk e.symm)
      exact List.mem_cons_of_mem _ (ih this)

/-- The footprints of the target. -/
def fpF (fp : Nat → Nat → Prop) (m : Mp) (tgt : En) : Nat → Nat → Prop := fun j => match mlook m j with
  | some i => fpG (find tgt j) (fp i)
  | none => fun _ => False

/-- The target's state holds in the target's environment. -/
theorem EntsSat.target {E : Env} {w : World} {fp : Nat → Nat → Prop} {M N tgt : En} {m : Mp} {bs fs us : List Nat} (h : EntsSat E w fp N) (hM : ∀ i, i ∈ us → EntSat E w (fp i) i (find M i)) (ht : Taken tgt m [] us)
    (hsem : ∀ j e, (j, e) ∈ tgt → ∀ i, mlook m j = some i → EntSat E w (fp i) i (find M i) → EntSat (envF E fp m bs fs) w (fpG e (fp i)) j e)
    (hb : anyB bs us = false) (hf : anyB fs us = false) : EntsSat (envF E fp m bs fs) w (fpF fp m tgt) tgt := by
  have hsub : ∀ j b, fpF fp m tgt j b → ∃ i, mlook m j = some i ∧ j ∈ keys tgt ∧ i ∈ us ∧ fp i b := by
    intro j b hj
    cases hi : mlook m j with
    | none => simp only [fpF, hi] at hj
    | some i =>
      simp only [fpF, hi] at hj
      by_cases hk : j ∈ keys tgt
      · have hmem := mem_of_find hk
        obtain ⟨i', a1, a2, _⟩ := ht.at_ _ _ hmem
        obtain rfl := Option.some.inj (hi.symm.trans a1)
        exact ⟨i, rfl, hk, a2, fpG_sub hj⟩
      · rw [find_none hk] at hj; exact hj.elim
  refine ⟨fun j => ?_, fun j b hj => ?_, fun j b hj hI => ?_, fun j b hj hB => ?_, fun j j' b hne hj hj' => ?_, fun b hb => ?_, fun i hi => by simp only [envF, hi], h.gl.mono (fun b hb => .inl hb) (fun _ _ => rfl)⟩
  · by_cases hk : j ∈ keys tgt
    · have hmem := mem_of_find hk
      obtain ⟨i, a1, a2, _⟩ := ht.at_ _ _ hmem
      have := hsem j _ hmem i a1 (hM i a2)
      have e : fpF fp m tgt j = fpG (find tgt j) (fp i) := by simp [fpF, a1]
      rw [e]; exact this
    · rw [find_none hk]
      intro b hb
      obtain ⟨i, _, hk', _⟩ := hsub j b hb
      exact hk hk'
  · obtain ⟨i, _, _, _, hb'⟩ := hsub j b hj; exact h.lt i b hb'
  · obtain ⟨i, _, _, hi, hb'⟩ := hsub j b hj
    rcases hI with hI | ⟨i', h1, h2⟩
    · exact h.I i b hb' hI
    · by_cases e : i = i'
      · subst e
        have : anyB fs us = true := anyB_iff.2 ⟨i, h1, hi⟩
        rw [hf] at this; cases this
      · exact h.apart i i' b e hb' h2
  · obtain ⟨i, _, _, hi, hb'⟩ := hsub j b hj
    rcases hB with hI | ⟨i', h1, h2⟩
    · exact h.B i b hb' hI
    · by_cases e : i = i'
      · subst e
        have : anyB bs us = true := anyB_iff.2 ⟨i, h1, hi⟩
        rw [hb] at this; cases this
      · exact h.apart i i' b e hb' h2
  · obtain ⟨i, a1, k1, _, hb1⟩ := hsub j b hj
    obtain ⟨i', a2, k2, _, hb2⟩ := hsub j' b hj'
    by_cases e : i = i'
    · subst e
      exact hne (ht.inj j _ j' _ (mem_of_find k1) (mem_of_find k2) (a1.trans a2.symm))
    · exact h.apart i i' b e hb1 hb2
  · rcases hb with (h1 | ⟨i, _, h1⟩) | (h1 | ⟨i, _, h1⟩)
    · exact h.Ilt b (.inl h1)
    · exact h.lt i b h1
    · exact h.Ilt b (.inr h1)
    · exact h.lt i b h1

/-! ### Names anew -/

theorem ren_good (bb : Bool) (m : Mp) : ∀ (n : Nat),
    (∀ s K, renS bb n m s K → ∃ s', K s' ∧ ∀ (E E' : Env) (w : World) (v : Value), (∀ j i, mlook m j = some i → ∀ sl, E.slot j = some sl → E'.slot i = some sl) → (∀ b, E.I b → E'.I b) → (bb = true → ∀ b, E.B b → E'.B b) → Sat E w s v → Sat E' w s' v) ∧
    (∀ l K, renL bb n m l K → ∃ l', K l' ∧ l'.length = l.length ∧ ∀ (E E' : Env) (w : World), (∀ j i, mlook m j = some i → ∀ sl, E.slot j = some sl → E'.slot i = some sl) → (∀ b, E.I b → E'.I b) → (bb = true → ∀ b, E.B b → E'.B b) →
      ∀ (k : Nat) (s' : SV), l'[k]? = some s' → ∃ s, l[k]? = some s ∧ ∀ v, Sat E w s v → Sat E' w s' v) := by
  intro n
  induction n with
  | zero => exact ⟨fun s K h => by simp [renS] at h, fun l K h => by simp [renL] at h⟩
  | succ n ih =>
    obtain ⟨ih1, ih2⟩ := ih
    refine ⟨?_, ?_⟩
    · intro s K h
      unfold renS at h
      cases s with
      | v x => exact ⟨_, h, fun E E' w v _ _ _ hv => by cases hv; exact .v x⟩
      | any => exact ⟨_, h, fun E E' w v _ _ _ hv => .any v⟩
      | unkB p => exact ⟨_, h, fun E E' w v _ _ _ hv => by cases hv with | unkB _ b hb => exact .unkB p b hb⟩
      | ptr j o =>
        dsimp only at h
        split at h
        · rename_i i hi
          exact ⟨_, h, fun E E' w v hs _ _ hv => by cases hv with | ptr _ _ s hsl => exact .ptr i o s (hs j i hi s hsl)⟩
        · exact h.elim
      | sl j =>
        dsimp only at h
        split at h
        · rename_i i hi
          exact ⟨_, h, fun E E' w v hs _ _ hv => by cases hv with | sl _ s hsl => exact .sl i s (hs j i hi s hsl)⟩
        · exact h.elim
      | elp j z x o =>
        dsimp only at h
        split at h
        · rename_i i hi
          exact ⟨_, h, fun E E' w v hs _ _ hv => by cases hv with | elp _ _ _ _ s hsl o' n' c' hv' => exact .elp i z x o s (hs j i hi s hsl) o' n' c' hv'⟩
        · exact h.elim
      | slc j o l c =>
        dsimp only at h
        split at h
        · rename_i i hi
          exact ⟨_, h, fun E E' w v hs _ _ hv => by cases hv with | slc _ _ _ _ s hsl => exact .slc i o l c s (hs j i hi s hsl)⟩
        · exact h.elim
      | slv j z l n =>
        dsimp only at h
        split at h
        · rename_i i hi
          exact ⟨_, h, fun E E' w v hs _ _ hv => by cases hv with | slv _ _ _ _ s hsl o m c c' A hv' hlo hn hm hA => exact .slv i z l n s (hs j i hi s hsl) o m c c' A hv' hlo hn hm hA⟩
        · exact h.elim
      | ro b t xs =>
        dsimp only at h
        cases hbb : b && !bb with
        | true => rw [hbb] at h; exact h.elim
        | false =>
          rw [hbb] at h
          refine ⟨_, h, fun E E' w v _ hI hB hv => ?_⟩
          cases hv with
          | nil => exact .nil b t _ _
          | ro _ _ _ k o c u hbk hle hc hs =>
            exact .ro b t xs k o c u (hbk.imp (hI k) (fun ⟨e, h'⟩ => ⟨e, hB (by subst e; simpa using hbb) k h'⟩)) hle hc (fun i x j sv hi hj => (enc_move hI t).1 x j sv _ hj (hs i x j sv hi hj))
      | agg l =>
        obtain ⟨l', h1, h2, h3⟩ := ih2 _ _ h
        refine ⟨_, h1, fun E E' w v hs hI hB hv => ?_⟩
        cases hv with
        | agg _ vs u hl hu hss =>
          refine .agg l' vs u (by omega) (fun j hj => hu j (by omega)) (fun j sv hj => ?_)
          obtain ⟨s, e1, e2⟩ := h3 E E' w hs hI hB j sv hj
          exact e2 _ (hss j s e1)
      | tuple l =>
        obtain ⟨l', h1, h2, h3⟩ := ih2 _ _ h
        refine ⟨_, h1, fun E E' w v hs hI hB hv => ?_⟩
        cases hv with
        | tuple _ vs u hl hu hss =>
          refine .tuple l' vs u (by omega) (fun j hj => hu j (by omega)) (fun j sv hj => ?_)
          obtain ⟨s, e1, e2⟩ := h3 E E' w hs hI hB j sv hj
          exact e2 _ (hss j s e1)
      | func fn fa fc =>
        obtain ⟨la, h1, h2, h3⟩ := ih2 _ _ h
        obtain ⟨lc, k1, k2, k3⟩ := ih2 _ _ h1
        refine ⟨_, k1, fun E E' w v hs hI hB hv => ?_⟩
        cases hv with
        | func _ _ _ vf vc uf uc hf hc huf huc hsf hsc =>
          refine .func fn la lc vf vc uf uc (by omega) (by omega) (fun j hj => huf j (by omega)) (fun j hj => huc j (by omega)) (fun j sv hj => ?_) (fun j sv hj => ?_)
          · obtain ⟨s, e1, e2⟩ := h3 E E' w hs hI hB j sv hj
            exact e2 _ (hsf j s e1)
          · obtain ⟨s, e1, e2⟩ := k3 E E' w hs hI hB j sv hj
            exact e2 _ (hsc j s e1)
      | rop b cs o =>
        dsimp only at h
        cases hbb : b && !bb with
        | true => rw [hbb] at h; exact h.elim
        | false =>
          rw [hbb] at h
          obtain ⟨l', h1, h2, h3⟩ := ih2 _ _ h
          refine ⟨_, h1, fun E E' w v hs hI hB hv => ?_⟩
          cases hv with
          | rop _ _ _ k o1 u hbk hc hss =>
            refine .rop b l' o k o1 u (hbk.imp (hI k) (fun ⟨e, h'⟩ => ⟨e, hB (by subst e; simpa using hbb) k h'⟩)) (fun j hj => hc j (by omega)) (fun j sv hj => ?_)
            obtain ⟨s, e1, e2⟩ := h3 E E' w hs hI hB j sv hj
            exact e2 _ (hss j s e1)
    · intro l K h
      unfold renL at h
      cases l with
      | nil => exact ⟨_, h, rfl, fun E E' w _ _ _ k s' hk => by simp at hk⟩
      | cons x l =>
        obtain ⟨x', h1, h2⟩ := ih1 _ _ h
        obtain ⟨l', k1, k2, k3⟩ := ih2 _ _ h1
        refine ⟨_, k1, by simp [k2], fun E E' w hs hI hB k s' hk => ?_⟩
        cases k with
        | zero =>
          obtain rfl : x' = s' := by simpa using hk
          exact ⟨x, rfl, fun v hv => h2 E E' w v hs hI hB hv⟩
        | succ k => exact k3 E E' w hs hI hB k s' (by simpa using hk)

theorem renEnt_good {bb : Bool} {m : Mp} {e : Ent} {K : Ent → Prop} (h : renEnt bb m e K) : ∃ e', K e' ∧
    ∀ (E E' : Env) (w : World) (f : Nat → Prop) (j i : Nat), mlook m j = some i → (∀ j i, mlook m j = some i → ∀ sl, E.slot j = some sl → E'.slot i = some sl) → (∀ b, E.I b → E'.I b) → (bb = true → ∀ b, E.B b → E'.B b) → (∀ F A, e = .res F A → ∀ b, F b → E'.I b ∨ E'.B b) → EntSat E w f j e → EntSat E' w f i e' := by
  unfold renEnt at h
  cases e with
  | gone => exact ⟨_, h, fun E E' w f j i _ _ _ _ _ he => he⟩
  | cells t cs =>
    obtain ⟨l', h1, h2, h3⟩ := (ren_good bb m 200).2 _ _ h
    refine ⟨_, h1, fun E E' w f j i hji hs hI hB _ he => ?_⟩
    obtain ⟨s, arr, fz, e1, e2, e3, e4, e5, e6⟩ := he
    refine ⟨s, arr, fz, hs j i hji s e1, e2, e3, e4, by omega, fun k sv hk => ?_⟩
    obtain ⟨s0, g1, g2⟩ := h3 E E' w hs hI hB k sv hk
    obtain ⟨u, hu, hsat⟩ := e6 k s0 g1
    exact ⟨u, hu, g2 u hsat⟩
  | row te t xs =>
    refine ⟨_, h, fun E E' w f j i hji hs hI hB _ he => ?_⟩
    obtain ⟨s, h1, h2⟩ := he
    refine ⟨s, hs j i hji s h1, h2.imp id ?_⟩
    rintro ⟨o, c, arr, fz, g1, g2, g3, g4, g5, g6, g7⟩
    exact ⟨o, c, arr, fz, g1, g2, g3, g4, g5, g6, fun i x j sv hi hj => let ⟨u, hu, hs⟩ := g7 i x j sv hi hj; ⟨u, hu, (enc_move hI t).1 x j sv u hj hs⟩⟩
  | siter s p =>
    refine ⟨_, h, fun E E' w f j i hji hs _ _ _ he => ?_⟩
    obtain ⟨sl, h1, h2, h3⟩ := he
    exact ⟨sl, hs j i hji sl h1, h2, h3⟩
  | res F A => exact ⟨_, h, fun E E' w f j i _ _ hI _ hF he => by
    obtain ⟨h1, J, hJ, hA⟩ := he
    exact ⟨fun b hb => ⟨hF F A rfl b hb, (h1 b hb).2⟩, J, fun b hb => ⟨hI b (hJ b hb).1, (hJ b hb).2⟩, hA⟩⟩

/-- Entries under new names: each j's entry is now i's. -/
theorem renE_good {bb : Bool} {m : Mp} : ∀ (l : En) {K : En → Prop}, renE bb m l K → ∃ l', K l' ∧ l'.length = l.length ∧
    ∀ (k : Nat) (i : Nat) (e' : Ent), l'[k]? = some (i, e') → ∃ j e, l[k]? = some (j, e) ∧ mlook m j = some i ∧
      ∀ (E E' : Env) (w : World) (f : Nat → Prop), (∀ j i, mlook m j = some i → ∀ sl, E.slot j = some sl → E'.slot i = some sl) → (∀ b, E.I b → E'.I b) → (bb = true → ∀ b, E.B b → E'.B b) → (∀ F A, e = .res F A → ∀ b, F b → E'.I b ∨ E'.B b) → EntSat E w f j e → EntSat E' w f i e'
  | [], K, h => ⟨[], h, rfl, fun k i e' hk => by simp at hk⟩
  | (j, e) :: l, K, h => by
    unfold renE at h
    cases hj : mlook m j with
    | none => rw [hj] at h; exact h.elim
    | some i =>
      rw [hj] at h
      obtain ⟨e', h1, h2⟩ := renEnt_good h
      obtain ⟨l', k1, k2, k3⟩ := renE_good l h1
      refine ⟨_, k1, by simp [k2], fun k i' e'' hk => ?_⟩
      cases k with
      | zero =>
        obtain ⟨rfl, rfl⟩ : i = i' ∧ e' = e'' := by simpa using hk
        exact ⟨j, e, rfl, hj, fun E E' w f hs hI hB hF he => h2 E E' w f j i hj hs hI hB hF he⟩
      | succ k => exact k3 k i' e'' (by simpa using hk)

theorem memB_false {i : Nat} {l : List Nat} (h : memB i l = false) : i ∉ l := fun e => by rw [memB_iff.2 e] at h; cases h
theorem anyB_false {l m : List Nat} (h : anyB l m = false) {i : Nat} (h1 : i ∈ l) (h2 : i ∈ m) : False := by
  rw [anyB_iff.2 ⟨i, h1, h2⟩] at h; cases h
theorem nodupB_spec : ∀ {l : List Nat}, nodupB l = true → l.Nodup
  | [], _ => List.nodup_nil
  | i :: l, h => by
    simp only [nodupB] at h
    cases hm : memB i l with
    | true => rw [hm] at h; cases h
    | false => rw [hm] at h; exact List.nodup_cons.2 ⟨memB_false hm, nodupB_spec h⟩
theorem allLt_spec {n : Nat} : ∀ {m : Mp}, allLt n m = true → ∀ j i, mlook m j = some i → j < n
  | [], _, j, i, h => by cases h
  | (k, i0) :: m, h, j, i, hj => by
    simp only [allLt] at h
    cases hk : Nat.blt k n with
    | false => rw [hk] at h; cases h
    | true =>
      rw [hk] at h
      rw [mlook_cons] at hj
      split at hj
      · rename_i e; subst e; simp [Nat.blt] at hk; omega
      · exact allLt_spec h j i hj

theorem extM_old : ∀ (l : List Nat) (m : Mp) (lo : Nat) (j i : Nat), mlook m j = some i → mlook (extM m lo l) j = some i
  | [], _, _, _, _, h => h
  | k :: l, m, lo, j, i, h => by
    simp only [extM]
    cases hk : mlook m k with
    | some _ => exact extM_old l m lo j i h
    | none =>
      refine extM_old l _ _ j i ?_
      rw [mlook_cons]
      by_cases e : k = j
      · subst e; rw [hk] at h; cases h
      · rw [if_neg e]; exact h

theorem extM_new : ∀ (l : List Nat) (m : Mp) (lo : Nat) (j i : Nat), mlook (extM m lo l) j = some i → mlook m j = none → lo ≤ i ∧ i < lo + l.length
  | [], m, lo, j, i, h, hn => by rw [show extM m lo [] = m from rfl, hn] at h; cases h
  | k :: l, m, lo, j, i, h, hn => by
    simp only [extM] at h
    cases hk : mlook m k with
    | some _ =>
      rw [hk] at h
      have := extM_new l m lo j i h hn
      simp only [List.length_cons]; omega
    | none =>
      rw [hk] at h
      dsimp only at h
      by_cases e : k = j
      · subst e
        have h2 := extM_old l ((k, lo) :: m) (lo + 1) k lo (by rw [mlook_cons]; simp)
        rw [h2] at h
        obtain rfl := Option.some.inj h
        simp only [List.length_cons]; omega
      · have := extM_new l _ _ j i h (by rw [mlook_cons, if_neg e]; exact hn)
        simp only [List.length_cons]; omega

theorem extM_inj : ∀ (l : List Nat) (m : Mp) (lo : Nat) (j j' i : Nat), mlook (extM m lo l) j = some i → mlook (extM m lo l) j' = some i → mlook m j = none → mlook m j' = none → j = j'
  | [], m, lo, j, j', i, h, _, hn, _ => by rw [show extM m lo [] = m from rfl, hn] at h; cases h
  | k :: l, m, lo, j, j', i, h, h', hn, hn' => by
    simp only [extM] at h h'
    cases hk : mlook m k with
    | some _ => rw [hk] at h h'; exact extM_inj l m lo j j' i h h' hn hn'
    | none =>
      rw [hk] at h h'
      dsimp only at h h'
      have h2 := extM_old l ((k, lo) :: m) (lo + 1) k lo (by rw [mlook_cons]; simp)
      by_cases e : k = j <;> by_cases e' : k = j'
      · exact e.symm.trans e'
      · subst e
        rw [h2] at h
        obtain rfl := Option.some.inj h
        have := (extM_new l _ _ j' _ h' (by rw [mlook_cons, if_neg e']; exact hn')).1
        omega
      · subst e'
        rw [h2] at h'
        obtain rfl := Option.some.inj h'
        have := (extM_new l _ _ j _ h (by rw [mlook_cons, if_neg e]; exact hn)).1
        omega
      · exact extM_inj l _ _ j j' i h h' (by rw [mlook_cons, if_neg e]; exact hn) (by rw [mlook_cons, if_neg e']; exact hn')

theorem resQ_spec {m : Mp} {M : En} {us : List Nat} : ∀ (l : En) (q : List Prop), resQ m M us l = some q → allq q → ∀ j F A, (j, Ent.res F A) ∈ l → ∃ i A0, i ∈ us ∧ find M i = .res F A0
  | [], q, _, _, j, F, A, h => by cases h
  | (j0, e) :: l, q, hq, ha, j, F, A, h => by
    unfold resQ at hq
    split at hq
    · rename_i F1 A1
      split at hq
      · rename_i i hi
        split at hq
        · rename_i hm
          split at hq
          · rename_i F0 A0 hf
            split at hq
            · rename_i q1 hq1
              obtain rfl := Option.some.inj hq
              rcases List.mem_cons.1 h with e1 | h
              · obtain ⟨_, e2⟩ := Prod.mk.inj e1
                obtain ⟨rfl, rfl⟩ := Ent.res.inj e2
                have := ha.head
                subst this
                exact ⟨i, A0, memB_iff.1 hm, hf⟩
              · exact resQ_spec l q1 hq1 ha.tail j F A h
            · cases hq
          · cases hq
        · cases hq
      · cases hq
    · rename_i hne
      rcases List.mem_cons.1 h with e1 | h
      · obtain ⟨_, e2⟩ := Prod.mk.inj e1
        exact absurd e2.symm (hne F A)
      · exact resQ_spec l q hq ha j F A h

theorem AskR_spec {q : List Prop} {K : Prop} (h : AskR q K) : allq q ∧ K := by
  cases q with
  | nil => exact ⟨(fun p hp => by cases hp), h⟩
  | cons p l => exact ⟨conj_all _ h.e, h.h⟩

open Classical in
/-- The caller's environment behind a call. -/
noncomputable def envB (E E2 : Env) (m mx : Mp) : Env :=
  { slot := fun i => match E.slot i with
      | some s => some s
      | none => if h : ∃ j, mlook m j = none ∧ mlook mx j = some i then E2.slot (Classical.choose h) else none
    I := E2.I
    B := E.B }

/-- A CALL BY CONTRACT. -/
theorem call_goodZ {C : Ctr} {Z : Array Value → World → (Ending → World → Prop) → Prop} (hZ : ∀ vals w R R', Z vals w R → (∀ e w', R e w' → R' e w') → Z vals w R') (hC : C.okZ Z) {args : List SV} {M : En} {lo : Nat} {Kg : SV → List Nat → List Nat → En → Prop} {x : C.X} (h : CallB C args M lo Kg x) :
    ∃ out S ci eo, Kg out S ci eo ∧ (∀ id, id ∈ ci → id ∈ S) ∧
      ∀ (E : Env) (fp : Nat → Nat → Prop) (w : World) (vals : Array Value), vals.size = args.length → (∀ (j : Nat) (s : SV), args[j]? = some s → Sat E w s (vals.getD j undef)) →
        EntsSat E w fp (sub M S) → (∀ id, lo ≤ id → id < lo + 16 → E.slot id = none) →
        Z vals w fun e w' => ∃ v, e = .returned v ∧ ∃ E' fp', Sat E' w' out v ∧ EntsSat E' w' fp' (upd eo ci (sub M S)) ∧ Adv E fp w E' fp' w' ∧
          ∀ id, E'.slot id = E.slot id ∨ (lo ≤ id ∧ id < lo + 16) := by
  obtain ⟨m1, bs1, fs1, q1, h, g1, gl, ga⟩ := (mat_good M 200).2 _ _ _ _ _ _ _ h
  obtain ⟨m, bs, fs, q, us, h, g2, ht, hsem⟩ := matE_good _ h
  cases hchk : anyB bs us || anyB fs us || anyB fs bs || !allLt 1000 m with
  | true => rw [hchk] at h; exact h.elim
  | false =>
    rw [hchk] at h
    simp only [Bool.or_eq_false_iff, Bool.not_eq_false'] at hchk
    obtain ⟨⟨⟨hbu, hfu⟩, hfb⟩, hlt⟩ := hchk
    obtain ⟨hq, hside, hy⟩ := h
    have hq := conj_all q hq
    obtain ⟨hens, hcall⟩ := hC x hside
    have h := hy.h (C.val x) ⟨rfl, hens⟩
    clear hy
    cases hlen : Nat.ble (keys (C.out x (C.val x))).length 16 && nodupB (keys (C.out x (C.val x))) with
    | false => rw [hlen] at h; exact h.elim
    | true =>
      rw [hlen] at h
      simp only [Bool.and_eq_true] at hlen
      obtain ⟨hlen, hndo⟩ := hlen
      have hlen := Nat.le_of_ble_eq_true hlen
      have hndo := nodupB_spec hndo
      cases hres : resQ m M us (C.out x (C.val x)) with
      | none => rw [hres] at h; exact h.elim
      | some q' =>
      rw [hres] at h
      obtain ⟨hq', h⟩ := AskR_spec h
      have hrq := resQ_spec _ q' hres hq'
      obtain ⟨out, h, hout⟩ := (ren_good _ _ 200).1 _ _ h
      obtain ⟨eo, h, heol, heo⟩ := renE_good _ h
      cases hnd : nodupB (keys eo) && !anyB (keys eo) bs with
      | false => rw [hnd] at h; exact h.elim
      | true =>
        rw [hnd] at h
        simp only [Bool.and_eq_true, Bool.not_eq_true'] at hnd
        obtain ⟨hnde, hkb⟩ := hnd
        have hnde := nodupB_spec hnde
        refine ⟨out, _, _, eo, h, fun id hid => List.mem_append_left _ hid, fun E fp w vals hvs hvals hents hfresh => ?_⟩
        have hin : ∀ i, i ∈ us ++ fs ++ bs → find (sub M (us ++ fs ++ bs)) i = find M i := fun i hi => by rw [find_sub, if_pos hi]
        have hM : ∀ i, i ∈ us ++ fs ++ bs → EntSat E w (fp i) i (find M i) := fun i hi => by rw [← hin i hi]; exact hents.sat i
        have hlent : Lent M E w fp bs fs := ⟨hents.nil, fun i hi => hM i (by simp only [List.mem_append]; rcases hi with hi | hi; exact .inr hi; exact .inl (.inr hi))⟩
        have hT := EntsSat.target (M := M) hents (fun i hi => hM i (by simp [hi])) ht (fun j e hm i hi he => hsem hq E w fp hlent j e hm i hi he) hbu hfu
        have hslot : ∀ id, id < 1000 ∨ True → (envF E fp m bs fs).slot id ≠ none → id < 1000 ∨ nilB id = true := fun id _ hne => by
          simp only [envF] at hne
          cases hz : nilB id with
          | true => exact .inr rfl
          | false =>
            rw [hz] at hne
            cases hm : mlook m id with
            | none => rw [hm] at hne; exact absurd rfl hne
            | some i => exact .inl (allLt_spec hlt id i hm)
        refine hZ _ _ _ _ (hcall (envF E fp m bs fs) _ vals w (by omega) (fun j s hj => ?_) hT (fun id hne => hslot id (.inr trivial) hne)) ?_
        · have hlt' : j < args.length := by
            have := (List.getElem?_eq_some_iff.1 hj).1; omega
          exact (ga j s args[j] hj (by simp [hlt'])).grow g2 hq E w fp hlent _ (hvals j args[j] (by simp [hlt']))
        · rintro e w' ⟨v, E2, fp2, rfl, hres, hents2, hadv, hlow⟩
          refine ⟨v, rfl, ?_⟩
          -- what the callee owned
          have hownF : ∀ b, own (fpF fp m (C.rw x)) b → ∃ i, i ∈ us ∧ fp i b := by
            rintro b ⟨j, hj⟩
            cases hm : mlook m j with
            | none => simp only [fpF, hm] at hj
            | some i =>
              simp only [fpF, hm] at hj
              by_cases hk : j ∈ keys (C.rw x)
              · obtain ⟨i', a1, a2, _⟩ := ht.at_ _ _ (mem_of_find hk)
                obtain rfl := Option.some.inj (hm.symm.trans a1)
                exact ⟨i, a2, fpG_sub hj⟩
              · rw [find_none hk] at hj; exact hj.elim
          have hown : ∀ b, own (fpF fp m (C.rw x)) b → own fp b := fun b hb => let ⟨i, _, hf⟩ := hownF b hb; ⟨i, hf⟩
          have hkeep : Keep (own fp) w w' := hadv.keep.mono hown
          have hst := hents.stays hkeep
          -- the caller's environment
          let mx := extM m lo (keys (C.out x (C.val x)))
          have hle : E.le (envB E E2 m mx) := by
            refine ⟨fun id s hs => by simp only [envB, hs], fun b hb => hadv.le.I b (.inl hb), fun b hb => hb⟩
          have hnew : ∀ j i, mlook m j = none → mlook mx j = some i → lo ≤ i ∧ i < lo + 16 := fun j i h1 h2 => by
            have := extM_new _ m lo j i h2 h1; omega
          have hmap : ∀ j i, mlook mx j = some i → ∀ sl, E2.slot j = some sl → (envB E E2 m mx).slot i = some sl := by
            intro j i hji sl hsl
            cases hm : mlook m j with
            | some i' =>
              have := extM_old (keys (C.out x (C.val x))) m lo j i' hm
              obtain rfl : i' = i := Option.some.inj (this.symm.trans hji)
              have h1 := hlow j (allLt_spec hlt j i' hm)
              rw [hsl] at h1
              simp only [envF, hm, nilB_lt (show j < 1984 by have := allLt_spec hlt j i' hm; omega)] at h1
              have h2 : E.slot i' = some sl := h1.symm
              simp only [envB, h2]
            | none =>
              have hr := hnew j i hm hji
              have hfr := hfresh i hr.1 hr.2
              have hex : ∃ j, mlook m j = none ∧ mlook mx j = some i := ⟨j, hm, hji⟩
              have hch := Classical.choose_spec hex
              have : Classical.choose hex = j := extM_inj _ m lo _ _ i hch.2 hji hch.1 hm
              simp only [envB, hfr]
              rw [dif_pos hex, this]; exact hsl
          have hslots : ∀ id, (envB E E2 m mx).slot id = E.slot id ∨ (lo ≤ id ∧ id < lo + 16) := by
            intro id
            cases hs : E.slot id with
            | some s => exact .inl (by simp only [envB, hs])
            | none =>
              by_cases hex : ∃ j, mlook m j = none ∧ mlook mx j = some id
              · obtain ⟨j, h1, h2⟩ := hex
                exact .inr (hnew j id h1 h2)
              · exact .inl (by simp only [envB, hs]; rw [dif_neg hex])
          have hI2 : ∀ b, E2.I b → (envB E E2 m mx).I b := fun b hb => hb
          have hB2 : nullB bs = true → ∀ b, E2.B b → (envB E E2 m mx).B b := fun hbs b hb => by
            rcases hadv.Beq b hb with h1 | ⟨i, hi, _⟩
            · exact h1
            · cases bs with
              | nil => cases hi
              | cons _ _ => cases hbs
          -- the new entries
          have hnewent : ∀ id, id ∈ keys eo → ∃ j, (j ∈ keys (C.out x (C.val x))) ∧ mlook mx j = some id ∧ EntSat (envB E E2 m mx) w' (fp2 j) id (find eo id) := by
            intro id hid
            have hmem := mem_of_find hid
            obtain ⟨k, hk, hget⟩ := List.mem_iff_getElem.1 hmem
            have hk' : eo[k]? = some (id, find eo id) := by rw [List.getElem?_eq_getElem hk, hget]
            obtain ⟨j, e, hje, hji, hsem2⟩ := heo k id _ hk'
            have hjm : (j, e) ∈ C.out x (C.val x) := List.mem_of_getElem? hje
            refine ⟨j, List.mem_map.2 ⟨_, hjm, rfl⟩, hji, hsem2 E2 _ w' (fp2 j) hmap hI2 hB2 (fun F A hFA b hb => ?_) ?_⟩
            · subst hFA
              obtain ⟨i0, A0, hi0, hf0⟩ := hrq j F A hjm
              have he0 := hM i0 (by simp [hi0])
              rw [hf0] at he0
              rcases (he0.1 b hb).1 with h1 | h1
              · exact .inl (hadv.le.I b (.inl h1))
              · exact .inr h1
            have := hents2.sat j
            rw [find_mem hndo hjm] at this
            exact this
          let fp' : Nat → Nat → Prop := fun id b => (id ∈ keys eo ∧ ∃ j, j ∈ keys (C.out x (C.val x)) ∧ mlook mx j = some id ∧ fp2 j b) ∨ (id ∉ keys eo ∧ id ∈ bs ∧ fp id b)
          have hbsnot : ∀ i b, i ∈ bs → fp i b → ¬ own (fpF fp m (C.rw x)) b := fun i b hi hf ho => by
            obtain ⟨i', h1, h2⟩ := hownF b ho
            by_cases e : i = i'
            · subst e; exact anyB_false hbu hi h1
            · exact hents.apart i i' b e hf h2
          have hbsame : ∀ i b, i ∈ bs → fp i b → w'.heap[b]? = w.heap[b]? := fun i b hi hf => hadv.keep.same b (hents.lt i b hf) (hbsnot i b hi hf)
          have huniq : ∀ j j' id, j ∈ keys (C.out x (C.val x)) → j' ∈ keys (C.out x (C.val x)) → mlook mx j = some id → mlook mx j' = some id → id ∈ keys eo → j = j' := by
            intro j j' id hj hj' h1 h2 _
            -- both stand in eo at their places; eo names each once
            obtain ⟨k, hk, hget⟩ := List.mem_iff_getElem.1 (mem_of_find hj)
            obtain ⟨k', hk', hget'⟩ := List.mem_iff_getElem.1 (mem_of_find hj')
            have hke : k < eo.length := by omega
            have hke' : k' < eo.length := by omega
            obtain ⟨a, e1, b1, b2, _⟩ := heo k (eo[k]).1 (eo[k]).2 (by simp [hke])
            obtain ⟨a', e1', b1', b2', _⟩ := heo k' (eo[k']).1 (eo[k']).2 (by simp [hke'])
            have ea : a = j := by
              rw [List.getElem?_eq_getElem hk, hget] at b1
              exact (Prod.mk.inj (Option.some.inj b1)).1.symm
            have ea' : a' = j' := by
              rw [List.getElem?_eq_getElem hk', hget'] at b1'
              exact (Prod.mk.inj (Option.some.inj b1')).1.symm
            subst ea; subst ea'
            have i1 : (eo[k]).1 = id := Option.some.inj (b2.symm.trans h1)
            have i2 : (eo[k']).1 = id := Option.some.inj (b2'.symm.trans h2)
            have hkk : k = k' := by
              have n1 : (keys eo)[k]'(by simp [keys, hke]) = id := by simp [keys, i1]
              have n2 : (keys eo)[k']'(by simp [keys, hke']) = id := by simp [keys, i2]
              have hp := List.pairwise_iff_getElem.1 hnde
              rcases Nat.lt_trichotomy k k' with hlt | heq | hgt
              · exact absurd (n1.trans n2.symm) (hp k k' _ _ hlt)
              · exact heq
              · exact absurd (n2.trans n1.symm) (hp k' k _ _ hgt)
            subst hkk
            rw [hget] at hget'
            exact (Prod.mk.inj hget').1
          have hfpE : ∀ id j, id ∈ keys eo → j ∈ keys (C.out x (C.val x)) → mlook mx j = some id → fp' id = fp2 j := by
            intro id j hid hj hji
            funext b
            refine propext ⟨fun hb => ?_, fun hb => .inl ⟨hid, j, hj, hji, hb⟩⟩
            rcases hb with ⟨_, j', hj', hji', hb⟩ | ⟨hn, _⟩
            · rw [huniq j j' id hj hj' hji hji' hid]; exact hb
            · exact absurd hid hn
          refine ⟨envB E E2 m mx, fp', hout E2 _ w' v hmap hI2 hB2 hres, ⟨fun id => ?_, fun id b hb => ?_, fun id b hb hI => ?_, fun id b hb hB => ?_, fun i i' b hne hb hb' => ?_, fun b hb => ?_, hents.nil.mono hle, hents.glob hst hle.I⟩,
            ⟨hkeep, hle, fun b hb => ?_, fun b hb => hb, fun id b hb => ?_⟩, hslots⟩
          · rw [find_upd]
            by_cases hk : id ∈ keys eo
            · rw [if_pos hk]
              obtain ⟨j, hj, hji, hs⟩ := hnewent id hk
              rw [hfpE id j hk hj hji]; exact hs
            · rw [if_neg hk]
              by_cases hci : id ∈ us ++ fs
              · rw [if_pos hci]
                intro b hb
                rcases hb with ⟨h1, _⟩ | ⟨_, h2, _⟩
                · exact hk h1
                · rcases List.mem_append.1 hci with h3 | h3
                  · exact anyB_false hbu h2 h3
                  · exact anyB_false hfb h3 h2
              · rw [if_neg hci, find_sub]
                by_cases hb : id ∈ bs
                · rw [if_pos (by simp [hb])]
                  have hfe : fp' id = fp id := by
                    funext b
                    exact propext ⟨fun h => by rcases h with ⟨h1, _⟩ | ⟨_, _, h⟩; exact absurd h1 hk; exact h, fun h => .inr ⟨hk, hb, h⟩⟩
                  rw [hfe]
                  exact (hM id (by simp [hb])).mono hle hst hadv.keep.size (fun b hf => hbsame id b hb hf)
                · rw [if_neg (by simp only [List.mem_append] at hci ⊢; rintro (h | h); exact hci h; exact hb h)]
                  intro b h
                  rcases h with ⟨h1, _⟩ | ⟨_, h2, _⟩
                  · exact hk h1
                  · exact hb h2
          · rcases hb with ⟨_, j, _, _, hb⟩ | ⟨_, _, hb⟩
            · exact hents2.lt j b hb
            · exact Nat.lt_of_lt_of_le (hents.lt id b hb) hadv.keep.size
          · rcases hb with ⟨_, j, _, _, hb⟩ | ⟨_, h2, hb⟩
            · exact hents2.I j b hb hI
            · rcases hadv.Inew b hI with h3 | h3 | h3
              · rcases h3 with h3 | ⟨i', h4, h5⟩
                · exact hents.I id b hb h3
                · by_cases e : id = i'
                  · subst e; exact anyB_false hfb h4 h2
                  · exact hents.apart id i' b e hb h5
              · exact hbsnot id b h2 hb h3
              · have := hents.lt id b hb; omega
          · rcases hb with ⟨_, j, _, _, hb⟩ | ⟨_, _, hb⟩
            · exact hents2.B j b hb (hadv.le.B b (.inl hB))
            · exact hents.B id b hb hB
          · have cross : ∀ id j b, id ∈ bs → fp id b → fp2 j b → False := fun id j b h1 h2 h3 => by
              rcases hadv.onew j b h3 with h4 | h4
              · exact hbsnot id b h1 h2 h4
              · have := hents.lt id b h2; omega
            rcases hb with ⟨k1, j, hj, hji, hb⟩ | ⟨k1, h1, hb⟩ <;> rcases hb' with ⟨k2, j', hj', hji', hb'⟩ | ⟨k2, h2, hb'⟩
            · by_cases e : j = j'
              · subst e; exact hne (Option.some.inj (hji.symm.trans hji'))
              · exact hents2.apart j j' b e hb hb'
            · exact cross i' j b h2 hb' hb
            · exact cross i j' b h1 hb hb'
            · exact hents.apart i i' b hne hb hb'
          · rcases hb with hb | hb
            · exact hents2.Ilt b (.inl hb)
            · exact Nat.lt_of_lt_of_le (hents.Ilt b (.inr hb)) hadv.keep.size
          · rcases hadv.Inew b hb with h3 | h3 | h3
            · rcases h3 with h3 | ⟨i', _, h5⟩
              · exact .inl h3
              · exact .inr (.inl ⟨i', h5⟩)
            · exact .inr (.inl (hown b h3))
            · exact .inr (.inr h3)
          · rcases hb with ⟨_, j, _, _, hb⟩ | ⟨_, _, hb⟩
            · exact (hadv.onew j b hb).imp (hown b) (fun h => h)
            · exact .inl ⟨id, hb⟩

theorem call_good {C : Ctr} {P : Program} {g : FuncId} (hC : C.ok P g) {args : List SV} {M : En} {lo : Nat} {Kg : SV → List Nat → List Nat → En → Prop} {x : C.X} (h : CallB C args M lo Kg x) :
    ∃ out S ci eo, Kg out S ci eo ∧ (∀ id, id ∈ ci → id ∈ S) ∧
      ∀ (E : Env) (fp : Nat → Nat → Prop) (w : World) (vals : Array Value), vals.size = args.length → (∀ (j : Nat) (s : SV), args[j]? = some s → Sat E w s (vals.getD j undef)) →
        EntsSat E w fp (sub M S) → (∀ id, lo ≤ id → id < lo + 16 → E.slot id = none) →
        CallsIn (fence none) 0 P g vals w fun e w' => ∃ v, e = .returned v ∧ ∃ E' fp', Sat E' w' out v ∧ EntsSat E' w' fp' (upd eo ci (sub M S)) ∧ Adv E fp w E' fp' w' ∧
          ∀ id, E'.slot id = E.slot id ∨ (lo ≤ id ∧ id < lo + 16) :=
  call_goodZ (Z := fun vals w R => CallsIn (fence none) 0 P g vals w R) (fun _ _ _ _ h k => CallsIn.mono h k) hC h
theorem call_goodV {C : Ctr} {P : Program} {g : FuncId} (hC : C.okV P g) {args : List SV} {M : En} {lo : Nat} {Kg : SV → List Nat → List Nat → En → Prop} {x : C.X} (h : CallB C args M lo Kg x) :
    ∃ out S ci eo, Kg out S ci eo ∧ (∀ id, id ∈ ci → id ∈ S) ∧
      ∀ (E : Env) (fp : Nat → Nat → Prop) (w : World) (vals : Array Value), vals.size = args.length → (∀ (j : Nat) (s : SV), args[j]? = some s → Sat E w s (vals.getD j undef)) →
        EntsSat E w fp (sub M S) → (∀ id, lo ≤ id → id < lo + 16 → E.slot id = none) →
        ∃ v, (callFunc g vals).run P w = .ok (.value v) w ∧ ∃ E' fp', Sat E' w out v ∧ EntsSat E' w fp' (upd eo ci (sub M S)) ∧ Adv E fp w E' fp' w ∧
          ∀ id, E'.slot id = E.slot id ∨ (lo ≤ id ∧ id < lo + 16) := by
  obtain ⟨out, S, ci, eo, h1, h2, h3⟩ := call_goodZ (Z := fun vals w R => ∃ v, (callFunc g vals).run P w = .ok (.value v) w ∧ R (.returned v) w) (fun _ _ _ _ ⟨v, h, k⟩ hh => ⟨v, h, hh _ _ k⟩) hC h
  refine ⟨out, S, ci, eo, h1, h2, fun E fp w vals a b c d => ?_⟩
  obtain ⟨v, k1, v', k2, k3⟩ := h3 E fp w vals a b c d
  cases k2
  exact ⟨v, k1, k3⟩

end Go.Eng

/-! The engine, part H: each operation does what is said of it. -/
set_option linter.unusedVariables false
namespace Go.Eng
variable [DM]
set_option linter.unusedSectionVars false

def LocRun (r : Option Nat) (P : Program) (o : Oper) (T : Tm) (M : En) (lo hi : Nat) (f : Eff) : Prop :=
  (∀ id, id ∈ f.ci → id ∈ f.S) ∧
  ∀ (E : Env) (fp : Nat → Nat → Prop) (a : Act) (w : World), (∀ t, t ∈ f.rd → Sat E w (look T t) (a.tmps.getD t undef)) → EntsSat E w fp (sub M f.S) →
    (∀ id, lo ≤ id → id < hi → E.slot id = none) →
    OpRun r P o a w fun v w' => ∃ E' fp', Sat E' w' f.out v ∧ EntsSat E' w' fp' (upd f.eo f.ci (sub M f.S)) ∧ Adv E fp w E' fp' w' ∧
      ∀ id, E'.slot id = E.slot id ∨ (lo ≤ id ∧ id < hi)

def opsOf (o : Oper) : List Nat := opTmps o.op.operands.toList

theorem upd_nil (M : En) : upd [] [] M = M := by simp [upd, gones]

theorem loc_pure {r : Option Nat} {P : Program} {o : Oper} {T : Tm} {M : En} {lo hi : Nat} {rd : List Nat} {out : SV} {S : List Nat} (hd : ∀ c, o.op ≠ .defer c)
    (h : ∀ (E : Env) (fp : Nat → Nat → Prop) (a : Act) (w : World), (∀ t, t ∈ rd → Sat E w (look T t) (a.tmps.getD t undef)) → EntsSat E w fp (sub M S) →
      ∃ v, (execOp a.eval o).run P w = .ok (.value v) w ∧ Sat E w out v) : LocRun r P o T M lo hi ⟨rd, out, S, [], []⟩ :=
  ⟨(fun id hid => by cases hid), fun E fp a w hrd hents _ =>
    let ⟨v, h1, h2⟩ := h E fp a w hrd hents
    OpRun.value hd h1 ⟨E, fp, h2, (by rw [upd_nil]; exact hents), .refl _ _ _, fun id => .inl rfl⟩⟩

theorem opTmps_mem {l : List Operand} {t : Nat} (h : Operand.tmp t ∈ l) : t ∈ opTmps l := by
  induction l with
  | nil => cases h
  | cons x l ih =>
    rcases List.mem_cons.1 h with rfl | h'
    · simp [opTmps]
    · cases x <;> simp only [opTmps] <;> first | exact List.mem_cons_of_mem _ (ih h') | exact ih h'

theorem list_sat_v {E : Env} {w : World} {l : List Value} {j : Nat} {sv : SV} (h : (l.map SV.v)[j]? = some sv) : ∃ x, l[j]? = some x ∧ sv = .v x := by
  rw [List.getElem?_map] at h
  cases hx : l[j]? with
  | none => rw [hx] at h; cases h
  | some x => rw [hx] at h; exact ⟨x, rfl, (Option.some.inj h).symm⟩

theorem evC_sat {E : Env} {w : World} (v : Value) : Sat E w (evC v) v := by
  cases v with
  | agg cs =>
    refine .agg _ cs (fun j => cs.getD j undef) (by simp) (fun j hj => ?_) (fun j sv hj => ?_)
    · have : j < cs.size := by simpa using hj
      simp [this]
    · obtain ⟨x, h1, rfl⟩ := list_sat_v (E := E) (w := w) hj
      have hlt : j < cs.size := by
        have := (List.getElem?_eq_some_iff.1 h1).1; simpa using this
      have : cs.getD j undef = x := by
        rw [Array.getElem?_toList] at h1
        simp [h1]
      rw [this]; exact .v x
  | _ => exact .v _

theorem ev_sat {E : Env} {w : World} {T : Tm} {a : Act} {l : List Operand} (h : ∀ t, t ∈ opTmps l → Sat E w (look T t) (a.tmps.getD t undef)) {x : Operand} (hx : x ∈ l) : Sat E w (ev T x) (a.eval x) := by
  cases x with
  | tmp t => exact h t (opTmps_mem hx)
  | const v => exact evC_sat v
  | global g => exact .v _
  | func f => exact .func _ [] [] #[] #[] (fun _ => undef) (fun _ => undef) rfl rfl (fun j hj => by cases hj) (fun j hj => by cases hj) (fun j sv hj => by simp at hj) (fun j sv hj => by simp at hj)

theorem force_spec {s : SV} {K : SV → Prop} (h : force s K) : K s := by cases s <;> exact h

theorem nth_eq : ∀ (l : List SV) (n : Nat), nth l n = l[n]?
  | [], _ => rfl
  | _ :: _, 0 => rfl
  | _ :: l, n + 1 => by simp [nth, nth_eq l n]

theorem find_sub_in {M : En} {S : List Nat} {i : Nat} (h : i ∈ S) : find (sub M S) i = find M i := by rw [find_sub, if_pos h]

/-! ### Parts -/

theorem partV_load {P : Program} {t : TypeId} {cs : List SV} {off : Nat} {K : SV → Prop} (h : partV P t cs off K) : ∃ out, K out ∧
    ∀ (E : Env) (w : World) (k o : Nat), (∀ (j : Nat) (sv : SV), cs[j]? = some sv → ∃ u, w.cell? ⟨k, o + j, none⟩ = some u ∧ Sat E w sv u) →
      ∃ v, (loadVar t ⟨k, o + off, none⟩).run P w = .ok v w ∧ Sat E w out v := by
  unfold partV at h
  cases ha : aggOf P t with
  | none => rw [ha] at h; exact h.elim
  | some b =>
    rw [ha] at h
    cases b with
    | false =>
      dsimp only at h
      rw [nth_eq] at h
      cases hn : cs[off]? with
      | none => rw [hn] at h; exact h.elim
      | some s =>
        rw [hn] at h
        refine ⟨s, force_spec h, fun E w k o hc => ?_⟩
        obtain ⟨u, hu, hs⟩ := hc off s hn
        exact ⟨u, run_loadVar_scalar ha hu, hs⟩
    | true =>
      dsimp only at h
      cases hz : szOf P t with
      | none => rw [hz] at h; exact h.elim
      | some n =>
        rw [hz] at h
        dsimp only at h
        cases hcut : cutS cs off n with
        | none => rw [hcut] at h; exact h.elim
        | some l =>
          rw [hcut] at h
          refine ⟨_, h, fun E w k o hc => ?_⟩
          obtain ⟨c1, c2⟩ := cutS_spec cs off n l hcut
          have hget : ∀ j, j < n → ∃ sv, l[j]? = some sv ∧ cs[off + j]? = some sv := fun j hj => by
            have hlt : j < l.length := by omega
            exact ⟨l[j], by simp [hlt], by rw [c2 j hj]; simp [hlt]⟩
          have hu : ∀ j, j < n → w.cell? ⟨k, (o + off) + j, none⟩ = some ((w.cell? ⟨k, (o + off) + j, none⟩).getD undef) := fun j hj => by
            obtain ⟨sv, _, h2⟩ := hget j hj
            obtain ⟨u, hu, _⟩ := hc _ _ h2
            rw [Nat.add_assoc, hu]; rfl
          obtain ⟨vs, h1, h2, h3⟩ := run_loadVar_agg (P := P) ha hz (k := k) (o := o + off) (u := fun j => (w.cell? ⟨k, (o + off) + j, none⟩).getD undef) hu
          refine ⟨_, h1, .agg l vs _ (by omega) (fun j hj => h3 j (by omega)) (fun j sv hj => ?_)⟩
          have hlt := (List.getElem?_eq_some_iff.1 hj).1
          obtain ⟨sv', e1, e2⟩ := hget j (by omega)
          obtain rfl := Option.some.inj (hj.symm.trans e1)
          obtain ⟨u, hu, hs⟩ := hc _ _ e2
          rw [Nat.add_assoc, hu]; exact hs

theorem partV_part {P : Program} {t : TypeId} {cs : List SV} {off : Nat} {K : SV → Prop} (h : partV P t cs off K) : ∃ out, K out ∧
    ∀ (E : Env) (w : World) (vs : Array Value), (∀ (j : Nat) (sv : SV), cs[j]? = some sv → ∃ u, vs[j]? = some u ∧ Sat E w sv u) → vs.size = cs.length →
      ∃ v, (part t vs off).run P w = .ok v w ∧ Sat E w out v := by
  unfold partV at h
  cases ha : aggOf P t with
  | none => rw [ha] at h; exact h.elim
  | some b =>
    rw [ha] at h
    cases b with
    | false =>
      dsimp only at h
      rw [nth_eq] at h
      cases hn : cs[off]? with
      | none => rw [hn] at h; exact h.elim
      | some s =>
        rw [hn] at h
        refine ⟨s, force_spec h, fun E w vs hc _ => ?_⟩
        obtain ⟨u, hu, hs⟩ := hc off s hn
        refine ⟨u, ?_, hs⟩
        unfold part
        rw [run_then (run_isAgg ha w)]
        simp [hu]
    | true =>
      dsimp only at h
      cases hz : szOf P t with
      | none => rw [hz] at h; exact h.elim
      | some n =>
        rw [hz] at h
        dsimp only at h
        cases hcut : cutS cs off n with
        | none => rw [hcut] at h; exact h.elim
        | some l =>
          rw [hcut] at h
          refine ⟨_, h, fun E w vs hc hsz => ?_⟩
          obtain ⟨c1, c2⟩ := cutS_spec cs off n l hcut
          have hget : ∀ j, j < n → ∃ sv u, l[j]? = some sv ∧ vs[off + j]? = some u ∧ Sat E w sv u := fun j hj => by
            have hlt : j < l.length := by omega
            obtain ⟨u, hu, hs⟩ := hc (off + j) l[j] (by rw [c2 j hj]; simp [hlt])
            exact ⟨l[j], u, by simp [hlt], hu, hs⟩
          refine ⟨.agg (vs.extract off (off + n)), ?_, .agg l _ (fun j => vs.getD (off + j) undef) ?_ (fun j hj => ?_) (fun j sv hj => ?_)⟩
          · unfold part
            rw [run_then (run_isAgg ha w)]
            simp only [if_true]
            rw [run_then (run_sizeOf hz w)]
            rfl
          · rw [Array.size_extract]
            cases n with
            | zero => omega
            | succ n =>
              obtain ⟨_, u, _, h2, _⟩ := hget n (by omega)
              have := (Array.getElem?_eq_some_iff.1 h2).1
              omega
          · obtain ⟨_, u, _, h2, _⟩ := hget j (by omega)
            have hlt := (Array.getElem?_eq_some_iff.1 h2).1
            rw [Array.getElem?_extract, if_pos (by omega), h2]
            simp [h2]
          · have hlt := (List.getElem?_eq_some_iff.1 hj).1
            obtain ⟨sv', u, e1, e2, e3⟩ := hget j (by omega)
            obtain rfl := Option.some.inj (hj.symm.trans e1)
            have : vs.getD (off + j) undef = u := by simp [e2]
            rw [this]; exact e3

/-! ### Cells of a value; filling -/

theorem scalB_plain {E : Env} {w : World} {s : SV} {v : Value} (h : scalB s = true) (hs : Sat E w s v) : plainV v := by
  cases hs with
  | v _ => cases v <;> first | (simp [scalB] at h; done) | (exact ⟨(fun _ e => by cases e), (fun _ e => by cases e)⟩)
  | any _ => simp [scalB] at h
  | agg _ _ _ _ _ _ => simp [scalB] at h
  | tuple _ _ _ _ _ _ => simp [scalB] at h
  | _ => exact ⟨(fun _ e => by cases e), (fun _ e => by cases e)⟩

theorem allScal_spec : ∀ {l : List SV}, allScal l = true → ∀ (j : Nat) (s : SV), l[j]? = some s → scalB s = true
  | [], _, j, s, h => by simp at h
  | x :: l, h, j, s, hj => by
    simp only [allScal] at h
    cases hx : scalB x with
    | false => rw [hx] at h; cases h
    | true =>
      rw [hx] at h
      cases j with
      | zero => obtain rfl : x = s := by simpa using hj
                exact hx
      | succ j => exact allScal_spec h j s (by simpa using hj)

/-- Cells of a value, in symbols and in fact. -/
def CellsAre (E : Env) (w : World) (vs : List SV) (l : List Value) : Prop := l.length = vs.length ∧ ∀ (j : Nat) (s : SV), vs[j]? = some s → ∃ u, l[j]? = some u ∧ Sat E w s u

theorem CellsAre.mono {E E' : Env} {w w' : World} {vs : List SV} {l : List Value} (h : CellsAre E w vs l) (hE : E.le E') (hs : Stays E w w') : CellsAre E' w' vs l :=
  ⟨h.1, fun j s hj => let ⟨u, hu, hsat⟩ := h.2 j s hj; ⟨u, hu, hsat.mono hE hs⟩⟩

theorem svCells_sat {E : Env} {w : World} {s : SV} {vs : List SV} {v : Value} (h : svCells s = some vs) (hs : Sat E w s v) : CellsAre E w vs v.cells.toList ∧ ∀ u, u ∈ v.cells.toList → plainV u := by
  have one : scalB s = true → vs = [s] → v.cells = #[v] → CellsAre E w vs v.cells.toList ∧ ∀ u, u ∈ v.cells.toList → plainV u := by
    intro h1 h2 h3
    subst h2
    rw [h3]
    refine ⟨⟨rfl, fun j s' hj => ?_⟩, fun u hu => ?_⟩
    · cases j with
      | zero => obtain rfl : s = s' := by simpa using hj
                exact ⟨v, rfl, hs⟩
      | succ j => simp at hj
    · obtain rfl : u = v := by simpa using hu
      exact scalB_plain h1 hs
  cases hs with
  | v _ => cases v <;> first | (simp [svCells] at h; done) | (exact one rfl (by simpa [svCells] using h.symm) rfl)
  | any _ => simp [svCells] at h
  | tuple _ _ _ _ _ _ => simp [svCells] at h
  | agg l arr u hl hu hss =>
    simp only [svCells] at h
    cases hall : allScal l with
    | false => rw [hall] at h; cases h
    | true =>
      rw [hall] at h
      obtain rfl := Option.some.inj h
      refine ⟨⟨by simpa [Value.cells] using hl, fun j s hj => ?_⟩, fun x hx => ?_⟩
      · have hlt := (List.getElem?_eq_some_iff.1 hj).1
        exact ⟨u j, by simpa [Value.cells] using hu j hlt, hss j s hj⟩
      · obtain ⟨j, hj, rfl⟩ := List.mem_iff_getElem.1 hx
        have hj' : j < l.length := by simp [Value.cells] at hj; omega
        have h1 := hu j hj'
        have h2 : (Value.agg arr).cells.toList[j] = u j := by
          have : arr[j]? = some ((Value.agg arr).cells.toList[j]) := by simp [Value.cells] at hj ⊢
          exact Option.some.inj (this.symm.trans h1)
        rw [h2]
        exact scalB_plain (allScal_spec hall j l[j] (by simp [hj'])) (hss j l[j] (by simp [hj']))
  | _ => exact one rfl (by simpa [svCells] using h.symm) rfl

theorem setN_spec : ∀ (cs : List SV) (o : Nat) (y : SV) (cs' : List SV), setN cs o y = some cs' → o < cs.length ∧ cs'.length = cs.length ∧ ∀ j, cs'[j]? = if j = o then some y else cs[j]?
  | [], o, y, cs', h => by simp [setN] at h
  | x :: l, 0, y, cs', h => by
    obtain rfl : y :: l = cs' := by simpa [setN] using h
    refine ⟨by simp, rfl, fun j => ?_⟩
    cases j <;> simp
  | x :: l, n + 1, y, cs', h => by
    simp only [setN] at h
    cases hr : setN l n y with
    | none => rw [hr] at h; cases h
    | some l' =>
      rw [hr] at h
      obtain rfl : x :: l' = cs' := by simpa using h
      obtain ⟨h1, h2, h3⟩ := setN_spec l n y l' hr
      refine ⟨by simp; omega, by simp [h2], fun j => ?_⟩
      cases j with
      | zero => simp
      | succ j => simp [h3 j]

theorem setAll_spec : ∀ (ys : List SV) (cs : List SV) (o : Nat) (cs' : List SV), setAll cs o ys = some cs' → (ys = [] ∨ o + ys.length ≤ cs.length) ∧ cs'.length = cs.length ∧
    ∀ j, cs'[j]? = if o ≤ j ∧ j < o + ys.length then ys[j - o]? else cs[j]?
  | [], cs, o, cs', h => by
    obtain rfl : cs = cs' := by simpa [setAll] using h
    exact ⟨.inl rfl, rfl, fun j => by simp only [List.length_nil]; rw [if_neg (by omega)]⟩
  | y :: ys, cs, o, cs', h => by
    simp only [setAll] at h
    cases hr : setN cs o y with
    | none => rw [hr] at h; cases h
    | some cs1 =>
      rw [hr] at h
      obtain ⟨a1, a2, a3⟩ := setN_spec cs o y cs1 hr
      obtain ⟨b1, b2, b3⟩ := setAll_spec ys cs1 (o + 1) cs' h
      refine ⟨.inr ?_, b2.trans a2, fun j => ?_⟩
      · simp only [List.length_cons]
        rcases b1 with rfl | b1
        · simp; omega
        · omega
      · rw [b3 j, a3 j]
        simp only [List.length_cons]
        by_cases h1 : j = o
        · subst h1
          rw [if_neg (by omega), if_pos rfl, if_pos (by omega)]
          simp
        · by_cases h2 : o + 1 ≤ j ∧ j < o + 1 + ys.length
          · rw [if_pos h2, if_pos (by omega), show j - o = (j - (o + 1)) + 1 by omega]; simp
          · rw [if_neg h2, if_neg h1, if_neg (by omega)]

theorem cells_put {E : Env} {w : World} {cs ys cs' : List SV} {o : Nat} {arr : Array Value} {l : List Value} (h : setAll cs o ys = some cs') (hc : CellsAre E w cs arr.toList) (hy : CellsAre E w ys l)
    (hne : l ≠ [] ∨ o ≤ arr.size) : CellsAre E w cs' (putAll arr o l).toList := by
  obtain ⟨h1, h2, h3⟩ := setAll_spec ys cs o cs' h
  have hsz : arr.size = cs.length := by simpa using hc.1
  have hly := hy.1
  have hle : o + l.length ≤ arr.size := by
    rcases h1 with rfl | h1
    · have : l = [] := List.length_eq_zero_iff.1 (by simpa using hly)
      subst this
      rcases hne with hne | hne
      · exact absurd rfl hne
      · simpa using hne
    · omega
  refine ⟨by simp [putAll_size]; omega, fun j s hj => ?_⟩
  rw [Array.getElem?_toList, putAll_get hle j]
  rw [h3 j] at hj
  by_cases hr : o ≤ j ∧ j < o + ys.length
  · rw [if_pos hr] at hj
    rw [if_pos (by omega)]
    exact hy.2 _ s hj
  · rw [if_neg hr] at hj
    rw [if_neg (by omega)]
    obtain ⟨u, hu, hs⟩ := hc.2 j s hj
    exact ⟨u, by simpa using hu, hs⟩

theorem zip_put (l : List Value) (off : Nat) : ∀ (cells : Array Value) (k : Nat), (l.zipIdx k).foldl (fun cs (p : Value × Nat) => cs.setIfInBounds (off + p.2) p.1) cells = putAll cells (off + k) l := by
  induction l with
  | nil => intro cells k; rfl
  | cons v l ih => intro cells k; simp only [List.zipIdx_cons, List.foldl_cons]; rw [ih]; rfl

/-- Filling. -/
theorem fill_any {E : Env} {w : World} {place : Nat → Option (Nat × Nat)} (parts : List (Nat × SV)) (vals : List (Nat × Value)) (cs cs' : List SV) (cells : Array Value) (h : fillS place cs parts = some cs')
    (hc : CellsAre E w cs cells.toList) (hl : parts.length = vals.length) (hp : ∀ (k i : Nat) (s : SV), parts[k]? = some (i, s) → ∃ v, vals[k]? = some (i, v) ∧ Sat E w s v) :
    ∃ cells', Instr.fill place cells vals = some cells' ∧ CellsAre E w cs' cells'.toList := by
  induction parts generalizing vals cs cells with
  | nil =>
    cases vals with
    | nil =>
      obtain rfl : cs = cs' := by simpa [fillS] using h
      exact ⟨cells, rfl, hc⟩
    | cons v vals => simp at hl
  | cons p parts ih =>
    obtain ⟨i, s⟩ := p
    cases vals with
    | nil => simp at hl
    | cons v vals =>
      obtain ⟨i', v⟩ := v
      obtain ⟨v', hv', hs⟩ := hp 0 i s rfl
      obtain ⟨rfl, rfl⟩ : i' = i ∧ v = v' := by simpa using hv'
      simp only [fillS] at h
      cases hpi : place i' with
      | none => rw [hpi] at h; cases h
      | some on =>
        obtain ⟨off, n⟩ := on
        rw [hpi] at h
        dsimp only at h
        cases hsv : svCells s with
        | none => rw [hsv] at h; cases h
        | some vs =>
          rw [hsv] at h
          dsimp only at h
          cases hb : Nat.beq vs.length n && Nat.ble (off + n) cs.length with
          | false => rw [hb] at h; cases h
          | true =>
            rw [hb] at h
            dsimp only at h
            simp only [Bool.and_eq_true] at hb
            have hn := Nat.eq_of_beq_eq_true hb.1
            have hle := Nat.le_of_ble_eq_true hb.2
            cases hset : setAll cs off vs with
            | none => rw [hset] at h; cases h
            | some cs1 =>
              rw [hset] at h
              dsimp only at h
              obtain ⟨hcells, hplain⟩ := svCells_sat hsv hs
              have hsz : v.cells.size = n := by have := hcells.1; simp at this; omega
              have hcl : cells.size = cs.length := by simpa using hc.1
              have hput := cells_put hset hc hcells (.inr (by omega))
              obtain ⟨cells', e1, e2⟩ := ih vals cs1 (putAll cells off v.cells.toList) h hput (by simpa using hl) (fun k i s hk => hp (k + 1) i s (by simpa using hk))
              refine ⟨cells', ?_, e2⟩
              unfold Instr.fill
              rw [hpi]
              dsimp only
              rw [if_neg (by simp; omega)]
              rw [← e1]
              congr 1
              have := zip_put v.cells.toList off cells 0
              rw [Nat.add_zero] at this
              rw [← this]
              rw [← Array.foldl_toList]
              simp

theorem mapEv_length (T : Tm) : ∀ l, (mapEv T l).length = l.length
  | [] => rfl
  | _ :: l => by simp [mapEv, mapEv_length T l]
theorem mapEv_get (T : Tm) : ∀ (l : List Operand) (j : Nat), (mapEv T l)[j]? = (l[j]?).map (ev T)
  | [], _ => by simp [mapEv]
  | _ :: l, 0 => by simp [mapEv]
  | _ :: l, j + 1 => by simp [mapEv, mapEv_get T l j]
theorem partsEv_get (T : Tm) : ∀ (l : List (Nat × Operand)) (j : Nat), (partsEv T l)[j]? = (l[j]?).map fun p => (p.1, ev T p.2)
  | [], _ => by simp [partsEv]
  | _ :: l, 0 => by simp [partsEv]
  | _ :: l, j + 1 => by simp [partsEv, partsEv_get T l j]
theorem partsEv_length (T : Tm) : ∀ l, (partsEv T l).length = l.length
  | [] => rfl
  | _ :: l => by simp [partsEv, partsEv_length T l]
theorem listV_eq : ∀ l, listV l = l.map SV.v
  | [] => rfl
  | _ :: l => by simp [listV, listV_eq l]

theorem listV_are {E : Env} {w : World} (l : List Value) : CellsAre E w (listV l) l := by
  rw [listV_eq]
  refine ⟨by simp, fun j s hj => ?_⟩
  obtain ⟨x, h1, rfl⟩ := list_sat_v (E := E) (w := w) hj
  exact ⟨x, h1, .v x⟩

end Go.Eng

/-! The engine, part I: the conditions asked of one operation suffice. -/
set_option linter.unusedVariables false
namespace Go.Eng
variable [DM]
set_option linter.unusedSectionVars false

/-- What is known of the functions that may be called. -/
def Known (P : Program) (G : Nat → Option Ctr) : Prop := ∀ g C, G g = some C → (C.ok P g ∧ ∀ args w, (callFunc g args).run P w = .ok (.enter g args) w) ∨ (bodyB P g = false ∧ C.okV P g)

/-- One of the two ways on, and what it stands for. -/
def Led (r : Option Nat) (P : Program) (o : Oper) (T : Tm) (M : En) (lo : Nat) (Kp : SV → List Nat → Prop) (Kg : SV → List Nat → List Nat → En → Prop) : Prop :=
  (∃ out S, Kp out S ∧ LocRun r P o T M lo (lo + 16) ⟨opsOf o, out, S, [], []⟩) ∨
  (∃ out S ci eo, Kg out S ci eo ∧ LocRun r P o T M lo (lo + 16) ⟨opsOf o, out, S, ci, eo⟩)

theorem ok_value {P : Program} {s : Sem Value} {v : Value} {w w' : World} (h : s.run P w = .ok v w') : (do pure (.value (← s)) : Sem Next).run P w = .ok (.value v) w' := by
  rw [run_then h]; rfl
theorem ok_skip {P : Program} {s : Sem Unit} {w w' : World} (h : s.run P w = .ok () w') : (do s; pure .skip : Sem Next).run P w = .ok .skip w' := by
  rw [run_then h]; rfl

section
variable {r : Option Nat} {P : Program} {G : Nat → Option Ctr} {o : Oper} {T : Tm} {M : En} {lo : Nat} {Kp : SV → List Nat → Prop} {Kg : SV → List Nat → List Nat → En → Prop}

theorem led_p {out : SV} {S : List Nat} (hk : Kp out S) (hd : ∀ c, o.op ≠ .defer c)
    (h : ∀ (E : Env) (fp : Nat → Nat → Prop) (a : Act) (w : World), (∀ t, t ∈ opsOf o → Sat E w (look T t) (a.tmps.getD t undef)) → EntsSat E w fp (sub M S) →
      ∃ v, (execOp a.eval o).run P w = .ok (.value v) w ∧ Sat E w out v) : Led r P o T M lo Kp Kg :=
  .inl ⟨out, S, hk, loc_pure hd h⟩

theorem led_move {x : Operand} (hop : o.op = .move x ∨ o.op = .assign x) (h : force (ev T x) fun s => Kp s []) : Led r P o T M lo Kp Kg := by
  have hops : opsOf o = opTmps [x] := by rcases hop with e | e <;> simp [opsOf, e, Op.operands]
  refine led_p (force_spec h) (fun c => by rcases hop with e | e <;> simp [e]) (fun E fp a w hrd _ => ⟨a.eval x, ?_, ?_⟩)
  · rcases hop with e | e <;> simp only [execOp, e] <;> rfl
  · rw [hops] at hrd
    exact ev_sat hrd (List.mem_singleton.2 rfl)

/-- A new block. -/
theorem led_new {t : TypeId} {cs : List SV} {out : SV} (hk : Kg out [] [] [(lo, .cells t cs)]) (hd : ∀ c, o.op ≠ .defer c)
    (h : ∀ (E : Env) (a : Act) (w : World), (∀ t, t ∈ opsOf o → Sat E w (look T t) (a.tmps.getD t undef)) →
      ∃ arr v, (execOp a.eval o).run P w = .ok (.value v) (wnew w (.cells arr t)) ∧ CellsAre E w cs arr.toList ∧
        ∀ (E' : Env) (s : Slot), E'.slot lo = some s → s.blk = w.heap.size → Sat E' (wnew w (.cells arr t)) out v) : Led r P o T M lo Kp Kg := by
  refine .inr ⟨out, [], [], _, hk, (fun id hid => by cases hid), fun E fp a w hrd hents hfr => ?_⟩
  obtain ⟨arr, v, h1, h2, h3⟩ := h E a w hrd
  refine OpRun.value hd h1 ?_
  have hlo := hfr lo (Nat.le_refl _) (by omega)
  let s : Slot := ⟨w.heap.size, none, 0, 0⟩
  have hkeep : Keep (fun _ => False) w (wnew w (.cells arr t)) := wnew_keep _ _ _ _
  have hst : Stays E w (wnew w (.cells arr t)) := fun k hk hlt => wnew_same w _ hlt
  have hcells := h2.mono (Env.le_with (s := s) hlo) hst
  obtain ⟨g1, g2⟩ := hents.fresh (w' := wnew w (.cells arr t)) (s := s) (e := .cells t cs) hlo rfl hkeep (by simp [wnew])
    ⟨s, arr, (0, 0), Env.with_self _ _ _, fun b => Iff.rfl, wnew_new w _, .inl rfl, by simpa using hcells.1, fun j sv hj => by
      obtain ⟨u, hu, hs⟩ := hcells.2 j sv hj
      exact ⟨u, by simpa using hu, hs⟩⟩
  refine ⟨E.with lo s, _, h3 _ s (Env.with_self _ _ _) rfl, ?_, g2, fun id => ?_⟩
  · simpa [upd, gones, sub] using g1
  · by_cases e : id = lo
    · exact .inr (by omega)
    · exact .inl (Env.with_other e)

theorem led_alloc {t : TypeId} (hop : o.op = .alloc t) (h : match zeroOf P t with | some zs => Kg (.ptr lo 0) [] [] [(lo, .cells t (listV zs))] | none => False) : Led r P o T M lo Kp Kg := by
  cases hz : zeroOf P t with
  | none => rw [hz] at h; exact h.elim
  | some zs =>
    rw [hz] at h
    refine led_new h (fun c => by simp [hop]) (fun E a w _ => ?_)
    obtain ⟨v, h1, h2⟩ := run_zeroValue hz w
    refine ⟨v.cells, .pointer (some ⟨w.heap.size, 0, none⟩), ?_, by rw [h2]; exact listV_are zs, fun E' s hs hb => ?_⟩
    · simp only [execOp, hop]
      refine ok_value ?_
      unfold Instr.alloc
      rw [run_then h1]
      dsimp only
      rw [run_then (show (newVar t v).run P w = .ok ⟨w.heap.size, 0, none⟩ _ from run_newRow t v.cells w)]
      rfl
    · rw [← hb]; exact .ptr lo 0 s hs

theorem led_box {t : TypeId} {x : Operand} (hop : o.op = .box t x) (h : match svCells (ev T x) with | some cs => Kg (.ptr lo 0) [] [] [(lo, .cells t cs)] | none => False) : Led r P o T M lo Kp Kg := by
  have hops : opsOf o = opTmps [x] := by simp [opsOf, hop, Op.operands]
  cases hc : svCells (ev T x) with
  | none => rw [hc] at h; exact h.elim
  | some cs =>
    rw [hc] at h
    refine led_new h (fun c => by simp [hop]) (fun E a w hrd => ?_)
    rw [hops] at hrd
    obtain ⟨hcs, _⟩ := svCells_sat hc (ev_sat (E := E) (w := w) hrd (List.mem_singleton.2 rfl))
    refine ⟨(a.eval x).cells, .pointer (some ⟨w.heap.size, 0, none⟩), ?_, hcs, fun E' s hs hb => ?_⟩
    · simp only [execOp, hop]
      refine ok_value ?_
      unfold Instr.box
      rw [run_then (show (newVar t (a.eval x)).run P w = .ok ⟨w.heap.size, 0, none⟩ _ from run_newRow t (a.eval x).cells w)]
      rfl
    · rw [← hb]; exact .ptr lo 0 s hs

theorem placeOf_struct {t : TypeId} {fs : Array Field} (hu : P.underlying t = some (.struct fs)) (hall : ∀ f : Field, f ∈ fs → ∃ n, szOf P f.type = some n) (w : World) :
    ∃ places, (fs.mapM (fun (f : Field) => do pure (f.offset, ← sizeOf f.type)) : Sem (Array (Nat × Nat))).run P w = .ok places w ∧ ∀ i, places[i]? = placeOf P t i := by
  have key : ∀ (l : List Field), (∀ f : Field, f ∈ l → ∃ n, szOf P f.type = some n) → ∃ ps, (l.mapM (fun (f : Field) => do pure (f.offset, ← sizeOf f.type)) : Sem (List (Nat × Nat))).run P w = .ok ps w ∧
      ∀ (i : Nat), ps[i]? = match l[i]? with | some (f : Field) => (match szOf P f.type with | some n => some (f.offset, n) | none => none) | none => none := by
    intro l
    induction l with
    | nil => intro _; exact ⟨[], rfl, fun i => by simp⟩
    | cons f l ih =>
      intro hl
      obtain ⟨n, hn⟩ := hl f (List.mem_cons_self ..)
      obtain ⟨ps, h1, h2⟩ := ih (fun g hg => hl g (List.mem_cons_of_mem _ hg))
      refine ⟨(f.offset, n) :: ps, ?_, fun i => ?_⟩
      · rw [List.mapM_cons]
        rw [run_then (show (do pure (f.offset, ← sizeOf f.type) : Sem (Nat × Nat)).run P w = .ok (f.offset, n) w from by rw [run_then (run_sizeOf hn w)]; rfl)]
        rw [run_then h1]; rfl
      · cases i with
        | zero => simp [hn]
        | succ i => simp [h2 i]
  obtain ⟨ps, h1, h2⟩ := key fs.toList (fun f hf => hall f (by simpa using hf))
  refine ⟨ps.toArray, ?_, fun i => ?_⟩
  · rw [← Array.toArray_toList (xs := fs), List.mapM_toArray]
    rw [Sem.run_map, h1]; rfl
  · have := h2 i
    simp only [placeOf, hu]
    rw [List.getElem?_toArray, this]
    cases fs.toList[i]? with
    | none => rfl
    | some f => cases szOf P f.type <;> rfl

theorem szsOk_spec : ∀ (l : List Field), szsOk P l = true → ∀ f : Field, f ∈ l → ∃ n, szOf P f.type = some n
  | [], _, f, hf => by cases hf
  | g :: l, h, f, hf => by
    simp only [szsOk] at h
    cases hg : szOf P g.type with
    | none => rw [hg] at h; cases h
    | some n =>
      rw [hg] at h
      rcases List.mem_cons.1 hf with rfl | hf'
      · exact ⟨n, hg⟩
      · exact szsOk_spec l h f hf'

theorem fill_congr {p p' : Nat → Option (Nat × Nat)} (hp : ∀ i, p i = p' i) (cells : Array Value) (l : List (Nat × Value)) : Instr.fill p cells l = Instr.fill p' cells l := by
  rw [show p = p' from funext hp]

theorem setAll_le {cs cs' ys : List SV} {o : Nat} (h : setAll cs o ys = some cs') (hne : ys ≠ []) : o ≤ cs.length := by
  rcases (setAll_spec ys cs o cs' h).1 with rfl | h1
  · exact absurd rfl hne
  · omega

theorem led_build {t : TypeId} {parts : Array (Nat × Operand)} (hop : o.op = .build t parts)
    (h : match (match partsOk P t with | true => zeroOf P t | false => none) with
      | some zs => match fillS (placeOf P t) (listV zs) (partsEv T parts.toList) with
        | some cs => Kp (.agg cs) []
        | none => False
      | none => False) : Led r P o T M lo Kp Kg := by
  cases hok : partsOk P t with
  | false => rw [hok] at h; exact h.elim
  | true =>
    rw [hok] at h
    dsimp only at h
    cases hz : zeroOf P t with
    | none => rw [hz] at h; exact h.elim
    | some zs =>
      rw [hz] at h
      dsimp only at h
      cases hf : fillS (placeOf P t) (listV zs) (partsEv T parts.toList) with
      | none => rw [hf] at h; exact h.elim
      | some cs =>
        rw [hf] at h
        refine led_p h (fun c => by simp [hop]) (fun E fp a w hrd _ => ?_)
        have hrd' : ∀ t, t ∈ opTmps (parts.toList.map (·.2)) → Sat E w (look T t) (a.tmps.getD t undef) := by
          simpa [opsOf, hop, Op.operands] using hrd
        obtain ⟨z, hz1, hz2⟩ := run_zeroValue hz w
        -- where each part goes, and that it is within
        have hplace : ∀ i off n, placeOf P t i = some (off, n) → True := fun _ _ _ _ => trivial
        have hfill : ∀ place : Nat → Option (Nat × Nat), (∀ i, place i = placeOf P t i) →
            ∃ cells', Instr.fill place z.cells (parts.map fun (i, x) => (i, a.eval x)).toList = some cells' ∧ CellsAre E w cs cells'.toList := by
          intro place hpl
          rw [fill_congr hpl]
          exact fill_any (partsEv T parts.toList) _ (listV zs) cs z.cells hf (by rw [hz2]; exact listV_are zs) (by simp [partsEv_length]) (fun k i s hk => by
            rw [partsEv_get] at hk
            cases hp : parts.toList[k]? with
            | none => rw [hp] at hk; cases hk
            | some p =>
              obtain ⟨i', x⟩ := p
              rw [hp] at hk
              obtain ⟨rfl, rfl⟩ : i' = i ∧ ev T x = s := by simpa using hk
              refine ⟨a.eval x, ?_, ev_sat hrd' (List.mem_map.2 ⟨(i', x), List.mem_of_getElem? hp, rfl⟩)⟩
              simp only [Array.toList_map, List.getElem?_map, hp]
              rfl)
        cases hu : P.underlying t with
        | none => simp [partsOk, hu] at hok
        | some d =>
          cases d with
          | struct fs =>
            have hall : ∀ f : Field, f ∈ fs → ∃ n, szOf P f.type = some n := fun f hf' => szsOk_spec fs.toList (by simpa [partsOk, hu] using hok) f (by simpa using hf')
            obtain ⟨places, p1, p2⟩ := placeOf_struct hu hall w
            obtain ⟨cells', c1, c2⟩ := hfill (places[·]?) p2
            refine ⟨.agg cells', ?_, .agg cs cells' (fun j => cells'.getD j undef) (by simpa using c2.1) (fun j hj => ?_) (fun j sv hj => ?_)⟩
            · simp only [execOp, hop]
              refine ok_value ?_
              unfold Instr.build
              rw [run_then hz1]
              rw [run_then (run_underlying' hu w)]
              dsimp only
              rw [run_then p1]
              rw [c1]; rfl
            · have : j < cells'.size := by have := c2.1; simp at this; omega
              simp [this]
            · obtain ⟨u, hu', hs⟩ := c2.2 j sv hj
              have : cells'.getD j undef = u := by
                have : cells'[j]? = some u := by simpa using hu'
                simp [this]
              rw [this]; exact hs
          | array len e =>
            cases hse : szOf P e with
            | none => simp [partsOk, hu, hse] at hok
            | some n =>
              obtain ⟨cells', c1, c2⟩ := hfill (fun i => some (i * n, n)) (fun i => by simp [placeOf, hu, hse])
              refine ⟨.agg cells', ?_, .agg cs cells' (fun j => cells'.getD j undef) (by simpa using c2.1) (fun j hj => ?_) (fun j sv hj => ?_)⟩
              · simp only [execOp, hop]
                refine ok_value ?_
                unfold Instr.build
                rw [run_then hz1]
                rw [run_then (run_underlying' hu w)]
                dsimp only
                rw [run_then (run_sizeOf hse w)]
                rw [c1]; rfl
              · have : j < cells'.size := by have := c2.1; simp at this; omega
                simp [this]
              · obtain ⟨u, hu', hs⟩ := c2.2 j sv hj
                have : cells'.getD j undef = u := by
                  have : cells'[j]? = some u := by simpa using hu'
                  simp [this]
                rw [this]; exact hs
          | _ => simp [partsOk, hu] at hok

theorem repS_get {E : Env} {w : World} (zs : List Value) (n : Nat) (hn : zs.length = n) : ∀ (len : Nat), CellsAre E w (repS len (listV zs)) ((List.range (len * n)).map fun m => zs.getD (m % n) undef) := by
  intro len
  induction len with
  | zero => exact ⟨by simp [repS], fun j s hj => by simp [repS] at hj⟩
  | succ len ih =>
    obtain ⟨ih1, ih2⟩ := ih
    have hlz : (listV zs).length = n := by rw [listV_eq]; simpa using hn
    simp only [List.length_map, List.length_range] at ih1
    refine ⟨by simp only [repS, List.length_map, List.length_range, List.length_append, hlz, ← ih1, Nat.add_mul]; omega, fun j s hj => ?_⟩
    simp only [repS] at hj
    rcases Nat.lt_or_ge j n with hlt | hge
    · rw [List.getElem?_append_left (by omega), listV_eq] at hj
      obtain ⟨x, h1, rfl⟩ := list_sat_v (E := E) (w := w) hj
      have hjl : j < (len + 1) * n := by rw [Nat.add_mul]; omega
      refine ⟨x, ?_, .v x⟩
      simp only [List.getElem?_map, List.getElem?_range hjl, Option.map_some, Nat.mod_eq_of_lt hlt]
      simp [h1]
    · rw [List.getElem?_append_right (by omega), hlz] at hj
      obtain ⟨u, hu, hs⟩ := ih2 _ _ hj
      refine ⟨u, ?_, hs⟩
      have hlt : j - n < len * n := by
        have := (List.getElem?_eq_some_iff.1 hu).1; simpa using this
      have hjl : j < (len + 1) * n := by rw [Nat.add_mul]; omega
      simp only [List.getElem?_map, List.getElem?_range hlt, List.getElem?_range hjl, Option.map_some] at hu ⊢
      have : j % n = (j - n) % n := by rw [Nat.mod_eq_sub_mod hge]
      rw [this]; exact hu

theorem led_buildSlice {t : TypeId} {len : Nat} {parts : Array (Nat × Operand)} (hop : o.op = .buildSlice t len parts)
    (h : match P.underlying t with
      | some (.slice e) => match szOf P e, zeroOf P e with
        | some n, some zs => match Nat.beq zs.length n && Nat.blt 0 n && Nat.ble (len * n) 16777216 with
          | true => match fillS (fun i => some (i * n, n)) (repS len (listV zs)) (partsEv T parts.toList) with
            | some cs => Kg (.slc lo 0 len len) [] [] [(lo, .cells e cs)]
            | none => False
          | false => False
        | _, _ => False
      | _ => False) : Led r P o T M lo Kp Kg := by
  split at h
  · rename_i e hu
    split at h
    · rename_i n zs hn hz
      split at h
      · rename_i hb
        simp only [Bool.and_eq_true] at hb
        have hzl := Nat.eq_of_beq_eq_true hb.1.1
        have hpos : 0 < n := by have := hb.1.2; simp [Nat.blt] at this; omega
        have hle := Nat.le_of_ble_eq_true hb.2
        split at h
        · rename_i cs hf
          refine led_new h (fun c => by simp [hop]) (fun E a w hrd => ?_)
          have hrd' : ∀ t, t ∈ opTmps (parts.toList.map (·.2)) → Sat E w (look T t) (a.tmps.getD t undef) := by
            simpa [opsOf, hop, Op.operands] using hrd
          obtain ⟨z, hz1, hz2⟩ := run_zeroValue hz w
          have hzs : z.cells.size = n := by rw [← Array.length_toList, hz2]; exact hzl
          let z0 : Array Value := if len * n = 0 then #[] else z.cells
          have hz0 : ∀ m, m < len * n → z0[m % z0.size]! = zs.getD (m % n) undef := fun m hm => by
            have h0 : ¬ len * n = 0 := by omega
            have hlt : m % n < z.cells.size := by rw [hzs]; exact Nat.mod_lt _ hpos
            simp only [z0, if_neg h0, hzs]
            rw [← hz2]
            simp [hlt]
          have hbase : CellsAre E w (repS len (listV zs)) ((Array.range (len * n)).map fun m => z0[m % z0.size]!).toList := by
            have h1 := repS_get (E := E) (w := w) zs n hzl len
            have h2 : ((Array.range (len * n)).map fun m => z0[m % z0.size]!).toList = (List.range (len * n)).map fun m => zs.getD (m % n) undef := by
              rw [Array.toList_map, Array.toList_range]
              exact List.map_congr_left fun m hm => hz0 m (List.mem_range.1 hm)
            rw [h2]; exact h1
          obtain ⟨cells', c1, c2⟩ := fill_any (place := fun i => some (i * n, n)) (partsEv T parts.toList) (parts.map fun (i, x) => (i, a.eval x)).toList _ cs _ hf hbase (by simp [partsEv_length]) (fun k i s hk => by
            rw [partsEv_get] at hk
            cases hp : parts.toList[k]? with
            | none => rw [hp] at hk; cases hk
            | some p =>
              obtain ⟨i', x⟩ := p
              rw [hp] at hk
              obtain ⟨rfl, rfl⟩ : i' = i ∧ ev T x = s := by simpa using hk
              refine ⟨a.eval x, ?_, ev_sat hrd' (List.mem_map.2 ⟨(i', x), List.mem_of_getElem? hp, rfl⟩)⟩
              simp only [Array.toList_map, List.getElem?_map, hp]
              rfl)
          refine ⟨cells', .slice (some ⟨w.heap.size, 0, none⟩) len len, ?_, c2, fun E' s hs hbk => ?_⟩
          · simp only [execOp, hop]
            refine ok_value ?_
            unfold Instr.buildSlice
            rw [run_then (run_underlying' hu w)]
            dsimp only
            rw [run_then (run_sizeOf hn w)]
            rw [if_neg (by omega)]
            by_cases h0 : len * n = 0
            · have e0 : z0 = #[] := if_pos h0
              rw [e0] at c1
              rw [if_pos h0]
              rw [run_then (show (pure #[] : Sem (Array Value)).run P w = .ok #[] w from rfl)]
              rw [c1]
              dsimp only
              rw [run_then (run_newRow e cells' w)]
              rfl
            · have e0 : z0 = z.cells := if_neg h0
              rw [e0] at c1
              rw [if_neg h0]
              rw [run_then hz1]
              rw [run_then (show (pure z.cells : Sem (Array Value)).run P w = .ok z.cells w from rfl)]
              rw [c1]
              dsimp only
              rw [run_then (run_newRow e cells' w)]
              rfl
          · rw [← hbk]; exact .slc lo 0 len len s hs
        · exact h.elim
      · exact h.elim
    · exact h.elim
  · exact h.elim

theorem wf_block {E : Env} {w : World} {fp : Nat → Nat → Prop} {M : En} {S : List Nat} {i : Nat} (h : EntsSat E w fp (sub M S)) (hi : i ∈ S) : EntSat E w (fp i) i (find M i) := by
  have := h.sat i
  rwa [find_sub_in hi] at this

theorem cell_of {w : World} {k o : Nat} {arr : Array Value} {t : TypeId} {fz : Nat × Nat} {u : Value} (h : w.heap[k]? = some (.cells arr t fz)) (hu : arr[o]? = some u) : w.cell? ⟨k, o, none⟩ = some u := by
  simp [World.cell?, h, hu]

theorem loadAt_ptr {t : TypeId} {k o : Nat} {v : Value} {w : World} (h : (loadVar t ⟨k, o, none⟩).run P w = .ok v w) : (Instr.loadAt t (.pointer (some ⟨k, o, none⟩))).run P w = .ok v w := by
  unfold Instr.loadAt
  rw [run_then (show (Instr.sureAddr (.pointer (some ⟨k, o, none⟩))).run P w = .ok ⟨k, o, none⟩ w from rfl)]
  exact h

theorem led_load {t : TypeId} {x : Operand} (hop : o.op = .load t x) (h : match ev T x with
    | .ptr i off => match find M i with
      | .cells _ cs => partV P t cs off fun s => Kp s [i]
      | _ => False
    | .rop _ cs off => partV P t cs off fun s => Kp s []
    | .elp i sz ix off => match find M i with
      | .row _ ty xs => match Nat.beq sz ty.size with
        | true => Ask (0 ≤ ix ∧ ix.toNat < xs.length) (All' (fun e => xs[ix.toNat]? = some e) fun e => partV P t (enc ty e) off fun s => Kp s [i])
        | false => False
      | _ => False
    | _ => False) : Led r P o T M lo Kp Kg := by
  have hops : opsOf o = opTmps [x] := by simp [opsOf, hop, Op.operands]
  have hd : ∀ c, o.op ≠ .defer c := fun c => by simp [hop]
  have hexec : ∀ (a : Act) (w : World) (k off : Nat) (v : Value), a.eval x = .pointer (some ⟨k, off, none⟩) → (loadVar t ⟨k, off, none⟩).run P w = .ok v w → (execOp a.eval o).run P w = .ok (.value v) w := fun a w k off v h1 h2 => by
    simp only [execOp, hop, h1]
    exact ok_value (loadAt_ptr h2)
  split at h
  · rename_i i off he
    split at h
    · rename_i t' cs hf
      obtain ⟨out, hk, hl⟩ := partV_load h
      refine led_p hk hd (fun E fp a w hrd hents => ?_)
      rw [hops] at hrd
      have hx := ev_sat (E := E) (w := w) hrd (List.mem_singleton.2 rfl)
      rw [he] at hx
      have hent := wf_block hents (List.mem_singleton.2 rfl)
      rw [hf] at hent
      obtain ⟨s', arr, fz, e1, e2, e3, e4, e5, e6⟩ := hent
      generalize hxe : a.eval x = xv at hx
      cases hx with
      | ptr _ _ s hs =>
        obtain rfl := Option.some.inj (hs.symm.trans e1)
        obtain ⟨v, h1, h2⟩ := hl E w s.blk 0 (fun j sv hj => by
          obtain ⟨u, hu, hsat⟩ := e6 j sv hj
          exact ⟨u, cell_of e3 (by simpa using hu), hsat⟩)
        rw [Nat.zero_add] at h1
        exact ⟨v, hexec a w _ _ v hxe h1, h2⟩
    · exact h.elim
  · rename_i b cs off he
    obtain ⟨out, hk, hl⟩ := partV_load h
    refine led_p hk hd (fun E fp a w hrd hents => ?_)
    rw [hops] at hrd
    have hx := ev_sat (E := E) (w := w) hrd (List.mem_singleton.2 rfl)
    rw [he] at hx
    generalize hxe : a.eval x = xv at hx
    cases hx with
    | rop _ _ _ k o u hb hc hs =>
      obtain ⟨v, h1, h2⟩ := hl E w k o (fun j sv hj => by
        have hlt := (List.getElem?_eq_some_iff.1 hj).1
        exact ⟨u j, hc j hlt, hs j sv hj⟩)
      exact ⟨v, hexec a w _ _ v hxe h1, h2⟩
  · rename_i i sz ix off he
    split at h
    · rename_i te ty xs hf
      split at h
      · rename_i hb
        have hsz := Nat.eq_of_beq_eq_true hb
        obtain ⟨⟨h0, hlt⟩, h⟩ := h
        have h := h.h xs[ix.toNat] (by simp [hlt])
        obtain ⟨out, hk, hl⟩ := partV_load h
        refine led_p hk hd (fun E fp a w hrd hents => ?_)
        rw [hops] at hrd
        have hx := ev_sat (E := E) (w := w) hrd (List.mem_singleton.2 rfl)
        rw [he] at hx
        have hent := wf_block hents (List.mem_singleton.2 rfl)
        rw [hf] at hent
        obtain ⟨s', e1, e2⟩ := hent
        generalize hxe : a.eval x = xv at hx
        cases hx with
        | elp _ _ _ _ s hs o1 n1 c1 hv =>
          obtain rfl := Option.some.inj (hs.symm.trans e1)
          rcases e2 with ⟨g1, g2, _⟩ | ⟨o2, c2, arr, fz, g1, g2, g3, g4, g5, g6, g7⟩
          · subst g2; simp at hlt
          · rw [g1] at hv
            obtain ⟨rfl, rfl, rfl⟩ : o2 = o1 ∧ xs.length = n1 ∧ c2 = c1 := by simpa using hv
            obtain ⟨v, h1, h2⟩ := hl E w s.blk (o2 + ix.toNat * sz) (fun j sv hj => by
              obtain ⟨u, hu, hsat⟩ := g7 ix.toNat xs[ix.toNat] j sv (by simp [hlt]) hj
              exact ⟨u, cell_of g3 (by rw [hsz]; exact hu), hsat⟩)
            exact ⟨v, hexec a w _ _ v hxe h1, h2⟩
      · exact h.elim
    · exact h.elim
  · exact h.elim

theorem storeAt_ptr {t : TypeId} {k o : Nat} {v : Value} {w w' : World} (h : (storeVar t ⟨k, o, none⟩ v).run P w = .ok () w') : (Instr.storeAt t (.pointer (some ⟨k, o, none⟩)) v).run P w = .ok () w' := by
  unfold Instr.storeAt
  rw [run_then (show (Instr.sureAddr (.pointer (some ⟨k, o, none⟩))).run P w = .ok ⟨k, o, none⟩ w from rfl)]
  exact h

/-- One's own block is written: its entry is anew. -/
theorem EntsSat.write {E : Env} {w w' : World} {fp : Nat → Nat → Prop} {M : En} {i : Nat} {s : Slot} {e : Ent} (h : EntsSat E w fp (sub M [i])) (hfp : ∀ b, fp i b ↔ b = s.blk)
    (hk : Keep (fun b => b = s.blk) w w') (he : EntSat E w' (fp i) i e) : EntsSat E w' fp (upd [(i, e)] [i] (sub M [i])) ∧ Adv E fp w E fp w' := by
  have hown : ∀ b, b = s.blk → own fp b := fun b hb => ⟨i, (hfp b).2 hb⟩
  have hkeep : Keep (own fp) w w' := hk.mono hown
  refine ⟨⟨fun id => ?_, fun id b hb => Nat.lt_of_lt_of_le (h.lt id b hb) hk.size, h.I, h.B, h.apart, fun b hb => Nat.lt_of_lt_of_le (h.Ilt b hb) hk.size, h.nil, h.glob (h.stays hkeep) (fun _ h => h)⟩, ⟨hkeep, .refl _, fun b hb => .inl hb, fun b hb => hb, fun id b hb => .inl ⟨id, hb⟩⟩⟩
  rw [find_upd]
  by_cases e1 : id = i
  · subst e1
    rw [if_pos (by simp [keys])]
    simpa [find] using he
  · rw [if_neg (by simp [keys, e1]), if_neg (by simp [e1]), find_sub, if_neg (by simp [e1])]
    have := h.sat id
    rw [find_sub, if_neg (by simp [e1])] at this
    exact this

theorem run_storeVar {t : TypeId} {n : Nat} (hn : szOf P t = some n) {k o : Nat} {v : Value} {w : World} {arr : Array Value} {te : TypeId} {fz : Nat × Nat} (hb : w.heap[k]? = some (.cells arr te fz)) (hu : unfrozen fz arr.size)
    (hsz : v.cells.size = n) (hle : o + n ≤ arr.size) (hp : ∀ u, u ∈ v.cells.toList → plainV u) :
    ∃ w', (storeVar t ⟨k, o, none⟩ v).run P w = .ok () w' ∧ w'.heap[k]? = some (.cells (putAll arr o v.cells.toList) te fz) ∧ Keep (fun b => b = k) w w' := by
  obtain ⟨w', h1, h2, h3⟩ := run_storeCells (P := P) (o := o) v.cells.toList 0 w arr hb (by simp; omega) hu hp
  refine ⟨w', ?_, by simpa using h2, h3⟩
  unfold storeVar
  rw [run_then (run_sizeOf hn w)]
  rw [if_neg (by omega)]
  exact h1

theorem led_store {t : TypeId} {x y : Operand} (hop : o.op = .store t x y) (h : match ev T x with
    | .ptr i off => match svCells (ev T y) with
      | some vs => match szOf P t with
        | some n => match Nat.beq n vs.length with
          | true => match find M i with
            | .cells t' cs => match setAll cs off vs with
              | some cs' => Kg (.v undef) [i] [i] [(i, .cells t' cs')]
              | none => False
            | _ => False
          | false => False
        | none => False
      | none => False
    | .elp i sz ix off => match svCells (ev T y) with
      | some vs => match szOf P t with
        | some n => match Nat.beq n vs.length && Nat.ble (off + n) sz && Nat.blt 0 n with
          | true => match find M i with
            | .row te ty xs => match Nat.beq sz ty.size with
              | true => Ask (0 ≤ ix ∧ ix.toNat < xs.length) (All' (fun e => xs[ix.toNat]? = some e) fun e => Some' fun e' =>
                  Eqn (setAll (enc ty e) off vs) (some (enc ty e')) (Kg (.v undef) [i] [i] [(i, .row te ty (xs.set ix.toNat e'))]))
              | false => False
            | _ => False
          | false => False
        | none => False
      | none => False
    | _ => False) : Led r P o T M lo Kp Kg := by
  have hops : opsOf o = opTmps [x, y] := by simp [opsOf, hop, Op.operands]
  have hd : ∀ c, o.op ≠ .defer c := fun c => by simp [hop]
  have hexec : ∀ (a : Act) (w w' : World) (k off : Nat), a.eval x = .pointer (some ⟨k, off, none⟩) → (storeVar t ⟨k, off, none⟩ (a.eval y)).run P w = .ok () w' → (execOp a.eval o).run P w = .ok .skip w' := fun a w w' k off h1 h2 => by
    simp only [execOp, hop, h1]
    exact ok_skip (storeAt_ptr h2)
  split at h
  · rename_i i off he
    split at h
    · rename_i vs hvs
      split at h
      · rename_i n hn
        split at h
        · rename_i hb
          have hnl := Nat.eq_of_beq_eq_true hb
          split at h
          · rename_i t' cs hf
            split at h
            · rename_i cs' hset
              refine .inr ⟨_, _, _, _, h, (fun id hid => hid), fun E fp a w hrd hents hfr => ?_⟩
              rw [hops] at hrd
              have hx := ev_sat (E := E) (w := w) hrd (x := x) (by simp)
              rw [he] at hx
              obtain ⟨hyc, hyp⟩ := svCells_sat hvs (ev_sat (E := E) (w := w) hrd (x := y) (by simp))
              have hent := wf_block hents (List.mem_singleton.2 rfl)
              rw [hf] at hent
              obtain ⟨s', arr, fz, e1, e2, e3, e4, e5, e6⟩ := hent
              generalize hxe : a.eval x = xv at hx
              cases hx with
              | ptr _ _ s hs =>
                obtain rfl := Option.some.inj (hs.symm.trans e1)
                have hysz : (a.eval y).cells.size = n := by have := hyc.1; simp at this; omega
                have hcs : CellsAre E w cs arr.toList := ⟨by simpa using e5, fun j sv hj => by obtain ⟨u, hu, hs⟩ := e6 j sv hj; exact ⟨u, by simpa using hu, hs⟩⟩
                rcases Nat.eq_zero_or_pos n with hz | hpos
                · -- nothing is stored
                  have hvn : vs = [] := List.length_eq_zero_iff.1 (by omega)
                  subst hvn
                  obtain rfl : cs = cs' := by simpa [setAll] using hset
                  have hyn : (a.eval y).cells.toList = [] := List.length_eq_zero_iff.1 (by rw [Array.length_toList]; omega)
                  refine OpRun.skip hd (hexec a w w _ _ hxe ?_) ⟨E, fp, .v undef, ?_, .refl _ _ _, fun id => .inl rfl⟩
                  · unfold storeVar
                    rw [run_then (run_sizeOf hn w), if_neg (by omega), hyn]; rfl
                  · have := (EntsSat.write (w' := w) hents (s := s) e2 (.refl _ _) (e := .cells t' cs) ⟨s, arr, fz, e1, e2, e3, e4, e5, e6⟩).1
                    exact this
                · have hb1 := (setAll_spec vs cs off cs' hset).1
                  have hle : off + n ≤ arr.size := by
                    rcases hb1 with rfl | hb1
                    · simp at hnl; omega
                    · omega
                  obtain ⟨w', h1, h2, h3⟩ := run_storeVar (P := P) hn (v := a.eval y) e3 e4 hysz hle hyp
                  have hput := cells_put hset hcs hyc (.inr (by omega))
                  have hstay : Stays E w w' := fun k hk hlt => h3.same k hlt (fun ek => by
                    subst ek
                    rcases hk with hk | hk
                    · exact hents.I i _ ((e2 _).2 rfl) hk
                    · exact hents.B i _ ((e2 _).2 rfl) hk)
                  have hput' := hput.mono (.refl E) hstay
                  obtain ⟨g1, g2⟩ := EntsSat.write (w' := w') hents (s := s) e2 h3 (e := .cells t' cs')
                    ⟨s, _, fz, e1, e2, h2, by rw [putAll_size]; exact e4, by simpa using hput'.1, fun j sv hj => by
                      obtain ⟨u, hu, hs⟩ := hput'.2 j sv hj
                      exact ⟨u, by simpa using hu, hs⟩⟩
                  exact OpRun.skip hd (hexec a w w' _ _ hxe h1) ⟨E, fp, .v undef, g1, g2, fun id => .inl rfl⟩
            · exact h.elim
          · exact h.elim
        · exact h.elim
      · exact h.elim
    · exact h.elim
  · rename_i i sz ix off he
    split at h
    · rename_i vs hvs
      split at h
      · rename_i n hn
        split at h
        · rename_i hb
          simp only [Bool.and_eq_true] at hb
          have hnl := Nat.eq_of_beq_eq_true hb.1.1
          have hon := Nat.le_of_ble_eq_true hb.1.2
          have hpos : 0 < n := by have := hb.2; simp [Nat.blt] at this; omega
          split at h
          · rename_i te ty xs hf
            split at h
            · rename_i hb2
              have hsz := Nat.eq_of_beq_eq_true hb2
              obtain ⟨⟨h0, hlt⟩, h⟩ := h
              obtain ⟨e', h⟩ := h.h xs[ix.toNat] (by simp [hlt])
              obtain ⟨hset, h⟩ := h
              refine .inr ⟨_, _, _, _, h, (fun id hid => hid), fun E fp a w hrd hents hfr => ?_⟩
              rw [hops] at hrd
              have hx := ev_sat (E := E) (w := w) hrd (x := x) (by simp)
              rw [he] at hx
              obtain ⟨hyc, hyp⟩ := svCells_sat hvs (ev_sat (E := E) (w := w) hrd (x := y) (by simp))
              have hent := wf_block hents (List.mem_singleton.2 rfl)
              rw [hf] at hent
              obtain ⟨s', e1, e2⟩ := hent
              generalize hxe : a.eval x = xv at hx
              cases hx with
              | elp _ _ _ _ s hs o1 n1 c1 hv =>
                obtain rfl := Option.some.inj (hs.symm.trans e1)
                rcases e2 with ⟨g1, g2, _⟩ | ⟨o2, c2, arr, fz, g1, g2, g3, g4, g5, g6, g7⟩
                · subst g2; simp at hlt
                · rw [g1] at hv
                  obtain ⟨rfl, rfl, rfl⟩ : o2 = o1 ∧ xs.length = n1 ∧ c2 = c1 := by simpa using hv
                  have hysz : (a.eval y).cells.size = n := by have := hyc.1; simp at this; omega
                  have hin : o2 + ix.toNat * sz + sz ≤ arr.size := by
                    have : (ix.toNat + 1) * sz ≤ c2 * sz := Nat.mul_le_mul_right _ (by omega)
                    rw [Nat.add_mul] at this
                    rw [hsz] at this ⊢
                    omega
                  have hle : o2 + ix.toNat * sz + off + n ≤ arr.size := by omega
                  obtain ⟨w', h1, h2, h3⟩ := run_storeVar (P := P) hn (v := a.eval y) g3 g4 hysz hle hyp
                  have hstay : Stays E w w' := fun k hk hlt => h3.same k hlt (fun ek => by
                    subst ek
                    rcases hk with hk | hk
                    · exact hents.I i _ ((g2 _).2 rfl) hk
                    · exact hents.B i _ ((g2 _).2 rfl) hk)
                  obtain ⟨q1, q2, q3⟩ := setAll_spec vs _ off _ hset
                  have hel : (enc ty xs[ix.toNat]).length = sz := by rw [enc_length, hsz]
                  have hrow : EntSat E w' (fp i) i (.row te ty (xs.set ix.toNat e')) := by
                    refine ⟨s, e1, .inr ⟨o2, c2, _, fz, by simpa using g1, g2, h2, by rw [putAll_size]; exact g4, by simpa using g5, by rw [putAll_size]; exact g6, fun k x j sv hk hj => ?_⟩⟩
                    have hjt : j < sz := by
                      have := (List.getElem?_eq_some_iff.1 hj).1
                      rw [enc_length] at this; omega
                    have hkl : k < xs.length := by
                      have := (List.getElem?_eq_some_iff.1 hk).1; simpa using this
                    rw [putAll_get (by simp; omega)]
                    by_cases ek : k = ix.toNat
                    · subst ek
                      obtain rfl : e' = x := by simpa [hlt] using hk
                      rw [q3 j] at hj
                      by_cases hr : off ≤ j ∧ j < off + vs.length
                      · rw [if_pos hr] at hj
                        rw [if_pos (by rw [← hsz]; simp; omega)]
                        obtain ⟨u, hu, hs⟩ := hyc.2 _ _ hj
                        refine ⟨u, ?_, hs.mono (.refl E) hstay⟩
                        rw [← hsz, show o2 + ix.toNat * sz + j - (o2 + ix.toNat * sz + off) = j - off by omega]
                        exact hu
                      · rw [if_neg hr] at hj
                        rw [if_neg (by rw [← hsz]; simp; omega)]
                        obtain ⟨u, hu, hs⟩ := g7 ix.toNat xs[ix.toNat] j sv (by simp [hlt]) hj
                        exact ⟨u, hu, hs.mono (.refl E) hstay⟩
                    · rw [List.getElem?_set_ne (fun e => ek e.symm)] at hk
                      have hfar : ¬ (o2 + ix.toNat * sz + off ≤ o2 + k * ty.size + j ∧ o2 + k * ty.size + j < o2 + ix.toNat * sz + off + (a.eval y).cells.toList.length) := by
                        rw [← hsz]
                        simp only [Array.length_toList, hysz]
                        rcases Nat.lt_or_gt_of_ne ek with hlt2 | hgt2
                        · have : (k + 1) * sz ≤ ix.toNat * sz := Nat.mul_le_mul_right _ hlt2
                          rw [Nat.add_mul] at this
                          omega
                        · have : (ix.toNat + 1) * sz ≤ k * sz := Nat.mul_le_mul_right _ hgt2
                          rw [Nat.add_mul] at this
                          omega
                      rw [if_neg hfar]
                      obtain ⟨u, hu, hs⟩ := g7 k x j sv hk hj
                      exact ⟨u, hu, hs.mono (.refl E) hstay⟩
                  obtain ⟨r1, r2⟩ := EntsSat.write (w' := w') hents (s := s) g2 h3 hrow
                  exact OpRun.skip hd (hexec a w w' _ _ hxe h1) ⟨E, fp, .v undef, r1, r2, fun id => .inl rfl⟩
            · exact h.elim
          · exact h.elim
        · exact h.elim
      · exact h.elim
    · exact h.elim
  · exact h.elim

end
end Go.Eng
