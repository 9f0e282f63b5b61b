/- The engine, part Q: the statement that ranges over a function. -/
import Derived.Test.YteckpdifeoffjaaDoorEngR
set_option linter.unusedVariables false
namespace Go.Eng

/-- What lay apart comes back, partly under new names. -/
theorem EntsSat.bring {E2 Ea : Env} {w : World} {fp2 fpa : Nat → Nat → Prop} {M2 Ma : En} {i : Nat} {rg : List Nat} {K : En → Prop} (h2 : EntsSat E2 w fp2 M2) (ha : EntsSat Ea w fpa Ma)
    (hown : ∀ b, own fpa b → fp2 i b) (hIa : ∀ b, Ea.I b → E2.I b ∨ fp2 i b) (hBa : ∀ b, Ea.B b → E2.B b) (hsl : ∀ j, j ∈ rg → Ea.slot j = E2.slot j) (hfr : ∀ id, E2.slot id ≠ none → id < 2016)
    (h : renE true (extM (idM rg) 2016 (keys Ma)) Ma K) :
    ∃ eo, K eo ∧ (nodupB (keys eo) = true → nodupB (keys Ma) = true → ∃ E' fp', EntsSat E' w fp' (upd eo [i] M2) ∧ E2.le E' ∧ (∀ b, E'.I b → E2.I b ∨ Ea.I b) ∧ (∀ b, E'.B b → E2.B b) ∧
      (∀ id b, fp' id b → own fpa b ∨ ∃ j, j ≠ i ∧ fp2 j b) ∧ (∀ id, E'.slot id = E2.slot id ∨ (2016 ≤ id ∧ id < 2016 + (keys Ma).length))) := by
  obtain ⟨eo, hk, hlen, heo⟩ := renE_good _ h
  refine ⟨eo, hk, fun hnd hndm => ?_⟩
  have hnde := nodupB_spec hnd
  have hndo := nodupB_spec hndm
  let m := idM rg
  let mx := extM m 2016 (keys Ma)
  let E' : Env := { slot := (envB E2 Ea m mx).slot, I := fun b => E2.I b ∨ Ea.I b, B := E2.B }
  have hle : E2.le E' := ⟨fun id s hs => by simp only [E', envB, hs], fun b hb => .inl hb, fun b hb => hb⟩
  have hnew : ∀ j i, mlook m j = none → mlook mx j = some i → 2016 ≤ i ∧ i < 2016 + (keys Ma).length := fun j i h1 h2 => extM_new _ m 2016 j i h2 h1
  have hmap : ∀ j i, mlook mx j = some i → ∀ sl, Ea.slot j = some sl → E'.slot i = some sl := by
    intro j i hji sl hsl'
    cases hm : mlook m j with
    | some i' =>
      have := extM_old (keys Ma) m 2016 j i' hm
      obtain rfl : i' = i := Option.some.inj (this.symm.trans hji)
      obtain ⟨rfl, hjm⟩ := idM_some hm
      have h3 : E2.slot i' = some sl := (hsl _ hjm).symm.trans hsl'
      simp only [E', envB, h3]
    | none =>
      have hr := hnew j i hm hji
      have hfree : E2.slot i = none := Classical.byContradiction fun hne => by have := hfr i hne; omega
      have hex : ∃ j, mlook m j = none ∧ mlook mx j = some i := ⟨j, hm, hji⟩
      have hch := Classical.choose_spec hex
      have : Classical.choose hex = j := extM_inj _ m 2016 _ _ i hch.2 hji hch.1 hm
      simp only [E', envB, hfree]
      rw [dif_pos hex, this]; exact hsl'
  have hslots : ∀ id, E'.slot id = E2.slot id ∨ (2016 ≤ id ∧ id < 2016 + (keys Ma).length) := by
    intro id
    cases hs : E2.slot id with
    | some s => exact .inl (by simp only [E', envB, hs])
    | none =>
      by_cases hex : ∃ j, mlook m j = none ∧ mlook mx j = some id
      · obtain ⟨j, h1, h2⟩ := hex
        exact .inr (hnew j id h1 h2)
      · exact .inl (by simp only [E', envB, hs]; rw [dif_neg hex])
  have hnewent : ∀ id, id ∈ keys eo → ∃ j, (j ∈ keys Ma) ∧ mlook mx j = some id ∧ EntSat E' w (fpa j) id (find eo id) := by
    intro id hid
    have hmem := mem_of_find hid
    obtain ⟨k, hk, hget⟩ := List.mem_iff_getElem.1 hmem
    have hk' : eo[k]? = some (id, find eo id) := by rw [List.getElem?_eq_getElem hk, hget]
    obtain ⟨j, e, hje, hji, hsem2⟩ := heo k id _ hk'
    have hjm : (j, e) ∈ Ma := List.mem_of_getElem? hje
    have hsat := ha.sat j
    rw [find_mem hndo hjm] at hsat
    refine ⟨j, List.mem_map.2 ⟨_, hjm, rfl⟩, hji, hsem2 Ea _ w (fpa j) hmap (fun b hb => .inr hb) (fun _ b hb => hBa b hb) (fun F A hFA b hb => ?_) hsat⟩
    subst hFA
    exact ((hsat.1 b hb).1).imp .inr (hBa b)
  have huniq : ∀ j j' id, j ∈ keys Ma → j' ∈ keys Ma → mlook mx j = some id → mlook mx j' = some id → id ∈ keys eo → j = j' := by
    intro j j' id hj hj' h1 h2 _
    obtain ⟨k, hk, hget⟩ := List.mem_iff_getElem.1 (mem_of_find hj)
    obtain ⟨k', hk', hget'⟩ := List.mem_iff_getElem.1 (mem_of_find hj')
    have hke : k < eo.length := by omega
    have hke' : k' < eo.length := by omega
    obtain ⟨a, e1, b1, b2, _⟩ := heo k (eo[k]).1 (eo[k]).2 (by simp [hke])
    obtain ⟨a', e1', b1', b2', _⟩ := heo k' (eo[k']).1 (eo[k']).2 (by simp [hke'])
    have ea : a = j := by
      rw [List.getElem?_eq_getElem hk, hget] at b1
      exact (Prod.mk.inj (Option.some.inj b1)).1.symm
    have ea' : a' = j' := by
      rw [List.getElem?_eq_getElem hk', hget'] at b1'
      exact (Prod.mk.inj (Option.some.inj b1')).1.symm
    subst ea; subst ea'
    have i1 : (eo[k]).1 = id := Option.some.inj (b2.symm.trans h1)
    have i2 : (eo[k']).1 = id := Option.some.inj (b2'.symm.trans h2)
    have hkk : k = k' := by
      have n1 : (keys eo)[k]'(by simp [keys, hke]) = id := by simp [keys, i1]
      have n2 : (keys eo)[k']'(by simp [keys, hke']) = id := by simp [keys, i2]
      have hp := List.pairwise_iff_getElem.1 hnde
      rcases Nat.lt_trichotomy k k' with hlt | heq | hgt
      · exact absurd (n1.trans n2.symm) (hp k k' _ _ hlt)
      · exact heq
      · exact absurd (n2.trans n1.symm) (hp k' k _ _ hgt)
    subst hkk
    rw [hget] at hget'
    exact (Prod.mk.inj hget').1
  let fp' : Nat → Nat → Prop := fun id b => (id ∈ keys eo ∧ ∃ j, j ∈ keys Ma ∧ mlook mx j = some id ∧ fpa j b) ∨ (id ∉ keys eo ∧ id ≠ i ∧ fp2 id b)
  have hfpE : ∀ id j, id ∈ keys eo → j ∈ keys Ma → mlook mx j = some id → fp' id = fpa j := by
    intro id j hid hj hji
    funext b
    refine propext ⟨fun hb => ?_, fun hb => .inl ⟨hid, j, hj, hji, hb⟩⟩
    rcases hb with ⟨_, j', hj', hji', hb⟩ | ⟨hn, _⟩
    · rw [huniq j j' id hj hj' hji hji' hid]; exact hb
    · exact absurd hid hn
  have hfpO : ∀ id, id ∉ keys eo → id ≠ i → fp' id = fp2 id := by
    intro id h1 h3
    funext b
    exact propext ⟨fun hb => by rcases hb with ⟨h, _⟩ | ⟨_, _, h⟩; exact absurd h h1; exact h, fun hb => .inr ⟨h1, h3, hb⟩⟩
  refine ⟨E', fp', ⟨fun id => ?_, fun id b hb => ?_, fun id b hb hI => ?_, fun id b hb hB => ?_, fun p q b hne hb hb' => ?_, fun b hb => ?_, h2.nil.mono hle, h2.gl.mono hle.I (fun _ _ => rfl)⟩, hle, fun b hb => hb, fun b hb => hb, fun id b hb => ?_, hslots⟩
  · rw [find_upd]
    by_cases hk : id ∈ keys eo
    · rw [if_pos hk]
      obtain ⟨j, hj, hji, hs⟩ := hnewent id hk
      rw [hfpE id j hk hj hji]; exact hs
    · rw [if_neg hk]
      by_cases e : id = i
      · rw [if_pos (by simp [e])]
        rintro b (⟨h1, _⟩ | ⟨_, h3, _⟩)
        · exact hk h1
        · exact h3 e
      · rw [if_neg (by simp [e]), hfpO id hk e]
        exact (h2.sat id).mono hle (fun _ _ _ => rfl) (Nat.le_refl _) (fun _ _ => rfl)
  · rcases hb with ⟨_, j, _, _, hb⟩ | ⟨_, _, hb⟩
    · exact ha.lt j b hb
    · exact h2.lt id b hb
  · rcases hb with ⟨_, j, _, _, hb⟩ | ⟨_, hne, hb⟩
    · rcases hI with hI | hI
      · exact h2.I i b (hown b ⟨j, hb⟩) hI
      · exact ha.I j b hb hI
    · rcases hI with hI | hI
      · exact h2.I id b hb hI
      · rcases hIa b hI with h3 | h3
        · exact h2.I id b hb h3
        · exact h2.apart id i b hne hb h3
  · rcases hb with ⟨_, j, _, _, hb⟩ | ⟨_, _, hb⟩
    · exact h2.B i b (hown b ⟨j, hb⟩) hB
    · exact h2.B id b hb hB
  · rcases hb with ⟨k1, j, hj, hji, hb⟩ | ⟨k1, n1, hb⟩ <;> rcases hb' with ⟨k2, j', hj', hji', hb'⟩ | ⟨k2, n2, hb'⟩
    · by_cases e : j = j'
      · subst e; exact hne (Option.some.inj (hji.symm.trans hji'))
      · exact ha.apart j j' b e hb hb'
    · exact h2.apart q i b n2 hb' (hown b ⟨j, hb⟩)
    · exact h2.apart p i b n1 hb (hown b ⟨j', hb'⟩)
    · exact h2.apart p q b hne hb hb'
  · rcases hb with (hb | hb) | hb
    · exact h2.Ilt b (.inl hb)
    · exact ha.Ilt b (.inl hb)
    · exact h2.Ilt b (.inr hb)
  · rcases hb with ⟨_, j, _, _, hb⟩ | ⟨_, hne, hb⟩
    · exact .inl ⟨j, hb⟩
    · exact .inr ⟨id, hne, hb⟩

/-- The record is laid; at an outermost loop a mark with it. -/
theorem enter_ok {P : Program} {r : Option Nat} {df : List (Nat × Obj)} {w : World} (hr : ∀ l, r = some l → ∃ rec, (l, Obj.loop rec) ∈ df) (hd : ∀ b o, (b, o) ∈ df → w.heap[b]? = some o) (fn : FuncId) (tmps : Array Value) (ps : Array Tmp) (ca cb : Code) :
    ∃ (l : Nat) (ds : List Nat) (w1 : World) (d : Nat), (Instr.enterLoop fn tmps ps ca cb (fence r).round).run P w = .ok (l, ds.map markOf) w1 ∧ w.heap.size ≤ l ∧
      w1.heap[l]? = some (.loop { state := .ready, pending := none, fn := fn, tmps := tmps, params := ps, assign := ca, body := cb, defers := d }) ∧ w.heap.size ≤ w1.heap.size ∧ (∀ b, b < w.heap.size → w1.heap[b]? = w.heap[b]?) ∧
      w1.os = w.os ∧ TF w w1 ∧ w1.output = w.output ∧ ds.Nodup ∧ ∀ b, b ∈ ds → w.heap.size ≤ b ∧ b ≠ l ∧ w1.heap[b]? = some (.deferred (some [])) := by
  cases r with
  | none =>
    refine ⟨_, [w.heap.size], _, w.heap.size, run_enterLoop_outer fn tmps ps ca cb, by omega, ?_, ?_, fun b hb => ?_, rfl, ⟨rfl⟩, rfl, by simp, fun b hb => ?_⟩
    · have := World.alloc_heap_new (w.alloc (.deferred (some []))) (.loop { state := .ready, pending := none, fn := fn, tmps := tmps, params := ps, assign := ca, body := cb, defers := w.heap.size })
      rw [World.size_alloc] at this; exact this
    · rw [World.size_alloc, World.size_alloc]; omega
    · show ((w.heap.push _).push _)[b]? = _
      rw [Array.getElem?_push, Array.getElem?_push]
      simp only [Array.size_push]
      rw [if_neg (by omega), if_neg (by omega)]
    · obtain rfl := List.mem_singleton.1 hb
      refine ⟨Nat.le_refl _, by omega, ?_⟩
      show ((w.heap.push _).push _)[w.heap.size]? = _
      rw [Array.getElem?_push, Array.getElem?_push]
      simp
  | some l0 =>
    obtain ⟨rec, hrec⟩ := hr l0 rfl
    have hl0 := hd _ _ hrec
    refine ⟨w.heap.size, [], w.alloc (.loop { state := .ready, pending := none, fn := fn, tmps := tmps, params := ps, assign := ca, body := cb, defers := rec.defers }), rec.defers, ?_, Nat.le_refl _, World.alloc_heap_new _ _, ?_, fun b hb => ?_, rfl, ⟨rfl⟩, rfl, by simp, fun b hb => by cases hb⟩
    · show (Instr.enterLoop fn tmps ps ca cb (some l0)).run P w = _
      unfold Instr.enterLoop
      simp only [Sem.run_bind, run_getLoop hl0, Result.andThen, Sem.run_pure, run_newObj_alloc]
      rfl
    · rw [World.size_alloc]; omega
    · show (w.heap.push _)[b]? = _
      rw [Array.getElem?_push, if_neg (by omega)]

theorem Adv.before {E E' : Env} {fp fpc fp' : Nat → Nat → Prop} {w w1 w' : World} (h : Adv E fpc w1 E' fp' w') (hz : w.heap.size ≤ w1.heap.size) (hs : ∀ b, b < w.heap.size → w1.heap[b]? = w.heap[b]?) (h1 : w1.os = w.os) (h2 : TF w w1) (h3 : w1.output = w.output)
    (hown : ∀ b, own fpc b → own fp b ∨ w.heap.size ≤ b) : Adv E fp w E' fp' w' := by
  refine ⟨⟨h.keep.os.trans h1, h.keep.tape.trans h2, h.keep.output.trans h3, Nat.le_trans hz h.keep.size, fun b hb hn => (h.keep.same b (by omega) (fun ho => (hown b ho).elim hn (by omega))).trans (hs b hb)⟩, h.le, fun b hb => ?_, h.Beq, fun id b hb => ?_⟩
  · rcases h.Inew b hb with h4 | h4 | h4
    · exact .inl h4
    · exact .inr (hown b h4)
    · exact .inr (.inr (by omega))
  · rcases h.onew id b hb with h4 | h4
    · exact hown b h4
    · exact .inr (by omega)

section
variable {P : Program} {G : Nat → Option Ctr} {An : List Nat → Nat → Option AN} {nt : Nat}

theorem range_ok (hG : Known P G) {ca cb : Code} (iha : VOk P G An nt ca) (ihb : VOk P G An nt cb) {ps : Array Tmp} (hps : ∀ p, p ∈ ps.toList → p < nt) {r : Option Nat} {rg : Mp} {E0 : Env} {fp0 : Nat → Nat → Prop} {w0 : World} {df : List (Nat × Obj)}
    (hr : ∀ l, r = some l → ∃ rec, (l, Obj.loop rec) ∈ df) {g : Operand} {ms : List Nat} {cur nx : Nat} {T : Tm} {M : En} {K : VK} {Q : Exit → Act → World → Prop} {a : Act} {w : World}
    (h : rangeV P G An ms rg cur g ps.toList (vc P G An ca) (vc P G An cb) T M K) (hh : Here rg E0 fp0 w0 nt df nx T M a w)
    (hQ : ∀ e nx' T' M' a' w', 2000 ≤ nx' → K e nx' T' M' → Here rg E0 fp0 w0 nt df nx' T' M' a' w' → Q e a' w') : (Code.rangeFunc g ps ca cb).wpIn (fence r) 0 P Q a w := by
  unfold rangeV at h
  split at h
  · rename_i R _
    obtain ⟨x, h⟩ := h
    split at h
    · rename_i hchk
      simp only [Bool.and_eq_true, Bool.not_eq_true'] at hchk
      obtain ⟨⟨hinT, hltrg⟩, hdisj⟩ := hchk
      obtain ⟨⟨hrounds, hcall⟩, hh0⟩ := matSt_ok h hh
      rw [updM_eq] at hh0
      obtain ⟨E, fp, hs, hnx, hf, hd⟩ := hh0
      refine wpIn_rangeFunc (fun fn _ => ?_)
      obtain ⟨l, ds, w1, dfr, hent, hlnew, hl1, hz1, hsame, hos, htape, hout, hndd, hds⟩ := enter_ok (P := P) hr (fun b o hb => (hd.side b o hb).1) fn a.tmps ps ca cb
      let rec' : Loop := { state := .ready, pending := none, fn := fn, tmps := a.tmps, params := ps, assign := ca, body := cb, defers := dfr }
      have hlt1 : l < w1.heap.size := (Array.getElem?_eq_some_iff.1 hl1).1
      have hIltw : ∀ b, E.I b ∨ E.B b → b < w.heap.size := hs.en.Ilt
      have hst1 : Stays E w w1 := fun b hb hb' => hsame b hb'
      have htm1 : ∀ t, Sat E w1 (look (R.T x) t) (a.tmps.getD t undef) := fun t => (hs.tm t).mono (.refl E) hst1
      have hyok : YOk P l (ranY R x E w1 rec' l) := ranY_ok (cur := cur) (ms := ms) iha ihb hps ⟨rfl, rfl⟩ hs.sz hltrg (fun t => inT_sat hinT t _ (htm1 t)) (fun b hb => Nat.lt_of_lt_of_le (hIltw b hb) hz1) (fun k hk => hrounds.h k hk)
      have hcall := hcall.h (l, ranY R x E w1 rec' l) ⟨rfl, rfl, rfl, hyok⟩
      unfold callV at hcall
      split at hcall
      · rename_i f cap hfe
        split at hcall
        · rename_i C hgC
          split at hcall
          case h_2 => exact hcall.elim
          rename_i hbody
          obtain ⟨hok, hcf⟩ := (hG f C hgC).resolve_right (fun h => by rw [hbody] at h; cases h.1)
          obtain ⟨xc, hcall⟩ := hcall
          obtain ⟨out, S, ci, eo, hk, hci, hsem⟩ := call_good hok hcall
          have e1 := ev_sat (E := E) (w := w1) (T := R.T x) (a := a) (l := [g]) (fun t _ => htm1 t) (x := g) (by simp)
          rw [hfe] at e1
          generalize hge : a.eval g = fv at e1
          cases e1 with
          | func _ _ _ vf vc uf uc hlf hlc huf huc hsf hsc =>
            have hvf : vf = #[] := Array.eq_empty_of_size_eq_zero (by simpa using hlf)
            subst hvf
            -- what is lent to him
            let Ms := keys (R.M x 0)
            let Y : Yld := ranY R x E w1 rec' l
            let Mc : En := (1983, .res Y.F (Y.S 0)) :: R.R x
            have hin : ∀ {id}, id ∈ Ms → find (upd (R.M x 0) [] (R.R x)) id = find (R.M x 0) id := fun hid => by rw [find_upd, if_pos hid]
            have hout' : ∀ {id}, id ∉ Ms → find (upd (R.M x 0) [] (R.R x)) id = find (R.R x) id := fun hid => by rw [find_upd, if_neg hid, if_neg (by simp)]
            have hentM : EntsSat E w1 (only Ms fp) (R.M x 0) := by
              have hsub : ∀ id b, only Ms fp id b → fp id b := fun id b hb => by unfold only at hb; split at hb; exact hb; exact hb.elim
              refine ⟨fun id => ?_, fun id b hb => Nat.lt_of_lt_of_le (hs.en.lt id b (hsub id b hb)) hz1, fun id b hb => hs.en.I id b (hsub id b hb), fun id b hb => hs.en.B id b (hsub id b hb), fun i j b hij hi hj => hs.en.apart i j b hij (hsub i b hi) (hsub j b hj), fun b hb => Nat.lt_of_lt_of_le (hIltw b hb) hz1, hs.en.nil, hs.en.glob hst1 (fun _ h => h)⟩
              by_cases hid : id ∈ Ms
              · have h1 := (hs.en.sat id).mono (.refl E) hst1 hz1 (fun b hb => hsame b (hs.en.lt id b hb))
                rw [hin hid] at h1
                unfold only; rw [if_pos hid]; exact h1
              · rw [find_none hid]
                intro b hb
                unfold only at hb; rw [if_neg hid] at hb; exact hb
            have hlw : ∀ {b}, b < w.heap.size → b ≠ l := fun hb => by omega
            have hownM : ∀ b, own (only Ms fp) b → ∃ j, j ∈ Ms ∧ fp j b := fun b hb => own_only hb
            let fpl : Nat → Prop := fun b => b = l ∨ own (only Ms fp) b ∨ False
            have hS0 : ranS R x E w1 rec' l 0 (fun _ => False) fpl w1 := by
              refine ⟨E, only Ms fp, fun _ => False, ?_, hentM, fun b => ?_, fun b => Iff.rfl, fun b => Iff.rfl, fun j hj => rfl, fun id hne => hnx id hne, ⟨fun ho => ?_, fun hI => ?_, fun hB => ?_⟩, fun b _ => rfl⟩
              · simpa [recAt, goesB] using hl1
              · simp
              · obtain ⟨j, _, hj⟩ := hownM l ho
                have := hs.en.lt j l hj; omega
              · have := hIltw l (.inl hI); omega
              · have := hIltw l (.inr hB); omega
            let fpc : Nat → Nat → Prop := fun id b => if id = 1983 then fpl b else (id ∉ Ms ∧ fp id b)
            have c1 : ∀ b, fpc 1983 b ↔ fpl b := fun b => by simp [fpc]
            have c2 : ∀ {id}, id ≠ 1983 → ∀ b, fpc id b ↔ (id ∉ Ms ∧ fp id b) := fun hid b => by simp [fpc, hid]
            have hlold : ∀ b, fpl b → b = l ∨ ∃ j, j ∈ Ms ∧ fp j b := fun b hb => by
              rcases hb with hb | hb | hb
              · exact .inl hb
              · exact .inr (hownM b hb)
              · exact hb.elim
            have hownc : ∀ b, own fpc b → own fp b ∨ w.heap.size ≤ b := by
              rintro b ⟨id, hb⟩
              by_cases e : id = 1983
              · subst e
                rcases hlold b ((c1 b).1 hb) with h1 | ⟨j, _, h1⟩
                · exact .inr (by omega)
                · exact .inl ⟨j, h1⟩
              · exact .inl ⟨id, ((c2 e b).1 hb).2⟩
            have hentc : EntsSat E w1 fpc Mc := by
              refine ⟨fun id => ?_, fun id b hb => ?_, fun id b hb hI => ?_, fun id b hb hB => ?_, fun i j b hij hi hj => ?_, fun b hb => Nat.lt_of_lt_of_le (hIltw b hb) hz1, hs.en.nil, hs.en.glob hst1 (fun _ h => h)⟩
              · by_cases e : id = 1983
                · subst e
                  have hfc : fpc 1983 = fpl := funext fun b => propext (c1 b)
                  rw [hfc]
                  have hfd : find Mc 1983 = .res Y.F (Y.S 0) := rfl
                  rw [hfd]
                  exact ⟨fun b hb => ⟨hb, Nat.lt_of_lt_of_le (hIltw b hb) hz1⟩, fun _ => False, fun b hb => hb.elim, hS0, fun w' hz hsm => ranS_stay hS0 hz hsm⟩
                · have hfd : find Mc id = find (R.R x) id := by
                    simp only [Mc, find]
                    have : Nat.beq 1983 id = false := by rw [← Bool.not_eq_true, Nat.beq_eq]; exact fun h => e h.symm
                    rw [this]
                  rw [hfd]
                  by_cases hid : id ∈ Ms
                  · rw [find_none (fun hk => anyB_false hdisj hid hk)]
                    intro b hb
                    exact ((c2 e b).1 hb).1 hid
                  · have h1 := (hs.en.sat id).mono (.refl E) hst1 hz1 (fun b hb => hsame b (hs.en.lt id b hb))
                    rw [hout' hid] at h1
                    have hfc : fpc id = fp id := funext fun b => propext ((c2 e b).trans ⟨fun h => h.2, fun h => ⟨hid, h⟩⟩)
                    rw [hfc]; exact h1
              · by_cases e : id = 1983
                · subst e
                  rcases hlold b ((c1 b).1 hb) with h1 | ⟨j, _, h1⟩
                  · subst h1; exact hlt1
                  · exact Nat.lt_of_lt_of_le (hs.en.lt j b h1) hz1
                · exact Nat.lt_of_lt_of_le (hs.en.lt id b ((c2 e b).1 hb).2) hz1
              · by_cases e : id = 1983
                · subst e
                  rcases hlold b ((c1 b).1 hb) with h1 | ⟨j, _, h1⟩
                  · subst h1; have := hIltw b (.inl hI); omega
                  · exact hs.en.I j b h1 hI
                · exact hs.en.I id b ((c2 e b).1 hb).2 hI
              · by_cases e : id = 1983
                · subst e
                  rcases hlold b ((c1 b).1 hb) with h1 | ⟨j, _, h1⟩
                  · subst h1; have := hIltw b (.inr hB); omega
                  · exact hs.en.B j b h1 hB
                · exact hs.en.B id b ((c2 e b).1 hb).2 hB
              · have cross : ∀ {i b}, i ≠ 1983 → fpc i b → fpc 1983 b → False := fun {i b} e h1 h2 => by
                  have h1 := (c2 e b).1 h1
                  rcases hlold b ((c1 b).1 h2) with h3 | ⟨j, hj, h3⟩
                  · have := hs.en.lt i b h1.2; omega
                  · exact hs.en.apart i j b (fun e => h1.1 (e ▸ hj)) h1.2 h3
                by_cases e1 : i = 1983 <;> by_cases e2 : j = 1983
                · exact hij (e1.trans e2.symm)
                · subst e1; exact cross e2 hj hi
                · subst e2; exact cross e1 hi hj
                · exact hs.en.apart i j b hij ((c2 e1 b).1 hi).2 ((c2 e2 b).1 hj).2
            have hfresh : ∀ id, 2000 ≤ id → id < 2000 + 16 → E.slot id = none := fun id h1 _ => Classical.byContradiction fun hne => by have := hnx id hne; omega
            refine ⟨l, ds.map markOf, w1, { target := .fn (.func f) vc, args := #[] ++ (rangeCall g l).args.map a.eval }, w1, f, (rangeCall g l).args.map a.eval ++ vc, w1, hent, ?_, fun _ _ => trivial, ?_, fun hdp => by simp [fence, Fence.wide] at hdp, ?_⟩
            · simp only [resolve, hge, Deferred.ofValue]
              rfl
            · simp only [invoke, Array.empty_append]
              exact hcf _ w1
            · have hcin : CallsIn (fence none) 0 P f ((rangeCall g l).args.map a.eval ++ vc) w1 (rangePost (fence r) 0 P l Q { a with defers := ds.map markOf ++ a.defers }) := by
                refine CallsIn.mono (hsem E (only S fpc) w1 _ (by simp; omega) (fun j s hj => ?_) (hentc.part S) hfresh) ?_
                · cases j with
                  | zero =>
                    obtain rfl : SV.v (.func (.yield l) ⟨[]⟩ ⟨[]⟩) = s := by simpa using hj
                    have : ((rangeCall g l).args.map a.eval ++ vc).getD 0 undef = .func (.yield l) ⟨[]⟩ ⟨[]⟩ := by
                      simp only [Array.getD_eq_getD_getElem?]
                      rw [Array.getElem?_append_left (by simp), Array.getElem?_map]
                      rfl
                    rw [this]; exact .v _
                  | succ j =>
                    have hj' : cap[j]? = some s := by simpa using hj
                    have hlt := (List.getElem?_eq_some_iff.1 hj').1
                    have : ((rangeCall g l).args.map a.eval ++ vc).getD (j + 1) undef = uc j := by
                      simp only [Array.getD_eq_getD_getElem?]
                      rw [Array.getElem?_append_right (by simp)]
                      simp [huc j hlt]
                    rw [this]; exact hsc j s hj'
                · rintro e w3 ⟨v, rfl, E2, fp1, hres, hents2, hadv, hslots⟩
                  obtain ⟨hents2, hadv⟩ := hentc.frame hents2 hadv hci
                  generalize both (S ++ keys eo) fpc fp1 = fp2 at hents2 hadv
                  have hk : updK eo ci Mc (fun M => backV R x Y M K) := hk
                  rw [updK_eq, updM_eq] at hk
                  unfold backV at hk
                  split at hk
                  · rename_i F' A hfd
                    obtain ⟨n, hA, hren⟩ := hk
                    have hsatY := hents2.sat 1983
                    rw [hfd] at hsatY
                    obtain ⟨_, J, hJ, hSn, _⟩ := hsatY
                    rw [hA] at hSn
                    have hSn : ranS R x E w1 rec' l n J (fp2 1983) w3 := hSn
                    obtain ⟨Ea, fpa, V, hl3, hentsa, hEI, hEB, hfpa, hslota, hlta, ⟨hno, hnI, hnB⟩, hst3⟩ := hSn
                    have hl2 : fp2 1983 l := (hfpa l).2 (.inl rfl)
                    obtain ⟨eo', hk, hbring⟩ := hents2.bring (i := 1983) hentsa (fun b hb => (hfpa b).2 (.inr (.inl hb))) (fun b hb => by
                      rcases (hEI b).1 hb with h1 | h1 | h1
                      · exact .inl (hadv.le.I b h1)
                      · exact .inl (hJ b h1).1
                      · exact .inr ((hfpa b).2 (.inr (.inr h1)))) (fun b hb => hadv.le.B b ((hEB b).1 hb)) (fun j hj => (hslota j hj).trans (by
                        rcases hslots j with h1 | h1
                        · exact h1.symm
                        · have := ltB_spec hltrg j hj; omega)) (fun id hne => by
                        rcases hslots id with h1 | h1
                        · rw [h1] at hne; have := hnx id hne; omega
                        · omega) hren
                    split at hk
                    · rename_i hchk2
                      simp only [Bool.and_eq_true] at hchk2
                      obtain ⟨⟨hn1, hn2⟩, hn3⟩ := hchk2
                      have hn3 := Nat.le_of_ble_eq_true hn3
                      obtain ⟨E3, fp3, hents3, hle3, hI3, hB3, hown3, hslot3⟩ := hbring hn1 hn2
                      rw [updK_eq, updM_eq] at hk
                      have hstat : (recAt R x rec' n).state ≠ .busy := by unfold recAt; dsimp only; split <;> simp
                      have hend := run_endLoop (P := P) hl3 hstat
                      have hlt3 := (Array.getElem?_eq_some_iff.1 hl3).1
                      refine ⟨_, _, hend, ?_⟩
                      generalize hw4 : w3.putObj l (.loop { recAt R x rec' n with state := .exhausted }) = w4
                      have hoth : ∀ b, b ≠ l → w4.heap[b]? = w3.heap[b]? := fun b hb => by rw [← hw4]; exact World.putObj_heap_other hb
                      have hz4 : w4.heap.size = w3.heap.size := by rw [← hw4]; exact World.putObj_size
                      have hnl3 : ∀ id, ¬ fp3 id l := fun id hb => by
                        rcases hown3 id l hb with h1 | ⟨j, hj, h1⟩
                        · exact hno h1
                        · exact hents2.apart j 1983 l hj h1 hl2
                      have hnIl : ¬ E3.I l := fun hI => (hI3 l hI).elim (hents2.I 1983 l hl2) hnI
                      have hnBl : ¬ E3.B l := fun hB => hents2.B 1983 l hl2 (hB3 l hB)
                      have hst4 : Stays E3 w3 w4 := fun b hb _ => hoth b (fun e => by subst e; exact hb.elim hnIl hnBl)
                      have hents4 : EntsSat E3 w4 fp3 (upd eo' [1983] (upd eo ci Mc)) := ⟨fun id => (hents3.sat id).mono (.refl E3) hst4 (Nat.le_of_eq hz4.symm) (fun b hb => hoth b (fun e => by subst e; exact hnl3 id hb)),
                        fun id b hb => by rw [hz4]; exact hents3.lt id b hb, hents3.I, hents3.B, hents3.apart, fun b hb => by rw [hz4]; exact hents3.Ilt b hb, hents3.nil, hents3.glob hst4 (fun _ h => h)⟩
                      have hownl : own fpc l := ⟨1983, (c1 l).2 (.inl rfl)⟩
                      have hadv4 : Adv E fpc w1 E3 fp3 w4 := by
                        have hos4 : w4.os = w3.os ∧ TF w3 w4 ∧ w4.output = w3.output := by rw [← hw4]; exact ⟨rfl, ⟨rfl⟩, rfl⟩
                        refine ⟨⟨hos4.1.trans hadv.keep.os, hos4.2.1.trans hadv.keep.tape, hos4.2.2.trans hadv.keep.output, by rw [hz4]; exact hadv.keep.size, fun b hb hn => (hoth b (fun e => hn (e ▸ hownl))).trans (hadv.keep.same b hb hn)⟩, hadv.le.trans hle3, fun b hb => ?_, fun b hb => hadv.Beq b (hB3 b hb), fun id b hb => ?_⟩
                        · rcases hI3 b hb with h1 | h1
                          · exact hadv.Inew b h1
                          · rcases (hEI b).1 h1 with h2 | h2 | h2
                            · exact .inl h2
                            · exact hadv.Inew b (hJ b h2).1
                            · exact .inr (hadv.onew 1983 b ((hfpa b).2 (.inr (.inr h2))))
                        · rcases hown3 id b hb with h1 | ⟨j, _, h1⟩
                          · exact hadv.onew 1983 b ((hfpa b).2 (.inr (.inl h1)))
                          · exact hadv.onew j b h1
                      have hadvw : Adv E fp w E3 fp3 w4 := hadv4.before hz1 hsame hos htape hout hownc
                      have hfin : Here rg E0 fp0 w0 nt df 2032 (R.T x) (upd eo' [1983] (upd eo ci Mc)) { a with defers := ds.map markOf ++ a.defers } w4 := by
                        refine ⟨E3, fp3, ⟨hs.sz, fun t => (hs.tm t).mono hadvw.le (hs.en.stays hadvw.keep), hents4⟩, fun id hne => ?_, hf.step hadvw (fun id hid => ?_), ⟨fun b o hb => (hd.side b o hb).step hadvw, ?_⟩⟩
                        · rcases hslot3 id with h1 | h1
                          · rw [h1] at hne
                            rcases hslots id with h2 | h2
                            · rw [h2] at hne; have := hnx id hne; omega
                            · omega
                          · omega
                        · rcases hslot3 id with h1 | h1
                          · rcases hslots id with h2 | h2
                            · exact h1.trans h2
                            · omega
                          · omega
                        · obtain ⟨ds0, e1, e2, e3⟩ := hd.marks
                          refine ⟨ds ++ ds0, by simp [e1], List.nodup_append.2 ⟨hndd, e2, fun p hp q hq e => ?_⟩, fun b hb => ?_⟩
                          · subst e
                            have h1 := (hds p hp).1
                            have h2 := (Array.getElem?_eq_some_iff.1 (e3 p hq).2.1).1
                            omega
                          · rcases List.mem_append.1 hb with hb | hb
                            · obtain ⟨h1, h2, h3⟩ := hds b hb
                              refine ⟨by have := hf.keep.size; omega, Aside.step (E := E) (fp := fpc) (w := w1) ⟨h3, fun ⟨id, ho⟩ => ?_, fun hI => ?_, fun hB => ?_⟩ hadv4⟩
                              · by_cases e : id = 1983
                                · subst e
                                  rcases hlold b ((c1 b).1 ho) with h4 | ⟨j, _, h4⟩
                                  · exact h2 h4
                                  · have := hs.en.lt j b h4; omega
                                · have := hs.en.lt id b ((c2 e b).1 ho).2; omega
                              · have := hIltw b (.inl hI); omega
                              · have := hIltw b (.inr hB); omega
                            · exact ⟨(e3 b hb).1, (e3 b hb).2.step hadvw⟩
                      cases hgn : goesB (R.goes x) n with
                      | true =>
                        have : (recAt R x rec' n).pending = none := by simp [recAt, hgn]
                        rw [this]
                        exact hQ _ _ _ _ _ _ (by omega) (hk.t hgn) hfin
                      | false =>
                        have : (recAt R x rec' n).pending = jumpC (R.jump x (n - 1)) := by simp [recAt, hgn]
                        rw [this]
                        have hk := hk.f hgn
                        unfold jumpV at hk
                        split at hk
                        · rename_i j hj
                          rw [hj]
                          exact wpIn_exit (hQ _ _ _ _ _ _ (by omega) hk hfin)
                        · rename_i hj
                          rw [hj]
                          exact wpIn_ret (hQ _ _ _ _ _ _ (by omega) hk hfin)
                        · exact hk.elim
                    · exact hk.elim
                  · exact hk.elim
              exact hcin
        · exact hcall.elim
      · exact hcall.elim
    · exact h.elim
  · exact h.elim

end
end Go.Eng
