/- Parts of the proof, one behind the other (EngQ, EngS, EngO, EngT, Base, PenA, PenB, LibE, EyeA, EngW, EngX). -/
import Derived.Test.YthmbdjhlfieldaaGreatDoorPk5
import Derived.Test.YthmbdjhlfieldaaGreatDoorRows
import Derived.RowKit3
import Derived.Below
import Derived.Carry
import Derived.OpenShut
set_option linter.unusedVariables false
set_option linter.unusedSimpArgs false
set_option linter.unusedSectionVars false
/-! The engine, part Q: the statement that ranges over a function. -/
set_option linter.unusedVariables false
namespace Go.Eng
variable [DM]
set_option linter.unusedSectionVars false

/-- What lay apart comes back, partly under new names. -/
theorem EntsSat.bring {E2 Ea : Env} {w : World} {fp2 fpa : Nat → Nat → Prop} {M2 Ma : En} {i : Nat} {rg : List Nat} {K : En → Prop} (h2 : EntsSat E2 w fp2 M2) (ha : EntsSat Ea w fpa Ma)
    (hown : ∀ b, own fpa b → fp2 i b) (hIa : ∀ b, Ea.I b → E2.I b ∨ fp2 i b) (hBa : ∀ b, Ea.B b → E2.B b) (hsl : ∀ j, j ∈ rg → Ea.slot j = E2.slot j) (hfr : ∀ id, E2.slot id ≠ none → id < 2016)
    (h : renE true (extM (idM rg) 2016 (keys Ma)) Ma K) :
    ∃ eo, K eo ∧ (nodupB (keys eo) = true → nodupB (keys Ma) = true → ∃ E' fp', EntsSat E' w fp' (upd eo [i] M2) ∧ E2.le E' ∧ (∀ b, E'.I b → E2.I b ∨ Ea.I b) ∧ (∀ b, E'.B b → E2.B b) ∧
      (∀ id b, fp' id b → own fpa b ∨ ∃ j, j ≠ i ∧ fp2 j b) ∧ (∀ id, E'.slot id = E2.slot id ∨ (2016 ≤ id ∧ id < 2016 + (keys Ma).length))) := by
  obtain ⟨eo, hk, hlen, heo⟩ := renE_good _ h
  refine ⟨eo, hk, fun hnd hndm => ?_⟩
  have hnde := nodupB_spec hnd
  have hndo := nodupB_spec hndm
  let m := idM rg
  let mx := extM m 2016 (keys Ma)
  let E' : Env := { slot := (envB E2 Ea m mx).slot, I := fun b => E2.I b ∨ Ea.I b, B := E2.B }
  have hle : E2.le E' := ⟨fun id s hs => by simp only [E', envB, hs], fun b hb => .inl hb, fun b hb => hb⟩
  have hnew : ∀ j i, mlook m j = none → mlook mx j = some i → 2016 ≤ i ∧ i < 2016 + (keys Ma).length := fun j i h1 h2 => extM_new _ m 2016 j i h2 h1
  have hmap : ∀ j i, mlook mx j = some i → ∀ sl, Ea.slot j = some sl → E'.slot i = some sl := by
    intro j i hji sl hsl'
    cases hm : mlook m j with
    | some i' =>
      have := extM_old (keys Ma) m 2016 j i' hm
      obtain rfl : i' = i := Option.some.inj (this.symm.trans hji)
      obtain ⟨rfl, hjm⟩ := idM_some hm
      have h3 : E2.slot i' = some sl := (hsl _ hjm).symm.trans hsl'
      simp only [E', envB, h3]
    | none =>
      have hr := hnew j i hm hji
      have hfree : E2.slot i = none := Classical.byContradiction fun hne => by have := hfr i hne; omega
      have hex : ∃ j, mlook m j = none ∧ mlook mx j = some i := ⟨j, hm, hji⟩
      have hch := Classical.choose_spec hex
      have : Classical.choose hex = j := extM_inj _ m 2016 _ _ i hch.2 hji hch.1 hm
      simp only [E', envB, hfree]
      rw [dif_pos hex, this]; exact hsl'
  have hslots : ∀ id, E'.slot id = E2.slot id ∨ (2016 ≤ id ∧ id < 2016 + (keys Ma).length) := by
    intro id
    cases hs : E2.slot id with
    | some s => exact .inl (by simp only [E', envB, hs])
    | none =>
      by_cases hex : ∃ j, mlook m j = none ∧ mlook mx j = some id
      · obtain ⟨j, h1, h2⟩ := hex
        exact .inr (hnew j id h1 h2)
      · exact .inl (by simp only [E', envB, hs]; rw [dif_neg hex])
  have hnewent : ∀ id, id ∈ keys eo → ∃ j, (j ∈ keys Ma) ∧ mlook mx j = some id ∧ EntSat E' w (fpa j) id (find eo id) := by
    intro id hid
    have hmem := mem_of_find hid
    obtain ⟨k, hk, hget⟩ := List.mem_iff_getElem.1 hmem
    have hk' : eo[k]? = some (id, find eo id) := by rw [List.getElem?_eq_getElem hk, hget]
    obtain ⟨j, e, hje, hji, hsem2⟩ := heo k id _ hk'
    have hjm : (j, e) ∈ Ma := List.mem_of_getElem? hje
    have hsat := ha.sat j
    rw [find_mem hndo hjm] at hsat
    refine ⟨j, List.mem_map.2 ⟨_, hjm, rfl⟩, hji, hsem2 Ea _ w (fpa j) hmap (fun b hb => .inr hb) (fun _ b hb => hBa b hb) (fun F A hFA b hb => ?_) hsat⟩
    subst hFA
    exact ((hsat.1 b hb).1).imp .inr (hBa b)
  have huniq : ∀ j j' id, j ∈ keys Ma → j' ∈ keys Ma → mlook mx j = some id → mlook mx j' = some id → id ∈ keys eo → j = j' := by
    intro j j' id hj hj' h1 h2 _
    obtain ⟨k, hk, hget⟩ := List.mem_iff_getElem.1 (mem_of_find hj)
    obtain ⟨k', hk', hget'⟩ := List.mem_iff_getElem.1 (mem_of_find hj')
    have hke : k < eo.length := by omega
    have hke' : k' < eo.length := by omega
    obtain ⟨a, e1, b1, b2, _⟩ := heo k (eo[k]).1 (eo[k]).2 (by simp [hke])
    obtain ⟨a', e1', b1', b2', _⟩ := heo k' (eo[k']).1 (eo[k']).2 (by simp [hke'])
    have ea : a = j := by
      rw [List.getElem?_eq_getElem hk, hget] at b1
      exact (Prod.mk.inj (Option.some.inj b1)).1.symm
    have ea' : a' = j' := by
      rw [List.getElem?_eq_getElem hk', hget'] at b1'
      exact (Prod.mk.inj (Option.some.inj b1')).1.symm
    subst ea; subst ea'
    have i1 : (eo[k]).1 = id := Option.some.inj (b2.symm.trans h1)
    have i2 : (eo[k']).1 = id := Option.some.inj (b2'.symm.trans h2)
    have hkk : k = k' := by
      have n1 : (keys eo)[k]'(by simp [keys, hke]) = id := by simp [keys, i1]
      have n2 : (keys eo)[k']'(by simp [keys, hke']) = id := by simp [keys, i2]
      have hp := List.pairwise_iff_getElem.1 hnde
      rcases Nat.lt_trichotomy k k' with hlt | heq | hgt
      · exact absurd (n1.trans n2.symm) (hp k k' _ _ hlt)
      · exact heq
      · exact absurd (n2.trans n1.symm) (hp k' k _ _ hgt)
    subst hkk
    rw [hget] at hget'
    exact (Prod.mk.inj hget').1
  let fp' : Nat → Nat → Prop := fun id b => (id ∈ keys eo ∧ ∃ j, j ∈ keys Ma ∧ mlook mx j = some id ∧ fpa j b) ∨ (id ∉ keys eo ∧ id ≠ i ∧ fp2 id b)
  have hfpE : ∀ id j, id ∈ keys eo → j ∈ keys Ma → mlook mx j = some id → fp' id = fpa j := by
    intro id j hid hj hji
    funext b
    refine propext ⟨fun hb => ?_, fun hb => .inl ⟨hid, j, hj, hji, hb⟩⟩
    rcases hb with ⟨_, j', hj', hji', hb⟩ | ⟨hn, _⟩
    · rw [huniq j j' id hj hj' hji hji' hid]; exact hb
    · exact absurd hid hn
  have hfpO : ∀ id, id ∉ keys eo → id ≠ i → fp' id = fp2 id := by
    intro id h1 h3
    funext b
    exact propext ⟨fun hb => by rcases hb with ⟨h, _⟩ | ⟨_, _, h⟩; exact absurd h h1; exact h, fun hb => .inr ⟨h1, h3, hb⟩⟩
  refine ⟨E', fp', ⟨fun id => ?_, fun id b hb => ?_, fun id b hb hI => ?_, fun id b hb hB => ?_, fun p q b hne hb hb' => ?_, fun b hb => ?_, h2.nil.mono hle, h2.gl.mono hle.I (fun _ _ => rfl)⟩, hle, fun b hb => hb, fun b hb => hb, fun id b hb => ?_, hslots⟩
  · rw [find_upd]
    by_cases hk : id ∈ keys eo
    · rw [if_pos hk]
      obtain ⟨j, hj, hji, hs⟩ := hnewent id hk
      rw [hfpE id j hk hj hji]; exact hs
    · rw [if_neg hk]
      by_cases e : id = i
      · rw [if_pos (by simp [e])]
        rintro b (⟨h1, _⟩ | ⟨_, h3, _⟩)
        · exact hk h1
        · exact h3 e
      · rw [if_neg (by simp [e]), hfpO id hk e]
        exact (h2.sat id).mono hle (fun _ _ _ => rfl) (Nat.le_refl _) (fun _ _ => rfl)
  · rcases hb with ⟨_, j, _, _, hb⟩ | ⟨_, _, hb⟩
    · exact ha.lt j b hb
    · exact h2.lt id b hb
  · rcases hb with ⟨_, j, _, _, hb⟩ | ⟨_, hne, hb⟩
    · rcases hI with hI | hI
      · exact h2.I i b (hown b ⟨j, hb⟩) hI
      · exact ha.I j b hb hI
    · rcases hI with hI | hI
      · exact h2.I id b hb hI
      · rcases hIa b hI with h3 | h3
        · exact h2.I id b hb h3
        · exact h2.apart id i b hne hb h3
  · rcases hb with ⟨_, j, _, _, hb⟩ | ⟨_, _, hb⟩
    · exact h2.B i b (hown b ⟨j, hb⟩) hB
    · exact h2.B id b hb hB
  · rcases hb with ⟨k1, j, hj, hji, hb⟩ | ⟨k1, n1, hb⟩ <;> rcases hb' with ⟨k2, j', hj', hji', hb'⟩ | ⟨k2, n2, hb'⟩
    · by_cases e : j = j'
      · subst e; exact hne (Option.some.inj (hji.symm.trans hji'))
      · exact ha.apart j j' b e hb hb'
    · exact h2.apart q i b n2 hb' (hown b ⟨j, hb⟩)
    · exact h2.apart p i b n1 hb (hown b ⟨j', hb'⟩)
    · exact h2.apart p q b hne hb hb'
  · rcases hb with (hb | hb) | hb
    · exact h2.Ilt b (.inl hb)
    · exact ha.Ilt b (.inl hb)
    · exact h2.Ilt b (.inr hb)
  · rcases hb with ⟨_, j, _, _, hb⟩ | ⟨_, hne, hb⟩
    · exact .inl ⟨j, hb⟩
    · exact .inr ⟨id, hne, hb⟩

/-- The record is laid; at an outermost loop a mark with it. -/
theorem enter_ok {P : Program} {r : Option Nat} {df : List (Nat × Obj)} {w : World} (hr : ∀ l, r = some l → ∃ rec, (l, Obj.loop rec) ∈ df) (hd : ∀ b o, (b, o) ∈ df → w.heap[b]? = some o) (fn : FuncId) (tmps : Array Value) (ps : Array Tmp) (ca cb : Code) :
    ∃ (l : Nat) (ds : List Nat) (w1 : World) (d : Nat), (Instr.enterLoop fn tmps ps ca cb (fence r).round).run P w = .ok (l, ds.map markOf) w1 ∧ w.heap.size ≤ l ∧
      w1.heap[l]? = some (.loop { state := .ready, pending := none, fn := fn, tmps := tmps, params := ps, assign := ca, body := cb, defers := d }) ∧ w.heap.size ≤ w1.heap.size ∧ (∀ b, b < w.heap.size → w1.heap[b]? = w.heap[b]?) ∧
      w1.os = w.os ∧ TF w w1 ∧ w1.output = w.output ∧ ds.Nodup ∧ ∀ b, b ∈ ds → w.heap.size ≤ b ∧ b ≠ l ∧ w1.heap[b]? = some (.deferred (some [])) := by
  cases r with
  | none =>
    refine ⟨_, [w.heap.size], _, w.heap.size, run_enterLoop_outer fn tmps ps ca cb, by omega, ?_, ?_, fun b hb => ?_, rfl, .same rfl rfl, rfl, by simp, fun b hb => ?_⟩
    · have := World.alloc_heap_new (w.alloc (.deferred (some []))) (.loop { state := .ready, pending := none, fn := fn, tmps := tmps, params := ps, assign := ca, body := cb, defers := w.heap.size })
      rw [World.size_alloc] at this; exact this
    · rw [World.size_alloc, World.size_alloc]; omega
    · show ((w.heap.push _).push _)[b]? = _
      rw [Array.getElem?_push, Array.getElem?_push]
      simp only [Array.size_push]
      rw [if_neg (by omega), if_neg (by omega)]
    · obtain rfl := List.mem_singleton.1 hb
      refine ⟨Nat.le_refl _, by omega, ?_⟩
      show ((w.heap.push _).push _)[w.heap.size]? = _
      rw [Array.getElem?_push, Array.getElem?_push]
      simp
  | some l0 =>
    obtain ⟨rec, hrec⟩ := hr l0 rfl
    have hl0 := hd _ _ hrec
    refine ⟨w.heap.size, [], w.alloc (.loop { state := .ready, pending := none, fn := fn, tmps := tmps, params := ps, assign := ca, body := cb, defers := rec.defers }), rec.defers, ?_, Nat.le_refl _, World.alloc_heap_new _ _, ?_, fun b hb => ?_, rfl, .same rfl rfl, rfl, by simp, fun b hb => by cases hb⟩
    · show (Instr.enterLoop fn tmps ps ca cb (some l0)).run P w = _
      unfold Instr.enterLoop
      simp only [Sem.run_bind, run_getLoop hl0, Result.andThen, Sem.run_pure, run_newObj_alloc]
      rfl
    · rw [World.size_alloc]; omega
    · show (w.heap.push _)[b]? = _
      rw [Array.getElem?_push, if_neg (by omega)]

theorem Adv.before {E E' : Env} {fp fpc fp' : Nat → Nat → Prop} {w w1 w' : World} (h : Adv E fpc w1 E' fp' w') (hz : w.heap.size ≤ w1.heap.size) (hs : ∀ b, b < w.heap.size → w1.heap[b]? = w.heap[b]?) (h1 : w1.os = w.os) (h2 : TF w w1) (h3 : w1.output = w.output)
    (hown : ∀ b, own fpc b → own fp b ∨ w.heap.size ≤ b) : Adv E fp w E' fp' w' := by
  refine ⟨⟨h.keep.os.trans h1, h.keep.tape.trans h2, h.keep.output.trans h3, Nat.le_trans hz h.keep.size, fun b hb hn => (h.keep.same b (by omega) (fun ho => (hown b ho).elim hn (by omega))).trans (hs b hb)⟩, h.le, fun b hb => ?_, h.Beq, fun id b hb => ?_⟩
  · rcases h.Inew b hb with h4 | h4 | h4
    · exact .inl h4
    · exact .inr (hown b h4)
    · exact .inr (.inr (by omega))
  · rcases h.onew id b hb with h4 | h4
    · exact hown b h4
    · exact .inr (by omega)

section
variable {P : Program} {G : Nat → Option Ctr} {An : List Nat → Nat → Option AN} {nt : Nat}

theorem range_ok (hG : Known P G) {ca cb : Code} (iha : VOk P G An nt ca) (ihb : VOk P G An nt cb) {ps : Array Tmp} (hps : ∀ p, p ∈ ps.toList → p < nt) {r : Option Nat} {rg : Mp} {E0 : Env} {fp0 : Nat → Nat → Prop} {w0 : World} {df : List (Nat × Obj)}
    (hr : ∀ l, r = some l → ∃ rec, (l, Obj.loop rec) ∈ df) {g : Operand} {ms : List Nat} {cur nx : Nat} {T : Tm} {M : En} {K : VK} {Q : Exit → Act → World → Prop} {a : Act} {w : World}
    (h : rangeV P G An ms rg cur g ps.toList (vc P G An ca) (vc P G An cb) T M K) (hh : Here rg E0 fp0 w0 nt df nx T M a w)
    (hQ : ∀ e nx' T' M' a' w', 2000 ≤ nx' → K e nx' T' M' → Here rg E0 fp0 w0 nt df nx' T' M' a' w' → Q e a' w') : (Code.rangeFunc g ps ca cb).wpIn (fence r) 0 P Q a w := by
  unfold rangeV at h
  split at h
  · rename_i R _
    obtain ⟨x, h⟩ := h
    split at h
    · rename_i hchk
      simp only [Bool.and_eq_true, Bool.not_eq_true'] at hchk
      obtain ⟨⟨hinT, hltrg⟩, hdisj⟩ := hchk
      obtain ⟨⟨hrounds, hcall⟩, hh0⟩ := matSt_ok h hh
      rw [updM_eq] at hh0
      obtain ⟨E, fp, hs, hnx, hf, hd⟩ := hh0
      refine wpIn_rangeFunc (fun fn _ => ?_)
      obtain ⟨l, ds, w1, dfr, hent, hlnew, hl1, hz1, hsame, hos, htape, hout, hndd, hds⟩ := enter_ok (P := P) hr (fun b o hb => (hd.side b o hb).1) fn a.tmps ps ca cb
      let rec' : Loop := { state := .ready, pending := none, fn := fn, tmps := a.tmps, params := ps, assign := ca, body := cb, defers := dfr }
      have hlt1 : l < w1.heap.size := (Array.getElem?_eq_some_iff.1 hl1).1
      have hIltw : ∀ b, E.I b ∨ E.B b → b < w.heap.size := hs.en.Ilt
      have hst1 : Stays E w w1 := fun b hb hb' => hsame b hb'
      have htm1 : ∀ t, Sat E w1 (look (R.T x) t) (a.tmps.getD t undef) := fun t => (hs.tm t).mono (.refl E) hst1
      have hyok : YOk P l (ranY R x E w1 rec' l) := ranY_ok (cur := cur) (ms := ms) iha ihb hps ⟨rfl, rfl⟩ hs.sz hltrg (fun t => inT_sat hinT t _ (htm1 t)) (fun b hb => Nat.lt_of_lt_of_le (hIltw b hb) hz1) (fun k hk => hrounds.h k hk)
      have hcall := hcall.h (l, ranY R x E w1 rec' l) ⟨rfl, rfl, rfl, hyok⟩
      unfold callV at hcall
      split at hcall
      · rename_i f cap hfe
        split at hcall
        · rename_i C hgC
          split at hcall
          case h_2 => exact hcall.elim
          rename_i hbody
          obtain ⟨hok, hcf⟩ := (hG f C hgC).resolve_right (fun h => by rw [hbody] at h; cases h.1)
          obtain ⟨xc, hcall⟩ := hcall
          obtain ⟨out, S, ci, eo, hk, hci, hsem⟩ := call_good hok hcall
          have e1 := ev_sat (E := E) (w := w1) (T := R.T x) (a := a) (l := [g]) (fun t _ => htm1 t) (x := g) (by simp)
          rw [hfe] at e1
          generalize hge : a.eval g = fv at e1
          cases e1 with
          | func _ _ _ vf vc uf uc hlf hlc huf huc hsf hsc =>
            have hvf : vf = #[] := Array.eq_empty_of_size_eq_zero (by simpa using hlf)
            subst hvf
            -- what is lent to him
            let Ms := keys (R.M x 0)
            let Y : Yld := ranY R x E w1 rec' l
            let Mc : En := (1983, .res Y.F (Y.S 0)) :: R.R x
            have hin : ∀ {id}, id ∈ Ms → find (upd (R.M x 0) [] (R.R x)) id = find (R.M x 0) id := fun hid => by rw [find_upd, if_pos hid]
            have hout' : ∀ {id}, id ∉ Ms → find (upd (R.M x 0) [] (R.R x)) id = find (R.R x) id := fun hid => by rw [find_upd, if_neg hid, if_neg (by simp)]
            have hentM : EntsSat E w1 (only Ms fp) (R.M x 0) := by
              have hsub : ∀ id b, only Ms fp id b → fp id b := fun id b hb => by unfold only at hb; split at hb; exact hb; exact hb.elim
              refine ⟨fun id => ?_, fun id b hb => Nat.lt_of_lt_of_le (hs.en.lt id b (hsub id b hb)) hz1, fun id b hb => hs.en.I id b (hsub id b hb), fun id b hb => hs.en.B id b (hsub id b hb), fun i j b hij hi hj => hs.en.apart i j b hij (hsub i b hi) (hsub j b hj), fun b hb => Nat.lt_of_lt_of_le (hIltw b hb) hz1, hs.en.nil, hs.en.glob hst1 (fun _ h => h)⟩
              by_cases hid : id ∈ Ms
              · have h1 := (hs.en.sat id).mono (.refl E) hst1 hz1 (fun b hb => hsame b (hs.en.lt id b hb))
                rw [hin hid] at h1
                unfold only; rw [if_pos hid]; exact h1
              · rw [find_none hid]
                intro b hb
                unfold only at hb; rw [if_neg hid] at hb; exact hb
            have hlw : ∀ {b}, b < w.heap.size → b ≠ l := fun hb => by omega
            have hownM : ∀ b, own (only Ms fp) b → ∃ j, j ∈ Ms ∧ fp j b := fun b hb => own_only hb
            let fpl : Nat → Prop := fun b => b = l ∨ own (only Ms fp) b ∨ False
            have hS0 : ranS R x E w1 rec' l 0 (fun _ => False) fpl w1 := by
              refine ⟨E, only Ms fp, fun _ => False, ?_, hentM, fun b => ?_, fun b => Iff.rfl, fun b => Iff.rfl, fun j hj => rfl, fun id hne => hnx id hne, ⟨fun ho => ?_, fun hI => ?_, fun hB => ?_⟩, fun b _ => rfl⟩
              · simpa [recAt, goesB] using hl1
              · simp
              · obtain ⟨j, _, hj⟩ := hownM l ho
                have := hs.en.lt j l hj; omega
              · have := hIltw l (.inl hI); omega
              · have := hIltw l (.inr hB); omega
            let fpc : Nat → Nat → Prop := fun id b => if id = 1983 then fpl b else (id ∉ Ms ∧ fp id b)
            have c1 : ∀ b, fpc 1983 b ↔ fpl b := fun b => by simp [fpc]
            have c2 : ∀ {id}, id ≠ 1983 → ∀ b, fpc id b ↔ (id ∉ Ms ∧ fp id b) := fun hid b => by simp [fpc, hid]
            have hlold : ∀ b, fpl b → b = l ∨ ∃ j, j ∈ Ms ∧ fp j b := fun b hb => by
              rcases hb with hb | hb | hb
              · exact .inl hb
              · exact .inr (hownM b hb)
              · exact hb.elim
            have hownc : ∀ b, own fpc b → own fp b ∨ w.heap.size ≤ b := by
              rintro b ⟨id, hb⟩
              by_cases e : id = 1983
              · subst e
                rcases hlold b ((c1 b).1 hb) with h1 | ⟨j, _, h1⟩
                · exact .inr (by omega)
                · exact .inl ⟨j, h1⟩
              · exact .inl ⟨id, ((c2 e b).1 hb).2⟩
            have hentc : EntsSat E w1 fpc Mc := by
              refine ⟨fun id => ?_, fun id b hb => ?_, fun id b hb hI => ?_, fun id b hb hB => ?_, fun i j b hij hi hj => ?_, fun b hb => Nat.lt_of_lt_of_le (hIltw b hb) hz1, hs.en.nil, hs.en.glob hst1 (fun _ h => h)⟩
              · by_cases e : id = 1983
                · subst e
                  have hfc : fpc 1983 = fpl := funext fun b => propext (c1 b)
                  rw [hfc]
                  have hfd : find Mc 1983 = .res Y.F (Y.S 0) := rfl
                  rw [hfd]
                  exact ⟨fun b hb => ⟨hb, Nat.lt_of_lt_of_le (hIltw b hb) hz1⟩, fun _ => False, fun b hb => hb.elim, hS0, fun w' hz hsm => ranS_stay hS0 hz hsm⟩
                · have hfd : find Mc id = find (R.R x) id := by
                    simp only [Mc, find]
                    have : Nat.beq 1983 id = false := by rw [← Bool.not_eq_true, Nat.beq_eq]; exact fun h => e h.symm
                    rw [this]
                  rw [hfd]
                  by_cases hid : id ∈ Ms
                  · rw [find_none (fun hk => anyB_false hdisj hid hk)]
                    intro b hb
                    exact ((c2 e b).1 hb).1 hid
                  · have h1 := (hs.en.sat id).mono (.refl E) hst1 hz1 (fun b hb => hsame b (hs.en.lt id b hb))
                    rw [hout' hid] at h1
                    have hfc : fpc id = fp id := funext fun b => propext ((c2 e b).trans ⟨fun h => h.2, fun h => ⟨hid, h⟩⟩)
                    rw [hfc]; exact h1
              · by_cases e : id = 1983
                · subst e
                  rcases hlold b ((c1 b).1 hb) with h1 | ⟨j, _, h1⟩
                  · subst h1; exact hlt1
                  · exact Nat.lt_of_lt_of_le (hs.en.lt j b h1) hz1
                · exact Nat.lt_of_lt_of_le (hs.en.lt id b ((c2 e b).1 hb).2) hz1
              · by_cases e : id = 1983
                · subst e
                  rcases hlold b ((c1 b).1 hb) with h1 | ⟨j, _, h1⟩
                  · subst h1; have := hIltw b (.inl hI); omega
                  · exact hs.en.I j b h1 hI
                · exact hs.en.I id b ((c2 e b).1 hb).2 hI
              · by_cases e : id = 1983
                · subst e
                  rcases hlold b ((c1 b).1 hb) with h1 | ⟨j, _, h1⟩
                  · subst h1; have := hIltw b (.inr hB); omega
                  · exact hs.en.B j b h1 hB
                · exact hs.en.B id b ((c2 e b).1 hb).2 hB
              · have cross : ∀ {i b}, i ≠ 1983 → fpc i b → fpc 1983 b → False := fun {i b} e h1 h2 => by
                  have h1 := (c2 e b).1 h1
                  rcases hlold b ((c1 b).1 h2) with h3 | ⟨j, hj, h3⟩
                  · have := hs.en.lt i b h1.2; omega
                  · exact hs.en.apart i j b (fun e => h1.1 (e ▸ hj)) h1.2 h3
                by_cases e1 : i = 1983 <;> by_cases e2 : j = 1983
                · exact hij (e1.trans e2.symm)
                · subst e1; exact cross e2 hj hi
                · subst e2; exact cross e1 hi hj
                · exact hs.en.apart i j b hij ((c2 e1 b).1 hi).2 ((c2 e2 b).1 hj).2
            have hfresh : ∀ id, 2000 ≤ id → id < 2000 + 16 → E.slot id = none := fun id h1 _ => Classical.byContradiction fun hne => by have := hnx id hne; omega
            refine ⟨l, ds.map markOf, w1, { target := .fn (.func f) vc, args := #[] ++ (rangeCall g l).args.map a.eval }, w1, f, (rangeCall g l).args.map a.eval ++ vc, w1, hent, ?_, fun _ _ => trivial, ?_, fun hdp => by simp [fence, Fence.wide] at hdp, ?_⟩
            · simp only [resolve, hge, Deferred.ofValue]
              rfl
            · simp only [invoke, Array.empty_append]
              exact hcf _ w1
            · have hcin : CallsIn (fence none) 0 P f ((rangeCall g l).args.map a.eval ++ vc) w1 (rangePost (fence r) 0 P l Q { a with defers := ds.map markOf ++ a.defers }) := by
                refine CallsIn.mono (hsem E (only S fpc) w1 _ (by simp; omega) (fun j s hj => ?_) (hentc.part S) hfresh) ?_
                · cases j with
                  | zero =>
                    obtain rfl : SV.v (.func (.yield l) ⟨[]⟩ ⟨[]⟩) = s := by simpa using hj
                    have : ((rangeCall g l).args.map a.eval ++ vc).getD 0 undef = .func (.yield l) ⟨[]⟩ ⟨[]⟩ := by
                      simp only [Array.getD_eq_getD_getElem?]
                      rw [Array.getElem?_append_left (by simp), Array.getElem?_map]
                      rfl
                    rw [this]; exact .v _
                  | succ j =>
                    have hj' : cap[j]? = some s := by simpa using hj
                    have hlt := (List.getElem?_eq_some_iff.1 hj').1
                    have : ((rangeCall g l).args.map a.eval ++ vc).getD (j + 1) undef = uc j := by
                      simp only [Array.getD_eq_getD_getElem?]
                      rw [Array.getElem?_append_right (by simp)]
                      simp [huc j hlt]
                    rw [this]; exact hsc j s hj'
                · rintro e w3 ⟨v, rfl, E2, fp1, hres, hents2, hadv, hslots⟩
                  obtain ⟨hents2, hadv⟩ := hentc.frame hents2 hadv hci
                  generalize both (S ++ keys eo) fpc fp1 = fp2 at hents2 hadv
                  have hk : updK eo ci Mc (fun M => backV R x Y M K) := hk
                  rw [updK_eq, updM_eq] at hk
                  unfold backV at hk
                  split at hk
                  · rename_i F' A hfd
                    obtain ⟨n, hA, hren⟩ := hk
                    have hsatY := hents2.sat 1983
                    rw [hfd] at hsatY
                    obtain ⟨_, J, hJ, hSn, _⟩ := hsatY
                    rw [hA] at hSn
                    have hSn : ranS R x E w1 rec' l n J (fp2 1983) w3 := hSn
                    obtain ⟨Ea, fpa, V, hl3, hentsa, hEI, hEB, hfpa, hslota, hlta, ⟨hno, hnI, hnB⟩, hst3⟩ := hSn
                    have hl2 : fp2 1983 l := (hfpa l).2 (.inl rfl)
                    obtain ⟨eo', hk, hbring⟩ := hents2.bring (i := 1983) hentsa (fun b hb => (hfpa b).2 (.inr (.inl hb))) (fun b hb => by
                      rcases (hEI b).1 hb with h1 | h1 | h1
                      · exact .inl (hadv.le.I b h1)
                      · exact .inl (hJ b h1).1
                      · exact .inr ((hfpa b).2 (.inr (.inr h1)))) (fun b hb => hadv.le.B b ((hEB b).1 hb)) (fun j hj => (hslota j hj).trans (by
                        rcases hslots j with h1 | h1
                        · exact h1.symm
                        · have := ltB_spec hltrg j hj; omega)) (fun id hne => by
                        rcases hslots id with h1 | h1
                        · rw [h1] at hne; have := hnx id hne; omega
                        · omega) hren
                    split at hk
                    · rename_i hchk2
                      simp only [Bool.and_eq_true] at hchk2
                      obtain ⟨⟨hn1, hn2⟩, hn3⟩ := hchk2
                      have hn3 := Nat.le_of_ble_eq_true hn3
                      obtain ⟨E3, fp3, hents3, hle3, hI3, hB3, hown3, hslot3⟩ := hbring hn1 hn2
                      rw [updK_eq, updM_eq] at hk
                      have hstat : (recAt R x rec' n).state ≠ .busy := by unfold recAt; dsimp only; split <;> simp
                      have hend := run_endLoop (P := P) hl3 hstat
                      have hlt3 := (Array.getElem?_eq_some_iff.1 hl3).1
                      refine ⟨_, _, hend, ?_⟩
                      generalize hw4 : w3.putObj l (.loop { recAt R x rec' n with state := .exhausted }) = w4
                      have hoth : ∀ b, b ≠ l → w4.heap[b]? = w3.heap[b]? := fun b hb => by rw [← hw4]; exact World.putObj_heap_other hb
                      have hz4 : w4.heap.size = w3.heap.size := by rw [← hw4]; exact World.putObj_size
                      have hnl3 : ∀ id, ¬ fp3 id l := fun id hb => by
                        rcases hown3 id l hb with h1 | ⟨j, hj, h1⟩
                        · exact hno h1
                        · exact hents2.apart j 1983 l hj h1 hl2
                      have hnIl : ¬ E3.I l := fun hI => (hI3 l hI).elim (hents2.I 1983 l hl2) hnI
                      have hnBl : ¬ E3.B l := fun hB => hents2.B 1983 l hl2 (hB3 l hB)
                      have hst4 : Stays E3 w3 w4 := fun b hb _ => hoth b (fun e => by subst e; exact hb.elim hnIl hnBl)
                      have hents4 : EntsSat E3 w4 fp3 (upd eo' [1983] (upd eo ci Mc)) := ⟨fun id => (hents3.sat id).mono (.refl E3) hst4 (Nat.le_of_eq hz4.symm) (fun b hb => hoth b (fun e => by subst e; exact hnl3 id hb)),
                        fun id b hb => by rw [hz4]; exact hents3.lt id b hb, hents3.I, hents3.B, hents3.apart, fun b hb => by rw [hz4]; exact hents3.Ilt b hb, hents3.nil, hents3.glob hst4 (fun _ h => h)⟩
                      have hownl : own fpc l := ⟨1983, (c1 l).2 (.inl rfl)⟩
                      have hadv4 : Adv E fpc w1 E3 fp3 w4 := by
                        have hos4 : w4.os = w3.os ∧ TF w3 w4 ∧ w4.output = w3.output := by rw [← hw4]; exact ⟨rfl, .same rfl rfl, rfl⟩
                        refine ⟨⟨hos4.1.trans hadv.keep.os, hos4.2.1.trans hadv.keep.tape, hos4.2.2.trans hadv.keep.output, by rw [hz4]; exact hadv.keep.size, fun b hb hn => (hoth b (fun e => hn (e ▸ hownl))).trans (hadv.keep.same b hb hn)⟩, hadv.le.trans hle3, fun b hb => ?_, fun b hb => hadv.Beq b (hB3 b hb), fun id b hb => ?_⟩
                        · rcases hI3 b hb with h1 | h1
                          · exact hadv.Inew b h1
                          · rcases (hEI b).1 h1 with h2 | h2 | h2
                            · exact .inl h2
                            · exact hadv.Inew b (hJ b h2).1
                            · exact .inr (hadv.onew 1983 b ((hfpa b).2 (.inr (.inr h2))))
                        · rcases hown3 id b hb with h1 | ⟨j, _, h1⟩
                          · exact hadv.onew 1983 b ((hfpa b).2 (.inr (.inl h1)))
                          · exact hadv.onew j b h1
                      have hadvw : Adv E fp w E3 fp3 w4 := hadv4.before hz1 hsame hos htape hout hownc
                      have hfin : Here rg E0 fp0 w0 nt df 2032 (R.T x) (upd eo' [1983] (upd eo ci Mc)) { a with defers := ds.map markOf ++ a.defers } w4 := by
                        refine ⟨E3, fp3, ⟨hs.sz, fun t => (hs.tm t).mono hadvw.le (hs.en.stays hadvw.keep), hents4⟩, fun id hne => ?_, hf.step hadvw (fun id hid => ?_), ⟨fun b o hb => (hd.side b o hb).step hadvw, ?_⟩⟩
                        · rcases hslot3 id with h1 | h1
                          · rw [h1] at hne
                            rcases hslots id with h2 | h2
                            · rw [h2] at hne; have := hnx id hne; omega
                            · omega
                          · omega
                        · rcases hslot3 id with h1 | h1
                          · rcases hslots id with h2 | h2
                            · exact h1.trans h2
                            · omega
                          · omega
                        · obtain ⟨ds0, e1, e2, e3⟩ := hd.marks
                          refine ⟨ds ++ ds0, by simp [e1], List.nodup_append.2 ⟨hndd, e2, fun p hp q hq e => ?_⟩, fun b hb => ?_⟩
                          · subst e
                            have h1 := (hds p hp).1
                            have h2 := (Array.getElem?_eq_some_iff.1 (e3 p hq).2.1).1
                            omega
                          · rcases List.mem_append.1 hb with hb | hb
                            · obtain ⟨h1, h2, h3⟩ := hds b hb
                              refine ⟨by have := hf.keep.size; omega, Aside.step (E := E) (fp := fpc) (w := w1) ⟨h3, fun ⟨id, ho⟩ => ?_, fun hI => ?_, fun hB => ?_⟩ hadv4⟩
                              · by_cases e : id = 1983
                                · subst e
                                  rcases hlold b ((c1 b).1 ho) with h4 | ⟨j, _, h4⟩
                                  · exact h2 h4
                                  · have := hs.en.lt j b h4; omega
                                · have := hs.en.lt id b ((c2 e b).1 ho).2; omega
                              · have := hIltw b (.inl hI); omega
                              · have := hIltw b (.inr hB); omega
                            · exact ⟨(e3 b hb).1, (e3 b hb).2.step hadvw⟩
                      cases hgn : goesB (R.goes x) n with
                      | true =>
                        have : (recAt R x rec' n).pending = none := by simp [recAt, hgn]
                        rw [this]
                        exact hQ _ _ _ _ _ _ (by omega) (hk.t hgn) hfin
                      | false =>
                        have : (recAt R x rec' n).pending = jumpC (R.jump x (n - 1)) := by simp [recAt, hgn]
                        rw [this]
                        have hk := hk.f hgn
                        unfold jumpV at hk
                        split at hk
                        · rename_i j hj
                          rw [hj]
                          exact wpIn_exit (hQ _ _ _ _ _ _ (by omega) hk hfin)
                        · rename_i hj
                          rw [hj]
                          exact wpIn_ret (hQ _ _ _ _ _ _ (by omega) hk hfin)
                        · exact hk.elim
                    · exact hk.elim
                  · exact hk.elim
              exact hcin
        · exact hcall.elim
      · exact hcall.elim
    · exact h.elim
  · exact h.elim

end
end Go.Eng

/-! The engine, part S: the conditions asked of a text of code suffice. -/
set_option linter.unusedVariables false
namespace Go.Eng
variable [DM]
set_option linter.unusedSectionVars false
section
variable {r : Option Nat} {P : Program} {G : Nat → Option Ctr} {An : List Nat → Nat → Option AN} {nt : Nat}

def opsB (nt : Nat) : List Oper → Bool
  | [] => true
  | o :: l => match o.dst with
    | some d => match Nat.blt d nt with | true => opsB nt l | false => false
    | none => opsB nt l
/-- Every target lies in the frame. -/
noncomputable def dstsB (nt : Nat) (c : Code) : Bool :=
  Code.rec (motive := fun _ => Bool) (skip := true) (region := fun _ ops _ => opsB nt ops.toList) (seq := fun _ _ a b => match a with | true => b | false => false)
    (cond := fun _ _ _ a b => match a with | true => b | false => false) (block := fun _ _ a => a) (loop := fun _ a => a)
    (rangeFunc := fun _ ps _ _ a b => match ltB nt ps.toList with | true => (match a with | true => b | false => false) | false => false) (exit := fun _ => true) (scope := fun _ a => a) (label := fun _ => true) (goto := fun _ => true) (ret := true) (refuse := fun _ => true) c

theorem opsB_spec : ∀ (l : List Oper), opsB nt l = true → ∀ (i : Nat) (o : Oper) (d : Nat), l[i]? = some o → o.dst = some d → d < nt
  | [], _, i, o, d, h, _ => by simp at h
  | o0 :: l, h, i, o, d, hi, hd => by
    have ht : opsB nt l = true ∧ ∀ d, o0.dst = some d → d < nt := by
      unfold opsB at h
      split at h
      · rename_i d0 h0
        split at h
        · rename_i hb
          exact ⟨h, fun d hd => by obtain rfl := Option.some.inj (h0.symm.trans hd); exact Nat.le_of_ble_eq_true hb⟩
        · cases h
      · rename_i h0; exact ⟨h, fun d hd => by rw [h0] at hd; cases hd⟩
    cases i with
    | zero => obtain rfl : o0 = o := by simpa using hi
              exact ht.2 d hd
    | succ i => exact opsB_spec l ht.1 i o d (by simpa using hi) hd

theorem both_true {a b : Bool} (h : (match a with | true => b | false => false) = true) : a = true ∧ b = true := by cases a <;> simp_all

section
variable {F : Fence} {n : Nat} {P : Program} {b : Frame} {a : Act} {k : List Item} {cs : List Frame} {w : World} {Q : Exit → Act → World → Prop}
theorem stepR_scope' {c : Code} : step P (lone (b.atR a (.code (.scope c) :: k)) cs w) = .next (lone (b.atR a (.code c :: .inScope c :: k)) cs w) :=
  step_lone_go (by simp [stepG, stepG.exec, Frame.atR])
theorem stepR_inScope' {c : Code} : step P (lone (b.atR a (.inScope c :: k)) cs w) = .next (lone (b.atR a k) cs w) :=
  step_lone_go (by simp [stepG, stepG.exec, Frame.atR])

theorem wpIn_scope' {c : Code} (h : c.wpIn F n P (fun e a w => match e with | .goto _ => False | e => Q e a w) a w) : (Code.scope c).wpIn F n P Q a w := by
  intro b k cs hro hb hr
  have h0 : (lone (b.atR a (.code (.scope c) :: k)) cs w).fenced P F := fenced_calm hb hr rfl
  obtain ⟨e, a₁, w₁, hq, harr⟩ := h b (.inScope c :: k) cs hro hb hr
  cases e with
  | normal => exact ⟨.normal, a₁, w₁, hq, .head h0 stepR_scope' (StepsIn.trans harr (.one (fenced_calm hb hr rfl) stepR_inScope'))⟩
  | exit id =>
    have hx : exitTo id (.inScope c :: k) = exitTo id k := by simp [exitTo]
    exact ⟨.exit id, a₁, w₁, hq, fun k' hk => .head h0 stepR_scope' (harr.1 k' (by rw [hx]; exact hk)),
      fun hr' hk => let ⟨k₁, h1, h2⟩ := harr.2 hr' (by rw [hx]; exact hk); ⟨k₁, h1, .head h0 stepR_scope' h2⟩⟩
  | goto l => exact hq.elim
  | ret => exact ⟨_, a₁, w₁, hq, .of_steps (.one h0 stepR_scope') harr⟩
  | panic ch => exact ⟨_, a₁, w₁, hq, .of_steps (.one h0 stepR_scope') harr⟩
  | outgrown => exact ⟨_, a₁, w₁, hq, .of_steps (.one h0 stepR_scope') harr⟩
end

/-- THE CONDITIONS SUFFICE. -/
theorem vc_ok (hG : Known P G) (hm : P.follows .mixedOrders = true) : ∀ (c : Code), dstsB nt c = true → VOk P G An nt c := by
  intro c
  induction c with
  | skip => intro _ ms r rg E0 fp0 w0 df hr cur nx T M K Q a w hnx h hh hQ; exact wpIn_skip (hQ _ _ _ _ _ _ hnx h hh)
  | region id ops dr =>
    intro hd ms r rg E0 fp0 w0 df hr cur nx T M K Q a w hnx h hh hQ
    obtain ⟨E, fp, hs, hfr, hf, hdf⟩ := hh
    refine reg_ok (K := K) hG hm h (fun i o d ho => opsB_spec ops.toList hd i o d (by simpa using ho)) hs hfr ?_
    intro T' M' E' fp' a' w' hk hs' hfr' hadv hsl hdf'
    exact hQ _ _ _ _ _ _ (by omega) hk ⟨E', fp', hs', hfr', hf.step hadv (fun id hid => hsl id (by omega)), hdf' ▸ hdf.step hadv⟩
  | seq x y ihx ihy =>
    intro hd ms r rg E0 fp0 w0 df hr cur nx T M K Q a w hnx h hh hQ
    obtain ⟨hd1, hd2⟩ := both_true hd
    refine wpIn_seq (ihx hd1 ms r rg E0 fp0 w0 df hr cur nx T M (seqK (fun K nx T M => vc P G An y ms rg cur nx T M K) K) _ a w hnx h hh ?_)
    intro e nx' T' M' a' w' hnx' hk hh'
    cases e with
    | normal => exact ihy hd2 ms r rg E0 fp0 w0 df hr cur nx' T' M' K Q a' w' hnx' hk hh' hQ
    | exit j => exact hQ _ _ _ _ _ _ hnx' hk hh'
    | ret => exact hQ _ _ _ _ _ _ hnx' hk hh'
    | goto l => exact hk.elim
    | panic ch => exact hk.elim
    | outgrown => exact hk.elim
  | cond c x y ihx ihy =>
    intro hd ms r rg E0 fp0 w0 df hr cur nx T M K Q a w hnx h hh hQ
    obtain ⟨hd1, hd2⟩ := both_true hd
    have h : condV T c (vc P G An x ms rg cur nx T M K) (vc P G An y ms rg cur nx T M K) := h
    unfold condV at h
    split at h
    · rename_i t ht
      have hh1 := hh
      obtain ⟨E, fp, hs, _⟩ := hh1
      have hc := ev_sat (E := E) (w := w) (l := [c]) (T := T) (a := a) (fun t _ => hs.tm t) (x := c) (by simp)
      rw [ht] at hc
      have hc' : a.eval c = .bool t := by generalize a.eval c = v at hc; cases hc; rfl
      exact wpIn_cond_split hc' (fun e => ihx hd1 ms r rg E0 fp0 w0 df hr cur nx T M K Q a w hnx (h.t e) hh hQ) (fun e => ihy hd2 ms r rg E0 fp0 w0 df hr cur nx T M K Q a w hnx (h.f e) hh hQ)
    · rename_i p hp
      have hh1 := hh
      obtain ⟨E, fp, hs, _⟩ := hh1
      have hc := ev_sat (E := E) (w := w) (l := [c]) (T := T) (a := a) (fun t _ => hs.tm t) (x := c) (by simp)
      rw [hp] at hc
      obtain ⟨t, ht, hc'⟩ : ∃ t, p t ∧ a.eval c = .bool t := by generalize a.eval c = v at hc; cases hc with | unkB _ b hb => exact ⟨b, hb, rfl⟩
      exact wpIn_cond_split hc' (fun e => ihx hd1 ms r rg E0 fp0 w0 df hr cur nx T M K Q a w hnx (h.t (e ▸ ht)) hh hQ) (fun e => ihy hd2 ms r rg E0 fp0 w0 df hr cur nx T M K Q a w hnx (h.f (e ▸ ht)) hh hQ)
    · exact h.elim
  | block id x ih =>
    intro hd ms r rg E0 fp0 w0 df hr cur nx T M K Q a w hnx h hh hQ
    refine wpIn_block (ih hd ms r rg E0 fp0 w0 df hr id nx T M (blkK id K) _ a w hnx h hh ?_)
    intro e nx' T' M' a' w' hnx' hk hh'
    cases e with
    | normal => exact hQ _ _ _ _ _ _ hnx' hk hh'
    | exit j =>
      simp only [Exit.inBlock]
      simp only [blkK] at hk
      split at hk
      · rename_i hb
        rw [if_pos (Nat.eq_of_beq_eq_true hb)]
        exact hQ _ _ _ _ _ _ hnx' hk hh'
      · rename_i hb
        rw [if_neg (fun e => by subst e; simp at hb)]
        exact hQ _ _ _ _ _ _ hnx' hk hh'
    | ret => exact hQ _ _ _ _ _ _ hnx' hk hh'
    | goto l => exact hk.elim
    | panic ch => exact hk.elim
    | outgrown => exact hk.elim
  | loop x ih =>
    intro hd ms r rg E0 fp0 w0 df hr cur nx T M K Q a w hnx h hh hQ
    have h : loopV An ms rg cur (fun ms nx T M K => vc P G An x ms rg cur nx T M K) T M K := h
    unfold loopV at h
    split at h
    · rename_i L hL
      obtain ⟨x0, h⟩ := h
      obtain ⟨⟨hp0, h⟩, hh0⟩ := matSt_ok h hh
      have h := h.h
      let I : Act → World → Prop := fun a w => ∃ y, L.pre y ∧ Here rg E0 fp0 w0 nt df 2000 (L.T y) (L.M y) a w
      let S : Act → World → Nat → Prop := fun a w n => ∃ y, L.mu y = n ∧ L.pre y ∧ Here rg E0 fp0 w0 nt df 2000 (L.T y) (L.M y) a w
      have hmin : ∀ a w, I a w → ∃ n, S a w n ∧ ∀ k, S a w k → n ≤ k := fun a w ⟨y, hy⟩ => by
        have key : ∀ n, S a w n → ∃ n, S a w n ∧ ∀ k, S a w k → n ≤ k := by
          intro n
          induction n using Nat.strongRecOn with
          | _ n ih =>
            intro hn
            by_cases he : ∃ k, k < n ∧ S a w k
            · obtain ⟨k, h1, h2⟩ := he; exact ih k h1 h2
            · exact ⟨n, hn, fun k hk => by
                rcases Nat.lt_or_ge k n with h1 | h1
                · exact absurd ⟨k, h1, hk⟩ he
                · exact h1⟩
        exact key (L.mu y) ⟨y, rfl, hy⟩
      let μ : Act → World → Nat := fun a w => open Classical in if h : I a w then Classical.choose (hmin a w h) else 0
      have hμ : ∀ a w (h : I a w), S a w (μ a w) ∧ ∀ k, S a w k → μ a w ≤ k := fun a w h => by
        have := Classical.choose_spec (hmin a w h)
        simp only [μ, dif_pos h]; exact this
      refine wpIn_loop I μ ⟨x0, hp0, hh0⟩ (fun a1 w1 hI => ?_)
      obtain ⟨⟨y, hy1, hy2, hy3⟩, _⟩ := hμ a1 w1 hI
      refine ih hd (L.mu y :: ms) r rg E0 fp0 w0 df hr cur 2000 (L.T y) (L.M y) _ _ a1 w1 (Nat.le_refl _) (h y hy2) hy3 ?_
      intro e nx' T' M' a' w' hnx' hk hh'
      cases e with
      | normal =>
        obtain ⟨y', hk⟩ := hk
        obtain ⟨⟨hp, hlt, _⟩, hh2⟩ := matSt_ok hk hh'
        have hI' : I a' w' := ⟨y', hp, hh2⟩
        refine ⟨hI', ?_⟩
        have := (hμ a' w' hI').2 (L.mu y') ⟨y', rfl, hp, hh2⟩
        omega
      | exit j => exact hQ _ _ _ _ _ _ hnx' hk hh'
      | ret => exact hQ _ _ _ _ _ _ hnx' hk hh'
      | goto l => exact hk.elim
      | panic ch => exact hk.elim
      | outgrown => exact hk.elim
    · exact h.elim
  | exit i => intro _ ms r rg E0 fp0 w0 df hr cur nx T M K Q a w hnx h hh hQ; exact wpIn_exit (hQ _ _ _ _ _ _ hnx h hh)
  | label l => intro _ ms r rg E0 fp0 w0 df hr cur nx T M K Q a w hnx h hh hQ; exact wpIn_label (hQ _ _ _ _ _ _ hnx h hh)
  | ret => intro _ ms r rg E0 fp0 w0 df hr cur nx T M K Q a w hnx h hh hQ; exact wpIn_ret (hQ _ _ _ _ _ _ hnx h hh)
  | rangeFunc g ps x y ihx ihy =>
    intro hd ms r rg E0 fp0 w0 df hr cur nx T M K Q a w hnx h hh hQ
    obtain ⟨hd0, hd12⟩ := both_true hd
    obtain ⟨hd1, hd2⟩ := both_true hd12
    exact range_ok hG (ihx hd1) (ihy hd2) (ltB_spec hd0) hr h hh (fun e nx' T' M' a' w' h1 => hQ e nx' T' M' a' w' h1)
  | scope x ih =>
    intro hd ms r rg E0 fp0 w0 df hr cur nx T M K Q a w hnx h hh hQ
    refine wpIn_scope' (ih hd ms r rg E0 fp0 w0 df hr cur nx T M (seqK (fun K nx T M => K .normal nx T M) K) _ a w hnx h hh ?_)
    intro e nx' T' M' a' w' hnx' hk hh'
    cases e with
    | normal => exact hQ _ _ _ _ _ _ hnx' hk hh'
    | exit j => exact hQ _ _ _ _ _ _ hnx' hk hh'
    | ret => exact hQ _ _ _ _ _ _ hnx' hk hh'
    | goto l => exact hk.elim
    | panic ch => exact hk.elim
    | outgrown => exact hk.elim
  | goto l => intro _ ms r rg E0 fp0 w0 df hr cur nx T M K Q a w hnx h hh hQ; exact h.elim
  | refuse y => intro _ ms r rg E0 fp0 w0 df hr cur nx T M K Q a w hnx h hh hQ; exact h.elim

end
end Go.Eng

/-! The engine, part O: a function keeps its contract. -/
set_option linter.unusedVariables false
namespace Go.Eng
variable [DM]
set_option linter.unusedSectionVars false

/-- What is known of functions, as a list. -/
def gOf : List (Nat × Ctr) → Nat → Option Ctr
  | [], _ => none
  | (j, C) :: l, i => match Nat.beq j i with | true => some C | false => gOf l i
def anAt : List (Nat × AN) → Nat → Option AN
  | [], _ => none
  | (j, L) :: l, i => match Nat.beq j i with | true => some L | false => anAt l i
/-- The loops' invariants, as a list. -/
def anOf (l : List (Nat × AN)) (ms : List Nat) (i : Nat) : Option AN := anAt l i
/-- The same, where inner loops may name what is left of the outer ones (the innermost ahead). -/
def anOfM (f : List Nat → List (Nat × AN)) (ms : List Nat) (i : Nat) : Option AN := anAt (f ms) i

def Has (P : Program) (C : Ctr) (g : FuncId) : Prop := C.ok P g ∧ ∀ args w, (callFunc g args).run P w = .ok (.enter g args) w
/-- A function without a body. -/
theorem known_ext {P : Program} {j : Nat} {C : Ctr} {l : List (Nat × Ctr)} (hb : bodyB P j = false) (h : C.okV P j) (k : Known P (gOf l)) : Known P (gOf ((j, C) :: l)) := fun g D e => by
  unfold gOf at e
  split at e
  · rename_i hb'
    obtain rfl := Nat.eq_of_beq_eq_true hb'
    obtain rfl := Option.some.inj e
    exact .inr ⟨hb, h⟩
  · exact k g D e

theorem known_nil (P : Program) : Known P (gOf []) := fun g C h => by cases h
theorem known_cons {P : Program} {j : Nat} {C : Ctr} {l : List (Nat × Ctr)} (h : Has P C j) (k : Known P (gOf l)) : Known P (gOf ((j, C) :: l)) := fun g D e => by
  unfold gOf at e
  split at e
  · rename_i hb
    obtain rfl := Nat.eq_of_beq_eq_true hb
    obtain rfl := Option.some.inj e
    exact .inl h
  · exact k g D e

theorem Fork.pos {b : Bool} {A B : Prop} (h : b = true) (a : A) : Fork b A B := ⟨fun _ => a, fun h' => by rw [h] at h'; cases h'⟩
theorem Fork.neg {b : Bool} {A B : Prop} (h : b = false) (a : B) : Fork b A B := ⟨(fun h' => by rw [h] at h'; cases h'), fun _ => a⟩

section
variable {P : Program} {G : Nat → Option Ctr} {An : List Nat → Nat → Option AN}

theorem vals_ok {T : Tm} {M : En} {nt : Nat} : ∀ (rs : List ResultVar) {K : List SV → Prop}, endL P T M rs K → ∃ ss, K ss ∧ ∀ (E : Env) (fp : Nat → Nat → Prop) (a : Act) (w : World), StSat E w fp a nt T M →
    ∃ vs, (∀ (f : ResultVar → Sem Value) (_ : ∀ u, f (.tmp u) = pure (a.tmps.getD u undef)) (_ : ∀ c t, f (.cell c t) = (do loadVar t (← asAddr (a.tmps.getD c undef)))),
      (rs.mapM f).run P w = .ok vs w) ∧ CellsAre E w ss vs
  | [], K, h => ⟨[], h, fun E fp a w hs => ⟨[], fun f _ _ => by simp, rfl, fun j s hj => by simp at hj⟩⟩
  | .tmp t :: l, K, h => by
    obtain ⟨ss, hk, hss⟩ := vals_ok l (force_spec h)
    refine ⟨_, hk, fun E fp a w hs => ?_⟩
    obtain ⟨vs, h1, h2⟩ := hss E fp a w hs
    refine ⟨a.tmps.getD t undef :: vs, fun f hf hc => by simp only [List.mapM_cons, hf, Sem.run_bind, Sem.run_pure, Result.andThen_ok, h1 f hf hc], by simp [h2.1], fun j s hj => ?_⟩
    cases j with
    | zero =>
      obtain rfl : look T t = s := by simpa using hj
      exact ⟨_, rfl, hs.tm t⟩
    | succ j => exact h2.2 j s (by simpa using hj)
  | .cell c t :: l, K, h => by
    unfold endL at h
    split at h
    · rename_i i off hc0
      split at h
      · rename_i t' cs hf0
        obtain ⟨out, h, hout⟩ := partV_load h
        obtain ⟨ss, hk, hss⟩ := vals_ok l h
        refine ⟨_, hk, fun E fp a w hs => ?_⟩
        obtain ⟨vs, h1, h2⟩ := hss E fp a w hs
        have hp := hs.tm c
        rw [hc0] at hp
        have he := hs.en.sat i
        rw [hf0] at he
        obtain ⟨s', arr, fz, e1, e2, e3, e4, e5, e6⟩ := he
        generalize hq : a.tmps.getD c undef = pv at hp
        cases hp with
        | ptr _ _ s hsl =>
          obtain rfl := Option.some.inj (hsl.symm.trans e1)
          obtain ⟨v, g1, g2⟩ := hout E w s.blk 0 (fun j sv hj => by
            obtain ⟨u, hu, hsat⟩ := e6 j sv hj
            exact ⟨u, by rw [Nat.zero_add]; exact cell_of e3 hu, hsat⟩)
          rw [Nat.zero_add] at g1
          refine ⟨v :: vs, fun f hf hc => ?_, by simp [h2.1], fun j s hj => ?_⟩
          · simp only [List.mapM_cons, hc, hq, asAddr, Sem.run_bind, Sem.run_pure, Result.andThen_ok, g1, h1 f hf hc]
          · cases j with
            | zero =>
              obtain rfl : out = s := by simpa using hj
              exact ⟨_, rfl, g2⟩
            | succ j => exact h2.2 j s (by simpa using hj)
      · exact h.elim
    · exact h.elim

theorem results_run {fn : Func} {tmps : Array Value} {w : World} {vs : List Value}
    (h : ∀ (f : ResultVar → Sem Value) (_ : ∀ u, f (.tmp u) = pure (tmps.getD u undef)) (_ : ∀ c t, f (.cell c t) = (do loadVar t (← asAddr (tmps.getD c undef)))), (fn.results.toList.mapM f).run P w = .ok vs w) :
    (results fn tmps).run P w = .ok (if h : vs.toArray.size = 1 then vs.toArray[0] else .tuple vs.toArray) w := by
  unfold results
  rw [show fn.results = fn.results.toList.toArray by simp, List.mapM_toArray]
  simp only [Sem.run_bind, Sem.run_map]
  rw [h]
  · simp
  · intro u; rfl
  · intro a t; rfl

theorem endV_ok {fn : Func} {T : Tm} {M : En} {nt : Nat} {K : SV → Prop} (h : endV P T M fn.results.toList K) : ∃ s, K s ∧ ∀ (E : Env) (fp : Nat → Nat → Prop) (a : Act) (w : World), StSat E w fp a nt T M →
    ∃ v, (results fn a.tmps).run P w = .ok v w ∧ Sat E w s v := by
  obtain ⟨ss, hk, hss⟩ := vals_ok (nt := nt) _ h
  have hrun : ∀ (E : Env) (fp : Nat → Nat → Prop) (a : Act) (w : World), StSat E w fp a nt T M → ∃ vs : List Value, (results fn a.tmps).run P w = .ok (if h : vs.toArray.size = 1 then vs.toArray[0] else .tuple vs.toArray) w ∧ CellsAre E w ss vs := fun E fp a w hs =>
    let ⟨vs, h1, h2⟩ := hss E fp a w hs
    ⟨vs, results_run h1, h2⟩
  split at hk
  · rename_i s
    refine ⟨s, hk, fun E fp a w hs => ?_⟩
    obtain ⟨vs, h1, h2, h3⟩ := hrun E fp a w hs
    match vs, h2 with
    | [v], _ =>
      obtain ⟨u, hu, hsat⟩ := h3 0 s rfl
      obtain rfl : v = u := by simpa using hu
      exact ⟨v, h1, hsat⟩
  · rename_i hne
    refine ⟨_, hk, fun E fp a w hs => ?_⟩
    obtain ⟨vs, h1, h2, h3⟩ := hrun E fp a w hs
    have hl : vs.toArray.size ≠ 1 := fun e => by
      match ss, h2, hne with
      | [s], _, hne => exact hne s rfl
      | [], h2, _ => simp at e h2; simp [h2] at e
      | _ :: _ :: _, h2, _ => simp at e h2; omega
    rw [dif_neg hl] at h1
    refine ⟨_, h1, .tuple ss _ (fun j => vs.getD j undef) (by simpa using h2) (fun j hj => ?_) (fun j sv hj => ?_)⟩
    · have : j < vs.length := by omega
      simp [this]
    · obtain ⟨u, hu, hsat⟩ := h3 j sv hj
      have : vs.getD j undef = u := by simp [hu]
      rw [this]; exact hsat

theorem newOk_spec {rg : Mp} : ∀ (m : Mp), newOk rg m = true → ∀ j i, mlook m j = some i → j < 1000 → ∃ k, mlook rg j = some k
  | [], _, j, i, h, _ => by cases h
  | (k, i0) :: m, hc, j, i, h, hj => by
    rw [mlook_cons] at h
    have ht : newOk rg m = true ∧ (k < 1000 → ∃ k', mlook rg k = some k') := by
      unfold newOk at hc
      split at hc
      · rename_i hb; exact ⟨hc, fun hk => by have := Nat.le_of_ble_eq_true hb; omega⟩
      · split at hc
        · rename_i k' hk'; exact ⟨hc, fun _ => ⟨k', hk'⟩⟩
        · cases hc
    split at h
    · rename_i e; subst e; exact ht.2 hj
    · exact newOk_spec m ht.1 j i h hj

/-- The marks are taken: nothing else turns. -/
theorem takes_marks {F : Fence} {n : Nat} {fn : Func} {tmps : Array Value} {R : Ending → World → Prop} : ∀ (ds : List Nat) (w : World), ds.Nodup → (∀ b, b ∈ ds → w.heap[b]? = some (.deferred (some []))) →
    (∀ w' : World, w'.os = w.os → TF w w' → w'.output = w.output → w'.heap.size = w.heap.size → (∀ b, b ∉ ds → w'.heap[b]? = w.heap[b]?) → ∃ v, (results fn tmps).run P w' = .ok v w' ∧ R (.returned v) w') →
    LeavesInM F n P fn tmps R (ds.map markOf) .returning w
  | [], w, _, _, h => h w rfl (.refl w) rfl rfl (fun _ _ => rfl)
  | b :: ds, w, hn, hb, h => by
    obtain ⟨hn1, hn2⟩ := List.nodup_cons.1 hn
    refine ⟨by simp, .inl ⟨b, _, rfl, run_takeDeferred (hb b (List.mem_cons_self ..)), ?_⟩⟩
    refine takes_marks ds _ hn2 (fun c hc => ?_) (fun w' h1 h2 h3 h4 h5 => h w' h1 (h2.trans (.same rfl rfl)) h3 (h4.trans World.putObj_size) (fun c hc => ?_))
    · rw [World.putObj_heap_other (by rintro rfl; exact hn1 hc)]; exact hb c (List.mem_cons_of_mem _ hc)
    · rw [h5 c (fun e => hc (List.mem_cons_of_mem _ e)), World.putObj_heap_other (by rintro rfl; exact hc (List.mem_cons_self ..))]

theorem rgOf_self : ∀ (M : En) (j i : Nat), mlook (rgOf M) j = some i → i = j ∧ j ∈ keys M
  | [], j, i, h => by cases h
  | (k, e) :: M, j, i, h => by
    simp only [rgOf] at h
    rw [mlook_cons] at h
    split at h
    · rename_i e1
      subst e1
      exact ⟨(Option.some.inj h).symm, by simp [keys]⟩
    · obtain ⟨h1, h2⟩ := rgOf_self M j i h
      exact ⟨h1, by simp only [keys, List.map_cons, List.mem_cons] at h2 ⊢; exact .inr h2⟩

theorem keysLt_spec {n : Nat} : ∀ (M : En), keysLt n M = true → ∀ j, j ∈ keys M → j < n
  | [], _, j, h => by cases h
  | (k, e) :: M, h, j, hj => by
    unfold keysLt at h
    split at h
    · rename_i hb
      rcases List.mem_cons.1 (show j ∈ k :: keys M from hj) with rfl | hj
      · exact Nat.le_of_ble_eq_true hb
      · exact keysLt_spec M h j hj
    · cases h

theorem numT_look : ∀ (l : List SV) (n t : Nat), look (numT n l) t = .any ∨ ∃ j, t = n + j ∧ l[j]? = some (look (numT n l) t)
  | [], n, t => .inl rfl
  | s :: l, n, t => by
    simp only [numT, look]
    cases hb : Nat.beq n t with
    | true => obtain rfl := Nat.eq_of_beq_eq_true hb; exact .inr ⟨0, rfl, rfl⟩
    | false =>
      rcases numT_look l (n + 1) t with e | ⟨j, h1, h2⟩
      · exact .inl e
      · exact .inr ⟨j + 1, by omega, by simpa using h2⟩

theorem ok_of_vc {C : Ctr} {An : C.X → List Nat → Nat → Option AN} {f : FuncId} {fn : Func} (hG : Known P G) (hm : P.follows .mixedOrders = true) (hf : P.funcs[f]? = some fn) (hb : fn.body = some (bodyC fn)) (hd : dstsB fn.ntmps (bodyC fn) = true)
    (hens : ∀ x, C.side x → C.ens x (C.val x)) (h : ∀ x, C.side x → fnVC P G (An x) fn C x) : C.ok P f := by
  intro x hside
  refine ⟨hens x hside, fun E fp vals w hsz hvals hents hnames => ?_⟩
  have h := h x hside
  unfold fnVC at h
  split at h
  · rename_i hkeys
    split at h
    · rename_i hlen
      have hlen := Nat.le_of_ble_eq_true hlen
      have hrg : ∀ j i, mlook (rgOf (C.rw x)) j = some i → i = j ∧ j < 1000 := fun j i hj => by
        obtain ⟨h1, h2⟩ := rgOf_self _ j i hj
        exact ⟨h1, keysLt_spec _ hkeys j h2⟩
      refine callsIn_of_wp_marks (F := fence none) hf hb trivial ?_
      have hst : StSat E w fp { tmps := vals ++ Array.replicate (fn.ntmps - vals.size) undef, defers := [] } fn.ntmps (numT 0 (C.args x)) (C.rw x) := by
        refine ⟨by simp; omega, fun t => ?_, hents⟩
        rcases numT_look (C.args x) 0 t with e | ⟨j, h1, h2⟩
        · rw [e]; exact .any _
        · obtain rfl : t = j := by omega
          have hj := (List.getElem?_eq_some_iff.1 h2).1
          have := hvals t _ h2
          have e : (vals ++ Array.replicate (fn.ntmps - vals.size) undef).getD t undef = vals.getD t undef := by
            have hlt : t < vals.size := by omega
            simp [Array.getElem?_append, hlt]
          rw [e]; exact this
      have fin : ∀ nx' T' M' a' w', (endV P T' M' fn.results.toList fun v => postB C x (rgOf (C.rw x)) M' v) → Here (rgOf (C.rw x)) E fp w fn.ntmps [] nx' T' M' a' w' →
          LeavesInM (fence none) 0 P fn a'.tmps (fun e w' => ∃ u E' fp', e = .returned u ∧ Sat E' w' (C.res x (C.val x)) u ∧ EntsSat E' w' fp' (C.out x (C.val x)) ∧ Adv E fp w E' fp' w' ∧ ∀ id, id < 1000 → E'.slot id = E.slot id) a'.defers .returning w' := by
        intro nx' T' M' a' w0 hk hh
        obtain ⟨E1, fp1, hs0, hnx, hfrom0, hheld⟩ := hh
        obtain ⟨ds, hds, hnd, hmk⟩ := hheld.marks
        rw [hds]
        refine takes_marks ds w0 hnd (fun b hb => (hmk b hb).2.1) (fun w' h1 h2 h3 h4 h5 => ?_)
        have hne : ∀ b, own fp1 b → b ∉ ds := fun b hb hm => (hmk b hm).2.2.1 hb
        have hIs : Stays E1 w0 w' := fun b hb _ => h5 b (fun hm => hb.elim (hmk b hm).2.2.2.1 (hmk b hm).2.2.2.2)
        have hs : StSat E1 w' fp1 a' fn.ntmps T' M' := ⟨hs0.sz, fun t => (hs0.tm t).mono (.refl E1) hIs, ⟨fun id => (hs0.en.sat id).mono (.refl E1) hIs (by omega) (fun b hb => h5 b (hne b ⟨id, hb⟩)),
          fun id b hb => by rw [h4]; exact hs0.en.lt id b hb, hs0.en.I, hs0.en.B, hs0.en.apart, fun b hb => by rw [h4]; exact hs0.en.Ilt b hb, hs0.en.nil, hs0.en.glob hIs (fun _ h => h)⟩⟩
        have hfrom : From (rgOf (C.rw x)) E fp w E1 fp1 w' := ⟨⟨h1.trans hfrom0.keep.os, h2.trans hfrom0.keep.tape, h3.trans hfrom0.keep.output, by have := hfrom0.keep.size; omega,
          fun b hb hn => (h5 b (fun hm => by have := (hmk b hm).1; omega)).trans (hfrom0.keep.same b hb hn)⟩, hfrom0.I, hfrom0.Inew, hfrom0.B, hfrom0.onew, hfrom0.slot⟩
        obtain ⟨s, hk, hrun⟩ := endV_ok (nt := fn.ntmps) hk
        obtain ⟨v, hv1, hv2⟩ := hrun E1 fp1 a' w' hs
        refine ⟨v, hv1, v, ?_⟩
        unfold postB at hk
        obtain ⟨m1, bs1, fs1, q1, hk, g1, d1⟩ := (mat_good M' 200).1 _ _ _ _ _ _ _ hk
        obtain ⟨m, bs, fs, q, us, hk, g2, ht, hsem⟩ := matE_good _ hk
        cases bs with
        | cons _ _ => exact hk.elim
        | nil =>
          simp only at hk
          split at hk
          · exact hk.elim
          · rename_i hchk
            simp only [Bool.or_eq_false_iff, Bool.not_eq_false'] at hchk
            obtain ⟨⟨hfu, hnew⟩, hlt⟩ := hchk
            have hq := conj_all q hk.e
            have hlent : Lent M' E1 w' fp1 [] fs := ⟨hs.en.nil, fun i hi => hs.en.sat i⟩
            have hT := EntsSat.target (M := M') (bs := []) hs.en (fun i hi => hs.en.sat i) ht (fun j e hm i hi he => hsem hq E1 w' fp1 hlent j e hm i hi he) (by rfl) hfu
            have hR := hfrom.rename fs (C.out x (C.val x)) (fun j i hj => g2.m j i (g1.m j i hj))
            have hS := d1.grow g2 hq E1 w' fp1 hlent _ hv2
            -- the names of the entry stand as they stood
            let E2 : Env := { slot := fun id => if id < 1000 then E.slot id else (envF E1 fp1 m [] fs).slot id, I := (envF E1 fp1 m [] fs).I, B := E.B }
            have hslot : ∀ id, id < 1000 → ∀ s, (envF E1 fp1 m [] fs).slot id = some s → E.slot id = some s := fun id hid s hs => by
              cases hm : mlook m id with
              | none => simp only [envF, nilB_lt (show id < 1984 by omega), hm] at hs; cases hs
              | some i =>
                obtain ⟨k, hk⟩ := newOk_spec m hnew id i hm hid
                rw [← (hR.slot id k hk).2.2]; exact hs
            have hle : (envF E1 fp1 m [] fs).le E2 := by
              refine ⟨fun id s hs => ?_, fun b hb => hb, fun b hb => (hR.B b).1 hb⟩
              by_cases hid : id < 1000
              · simp only [E2, if_pos hid]; exact hslot id hid s hs
              · simp only [E2, if_neg hid]; exact hs
            have hst0 : Stays (envF E1 fp1 m [] fs) w' w' := fun _ _ _ => rfl
            refine ⟨E2, fpF fp1 m (C.out x (C.val x)), rfl, hS.mono hle hst0, ⟨fun id => (hT.sat id).mono hle hst0 (Nat.le_refl _) (fun _ _ => rfl), hT.lt, hT.I, fun id b hb hB => hT.B id b hb ((hR.B b).2 hB), hT.apart, fun b hb => ?_, hT.nil.mono hle, hT.gl.mono hle.I (fun _ _ => rfl)⟩,
              ⟨hR.keep, ⟨fun id s hs => ?_, hR.I, fun b hb => hb⟩, hR.Inew, fun b hb => hb, hR.onew⟩, fun id hid => by simp only [E2, if_pos hid]⟩
            · rcases hb with hb | hb
              · exact hT.Ilt b (.inl hb)
              · exact hT.Ilt b (.inr ((hR.B b).2 hb))
            · by_cases hid : id < 1000
              · simp only [E2, if_pos hid]; exact hs
              · have hz := (hnames id (by rw [hs]; simp)).resolve_left hid
                simp only [E2, if_neg hid, envF, hz]
                rw [← hents.nil id hz]; exact hs
      refine vc_ok (nt := fn.ntmps) hG hm (bodyC fn) hd [] none (rgOf (C.rw x)) E fp w [] (fun l hl => by cases hl) 0 2000 _ _ _ (bodyPostM (fence none) 0 P fn _) _ w (Nat.le_refl _) h
        ⟨E, fp, hst, fun id hne => by rcases hnames id hne with h | h; omega; exact (nilB_range h).2, From.refl E fp w (fun j i hj => ⟨(hrg j i hj).1, by have := (hrg j i hj).2; omega⟩), (fun _ _ h => by cases h), [], rfl, List.nodup_nil, fun _ h => by cases h⟩ ?_
      intro e nx' T' M' a' w' _ hk hh
      cases e with
      | normal => exact fin _ _ _ _ _ hk hh
      | ret => exact fin _ _ _ _ _ hk hh
      | _ => exact hk.elim
    · exact h.elim
  · exact h.elim

end
end Go.Eng

/-! The engine, part T: the steps of a proof of conditions, each with the proof of its side. -/
set_option linter.unusedVariables false
namespace Go.Eng
variable [DM]
set_option linter.unusedSectionVars false

/-- A condition that holds. -/
theorem F1 {b : Bool} {A B : Prop} (h : A) (e : b = true := by
    first
      | with_reducible rfl
      | with_reducible assumption
      | with_reducible exact Eq.trans (by assumption) (by assumption)
      | (simp only [decide_eq_true_eq, decide_eq_false_iff_not, beq_iff_eq, bne_iff_ne, beq_eq_false_iff_ne, bne_eq_false_iff_eq, ge_iff_le, gt_iff_lt, Bool.not_eq_true', Bool.not_eq_false', ne_eq, Bool.or_eq_true, Bool.and_eq_true, Option.isNone_none, Option.isNone_some, Bool.true_eq_false, Bool.false_eq_true, not_true, not_false_eq_true] <;> first
          | with_reducible assumption
          | omega
          | with_reducible exact Eq.trans (by assumption) (by assumption)
          | fail)
      | (simp only [lm, Bool.not_true, Bool.not_false, decide_eq_true_eq, beq_iff_eq, bne_iff_ne, ne_eq] <;> omega)
      | fail) : Fork b A B := ⟨fun _ => h, fun h2 => (by rw [e] at h2; cases h2)⟩
/-- A condition that does not. -/
theorem F2 {b : Bool} {A B : Prop} (h : B) (e : b = false := by
    first
      | with_reducible rfl
      | with_reducible assumption
      | with_reducible exact Eq.trans (by assumption) (by assumption)
      | (simp only [decide_eq_true_eq, decide_eq_false_iff_not, beq_iff_eq, bne_iff_ne, beq_eq_false_iff_ne, bne_eq_false_iff_eq, ge_iff_le, gt_iff_lt, Bool.not_eq_true', Bool.not_eq_false', ne_eq, Bool.or_eq_true, Bool.and_eq_true, Option.isNone_none, Option.isNone_some, Bool.true_eq_false, Bool.false_eq_true, not_true, not_false_eq_true] <;> first
          | with_reducible assumption
          | omega
          | with_reducible exact Eq.trans (by assumption) (by assumption)
          | fail)
      | (simp only [lm, Bool.not_true, Bool.not_false, decide_eq_false_iff_not, beq_eq_false_iff_ne] <;> omega)
      | fail) : Fork b A B := ⟨fun h2 => (by rw [e] at h2; cases h2), fun _ => h⟩
/-- A condition either way, in plain words. -/
theorem F3 {b : Bool} {A B p q : Prop} (hp : p → A) (hq : q → B) (e : (b = true) = p := by first | (simp only [decide_eq_true_eq, beq_iff_eq, bne_iff_ne, ge_iff_le, gt_iff_lt, Bool.not_eq_true', ne_eq, Bool.or_eq_true, Bool.and_eq_true]; first | done | exact rfl) | exact rfl)
    (e' : (b = false) = q := by first | (simp only [decide_eq_false_iff_not, beq_eq_false_iff_ne, bne_eq_false_iff_eq, ge_iff_le, gt_iff_lt, Bool.not_eq_false', ne_eq]; first | done | exact rfl) | exact rfl) : Fork b A B :=
  ⟨fun h => hp (e ▸ h), fun h => hq (e' ▸ h)⟩
theorem F4 {r : Bool → Prop} {A B p q : Prop} (hp : p → A) (hq : q → B) (e : r true = p := by first | (simp only [forall_const, true_implies, Bool.false_eq_true, Bool.true_eq_false, false_implies, List.length_eq_zero_iff]; first | done | exact rfl) | exact rfl)
    (e' : r false = q := by first | (simp only [forall_const, true_implies, Bool.false_eq_true, Bool.true_eq_false, false_implies, List.length_eq_zero_iff]; first | done | exact rfl) | exact rfl) : ForkP r A B :=
  ⟨fun h => hp (e ▸ h), fun h => hq (e' ▸ h)⟩
/-- Any order. -/
theorem R1 {b : Bool} {K : Prop} (h : K) (e : b = true := by kernel_rfl) : Race b K := ⟨e, h⟩
/-- No overflow. -/
theorem A1 {n : Int} {K : Int → Prop} (h : K n) (h0 : -9223372036854775808 ≤ n := by first | omega | ((try dsimp only [List.length_cons, List.length_nil]); omega) | ((try dsimp only) <;> simp only [lm] <;> omega)) (h1 : n ≤ 9223372036854775807 := by first | omega | ((try dsimp only [List.length_cons, List.length_nil]); omega) | ((try dsimp only) <;> simp only [lm] <;> omega)) : Ar .i64 n K := .fit (wrap_i64 h0 h1) h
theorem A2 {n : Int} {K : Int → Prop} (h : K n) (h0 : 0 ≤ n := by first | omega | ((try dsimp only [List.length_cons, List.length_nil]); omega) | ((try dsimp only) <;> simp only [lm] <;> omega)) (h1 : n ≤ 18446744073709551615 := by first | omega | ((try dsimp only [List.length_cons, List.length_nil]); omega) | ((try dsimp only) <;> simp only [lm] <;> omega)) : Ar .u64 n K := .fit (wrap_u64 h0 h1) h
theorem A3 {n : Int} {K : Int → Prop} (h : K n) (h0 : 0 ≤ n := by first | omega | ((try dsimp only [List.length_cons, List.length_nil]); omega) | ((try dsimp only) <;> simp only [lm] <;> omega)) (h1 : n ≤ 255 := by first | omega | ((try dsimp only [List.length_cons, List.length_nil]); omega) | ((try dsimp only) <;> simp only [lm] <;> omega)) : Ar .u8 n K := .fit (wrap_u8 h0 h1) h
/-- Equations. -/
theorem L1 {q : List Prop} {K : Prop} (h : K) (e : conj q := by
    (simp only [conj]; repeat' apply And.intro) <;> first
      | rfl
      | trivial
      | ((try dsimp only) <;> omega)
      | (simp only [lm]; done)
      | (simp only [lm] <;> omega)
      | (simp only [lm]; refine Bool.eq_iff_iff.2 ?_; simp only [decide_eq_true_eq, Bool.false_eq_true, true_iff, iff_true, false_iff, iff_false, eq_self]; omega)
      | (simp only [*, lm]; done)
      | (((try with_reducible conv => (rhs; whnf)) <;> (try dsimp only)) <;> first
           | omega
           | (refine Bool.eq_iff_iff.2 ?_; simp only [decide_eq_true_eq, Bool.false_eq_true, true_iff, iff_true, false_iff, iff_false, eq_self]; omega)
           | (simp only [decide_eq_true_eq, decide_eq_false_iff_not, beq_iff_eq, bne_iff_ne, beq_eq_false_iff_ne, ge_iff_le, gt_iff_lt, Bool.not_eq_true', Bool.not_eq_false', ne_eq, Bool.or_eq_true, Bool.and_eq_true, Bool.true_eq_false, Bool.false_eq_true, not_true, not_false_eq_true] <;> first
               | with_reducible assumption
               | omega)
           | (simp only [*, if_true, if_false, Bool.false_eq_true]; done)
           | fail)
      | fail) : AskL q K := ⟨e, h⟩
/-- A side condition. -/
theorem K1 {p K : Prop} (h : K) (e : p := by
    (((try with_reducible conv => whnf) <;> (try dsimp only [List.length_cons, List.length_nil])) <;> first
      | omega
      | trivial
      | (simp only [lm] <;> omega)
      | fail)) : Ask p K := ⟨e, h⟩
/-- What a call hands back. -/
theorem Y2 {α β : Type} {v : α × β} {p K : α × β → Prop} (h : ∀ y, y.1 = v.1 → y.2 = v.2 → p y → K y) : All' (fun y => y = v ∧ p y) K := ⟨fun y hy => h y (by rw [hy.1]) (by rw [hy.1]) hy.2⟩
theorem Y1 {α : Type} {v : α} {p K : α → Prop} (h : ∀ y, y = v → p y → K y) : All' (fun y => y = v ∧ p y) K := ⟨fun y hy => h y hy.1 hy.2⟩
theorem Q1 {α : Type} {a b : α} {K : Prop} (h : K) (e : a = b := by with_reducible rfl) : Eqn a b K := ⟨e, h⟩
/-- The calls to come, with what they are given. -/
structure Hc (C : Ctr) (x : C.X) (r : Prop) : Prop where mk ::
  t : r
theorem H1 {C : Ctr} {x : C.X} {r : Prop} {args : List SV} {M : En} {lo : Nat} {Kg : SV → List Nat → List Nat → En → Prop} (g : Hc C x r) (h : r → CallB C args M lo Kg x) : CallP C args M lo Kg := .mk x (h g.t)
theorem H2 {D : Ctr} {z : D.X} {C : Ctr} {x : C.X} {r : Prop} {args : List SV} {M : En} {lo : Nat} {Kg : SV → List Nat → List Nat → En → Prop} (g : Hc D z (Hc C x r)) (h : r → CallB C args M lo Kg x) : CallP C args M lo Kg := .mk x (h g.t.t)
/-- All steps, to the end. -/
theorem G1 {p : Prop} (h : p := by
    ((repeat' ((conv => whnf) <;> first | exact True.intro | (guard_target =~ Fork _ _ _; first | refine F1 ?_ | refine F2 ?_ | refine F3 (fun h => ?_) fun h => ?_) | (guard_target =~ Ar _ _ _; first | refine A1 ?_ | refine A2 ?_ | refine A3 ?_) | (guard_target =~ AskL _ _; first | refine L1 ?_) | (guard_target =~ Go.Eng.Ask _ _; first | refine K1 ?_) | (guard_target =~ CallP _ _ _ _ _; first | refine H1 ck fun ck => ?_ | refine H2 ck fun ck => ?_) | (guard_target =~ All' _ _; first | (refine Y2 fun y he he' hy => ?_; (try dsimp only at he he' hy)) | (refine Y1 fun y he hy => ?_; (try with_reducible conv at he => (rhs; whnf)); (try dsimp only at he hy)) | (refine All'.mk ?_; intro y hy)) | refine F4 (fun h => ?_) fun h => ?_ | refine R1 ?_ | refine Q1 ?_ | fail)); done)) : p := h

/-- (Kept from being taken for an assumption.) -/
structure Hid (A : Prop) : Prop where mk ::
  h : A
/-- What is left of a run of steps: two ways; a call's result (a pair, another); a load; a call. -/
structure Bd1 (A B : Prop) : Prop where mk ::
  t : A
  f : B
structure Bd2 (A : Prop) : Prop where mk ::
  h : A
structure Bd3 (A : Prop) : Prop where mk ::
  h : A
structure Bd4 (A : Prop) : Prop where mk ::
  h : A
structure Bd5 (A : Prop) : Prop where mk ::
  h : A
theorem B1 {A B : Prop} (h : A) (k : B) : Bd1 A B := ⟨h, k⟩
theorem B2 {A : Prop} (h : A) : Bd2 A := ⟨h⟩
theorem B3 {A : Prop} (h : A) : Bd3 A := ⟨h⟩
theorem B4 {A : Prop} (h : A) : Bd4 A := ⟨h⟩
theorem B5 {A : Prop} (h : A) : Bd5 A := ⟨h⟩
theorem F7 {b : Bool} {A B p q : Prop} (h : Bd1 (p → A) (q → B)) (e : (b = true) = p := by first | (simp only [decide_eq_true_eq, beq_iff_eq, bne_iff_ne, ge_iff_le, gt_iff_lt, Bool.not_eq_true', ne_eq, Bool.or_eq_true, Bool.and_eq_true]; first | done | exact rfl) | exact rfl)
    (e' : (b = false) = q := by first | (simp only [decide_eq_false_iff_not, beq_eq_false_iff_ne, bne_eq_false_iff_eq, ge_iff_le, gt_iff_lt, Bool.not_eq_false', ne_eq]; first | done | exact rfl) | exact rfl) : Fork b A B := F3 h.t h.f e e'
theorem F8 {r : Bool → Prop} {A B p q : Prop} (h : Bd1 (p → A) (q → B)) (e : r true = p := by first | (simp only [forall_const, true_implies, Bool.false_eq_true, Bool.true_eq_false, false_implies, List.length_eq_zero_iff]; first | done | exact rfl) | exact rfl)
    (e' : r false = q := by first | (simp only [forall_const, true_implies, Bool.false_eq_true, Bool.true_eq_false, false_implies, List.length_eq_zero_iff]; first | done | exact rfl) | exact rfl) : ForkP r A B := F4 h.t h.f e e'
/-- A run of steps. -/
theorem Z {G X : Prop} (h : X) (d : Hid X → G := by
    intro hx
    (conv => whnf)
    (repeat ((first | (guard_target =~ Go.Eng.Fork _ _ _; first | refine F1 ?_ | refine F2 ?_) | (guard_target =~ Go.Eng.Ar _ _ _; first | refine A1 ?_ | refine A2 ?_ | refine A3 ?_) | (guard_target =~ Go.Eng.AskL _ _; first | refine L1 ?_) | (guard_target =~ Go.Eng.Ask _ _; first | refine K1 ?_) | (guard_target =~ Go.Eng.Race _ _; refine R1 ?_) | (guard_target =~ Go.Eng.Eqn _ _ _; refine Q1 ?_)); (conv => whnf)))
    first | (guard_target =~ Go.Eng.Fork _ _ _; exact F7 hx.h) | (guard_target =~ Go.Eng.ForkP _ _ _; exact F8 hx.h) | (guard_target =~ Go.Eng.CallP _ _ _ _ _; first | exact H1 ck (Bd5.h hx.h) | exact H2 ck (Bd5.h hx.h)) | (guard_target =~ Go.Eng.All' _ _; first | (refine Y2 fun y he he' hy => ?_; (try dsimp only at he he' hy); revert y he he' hy; exact Bd2.h hx.h) | (refine Y1 fun y he hy => ?_; (try with_reducible conv at he => (rhs; whnf)); (try dsimp only at he hy); revert y he hy; exact Bd3.h hx.h) | (refine All'.mk ?_; exact Bd4.h hx.h)) | exact hx.h) : G := d ⟨h⟩
/-- The same; a load is left. -/
theorem Zm {G X : Prop} (h : X) (d : Hid X → G := by
    intro hx
    (conv => whnf)
    (repeat ((first | (guard_target =~ Go.Eng.Fork _ _ _; first | refine F1 ?_ | refine F2 ?_) | (guard_target =~ Go.Eng.Ar _ _ _; first | refine A1 ?_ | refine A2 ?_ | refine A3 ?_) | (guard_target =~ Go.Eng.AskL _ _; first | refine L1 ?_) | (guard_target =~ Go.Eng.Ask _ _; first | refine K1 ?_) | (guard_target =~ Go.Eng.Race _ _; refine R1 ?_) | (guard_target =~ Go.Eng.Eqn _ _ _; refine Q1 ?_)); (conv => whnf)))
    first | (guard_target =~ Go.Eng.Fork _ _ _; exact F7 hx.h) | (guard_target =~ Go.Eng.ForkP _ _ _; exact F8 hx.h) | (guard_target =~ Go.Eng.CallP _ _ _ _ _; first | exact H1 ck (Bd5.h hx.h) | exact H2 ck (Bd5.h hx.h)) | (guard_target =~ Go.Eng.All' _ _; first | (refine Y2 fun y he he' hy => ?_; (try dsimp only at he he' hy); revert y he he' hy; exact Bd2.h hx.h) | (refine Y1 fun y he hy => ?_; (try with_reducible conv at he => (rhs; whnf)); (try dsimp only at he hy); revert y he hy; exact Bd3.h hx.h)) | exact hx.h) : G := d ⟨h⟩
/-- The same; equations are left. -/
theorem Zn {G X : Prop} (h : X) (d : Hid X → G := by
    intro hx
    (conv => whnf)
    (repeat ((first | (guard_target =~ Go.Eng.Fork _ _ _; first | refine F1 ?_ | refine F2 ?_) | (guard_target =~ Go.Eng.Ar _ _ _; first | refine A1 ?_ | refine A2 ?_ | refine A3 ?_) | (guard_target =~ Go.Eng.Ask _ _; first | refine K1 ?_) | (guard_target =~ Go.Eng.Race _ _; refine R1 ?_) | (guard_target =~ Go.Eng.Eqn _ _ _; refine Q1 ?_)); (conv => whnf)))
    first | (guard_target =~ Go.Eng.Fork _ _ _; exact F7 hx.h) | (guard_target =~ Go.Eng.ForkP _ _ _; exact F8 hx.h) | (guard_target =~ Go.Eng.CallP _ _ _ _ _; first | exact H1 ck (Bd5.h hx.h) | exact H2 ck (Bd5.h hx.h)) | (guard_target =~ Go.Eng.All' _ _; first | (refine Y2 fun y he he' hy => ?_; (try dsimp only at he he' hy); revert y he he' hy; exact Bd2.h hx.h) | (refine Y1 fun y he hy => ?_; (try with_reducible conv at he => (rhs; whnf)); (try dsimp only at he hy); revert y he hy; exact Bd3.h hx.h) | (refine All'.mk ?_; exact Bd4.h hx.h)) | exact hx.h) : G := d ⟨h⟩

/-- As a rule it is not asked. -/
instance dmF : DM := ⟨False⟩

end Go.Eng

set_option linter.unusedVariables false
set_option linter.unusedSimpArgs false
namespace Go.Proofs.YthmbdjhlfieldaaGreatDoor
open Go.Eng
theorem mo : Tryz.prog.follows .mixedOrders = true := by kernel_rfl

theorem str_cat (a b : List Int) : strOfNums a ++ strOfNums b = strOfNums (a ++ b) := by
  apply ByteArray.ext
  simp [strOfNums, ByteArray.data_append]
theorem str_size (a : List Int) : (strOfNums a).size = a.length := strOfNums_size a
theorem str_bytesL (s : ByteArray) : strOfNums (bytesL s) = s := by
  apply ByteArray.ext
  apply Array.toList_inj.1
  rw [strOfNums_data]
  unfold bytesL
  rw [List.map_map]
  have : ((fun n : Int => UInt8.ofNat n.toNat) ∘ fun b : UInt8 => ((b.toNat : Nat) : Int)) = id := by
    funext b; simp
  rw [this, List.map_id]
theorem bytesL_length (s : ByteArray) : (bytesL s).length = s.size := by
  show (s.data.toList.map _).length = s.data.size
  simp

theorem wrap_u8_mod (n : Int) : IntKind.u8.wrap n = n % 256 := by
  simp only [IntKind.wrap, IntKind.bits, IntKind.signed, Bool.false_and, Bool.false_eq_true, if_false]
  rfl
theorem wrap_u64_mod (n : Int) : IntKind.u64.wrap n = n % 18446744073709551616 := by
  simp only [IntKind.wrap, IntKind.bits, IntKind.signed, Bool.false_and, Bool.false_eq_true, if_false]
  rfl

/-- The digits of a number to the base 256, the greatest ahead. -/
def beL (u : Nat) : List Int := if h : u = 0 then [] else beL (u / 256) ++ [((u % 256 : Nat) : Int)]
termination_by u
decreasing_by omega
theorem beL_zero : beL 0 = [] := by rw [beL]; simp
theorem beL_pos {u : Nat} (h : 0 < u) : beL u = beL (u / 256) ++ [((u % 256 : Nat) : Int)] := by
  rw [beL, dif_neg (by omega)]
theorem beL_len_pos {u : Nat} (h : 0 < u) : (beL u).length = (beL (u / 256)).length + 1 := by rw [beL_pos h]; simp
theorem beL_lt : ∀ (n u : Nat), u < 256 ^ n → (beL u).length ≤ n
  | 0, u, h => by have : u = 0 := by omega
                  subst this; rw [beL_zero]; exact Nat.le_refl 0
  | n + 1, u, h => by
    rcases Nat.eq_zero_or_pos u with rfl | hp
    · rw [beL_zero]; exact Nat.zero_le _
    · rw [beL_len_pos hp]
      have := beL_lt n (u / 256) (by rw [Nat.pow_succ] at h; omega)
      omega
/-- What is left when r digits are struck off. -/
theorem beL_shift : ∀ (r u : Nat), r ≤ (beL u).length → (beL (u / 256 ^ r)).length = (beL u).length - r
  | 0, u, _ => by simp
  | r + 1, u, h => by
    rcases Nat.eq_zero_or_pos u with rfl | hp
    · rw [beL_zero] at h; simp at h
    · have e := beL_len_pos hp
      have := beL_shift r (u / 256) (by omega)
      rw [Nat.div_div_eq_div_mul, Nat.mul_comm, ← Nat.pow_succ] at this
      rw [this]; omega
theorem beL_len_zero {u : Nat} (h : (beL u).length = 0) : u = 0 := by
  rcases Nat.eq_zero_or_pos u with h0 | hp
  · exact h0
  · rw [beL_len_pos hp] at h; omega
theorem beL_step (r u : Nat) (h : r < (beL u).length) : beL (u / 256 ^ r) = beL (u / 256 ^ (r + 1)) ++ [((u / 256 ^ r % 256 : Nat) : Int)] := by
  have h1 := beL_shift r u (by omega)
  have hp : 0 < u / 256 ^ r := by
    rcases Nat.eq_zero_or_pos (u / 256 ^ r) with h0 | hp
    · rw [h0, beL_zero] at h1; simp at h1; omega
    · exact hp
  rw [beL_pos hp, Nat.div_div_eq_div_mul, ← Nat.pow_succ]
theorem beL_all (u : Nat) : u / 256 ^ (beL u).length = 0 := beL_len_zero (by rw [beL_shift _ u (Nat.le_refl _)]; omega)

/-- A number's bytes. -/
def numL (u : Nat) : List Int := if u ≤ 247 then [(u : Int)] else ((247 + (beL u).length : Nat) : Int) :: beL u
theorem numL_small {u : Nat} (h : u ≤ 247) : numL u = [(u : Int)] := if_pos h
theorem numL_great {u : Nat} (h : ¬ u ≤ 247) : numL u = ((247 + (beL u).length : Nat) : Int) :: beL u := if_neg h
theorem numL_le {u : Nat} (h : u < 18446744073709551616) : (numL u).length ≤ 9 := by
  unfold numL
  split
  · simp
  · have := beL_lt 8 u (by omega)
    simp; omega
end Go.Proofs.YthmbdjhlfieldaaGreatDoor

set_option linter.unusedVariables false
set_option linter.unusedSimpArgs false
set_option maxRecDepth 100000
namespace Go.Proofs.YthmbdjhlfieldaaGreatDoor
open Go.Eng
variable [DM]
set_option linter.unusedSectionVars false
@[reducible] def sizeC : Ctr := {
  X := Nat
  Y := Int
  args := fun u => [.v (.int .u64 (u : Nat))]
  rw := fun _ => []
  side := fun u => u < 18446744073709551616
  val := fun u => if u ≤ 247 then 1 else 1 + ((beL u).length : Nat)
  ens := fun _ _ => True
  res := fun _ y => .v (.int .i64 y)
  out := fun _ _ => [] }

structure SizeS where
  u : Nat
  n : Nat
@[reducible] def sizeL (u : Nat) : LA := {
  X := SizeS
  pre := fun s => s.n + (beL s.u).length = 1 + (beL u).length ∧ s.u < 18446744073709551616
  mu := fun s => s.u
  T := fun s => [(0, .v (.int .u64 (s.u : Nat))), (3, .v (.int .i64 (s.n : Nat)))]
  M := fun _ => [] }

theorem fdiv_pow (u k : Nat) (h : k ≤ 64) : ((u : Nat) : Int).fdiv (2 ^ min k IntKind.u64.bits) = ((u / 2 ^ k : Nat) : Int) := by
  have : min k IntKind.u64.bits = k := by show min k 64 = k; omega
  rw [this, Int.fdiv_eq_ediv_of_nonneg _ (by exact Int.le_of_lt (Int.pow_pos (by omega)))]
  norm_cast

theorem size_ok : sizeC.ok Tryz.prog 105 := by
  refine ok_of_vc (An := fun (u : Nat) => anOf [(0, .loop (sizeL u))]) (known_nil _) mo Tryz.func105 (by kernel_rfl) (by kernel_rfl) (fun _ _ => trivial) (fun (u : Nat) hs => ?_)
  have hs : u < 18446744073709551616 := hs
  have hb := beL_lt 8 u (by omega)
  (refine Z ?_; repeat' (first | exact .intro | ((first | refine B1 (fun h => ?_) fun h => ?_ | refine B2 fun y he he' hy => ?_ | refine B3 fun y he hy => ?_ | refine B4 fun y hy => ?_ | refine B5 fun ck => ?_ | fail) <;> refine Z ?_)))
  refine Some'.mk ⟨u, 1⟩ ?_
  (refine Z ?_; repeat' (first | exact .intro | ((first | refine B1 (fun h => ?_) fun h => ?_ | refine B2 fun y he he' hy => ?_ | refine B3 fun y he hy => ?_ | refine B4 fun y hy => ?_ | refine B5 fun ck => ?_ | fail) <;> refine Z ?_)))
  refine AllI.mk ?_
  rintro ⟨v, n⟩ ⟨h1, h2⟩
  dsimp only at h1 h2
  have hf : ((v : Nat) : Int).fdiv (2 ^ min (8 : Int).toNat IntKind.u64.bits) = ((v / 256 : Nat) : Int) := fdiv_pow v 8 (by omega)
  (refine Z ?_; repeat' (first | exact .intro | ((first | refine B1 (fun h => ?_) fun h => ?_ | refine B2 fun y he he' hy => ?_ | refine B3 fun y he hy => ?_ | refine B4 fun y hy => ?_ | refine B5 fun ck => ?_ | fail) <;> refine Z ?_)))
  · have hp := beL_len_pos (u := v) (by omega)
    refine Some'.mk ⟨v / 256, n + 1⟩ ?_
    exact G1
  · have hv : v = 0 := by omega
    subst hv
    have hz : (beL 0).length = 0 := by rw [beL_zero]; rfl
    refine AskL.mk ?_ trivial
    simp only [conj]
    rw [if_neg (by omega)]
    omega

/-- A pen's memory. -/
@[reducible] def penE (j : Nat) (bs : List Int) (r : Nat) : En := [(j, .cells 54 [.sl r]), (r, .row 5 (.int .u8) bs)]

structure PenX where
  bs : List Int
  u : Nat
@[reducible] def numC : Ctr := {
  X := PenX
  Y := Unit
  args := fun x => [.ptr 0 0, .v (.int .u64 (x.u : Nat))]
  rw := fun x => penE 0 x.bs 1
  side := fun x => x.u < 18446744073709551616 ∧ x.bs.length ≤ 200000000000
  val := fun _ => ()
  ens := fun _ _ => True
  res := fun _ _ => .tuple []
  out := fun x _ => penE 0 (x.bs ++ numL x.u) 1000 }

@[reducible] def numLoop (x : PenX) : LA := {
  X := Nat
  pre := fun r => r ≤ (beL x.u).length
  mu := fun r => r
  T := fun r => [(0, .ptr 0 0), (1, .v (.int .u64 (x.u : Nat))), (5, .v (.int .i64 ((r : Int) - 1)))]
  M := fun r => penE 0 (x.bs ++ [((247 + (beL x.u).length : Nat) : Int)] ++ beL (x.u / 256 ^ r)) 2 }

theorem knownP0 : Known Tryz.prog (gOf [(105, sizeC)]) := known_cons ⟨size_ok, Tryz.call105⟩ (known_nil _)

theorem num_ok : numC.ok Tryz.prog 69 := by
  refine ok_of_vc (An := fun (x : PenX) => anOf [(0, .loop (numLoop x))]) knownP0 mo Tryz.func69 (by kernel_rfl) (by kernel_rfl) (fun _ _ => trivial) (fun (x : PenX) hs => ?_)
  obtain ⟨bs, u⟩ := x
  have hs : u < 18446744073709551616 ∧ bs.length ≤ 200000000000 := hs
  have hb := beL_lt 8 u (by omega)
  (refine Z ?_; repeat' (first | exact .intro | ((first | refine B1 (fun h => ?_) fun h => ?_ | refine B2 fun y he he' hy => ?_ | refine B3 fun y he hy => ?_ | refine B4 fun y hy => ?_ | refine B5 fun ck => ?_ | fail) <;> refine Z ?_)))
  · refine AskL.mk ?_ trivial
    simp only [conj]
    rw [numL_small (by omega), wrap_u8 (by omega) (by omega)]
  · refine CallP.mk (C := sizeC) u ?_
    (refine Z ?_; repeat' (first | exact .intro | ((first | refine B1 (fun h => ?_) fun h => ?_ | refine B2 fun y he he' hy => ?_ | refine B3 fun y he hy => ?_ | refine B4 fun y hy => ?_ | refine B5 fun ck => ?_ | fail) <;> refine Z ?_)))
    rw [if_neg (by omega)] at he
    subst he
    have hw : IntKind.u8.wrap (247 + (1 + (((beL u).length : Nat) : Int) - 1)) = ((247 + (beL u).length : Nat) : Int) := by rw [wrap_u8 (by omega) (by omega)]; omega
    have ha := beL_all u
    have hg : numL u = ((247 + (beL u).length : Nat) : Int) :: beL u := numL_great (by omega)
    ((repeat' ((conv => whnf) <;> first | exact True.intro | (guard_target =~ Fork _ _ _; first | refine F1 ?_ | refine F2 ?_ | (refine Fork.pos ?_ ?_; · (simp only [beL_zero, List.append_nil, List.append_assoc, List.cons_append, List.nil_append, Nat.pow_zero, Nat.div_one, Bool.not_true, Bool.not_false, decide_eq_true_eq, beq_iff_eq, bne_iff_ne, ne_eq] <;> omega)) | (refine Fork.neg ?_ ?_; · (simp only [beL_zero, List.append_nil, List.append_assoc, List.cons_append, List.nil_append, Nat.pow_zero, Nat.div_one, Bool.not_true, Bool.not_false, decide_eq_false_iff_not, beq_eq_false_iff_ne] <;> omega)) | refine F3 (fun h => ?_) fun h => ?_) | (guard_target =~ Ar _ _ _; first | refine A1 ?_ | refine A2 ?_ | refine A3 ?_ | (refine Ar.fit (wrap_i64 ?_ ?_) ?_; · ((try dsimp only) <;> simp only [beL_zero, List.append_nil, List.append_assoc, List.cons_append, List.nil_append, Nat.pow_zero, Nat.div_one] <;> omega); · ((try dsimp only) <;> simp only [beL_zero, List.append_nil, List.append_assoc, List.cons_append, List.nil_append, Nat.pow_zero, Nat.div_one] <;> omega)) | (refine Ar.fit (wrap_u64 ?_ ?_) ?_; · ((try dsimp only) <;> simp only [beL_zero, List.append_nil, List.append_assoc, List.cons_append, List.nil_append, Nat.pow_zero, Nat.div_one] <;> omega); · ((try dsimp only) <;> simp only [beL_zero, List.append_nil, List.append_assoc, List.cons_append, List.nil_append, Nat.pow_zero, Nat.div_one] <;> omega))) | (guard_target =~ AskL _ _; first | (refine AskL.mk ?_ ?_; · ((simp only [conj]; repeat' apply And.intro) <;> first | rfl | trivial | omega | (simp only [beL_zero, List.append_nil, List.append_assoc, List.cons_append, List.nil_append, Nat.pow_zero, Nat.div_one]; done) | (simp only [beL_zero, List.append_nil, List.append_assoc, List.cons_append, List.nil_append, Nat.pow_zero, Nat.div_one] <;> omega) | (simp only [beL_zero, List.append_nil, List.append_assoc, List.cons_append, List.nil_append, Nat.pow_zero, Nat.div_one]; refine Bool.eq_iff_iff.2 ?_; simp only [decide_eq_true_eq, Bool.false_eq_true, true_iff, iff_true, false_iff, iff_false, eq_self]; omega) | (simp only [*, beL_zero, List.append_nil, List.append_assoc, List.cons_append, List.nil_append, Nat.pow_zero, Nat.div_one]; done))) | refine L1 ?_) | (guard_target =~ Go.Eng.Ask _ _; first | refine K1 ?_ | (refine Ask.mk ?_ ?_; · ((try dsimp only) <;> simp only [beL_zero, List.append_nil, List.append_assoc, List.cons_append, List.nil_append, Nat.pow_zero, Nat.div_one] <;> omega))) | (guard_target =~ CallP _ _ _ _ _; first | refine H1 ck fun ck => ?_ | refine H2 ck fun ck => ?_) | (guard_target =~ All' _ _; first | (refine Y2 fun y he he' hy => ?_; (try dsimp only at he he' hy)) | (refine Y1 fun y he hy => ?_; (try with_reducible conv at he => (rhs; whnf)); (try dsimp only at he hy)) | (refine All'.mk ?_; intro y hy)) | refine F4 (fun h => ?_) fun h => ?_ | refine R1 ?_ | refine Q1 ?_ | fail)); all_goals (conv => whnf))
    refine Some'.mk (beL u).length ?_
    ((repeat' ((conv => whnf) <;> first | exact True.intro | (guard_target =~ Fork _ _ _; first | refine F1 ?_ | refine F2 ?_ | (refine Fork.pos ?_ ?_; · (simp only [beL_zero, List.append_nil, List.append_assoc, List.cons_append, List.nil_append, Nat.pow_zero, Nat.div_one, Bool.not_true, Bool.not_false, decide_eq_true_eq, beq_iff_eq, bne_iff_ne, ne_eq] <;> omega)) | (refine Fork.neg ?_ ?_; · (simp only [beL_zero, List.append_nil, List.append_assoc, List.cons_append, List.nil_append, Nat.pow_zero, Nat.div_one, Bool.not_true, Bool.not_false, decide_eq_false_iff_not, beq_eq_false_iff_ne] <;> omega)) | refine F3 (fun h => ?_) fun h => ?_) | (guard_target =~ Ar _ _ _; first | refine A1 ?_ | refine A2 ?_ | refine A3 ?_ | (refine Ar.fit (wrap_i64 ?_ ?_) ?_; · ((try dsimp only) <;> simp only [beL_zero, List.append_nil, List.append_assoc, List.cons_append, List.nil_append, Nat.pow_zero, Nat.div_one] <;> omega); · ((try dsimp only) <;> simp only [beL_zero, List.append_nil, List.append_assoc, List.cons_append, List.nil_append, Nat.pow_zero, Nat.div_one] <;> omega)) | (refine Ar.fit (wrap_u64 ?_ ?_) ?_; · ((try dsimp only) <;> simp only [beL_zero, List.append_nil, List.append_assoc, List.cons_append, List.nil_append, Nat.pow_zero, Nat.div_one] <;> omega); · ((try dsimp only) <;> simp only [beL_zero, List.append_nil, List.append_assoc, List.cons_append, List.nil_append, Nat.pow_zero, Nat.div_one] <;> omega))) | (guard_target =~ AskL _ _; first | (refine AskL.mk ?_ ?_; · ((simp only [conj]; repeat' apply And.intro) <;> first | rfl | trivial | omega | (simp only [beL_zero, List.append_nil, List.append_assoc, List.cons_append, List.nil_append, Nat.pow_zero, Nat.div_one]; done) | (simp only [beL_zero, List.append_nil, List.append_assoc, List.cons_append, List.nil_append, Nat.pow_zero, Nat.div_one] <;> omega) | (simp only [beL_zero, List.append_nil, List.append_assoc, List.cons_append, List.nil_append, Nat.pow_zero, Nat.div_one]; refine Bool.eq_iff_iff.2 ?_; simp only [decide_eq_true_eq, Bool.false_eq_true, true_iff, iff_true, false_iff, iff_false, eq_self]; omega) | (simp only [*, beL_zero, List.append_nil, List.append_assoc, List.cons_append, List.nil_append, Nat.pow_zero, Nat.div_one]; done))) | refine L1 ?_) | (guard_target =~ Go.Eng.Ask _ _; first | refine K1 ?_ | (refine Ask.mk ?_ ?_; · ((try dsimp only) <;> simp only [beL_zero, List.append_nil, List.append_assoc, List.cons_append, List.nil_append, Nat.pow_zero, Nat.div_one] <;> omega))) | (guard_target =~ CallP _ _ _ _ _; first | refine H1 ck fun ck => ?_ | refine H2 ck fun ck => ?_) | (guard_target =~ All' _ _; first | (refine Y2 fun y he he' hy => ?_; (try dsimp only at he he' hy)) | (refine Y1 fun y he hy => ?_; (try with_reducible conv at he => (rhs; whnf)); (try dsimp only at he hy)) | (refine All'.mk ?_; intro y hy)) | refine F4 (fun h => ?_) fun h => ?_ | refine R1 ?_ | refine Q1 ?_ | fail)); all_goals (conv => whnf))
    refine AllI.mk ?_
    rintro (r : Nat) hr
    dsimp only at hr
    cases r with
    | zero =>
      ((repeat' ((conv => whnf) <;> first | exact True.intro | (guard_target =~ Fork _ _ _; first | refine F1 ?_ | refine F2 ?_ | (refine Fork.pos ?_ ?_; · (simp only [beL_zero, List.append_nil, List.append_assoc, List.cons_append, List.nil_append, Nat.pow_zero, Nat.div_one, Bool.not_true, Bool.not_false, decide_eq_true_eq, beq_iff_eq, bne_iff_ne, ne_eq] <;> omega)) | (refine Fork.neg ?_ ?_; · (simp only [beL_zero, List.append_nil, List.append_assoc, List.cons_append, List.nil_append, Nat.pow_zero, Nat.div_one, Bool.not_true, Bool.not_false, decide_eq_false_iff_not, beq_eq_false_iff_ne] <;> omega)) | refine F3 (fun h => ?_) fun h => ?_) | (guard_target =~ Ar _ _ _; first | refine A1 ?_ | refine A2 ?_ | refine A3 ?_ | (refine Ar.fit (wrap_i64 ?_ ?_) ?_; · ((try dsimp only) <;> simp only [beL_zero, List.append_nil, List.append_assoc, List.cons_append, List.nil_append, Nat.pow_zero, Nat.div_one] <;> omega); · ((try dsimp only) <;> simp only [beL_zero, List.append_nil, List.append_assoc, List.cons_append, List.nil_append, Nat.pow_zero, Nat.div_one] <;> omega)) | (refine Ar.fit (wrap_u64 ?_ ?_) ?_; · ((try dsimp only) <;> simp only [beL_zero, List.append_nil, List.append_assoc, List.cons_append, List.nil_append, Nat.pow_zero, Nat.div_one] <;> omega); · ((try dsimp only) <;> simp only [beL_zero, List.append_nil, List.append_assoc, List.cons_append, List.nil_append, Nat.pow_zero, Nat.div_one] <;> omega))) | (guard_target =~ AskL _ _; first | (refine AskL.mk ?_ ?_; · ((simp only [conj]; repeat' apply And.intro) <;> first | rfl | trivial | omega | (simp only [beL_zero, List.append_nil, List.append_assoc, List.cons_append, List.nil_append, Nat.pow_zero, Nat.div_one]; done) | (simp only [beL_zero, List.append_nil, List.append_assoc, List.cons_append, List.nil_append, Nat.pow_zero, Nat.div_one] <;> omega) | (simp only [beL_zero, List.append_nil, List.append_assoc, List.cons_append, List.nil_append, Nat.pow_zero, Nat.div_one]; refine Bool.eq_iff_iff.2 ?_; simp only [decide_eq_true_eq, Bool.false_eq_true, true_iff, iff_true, false_iff, iff_false, eq_self]; omega) | (simp only [*, beL_zero, List.append_nil, List.append_assoc, List.cons_append, List.nil_append, Nat.pow_zero, Nat.div_one]; done))) | refine L1 ?_) | (guard_target =~ Go.Eng.Ask _ _; first | refine K1 ?_ | (refine Ask.mk ?_ ?_; · ((try dsimp only) <;> simp only [beL_zero, List.append_nil, List.append_assoc, List.cons_append, List.nil_append, Nat.pow_zero, Nat.div_one] <;> omega))) | (guard_target =~ CallP _ _ _ _ _; first | refine H1 ck fun ck => ?_ | refine H2 ck fun ck => ?_) | (guard_target =~ All' _ _; first | (refine Y2 fun y he he' hy => ?_; (try dsimp only at he he' hy)) | (refine Y1 fun y he hy => ?_; (try with_reducible conv at he => (rhs; whnf)); (try dsimp only at he hy)) | (refine All'.mk ?_; intro y hy)) | refine F4 (fun h => ?_) fun h => ?_ | refine R1 ?_ | refine Q1 ?_ | fail)); all_goals (conv => whnf))
    | succ r =>
      have hst := beL_step r u (by omega)
      have hx : (8 * (((r + 1 : Nat) : Int) - 1)).toNat = 8 * r := by omega
      have hfd : ((u : Nat) : Int).fdiv (2 ^ min (8 * (((r + 1 : Nat) : Int) - 1)).toNat IntKind.u64.bits) = ((u / 256 ^ r : Nat) : Int) := by
        rw [hx, fdiv_pow u (8 * r) (by omega), Nat.pow_mul]
      have hwr : IntKind.u8.wrap ((u / 256 ^ r : Nat) : Int) = ((u / 256 ^ r % 256 : Nat) : Int) := by rw [wrap_u8_mod]; omega
      have hlen : (bs ++ [((247 + (beL u).length : Nat) : Int)] ++ beL (u / 256 ^ (r + 1))).length ≤ 200000000009 := by
        have h1 := beL_shift (r + 1) u hr
        simp only [List.length_append, List.length_singleton]; omega
      clear hx
      ((repeat' ((conv => whnf) <;> first | exact True.intro | (guard_target =~ Fork _ _ _; first | refine F1 ?_ | refine F2 ?_ | (refine Fork.pos ?_ ?_; · (simp only [beL_zero, List.append_nil, List.append_assoc, List.cons_append, List.nil_append, Nat.pow_zero, Nat.div_one, Bool.not_true, Bool.not_false, decide_eq_true_eq, beq_iff_eq, bne_iff_ne, ne_eq] <;> omega)) | (refine Fork.neg ?_ ?_; · (simp only [beL_zero, List.append_nil, List.append_assoc, List.cons_append, List.nil_append, Nat.pow_zero, Nat.div_one, Bool.not_true, Bool.not_false, decide_eq_false_iff_not, beq_eq_false_iff_ne] <;> omega)) | refine F3 (fun h => ?_) fun h => ?_) | (guard_target =~ Ar _ _ _; first | refine A1 ?_ | refine A2 ?_ | refine A3 ?_ | (refine Ar.fit (wrap_i64 ?_ ?_) ?_; · ((try dsimp only) <;> simp only [beL_zero, List.append_nil, List.append_assoc, List.cons_append, List.nil_append, Nat.pow_zero, Nat.div_one] <;> omega); · ((try dsimp only) <;> simp only [beL_zero, List.append_nil, List.append_assoc, List.cons_append, List.nil_append, Nat.pow_zero, Nat.div_one] <;> omega)) | (refine Ar.fit (wrap_u64 ?_ ?_) ?_; · ((try dsimp only) <;> simp only [beL_zero, List.append_nil, List.append_assoc, List.cons_append, List.nil_append, Nat.pow_zero, Nat.div_one] <;> omega); · ((try dsimp only) <;> simp only [beL_zero, List.append_nil, List.append_assoc, List.cons_append, List.nil_append, Nat.pow_zero, Nat.div_one] <;> omega))) | (guard_target =~ AskL _ _; first | (refine AskL.mk ?_ ?_; · ((simp only [conj]; repeat' apply And.intro) <;> first | rfl | trivial | omega | (simp only [beL_zero, List.append_nil, List.append_assoc, List.cons_append, List.nil_append, Nat.pow_zero, Nat.div_one]; done) | (simp only [beL_zero, List.append_nil, List.append_assoc, List.cons_append, List.nil_append, Nat.pow_zero, Nat.div_one] <;> omega) | (simp only [beL_zero, List.append_nil, List.append_assoc, List.cons_append, List.nil_append, Nat.pow_zero, Nat.div_one]; refine Bool.eq_iff_iff.2 ?_; simp only [decide_eq_true_eq, Bool.false_eq_true, true_iff, iff_true, false_iff, iff_false, eq_self]; omega) | (simp only [*, beL_zero, List.append_nil, List.append_assoc, List.cons_append, List.nil_append, Nat.pow_zero, Nat.div_one]; done))) | refine L1 ?_) | (guard_target =~ Go.Eng.Ask _ _; first | refine K1 ?_ | (refine Ask.mk ?_ ?_; · ((try dsimp only) <;> simp only [beL_zero, List.append_nil, List.append_assoc, List.cons_append, List.nil_append, Nat.pow_zero, Nat.div_one] <;> omega))) | (guard_target =~ CallP _ _ _ _ _; first | refine H1 ck fun ck => ?_ | refine H2 ck fun ck => ?_) | (guard_target =~ All' _ _; first | (refine Y2 fun y he he' hy => ?_; (try dsimp only at he he' hy)) | (refine Y1 fun y he hy => ?_; (try with_reducible conv at he => (rhs; whnf)); (try dsimp only at he hy)) | (refine All'.mk ?_; intro y hy)) | refine F4 (fun h => ?_) fun h => ?_ | refine R1 ?_ | refine Q1 ?_ | fail)); all_goals (conv => whnf))
      refine Some'.mk r ?_
      ((repeat' ((conv => whnf) <;> first | exact True.intro | (guard_target =~ Fork _ _ _; first | refine F1 ?_ | refine F2 ?_ | (refine Fork.pos ?_ ?_; · (simp only [beL_zero, List.append_nil, List.append_assoc, List.cons_append, List.nil_append, Nat.pow_zero, Nat.div_one, Bool.not_true, Bool.not_false, decide_eq_true_eq, beq_iff_eq, bne_iff_ne, ne_eq] <;> omega)) | (refine Fork.neg ?_ ?_; · (simp only [beL_zero, List.append_nil, List.append_assoc, List.cons_append, List.nil_append, Nat.pow_zero, Nat.div_one, Bool.not_true, Bool.not_false, decide_eq_false_iff_not, beq_eq_false_iff_ne] <;> omega)) | refine F3 (fun h => ?_) fun h => ?_) | (guard_target =~ Ar _ _ _; first | refine A1 ?_ | refine A2 ?_ | refine A3 ?_ | (refine Ar.fit (wrap_i64 ?_ ?_) ?_; · ((try dsimp only) <;> simp only [beL_zero, List.append_nil, List.append_assoc, List.cons_append, List.nil_append, Nat.pow_zero, Nat.div_one] <;> omega); · ((try dsimp only) <;> simp only [beL_zero, List.append_nil, List.append_assoc, List.cons_append, List.nil_append, Nat.pow_zero, Nat.div_one] <;> omega)) | (refine Ar.fit (wrap_u64 ?_ ?_) ?_; · ((try dsimp only) <;> simp only [beL_zero, List.append_nil, List.append_assoc, List.cons_append, List.nil_append, Nat.pow_zero, Nat.div_one] <;> omega); · ((try dsimp only) <;> simp only [beL_zero, List.append_nil, List.append_assoc, List.cons_append, List.nil_append, Nat.pow_zero, Nat.div_one] <;> omega))) | (guard_target =~ AskL _ _; first | (refine AskL.mk ?_ ?_; · ((simp only [conj]; repeat' apply And.intro) <;> first | rfl | trivial | omega | (simp only [beL_zero, List.append_nil, List.append_assoc, List.cons_append, List.nil_append, Nat.pow_zero, Nat.div_one]; done) | (simp only [beL_zero, List.append_nil, List.append_assoc, List.cons_append, List.nil_append, Nat.pow_zero, Nat.div_one] <;> omega) | (simp only [beL_zero, List.append_nil, List.append_assoc, List.cons_append, List.nil_append, Nat.pow_zero, Nat.div_one]; refine Bool.eq_iff_iff.2 ?_; simp only [decide_eq_true_eq, Bool.false_eq_true, true_iff, iff_true, false_iff, iff_false, eq_self]; omega) | (simp only [*, beL_zero, List.append_nil, List.append_assoc, List.cons_append, List.nil_append, Nat.pow_zero, Nat.div_one]; done))) | refine L1 ?_) | (guard_target =~ Go.Eng.Ask _ _; first | refine K1 ?_ | (refine Ask.mk ?_ ?_; · ((try dsimp only) <;> simp only [beL_zero, List.append_nil, List.append_assoc, List.cons_append, List.nil_append, Nat.pow_zero, Nat.div_one] <;> omega))) | (guard_target =~ CallP _ _ _ _ _; first | refine H1 ck fun ck => ?_ | refine H2 ck fun ck => ?_) | (guard_target =~ All' _ _; first | (refine Y2 fun y he he' hy => ?_; (try dsimp only at he he' hy)) | (refine Y1 fun y he hy => ?_; (try with_reducible conv at he => (rhs; whnf)); (try dsimp only at he hy)) | (refine All'.mk ?_; intro y hy)) | refine F4 (fun h => ?_) fun h => ?_ | refine R1 ?_ | refine Q1 ?_ | fail)); all_goals (conv => whnf))

@[reducible] def fixedC : Ctr := {
  X := List Int × List Int
  Y := Unit
  args := fun x => [.ptr 0 0, .ro true (.int .u8) x.2]
  rw := fun x => penE 0 x.1 1
  side := fun x => x.1.length + x.2.length ≤ 200000000000
  val := fun _ => ()
  ens := fun _ _ => True
  res := fun _ _ => .tuple []
  out := fun x _ => penE 0 (x.1 ++ x.2) 1000 }
theorem fixed_ok : fixedC.ok Tryz.prog 104 := by
  refine ok_of_vc (An := fun _ => anOf []) (known_nil _) mo Tryz.func104 (by kernel_rfl) (by kernel_rfl) (fun _ _ => trivial) (fun x hs => ?_)
  obtain ⟨bs, xs⟩ := x
  have hs : bs.length + xs.length ≤ 200000000000 := hs
  exact G1

@[reducible] def textC : Ctr := {
  X := List Int × List Int
  Y := Unit
  args := fun x => [.ptr 0 0, .ro true (.int .u8) x.2]
  rw := fun x => penE 0 x.1 1
  side := fun x => x.1.length + x.2.length ≤ 100000000000
  val := fun _ => ()
  ens := fun _ _ => True
  res := fun _ _ => .tuple []
  out := fun x _ => penE 0 (x.1 ++ numL x.2.length ++ x.2) 1000 }
theorem knownP1 : Known Tryz.prog (gOf [(69, numC), (104, fixedC)]) :=
  known_cons ⟨num_ok, Tryz.call69⟩ (known_cons ⟨fixed_ok, Tryz.call104⟩ (known_nil _))
theorem text_ok : textC.ok Tryz.prog 68 := by
  refine ok_of_vc (An := fun _ => anOf []) knownP1 mo Tryz.func68 (by kernel_rfl) (by kernel_rfl) (fun _ _ => trivial) (fun x hs => ?_)
  obtain ⟨bs, xs⟩ := x
  have hs : bs.length + xs.length ≤ 100000000000 := hs
  have hw : IntKind.u64.wrap ((xs.length : Nat) : Int) = ((xs.length : Nat) : Int) := wrap_u64 (by omega) (by omega)
  have hn := numL_le (u := xs.length) (by omega)
  have ck : Hc numC ⟨bs, xs.length⟩ True := .mk trivial
  (refine Z ?_; repeat' (first | exact .intro | ((first | refine B1 (fun h => ?_) fun h => ?_ | refine B2 fun y he he' hy => ?_ | refine B3 fun y he hy => ?_ | refine B4 fun y hy => ?_ | refine B5 fun ck => ?_ | fail) <;> refine Z ?_)))
  refine CallP.mk (C := fixedC) (bs ++ numL xs.length, xs) ?_
  ((repeat' ((conv => whnf) <;> first | exact True.intro | (guard_target =~ Fork _ _ _; first | refine F1 ?_ | refine F2 ?_ | (refine Fork.pos ?_ ?_; · (simp only [List.length_append, Bool.not_true, Bool.not_false, decide_eq_true_eq, beq_iff_eq, bne_iff_ne, ne_eq] <;> omega)) | (refine Fork.neg ?_ ?_; · (simp only [List.length_append, Bool.not_true, Bool.not_false, decide_eq_false_iff_not, beq_eq_false_iff_ne] <;> omega)) | refine F3 (fun h => ?_) fun h => ?_) | (guard_target =~ Ar _ _ _; first | refine A1 ?_ | refine A2 ?_ | refine A3 ?_ | (refine Ar.fit (wrap_i64 ?_ ?_) ?_; · ((try dsimp only) <;> simp only [List.length_append] <;> omega); · ((try dsimp only) <;> simp only [List.length_append] <;> omega)) | (refine Ar.fit (wrap_u64 ?_ ?_) ?_; · ((try dsimp only) <;> simp only [List.length_append] <;> omega); · ((try dsimp only) <;> simp only [List.length_append] <;> omega))) | (guard_target =~ AskL _ _; first | (refine AskL.mk ?_ ?_; · ((simp only [conj]; repeat' apply And.intro) <;> first | rfl | trivial | omega | (simp only [List.length_append]; done) | (simp only [List.length_append] <;> omega) | (simp only [List.length_append]; refine Bool.eq_iff_iff.2 ?_; simp only [decide_eq_true_eq, Bool.false_eq_true, true_iff, iff_true, false_iff, iff_false, eq_self]; omega) | (simp only [*, List.length_append]; done))) | refine L1 ?_) | (guard_target =~ Go.Eng.Ask _ _; first | refine K1 ?_ | (refine Ask.mk ?_ ?_; · ((try dsimp only) <;> simp only [List.length_append] <;> omega))) | (guard_target =~ CallP _ _ _ _ _; first | refine H1 ck fun ck => ?_ | refine H2 ck fun ck => ?_) | (guard_target =~ All' _ _; first | (refine Y2 fun y he he' hy => ?_; (try dsimp only at he he' hy)) | (refine Y1 fun y he hy => ?_; (try with_reducible conv at he => (rhs; whnf)); (try dsimp only at he hy)) | (refine All'.mk ?_; intro y hy)) | refine F4 (fun h => ?_) fun h => ?_ | refine R1 ?_ | refine Q1 ?_ | fail)); all_goals (conv => whnf))

@[reducible] def cloneBC : Ctr := {
  X := List Int
  Y := Unit
  args := fun x => [.ro true (.int .u8) x]
  rw := fun _ => []
  side := fun x => x.length ≤ 274877906944
  val := fun _ => ()
  ens := fun _ _ => True
  res := fun _ _ => .sl 1000
  out := fun x _ => [(1000, .row 5 (.int .u8) x)] }
theorem cloneB_ok : cloneBC.ok Tryz.prog 63 := by
  refine ok_of_vc (An := fun _ => anOf []) (known_nil _) mo Tryz.func63 (by kernel_rfl) (by kernel_rfl) (fun _ _ => trivial) (fun (x : List Int) hs => ?_)
  have hs : x.length ≤ 274877906944 := hs
  exact G1
end Go.Proofs.YthmbdjhlfieldaaGreatDoor

set_option linter.unusedVariables false
set_option linter.unusedSimpArgs false
set_option maxRecDepth 100000
namespace Go.Proofs.YthmbdjhlfieldaaGreatDoor
open Go.Eng
variable [DM]
set_option linter.unusedSectionVars false
@[reducible] def penBytesC : Ctr := {
  X := List Int
  Y := Unit
  args := fun x => [.ptr 0 0]
  rw := fun x => penE 0 x 1
  side := fun x => x.length ≤ 274877906944
  val := fun _ => ()
  ens := fun _ _ => True
  res := fun _ _ => .sl 1000
  out := fun x _ => (1000, .row 5 (.int .u8) x) :: penE 0 x 1 }
theorem knownP2 : Known Tryz.prog (gOf [(63, cloneBC)]) := known_cons ⟨cloneB_ok, Tryz.call63⟩ (known_nil _)
theorem penBytes_ok : penBytesC.ok Tryz.prog 34 := by
  refine ok_of_vc (An := fun _ => anOf []) knownP2 mo Tryz.func34 (by kernel_rfl) (by kernel_rfl) (fun _ _ => trivial) (fun (x : List Int) hs => ?_)
  have hs : x.length ≤ 274877906944 := hs
  have ck : Hc cloneBC x True := .mk trivial
  exact G1

theorem tmod_nat (a b : Nat) : ((a : Nat) : Int).tmod ((b : Nat) : Int) = ((a % b : Nat) : Int) := by
  rw [Int.tmod_eq_emod_of_nonneg (by omega)]; rfl
end Go.Proofs.YthmbdjhlfieldaaGreatDoor

set_option linter.unusedVariables false
set_option linter.unusedSimpArgs false
namespace Go.Proofs.YthmbdjhlfieldaaGreatDoor
open Go.Eng
section
variable {α : Type}
theorem take_sn {l : List α} {i : Nat} {e : α} (h : l[i]? = some e) : l.take (i + 1) = l.take i ++ [e] := by
  rw [List.take_add_one, h]; rfl
theorem drop_sn {l : List α} {i : Nat} {e : α} (h : l[i]? = some e) : l.drop i = e :: l.drop (i + 1) := by
  obtain ⟨hi, rfl⟩ := List.getElem?_eq_some_iff.1 h
  exact List.drop_eq_getElem_cons hi
/-- The place of the first one that is so; -1: there is none. -/
def idxP (p : α → Bool) (l : List α) : Int := match l.findIdx? p with | some i => (i : Int) | none => -1
theorem idxP_none {p : α → Bool} {l : List α} (h : ∀ (j : Nat) (e : α), l[j]? = some e → p e = false) : idxP p l = -1 := by
  unfold idxP
  rw [List.findIdx?_eq_none_iff.2 (fun x hx => by
    obtain ⟨j, hj, rfl⟩ := List.mem_iff_getElem.1 hx
    exact h j _ (List.getElem?_eq_getElem hj))]
theorem idxP_at {p : α → Bool} {l : List α} {i : Nat} {e : α} (he : l[i]? = some e) (hp : p e = true) (h : ∀ (j : Nat), j < i → ∀ e, l[j]? = some e → p e = false) : idxP p l = (i : Nat) := by
  unfold idxP
  obtain ⟨hi, rfl⟩ := List.getElem?_eq_some_iff.1 he
  rw [List.findIdx?_eq_some_iff_getElem.2 ⟨hi, hp, fun j hj => by
    have := h j hj _ (List.getElem?_eq_getElem (by omega))
    rw [this]; simp⟩]
theorem idxP_cases (p : α → Bool) (l : List α) : (idxP p l = -1 ∧ (∀ x, x ∈ l → p x = false)) ∨ ∃ i e, idxP p l = ((i : Nat) : Int) ∧ l[i]? = some e ∧ p e = true ∧ ∀ x, x ∈ l.take i → p x = false := by
  cases h : l.findIdx? p with
  | none =>
    refine .inl ⟨by unfold idxP; rw [h], fun x hx => ?_⟩
    exact List.findIdx?_eq_none_iff.1 h x hx
  | some i =>
    obtain ⟨hi, hp, hn⟩ := List.findIdx?_eq_some_iff_getElem.1 h
    refine .inr ⟨i, l[i], by unfold idxP; rw [h], List.getElem?_eq_getElem hi, hp, fun x hx => ?_⟩
    obtain ⟨j, hj, rfl⟩ := List.mem_iff_getElem.1 hx
    rw [List.length_take] at hj
    have := hn j (by omega)
    rw [List.getElem_take]
    simpa using this
theorem idxP_any (p : α → Bool) (l : List α) : decide (0 ≤ idxP p l) = l.any p := by
  rcases idxP_cases p l with ⟨h, h2⟩ | ⟨i, e, h, h2, h3, _⟩
  · rw [h]
    have : l.any p = false := by rw [List.any_eq_false]; intro x hx; rw [h2 x hx]; simp
    rw [this]; rfl
  · rw [h]
    have : l.any p = true := List.any_eq_true.2 ⟨e, List.mem_of_getElem? h2, h3⟩
    rw [this]; exact decide_eq_true (by omega)
end
end Go.Proofs.YthmbdjhlfieldaaGreatDoor

set_option linter.unusedVariables false
set_option linter.unusedSimpArgs false
set_option maxRecDepth 100000
set_option maxHeartbeats 4000000
namespace Go.Proofs.YthmbdjhlfieldaaGreatDoor
open Go.Eng
variable [DM]
set_option linter.unusedSectionVars false
def okY (l : List Int) : Prop := ∀ c, c ∈ l → 0 ≤ c ∧ c < 256
/-- The value of bytes, the greatest ahead. -/
def beV (l : List Int) : Nat := l.foldl (fun u c => u * 256 + c.toNat) 0
theorem beV_snoc (l : List Int) (c : Int) : beV (l ++ [c]) = beV l * 256 + c.toNat := by unfold beV; rw [List.foldl_append]; rfl
theorem okY_take {l : List Int} (h : okY l) (i : Nat) : okY (l.take i) := fun c hc => h c (List.mem_of_mem_take hc)
theorem okY_drop {l : List Int} (h : okY l) (i : Nat) : okY (l.drop i) := fun c hc => h c (List.mem_of_mem_drop hc)
theorem beV_lt : ∀ (n : Nat) (l : List Int), l.length ≤ n → okY l → beV l < 256 ^ n
  | n, l, h, hl => by
    rcases List.eq_nil_or_concat l with rfl | ⟨m, c, rfl⟩
    · exact Nat.pow_pos (by omega)
    · rw [List.concat_eq_append] at *
      cases n with
      | zero => simp at h
      | succ n =>
        have := beV_lt n m (by simp at h; omega) (fun c hc => hl c (List.mem_append_left _ hc))
        have hc := hl c (by simp)
        rw [beV_snoc, Nat.pow_succ]; omega
termination_by n => n
theorem beL_beV : ∀ (n : Nat) (l : List Int), l.length = n → okY l → (beL (beV l)).length = l.length → beL (beV l) = l
  | 0, l, h, _, _ => by rw [List.length_eq_zero_iff.1 h]; exact beL_zero
  | n + 1, l, h, hl, he => by
    rcases List.eq_nil_or_concat l with rfl | ⟨m, c, rfl⟩
    · simp at h
    · rw [List.concat_eq_append] at *
      have hc := hl c (by simp)
      rcases Nat.eq_zero_or_pos (beV (m ++ [c])) with h0 | hp
      · rw [h0, beL_zero] at he; simp at he
      · rw [beL_pos hp]
        rw [beL_pos hp] at he
        rw [beV_snoc] at *
        have e1 : (beV m * 256 + c.toNat) / 256 = beV m := by omega
        have e2 : (beV m * 256 + c.toNat) % 256 = c.toNat := by omega
        rw [e1] at he
        rw [e1, e2, beL_beV n m (by simpa using h) (fun c hc => hl c (List.mem_append_left _ hc)) (by simpa using he)]
        congr 2; omega
def sizeV (u : Nat) : Int := if u ≤ 247 then 1 else 1 + ((beL u).length : Nat)
/-- A number's bytes, by their length. -/
theorem num_back {l : List Int} {c : Int} (hl : okY l) (hc : 248 ≤ c) (hk : (l.length : Int) = c - 247) : sizeV (beV l) = (l.length : Int) + 1 ↔ numL (beV l) = c :: l := by
  unfold sizeV numL
  by_cases h : beV l ≤ 247
  · rw [if_pos h, if_pos h]
    constructor
    · intro h2; omega
    · intro h2
      have := congrArg List.length h2
      simp only [List.length_cons, List.length_nil] at this; omega
  · rw [if_neg h, if_neg h]
    constructor
    · intro h2
      have h3 : (beL (beV l)).length = l.length := by omega
      rw [beL_beV _ l rfl hl h3]
      congr 1; omega
    · intro h2
      have := congrArg List.length h2
      simp only [List.length_cons] at this
      omega
/-- The number at the beginning, how many bytes it takes, the error. -/
def numS : List Int → Int × Int × Int
  | [] => (0, 0, 10)
  | c :: l => if c ≤ 247 then (c, 1, 0) else if (l.length : Int) < c - 247 then (0, 0, 10) else
    if numL (beV (l.take (c - 247).toNat)) = c :: l.take (c - 247).toNat then (((beV (l.take (c - 247).toNat) : Nat) : Int), c - 246, 0) else (0, 0, 11)
theorem numS_cons (c : Int) (l : List Int) : numS (c :: l) = if c ≤ 247 then (c, 1, 0) else if (l.length : Int) < c - 247 then (0, 0, 10) else
    if numL (beV (l.take (c - 247).toNat)) = c :: l.take (c - 247).toNat then (((beV (l.take (c - 247).toNat) : Nat) : Int), c - 246, 0) else (0, 0, 11) := rfl
theorem numS_rng {l : List Int} (hl : okY l) (h0 : (numS l).2.2 = 0) : 1 ≤ (numS l).2.1 ∧ (numS l).2.1 ≤ l.length ∧ 0 ≤ (numS l).1 ∧ (numS l).1 < 18446744073709551616 := by
  cases l with
  | nil => simp [numS] at h0
  | cons c l =>
    have hc := hl c (List.mem_cons_self ..)
    rw [numS_cons] at h0 ⊢
    simp only [List.length_cons]
    by_cases h1 : c ≤ 247
    · rw [if_pos h1]; dsimp only; omega
    · rw [if_neg h1] at h0 ⊢
      by_cases h2 : (l.length : Int) < c - 247
      · rw [if_pos h2] at h0; simp at h0
      · rw [if_neg h2] at h0 ⊢
        by_cases h3 : numL (beV (l.take (c - 247).toNat)) = c :: l.take (c - 247).toNat
        · rw [if_pos h3]
          have := beV_lt 8 (l.take (c - 247).toNat) (by rw [List.length_take]; omega) (okY_take (fun x hx => hl x (List.mem_cons_of_mem _ hx)) _)
          dsimp only; omega
        · rw [if_neg h3] at h0; simp at h0
theorem or_byte (u c : Nat) (hu : u < 72057594037927936) (hc : c < 256) : IntKind.u64.wrap (((BitVec.ofInt IntKind.u64.bits ((u : Int) * 256)) ||| (BitVec.ofInt IntKind.u64.bits (c : Int))).toNat : Nat) = ((u * 256 + c : Nat) : Int) := by
  have e0 : IntKind.u64.bits = 64 := rfl
  have e1 : BitVec.ofInt IntKind.u64.bits ((u : Int) * 256) = BitVec.ofNat 64 (u * 256) := by
    rw [show ((u : Int) * 256) = ((u * 256 : Nat) : Int) by push_cast; rfl]; rfl
  have e2 : BitVec.ofInt IntKind.u64.bits (c : Int) = BitVec.ofNat 64 c := rfl
  rw [e1, e2]
  have e3 : ((BitVec.ofNat 64 (u * 256)) ||| (BitVec.ofNat 64 c)).toNat = u * 256 + c := by
    rw [BitVec.toNat_or, BitVec.toNat_ofNat, BitVec.toNat_ofNat, Nat.mod_eq_of_lt (by omega), Nat.mod_eq_of_lt (by omega)]
    have := Nat.shiftLeft_add_eq_or_of_lt (a := u) (i := 8) (b := c) (by omega)
    rw [Nat.shiftLeft_eq] at this
    exact this.symm
  show IntKind.u64.wrap ((((BitVec.ofNat 64 (u * 256)) ||| (BitVec.ofNat 64 c)).toNat : Nat) : Int) = _
  rw [e3]
  exact wrap_u64 (by omega) (by omega)
@[reducible] def numberC : Ctr := {
  X := List Int
  Y := Unit
  args := fun l => [.ro true (.int .u8) l]
  rw := fun _ => []
  side := fun l => okY l ∧ l.length ≤ 9223372036854775807
  val := fun _ => ()
  ens := fun _ _ => True
  res := fun l _ => .tuple [.v (.int .u64 (numS l).1), .v (.int .i64 (numS l).2.1), .v (.int .i64 (numS l).2.2)]
  out := fun _ _ => [] }
def tlY (l : List Int) : List Int := l.tail.take (l.headD 0 - 247).toNat
@[reducible] def numberL (l : List Int) : LA := {
  X := Nat
  pre := fun i => i ≤ (tlY l).length
  mu := fun i => (tlY l).length - i
  T := fun i => [(5, .v (.int .i64 (l.headD 0 - 246))), (6, .v (.int .u64 (beV ((tlY l).take i) : Nat))), (34, .ro true (.int .u8) (tlY l)), (35, .v (.int .i64 (tlY l).length)), (36, .v (.int .i64 (i : Nat)))]
  M := fun _ => [] }
theorem knownY0 : Known Tryz.prog (gOf [(105, sizeC)]) := known_cons ⟨size_ok, Tryz.call105⟩ (known_nil _)
theorem number_ok : numberC.ok Tryz.prog 107 := by
  refine ok_of_vc (An := fun (l : List Int) => anOf [(1, .loop (numberL l))]) knownY0 mo Tryz.func107 (by kernel_rfl) (by kernel_rfl) (fun _ _ => trivial) (fun (l : List Int) hs => ?_)
  obtain ⟨hl, hlen⟩ := hs
  have hl : okY l := hl
  have hlen : l.length ≤ 9223372036854775807 := hlen
  cases l with
  | nil =>
    have hn : numS [] = (0, 0, 10) := rfl
    have hnl : ([] : List Int).length = 0 := rfl
    exact G1
  | cons c l =>
    have hc := hl c (List.mem_cons_self ..)
    have hnl : (c :: l).length = l.length + 1 := rfl
    have hw1 : IntKind.u64.wrap c = c := wrap_u64 (by omega) (by omega)
    have hw2 : IntKind.i64.wrap c = c := wrap_i64 (by omega) (by omega)
    have lm := And.intro hw1 hw2
    by_cases h1 : c ≤ 247
    · have hn : numS (c :: l) = (c, 1, 0) := if_pos h1
      (refine Zm ?_; repeat' (first | exact .intro | ((first | refine B1 (fun h => ?_) fun h => ?_ | refine B2 fun y he he' hy => ?_ | refine B3 fun y he hy => ?_ | refine B4 fun y hy => ?_ | refine B5 fun ck => ?_ | fail) <;> refine Zm ?_)))
      refine All'.mk ?_; rintro (e : Int) he
      obtain rfl : c = e := Option.some.inj he
      (refine Zm ?_; repeat' (first | exact .intro | ((first | refine B1 (fun h => ?_) fun h => ?_ | refine B2 fun y he he' hy => ?_ | refine B3 fun y he hy => ?_ | refine B4 fun y hy => ?_ | refine B5 fun ck => ?_ | fail) <;> refine Zm ?_)))
      refine All'.mk ?_; rintro (e : Int) he
      obtain rfl : c = e := Option.some.inj he
      (refine Zn ?_; repeat' (first | exact .intro | ((first | refine B1 (fun h => ?_) fun h => ?_ | refine B2 fun y he he' hy => ?_ | refine B3 fun y he hy => ?_ | refine B4 fun y hy => ?_ | refine B5 fun ck => ?_ | fail) <;> refine Zn ?_)))
      refine AskL.mk ?_ trivial
      dsimp only [conj]
      rw [hn]
      exact ⟨⟨hw1, rfl⟩, rfl⟩
    · by_cases h2 : (l.length : Int) < c - 247
      · have hn : numS (c :: l) = (0, 0, 10) := by rw [numS_cons, if_neg h1, if_pos h2]
        (refine Zm ?_; repeat' (first | exact .intro | ((first | refine B1 (fun h => ?_) fun h => ?_ | refine B2 fun y he he' hy => ?_ | refine B3 fun y he hy => ?_ | refine B4 fun y hy => ?_ | refine B5 fun ck => ?_ | fail) <;> refine Zm ?_)))
        refine All'.mk ?_; rintro (e : Int) he
        obtain rfl : c = e := Option.some.inj he
        (refine Zm ?_; repeat' (first | exact .intro | ((first | refine B1 (fun h => ?_) fun h => ?_ | refine B2 fun y he he' hy => ?_ | refine B3 fun y he hy => ?_ | refine B4 fun y hy => ?_ | refine B5 fun ck => ?_ | fail) <;> refine Zm ?_)))
        refine All'.mk ?_; rintro (e : Int) he
        obtain rfl : c = e := Option.some.inj he
        exact G1
      · (refine Zm ?_; repeat' (first | exact .intro | ((first | refine B1 (fun h => ?_) fun h => ?_ | refine B2 fun y he he' hy => ?_ | refine B3 fun y he hy => ?_ | refine B4 fun y hy => ?_ | refine B5 fun ck => ?_ | fail) <;> refine Zm ?_)))
        refine All'.mk ?_; rintro (e : Int) he
        obtain rfl : c = e := Option.some.inj he
        (refine Zm ?_; repeat' (first | exact .intro | ((first | refine B1 (fun h => ?_) fun h => ?_ | refine B2 fun y he he' hy => ?_ | refine B3 fun y he hy => ?_ | refine B4 fun y hy => ?_ | refine B5 fun ck => ?_ | fail) <;> refine Zm ?_)))
        refine All'.mk ?_; rintro (e : Int) he
        obtain rfl : c = e := Option.some.inj he
        (refine Zm ?_; repeat' (first | exact .intro | ((first | refine B1 (fun h => ?_) fun h => ?_ | refine B2 fun y he he' hy => ?_ | refine B3 fun y he hy => ?_ | refine B4 fun y hy => ?_ | refine B5 fun ck => ?_ | fail) <;> refine Zm ?_)))
        have hm : ((c :: l).take (1 + c - 247).toNat).drop (Int.toNat 1) = tlY (c :: l) := by
          show ((c :: l).take (1 + c - 247).toNat).drop 1 = l.take (c - 247).toNat
          rw [show (1 + c - 247).toNat = (c - 247).toNat + 1 by omega]; rfl
        have hml : (tlY (c :: l)).length = (c - 247).toNat := by show (l.take (c - 247).toNat).length = _; rw [List.length_take]; omega
        have hmo : okY (tlY (c :: l)) := okY_take (fun x hx => hl x (List.mem_cons_of_mem _ hx)) _
        have hn : numS (c :: l) = if numL (beV (tlY (c :: l))) = c :: tlY (c :: l) then (((beV (tlY (c :: l)) : Nat) : Int), c - 246, 0) else (0, 0, 11) := by rw [numS_cons, if_neg h1, if_neg h2]; rfl
        refine Some'.mk (0 : Nat) ?_
        (refine Zn ?_; repeat' (first | exact .intro | ((first | refine B1 (fun h => ?_) fun h => ?_ | refine B2 fun y he he' hy => ?_ | refine B3 fun y he hy => ?_ | refine B4 fun y hy => ?_ | refine B5 fun ck => ?_ | fail) <;> refine Zn ?_)))
        refine AskL.mk ?_ ?_
        · (dsimp only [conj]; repeat' apply And.intro) <;> first | rfl | (show 1 + IntKind.i64.wrap c - 247 = c - 246; rw [hw2]; omega) | (show SV.ro true (Ty.int .u8) (List.drop (Int.toNat 1) (List.take (1 + IntKind.i64.wrap c - 247).toNat (c :: l))) = _; rw [hw2]; exact congrArg (SV.ro true (Ty.int .u8)) hm) | (show ((List.drop (Int.toNat 1) (List.take (1 + IntKind.i64.wrap c - 247).toNat (c :: l))).length : Int) = _; rw [hw2, hm])
        refine Ask.mk (Nat.zero_le _) ?_
        refine AllI.mk ?_
        rintro (i : Nat) hi
        (refine Zm ?_; repeat' (first | exact .intro | ((first | refine B1 (fun h => ?_) fun h => ?_ | refine B2 fun y he he' hy => ?_ | refine B3 fun y he hy => ?_ | refine B4 fun y hy => ?_ | refine B5 fun ck => ?_ | fail) <;> refine Zm ?_)))
        · refine All'.mk ?_; rintro (e : Int) he
          have he : (tlY (c :: l))[i]? = some e := he
          have hem : 0 ≤ e ∧ e < 256 := hmo e (List.mem_of_getElem? he)
          have hil : i < (tlY (c :: l)).length := (List.getElem?_eq_some_iff.1 he).1
          have ht : (tlY (c :: l)).take (i + 1) = (tlY (c :: l)).take i ++ [e] := by rw [List.take_add_one, he]; rfl
          have hb : beV ((tlY (c :: l)).take i) < 72057594037927936 := by
            have := beV_lt 7 ((tlY (c :: l)).take i) (by rw [List.length_take]; omega) (okY_take hmo _)
            omega
          have hm0 : (numberL (c :: l)).pre (i + 1) := hil
          have hwe : IntKind.u64.wrap e = e := wrap_u64 (by omega) (by omega)
          have hen : (e.toNat : Int) = e := by omega
          have h8 : ((beV ((tlY (c :: l)).take i) : Nat) : Int) * 2 ^ min (Int.toNat 8) IntKind.u64.bits = ((beV ((tlY (c :: l)).take i) : Nat) : Int) * 256 := rfl
          have hwf : IntKind.u64.wrap (((beV ((tlY (c :: l)).take i) : Nat) : Int) * 256) = ((beV ((tlY (c :: l)).take i) : Nat) : Int) * 256 := wrap_u64 (by omega) (by omega)
          have hor := or_byte (beV ((tlY (c :: l)).take i)) e.toNat hb (by omega)
          rw [hen, ← beV_snoc, ← ht] at hor
          rw [← hwe] at hor
          (refine Zm ?_; repeat' (first | exact .intro | ((first | refine B1 (fun h => ?_) fun h => ?_ | refine B2 fun y he he' hy => ?_ | refine B3 fun y he hy => ?_ | refine B4 fun y hy => ?_ | refine B5 fun ck => ?_ | fail) <;> refine Zm ?_)))
          refine Some'.mk (i + 1) ?_
          have hmu : (numberL (c :: l)).mu (i + 1) < (numberL (c :: l)).mu i := by show (tlY (c :: l)).length - (i + 1) < (tlY (c :: l)).length - i; omega
          (refine Zn ?_; repeat' (first | exact .intro | ((first | refine B1 (fun h => ?_) fun h => ?_ | refine B2 fun y he he' hy => ?_ | refine B3 fun y he hy => ?_ | refine B4 fun y hy => ?_ | refine B5 fun ck => ?_ | fail) <;> refine Zn ?_)))
          refine AskL.mk ?_ (Ask.mk hm0 (Ask.mk hmu trivial))
          (dsimp only [conj]; repeat' apply And.intro) <;> first | rfl | exact hor
        · have hie : i = (tlY (c :: l)).length := by
            have : i ≤ (tlY (c :: l)).length := hi
            omega
          subst hie
          have hb := beV_lt 8 (tlY (c :: l)) (by omega) hmo
          have htk : (tlY (c :: l)).take (tlY (c :: l)).length = tlY (c :: l) := List.take_length
          rw [htk]
          have hzb := num_back (c := c) hmo (by omega) (by omega)
          refine CallP.mk (C := sizeC) (beV (tlY (c :: l))) ?_
          have hb : beV (tlY (c :: l)) < 18446744073709551616 := by omega
          refine AskL.mk rfl (Ask.mk hb (All'.mk ?_))
          rintro (sz : Int) ⟨hsz, -⟩
          have hsz : sz = sizeV (beV (tlY (c :: l))) := hsz
          rw [← hsz] at hzb
          clear hsz
          (refine Zn ?_; repeat' (first | exact .intro | ((first | refine B1 (fun h => ?_) fun h => ?_ | refine B2 fun y he he' hy => ?_ | refine B3 fun y he hy => ?_ | refine B4 fun y hy => ?_ | refine B5 fun ck => ?_ | fail) <;> refine Zn ?_)))
          · refine AskL.mk ?_ trivial
            dsimp only [conj]
            have hne : ¬ numL (beV (tlY (c :: l))) = c :: tlY (c :: l) := fun h9 => by
              have h8 := hzb.2 h9
              have h7 : ¬sz = c - 246 := h
              omega
            rw [hn, if_neg hne]
            exact ⟨⟨rfl, rfl⟩, rfl⟩
          · refine AskL.mk ?_ trivial
            dsimp only [conj]
            have hne : numL (beV (tlY (c :: l))) = c :: tlY (c :: l) := hzb.1 (by
              have h7 : sz = c - 246 := h
              omega)
            rw [hn, if_pos hne, htk]
            exact ⟨⟨rfl, rfl⟩, rfl⟩
end Go.Proofs.YthmbdjhlfieldaaGreatDoor

/-! The engine, part W: a law's walk out of its contract. -/
set_option linter.unusedVariables false
namespace Go.Eng
open Go.RowKit (Below)
variable [DM]
set_option linter.unusedSectionVars false

/-- All that lies in memory at the start is only read. -/
def startE (w : World) : Env := ⟨fun j => match nilB j with | true => some nilSlot | false => none, fun b => b < w.heap.size, fun _ => False⟩

theorem startE_nil (w : World) : NilOk (startE w) := fun i hi => by simp [startE, hi]

theorem law_of {C : Ctr} {P : Program} {f : FuncId} (h : C.ok P f) (x : C.X) (hs : C.side x) (hrw : C.rw x = []) (hres : C.res x (C.val x) = .v (.bool true)) {vals : Array Value} {w : World}
    (hsz : vals.size = (C.args x).length) (hg : GlobOk (startE w) w) (hv : ∀ (j : Nat) (s : SV), (C.args x)[j]? = some s → Sat (startE w) w s (vals.getD j undef)) :
    Calls P f vals w fun e w' => e = .returned (.bool true) ∧ Below w.heap.size w w' := by
  obtain ⟨_, hc⟩ := h x hs
  have hE : EntsSat (startE w) w (fun _ _ => False) (C.rw x) := by
    rw [hrw]
    exact ⟨fun id b hb => hb, fun id b hb => hb.elim, fun id b hb => hb.elim, fun id b hb => hb.elim, fun i j b _ hb => hb.elim, fun b hb => hb.elim id (fun h => h.elim), startE_nil w, hg⟩
  have hcall := hc (startE w) (fun _ _ => False) vals w hsz hv hE (fun id hne => by
    cases hz : nilB id with
    | true => exact .inr rfl
    | false => exact absurd (by simp [startE, hz]) hne)
  refine Calls.mono (callsIn_wide.1 hcall) ?_
  rintro e w' ⟨v, E', fp', rfl, hsat, _, hadv, _⟩
  rw [hres] at hsat
  cases hsat
  have hkeep := hadv.keep
  have hsame : ∀ b, b < w.heap.size → w'.heap[b]? = w.heap[b]? := fun b hb => hkeep.same b hb (fun ⟨_, h⟩ => h)
  exact ⟨rfl, ⟨hkeep.os, hkeep.tape.tape, hkeep.output, hkeep.size, hsame⟩⟩

end Go.Eng

/-! The engine, part X: what an argument reads as is a datum of the engine's; behind a law's call it reads as it did. -/
set_option linter.unusedVariables false
namespace Go.Eng
variable [DM]
set_option linter.unusedSectionVars false

/-- The bounds that a datum out of the world keeps. -/
def okT : (t : Ty) → t.den → Prop
  | .int k, n => k.min ≤ n ∧ n ≤ k.max
  | .str, s => s.size ≤ 9223372036854775807
  | .sl t, xs => xs.length ≤ 9223372036854775807 ∧ ∀ x, x ∈ xs → okT t x
  | .pair a b, x => okT a x.1 ∧ okT b x.2
  | .arr _ t, f => ∀ i, okT t (f i)
  | _, _ => True

def fsAt (f : TypeId → Ty → Bool) : Nat → List Field → Ty → Bool
  | _, [], .unit => true
  | off, [g], T => Nat.beq g.offset off && f g.type T
  | off, g :: h :: l, .pair a b => Nat.beq g.offset off && f g.type a && fsAt f (off + a.size) (h :: l) b
  | _, _, _ => false

/-- T is the code of the program's type t. -/
def tyAt (P : Program) : Nat → TypeId → Ty → Bool
  | 0, _, _ => false
  | n + 1, t, T => Nat.beq (P.cellsOf t) T.size && (match P.underlying t with
    | some (.int k) => (match T with | .int k' => decide (k = k') | _ => false)
    | some .bool => (match T with | .bool => true | _ => false)
    | some .string => (match T with | .str => true | _ => false)
    | some (.slice e) => (match T with | .sl a => tyAt P n e a && Nat.blt 0 a.size | _ => false)
    | some (.struct fs) => fsAt (tyAt P n) 0 fs.toList T
    | some (.array len e) => (match T with | .arr m a => Nat.beq m len && tyAt P n e a | _ => false)
    | _ => false)

section
variable {H : Type} {en : TypeId × Value → H} {P : Program} {W : World} {base : Nat} {sp : Nat → Bool} {held : Bool}

theorem add_add (A : Addr) (x y : Nat) : (A.add x).add y = A.add (x + y) := by
  unfold Addr.add
  by_cases hx : x = 0 <;> by_cases hy : y = 0 <;> simp [hx, hy, Nat.add_assoc]

def Reads (W : World) (T : Ty) (cs : List Value) (off : Nat) : Prop :=
  ∃ d : T.den, okT T d ∧ ∀ (j : Nat) (sv : SV), (enc T d)[j]? = some sv → ∃ u, cs[off + j]? = some u ∧ Sat (startE W) W sv u

theorem idx_get : ∀ (n : Nat) (i : Fin n), (idx n)[i.1]? = some i
  | 0, i => i.elim0
  | n + 1, ⟨0, _⟩ => rfl
  | n + 1, ⟨i + 1, h⟩ => by
    simp only [idx, List.getElem?_cons_succ, List.getElem?_map]
    rw [idx_get n ⟨i, by omega⟩]
    rfl

theorem reads_one {T : Ty} {cs : List Value} {d : T.den} {s : SV} {v : Value} (hd : okT T d) (he : enc T d = [s]) (hc : cs = [v]) (hs : Sat (startE W) W s v) : Reads W T cs 0 := by
  refine ⟨d, hd, fun j sv hj => ?_⟩
  rw [he] at hj
  cases j with
  | zero =>
    obtain rfl : s = sv := by simpa using hj
    exact ⟨v, by simp [hc], hs⟩
  | succ j => simp at hj

theorem fields_read {n fuel : Nat} (ih : ∀ (t : TypeId) (T : Ty), tyAt P n t T = true → ∀ (cs : List Value) x, DataW.trod en P W base sp held fuel t cs = some x → Reads W T cs 0 ∧ cs.length = T.size) :
    ∀ (fs : List Field) (off : Nat) (T : Ty) (cs : List Value), fsAt (tyAt P n) off fs T = true → (∀ g, g ∈ fs → ∃ y, DataW.trod en P W base sp held fuel g.type ((cs.drop g.offset).take (P.cellsOf g.type)) = some y) → Reads W T cs off := by
  have one : ∀ (g : Field) (off : Nat) (T : Ty) (cs : List Value), g.offset = off → tyAt P n g.type T = true → (∃ y, DataW.trod en P W base sp held fuel g.type ((cs.drop g.offset).take (P.cellsOf g.type)) = some y) → Reads W T cs off := by
    rintro g off T cs rfl ht ⟨y, hy⟩
    obtain ⟨⟨d, h1, h2⟩, _⟩ := ih _ _ ht _ _ hy
    refine ⟨d, h1, fun j sv hj => ?_⟩
    obtain ⟨u, hu, hs⟩ := h2 j sv hj
    refine ⟨u, ?_, hs⟩
    rw [Nat.zero_add, List.getElem?_take] at hu
    split at hu
    · rw [List.getElem?_drop] at hu; exact hu
    · cases hu
  intro fs
  induction fs with
  | nil =>
    intro off T cs h _
    cases T <;> simp [fsAt] at h
    exact ⟨(), trivial, fun j sv hj => by simp [enc] at hj⟩
  | cons g l ihl =>
    intro off T cs h hall
    cases l with
    | nil =>
      have h' : (Nat.beq g.offset off && tyAt P n g.type T) = true := by cases T <;> exact h
      simp only [Bool.and_eq_true, Nat.beq_eq] at h'
      exact one g off T cs h'.1 h'.2 (hall g (List.mem_cons_self ..))
    | cons h2 l =>
      cases T <;> simp only [fsAt, Bool.false_eq_true] at h
      rename_i a b
      simp only [Bool.and_eq_true, Nat.beq_eq] at h
      obtain ⟨⟨h3, h4⟩, h5⟩ := h
      obtain ⟨d1, k1, k2⟩ := one g off a cs h3 h4 (hall g (List.mem_cons_self ..))
      obtain ⟨d2, k3, k4⟩ := ihl (off + a.size) b cs h5 (fun g' hg' => hall g' (List.mem_cons_of_mem _ hg'))
      refine ⟨(d1, d2), ⟨k1, k3⟩, fun j sv hj => ?_⟩
      simp only [enc] at hj
      rw [List.getElem?_append, enc_length] at hj
      split at hj
      · exact k2 j sv hj
      · obtain ⟨u, hu, hs⟩ := k4 _ sv hj
        exact ⟨u, by rw [← hu]; congr 1; omega, hs⟩

theorem reads : ∀ (n fuel : Nat) (t : TypeId) (T : Ty), tyAt P n t T = true → ∀ (cs : List Value) x, DataW.trod en P W base sp held fuel t cs = some x → Reads W T cs 0 ∧ cs.length = T.size := by
  intro n
  induction n with
  | zero => intro fuel t T h; simp [tyAt] at h
  | succ n ih =>
    intro fuel t T h cs x hx
    unfold tyAt at h
    simp only [Bool.and_eq_true, Nat.beq_eq] at h
    obtain ⟨hsz, h⟩ := h
    split at h
    · rename_i k hu
      cases T <;> simp only [Bool.false_eq_true] at h
      obtain rfl := of_decide_eq_true h
      obtain ⟨m, rfl, _, hw⟩ := DataW.trod_int hu hx
      simp only [Lit.wf, Bool.and_eq_true, decide_eq_true_eq] at hw
      exact ⟨reads_one (T := .int k) (d := m) hw rfl rfl (.v _), rfl⟩
    · rename_i hu
      cases T <;> simp only [Bool.false_eq_true] at h
      obtain ⟨b, rfl, _⟩ := DataW.trod_bool hu hx
      exact ⟨reads_one (T := .bool) (d := b) trivial rfl rfl (.v _), rfl⟩
    · rename_i hu
      cases T <;> simp only [Bool.false_eq_true] at h
      obtain ⟨s, rfl, _, hw⟩ := DataW.trod_string hu hx
      exact ⟨reads_one (T := .str) (d := s) hw rfl rfl (.v _), rfl⟩
    · rename_i e hu
      cases T <;> simp only [Bool.false_eq_true, Bool.and_eq_true] at h
      rename_i a
      obtain ⟨h1, h2⟩ := h
      have h2 : 0 < a.size := Nat.le_of_ble_eq_true h2
      have hce : P.cellsOf e = a.size := by
        cases n with
        | zero => simp [tyAt] at h1
        | succ n => unfold tyAt at h1; simp only [Bool.and_eq_true, Nat.beq_eq] at h1; exact h1.1
      rcases DataW.trod_slice hu hx with ⟨rfl, _⟩ | ⟨A, len, cap, elems, rest, m, rfl, rfl, _, hb, hle, hcap, hlen, hel, _⟩
      · exact ⟨reads_one (T := .sl a) (d := []) ⟨by simp, fun x hx => by cases hx⟩ rfl rfl (.nil _ _ _ _), rfl⟩
      · have each : ∀ i : Fin len, ∃ d : a.den, okT a d ∧ (∀ j, j < a.size → ∃ u, W.cell? (A.add (i * a.size + j)) = some u) ∧
            ∀ (j : Nat) (sv : SV), (enc a d)[j]? = some sv → ∃ u, W.cell? (A.add (i * a.size + j)) = some u ∧ Sat (startE W) W sv u := by
          intro i
          have h3 := hel i i.2
          have h4 : elems[i.1]? = some (elems[i.1]'(by omega)) := by simp
          rw [h4, Option.bind_eq_some_iff] at h3
          obtain ⟨cs, h5, h6⟩ := h3
          obtain ⟨⟨d, k1, k2⟩, k3⟩ := ih m e a h1 cs _ h6
          obtain ⟨_, g1, g2⟩ := World.cells?_some h5
          have hcell : ∀ j, j < a.size → W.cell? (A.add (i * a.size + j)) = cs[j]? := fun j hj => by
            have := g2 j (by omega)
            rw [hce] at this
            rw [← this]
            congr 1
            show A.add (i * a.size + j) = (A.add (i * a.size)).add j
            exact (add_add A _ _).symm
          refine ⟨d, k1, fun j hj => ?_, fun j sv hj => ?_⟩
          · have hj' : j < cs.length := by omega
            exact ⟨cs[j], by rw [hcell j hj]; simp [hj']⟩
          · obtain ⟨u, hu, hs⟩ := k2 j sv hj
            have hj' : j < a.size := by
              have := (List.getElem?_eq_some_iff.1 hj).1
              rw [enc_length] at this; exact this
            rw [Nat.zero_add] at hu
            exact ⟨u, by rw [hcell j hj']; exact hu, hs⟩
        let D : Fin len → a.den := fun i => Classical.choose (each i)
        have hD := fun i => Classical.choose_spec (each i)
        have hxs : (List.ofFn D).length = len := List.length_ofFn
        have hok : okT (.sl a) (List.ofFn D) := ⟨by rw [hxs]; have : maxLen = 9223372036854775807 := rfl; omega, fun x hx => by
          obtain ⟨i, rfl⟩ := List.mem_ofFn.1 hx
          exact (hD i).1⟩
        refine ⟨reads_one (T := .sl a) (d := List.ofFn D) hok rfl rfl ?_, rfl⟩
        rcases Nat.eq_zero_or_pos len with hl0 | hl0
        · have hnil : List.ofFn D = [] := List.eq_nil_of_length_eq_zero (by rw [hxs]; exact hl0)
          rw [hnil, hl0]
          exact .nil _ _ _ _
        · obtain ⟨u0, hu0⟩ := (hD ⟨0, by omega⟩).2.1 0 h2
          obtain ⟨k, o, spot⟩ := A
          have hspot : spot = none := by
            cases spot with
            | none => rfl
            | some q =>
              unfold World.cell? at hu0
              split at hu0
              · simp [Addr.add] at hu0
              · cases hu0
          subst hspot
          rw [add_none] at hu0
          have hk : k < W.heap.size := cell_lt hu0
          have := Sat.ro (E := startE W) (w := W) false a (List.ofFn D) k o cap (fun m => (W.cell? ⟨k, o + m, none⟩).getD undef) (.inl hk) (by omega) (fun m hm => ?_) (fun i x j sv hi hj => ?_)
          · rw [hxs] at this; exact this
          · rw [hxs] at hm
            have hi : m / a.size < len := (Nat.div_lt_iff_lt_mul h2).2 hm
            obtain ⟨u, hu⟩ := (hD ⟨m / a.size, hi⟩).2.1 (m % a.size) (Nat.mod_lt _ h2)
            have e1 : m / a.size * a.size + m % a.size = m := by rw [Nat.mul_comm]; exact Nat.div_add_mod m a.size
            rw [show (Addr.add ⟨k, o, none⟩ ((⟨m / a.size, hi⟩ : Fin len).1 * a.size + m % a.size)) = ⟨k, o + m, none⟩ by rw [add_none, e1]] at hu
            rw [hu]; rfl
          · obtain ⟨hi', rfl⟩ := List.getElem?_eq_some_iff.1 hi
            rw [hxs] at hi'
            rw [List.getElem_ofFn] at hj
            obtain ⟨u, hu, hs⟩ := (hD ⟨i, hi'⟩).2.2 j sv hj
            rw [add_none] at hu
            simp only [hu, Option.getD_some]; exact hs
    · rename_i fs hu
      obtain ⟨xs, m, rfl, _, hl, hlen, hf⟩ := DataW.trod_struct hu hx
      refine ⟨fields_read (ih m) fs.toList 0 T cs h (fun g hg => ?_), by omega⟩
      obtain ⟨i, hi, rfl⟩ := List.mem_iff_getElem.1 hg
      have hi' : i < fs.size := by simpa using hi
      have := hf i fs[i] (by simp [hi'])
      have h4 : xs[i]? = some (xs[i]'(by omega)) := by simp
      exact ⟨_, by rw [h4] at this; simpa using this⟩
    · rename_i len e hu
      cases T <;> simp only [Bool.false_eq_true, Bool.and_eq_true, Nat.beq_eq] at h
      rename_i m a
      obtain ⟨rfl, h1⟩ := h
      have hce : P.cellsOf e = a.size := by
        cases n with
        | zero => simp [tyAt] at h1
        | succ n => unfold tyAt at h1; simp only [Bool.and_eq_true, Nat.beq_eq] at h1; exact h1.1
      obtain ⟨xs, mf, rfl, _, hl, hlen, hf⟩ := DataW.trod_array hu hx
      refine ⟨?_, by omega⟩
      have each : ∀ i : Fin m, ∃ d : a.den, okT a d ∧ ∀ (j : Nat) (sv : SV), (enc a d)[j]? = some sv → ∃ u, cs[i * a.size + j]? = some u ∧ Sat (startE W) W sv u := by
        intro i
        have h3 := hf i i.2
        have h4 : xs[i.1]? = some (xs[i.1]'(by omega)) := by simp
        rw [h4, hce] at h3
        obtain ⟨⟨d, k1, k2⟩, _⟩ := ih mf e a h1 _ _ h3
        refine ⟨d, k1, fun j sv hj => ?_⟩
        obtain ⟨u, hu, hs⟩ := k2 j sv hj
        rw [Nat.zero_add, List.getElem?_take] at hu
        split at hu
        · rw [List.getElem?_drop] at hu; exact ⟨u, hu, hs⟩
        · cases hu
      let D : Fin m → a.den := fun i => Classical.choose (each i)
      have hD := fun i => Classical.choose_spec (each i)
      refine ⟨D, fun i => (hD i).1, fun j sv hj => ?_⟩
      rw [Nat.zero_add]
      simp only [enc] at hj
      have hsz' : ∀ i : Fin m, (enc a (D i)).length = a.size := fun i => enc_length a _
      have hjl : j < m * a.size := by
        have := (List.getElem?_eq_some_iff.1 hj).1
        rw [flatF_length _ a.size hsz', idx_length] at this
        exact this
      have hpos : 0 < a.size := by
        rcases Nat.eq_zero_or_pos a.size with h0 | h0
        · rw [h0] at hjl; simp at hjl
        · exact h0
      have hi : j / a.size < m := (Nat.div_lt_iff_lt_mul hpos).2 hjl
      have e1 : j / a.size * a.size + j % a.size = j := by rw [Nat.mul_comm]; exact Nat.div_add_mod j a.size
      have hg := flatF_get (fun i => enc a (D i)) a.size hsz' (idx m) (j / a.size) (j % a.size) ⟨j / a.size, hi⟩ (idx_get m ⟨j / a.size, hi⟩) (Nat.mod_lt _ hpos)
      rw [e1, hj] at hg
      obtain ⟨u, hu, hs⟩ := (hD ⟨j / a.size, hi⟩).2 (j % a.size) sv hg.symm
      exact ⟨u, by rw [← e1]; exact hu, hs⟩
    · cases h

/-- An argument of one cell. -/
theorem arg_one {t : TypeId} {T : Ty} {v : Value} {d : DataW H} {ps : List MemPlace} (n : Nat) (ht : tyAt P n t T = true) (h1 : ∀ x, ∃ s, enc T x = [s]) (hv : v.cells.toList = [v]) (h : DataW.Trod en P W base sp held t v d ps) :
    ∃ x : T.den, okT T x ∧ ∀ s, enc T x = [s] → Sat (startE W) W s v := by
  obtain ⟨fuel, h⟩ := h
  obtain ⟨⟨x, k1, k2⟩, _⟩ := reads n fuel t T ht _ _ h
  refine ⟨x, k1, fun s hs => ?_⟩
  obtain ⟨u, hu, hsat⟩ := k2 0 s (by rw [hs]; rfl)
  rw [hv] at hu
  obtain rfl : v = u := by simpa using hu
  exact hsat

/-- An argument that is a struct. -/
theorem arg_agg {t : TypeId} {T : Ty} {cs : Array Value} {d : DataW H} {ps : List MemPlace} (n : Nat) (ht : tyAt P n t T = true) (h : DataW.Trod en P W base sp held t (.agg cs) d ps) :
    ∃ x : T.den, okT T x ∧ Sat (startE W) W (.agg (enc T x)) (.agg cs) := by
  obtain ⟨fuel, h⟩ := h
  obtain ⟨⟨x, k1, k2⟩, hl⟩ := reads n fuel t T ht _ _ h
  have hl : cs.size = T.size := by simpa [Value.cells] using hl
  refine ⟨x, k1, .agg _ cs (fun j => cs.getD j undef) (by rw [hl, enc_length]) (fun j hj => ?_) (fun j sv hj => ?_)⟩
  · rw [enc_length] at hj
    have : j < cs.size := by omega
    simp [this]
  · obtain ⟨u, hu, hs⟩ := k2 j sv hj
    have : cs[j]? = some u := by simpa [Value.cells] using hu
    have e : cs.getD j undef = u := by simp [this]
    rw [e]; exact hs

theorem arg_slice {t e : TypeId} {a : Ty} {v : Value} {d : DataW H} {ps : List MemPlace} {r : Reach} {b0 : Nat} (n : Nat) (hu : P.underlying t = some (.slice e)) (hval : Value.okWide P W r b0 t v) (ht : tyAt P n t (.sl a) = true) (h : DataW.Trod en P W base sp held t v d ps) :
    ∃ x : List a.den, okT (.sl a) x ∧ Sat (startE W) W (.ro false a x) v := by
  obtain ⟨_, _, _, rfl⟩ := Go.WideShapes.okWide_slice hu hval
  obtain ⟨x, h1, h2⟩ := arg_one n ht (fun x => ⟨_, rfl⟩) rfl h
  exact ⟨x, h1, h2 _ rfl⟩
theorem arg_str {t : TypeId} {v : Value} {d : DataW H} {ps : List MemPlace} {r : Reach} {b0 : Nat} (n : Nat) (hu : P.underlying t = some .string) (hval : Value.okWide P W r b0 t v) (ht : tyAt P n t .str = true) (h : DataW.Trod en P W base sp held t v d ps) :
    ∃ x : ByteArray, okT .str x ∧ v = .string x := by
  obtain ⟨_, rfl⟩ := Go.WideShapes.okWide_string hu hval
  obtain ⟨x, h1, h2⟩ := arg_one n ht (fun x => ⟨_, rfl⟩) rfl h
  have := h2 _ rfl
  cases this
  exact ⟨_, h1, rfl⟩
theorem arg_bool {t : TypeId} {v : Value} {d : DataW H} {ps : List MemPlace} {r : Reach} {b0 : Nat} (hu : P.underlying t = some .bool) (hval : Value.okWide P W r b0 t v) : ∃ x : Bool, v = .bool x :=
  Go.WideShapes.okWide_bool hu hval
theorem arg_int {t : TypeId} {k : IntKind} {v : Value} {d : DataW H} {ps : List MemPlace} {r : Reach} {b0 : Nat} (hu : P.underlying t = some (.int k)) (hval : Value.okWide P W r b0 t v) (h : DataW.Trod en P W base sp held t v d ps) :
    ∃ n : Int, (k.min ≤ n ∧ n ≤ k.max) ∧ v = .int k n := by
  obtain ⟨n, rfl, _, _, hw⟩ := Go.ChangeShapes.open_int hu hval h
  simp only [Lit.wf, Bool.and_eq_true, decide_eq_true_eq] at hw
  exact ⟨n, hw, rfl⟩
theorem arg_struct {t : TypeId} {fs : Array Field} {T : Ty} {v : Value} {d : DataW H} {ps : List MemPlace} {r : Reach} {b0 : Nat} (n : Nat) (hu : P.underlying t = some (.struct fs)) (hval : Value.okWide P W r b0 t v) (ht : tyAt P n t T = true) (h : DataW.Trod en P W base sp held t v d ps) :
    ∃ x : T.den, okT T x ∧ Sat (startE W) W (.agg (enc T x)) v := by
  obtain ⟨_, rfl, _⟩ := Go.WideShapes.okWide_struct hu hval
  exact arg_agg n ht h

end
end Go.Eng
