/- Parts of the proof, one behind the other (EngQ, EngS, EngO, EngT, Base, ActA, Shelf, EngV, LibB, ActB). -/
import Derived.Test.YtghejeecanohoaaDoorPk4
import Derived.Test.YtghejeecanohoaaDoorRows
import Derived.Shelf.Strings.Builder1
import Derived.Shelf.Small.Strs
import Derived.Shelf.Strconv.Atoi
import Derived.Shelf.Strconv.Itoa0
import Derived.Shelf.Strconv.Itoa1
import Derived.Shelf.LaysM
import Derived.Shelf.Strconv.Itoa2
import Derived.Shelf.Strconv.Itoa3
import Derived.Shelf.Strconv.AtoiErrFast
import Derived.Shelf.Strconv.ParseIntEmpty
import Derived.Shelf.Strconv.AtoiFail
import Derived.Shelf.Strconv.Clone
import Derived.Shelf.Strconv.SyntaxError
import Derived.Shelf.LaysC
import Derived.Shelf.Strconv.ToError
import Derived.Shelf.Strconv.Lower
import Derived.Shelf.Strconv.ParseUint10
import Derived.Shelf.Strconv.ParseUint10Empty
import Derived.Shelf.Strconv.ParseUint10Any
import Derived.Shelf.Strconv.ParseInt10
import Derived.Shelf.Strconv.AtoiLong
import Derived.Shelf.Strconv.AtoiInnerAll
import Derived.Shelf.Strconv.RangeError
import Derived.Shelf.Strconv.ToErrorRange
import Derived.Shelf.Strconv.AtoiAll
import Derived.Shelf.Strings.Search1
import Derived.Shelf.Strings.Search2
import Derived.Shelf.Strings.Search3
import Derived.Shelf.Strings.Count
import Derived.Shelf.Strings.Shaped
import Derived.Shelf.Strings.Prefix
import Derived.Shelf.Strings.Split
import Derived.Shelf.Strings.SplitShaped
import Derived.Shelf.Unicode.DecodeSlow
import Derived.Test.YtghejeecanohoaaDoorChecked
import Derived.Lib.LaidTab
import Derived.RowKit3
import Derived.Below
import Derived.Sort.Grow
import Derived.Deep.Draws
import Derived.Lib.AtoiErrMem
import Derived.Lib.SplitLaws
import Derived.RangeFuncRecord
/-! The engine, part Q: the statement that ranges over a function. -/
set_option linter.unusedVariables false
namespace Go.Eng

/-- What lay apart comes back, partly under new names. -/
theorem EntsSat.bring {E2 Ea : Env} {w : World} {fp2 fpa : Nat → Nat → Prop} {M2 Ma : En} {i : Nat} {rg : List Nat} {K : En → Prop} (h2 : EntsSat E2 w fp2 M2) (ha : EntsSat Ea w fpa Ma)
    (hown : ∀ b, own fpa b → fp2 i b) (hIa : ∀ b, Ea.I b → E2.I b ∨ fp2 i b) (hBa : ∀ b, Ea.B b → E2.B b) (hsl : ∀ j, j ∈ rg → Ea.slot j = E2.slot j) (hfr : ∀ id, E2.slot id ≠ none → id < 2016)
    (h : renE true (extM (idM rg) 2016 (keys Ma)) Ma K) :
    ∃ eo, K eo ∧ (nodupB (keys eo) = true → nodupB (keys Ma) = true → ∃ E' fp', EntsSat E' w fp' (upd eo [i] M2) ∧ E2.le E' ∧ (∀ b, E'.I b → E2.I b ∨ Ea.I b) ∧ (∀ b, E'.B b → E2.B b) ∧
      (∀ id b, fp' id b → own fpa b ∨ ∃ j, j ≠ i ∧ fp2 j b) ∧ (∀ id, E'.slot id = E2.slot id ∨ (2016 ≤ id ∧ id < 2016 + (keys Ma).length))) := by
  obtain ⟨eo, hk, hlen, heo⟩ := renE_good _ h
  refine ⟨eo, hk, fun hnd hndm => ?_⟩
  have hnde := nodupB_spec hnd
  have hndo := nodupB_spec hndm
  let m := idM rg
  let mx := extM m 2016 (keys Ma)
  let E' : Env := { slot := (envB E2 Ea m mx).slot, I := fun b => E2.I b ∨ Ea.I b, B := E2.B }
  have hle : E2.le E' := ⟨fun id s hs => by simp only [E', envB, hs], fun b hb => .inl hb, fun b hb => hb⟩
  have hnew : ∀ j i, mlook m j = none → mlook mx j = some i → 2016 ≤ i ∧ i < 2016 + (keys Ma).length := fun j i h1 h2 => extM_new _ m 2016 j i h2 h1
  have hmap : ∀ j i, mlook mx j = some i → ∀ sl, Ea.slot j = some sl → E'.slot i = some sl := by
    intro j i hji sl hsl'
    cases hm : mlook m j with
    | some i' =>
      have := extM_old (keys Ma) m 2016 j i' hm
      obtain rfl : i' = i := Option.some.inj (this.symm.trans hji)
      obtain ⟨rfl, hjm⟩ := idM_some hm
      have h3 : E2.slot i' = some sl := (hsl _ hjm).symm.trans hsl'
      simp only [E', envB, h3]
    | none =>
      have hr := hnew j i hm hji
      have hfree : E2.slot i = none := Classical.byContradiction fun hne => by have := hfr i hne; omega
      have hex : ∃ j, mlook m j = none ∧ mlook mx j = some i := ⟨j, hm, hji⟩
      have hch := Classical.choose_spec hex
      have : Classical.choose hex = j := extM_inj _ m 2016 _ _ i hch.2 hji hch.1 hm
      simp only [E', envB, hfree]
      rw [dif_pos hex, this]; exact hsl'
  have hslots : ∀ id, E'.slot id = E2.slot id ∨ (2016 ≤ id ∧ id < 2016 + (keys Ma).length) := by
    intro id
    cases hs : E2.slot id with
    | some s => exact .inl (by simp only [E', envB, hs])
    | none =>
      by_cases hex : ∃ j, mlook m j = none ∧ mlook mx j = some id
      · obtain ⟨j, h1, h2⟩ := hex
        exact .inr (hnew j id h1 h2)
      · exact .inl (by simp only [E', envB, hs]; rw [dif_neg hex])
  have hnewent : ∀ id, id ∈ keys eo → ∃ j, (j ∈ keys Ma) ∧ mlook mx j = some id ∧ EntSat E' w (fpa j) id (find eo id) := by
    intro id hid
    have hmem := mem_of_find hid
    obtain ⟨k, hk, hget⟩ := List.mem_iff_getElem.1 hmem
    have hk' : eo[k]? = some (id, find eo id) := by rw [List.getElem?_eq_getElem hk, hget]
    obtain ⟨j, e, hje, hji, hsem2⟩ := heo k id _ hk'
    have hjm : (j, e) ∈ Ma := List.mem_of_getElem? hje
    have hsat := ha.sat j
    rw [find_mem hndo hjm] at hsat
    refine ⟨j, List.mem_map.2 ⟨_, hjm, rfl⟩, hji, hsem2 Ea _ w (fpa j) hmap (fun b hb => .inr hb) (fun _ b hb => hBa b hb) (fun F A hFA b hb => ?_) hsat⟩
    subst hFA
    exact ((hsat.1 b hb).1).imp .inr (hBa b)
  have huniq : ∀ j j' id, j ∈ keys Ma → j' ∈ keys Ma → mlook mx j = some id → mlook mx j' = some id → id ∈ keys eo → j = j' := by
    intro j j' id hj hj' h1 h2 _
    obtain ⟨k, hk, hget⟩ := List.mem_iff_getElem.1 (mem_of_find hj)
    obtain ⟨k', hk', hget'⟩ := List.mem_iff_getElem.1 (mem_of_find hj')
    have hke : k < eo.length := by omega
    have hke' : k' < eo.length := by omega
    obtain ⟨a, e1, b1, b2, _⟩ := heo k (eo[k]).1 (eo[k]).2 (by simp [hke])
    obtain ⟨a', e1', b1', b2', _⟩ := heo k' (eo[k']).1 (eo[k']).2 (by simp [hke'])
    have ea : a = j := by
      rw [List.getElem?_eq_getElem hk, hget] at b1
      exact (Prod.mk.inj (Option.some.inj b1)).1.symm
    have ea' : a' = j' := by
      rw [List.getElem?_eq_getElem hk', hget'] at b1'
      exact (Prod.mk.inj (Option.some.inj b1')).1.symm
    subst ea; subst ea'
    have i1 : (eo[k]).1 = id := Option.some.inj (b2.symm.trans h1)
    have i2 : (eo[k']).1 = id := Option.some.inj (b2'.symm.trans h2)
    have hkk : k = k' := by
      have n1 : (keys eo)[k]'(by simp [keys, hke]) = id := by simp [keys, i1]
      have n2 : (keys eo)[k']'(by simp [keys, hke']) = id := by simp [keys, i2]
      have hp := List.pairwise_iff_getElem.1 hnde
      rcases Nat.lt_trichotomy k k' with hlt | heq | hgt
      · exact absurd (n1.trans n2.symm) (hp k k' _ _ hlt)
      · exact heq
      · exact absurd (n2.trans n1.symm) (hp k' k _ _ hgt)
    subst hkk
    rw [hget] at hget'
    exact (Prod.mk.inj hget').1
  let fp' : Nat → Nat → Prop := fun id b => (id ∈ keys eo ∧ ∃ j, j ∈ keys Ma ∧ mlook mx j = some id ∧ fpa j b) ∨ (id ∉ keys eo ∧ id ≠ i ∧ fp2 id b)
  have hfpE : ∀ id j, id ∈ keys eo → j ∈ keys Ma → mlook mx j = some id → fp' id = fpa j := by
    intro id j hid hj hji
    funext b
    refine propext ⟨fun hb => ?_, fun hb => .inl ⟨hid, j, hj, hji, hb⟩⟩
    rcases hb with ⟨_, j', hj', hji', hb⟩ | ⟨hn, _⟩
    · rw [huniq j j' id hj hj' hji hji' hid]; exact hb
    · exact absurd hid hn
  have hfpO : ∀ id, id ∉ keys eo → id ≠ i → fp' id = fp2 id := by
    intro id h1 h3
    funext b
    exact propext ⟨fun hb => by rcases hb with ⟨h, _⟩ | ⟨_, _, h⟩; exact absurd h h1; exact h, fun hb => .inr ⟨h1, h3, hb⟩⟩
  refine ⟨E', fp', ⟨fun id => ?_, fun id b hb => ?_, fun id b hb hI => ?_, fun id b hb hB => ?_, fun p q b hne hb hb' => ?_, fun b hb => ?_, h2.nil.mono hle, h2.gl.mono hle.I (fun _ _ => rfl)⟩, hle, fun b hb => hb, fun b hb => hb, fun id b hb => ?_, hslots⟩
  · rw [find_upd]
    by_cases hk : id ∈ keys eo
    · rw [if_pos hk]
      obtain ⟨j, hj, hji, hs⟩ := hnewent id hk
      rw [hfpE id j hk hj hji]; exact hs
    · rw [if_neg hk]
      by_cases e : id = i
      · rw [if_pos (by simp [e])]
        rintro b (⟨h1, _⟩ | ⟨_, h3, _⟩)
        · exact hk h1
        · exact h3 e
      · rw [if_neg (by simp [e]), hfpO id hk e]
        exact (h2.sat id).mono hle (fun _ _ _ => rfl) (Nat.le_refl _) (fun _ _ => rfl)
  · rcases hb with ⟨_, j, _, _, hb⟩ | ⟨_, _, hb⟩
    · exact ha.lt j b hb
    · exact h2.lt id b hb
  · rcases hb with ⟨_, j, _, _, hb⟩ | ⟨_, hne, hb⟩
    · rcases hI with hI | hI
      · exact h2.I i b (hown b ⟨j, hb⟩) hI
      · exact ha.I j b hb hI
    · rcases hI with hI | hI
      · exact h2.I id b hb hI
      · rcases hIa b hI with h3 | h3
        · exact h2.I id b hb h3
        · exact h2.apart id i b hne hb h3
  · rcases hb with ⟨_, j, _, _, hb⟩ | ⟨_, _, hb⟩
    · exact h2.B i b (hown b ⟨j, hb⟩) hB
    · exact h2.B id b hb hB
  · rcases hb with ⟨k1, j, hj, hji, hb⟩ | ⟨k1, n1, hb⟩ <;> rcases hb' with ⟨k2, j', hj', hji', hb'⟩ | ⟨k2, n2, hb'⟩
    · by_cases e : j = j'
      · subst e; exact hne (Option.some.inj (hji.symm.trans hji'))
      · exact ha.apart j j' b e hb hb'
    · exact h2.apart q i b n2 hb' (hown b ⟨j, hb⟩)
    · exact h2.apart p i b n1 hb (hown b ⟨j', hb'⟩)
    · exact h2.apart p q b hne hb hb'
  · rcases hb with (hb | hb) | hb
    · exact h2.Ilt b (.inl hb)
    · exact ha.Ilt b (.inl hb)
    · exact h2.Ilt b (.inr hb)
  · rcases hb with ⟨_, j, _, _, hb⟩ | ⟨_, hne, hb⟩
    · exact .inl ⟨j, hb⟩
    · exact .inr ⟨id, hne, hb⟩

/-- The record is laid; at an outermost loop a mark with it. -/
theorem enter_ok {P : Program} {r : Option Nat} {df : List (Nat × Obj)} {w : World} (hr : ∀ l, r = some l → ∃ rec, (l, Obj.loop rec) ∈ df) (hd : ∀ b o, (b, o) ∈ df → w.heap[b]? = some o) (fn : FuncId) (tmps : Array Value) (ps : Array Tmp) (ca cb : Code) :
    ∃ (l : Nat) (ds : List Nat) (w1 : World) (d : Nat), (Instr.enterLoop fn tmps ps ca cb (fence r).round).run P w = .ok (l, ds.map markOf) w1 ∧ w.heap.size ≤ l ∧
      w1.heap[l]? = some (.loop { state := .ready, pending := none, fn := fn, tmps := tmps, params := ps, assign := ca, body := cb, defers := d }) ∧ w.heap.size ≤ w1.heap.size ∧ (∀ b, b < w.heap.size → w1.heap[b]? = w.heap[b]?) ∧
      w1.os = w.os ∧ TF w w1 ∧ w1.output = w.output ∧ ds.Nodup ∧ ∀ b, b ∈ ds → w.heap.size ≤ b ∧ b ≠ l ∧ w1.heap[b]? = some (.deferred (some [])) := by
  cases r with
  | none =>
    refine ⟨_, [w.heap.size], _, w.heap.size, run_enterLoop_outer fn tmps ps ca cb, by omega, ?_, ?_, fun b hb => ?_, rfl, ⟨rfl⟩, rfl, by simp, fun b hb => ?_⟩
    · have := World.alloc_heap_new (w.alloc (.deferred (some []))) (.loop { state := .ready, pending := none, fn := fn, tmps := tmps, params := ps, assign := ca, body := cb, defers := w.heap.size })
      rw [World.size_alloc] at this; exact this
    · rw [World.size_alloc, World.size_alloc]; omega
    · show ((w.heap.push _).push _)[b]? = _
      rw [Array.getElem?_push, Array.getElem?_push]
      simp only [Array.size_push]
      rw [if_neg (by omega), if_neg (by omega)]
    · obtain rfl := List.mem_singleton.1 hb
      refine ⟨Nat.le_refl _, by omega, ?_⟩
      show ((w.heap.push _).push _)[w.heap.size]? = _
      rw [Array.getElem?_push, Array.getElem?_push]
      simp
  | some l0 =>
    obtain ⟨rec, hrec⟩ := hr l0 rfl
    have hl0 := hd _ _ hrec
    refine ⟨w.heap.size, [], w.alloc (.loop { state := .ready, pending := none, fn := fn, tmps := tmps, params := ps, assign := ca, body := cb, defers := rec.defers }), rec.defers, ?_, Nat.le_refl _, World.alloc_heap_new _ _, ?_, fun b hb => ?_, rfl, ⟨rfl⟩, rfl, by simp, fun b hb => by cases hb⟩
    · show (Instr.enterLoop fn tmps ps ca cb (some l0)).run P w = _
      unfold Instr.enterLoop
      simp only [Sem.run_bind, run_getLoop hl0, Result.andThen, Sem.run_pure, run_newObj_alloc]
      rfl
    · rw [World.size_alloc]; omega
    · show (w.heap.push _)[b]? = _
      rw [Array.getElem?_push, if_neg (by omega)]

theorem Adv.before {E E' : Env} {fp fpc fp' : Nat → Nat → Prop} {w w1 w' : World} (h : Adv E fpc w1 E' fp' w') (hz : w.heap.size ≤ w1.heap.size) (hs : ∀ b, b < w.heap.size → w1.heap[b]? = w.heap[b]?) (h1 : w1.os = w.os) (h2 : TF w w1) (h3 : w1.output = w.output)
    (hown : ∀ b, own fpc b → own fp b ∨ w.heap.size ≤ b) : Adv E fp w E' fp' w' := by
  refine ⟨⟨h.keep.os.trans h1, h.keep.tape.trans h2, h.keep.output.trans h3, Nat.le_trans hz h.keep.size, fun b hb hn => (h.keep.same b (by omega) (fun ho => (hown b ho).elim hn (by omega))).trans (hs b hb)⟩, h.le, fun b hb => ?_, h.Beq, fun id b hb => ?_⟩
  · rcases h.Inew b hb with h4 | h4 | h4
    · exact .inl h4
    · exact .inr (hown b h4)
    · exact .inr (.inr (by omega))
  · rcases h.onew id b hb with h4 | h4
    · exact hown b h4
    · exact .inr (by omega)

section
variable {P : Program} {G : Nat → Option Ctr} {An : List Nat → Nat → Option AN} {nt : Nat}

theorem range_ok (hG : Known P G) {ca cb : Code} (iha : VOk P G An nt ca) (ihb : VOk P G An nt cb) {ps : Array Tmp} (hps : ∀ p, p ∈ ps.toList → p < nt) {r : Option Nat} {rg : Mp} {E0 : Env} {fp0 : Nat → Nat → Prop} {w0 : World} {df : List (Nat × Obj)}
    (hr : ∀ l, r = some l → ∃ rec, (l, Obj.loop rec) ∈ df) {g : Operand} {ms : List Nat} {cur nx : Nat} {T : Tm} {M : En} {K : VK} {Q : Exit → Act → World → Prop} {a : Act} {w : World}
    (h : rangeV P G An ms rg cur g ps.toList (vc P G An ca) (vc P G An cb) T M K) (hh : Here rg E0 fp0 w0 nt df nx T M a w)
    (hQ : ∀ e nx' T' M' a' w', 2000 ≤ nx' → K e nx' T' M' → Here rg E0 fp0 w0 nt df nx' T' M' a' w' → Q e a' w') : (Code.rangeFunc g ps ca cb).wpIn (fence r) 0 P Q a w := by
  unfold rangeV at h
  split at h
  · rename_i R _
    obtain ⟨x, h⟩ := h
    split at h
    · rename_i hchk
      simp only [Bool.and_eq_true, Bool.not_eq_true'] at hchk
      obtain ⟨⟨hinT, hltrg⟩, hdisj⟩ := hchk
      obtain ⟨⟨hrounds, hcall⟩, hh0⟩ := matSt_ok h hh
      rw [updM_eq] at hh0
      obtain ⟨E, fp, hs, hnx, hf, hd⟩ := hh0
      refine wpIn_rangeFunc (fun fn _ => ?_)
      obtain ⟨l, ds, w1, dfr, hent, hlnew, hl1, hz1, hsame, hos, htape, hout, hndd, hds⟩ := enter_ok (P := P) hr (fun b o hb => (hd.side b o hb).1) fn a.tmps ps ca cb
      let rec' : Loop := { state := .ready, pending := none, fn := fn, tmps := a.tmps, params := ps, assign := ca, body := cb, defers := dfr }
      have hlt1 : l < w1.heap.size := (Array.getElem?_eq_some_iff.1 hl1).1
      have hIltw : ∀ b, E.I b ∨ E.B b → b < w.heap.size := hs.en.Ilt
      have hst1 : Stays E w w1 := fun b hb hb' => hsame b hb'
      have htm1 : ∀ t, Sat E w1 (look (R.T x) t) (a.tmps.getD t undef) := fun t => (hs.tm t).mono (.refl E) hst1
      have hyok : YOk P l (ranY R x E w1 rec' l) := ranY_ok (cur := cur) (ms := ms) iha ihb hps ⟨rfl, rfl⟩ hs.sz hltrg (fun t => inT_sat hinT t _ (htm1 t)) (fun b hb => Nat.lt_of_lt_of_le (hIltw b hb) hz1) (fun k hk => hrounds.h k hk)
      have hcall := hcall.h (l, ranY R x E w1 rec' l) ⟨rfl, rfl, rfl, hyok⟩
      unfold callV at hcall
      split at hcall
      · rename_i f cap hfe
        split at hcall
        · rename_i C hgC
          split at hcall
          case h_2 => exact hcall.elim
          rename_i hbody
          obtain ⟨hok, hcf⟩ := (hG f C hgC).resolve_right (fun h => by rw [hbody] at h; cases h.1)
          obtain ⟨xc, hcall⟩ := hcall
          obtain ⟨out, S, ci, eo, hk, hci, hsem⟩ := call_good hok hcall
          have e1 := ev_sat (E := E) (w := w1) (T := R.T x) (a := a) (l := [g]) (fun t _ => htm1 t) (x := g) (by simp)
          rw [hfe] at e1
          generalize hge : a.eval g = fv at e1
          cases e1 with
          | func _ _ _ vf vc uf uc hlf hlc huf huc hsf hsc =>
            have hvf : vf = #[] := Array.eq_empty_of_size_eq_zero (by simpa using hlf)
            subst hvf
            -- what is lent to him
            let Ms := keys (R.M x 0)
            let Y : Yld := ranY R x E w1 rec' l
            let Mc : En := (1983, .res Y.F (Y.S 0)) :: R.R x
            have hin : ∀ {id}, id ∈ Ms → find (upd (R.M x 0) [] (R.R x)) id = find (R.M x 0) id := fun hid => by rw [find_upd, if_pos hid]
            have hout' : ∀ {id}, id ∉ Ms → find (upd (R.M x 0) [] (R.R x)) id = find (R.R x) id := fun hid => by rw [find_upd, if_neg hid, if_neg (by simp)]
            have hentM : EntsSat E w1 (only Ms fp) (R.M x 0) := by
              have hsub : ∀ id b, only Ms fp id b → fp id b := fun id b hb => by unfold only at hb; split at hb; exact hb; exact hb.elim
              refine ⟨fun id => ?_, fun id b hb => Nat.lt_of_lt_of_le (hs.en.lt id b (hsub id b hb)) hz1, fun id b hb => hs.en.I id b (hsub id b hb), fun id b hb => hs.en.B id b (hsub id b hb), fun i j b hij hi hj => hs.en.apart i j b hij (hsub i b hi) (hsub j b hj), fun b hb => Nat.lt_of_lt_of_le (hIltw b hb) hz1, hs.en.nil, hs.en.glob hst1 (fun _ h => h)⟩
              by_cases hid : id ∈ Ms
              · have h1 := (hs.en.sat id).mono (.refl E) hst1 hz1 (fun b hb => hsame b (hs.en.lt id b hb))
                rw [hin hid] at h1
                unfold only; rw [if_pos hid]; exact h1
              · rw [find_none hid]
                intro b hb
                unfold only at hb; rw [if_neg hid] at hb; exact hb
            have hlw : ∀ {b}, b < w.heap.size → b ≠ l := fun hb => by omega
            have hownM : ∀ b, own (only Ms fp) b → ∃ j, j ∈ Ms ∧ fp j b := fun b hb => own_only hb
            let fpl : Nat → Prop := fun b => b = l ∨ own (only Ms fp) b ∨ False
            have hS0 : ranS R x E w1 rec' l 0 (fun _ => False) fpl w1 := by
              refine ⟨E, only Ms fp, fun _ => False, ?_, hentM, fun b => ?_, fun b => Iff.rfl, fun b => Iff.rfl, fun j hj => rfl, fun id hne => hnx id hne, ⟨fun ho => ?_, fun hI => ?_, fun hB => ?_⟩, fun b _ => rfl⟩
              · simpa [recAt, goesB] using hl1
              · simp
              · obtain ⟨j, _, hj⟩ := hownM l ho
                have := hs.en.lt j l hj; omega
              · have := hIltw l (.inl hI); omega
              · have := hIltw l (.inr hB); omega
            let fpc : Nat → Nat → Prop := fun id b => if id = 1983 then fpl b else (id ∉ Ms ∧ fp id b)
            have c1 : ∀ b, fpc 1983 b ↔ fpl b := fun b => by simp [fpc]
            have c2 : ∀ {id}, id ≠ 1983 → ∀ b, fpc id b ↔ (id ∉ Ms ∧ fp id b) := fun hid b => by simp [fpc, hid]
            have hlold : ∀ b, fpl b → b = l ∨ ∃ j, j ∈ Ms ∧ fp j b := fun b hb => by
              rcases hb with hb | hb | hb
              · exact .inl hb
              · exact .inr (hownM b hb)
              · exact hb.elim
            have hownc : ∀ b, own fpc b → own fp b ∨ w.heap.size ≤ b := by
              rintro b ⟨id, hb⟩
              by_cases e : id = 1983
              · subst e
                rcases hlold b ((c1 b).1 hb) with h1 | ⟨j, _, h1⟩
                · exact .inr (by omega)
                · exact .inl ⟨j, h1⟩
              · exact .inl ⟨id, ((c2 e b).1 hb).2⟩
            have hentc : EntsSat E w1 fpc Mc := by
              refine ⟨fun id => ?_, fun id b hb => ?_, fun id b hb hI => ?_, fun id b hb hB => ?_, fun i j b hij hi hj => ?_, fun b hb => Nat.lt_of_lt_of_le (hIltw b hb) hz1, hs.en.nil, hs.en.glob hst1 (fun _ h => h)⟩
              · by_cases e : id = 1983
                · subst e
                  have hfc : fpc 1983 = fpl := funext fun b => propext (c1 b)
                  rw [hfc]
                  have hfd : find Mc 1983 = .res Y.F (Y.S 0) := rfl
                  rw [hfd]
                  exact ⟨fun b hb => ⟨hb, Nat.lt_of_lt_of_le (hIltw b hb) hz1⟩, fun _ => False, fun b hb => hb.elim, hS0, fun w' hz hsm => ranS_stay hS0 hz hsm⟩
                · have hfd : find Mc id = find (R.R x) id := by
                    simp only [Mc, find]
                    have : Nat.beq 1983 id = false := by rw [← Bool.not_eq_true, Nat.beq_eq]; exact fun h => e h.symm
                    rw [this]
                  rw [hfd]
                  by_cases hid : id ∈ Ms
                  · rw [find_none (fun hk => anyB_false hdisj hid hk)]
                    intro b hb
                    exact ((c2 e b).1 hb).1 hid
                  · have h1 := (hs.en.sat id).mono (.refl E) hst1 hz1 (fun b hb => hsame b (hs.en.lt id b hb))
                    rw [hout' hid] at h1
                    have hfc : fpc id = fp id := funext fun b => propext ((c2 e b).trans ⟨fun h => h.2, fun h => ⟨hid, h⟩⟩)
                    rw [hfc]; exact h1
              · by_cases e : id = 1983
                · subst e
                  rcases hlold b ((c1 b).1 hb) with h1 | ⟨j, _, h1⟩
                  · subst h1; exact hlt1
                  · exact Nat.lt_of_lt_of_le (hs.en.lt j b h1) hz1
                · exact Nat.lt_of_lt_of_le (hs.en.lt id b ((c2 e b).1 hb).2) hz1
              · by_cases e : id = 1983
                · subst e
                  rcases hlold b ((c1 b).1 hb) with h1 | ⟨j, _, h1⟩
                  · subst h1; have := hIltw b (.inl hI); omega
                  · exact hs.en.I j b h1 hI
                · exact hs.en.I id b ((c2 e b).1 hb).2 hI
              · by_cases e : id = 1983
                · subst e
                  rcases hlold b ((c1 b).1 hb) with h1 | ⟨j, _, h1⟩
                  · subst h1; have := hIltw b (.inr hB); omega
                  · exact hs.en.B j b h1 hB
                · exact hs.en.B id b ((c2 e b).1 hb).2 hB
              · have cross : ∀ {i b}, i ≠ 1983 → fpc i b → fpc 1983 b → False := fun {i b} e h1 h2 => by
                  have h1 := (c2 e b).1 h1
                  rcases hlold b ((c1 b).1 h2) with h3 | ⟨j, hj, h3⟩
                  · have := hs.en.lt i b h1.2; omega
                  · exact hs.en.apart i j b (fun e => h1.1 (e ▸ hj)) h1.2 h3
                by_cases e1 : i = 1983 <;> by_cases e2 : j = 1983
                · exact hij (e1.trans e2.symm)
                · subst e1; exact cross e2 hj hi
                · subst e2; exact cross e1 hi hj
                · exact hs.en.apart i j b hij ((c2 e1 b).1 hi).2 ((c2 e2 b).1 hj).2
            have hfresh : ∀ id, 2000 ≤ id → id < 2000 + 16 → E.slot id = none := fun id h1 _ => Classical.byContradiction fun hne => by have := hnx id hne; omega
            refine ⟨l, ds.map markOf, w1, { target := .fn (.func f) vc, args := #[] ++ (rangeCall g l).args.map a.eval }, w1, f, (rangeCall g l).args.map a.eval ++ vc, w1, hent, ?_, fun _ _ => trivial, ?_, fun hdp => by simp [fence, Fence.wide] at hdp, ?_⟩
            · simp only [resolve, hge, Deferred.ofValue]
              rfl
            · simp only [invoke, Array.empty_append]
              exact hcf _ w1
            · have hcin : CallsIn (fence none) 0 P f ((rangeCall g l).args.map a.eval ++ vc) w1 (rangePost (fence r) 0 P l Q { a with defers := ds.map markOf ++ a.defers }) := by
                refine CallsIn.mono (hsem E (only S fpc) w1 _ (by simp; omega) (fun j s hj => ?_) (hentc.part S) hfresh) ?_
                · cases j with
                  | zero =>
                    obtain rfl : SV.v (.func (.yield l) ⟨[]⟩ ⟨[]⟩) = s := by simpa using hj
                    have : ((rangeCall g l).args.map a.eval ++ vc).getD 0 undef = .func (.yield l) ⟨[]⟩ ⟨[]⟩ := by
                      simp only [Array.getD_eq_getD_getElem?]
                      rw [Array.getElem?_append_left (by simp), Array.getElem?_map]
                      rfl
                    rw [this]; exact .v _
                  | succ j =>
                    have hj' : cap[j]? = some s := by simpa using hj
                    have hlt := (List.getElem?_eq_some_iff.1 hj').1
                    have : ((rangeCall g l).args.map a.eval ++ vc).getD (j + 1) undef = uc j := by
                      simp only [Array.getD_eq_getD_getElem?]
                      rw [Array.getElem?_append_right (by simp)]
                      simp [huc j hlt]
                    rw [this]; exact hsc j s hj'
                · rintro e w3 ⟨v, rfl, E2, fp1, hres, hents2, hadv, hslots⟩
                  obtain ⟨hents2, hadv⟩ := hentc.frame hents2 hadv hci
                  generalize both (S ++ keys eo) fpc fp1 = fp2 at hents2 hadv
                  have hk : updK eo ci Mc (fun M => backV R x Y M K) := hk
                  rw [updK_eq, updM_eq] at hk
                  unfold backV at hk
                  split at hk
                  · rename_i F' A hfd
                    obtain ⟨n, hA, hren⟩ := hk
                    have hsatY := hents2.sat 1983
                    rw [hfd] at hsatY
                    obtain ⟨_, J, hJ, hSn, _⟩ := hsatY
                    rw [hA] at hSn
                    have hSn : ranS R x E w1 rec' l n J (fp2 1983) w3 := hSn
                    obtain ⟨Ea, fpa, V, hl3, hentsa, hEI, hEB, hfpa, hslota, hlta, ⟨hno, hnI, hnB⟩, hst3⟩ := hSn
                    have hl2 : fp2 1983 l := (hfpa l).2 (.inl rfl)
                    obtain ⟨eo', hk, hbring⟩ := hents2.bring (i := 1983) hentsa (fun b hb => (hfpa b).2 (.inr (.inl hb))) (fun b hb => by
                      rcases (hEI b).1 hb with h1 | h1 | h1
                      · exact .inl (hadv.le.I b h1)
                      · exact .inl (hJ b h1).1
                      · exact .inr ((hfpa b).2 (.inr (.inr h1)))) (fun b hb => hadv.le.B b ((hEB b).1 hb)) (fun j hj => (hslota j hj).trans (by
                        rcases hslots j with h1 | h1
                        · exact h1.symm
                        · have := ltB_spec hltrg j hj; omega)) (fun id hne => by
                        rcases hslots id with h1 | h1
                        · rw [h1] at hne; have := hnx id hne; omega
                        · omega) hren
                    split at hk
                    · rename_i hchk2
                      simp only [Bool.and_eq_true] at hchk2
                      obtain ⟨⟨hn1, hn2⟩, hn3⟩ := hchk2
                      have hn3 := Nat.le_of_ble_eq_true hn3
                      obtain ⟨E3, fp3, hents3, hle3, hI3, hB3, hown3, hslot3⟩ := hbring hn1 hn2
                      rw [updK_eq, updM_eq] at hk
                      have hstat : (recAt R x rec' n).state ≠ .busy := by unfold recAt; dsimp only; split <;> simp
                      have hend := run_endLoop (P := P) hl3 hstat
                      have hlt3 := (Array.getElem?_eq_some_iff.1 hl3).1
                      refine ⟨_, _, hend, ?_⟩
                      generalize hw4 : w3.putObj l (.loop { recAt R x rec' n with state := .exhausted }) = w4
                      have hoth : ∀ b, b ≠ l → w4.heap[b]? = w3.heap[b]? := fun b hb => by rw [← hw4]; exact World.putObj_heap_other hb
                      have hz4 : w4.heap.size = w3.heap.size := by rw [← hw4]; exact World.putObj_size
                      have hnl3 : ∀ id, ¬ fp3 id l := fun id hb => by
                        rcases hown3 id l hb with h1 | ⟨j, hj, h1⟩
                        · exact hno h1
                        · exact hents2.apart j 1983 l hj h1 hl2
                      have hnIl : ¬ E3.I l := fun hI => (hI3 l hI).elim (hents2.I 1983 l hl2) hnI
                      have hnBl : ¬ E3.B l := fun hB => hents2.B 1983 l hl2 (hB3 l hB)
                      have hst4 : Stays E3 w3 w4 := fun b hb _ => hoth b (fun e => by subst e; exact hb.elim hnIl hnBl)
                      have hents4 : EntsSat E3 w4 fp3 (upd eo' [1983] (upd eo ci Mc)) := ⟨fun id => (hents3.sat id).mono (.refl E3) hst4 (Nat.le_of_eq hz4.symm) (fun b hb => hoth b (fun e => by subst e; exact hnl3 id hb)),
                        fun id b hb => by rw [hz4]; exact hents3.lt id b hb, hents3.I, hents3.B, hents3.apart, fun b hb => by rw [hz4]; exact hents3.Ilt b hb, hents3.nil, hents3.glob hst4 (fun _ h => h)⟩
                      have hownl : own fpc l := ⟨1983, (c1 l).2 (.inl rfl)⟩
                      have hadv4 : Adv E fpc w1 E3 fp3 w4 := by
                        have hos4 : w4.os = w3.os ∧ TF w3 w4 ∧ w4.output = w3.output := by rw [← hw4]; exact ⟨rfl, ⟨rfl⟩, rfl⟩
                        refine ⟨⟨hos4.1.trans hadv.keep.os, hos4.2.1.trans hadv.keep.tape, hos4.2.2.trans hadv.keep.output, by rw [hz4]; exact hadv.keep.size, fun b hb hn => (hoth b (fun e => hn (e ▸ hownl))).trans (hadv.keep.same b hb hn)⟩, hadv.le.trans hle3, fun b hb => ?_, fun b hb => hadv.Beq b (hB3 b hb), fun id b hb => ?_⟩
                        · rcases hI3 b hb with h1 | h1
                          · exact hadv.Inew b h1
                          · rcases (hEI b).1 h1 with h2 | h2 | h2
                            · exact .inl h2
                            · exact hadv.Inew b (hJ b h2).1
                            · exact .inr (hadv.onew 1983 b ((hfpa b).2 (.inr (.inr h2))))
                        · rcases hown3 id b hb with h1 | ⟨j, _, h1⟩
                          · exact hadv.onew 1983 b ((hfpa b).2 (.inr (.inl h1)))
                          · exact hadv.onew j b h1
                      have hadvw : Adv E fp w E3 fp3 w4 := hadv4.before hz1 hsame hos htape hout hownc
                      have hfin : Here rg E0 fp0 w0 nt df 2032 (R.T x) (upd eo' [1983] (upd eo ci Mc)) { a with defers := ds.map markOf ++ a.defers } w4 := by
                        refine ⟨E3, fp3, ⟨hs.sz, fun t => (hs.tm t).mono hadvw.le (hs.en.stays hadvw.keep), hents4⟩, fun id hne => ?_, hf.step hadvw (fun id hid => ?_), ⟨fun b o hb => (hd.side b o hb).step hadvw, ?_⟩⟩
                        · rcases hslot3 id with h1 | h1
                          · rw [h1] at hne
                            rcases hslots id with h2 | h2
                            · rw [h2] at hne; have := hnx id hne; omega
                            · omega
                          · omega
                        · rcases hslot3 id with h1 | h1
                          · rcases hslots id with h2 | h2
                            · exact h1.trans h2
                            · omega
                          · omega
                        · obtain ⟨ds0, e1, e2, e3⟩ := hd.marks
                          refine ⟨ds ++ ds0, by simp [e1], List.nodup_append.2 ⟨hndd, e2, fun p hp q hq e => ?_⟩, fun b hb => ?_⟩
                          · subst e
                            have h1 := (hds p hp).1
                            have h2 := (Array.getElem?_eq_some_iff.1 (e3 p hq).2.1).1
                            omega
                          · rcases List.mem_append.1 hb with hb | hb
                            · obtain ⟨h1, h2, h3⟩ := hds b hb
                              refine ⟨by have := hf.keep.size; omega, Aside.step (E := E) (fp := fpc) (w := w1) ⟨h3, fun ⟨id, ho⟩ => ?_, fun hI => ?_, fun hB => ?_⟩ hadv4⟩
                              · by_cases e : id = 1983
                                · subst e
                                  rcases hlold b ((c1 b).1 ho) with h4 | ⟨j, _, h4⟩
                                  · exact h2 h4
                                  · have := hs.en.lt j b h4; omega
                                · have := hs.en.lt id b ((c2 e b).1 ho).2; omega
                              · have := hIltw b (.inl hI); omega
                              · have := hIltw b (.inr hB); omega
                            · exact ⟨(e3 b hb).1, (e3 b hb).2.step hadvw⟩
                      cases hgn : goesB (R.goes x) n with
                      | true =>
                        have : (recAt R x rec' n).pending = none := by simp [recAt, hgn]
                        rw [this]
                        exact hQ _ _ _ _ _ _ (by omega) (hk.t hgn) hfin
                      | false =>
                        have : (recAt R x rec' n).pending = jumpC (R.jump x (n - 1)) := by simp [recAt, hgn]
                        rw [this]
                        have hk := hk.f hgn
                        unfold jumpV at hk
                        split at hk
                        · rename_i j hj
                          rw [hj]
                          exact wpIn_exit (hQ _ _ _ _ _ _ (by omega) hk hfin)
                        · rename_i hj
                          rw [hj]
                          exact wpIn_ret (hQ _ _ _ _ _ _ (by omega) hk hfin)
                        · exact hk.elim
                    · exact hk.elim
                  · exact hk.elim
              exact hcin
        · exact hcall.elim
      · exact hcall.elim
    · exact h.elim
  · exact h.elim

end
end Go.Eng

/-! The engine, part S: the conditions asked of a text of code suffice. -/
set_option linter.unusedVariables false
namespace Go.Eng
section
variable {r : Option Nat} {P : Program} {G : Nat → Option Ctr} {An : List Nat → Nat → Option AN} {nt : Nat}

def opsB (nt : Nat) : List Oper → Bool
  | [] => true
  | o :: l => match o.dst with
    | some d => match Nat.blt d nt with | true => opsB nt l | false => false
    | none => opsB nt l
/-- Every target lies in the frame. -/
noncomputable def dstsB (nt : Nat) (c : Code) : Bool :=
  Code.rec (motive := fun _ => Bool) (skip := true) (region := fun _ ops _ => opsB nt ops.toList) (seq := fun _ _ a b => match a with | true => b | false => false)
    (cond := fun _ _ _ a b => match a with | true => b | false => false) (block := fun _ _ a => a) (loop := fun _ a => a)
    (rangeFunc := fun _ ps _ _ a b => match ltB nt ps.toList with | true => (match a with | true => b | false => false) | false => false) (exit := fun _ => true) (scope := fun _ a => a) (label := fun _ => true) (goto := fun _ => true) (ret := true) (refuse := fun _ => true) c

theorem opsB_spec : ∀ (l : List Oper), opsB nt l = true → ∀ (i : Nat) (o : Oper) (d : Nat), l[i]? = some o → o.dst = some d → d < nt
  | [], _, i, o, d, h, _ => by simp at h
  | o0 :: l, h, i, o, d, hi, hd => by
    have ht : opsB nt l = true ∧ ∀ d, o0.dst = some d → d < nt := by
      unfold opsB at h
      split at h
      · rename_i d0 h0
        split at h
        · rename_i hb
          exact ⟨h, fun d hd => by obtain rfl := Option.some.inj (h0.symm.trans hd); exact Nat.le_of_ble_eq_true hb⟩
        · cases h
      · rename_i h0; exact ⟨h, fun d hd => by rw [h0] at hd; cases hd⟩
    cases i with
    | zero => obtain rfl : o0 = o := by simpa using hi
              exact ht.2 d hd
    | succ i => exact opsB_spec l ht.1 i o d (by simpa using hi) hd

theorem both_true {a b : Bool} (h : (match a with | true => b | false => false) = true) : a = true ∧ b = true := by cases a <;> simp_all

section
variable {F : Fence} {n : Nat} {P : Program} {b : Frame} {a : Act} {k : List Item} {cs : List Frame} {w : World} {Q : Exit → Act → World → Prop}
theorem stepR_scope' {c : Code} : step P (lone (b.atR a (.code (.scope c) :: k)) cs w) = .next (lone (b.atR a (.code c :: .inScope c :: k)) cs w) :=
  step_lone_go (by simp [stepG, stepG.exec, Frame.atR])
theorem stepR_inScope' {c : Code} : step P (lone (b.atR a (.inScope c :: k)) cs w) = .next (lone (b.atR a k) cs w) :=
  step_lone_go (by simp [stepG, stepG.exec, Frame.atR])

theorem wpIn_scope' {c : Code} (h : c.wpIn F n P (fun e a w => match e with | .goto _ => False | e => Q e a w) a w) : (Code.scope c).wpIn F n P Q a w := by
  intro b k cs hro hb hr
  have h0 : (lone (b.atR a (.code (.scope c) :: k)) cs w).fenced P F := fenced_calm hb hr rfl
  obtain ⟨e, a₁, w₁, hq, harr⟩ := h b (.inScope c :: k) cs hro hb hr
  cases e with
  | normal => exact ⟨.normal, a₁, w₁, hq, .head h0 stepR_scope' (StepsIn.trans harr (.one (fenced_calm hb hr rfl) stepR_inScope'))⟩
  | exit id =>
    have hx : exitTo id (.inScope c :: k) = exitTo id k := by simp [exitTo]
    exact ⟨.exit id, a₁, w₁, hq, fun k' hk => .head h0 stepR_scope' (harr.1 k' (by rw [hx]; exact hk)),
      fun hr' hk => let ⟨k₁, h1, h2⟩ := harr.2 hr' (by rw [hx]; exact hk); ⟨k₁, h1, .head h0 stepR_scope' h2⟩⟩
  | goto l => exact hq.elim
  | ret => exact ⟨_, a₁, w₁, hq, .of_steps (.one h0 stepR_scope') harr⟩
  | panic ch => exact ⟨_, a₁, w₁, hq, .of_steps (.one h0 stepR_scope') harr⟩
  | outgrown => exact ⟨_, a₁, w₁, hq, .of_steps (.one h0 stepR_scope') harr⟩
end

/-- THE CONDITIONS SUFFICE. -/
theorem vc_ok (hG : Known P G) (hm : P.follows .mixedOrders = true) : ∀ (c : Code), dstsB nt c = true → VOk P G An nt c := by
  intro c
  induction c with
  | skip => intro _ ms r rg E0 fp0 w0 df hr cur nx T M K Q a w hnx h hh hQ; exact wpIn_skip (hQ _ _ _ _ _ _ hnx h hh)
  | region id ops dr =>
    intro hd ms r rg E0 fp0 w0 df hr cur nx T M K Q a w hnx h hh hQ
    obtain ⟨E, fp, hs, hfr, hf, hdf⟩ := hh
    refine reg_ok (K := K) hG hm h (fun i o d ho => opsB_spec ops.toList hd i o d (by simpa using ho)) hs hfr ?_
    intro T' M' E' fp' a' w' hk hs' hfr' hadv hsl hdf'
    exact hQ _ _ _ _ _ _ (by omega) hk ⟨E', fp', hs', hfr', hf.step hadv (fun id hid => hsl id (by omega)), hdf' ▸ hdf.step hadv⟩
  | seq x y ihx ihy =>
    intro hd ms r rg E0 fp0 w0 df hr cur nx T M K Q a w hnx h hh hQ
    obtain ⟨hd1, hd2⟩ := both_true hd
    refine wpIn_seq (ihx hd1 ms r rg E0 fp0 w0 df hr cur nx T M (seqK (fun K nx T M => vc P G An y ms rg cur nx T M K) K) _ a w hnx h hh ?_)
    intro e nx' T' M' a' w' hnx' hk hh'
    cases e with
    | normal => exact ihy hd2 ms r rg E0 fp0 w0 df hr cur nx' T' M' K Q a' w' hnx' hk hh' hQ
    | exit j => exact hQ _ _ _ _ _ _ hnx' hk hh'
    | ret => exact hQ _ _ _ _ _ _ hnx' hk hh'
    | goto l => exact hk.elim
    | panic ch => exact hk.elim
    | outgrown => exact hk.elim
  | cond c x y ihx ihy =>
    intro hd ms r rg E0 fp0 w0 df hr cur nx T M K Q a w hnx h hh hQ
    obtain ⟨hd1, hd2⟩ := both_true hd
    have h : condV T c (vc P G An x ms rg cur nx T M K) (vc P G An y ms rg cur nx T M K) := h
    unfold condV at h
    split at h
    · rename_i t ht
      have hh1 := hh
      obtain ⟨E, fp, hs, _⟩ := hh1
      have hc := ev_sat (E := E) (w := w) (l := [c]) (T := T) (a := a) (fun t _ => hs.tm t) (x := c) (by simp)
      rw [ht] at hc
      have hc' : a.eval c = .bool t := by generalize a.eval c = v at hc; cases hc; rfl
      exact wpIn_cond_split hc' (fun e => ihx hd1 ms r rg E0 fp0 w0 df hr cur nx T M K Q a w hnx (h.t e) hh hQ) (fun e => ihy hd2 ms r rg E0 fp0 w0 df hr cur nx T M K Q a w hnx (h.f e) hh hQ)
    · rename_i p hp
      have hh1 := hh
      obtain ⟨E, fp, hs, _⟩ := hh1
      have hc := ev_sat (E := E) (w := w) (l := [c]) (T := T) (a := a) (fun t _ => hs.tm t) (x := c) (by simp)
      rw [hp] at hc
      obtain ⟨t, ht, hc'⟩ : ∃ t, p t ∧ a.eval c = .bool t := by generalize a.eval c = v at hc; cases hc with | unkB _ b hb => exact ⟨b, hb, rfl⟩
      exact wpIn_cond_split hc' (fun e => ihx hd1 ms r rg E0 fp0 w0 df hr cur nx T M K Q a w hnx (h.t (e ▸ ht)) hh hQ) (fun e => ihy hd2 ms r rg E0 fp0 w0 df hr cur nx T M K Q a w hnx (h.f (e ▸ ht)) hh hQ)
    · exact h.elim
  | block id x ih =>
    intro hd ms r rg E0 fp0 w0 df hr cur nx T M K Q a w hnx h hh hQ
    refine wpIn_block (ih hd ms r rg E0 fp0 w0 df hr id nx T M (blkK id K) _ a w hnx h hh ?_)
    intro e nx' T' M' a' w' hnx' hk hh'
    cases e with
    | normal => exact hQ _ _ _ _ _ _ hnx' hk hh'
    | exit j =>
      simp only [Exit.inBlock]
      simp only [blkK] at hk
      split at hk
      · rename_i hb
        rw [if_pos (Nat.eq_of_beq_eq_true hb)]
        exact hQ _ _ _ _ _ _ hnx' hk hh'
      · rename_i hb
        rw [if_neg (fun e => by subst e; simp at hb)]
        exact hQ _ _ _ _ _ _ hnx' hk hh'
    | ret => exact hQ _ _ _ _ _ _ hnx' hk hh'
    | goto l => exact hk.elim
    | panic ch => exact hk.elim
    | outgrown => exact hk.elim
  | loop x ih =>
    intro hd ms r rg E0 fp0 w0 df hr cur nx T M K Q a w hnx h hh hQ
    have h : loopV An ms rg cur (fun ms nx T M K => vc P G An x ms rg cur nx T M K) T M K := h
    unfold loopV at h
    split at h
    · rename_i L hL
      obtain ⟨x0, h⟩ := h
      obtain ⟨⟨hp0, h⟩, hh0⟩ := matSt_ok h hh
      have h := h.h
      let I : Act → World → Prop := fun a w => ∃ y, L.pre y ∧ Here rg E0 fp0 w0 nt df 2000 (L.T y) (L.M y) a w
      let S : Act → World → Nat → Prop := fun a w n => ∃ y, L.mu y = n ∧ L.pre y ∧ Here rg E0 fp0 w0 nt df 2000 (L.T y) (L.M y) a w
      have hmin : ∀ a w, I a w → ∃ n, S a w n ∧ ∀ k, S a w k → n ≤ k := fun a w ⟨y, hy⟩ => by
        have key : ∀ n, S a w n → ∃ n, S a w n ∧ ∀ k, S a w k → n ≤ k := by
          intro n
          induction n using Nat.strongRecOn with
          | _ n ih =>
            intro hn
            by_cases he : ∃ k, k < n ∧ S a w k
            · obtain ⟨k, h1, h2⟩ := he; exact ih k h1 h2
            · exact ⟨n, hn, fun k hk => by
                rcases Nat.lt_or_ge k n with h1 | h1
                · exact absurd ⟨k, h1, hk⟩ he
                · exact h1⟩
        exact key (L.mu y) ⟨y, rfl, hy⟩
      let μ : Act → World → Nat := fun a w => open Classical in if h : I a w then Classical.choose (hmin a w h) else 0
      have hμ : ∀ a w (h : I a w), S a w (μ a w) ∧ ∀ k, S a w k → μ a w ≤ k := fun a w h => by
        have := Classical.choose_spec (hmin a w h)
        simp only [μ, dif_pos h]; exact this
      refine wpIn_loop I μ ⟨x0, hp0, hh0⟩ (fun a1 w1 hI => ?_)
      obtain ⟨⟨y, hy1, hy2, hy3⟩, _⟩ := hμ a1 w1 hI
      refine ih hd (L.mu y :: ms) r rg E0 fp0 w0 df hr cur 2000 (L.T y) (L.M y) _ _ a1 w1 (Nat.le_refl _) (h y hy2) hy3 ?_
      intro e nx' T' M' a' w' hnx' hk hh'
      cases e with
      | normal =>
        obtain ⟨y', hk⟩ := hk
        obtain ⟨⟨hp, hlt, _⟩, hh2⟩ := matSt_ok hk hh'
        have hI' : I a' w' := ⟨y', hp, hh2⟩
        refine ⟨hI', ?_⟩
        have := (hμ a' w' hI').2 (L.mu y') ⟨y', rfl, hp, hh2⟩
        omega
      | exit j => exact hQ _ _ _ _ _ _ hnx' hk hh'
      | ret => exact hQ _ _ _ _ _ _ hnx' hk hh'
      | goto l => exact hk.elim
      | panic ch => exact hk.elim
      | outgrown => exact hk.elim
    · exact h.elim
  | exit i => intro _ ms r rg E0 fp0 w0 df hr cur nx T M K Q a w hnx h hh hQ; exact wpIn_exit (hQ _ _ _ _ _ _ hnx h hh)
  | label l => intro _ ms r rg E0 fp0 w0 df hr cur nx T M K Q a w hnx h hh hQ; exact wpIn_label (hQ _ _ _ _ _ _ hnx h hh)
  | ret => intro _ ms r rg E0 fp0 w0 df hr cur nx T M K Q a w hnx h hh hQ; exact wpIn_ret (hQ _ _ _ _ _ _ hnx h hh)
  | rangeFunc g ps x y ihx ihy =>
    intro hd ms r rg E0 fp0 w0 df hr cur nx T M K Q a w hnx h hh hQ
    obtain ⟨hd0, hd12⟩ := both_true hd
    obtain ⟨hd1, hd2⟩ := both_true hd12
    exact range_ok hG (ihx hd1) (ihy hd2) (ltB_spec hd0) hr h hh (fun e nx' T' M' a' w' h1 => hQ e nx' T' M' a' w' h1)
  | scope x ih =>
    intro hd ms r rg E0 fp0 w0 df hr cur nx T M K Q a w hnx h hh hQ
    refine wpIn_scope' (ih hd ms r rg E0 fp0 w0 df hr cur nx T M (seqK (fun K nx T M => K .normal nx T M) K) _ a w hnx h hh ?_)
    intro e nx' T' M' a' w' hnx' hk hh'
    cases e with
    | normal => exact hQ _ _ _ _ _ _ hnx' hk hh'
    | exit j => exact hQ _ _ _ _ _ _ hnx' hk hh'
    | ret => exact hQ _ _ _ _ _ _ hnx' hk hh'
    | goto l => exact hk.elim
    | panic ch => exact hk.elim
    | outgrown => exact hk.elim
  | goto l => intro _ ms r rg E0 fp0 w0 df hr cur nx T M K Q a w hnx h hh hQ; exact h.elim
  | refuse y => intro _ ms r rg E0 fp0 w0 df hr cur nx T M K Q a w hnx h hh hQ; exact h.elim

end
end Go.Eng

/-! The engine, part O: a function keeps its contract. -/
set_option linter.unusedVariables false
namespace Go.Eng

/-- What is known of functions, as a list. -/
def gOf : List (Nat × Ctr) → Nat → Option Ctr
  | [], _ => none
  | (j, C) :: l, i => match Nat.beq j i with | true => some C | false => gOf l i
def anAt : List (Nat × AN) → Nat → Option AN
  | [], _ => none
  | (j, L) :: l, i => match Nat.beq j i with | true => some L | false => anAt l i
/-- The loops' invariants, as a list. -/
def anOf (l : List (Nat × AN)) (ms : List Nat) (i : Nat) : Option AN := anAt l i
/-- The same, where inner loops may name what is left of the outer ones (the innermost ahead). -/
def anOfM (f : List Nat → List (Nat × AN)) (ms : List Nat) (i : Nat) : Option AN := anAt (f ms) i

def Has (P : Program) (C : Ctr) (g : FuncId) : Prop := C.ok P g ∧ ∀ args w, (callFunc g args).run P w = .ok (.enter g args) w
/-- A function without a body. -/
theorem known_ext {P : Program} {j : Nat} {C : Ctr} {l : List (Nat × Ctr)} (hb : bodyB P j = false) (h : C.okV P j) (k : Known P (gOf l)) : Known P (gOf ((j, C) :: l)) := fun g D e => by
  unfold gOf at e
  split at e
  · rename_i hb'
    obtain rfl := Nat.eq_of_beq_eq_true hb'
    obtain rfl := Option.some.inj e
    exact .inr ⟨hb, h⟩
  · exact k g D e

theorem known_nil (P : Program) : Known P (gOf []) := fun g C h => by cases h
theorem known_cons {P : Program} {j : Nat} {C : Ctr} {l : List (Nat × Ctr)} (h : Has P C j) (k : Known P (gOf l)) : Known P (gOf ((j, C) :: l)) := fun g D e => by
  unfold gOf at e
  split at e
  · rename_i hb
    obtain rfl := Nat.eq_of_beq_eq_true hb
    obtain rfl := Option.some.inj e
    exact .inl h
  · exact k g D e

theorem Fork.pos {b : Bool} {A B : Prop} (h : b = true) (a : A) : Fork b A B := ⟨fun _ => a, fun h' => by rw [h] at h'; cases h'⟩
theorem Fork.neg {b : Bool} {A B : Prop} (h : b = false) (a : B) : Fork b A B := ⟨(fun h' => by rw [h] at h'; cases h'), fun _ => a⟩

section
variable {P : Program} {G : Nat → Option Ctr} {An : List Nat → Nat → Option AN}

theorem vals_ok {T : Tm} {M : En} {nt : Nat} : ∀ (rs : List ResultVar) {K : List SV → Prop}, endL P T M rs K → ∃ ss, K ss ∧ ∀ (E : Env) (fp : Nat → Nat → Prop) (a : Act) (w : World), StSat E w fp a nt T M →
    ∃ vs, (∀ (f : ResultVar → Sem Value) (_ : ∀ u, f (.tmp u) = pure (a.tmps.getD u undef)) (_ : ∀ c t, f (.cell c t) = (do loadVar t (← asAddr (a.tmps.getD c undef)))),
      (rs.mapM f).run P w = .ok vs w) ∧ CellsAre E w ss vs
  | [], K, h => ⟨[], h, fun E fp a w hs => ⟨[], fun f _ _ => by simp, rfl, fun j s hj => by simp at hj⟩⟩
  | .tmp t :: l, K, h => by
    obtain ⟨ss, hk, hss⟩ := vals_ok l (force_spec h)
    refine ⟨_, hk, fun E fp a w hs => ?_⟩
    obtain ⟨vs, h1, h2⟩ := hss E fp a w hs
    refine ⟨a.tmps.getD t undef :: vs, fun f hf hc => by simp only [List.mapM_cons, hf, Sem.run_bind, Sem.run_pure, Result.andThen_ok, h1 f hf hc], by simp [h2.1], fun j s hj => ?_⟩
    cases j with
    | zero =>
      obtain rfl : look T t = s := by simpa using hj
      exact ⟨_, rfl, hs.tm t⟩
    | succ j => exact h2.2 j s (by simpa using hj)
  | .cell c t :: l, K, h => by
    unfold endL at h
    split at h
    · rename_i i off hc0
      split at h
      · rename_i t' cs hf0
        obtain ⟨out, h, hout⟩ := partV_load h
        obtain ⟨ss, hk, hss⟩ := vals_ok l h
        refine ⟨_, hk, fun E fp a w hs => ?_⟩
        obtain ⟨vs, h1, h2⟩ := hss E fp a w hs
        have hp := hs.tm c
        rw [hc0] at hp
        have he := hs.en.sat i
        rw [hf0] at he
        obtain ⟨s', arr, fz, e1, e2, e3, e4, e5, e6⟩ := he
        generalize hq : a.tmps.getD c undef = pv at hp
        cases hp with
        | ptr _ _ s hsl =>
          obtain rfl := Option.some.inj (hsl.symm.trans e1)
          obtain ⟨v, g1, g2⟩ := hout E w s.blk 0 (fun j sv hj => by
            obtain ⟨u, hu, hsat⟩ := e6 j sv hj
            exact ⟨u, by rw [Nat.zero_add]; exact cell_of e3 hu, hsat⟩)
          rw [Nat.zero_add] at g1
          refine ⟨v :: vs, fun f hf hc => ?_, by simp [h2.1], fun j s hj => ?_⟩
          · simp only [List.mapM_cons, hc, hq, asAddr, Sem.run_bind, Sem.run_pure, Result.andThen_ok, g1, h1 f hf hc]
          · cases j with
            | zero =>
              obtain rfl : out = s := by simpa using hj
              exact ⟨_, rfl, g2⟩
            | succ j => exact h2.2 j s (by simpa using hj)
      · exact h.elim
    · exact h.elim

theorem results_run {fn : Func} {tmps : Array Value} {w : World} {vs : List Value}
    (h : ∀ (f : ResultVar → Sem Value) (_ : ∀ u, f (.tmp u) = pure (tmps.getD u undef)) (_ : ∀ c t, f (.cell c t) = (do loadVar t (← asAddr (tmps.getD c undef)))), (fn.results.toList.mapM f).run P w = .ok vs w) :
    (results fn tmps).run P w = .ok (if h : vs.toArray.size = 1 then vs.toArray[0] else .tuple vs.toArray) w := by
  unfold results
  rw [show fn.results = fn.results.toList.toArray by simp, List.mapM_toArray]
  simp only [Sem.run_bind, Sem.run_map]
  rw [h]
  · simp
  · intro u; rfl
  · intro a t; rfl

theorem endV_ok {fn : Func} {T : Tm} {M : En} {nt : Nat} {K : SV → Prop} (h : endV P T M fn.results.toList K) : ∃ s, K s ∧ ∀ (E : Env) (fp : Nat → Nat → Prop) (a : Act) (w : World), StSat E w fp a nt T M →
    ∃ v, (results fn a.tmps).run P w = .ok v w ∧ Sat E w s v := by
  obtain ⟨ss, hk, hss⟩ := vals_ok (nt := nt) _ h
  have hrun : ∀ (E : Env) (fp : Nat → Nat → Prop) (a : Act) (w : World), StSat E w fp a nt T M → ∃ vs : List Value, (results fn a.tmps).run P w = .ok (if h : vs.toArray.size = 1 then vs.toArray[0] else .tuple vs.toArray) w ∧ CellsAre E w ss vs := fun E fp a w hs =>
    let ⟨vs, h1, h2⟩ := hss E fp a w hs
    ⟨vs, results_run h1, h2⟩
  split at hk
  · rename_i s
    refine ⟨s, hk, fun E fp a w hs => ?_⟩
    obtain ⟨vs, h1, h2, h3⟩ := hrun E fp a w hs
    match vs, h2 with
    | [v], _ =>
      obtain ⟨u, hu, hsat⟩ := h3 0 s rfl
      obtain rfl : v = u := by simpa using hu
      exact ⟨v, h1, hsat⟩
  · rename_i hne
    refine ⟨_, hk, fun E fp a w hs => ?_⟩
    obtain ⟨vs, h1, h2, h3⟩ := hrun E fp a w hs
    have hl : vs.toArray.size ≠ 1 := fun e => by
      match ss, h2, hne with
      | [s], _, hne => exact hne s rfl
      | [], h2, _ => simp at e h2; simp [h2] at e
      | _ :: _ :: _, h2, _ => simp at e h2; omega
    rw [dif_neg hl] at h1
    refine ⟨_, h1, .tuple ss _ (fun j => vs.getD j undef) (by simpa using h2) (fun j hj => ?_) (fun j sv hj => ?_)⟩
    · have : j < vs.length := by omega
      simp [this]
    · obtain ⟨u, hu, hsat⟩ := h3 j sv hj
      have : vs.getD j undef = u := by simp [hu]
      rw [this]; exact hsat

theorem newOk_spec {rg : Mp} : ∀ (m : Mp), newOk rg m = true → ∀ j i, mlook m j = some i → j < 1000 → ∃ k, mlook rg j = some k
  | [], _, j, i, h, _ => by cases h
  | (k, i0) :: m, hc, j, i, h, hj => by
    rw [mlook_cons] at h
    have ht : newOk rg m = true ∧ (k < 1000 → ∃ k', mlook rg k = some k') := by
      unfold newOk at hc
      split at hc
      · rename_i hb; exact ⟨hc, fun hk => by have := Nat.le_of_ble_eq_true hb; omega⟩
      · split at hc
        · rename_i k' hk'; exact ⟨hc, fun _ => ⟨k', hk'⟩⟩
        · cases hc
    split at h
    · rename_i e; subst e; exact ht.2 hj
    · exact newOk_spec m ht.1 j i h hj

/-- The marks are taken: nothing else turns. -/
theorem takes_marks {F : Fence} {n : Nat} {fn : Func} {tmps : Array Value} {R : Ending → World → Prop} : ∀ (ds : List Nat) (w : World), ds.Nodup → (∀ b, b ∈ ds → w.heap[b]? = some (.deferred (some []))) →
    (∀ w' : World, w'.os = w.os → TF w w' → w'.output = w.output → w'.heap.size = w.heap.size → (∀ b, b ∉ ds → w'.heap[b]? = w.heap[b]?) → ∃ v, (results fn tmps).run P w' = .ok v w' ∧ R (.returned v) w') →
    LeavesInM F n P fn tmps R (ds.map markOf) .returning w
  | [], w, _, _, h => h w rfl (.refl w) rfl rfl (fun _ _ => rfl)
  | b :: ds, w, hn, hb, h => by
    obtain ⟨hn1, hn2⟩ := List.nodup_cons.1 hn
    refine ⟨by simp, .inl ⟨b, _, rfl, run_takeDeferred (hb b (List.mem_cons_self ..)), ?_⟩⟩
    refine takes_marks ds _ hn2 (fun c hc => ?_) (fun w' h1 h2 h3 h4 h5 => h w' h1 (h2.trans ⟨rfl⟩) h3 (h4.trans World.putObj_size) (fun c hc => ?_))
    · rw [World.putObj_heap_other (by rintro rfl; exact hn1 hc)]; exact hb c (List.mem_cons_of_mem _ hc)
    · rw [h5 c (fun e => hc (List.mem_cons_of_mem _ e)), World.putObj_heap_other (by rintro rfl; exact hc (List.mem_cons_self ..))]

theorem rgOf_self : ∀ (M : En) (j i : Nat), mlook (rgOf M) j = some i → i = j ∧ j ∈ keys M
  | [], j, i, h => by cases h
  | (k, e) :: M, j, i, h => by
    simp only [rgOf] at h
    rw [mlook_cons] at h
    split at h
    · rename_i e1
      subst e1
      exact ⟨(Option.some.inj h).symm, by simp [keys]⟩
    · obtain ⟨h1, h2⟩ := rgOf_self M j i h
      exact ⟨h1, by simp only [keys, List.map_cons, List.mem_cons] at h2 ⊢; exact .inr h2⟩

theorem keysLt_spec {n : Nat} : ∀ (M : En), keysLt n M = true → ∀ j, j ∈ keys M → j < n
  | [], _, j, h => by cases h
  | (k, e) :: M, h, j, hj => by
    unfold keysLt at h
    split at h
    · rename_i hb
      rcases List.mem_cons.1 (show j ∈ k :: keys M from hj) with rfl | hj
      · exact Nat.le_of_ble_eq_true hb
      · exact keysLt_spec M h j hj
    · cases h

theorem numT_look : ∀ (l : List SV) (n t : Nat), look (numT n l) t = .any ∨ ∃ j, t = n + j ∧ l[j]? = some (look (numT n l) t)
  | [], n, t => .inl rfl
  | s :: l, n, t => by
    simp only [numT, look]
    cases hb : Nat.beq n t with
    | true => obtain rfl := Nat.eq_of_beq_eq_true hb; exact .inr ⟨0, rfl, rfl⟩
    | false =>
      rcases numT_look l (n + 1) t with e | ⟨j, h1, h2⟩
      · exact .inl e
      · exact .inr ⟨j + 1, by omega, by simpa using h2⟩

theorem ok_of_vc {C : Ctr} {An : C.X → List Nat → Nat → Option AN} {f : FuncId} {fn : Func} (hG : Known P G) (hm : P.follows .mixedOrders = true) (hf : P.funcs[f]? = some fn) (hb : fn.body = some (bodyC fn)) (hd : dstsB fn.ntmps (bodyC fn) = true)
    (hens : ∀ x, C.side x → C.ens x (C.val x)) (h : ∀ x, C.side x → fnVC P G (An x) fn C x) : C.ok P f := by
  intro x hside
  refine ⟨hens x hside, fun E fp vals w hsz hvals hents hnames => ?_⟩
  have h := h x hside
  unfold fnVC at h
  split at h
  · rename_i hkeys
    split at h
    · rename_i hlen
      have hlen := Nat.le_of_ble_eq_true hlen
      have hrg : ∀ j i, mlook (rgOf (C.rw x)) j = some i → i = j ∧ j < 1000 := fun j i hj => by
        obtain ⟨h1, h2⟩ := rgOf_self _ j i hj
        exact ⟨h1, keysLt_spec _ hkeys j h2⟩
      refine callsIn_of_wp_marks (F := fence none) hf hb trivial ?_
      have hst : StSat E w fp { tmps := vals ++ Array.replicate (fn.ntmps - vals.size) undef, defers := [] } fn.ntmps (numT 0 (C.args x)) (C.rw x) := by
        refine ⟨by simp; omega, fun t => ?_, hents⟩
        rcases numT_look (C.args x) 0 t with e | ⟨j, h1, h2⟩
        · rw [e]; exact .any _
        · obtain rfl : t = j := by omega
          have hj := (List.getElem?_eq_some_iff.1 h2).1
          have := hvals t _ h2
          have e : (vals ++ Array.replicate (fn.ntmps - vals.size) undef).getD t undef = vals.getD t undef := by
            have hlt : t < vals.size := by omega
            simp [Array.getElem?_append, hlt]
          rw [e]; exact this
      have fin : ∀ nx' T' M' a' w', (endV P T' M' fn.results.toList fun v => postB C x (rgOf (C.rw x)) M' v) → Here (rgOf (C.rw x)) E fp w fn.ntmps [] nx' T' M' a' w' →
          LeavesInM (fence none) 0 P fn a'.tmps (fun e w' => ∃ u E' fp', e = .returned u ∧ Sat E' w' (C.res x (C.val x)) u ∧ EntsSat E' w' fp' (C.out x (C.val x)) ∧ Adv E fp w E' fp' w' ∧ ∀ id, id < 1000 → E'.slot id = E.slot id) a'.defers .returning w' := by
        intro nx' T' M' a' w0 hk hh
        obtain ⟨E1, fp1, hs0, hnx, hfrom0, hheld⟩ := hh
        obtain ⟨ds, hds, hnd, hmk⟩ := hheld.marks
        rw [hds]
        refine takes_marks ds w0 hnd (fun b hb => (hmk b hb).2.1) (fun w' h1 h2 h3 h4 h5 => ?_)
        have hne : ∀ b, own fp1 b → b ∉ ds := fun b hb hm => (hmk b hm).2.2.1 hb
        have hIs : Stays E1 w0 w' := fun b hb _ => h5 b (fun hm => hb.elim (hmk b hm).2.2.2.1 (hmk b hm).2.2.2.2)
        have hs : StSat E1 w' fp1 a' fn.ntmps T' M' := ⟨hs0.sz, fun t => (hs0.tm t).mono (.refl E1) hIs, ⟨fun id => (hs0.en.sat id).mono (.refl E1) hIs (by omega) (fun b hb => h5 b (hne b ⟨id, hb⟩)),
          fun id b hb => by rw [h4]; exact hs0.en.lt id b hb, hs0.en.I, hs0.en.B, hs0.en.apart, fun b hb => by rw [h4]; exact hs0.en.Ilt b hb, hs0.en.nil, hs0.en.glob hIs (fun _ h => h)⟩⟩
        have hfrom : From (rgOf (C.rw x)) E fp w E1 fp1 w' := ⟨⟨h1.trans hfrom0.keep.os, h2.trans hfrom0.keep.tape, h3.trans hfrom0.keep.output, by have := hfrom0.keep.size; omega,
          fun b hb hn => (h5 b (fun hm => by have := (hmk b hm).1; omega)).trans (hfrom0.keep.same b hb hn)⟩, hfrom0.I, hfrom0.Inew, hfrom0.B, hfrom0.onew, hfrom0.slot⟩
        obtain ⟨s, hk, hrun⟩ := endV_ok (nt := fn.ntmps) hk
        obtain ⟨v, hv1, hv2⟩ := hrun E1 fp1 a' w' hs
        refine ⟨v, hv1, v, ?_⟩
        unfold postB at hk
        obtain ⟨m1, bs1, fs1, q1, hk, g1, d1⟩ := (mat_good M' 200).1 _ _ _ _ _ _ _ hk
        obtain ⟨m, bs, fs, q, us, hk, g2, ht, hsem⟩ := matE_good _ hk
        cases bs with
        | cons _ _ => exact hk.elim
        | nil =>
          simp only at hk
          split at hk
          · exact hk.elim
          · rename_i hchk
            simp only [Bool.or_eq_false_iff, Bool.not_eq_false'] at hchk
            obtain ⟨⟨hfu, hnew⟩, hlt⟩ := hchk
            have hq := conj_all q hk.e
            have hlent : Lent M' E1 w' fp1 [] fs := ⟨hs.en.nil, fun i hi => hs.en.sat i⟩
            have hT := EntsSat.target (M := M') (bs := []) hs.en (fun i hi => hs.en.sat i) ht (fun j e hm i hi he => hsem hq E1 w' fp1 hlent j e hm i hi he) (by rfl) hfu
            have hR := hfrom.rename fs (C.out x (C.val x)) (fun j i hj => g2.m j i (g1.m j i hj))
            have hS := d1.grow g2 hq E1 w' fp1 hlent _ hv2
            -- the names of the entry stand as they stood
            let E2 : Env := { slot := fun id => if id < 1000 then E.slot id else (envF E1 fp1 m [] fs).slot id, I := (envF E1 fp1 m [] fs).I, B := E.B }
            have hslot : ∀ id, id < 1000 → ∀ s, (envF E1 fp1 m [] fs).slot id = some s → E.slot id = some s := fun id hid s hs => by
              cases hm : mlook m id with
              | none => simp only [envF, nilB_lt (show id < 1984 by omega), hm] at hs; cases hs
              | some i =>
                obtain ⟨k, hk⟩ := newOk_spec m hnew id i hm hid
                rw [← (hR.slot id k hk).2.2]; exact hs
            have hle : (envF E1 fp1 m [] fs).le E2 := by
              refine ⟨fun id s hs => ?_, fun b hb => hb, fun b hb => (hR.B b).1 hb⟩
              by_cases hid : id < 1000
              · simp only [E2, if_pos hid]; exact hslot id hid s hs
              · simp only [E2, if_neg hid]; exact hs
            have hst0 : Stays (envF E1 fp1 m [] fs) w' w' := fun _ _ _ => rfl
            refine ⟨E2, fpF fp1 m (C.out x (C.val x)), rfl, hS.mono hle hst0, ⟨fun id => (hT.sat id).mono hle hst0 (Nat.le_refl _) (fun _ _ => rfl), hT.lt, hT.I, fun id b hb hB => hT.B id b hb ((hR.B b).2 hB), hT.apart, fun b hb => ?_, hT.nil.mono hle, hT.gl.mono hle.I (fun _ _ => rfl)⟩,
              ⟨hR.keep, ⟨fun id s hs => ?_, hR.I, fun b hb => hb⟩, hR.Inew, fun b hb => hb, hR.onew⟩, fun id hid => by simp only [E2, if_pos hid]⟩
            · rcases hb with hb | hb
              · exact hT.Ilt b (.inl hb)
              · exact hT.Ilt b (.inr ((hR.B b).2 hb))
            · by_cases hid : id < 1000
              · simp only [E2, if_pos hid]; exact hs
              · have hz := (hnames id (by rw [hs]; simp)).resolve_left hid
                simp only [E2, if_neg hid, envF, hz]
                rw [← hents.nil id hz]; exact hs
      refine vc_ok (nt := fn.ntmps) hG hm (bodyC fn) hd [] none (rgOf (C.rw x)) E fp w [] (fun l hl => by cases hl) 0 2000 _ _ _ (bodyPostM (fence none) 0 P fn _) _ w (Nat.le_refl _) h
        ⟨E, fp, hst, fun id hne => by rcases hnames id hne with h | h; omega; exact (nilB_range h).2, From.refl E fp w (fun j i hj => ⟨(hrg j i hj).1, by have := (hrg j i hj).2; omega⟩), (fun _ _ h => by cases h), [], rfl, List.nodup_nil, fun _ h => by cases h⟩ ?_
      intro e nx' T' M' a' w' _ hk hh
      cases e with
      | normal => exact fin _ _ _ _ _ hk hh
      | ret => exact fin _ _ _ _ _ hk hh
      | _ => exact hk.elim
    · exact h.elim
  · exact h.elim

end
end Go.Eng

/-! The engine, part T: the steps of a proof of conditions, each with the proof of its side. -/
set_option linter.unusedVariables false
namespace Go.Eng

/-- A condition that holds. -/
theorem F1 {b : Bool} {A B : Prop} (h : A) (e : b = true := by
    first
      | with_reducible rfl
      | with_reducible assumption
      | with_reducible exact Eq.trans (by assumption) (by assumption)
      | (simp only [decide_eq_true_eq, decide_eq_false_iff_not, beq_iff_eq, bne_iff_ne, beq_eq_false_iff_ne, bne_eq_false_iff_eq, ge_iff_le, gt_iff_lt, Bool.not_eq_true', Bool.not_eq_false', ne_eq, Bool.or_eq_true, Bool.and_eq_true, Option.isNone_none, Option.isNone_some, Bool.true_eq_false, Bool.false_eq_true, not_true, not_false_eq_true] <;> first
          | with_reducible assumption
          | omega
          | with_reducible exact Eq.trans (by assumption) (by assumption)
          | fail)
      | (simp only [lm, Bool.not_true, Bool.not_false, decide_eq_true_eq, beq_iff_eq, bne_iff_ne, ne_eq] <;> omega)
      | fail) : Fork b A B := ⟨fun _ => h, fun h2 => (by rw [e] at h2; cases h2)⟩
/-- A condition that does not. -/
theorem F2 {b : Bool} {A B : Prop} (h : B) (e : b = false := by
    first
      | with_reducible rfl
      | with_reducible assumption
      | with_reducible exact Eq.trans (by assumption) (by assumption)
      | (simp only [decide_eq_true_eq, decide_eq_false_iff_not, beq_iff_eq, bne_iff_ne, beq_eq_false_iff_ne, bne_eq_false_iff_eq, ge_iff_le, gt_iff_lt, Bool.not_eq_true', Bool.not_eq_false', ne_eq, Bool.or_eq_true, Bool.and_eq_true, Option.isNone_none, Option.isNone_some, Bool.true_eq_false, Bool.false_eq_true, not_true, not_false_eq_true] <;> first
          | with_reducible assumption
          | omega
          | with_reducible exact Eq.trans (by assumption) (by assumption)
          | fail)
      | (simp only [lm, Bool.not_true, Bool.not_false, decide_eq_false_iff_not, beq_eq_false_iff_ne] <;> omega)
      | fail) : Fork b A B := ⟨fun h2 => (by rw [e] at h2; cases h2), fun _ => h⟩
/-- A condition either way, in plain words. -/
theorem F3 {b : Bool} {A B p q : Prop} (hp : p → A) (hq : q → B) (e : (b = true) = p := by first | (simp only [decide_eq_true_eq, beq_iff_eq, bne_iff_ne, ge_iff_le, gt_iff_lt, Bool.not_eq_true', ne_eq, Bool.or_eq_true, Bool.and_eq_true]; first | done | exact rfl) | exact rfl)
    (e' : (b = false) = q := by first | (simp only [decide_eq_false_iff_not, beq_eq_false_iff_ne, bne_eq_false_iff_eq, ge_iff_le, gt_iff_lt, Bool.not_eq_false', ne_eq]; first | done | exact rfl) | exact rfl) : Fork b A B :=
  ⟨fun h => hp (e ▸ h), fun h => hq (e' ▸ h)⟩
theorem F4 {r : Bool → Prop} {A B p q : Prop} (hp : p → A) (hq : q → B) (e : r true = p := by first | (simp only [forall_const, true_implies, Bool.false_eq_true, Bool.true_eq_false, false_implies, List.length_eq_zero_iff]; first | done | exact rfl) | exact rfl)
    (e' : r false = q := by first | (simp only [forall_const, true_implies, Bool.false_eq_true, Bool.true_eq_false, false_implies, List.length_eq_zero_iff]; first | done | exact rfl) | exact rfl) : ForkP r A B :=
  ⟨fun h => hp (e ▸ h), fun h => hq (e' ▸ h)⟩
/-- Any order. -/
theorem R1 {b : Bool} {K : Prop} (h : K) (e : b = true := by kernel_rfl) : Race b K := ⟨e, h⟩
/-- No overflow. -/
theorem A1 {n : Int} {K : Int → Prop} (h : K n) (h0 : -9223372036854775808 ≤ n := by first | omega | ((try dsimp only [List.length_cons, List.length_nil]); omega) | ((try dsimp only) <;> simp only [lm] <;> omega)) (h1 : n ≤ 9223372036854775807 := by first | omega | ((try dsimp only [List.length_cons, List.length_nil]); omega) | ((try dsimp only) <;> simp only [lm] <;> omega)) : Ar .i64 n K := .fit (wrap_i64 h0 h1) h
theorem A2 {n : Int} {K : Int → Prop} (h : K n) (h0 : 0 ≤ n := by first | omega | ((try dsimp only [List.length_cons, List.length_nil]); omega) | ((try dsimp only) <;> simp only [lm] <;> omega)) (h1 : n ≤ 18446744073709551615 := by first | omega | ((try dsimp only [List.length_cons, List.length_nil]); omega) | ((try dsimp only) <;> simp only [lm] <;> omega)) : Ar .u64 n K := .fit (wrap_u64 h0 h1) h
theorem A3 {n : Int} {K : Int → Prop} (h : K n) (h0 : 0 ≤ n := by first | omega | ((try dsimp only [List.length_cons, List.length_nil]); omega) | ((try dsimp only) <;> simp only [lm] <;> omega)) (h1 : n ≤ 255 := by first | omega | ((try dsimp only [List.length_cons, List.length_nil]); omega) | ((try dsimp only) <;> simp only [lm] <;> omega)) : Ar .u8 n K := .fit (wrap_u8 h0 h1) h
/-- Equations. -/
theorem L1 {q : List Prop} {K : Prop} (h : K) (e : conj q := by
    (simp only [conj]; repeat' apply And.intro) <;> first
      | rfl
      | trivial
      | ((try dsimp only) <;> omega)
      | (simp only [lm]; done)
      | (simp only [lm] <;> omega)
      | (simp only [lm]; refine Bool.eq_iff_iff.2 ?_; simp only [decide_eq_true_eq, Bool.false_eq_true, true_iff, iff_true, false_iff, iff_false, eq_self]; omega)
      | (simp only [*, lm]; done)
      | (((try with_reducible conv => (rhs; whnf)) <;> (try dsimp only)) <;> first
           | omega
           | (refine Bool.eq_iff_iff.2 ?_; simp only [decide_eq_true_eq, Bool.false_eq_true, true_iff, iff_true, false_iff, iff_false, eq_self]; omega)
           | (simp only [decide_eq_true_eq, decide_eq_false_iff_not, beq_iff_eq, bne_iff_ne, beq_eq_false_iff_ne, ge_iff_le, gt_iff_lt, Bool.not_eq_true', Bool.not_eq_false', ne_eq, Bool.or_eq_true, Bool.and_eq_true, Bool.true_eq_false, Bool.false_eq_true, not_true, not_false_eq_true] <;> first
               | with_reducible assumption
               | omega)
           | (simp only [*, if_true, if_false, Bool.false_eq_true]; done)
           | fail)
      | fail) : AskL q K := ⟨e, h⟩
/-- A side condition. -/
theorem K1 {p K : Prop} (h : K) (e : p := by
    (((try with_reducible conv => whnf) <;> (try dsimp only [List.length_cons, List.length_nil])) <;> first
      | omega
      | trivial
      | (simp only [lm] <;> omega)
      | fail)) : Ask p K := ⟨e, h⟩
/-- What a call hands back. -/
theorem Y2 {α β : Type} {v : α × β} {p K : α × β → Prop} (h : ∀ y, y.1 = v.1 → y.2 = v.2 → p y → K y) : All' (fun y => y = v ∧ p y) K := ⟨fun y hy => h y (by rw [hy.1]) (by rw [hy.1]) hy.2⟩
theorem Y1 {α : Type} {v : α} {p K : α → Prop} (h : ∀ y, y = v → p y → K y) : All' (fun y => y = v ∧ p y) K := ⟨fun y hy => h y hy.1 hy.2⟩
theorem Q1 {α : Type} {a b : α} {K : Prop} (h : K) (e : a = b := by with_reducible rfl) : Eqn a b K := ⟨e, h⟩
/-- All steps, to the end. -/
theorem G1 {p : Prop} (h : p := by
    ((repeat' ((conv => whnf) <;> first | exact True.intro | (guard_target =~ Fork _ _ _; first | refine F1 ?_ | refine F2 ?_ | refine F3 (fun h => ?_) fun h => ?_) | (guard_target =~ Ar _ _ _; first | refine A1 ?_ | refine A2 ?_ | refine A3 ?_) | (guard_target =~ AskL _ _; first | refine L1 ?_) | (guard_target =~ Go.Eng.Ask _ _; first | refine K1 ?_) | (guard_target =~ All' _ _; first | (refine Y2 fun y he he' hy => ?_; (try dsimp only at he he' hy)) | (refine Y1 fun y he hy => ?_; (try with_reducible conv at he => (rhs; whnf)); (try dsimp only at he hy)) | (refine All'.mk ?_; intro y hy)) | refine F4 (fun h => ?_) fun h => ?_ | refine R1 ?_ | refine Q1 ?_ | fail)); done)) : p := h

end Go.Eng

/-! What all texts of this seat use. -/
set_option linter.unusedVariables false
set_option linter.unusedSimpArgs false
namespace Go.Proofs.YtghejeecanohoaaDoor
open Go.Eng

theorem mo : Tryd.prog.follows .mixedOrders = true := by kernel_rfl

/-! ### Strings as lists of numbers -/
theorem str_cat (a b : List Int) : strOfNums a ++ strOfNums b = strOfNums (a ++ b) := by
  apply ByteArray.ext
  simp [strOfNums, ByteArray.data_append]
theorem str_size (a : List Int) : (strOfNums a).size = a.length := strOfNums_size a
theorem str_bytesL (s : ByteArray) : strOfNums (bytesL s) = s := by
  apply ByteArray.ext
  apply Array.toList_inj.1
  rw [strOfNums_data]
  unfold bytesL
  rw [List.map_map]
  have : ((fun n : Int => UInt8.ofNat n.toNat) ∘ fun b : UInt8 => ((b.toNat : Nat) : Int)) = id := by
    funext b; simp
  rw [this, List.map_id]
theorem bytesL_length (s : ByteArray) : (bytesL s).length = s.size := by
  show (s.data.toList.map _).length = s.data.size
  simp

theorem wrap_u8_mod (n : Int) : IntKind.u8.wrap n = n % 256 := by
  simp only [IntKind.wrap, IntKind.bits, IntKind.signed, Bool.false_and, Bool.false_eq_true, if_false]
  rfl
theorem wrap_u64_mod (n : Int) : IntKind.u64.wrap n = n % 18446744073709551616 := by
  simp only [IntKind.wrap, IntKind.bits, IntKind.signed, Bool.false_and, Bool.false_eq_true, if_false]
  rfl

/-- The digits of a number to the base 256, the greatest ahead. -/
def beL (u : Nat) : List Int := if h : u = 0 then [] else beL (u / 256) ++ [((u % 256 : Nat) : Int)]
termination_by u
decreasing_by omega
theorem beL_zero : beL 0 = [] := by rw [beL]; simp
theorem beL_pos {u : Nat} (h : 0 < u) : beL u = beL (u / 256) ++ [((u % 256 : Nat) : Int)] := by
  rw [beL, dif_neg (by omega)]
theorem beL_len_pos {u : Nat} (h : 0 < u) : (beL u).length = (beL (u / 256)).length + 1 := by rw [beL_pos h]; simp
theorem beL_lt : ∀ (n u : Nat), u < 256 ^ n → (beL u).length ≤ n
  | 0, u, h => by have : u = 0 := by omega
                  subst this; rw [beL_zero]; exact Nat.le_refl 0
  | n + 1, u, h => by
    rcases Nat.eq_zero_or_pos u with rfl | hp
    · rw [beL_zero]; exact Nat.zero_le _
    · rw [beL_len_pos hp]
      have := beL_lt n (u / 256) (by rw [Nat.pow_succ] at h; omega)
      omega
/-- What is left when r digits are struck off. -/
theorem beL_shift : ∀ (r u : Nat), r ≤ (beL u).length → (beL (u / 256 ^ r)).length = (beL u).length - r
  | 0, u, _ => by simp
  | r + 1, u, h => by
    rcases Nat.eq_zero_or_pos u with rfl | hp
    · rw [beL_zero] at h; simp at h
    · have e := beL_len_pos hp
      have := beL_shift r (u / 256) (by omega)
      rw [Nat.div_div_eq_div_mul, Nat.mul_comm, ← Nat.pow_succ] at this
      rw [this]; omega
theorem beL_len_zero {u : Nat} (h : (beL u).length = 0) : u = 0 := by
  rcases Nat.eq_zero_or_pos u with h0 | hp
  · exact h0
  · rw [beL_len_pos hp] at h; omega
theorem beL_step (r u : Nat) (h : r < (beL u).length) : beL (u / 256 ^ r) = beL (u / 256 ^ (r + 1)) ++ [((u / 256 ^ r % 256 : Nat) : Int)] := by
  have h1 := beL_shift r u (by omega)
  have hp : 0 < u / 256 ^ r := by
    rcases Nat.eq_zero_or_pos (u / 256 ^ r) with h0 | hp
    · rw [h0, beL_zero] at h1; simp at h1; omega
    · exact hp
  rw [beL_pos hp, Nat.div_div_eq_div_mul, ← Nat.pow_succ]
theorem beL_all (u : Nat) : u / 256 ^ (beL u).length = 0 := beL_len_zero (by rw [beL_shift _ u (Nat.le_refl _)]; omega)

/-- A number's bytes. -/
def numL (u : Nat) : List Int := if u ≤ 247 then [(u : Int)] else ((247 + (beL u).length : Nat) : Int) :: beL u
theorem numL_small {u : Nat} (h : u ≤ 247) : numL u = [(u : Int)] := if_pos h
theorem numL_great {u : Nat} (h : ¬ u ≤ 247) : numL u = ((247 + (beL u).length : Nat) : Int) :: beL u := if_neg h
theorem numL_le {u : Nat} (h : u < 18446744073709551616) : (numL u).length ≤ 9 := by
  unfold numL
  split
  · simp
  · have := beL_lt 8 u (by omega)
    simp; omega
end Go.Proofs.YtghejeecanohoaaDoor

/-! Events: kinds and their words; which events are the same; the reference's. -/
set_option linter.unusedVariables false
set_option linter.unusedSimpArgs false
set_option maxRecDepth 100000
set_option maxHeartbeats 4000000
namespace Go.Proofs.YtghejeecanohoaaDoor
open Go.Eng

abbrev evT : Ty := .pair (.int .i64) (.pair (.int .i64) (.pair (.int .i64) (.pair (.int .i64) (.pair .str (.pair (.sl (.int .u8)) (.int .u8))))))
abbrev Ev := Int × Int × Int × Int × ByteArray × List Int × Int
abbrev evS (b : Bool) (e : Ev) : List SV := [.v (.int .i64 e.1), .v (.int .i64 e.2.1), .v (.int .i64 e.2.2.1), .v (.int .i64 e.2.2.2.1), .v (.string e.2.2.2.2.1), .ro b (.int .u8) e.2.2.2.2.2.1, .v (.int .u8 e.2.2.2.2.2.2)]

theorem kinds (k : Int) : k = 0 ∨ k = 1 ∨ k = 2 ∨ k = 3 ∨ k = 4 ∨ k = 5 ∨ k = 6 ∨ k = 7 ∨ k = 8 ∨ k = 9 ∨ k = 10 ∨ (k < 0 ∨ 10 < k) := by omega

/-- A kind's name, and its words. -/
def nameF (k : Int) : ByteArray × List Int :=
  if k = 0 then (⟨#[112, 117, 116]⟩, [0, 3, 4, 2]) else
  if k = 1 then (⟨#[100, 101, 108, 101, 116, 101]⟩, [0, 3, 2]) else
  if k = 2 then (⟨#[103, 101, 116]⟩, [0, 3]) else
  if k = 3 then (⟨#[115, 121, 110, 99]⟩, [0, 1]) else
  if k = 4 then (⟨#[110, 101, 120, 116]⟩, [0]) else
  if k = 5 then (⟨#[100, 101, 108, 105, 118, 101, 114]⟩, [2]) else
  if k = 6 then (⟨#[108, 111, 115, 101]⟩, [2]) else
  if k = 7 then (⟨#[100, 111, 117, 98, 108, 101]⟩, [2]) else
  if k = 8 then (⟨#[116, 117, 114, 110]⟩, [2, 1, 5]) else
  if k = 9 then (⟨#[116, 105, 99, 107]⟩, [2]) else
  if k = 10 then (⟨#[99, 114, 97, 115, 104]⟩, [0]) else (⟨#[]⟩, [])
theorem nameF_none {k : Int} (h : k < 0 ∨ 10 < k) : nameF k = (⟨#[]⟩, []) := by
  unfold nameF
  rw [if_neg (by omega), if_neg (by omega), if_neg (by omega), if_neg (by omega), if_neg (by omega), if_neg (by omega), if_neg (by omega), if_neg (by omega), if_neg (by omega), if_neg (by omega), if_neg (by omega)]

/-- The reference's letter of a word. -/
def letF (w : Int) : UInt8 := if w = 0 then 97 else if w = 1 then 98 else if w = 2 then 110 else if w = 3 then 107 else if w = 4 then 118 else 120
def formF (ws : List Int) : ByteArray := ⟨(ws.map letF).toArray⟩

@[reducible] def nameC : Ctr := {
  X := Int
  Y := Unit
  args := fun k => [.v (.int .i64 k)]
  rw := fun _ => []
  side := fun _ => True
  val := fun _ => ()
  ens := fun _ _ => True
  res := fun k _ => .tuple [.v (.string (nameF k).1), .ro false (.int .i64) (nameF k).2]
  out := fun _ _ => [] }
theorem name_ok : nameC.ok Tryd.prog 26 := by
  refine ok_of_vc (An := fun _ => anOf []) (known_nil _) mo Tryd.func26 (by kernel_rfl) (by kernel_rfl) (fun _ _ => trivial) (fun (k : Int) hs => ?_)
  rcases kinds k with rfl | rfl | rfl | rfl | rfl | rfl | rfl | rfl | rfl | rfl | rfl | hk
  case inr.inr.inr.inr.inr.inr.inr.inr.inr.inr.inr =>
    have e := nameF_none hk
    exact G1
  all_goals
    ((repeat' ((conv => whnf) <;> first | exact True.intro | (guard_target =~ Fork _ _ _; first | refine F1 ?_ | refine F2 ?_ | refine F3 (fun h => ?_) fun h => ?_) | (guard_target =~ Ar _ _ _; first | refine A1 ?_ | refine A2 ?_ | refine A3 ?_) | (guard_target =~ AskL _ _; first | refine L1 ?_) | (guard_target =~ Go.Eng.Ask _ _; first | refine K1 ?_) | (guard_target =~ All' _ _; first | (refine Y2 fun y he he' hy => ?_; (try dsimp only at he he' hy)) | (refine Y1 fun y he hy => ?_; (try with_reducible conv at he => (rhs; whnf)); (try dsimp only at he hy)) | (refine All'.mk ?_; intro y hy)) | refine F4 (fun h => ?_) fun h => ?_ | refine R1 ?_ | refine Q1 ?_ | fail)); all_goals (conv => whnf))
@[reducible] def formC : Ctr := {
  X := Int
  Y := Unit
  args := fun k => [.v (.int .i64 k)]
  rw := fun _ => []
  side := fun _ => True
  val := fun _ => ()
  ens := fun _ _ => True
  res := fun k _ => .tuple [.v (.string (nameF k).1), .v (.string (formF (nameF k).2))]
  out := fun _ _ => [] }
theorem form_ok : formC.ok Tryd.prog 20 := by
  refine ok_of_vc (An := fun _ => anOf []) (known_nil _) mo Tryd.func20 (by kernel_rfl) (by kernel_rfl) (fun _ _ => trivial) (fun (k : Int) hs => ?_)
  rcases kinds k with rfl | rfl | rfl | rfl | rfl | rfl | rfl | rfl | rfl | rfl | rfl | hk
  case inr.inr.inr.inr.inr.inr.inr.inr.inr.inr.inr =>
    have e := nameF_none hk
    ((repeat' ((conv => whnf) <;> first | exact True.intro | (guard_target =~ Fork _ _ _; first | refine F1 ?_ | refine F2 ?_ | refine F3 (fun h => ?_) fun h => ?_) | (guard_target =~ Ar _ _ _; first | refine A1 ?_ | refine A2 ?_ | refine A3 ?_) | (guard_target =~ Go.Eng.Ask _ _; first | refine K1 ?_) | (guard_target =~ All' _ _; first | (refine Y2 fun y he he' hy => ?_; (try dsimp only at he he' hy)) | (refine Y1 fun y he hy => ?_; (try with_reducible conv at he => (rhs; whnf)); (try dsimp only at he hy)) | (refine All'.mk ?_; intro y hy)) | refine F4 (fun h => ?_) fun h => ?_ | refine R1 ?_ | refine Q1 ?_ | fail)); all_goals (conv => whnf))
    refine AskL.mk ?_ trivial
    (simp only [conj, e]; repeat' apply And.intro) <;> first | trivial | rfl
  all_goals
    ((repeat' ((conv => whnf) <;> first | exact True.intro | (guard_target =~ Fork _ _ _; first | refine F1 ?_ | refine F2 ?_ | refine F3 (fun h => ?_) fun h => ?_) | (guard_target =~ Ar _ _ _; first | refine A1 ?_ | refine A2 ?_ | refine A3 ?_) | (guard_target =~ Go.Eng.Ask _ _; first | refine K1 ?_) | (guard_target =~ All' _ _; first | (refine Y2 fun y he he' hy => ?_; (try dsimp only at he he' hy)) | (refine Y1 fun y he hy => ?_; (try with_reducible conv at he => (rhs; whnf)); (try dsimp only at he hy)) | (refine All'.mk ?_; intro y hy)) | refine F4 (fun h => ?_) fun h => ?_ | refine R1 ?_ | refine Q1 ?_ | fail)); all_goals (conv => whnf))
    refine AskL.mk ?_ trivial
    (dsimp only [conj]; repeat' apply And.intro) <;> first | trivial | rfl

theorem str_eq {a b : ByteArray} : a.toList = b.toList ↔ a = b := by
  simp only [ByteArray.toList_eq]
  exact ⟨fun h => ByteArray.ext (Array.toList_inj.1 h), fun h => by rw [h]⟩
theorem str_beq (a b : ByteArray) : (a.toList == b.toList) = decide (a = b) := by
  rw [Bool.eq_iff_iff]; simp [str_eq]

structure HasX where
  s : ByteArray
  c : ByteArray
def hasB (s c : ByteArray) : Bool := (List.range s.size).any fun i => decide (s.extract i (i + 1) = c)
@[reducible] def hasC : Ctr := {
  X := HasX
  Y := Unit
  args := fun x => [.v (.string x.s), .v (.string x.c)]
  rw := fun _ => []
  side := fun x => x.s.size ≤ 1000 ∧ ∀ i, i < x.s.size → byteAt x.s i < 128
  val := fun _ => ()
  ens := fun _ _ => True
  res := fun x _ => .v (.bool (hasB x.s x.c))
  out := fun _ _ => [] }
@[reducible] def hasL (x : HasX) : LA := {
  X := Nat
  pre := fun i => i ≤ x.s.size ∧ ∀ j, j < i → x.s.extract j (j + 1) ≠ x.c
  mu := fun i => x.s.size - i
  T := fun i => [(0, .v (.string x.s)), (1, .v (.string x.c)), (7, .ptr 2 0)]
  M := fun i => [(2, .siter x.s i)] }
theorem has_ok : hasC.ok Tryd.prog 21 := by
  refine ok_of_vc (An := fun (x : HasX) => anOf [(0, .loop (hasL x))]) (known_nil _) mo Tryd.func21 (by kernel_rfl) (by kernel_rfl) (fun _ _ => trivial) (fun x hs => ?_)
  obtain ⟨s, c⟩ := x
  obtain ⟨hs1, hs2⟩ := hs
  dsimp only at hs1 hs2
  ((repeat' ((conv => whnf) <;> first | exact True.intro | (guard_target =~ Fork _ _ _; first | refine F1 ?_ | refine F2 ?_ | refine F3 (fun h => ?_) fun h => ?_) | (guard_target =~ Ar _ _ _; first | refine A1 ?_ | refine A2 ?_ | refine A3 ?_) | (guard_target =~ AskL _ _; first | refine L1 ?_) | (guard_target =~ Go.Eng.Ask _ _; first | refine K1 ?_) | (guard_target =~ All' _ _; first | (refine Y2 fun y he he' hy => ?_; (try dsimp only at he he' hy)) | (refine Y1 fun y he hy => ?_; (try with_reducible conv at he => (rhs; whnf)); (try dsimp only at he hy)) | (refine All'.mk ?_; intro y hy)) | refine F4 (fun h => ?_) fun h => ?_ | refine R1 ?_ | refine Q1 ?_ | fail)); all_goals (conv => whnf))
  refine Some'.mk (0 : Nat) ?_
  ((repeat' ((conv => whnf) <;> first | exact True.intro | (guard_target =~ Fork _ _ _; first | refine F1 ?_ | refine F2 ?_ | refine F3 (fun h => ?_) fun h => ?_) | (guard_target =~ Ar _ _ _; first | refine A1 ?_ | refine A2 ?_ | refine A3 ?_) | (guard_target =~ AskL _ _; first | refine L1 ?_) | (guard_target =~ Go.Eng.Ask _ _; first | refine K1 ?_) | (guard_target =~ All' _ _; first | (refine Y2 fun y he he' hy => ?_; (try dsimp only at he he' hy)) | (refine Y1 fun y he hy => ?_; (try with_reducible conv at he => (rhs; whnf)); (try dsimp only at he hy)) | (refine All'.mk ?_; intro y hy)) | refine F4 (fun h => ?_) fun h => ?_ | refine R1 ?_ | refine Q1 ?_ | fail)); all_goals (conv => whnf))
  refine Ask.mk ⟨Nat.zero_le _, fun j hj => absurd hj (Nat.not_lt_zero _)⟩ ?_
  ((repeat' ((conv => whnf) <;> first | exact True.intro | (guard_target =~ Fork _ _ _; first | refine F1 ?_ | refine F2 ?_ | refine F3 (fun h => ?_) fun h => ?_) | (guard_target =~ Ar _ _ _; first | refine A1 ?_ | refine A2 ?_ | refine A3 ?_) | (guard_target =~ AskL _ _; first | refine L1 ?_) | (guard_target =~ Go.Eng.Ask _ _; first | refine K1 ?_) | (guard_target =~ All' _ _; first | (refine Y2 fun y he he' hy => ?_; (try dsimp only at he he' hy)) | (refine Y1 fun y he hy => ?_; (try with_reducible conv at he => (rhs; whnf)); (try dsimp only at he hy)) | (refine All'.mk ?_; intro y hy)) | refine F4 (fun h => ?_) fun h => ?_ | refine R1 ?_ | refine Q1 ?_ | fail)); all_goals (conv => whnf))
  refine AllI.mk ?_
  rintro (i : Nat) ⟨h1, h2⟩
  dsimp only at h1 h2
  ((repeat' ((conv => whnf) <;> first | exact True.intro | (guard_target =~ Fork _ _ _; first | refine F1 ?_ | refine F2 ?_ | refine F3 (fun h => ?_) fun h => ?_) | (guard_target =~ Ar _ _ _; first | refine A1 ?_ | refine A2 ?_ | refine A3 ?_) | (guard_target =~ AskL _ _; first | refine L1 ?_) | (guard_target =~ Go.Eng.Ask _ _; first | refine K1 ?_) | (guard_target =~ All' _ _; first | (refine Y2 fun y he he' hy => ?_; (try dsimp only at he he' hy)) | (refine Y1 fun y he hy => ?_; (try with_reducible conv at he => (rhs; whnf)); (try dsimp only at he hy)) | (refine All'.mk ?_; intro y hy)) | refine F4 (fun h => ?_) fun h => ?_ | refine R1 ?_ | refine Q1 ?_ | fail)); all_goals (conv => whnf))
  · refine Ask.mk (hs2 i h) ?_
    ((repeat' ((conv => whnf) <;> first | exact True.intro | (guard_target =~ Fork _ _ _; first | refine F1 ?_ | refine F2 ?_ | refine F3 (fun h => ?_) fun h => ?_) | (guard_target =~ Ar _ _ _; first | refine A1 ?_ | refine A2 ?_ | refine A3 ?_) | (guard_target =~ AskL _ _; first | refine L1 ?_) | (guard_target =~ Go.Eng.Ask _ _; first | refine K1 ?_) | (guard_target =~ All' _ _; first | (refine Y2 fun y he he' hy => ?_; (try dsimp only at he he' hy)) | (refine Y1 fun y he hy => ?_; (try with_reducible conv at he => (rhs; whnf)); (try dsimp only at he hy)) | (refine All'.mk ?_; intro y hy)) | refine F4 (fun h => ?_) fun h => ?_ | refine R1 ?_ | refine Q1 ?_ | fail)); all_goals (conv => whnf))
    · refine AskL.mk ?_ trivial
      simp only [conj]
      exact (List.any_eq_true.2 ⟨i, List.mem_range.2 (by assumption), decide_eq_true (str_eq.1 h)⟩).symm
    · refine Some'.mk (i + 1) ?_
      ((repeat' ((conv => whnf) <;> first | exact True.intro | (guard_target =~ Fork _ _ _; first | refine F1 ?_ | refine F2 ?_ | refine F3 (fun h => ?_) fun h => ?_) | (guard_target =~ Ar _ _ _; first | refine A1 ?_ | refine A2 ?_ | refine A3 ?_) | (guard_target =~ AskL _ _; first | refine L1 ?_) | (guard_target =~ Go.Eng.Ask _ _; first | refine K1 ?_) | (guard_target =~ All' _ _; first | (refine Y2 fun y he he' hy => ?_; (try dsimp only at he he' hy)) | (refine Y1 fun y he hy => ?_; (try with_reducible conv at he => (rhs; whnf)); (try dsimp only at he hy)) | (refine All'.mk ?_; intro y hy)) | refine F4 (fun h => ?_) fun h => ?_ | refine R1 ?_ | refine Q1 ?_ | fail)); all_goals (conv => whnf))
      refine Ask.mk ⟨by assumption, fun j hj => ?_⟩ ?_
      · rcases Nat.lt_or_ge j i with hji | hji
        · exact h2 j hji
        · obtain rfl : j = i := by omega
          exact fun e => h (str_eq.2 e)
      exact G1
  · refine AskL.mk ?_ trivial
    simp only [conj]
    refine (List.any_eq_false.2 fun j hj => ?_).symm
    have := List.mem_range.1 hj
    simpa using h2 j (by omega)
end Go.Proofs.YtghejeecanohoaaDoor

/-! DERIVED: THE SHELF's CONTRACTS AT THIS DUMP, IN PLAIN WORDS (tools/lay-plain.mjs out of 'TrydShelf.lean', which tools/lay-shelf.mjs wrote): THE SAME DECLARATIONS UNDER THE SAME NAMES: 'import', 'namespace', 'open', 'def', 'theorem' AND NOTHING ELSE: no command of the shelf's: FOR A HAND-IN. Each laying: the table of numbers ('.._ren') and one theorem, a field a fact of the dump's own or the kernel's comparison; each contract: ONE APPLICATION. -/
namespace Go.Proofs
open Go.Shelf
def Tryd.lays137_ren : Go.Shelf.Ren := ⟨fun | 137 => 46 | 217 => 60 | 266 => 71 | n => n, fun | 9 => 9 | 5 => 5 | 3 => 3 | n => n, fun | n => n⟩
theorem Tryd.lays137 : Go.Proofs.Lays.n137 Tryd.prog Tryd.lays137_ren := {
  mixed := by kernel_rfl
  f137 := Tryd.func46.trans (congrArg some (by kernel_rfl))
  f217 := Tryd.func60.trans (congrArg some (by kernel_rfl))
  f266 := Tryd.func71.trans (congrArg some (by kernel_rfl))
  t3 := Tryd.underlying3
  a3 := Tryd.isAgg3
  z3 := Tryd.sizeOf3
  v3 := Tryd.zeroValue3
  t5 := Tryd.underlying5
  a5 := Tryd.isAgg5
  z5 := Tryd.sizeOf5
  v5 := Tryd.zeroValue5
  t9 := Tryd.underlying9
  a9 := Tryd.isAgg9
  z9 := Tryd.sizeOf9
  v9 := Tryd.zeroValue9 }
open Go.RowKit in
theorem Tryd.strings_IndexByte (s : ByteArray) (c : Int) (w : World) :
    Calls Tryd.prog 46 #[.string s, .int .u8 c] w fun e w' => e = .returned (.int .i64 (Lib.indexByte s.data.toList c.toNat.toUInt8)) ∧ w' = w := Any.strings_IndexByte Tryd.lays137 s c w
def Tryd.laysM171_ren : Go.Shelf.Ren := ⟨fun | 171 => 34 | 243 => 47 | 246 => 61 | 283 => 72 | 284 => 73 | 285 => 74 | 286 => 75 | 129 => 84 | 317 => 83 | 318 => 85 | 319 => 86 | 320 => 87 | 337 => 89 | 338 => 90 | n => n, fun | 3 => 3 | 9 => 9 | 2 => 2 | 4 => 4 | 171 => 103 | 0 => 0 | 53 => 97 | 37 => 22 | 5 => 5 | 173 => 106 | 212 => 114 | 51 => 115 | 20 => 20 | 213 => 116 | 46 => 78 | 232 => 126 | 233 => 127 | n => n, fun | 17 => 3 | 18 => 6 | 19 => 7 | n => n⟩
theorem Tryd.laysM171 : Go.Proofs.LaysM.n171 Tryd.prog Tryd.laysM171_ren := {
  mixed := by kernel_rfl
  f129 := Tryd.func84.trans (congrArg some (by kernel_rfl))
  f171 := Tryd.func34.trans (congrArg some (by kernel_rfl))
  f243 := Tryd.func47.trans (congrArg some (by kernel_rfl))
  f246 := Tryd.func61.trans (congrArg some (by kernel_rfl))
  f283 := Tryd.func72.trans (congrArg some (by kernel_rfl))
  f284 := Tryd.func73.trans (congrArg some (by kernel_rfl))
  f285 := Tryd.func74.trans (congrArg some (by kernel_rfl))
  f286 := Tryd.func75.trans (congrArg some (by kernel_rfl))
  f317 := Tryd.func83.trans (congrArg some (by kernel_rfl))
  f318 := Tryd.func85.trans (congrArg some (by kernel_rfl))
  f319 := Tryd.func86.trans (congrArg some (by kernel_rfl))
  f320 := Tryd.func87.trans (congrArg some (by kernel_rfl))
  f337 := Tryd.func89.trans (congrArg some (by kernel_rfl))
  f338 := Tryd.func90.trans (congrArg some (by kernel_rfl))
  t0 := Tryd.underlying0
  a0 := Tryd.isAgg0
  z0 := Tryd.sizeOf0
  v0 := Tryd.zeroValue0
  t2 := Tryd.underlying2
  a2 := Tryd.isAgg2
  z2 := Tryd.sizeOf2
  v2 := Tryd.zeroValue2
  t3 := Tryd.underlying3
  a3 := Tryd.isAgg3
  z3 := Tryd.sizeOf3
  v3 := Tryd.zeroValue3
  t4 := Tryd.underlying4
  a4 := Tryd.isAgg4
  z4 := Tryd.sizeOf4
  v4 := Tryd.zeroValue4
  t5 := Tryd.underlying5
  a5 := Tryd.isAgg5
  z5 := Tryd.sizeOf5
  v5 := Tryd.zeroValue5
  t9 := Tryd.underlying9
  a9 := Tryd.isAgg9
  z9 := Tryd.sizeOf9
  v9 := Tryd.zeroValue9
  t20 := Tryd.underlying20
  a20 := Tryd.isAgg20
  z20 := Tryd.sizeOf20
  v20 := Tryd.zeroValue20
  t37 := Tryd.underlying22
  a37 := Tryd.isAgg22
  z37 := Tryd.sizeOf22
  v37 := Tryd.zeroValue22
  t46 := Tryd.underlying78
  a46 := Tryd.isAgg78
  z46 := Tryd.sizeOf78
  v46 := Tryd.zeroValue78
  t51 := Tryd.underlying115
  a51 := Tryd.isAgg115
  z51 := Tryd.sizeOf115
  v51 := Tryd.zeroValue115
  t53 := Tryd.underlying97
  a53 := Tryd.isAgg97
  z53 := Tryd.sizeOf97
  v53 := Tryd.zeroValue97
  t171 := Tryd.underlying103
  a171 := Tryd.isAgg103
  z171 := Tryd.sizeOf103
  v171 := Tryd.zeroValue103
  t173 := Tryd.underlying106
  a173 := Tryd.isAgg106
  z173 := Tryd.sizeOf106
  v173 := Tryd.zeroValue106
  t212 := Tryd.underlying114
  a212 := Tryd.isAgg114
  z212 := Tryd.sizeOf114
  v212 := Tryd.zeroValue114
  t213 := Tryd.underlying116
  a213 := Tryd.isAgg116
  z213 := Tryd.sizeOf116
  t232 := Tryd.underlying126
  a232 := Tryd.isAgg126
  z232 := Tryd.sizeOf126
  v232 := Tryd.zeroValue126
  t233 := Tryd.underlying127
  a233 := Tryd.isAgg127
  z233 := Tryd.sizeOf127
  v233 := Tryd.zeroValue127
  g17 := by kernel_rfl
  g18 := by kernel_rfl
  g19 := by kernel_rfl
  i0 := by kernel_rfl
  i2 := by kernel_rfl
  i3 := by kernel_rfl
  i4 := by kernel_rfl
  i5 := by kernel_rfl
  i9 := by kernel_rfl
  i20 := by kernel_rfl
  i37 := by kernel_rfl
  i46 := by kernel_rfl
  i51 := by kernel_rfl
  i53 := by kernel_rfl
  i171 := by kernel_rfl
  i173 := by kernel_rfl
  i212 := by kernel_rfl
  i232 := by kernel_rfl
  i233 := by kernel_rfl
  m17 := by kernel_rfl
  m18 := by kernel_rfl
  m19 := by kernel_rfl }
open Go.RowKit Go.Sort Go.Lib in
theorem Tryd.strconv_Itoa (n : Int) (h0 : -9223372036854775808 ≤ n) (h1 : n ≤ 9223372036854775807) (w : World) (htab : Lib.TabIs Tryd.prog w "internal/strconv.uint64pow10" .u64 Lib.pow10Tab) :
    Calls Tryd.prog 34 #[.int .i64 n] w fun e w' => e = .returned (.string ⟨(Lib.itoa n).toArray⟩) ∧ ∃ k os, w' = grow (w.drewN k) os := Any.strconv_Itoa Tryd.laysM171 n h0 h1 w htab
def Tryd.laysC172_ren : Go.Shelf.Ren := ⟨fun | 172 => 27 | 244 => 44 | 245 => 45 | 247 => 55 | 279 => 56 | 280 => 57 | 281 => 58 | 282 => 59 | 287 => 68 | 316 => 69 | 171 => 34 | 205 => 70 | 321 => 81 | 322 => 82 | 243 => 47 | 246 => 61 | 283 => 72 | 284 => 73 | 285 => 74 | 286 => 75 | 129 => 84 | 317 => 83 | 318 => 85 | 319 => 86 | 320 => 87 | 337 => 89 | 338 => 90 | n => n, fun | 9 => 9 | 3 => 3 | 75 => 54 | 76 => 55 | 4 => 4 | 5 => 5 | 167 => 85 | 37 => 22 | 0 => 0 | 85 => 86 | 2 => 2 | 168 => 88 | 53 => 97 | 175 => 98 | 46 => 78 | 210 => 101 | 127 => 82 | 145 => 112 | 143 => 110 | 21 => 21 | 171 => 103 | 173 => 106 | 212 => 114 | 51 => 115 | 20 => 20 | 213 => 116 | 232 => 126 | 233 => 127 | 80 => 74 | n => n, fun | 15 => 0 | 16 => 1 | 17 => 3 | 18 => 6 | 19 => 7 | n => n⟩
theorem Tryd.laysC172 : Go.Proofs.LaysC.n172 Tryd.prog Tryd.laysC172_ren := {
  mixed := by kernel_rfl
  f129 := Tryd.func84.trans (congrArg some (by kernel_rfl))
  f171 := Tryd.func34.trans (congrArg some (by kernel_rfl))
  f172 := Tryd.func27.trans (congrArg some (by kernel_rfl))
  f205 := Tryd.func70.trans (congrArg some (by kernel_rfl))
  f243 := Tryd.func47.trans (congrArg some (by kernel_rfl))
  f244 := Tryd.func44.trans (congrArg some (by kernel_rfl))
  f245 := Tryd.func45.trans (congrArg some (by kernel_rfl))
  f246 := Tryd.func61.trans (congrArg some (by kernel_rfl))
  f247 := Tryd.func55.trans (congrArg some (by kernel_rfl))
  f279 := Tryd.func56.trans (congrArg some (by kernel_rfl))
  f280 := Tryd.func57.trans (congrArg some (by kernel_rfl))
  f281 := Tryd.func58.trans (congrArg some (by kernel_rfl))
  f282 := Tryd.func59.trans (congrArg some (by kernel_rfl))
  f283 := Tryd.func72.trans (congrArg some (by kernel_rfl))
  f284 := Tryd.func73.trans (congrArg some (by kernel_rfl))
  f285 := Tryd.func74.trans (congrArg some (by kernel_rfl))
  f286 := Tryd.func75.trans (congrArg some (by kernel_rfl))
  f287 := Tryd.func68.trans (congrArg some (by kernel_rfl))
  f316 := Tryd.func69.trans (congrArg some (by kernel_rfl))
  f317 := Tryd.func83.trans (congrArg some (by kernel_rfl))
  f318 := Tryd.func85.trans (congrArg some (by kernel_rfl))
  f319 := Tryd.func86.trans (congrArg some (by kernel_rfl))
  f320 := Tryd.func87.trans (congrArg some (by kernel_rfl))
  f321 := Tryd.func81.trans (congrArg some (by kernel_rfl))
  f322 := Tryd.func82.trans (congrArg some (by kernel_rfl))
  f337 := Tryd.func89.trans (congrArg some (by kernel_rfl))
  f338 := Tryd.func90.trans (congrArg some (by kernel_rfl))
  t0 := Tryd.underlying0
  a0 := Tryd.isAgg0
  z0 := Tryd.sizeOf0
  v0 := Tryd.zeroValue0
  t2 := Tryd.underlying2
  a2 := Tryd.isAgg2
  z2 := Tryd.sizeOf2
  v2 := Tryd.zeroValue2
  t3 := Tryd.underlying3
  a3 := Tryd.isAgg3
  z3 := Tryd.sizeOf3
  v3 := Tryd.zeroValue3
  t4 := Tryd.underlying4
  a4 := Tryd.isAgg4
  z4 := Tryd.sizeOf4
  v4 := Tryd.zeroValue4
  t5 := Tryd.underlying5
  a5 := Tryd.isAgg5
  z5 := Tryd.sizeOf5
  v5 := Tryd.zeroValue5
  t9 := Tryd.underlying9
  a9 := Tryd.isAgg9
  z9 := Tryd.sizeOf9
  v9 := Tryd.zeroValue9
  t20 := Tryd.underlying20
  a20 := Tryd.isAgg20
  z20 := Tryd.sizeOf20
  v20 := Tryd.zeroValue20
  t21 := Tryd.underlying21
  a21 := Tryd.isAgg21
  z21 := Tryd.sizeOf21
  v21 := Tryd.zeroValue21
  t37 := Tryd.underlying22
  a37 := Tryd.isAgg22
  z37 := Tryd.sizeOf22
  v37 := Tryd.zeroValue22
  t46 := Tryd.underlying78
  a46 := Tryd.isAgg78
  z46 := Tryd.sizeOf78
  v46 := Tryd.zeroValue78
  t51 := Tryd.underlying115
  a51 := Tryd.isAgg115
  z51 := Tryd.sizeOf115
  v51 := Tryd.zeroValue115
  t53 := Tryd.underlying97
  a53 := Tryd.isAgg97
  z53 := Tryd.sizeOf97
  v53 := Tryd.zeroValue97
  t75 := Tryd.underlying54
  a75 := Tryd.isAgg54
  z75 := Tryd.sizeOf54
  v75 := Tryd.zeroValue54
  t76 := Tryd.underlying55
  a76 := Tryd.isAgg55
  z76 := Tryd.sizeOf55
  v76 := Tryd.zeroValue55
  t85 := Tryd.underlying86
  a85 := Tryd.isAgg86
  z85 := Tryd.sizeOf86
  v85 := Tryd.zeroValue86
  t127 := Tryd.underlying82
  a127 := Tryd.isAgg82
  z127 := Tryd.sizeOf82
  v127 := Tryd.zeroValue82
  t143 := Tryd.underlying110
  a143 := Tryd.isAgg110
  z143 := Tryd.sizeOf110
  v143 := Tryd.zeroValue110
  t145 := Tryd.underlying112
  a145 := Tryd.isAgg112
  z145 := Tryd.sizeOf112
  v145 := Tryd.zeroValue112
  t167 := Tryd.underlying85
  a167 := Tryd.isAgg85
  z167 := Tryd.sizeOf85
  v167 := Tryd.zeroValue85
  t168 := Tryd.underlying88
  a168 := Tryd.isAgg88
  z168 := Tryd.sizeOf88
  v168 := Tryd.zeroValue88
  t171 := Tryd.underlying103
  a171 := Tryd.isAgg103
  z171 := Tryd.sizeOf103
  v171 := Tryd.zeroValue103
  t173 := Tryd.underlying106
  a173 := Tryd.isAgg106
  z173 := Tryd.sizeOf106
  v173 := Tryd.zeroValue106
  t175 := Tryd.underlying98
  a175 := Tryd.isAgg98
  z175 := Tryd.sizeOf98
  v175 := Tryd.zeroValue98
  t210 := Tryd.underlying101
  a210 := Tryd.isAgg101
  z210 := Tryd.sizeOf101
  v210 := Tryd.zeroValue101
  t212 := Tryd.underlying114
  a212 := Tryd.isAgg114
  z212 := Tryd.sizeOf114
  v212 := Tryd.zeroValue114
  t213 := Tryd.underlying116
  a213 := Tryd.isAgg116
  z213 := Tryd.sizeOf116
  t232 := Tryd.underlying126
  a232 := Tryd.isAgg126
  z232 := Tryd.sizeOf126
  v232 := Tryd.zeroValue126
  t233 := Tryd.underlying127
  a233 := Tryd.isAgg127
  z233 := Tryd.sizeOf127
  v233 := Tryd.zeroValue127
  g15 := by kernel_rfl
  g16 := by kernel_rfl
  g17 := by kernel_rfl
  g18 := by kernel_rfl
  g19 := by kernel_rfl
  t80 := Tryd.underlying74
  a80 := Tryd.isAgg74
  z80 := Tryd.sizeOf74
  v80 := Tryd.zeroValue74
  i0 := by kernel_rfl
  i2 := by kernel_rfl
  i3 := by kernel_rfl
  i4 := by kernel_rfl
  i5 := by kernel_rfl
  i9 := by kernel_rfl
  i20 := by kernel_rfl
  i21 := by kernel_rfl
  i37 := by kernel_rfl
  i46 := by kernel_rfl
  i51 := by kernel_rfl
  i53 := by kernel_rfl
  i75 := by kernel_rfl
  i76 := by kernel_rfl
  i80 := by kernel_rfl
  i85 := by kernel_rfl
  i127 := by kernel_rfl
  i143 := by kernel_rfl
  i145 := by kernel_rfl
  i167 := by kernel_rfl
  i168 := by kernel_rfl
  i171 := by kernel_rfl
  i173 := by kernel_rfl
  i175 := by kernel_rfl
  i210 := by kernel_rfl
  i212 := by kernel_rfl
  i232 := by kernel_rfl
  i233 := by kernel_rfl
  m15 := by kernel_rfl
  m16 := by kernel_rfl
  m17 := by kernel_rfl
  m18 := by kernel_rfl
  m19 := by kernel_rfl
  c0 := by kernel_rfl
  c2 := by kernel_rfl
  c3 := by kernel_rfl
  c4 := by kernel_rfl
  c5 := by kernel_rfl
  c9 := by kernel_rfl
  c20 := by kernel_rfl
  c21 := by kernel_rfl
  c37 := by kernel_rfl
  c46 := by kernel_rfl
  c51 := by kernel_rfl
  c53 := by kernel_rfl
  c75 := by kernel_rfl
  c76 := by kernel_rfl
  c80 := by kernel_rfl
  c85 := by kernel_rfl
  c127 := by kernel_rfl
  c143 := by kernel_rfl
  c145 := by kernel_rfl
  c167 := by kernel_rfl
  c168 := by kernel_rfl
  c171 := by kernel_rfl
  c173 := by kernel_rfl
  c175 := by kernel_rfl
  c210 := by kernel_rfl
  c212 := by kernel_rfl
  c213 := by kernel_rfl
  c232 := by kernel_rfl
  c233 := by kernel_rfl }
open Go.RowKit in
theorem Tryd.strconv_Atoi_ok (s : ByteArray) (hmax : s.size ≤ 9223372036854775806) (v : Int) (h : Lib.atoiAll s.data.toList = .ok v) (w : World) :
    Calls Tryd.prog 27 #[.string s] w fun e w' => e = .returned (.tuple #[.int .i64 v, .nilIface]) ∧ (w' = w ∨ ∃ t, w' = Lib.bytesWorld w 5 t) := Any.strconv_Atoi_ok Tryd.laysC172 s hmax v h w
open Go.RowKit in
theorem Tryd.strconv_Atoi_syntax (s : ByteArray) (hlim : s.size ≤ 281474976710656) (h : Lib.atoiAll s.data.toList = Lib.atoiAll []) (ev : Value) (w : World) (hv : w.cell? ⟨0, 0, none⟩ = some ev) (hev : ev = .nilIface ∨ ∃ te pe, ev = .iface te pe) :
    Calls Tryd.prog 27 #[.string s] w fun e w' => ∃ N, e = .returned (.tuple #[.int .i64 (0), .iface 88 (.pointer (some ⟨N, 0, none⟩))]) ∧ w.heap.size ≤ N ∧ w'.heap[N]? = some (.cells #[.string ⟨#[65, 116, 111, 105]⟩, .string s, ev] 101 (0, 0)) ∧ Below w.heap.size w w' := Any.strconv_Atoi_syntax Tryd.laysC172 s hlim h ev w hv hev
open Go.RowKit in
theorem Tryd.strconv_Atoi_range (s : ByteArray) (hlim : s.size ≤ 281474976710656) (h : Lib.atoiAll s.data.toList = .range) (ev : Value) (w : World) (hv : w.cell? ⟨1, 0, none⟩ = some ev) (hev : ev = .nilIface ∨ ∃ te pe, ev = .iface te pe) :
    Calls Tryd.prog 27 #[.string s] w fun e w' => ∃ N, e = .returned (.tuple #[.int .i64 (Lib.atoiSat s.data.toList), .iface 88 (.pointer (some ⟨N, 0, none⟩))]) ∧ w.heap.size ≤ N ∧ w'.heap[N]? = some (.cells #[.string ⟨#[65, 116, 111, 105]⟩, .string s, ev] 101 (0, 0)) ∧ Below w.heap.size w w' := Any.strconv_Atoi_range Tryd.laysC172 s hlim h ev w hv hev
def Tryd.lays102_ren : Go.Shelf.Ren := ⟨fun | 102 => 49 | 209 => 62 | 207 => 76 | n => n, fun | 9 => 9 | 4 => 4 | 3 => 3 | n => n, fun | n => n⟩
theorem Tryd.lays102 : Go.Proofs.Lays.n102 Tryd.prog Tryd.lays102_ren := {
  mixed := by kernel_rfl
  f102 := Tryd.func49.trans (congrArg some (by kernel_rfl))
  f207 := Tryd.func76.trans (congrArg some (by kernel_rfl))
  f209 := Tryd.func62.trans (congrArg some (by kernel_rfl))
  t3 := Tryd.underlying3
  a3 := Tryd.isAgg3
  z3 := Tryd.sizeOf3
  v3 := Tryd.zeroValue3
  t4 := Tryd.underlying4
  a4 := Tryd.isAgg4
  z4 := Tryd.sizeOf4
  v4 := Tryd.zeroValue4
  t9 := Tryd.underlying9
  a9 := Tryd.isAgg9
  z9 := Tryd.sizeOf9
  v9 := Tryd.zeroValue9 }
open Go.RowKit Go.Lib in
theorem Tryd.strings_TrimSuffix (s p : ByteArray) (w : World) (hs : s.size ≤ 9223372036854775807) :
    Calls Tryd.prog 49 #[.string s, .string p] w fun e w' => e = .returned (.string ⟨(Lib.trimSuffix s.data.toList p.data.toList).toArray⟩) ∧ w' = w := Any.strings_TrimSuffix Tryd.lays102 s p w hs
def Tryd.lays146_ren : Go.Shelf.Ren := ⟨fun | 146 => 25 | 221 => 43 | 268 => 52 | 138 => 53 | 143 => 54 | 195 => 64 | 197 => 65 | 218 => 66 | 219 => 67 | 260 => 77 | 217 => 60 | 225 => 78 | 224 => 79 | 267 => 80 | 266 => 71 | 314 => 88 | n => n, fun | 9 => 9 | 31 => 33 | 3 => 3 | 4 => 4 | 0 => 0 | 105 => 95 | 21 => 21 | 5 => 5 | 46 => 78 | 119 => 119 | 139 => 122 | 138 => 121 | 146 => 123 | 51 => 115 | n => n, fun | 1 => 2 | 3 => 4 | 4 => 5 | n => n⟩
theorem Tryd.lays146 : Go.Proofs.Lays.n146 Tryd.prog Tryd.lays146_ren := {
  mixed := by kernel_rfl
  f138 := Tryd.func53.trans (congrArg some (by kernel_rfl))
  f143 := Tryd.func54.trans (congrArg some (by kernel_rfl))
  f146 := Tryd.func25.trans (congrArg some (by kernel_rfl))
  f195 := Tryd.func64.trans (congrArg some (by kernel_rfl))
  f197 := Tryd.func65.trans (congrArg some (by kernel_rfl))
  f217 := Tryd.func60.trans (congrArg some (by kernel_rfl))
  f218 := Tryd.func66.trans (congrArg some (by kernel_rfl))
  f219 := Tryd.func67.trans (congrArg some (by kernel_rfl))
  f221 := Tryd.func43.trans (congrArg some (by kernel_rfl))
  f224 := Tryd.func79.trans (congrArg some (by kernel_rfl))
  f225 := Tryd.func78.trans (congrArg some (by kernel_rfl))
  f260 := Tryd.func77.trans (congrArg some (by kernel_rfl))
  f266 := Tryd.func71.trans (congrArg some (by kernel_rfl))
  f267 := Tryd.func80.trans (congrArg some (by kernel_rfl))
  f268 := Tryd.func52.trans (congrArg some (by kernel_rfl))
  f314 := Tryd.func88.trans (congrArg some (by kernel_rfl))
  t0 := Tryd.underlying0
  a0 := Tryd.isAgg0
  z0 := Tryd.sizeOf0
  v0 := Tryd.zeroValue0
  t3 := Tryd.underlying3
  a3 := Tryd.isAgg3
  z3 := Tryd.sizeOf3
  v3 := Tryd.zeroValue3
  t4 := Tryd.underlying4
  a4 := Tryd.isAgg4
  z4 := Tryd.sizeOf4
  v4 := Tryd.zeroValue4
  t5 := Tryd.underlying5
  a5 := Tryd.isAgg5
  z5 := Tryd.sizeOf5
  v5 := Tryd.zeroValue5
  t9 := Tryd.underlying9
  a9 := Tryd.isAgg9
  z9 := Tryd.sizeOf9
  v9 := Tryd.zeroValue9
  t21 := Tryd.underlying21
  a21 := Tryd.isAgg21
  z21 := Tryd.sizeOf21
  v21 := Tryd.zeroValue21
  t31 := Tryd.underlying33
  a31 := Tryd.isAgg33
  z31 := Tryd.sizeOf33
  v31 := Tryd.zeroValue33
  t46 := Tryd.underlying78
  a46 := Tryd.isAgg78
  z46 := Tryd.sizeOf78
  v46 := Tryd.zeroValue78
  t51 := Tryd.underlying115
  a51 := Tryd.isAgg115
  z51 := Tryd.sizeOf115
  v51 := Tryd.zeroValue115
  t105 := Tryd.underlying95
  a105 := Tryd.isAgg95
  z105 := Tryd.sizeOf95
  v105 := Tryd.zeroValue95
  t119 := Tryd.underlying119
  a119 := Tryd.isAgg119
  z119 := Tryd.sizeOf119
  t138 := Tryd.underlying121
  a138 := Tryd.isAgg121
  z138 := Tryd.sizeOf121
  v138 := Tryd.zeroValue121
  t139 := Tryd.underlying122
  a139 := Tryd.isAgg122
  z139 := Tryd.sizeOf122
  v139 := Tryd.zeroValue122
  t146 := Tryd.underlying123
  a146 := Tryd.isAgg123
  z146 := Tryd.sizeOf123
  v146 := Tryd.zeroValue123
  g1 := by kernel_rfl
  g3 := by kernel_rfl
  g4 := by kernel_rfl }
open Go.RowKit Go.Lib in
theorem Tryd.strings_Split (s sep : ByteArray) (m : Int) (w : World) (hs : s.size < 4294967281) (hm : w.cell? ⟨2, 0, none⟩ = some (.int .i64 m)) (h1 : 1 ≤ sep.size) :
    Calls Tryd.prog 25 #[.string s, .string sep] w fun e w' =>
      e = .returned (.slice (some ⟨w.heap.size, 0, none⟩) (Lib.countB s sep + 1) (Lib.countB s sep + 1)) ∧ w' = w.alloc (.cells ((Lib.splitB sep 0 (Lib.countB s sep) s).map Value.string).toArray 9) := Any.strings_Split Tryd.lays146 (by kernel_rfl) s sep m w hs hm h1
end Go.Proofs

/-! The engine, part V: contracts out of walks (of the kit's or one's own). -/
set_option linter.unusedVariables false
set_option linter.unusedSimpArgs false
namespace Go.Eng
open Go.RowKit (Below)

/-- The world behind: what lay there lies there. -/
theorem below_grow (w : World) (k : Nat) (os : Array Obj) : Below w.heap.size w (Go.Sort.grow (w.drewN k) os) :=
  ⟨rfl, rfl, rfl, by simp [Go.Sort.grow], fun j hj => by simp only [Go.Sort.grow, World.heap_drewN]; rw [Array.getElem?_append_left hj]⟩

/-- A function that lays nothing for its caller. -/
theorem ok_of_walk {C : Ctr} {P : Program} {f : FuncId} (hrw : ∀ x, C.rw x = []) (hout : ∀ x, C.out x (C.val x) = [])
    (h : ∀ x, C.side x → C.ens x (C.val x) ∧ ∀ (E : Env) (w : World) (vals : Array Value), vals.size = (C.args x).length →
      (∀ (j : Nat) (s : SV), (C.args x)[j]? = some s → Sat E w s (vals.getD j undef)) → GlobOk E w → (∀ b, E.I b ∨ E.B b → b < w.heap.size) →
      Calls P f vals w fun e w' => ∃ v, e = .returned v ∧ Sat E w' (C.res x (C.val x)) v ∧ Below w.heap.size w w') : C.ok P f := by
  intro x hside
  obtain ⟨he, hw⟩ := h x hside
  refine ⟨he, fun E fp vals w hsz hv hents hnames => ?_⟩
  refine callsIn_wide.2 (Calls.mono (hw E w vals hsz hv hents.gl hents.Ilt) ?_)
  rintro e w' ⟨v, rfl, hsat, hb⟩
  have hfp : ∀ id b, ¬ fp id b := fun id b hf => by
    have := hents.sat id
    rw [hrw x] at this
    exact this b hf
  have hst : Stays E w w' := fun b _ hlt => hb.block b hlt
  refine ⟨v, E, fp, rfl, hsat, ?_, ⟨⟨hb.os, ⟨hb.tape⟩, hb.output, hb.size, fun b hlt _ => hb.block b hlt⟩, .refl _, fun b h => .inl h, fun b h => h, fun id b h => .inl ⟨id, h⟩⟩, fun _ _ => rfl⟩
  rw [hout x]
  exact ⟨fun id b hf => hfp id b hf, fun id b hf => (hfp id b hf).elim, fun id b hf => (hfp id b hf).elim, fun id b hf => (hfp id b hf).elim, fun i j b _ hf => (hfp i b hf).elim,
    fun b hI => Nat.lt_of_lt_of_le (hents.Ilt b hI) hb.size, hents.nil, hents.glob hst (fun _ h => h)⟩

/-- What was laid since is only read from now on. -/
def Env.plus (E : Env) (w w' : World) : Env := { E with I := fun b => E.I b ∨ (w.heap.size ≤ b ∧ b < w'.heap.size) }
theorem Env.le_plus (E : Env) (w w' : World) : E.le (E.plus w w') := ⟨fun _ _ h => h, fun _ h => .inl h, fun _ h => h⟩

/-- A function that lays what is only read. -/
theorem ok_of_walk_new {C : Ctr} {P : Program} {f : FuncId} (hrw : ∀ x, C.rw x = []) (hout : ∀ x, C.out x (C.val x) = [])
    (h : ∀ x, C.side x → C.ens x (C.val x) ∧ ∀ (E : Env) (w : World) (vals : Array Value), vals.size = (C.args x).length →
      (∀ (j : Nat) (s : SV), (C.args x)[j]? = some s → Sat E w s (vals.getD j undef)) → GlobOk E w → (∀ b, E.I b ∨ E.B b → b < w.heap.size) →
      Calls P f vals w fun e w' => ∃ v, e = .returned v ∧ Sat (E.plus w w') w' (C.res x (C.val x)) v ∧ Below w.heap.size w w') : C.ok P f := by
  intro x hside
  obtain ⟨he, hw⟩ := h x hside
  refine ⟨he, fun E fp vals w hsz hv hents hnames => ?_⟩
  refine callsIn_wide.2 (Calls.mono (hw E w vals hsz hv hents.gl hents.Ilt) ?_)
  rintro e w' ⟨v, rfl, hsat, hb⟩
  have hfp : ∀ id b, ¬ fp id b := fun id b hf => by
    have := hents.sat id
    rw [hrw x] at this
    exact this b hf
  have hst : Stays E w w' := fun b _ hlt => hb.block b hlt
  refine ⟨v, E.plus w w', fp, rfl, hsat, ?_, ⟨⟨hb.os, ⟨hb.tape⟩, hb.output, hb.size, fun b hlt _ => hb.block b hlt⟩, E.le_plus w w', fun b h => h.imp id (fun h => .inr h.1), fun b h => h, fun id b h => .inl ⟨id, h⟩⟩, fun _ _ => rfl⟩
  rw [hout x]
  refine ⟨fun id b hf => hfp id b hf, fun id b hf => (hfp id b hf).elim, fun id b hf => (hfp id b hf).elim, fun id b hf => (hfp id b hf).elim, fun i j b _ hf => (hfp i b hf).elim,
    fun b hI => ?_, hents.nil, hents.glob hst (fun _ h => .inl h)⟩
  rcases hI with (hI | hI) | hI
  · exact Nat.lt_of_lt_of_le (hents.Ilt b (.inl hI)) hb.size
  · exact hI.2
  · exact Nat.lt_of_lt_of_le (hents.Ilt b (.inr hI)) hb.size

/-- A new list of strings. -/
theorem strs_new {E : Env} {w w' : World} {te : TypeId} {xs : List ByteArray} {fz : Nat × Nat} {c : Nat} (hb : w'.heap[w.heap.size]? = some (.cells (xs.map Value.string).toArray te fz)) (hc : xs.length ≤ c) :
    Sat (E.plus w w') w' (.ro false .str xs) (.slice (some ⟨w.heap.size, 0, none⟩) xs.length c) := by
  have hlt := (Array.getElem?_eq_some_iff.1 hb).1
  refine .ro false .str xs w.heap.size 0 c (fun m => .string (xs.getD m default)) (.inl (.inr ⟨Nat.le_refl _, hlt⟩)) hc (fun m hm => ?_) (fun i x j sv hi hj => ?_)
  · have hm : m < xs.length := by simpa [Ty.size] using hm
    simp [World.cell?, hb, hm]
  · simp only [enc] at hj
    cases j with
    | zero =>
      obtain rfl : SV.v (.string x) = sv := by simpa using hj
      have : (xs.getD (i * 1 + 0) default) = x := by simp [hi]
      show Sat _ _ _ (Value.string (xs.getD (i * 1 + 0) default))
      rw [this]; exact .v _
    | succ j => simp at hj

/-- A variable's cell. -/
theorem glob_cell {E : Env} {w : World} {g : Nat} {p : Array Value → Prop} {v : Value} (h : GlobOk E w) (hm : (g, p) ∈ gtab) (hp : ∀ a, p a → a = #[v]) : w.cell? ⟨g, 0, none⟩ = some v := by
  obtain ⟨_, a, t, fz, h1, h2⟩ := h g p hm
  rw [hp a h2] at h1
  simp [World.cell?, h1]
theorem glob_some {E : Env} {w : World} {g : Nat} {p : Array Value → Prop} (h : GlobOk E w) (hm : (g, p) ∈ gtab) : ∃ a, p a ∧ ∀ v, a = #[v] → w.cell? ⟨g, 0, none⟩ = some v := by
  obtain ⟨_, a, t, fz, h1, h2⟩ := h g p hm
  exact ⟨a, h2, fun v hv => by subst hv; simp [World.cell?, h1]⟩

/-- A function without a body. -/
theorem okV_of_run {C : Ctr} {P : Program} {f : FuncId} (hrw : ∀ x, C.rw x = []) (hout : ∀ x, C.out x (C.val x) = [])
    (h : ∀ x, C.side x → C.ens x (C.val x) ∧ ∀ (E : Env) (w : World) (vals : Array Value), vals.size = (C.args x).length →
      (∀ (j : Nat) (s : SV), (C.args x)[j]? = some s → Sat E w s (vals.getD j undef)) → ∃ v, (callFunc f vals).run P w = .ok (.value v) w ∧ Sat E w (C.res x (C.val x)) v) : C.okV P f := by
  intro x hside
  obtain ⟨he, hw⟩ := h x hside
  refine ⟨he, fun E fp vals w hsz hv hents hnames => ?_⟩
  obtain ⟨v, h1, h2⟩ := hw E w vals hsz hv
  refine ⟨v, h1, v, E, fp, rfl, h2, ?_, .refl _ _ _, fun _ _ => rfl⟩
  rw [hout x]
  rw [hrw x] at hents
  exact hents

/-! ### Arguments -/

theorem sat_v {E : Env} {w : World} {a v : Value} (h : Sat E w (.v a) v) : v = a := by cases h; rfl

theorem vals_nil {vals : Array Value} (h : vals.size = 0) : vals = #[] := by simpa using h
theorem vals_one {vals : Array Value} (h : vals.size = 1) : vals = #[vals.getD 0 undef] := by
  match vals, h with
  | ⟨[a]⟩, _ => rfl
theorem vals_two {vals : Array Value} (h : vals.size = 2) : vals = #[vals.getD 0 undef, vals.getD 1 undef] := by
  match vals, h with
  | ⟨[a, b]⟩, _ => rfl
theorem vals_three {vals : Array Value} (h : vals.size = 3) : vals = #[vals.getD 0 undef, vals.getD 1 undef, vals.getD 2 undef] := by
  match vals, h with
  | ⟨[a, b, c]⟩, _ => rfl

/-- A slice of data: nil, or cells of memory. -/
theorem sat_ro {E : Env} {w : World} {b : Bool} {t : Ty} {xs : List t.den} {v : Value} (h : Sat E w (.ro b t xs) v) :
    (xs = [] ∧ ∃ A c, v = .slice A 0 c) ∨ ∃ k o c, v = .slice (some ⟨k, o, none⟩) xs.length c ∧ E.ok b k ∧ xs.length ≤ c ∧
      ∀ i x j sv, xs[i]? = some x → (enc t x)[j]? = some sv → ∃ u, w.cell? ⟨k, o + (i * t.size + j), none⟩ = some u ∧ Sat E w sv u := by
  cases h with
  | nil _ _ A c => exact .inl ⟨rfl, A, c, rfl⟩
  | ro _ _ _ k o c u hb hle hc hs =>
    refine .inr ⟨k, o, c, rfl, hb, hle, fun i x j sv hi hj => ⟨u (i * t.size + j), hc _ ?_, hs i x j sv hi hj⟩⟩
    have h1 := (List.getElem?_eq_some_iff.1 hi).1
    have h2 := (List.getElem?_eq_some_iff.1 hj).1
    rw [enc_length] at h2
    calc i * t.size + j < i * t.size + t.size := by omega
      _ = (i + 1) * t.size := by rw [Nat.add_mul, Nat.one_mul]
      _ ≤ xs.length * t.size := Nat.mul_le_mul_right _ h1

/-- A list of strings. -/
theorem sat_strs {E : Env} {w : World} {b : Bool} {xs : List ByteArray} {v : Value} (h : Sat E w (.ro b .str xs) v) :
    (xs = [] ∧ ∃ A c, v = .slice A 0 c) ∨ ∃ k o c, v = .slice (some ⟨k, o, none⟩) xs.length c ∧ E.ok b k ∧ xs.length ≤ c ∧
      ∀ (j : Nat) x, xs[j]? = some x → w.cell? ⟨k, o + j, none⟩ = some (.string x) := by
  rcases sat_ro h with h | ⟨k, o, c, h1, h2, h3, h4⟩
  · exact .inl h
  · refine .inr ⟨k, o, c, h1, h2, h3, fun j x hj => ?_⟩
    obtain ⟨u, hu, hs⟩ := h4 j x 0 (.v (.string x)) hj rfl
    rw [sat_v hs] at hu
    simpa [Ty.size] using hu

theorem env_ok_lt {E : Env} {w : World} {b : Bool} {k : Nat} (hI : ∀ b, E.I b ∨ E.B b → b < w.heap.size) (h : E.ok b k) : k < w.heap.size := hI k h.or

/-- The library's tables. -/
theorem glob_tab {E : Env} {w : World} {P : Program} {name : String} {k : IntKind} {zs : List Int} {g : Nat} {p : Array Value → Prop} (h : GlobOk E w) (hg : P.globalNamed name = some g)
    (hm : (g, p) ∈ gtab) (hp : ∀ a, p a → a = (zs.map fun z => Value.int k z).toArray) : Go.Lib.TabIs P w name k zs := by
  obtain ⟨_, a, t, fz, h1, h2⟩ := h g p hm
  unfold Go.Lib.TabIs World.var?
  rw [hg]
  simp only [Option.bind_eq_bind, Option.bind_some, h1, hp a h2]

end Go.Eng

/-! strings.Split, strings.IndexByte, strings.TrimSuffix and strconv.Atoi by contract, out of the kit's. -/
namespace Go.Proofs.YtghejeecanohoaaDoor
open Go.Shelf Go.RowKit Go.Sort Go.Lib Go.Eng
set_option linter.unusedVariables false
set_option linter.unusedSimpArgs false

structure StrX where
  s : ByteArray
  t : ByteArray
def splitS (s sep : ByteArray) : List ByteArray := Lib.splitB sep 0 (Lib.countB s sep) s
@[reducible] def splitC : Ctr := {
  X := StrX
  Y := Unit
  args := fun x => [.v (.string x.s), .v (.string x.t)]
  rw := fun _ => []
  side := fun x => x.s.size < 4294967281 ∧ 1 ≤ x.t.size
  val := fun _ => ()
  ens := fun _ _ => True
  res := fun x _ => .ro false .str (splitS x.s x.t)
  out := fun _ _ => [] }
theorem split_ok : splitC.ok Tryd.prog 25 := by
  refine ok_of_walk_new (fun _ => rfl) (fun _ => rfl) (fun x hs => ⟨trivial, fun E w vals hsz hv hg hI => ?_⟩)
  obtain ⟨s, t⟩ := x
  obtain ⟨h1, h2⟩ := hs
  dsimp only at h1 h2
  rw [vals_two hsz, sat_v (hv 0 _ rfl), sat_v (hv 1 _ rfl)]
  obtain ⟨a, ⟨m, ha⟩, hm⟩ := glob_some (g := 2) hg (List.mem_cons_of_mem _ (List.mem_cons_of_mem _ (List.mem_cons_of_mem _ (List.mem_cons_self ..))))
  refine (Tryd.strings_Split s t m w h1 (hm _ ha) h2).mono ?_
  rintro e w' ⟨rfl, rfl⟩
  have hl : (splitS s t).length = Lib.countB s t + 1 := Lib.splitB_all _ h2 _ _ _ rfl
  refine ⟨_, rfl, ?_, Below.alloc (.refl _ _) (Nat.le_refl _) _⟩
  rw [← hl]
  exact strs_new (te := 9) (fz := (0, 0)) (World.alloc_heap_new w _) (Nat.le_refl _)

structure ByteX where
  s : ByteArray
  c : UInt8
@[reducible] def indexByteC : Ctr := {
  X := ByteX
  Y := Unit
  args := fun x => [.v (.string x.s), .v (.int .u8 (x.c.toNat : Int))]
  rw := fun _ => []
  side := fun _ => True
  val := fun _ => ()
  ens := fun _ _ => True
  res := fun x _ => .v (.int .i64 (Lib.indexByte x.s.data.toList x.c))
  out := fun _ _ => [] }
theorem indexByte_ok : indexByteC.ok Tryd.prog 46 := by
  refine ok_of_walk (fun _ => rfl) (fun _ => rfl) (fun x hs => ⟨trivial, fun E w vals hsz hv hg hI => ?_⟩)
  obtain ⟨s, c⟩ := x
  rw [vals_two hsz, sat_v (hv 0 _ rfl), sat_v (hv 1 _ rfl)]
  refine (Tryd.strings_IndexByte s _ w).mono ?_
  rintro e w' ⟨rfl, rfl⟩
  refine ⟨_, rfl, ?_, .refl _ _⟩
  have e : ((c.toNat : Int).toNat).toUInt8 = c := by simp
  rw [e]
  exact .v _

@[reducible] def trimSuffixC : Ctr := {
  X := StrX
  Y := Unit
  args := fun x => [.v (.string x.s), .v (.string x.t)]
  rw := fun _ => []
  side := fun x => x.s.size ≤ 9223372036854775807
  val := fun _ => ()
  ens := fun _ _ => True
  res := fun x _ => .v (.string ⟨(Lib.trimSuffix x.s.data.toList x.t.data.toList).toArray⟩)
  out := fun _ _ => [] }
theorem trimSuffix_ok : trimSuffixC.ok Tryd.prog 49 := by
  refine ok_of_walk (fun _ => rfl) (fun _ => rfl) (fun x hs => ⟨trivial, fun E w vals hsz hv hg hI => ?_⟩)
  obtain ⟨s, c⟩ := x
  rw [vals_two hsz, sat_v (hv 0 _ rfl), sat_v (hv 1 _ rfl)]
  refine (Tryd.strings_TrimSuffix s _ w hs).mono ?_
  rintro e w' ⟨rfl, rfl⟩
  exact ⟨_, rfl, .v _, .refl _ _⟩

def atoiN (s : ByteArray) : Int :=
  match Lib.atoiAll s.data.toList with
  | .ok v => v
  | .range => Lib.atoiSat s.data.toList
  | _ => 0
theorem sat_any2 (E : Env) (w : World) (a b : Value) : Sat E w (.tuple [.v a, .any]) (.tuple #[a, b]) :=
  .tuple _ _ (fun j => (#[a, b] : Array Value).getD j undef) rfl (fun j hj => by
    match j, hj with
    | 0, _ => rfl
    | 1, _ => rfl) (fun j sv hj => by
    match j, hj with
    | 0, hj => obtain rfl : SV.v a = sv := by simpa using hj
               exact .v _
    | 1, hj => obtain rfl : SV.any = sv := by simpa using hj
               exact .any _
    | j + 2, hj => simp at hj)
@[reducible] def atoiC : Ctr := {
  X := ByteArray
  Y := Unit
  args := fun x => [.v (.string x)]
  rw := fun _ => []
  side := fun x => x.size ≤ 281474976710656
  val := fun _ => ()
  ens := fun _ _ => True
  res := fun x _ => .tuple [.v (.int .i64 (atoiN x)), .any]
  out := fun _ _ => [] }
theorem atoi_ok : atoiC.ok Tryd.prog 27 := by
  refine ok_of_walk (fun _ => rfl) (fun _ => rfl) (fun s hs => ⟨trivial, fun E w vals hsz hv hg hI => ?_⟩)
  dsimp only at hs
  rw [vals_one hsz, sat_v (hv 0 _ rfl)]
  obtain ⟨a, ⟨te, pe, ha⟩, hm⟩ := glob_some (g := 0) hg (List.mem_cons_of_mem _ (List.mem_cons_self ..))
  obtain ⟨a', ⟨te', pe', ha'⟩, hm'⟩ := glob_some (g := 1) hg (List.mem_cons_of_mem _ (List.mem_cons_of_mem _ (List.mem_cons_self ..)))
  cases h : Lib.atoiAll s.data.toList with
  | ok v =>
    have e : atoiN s = v := by simp [atoiN, h]
    refine (Tryd.strconv_Atoi_ok s (by omega) v h w).mono ?_
    rintro ex w' ⟨rfl, hw⟩
    refine ⟨_, rfl, ?_, ?_⟩
    · show Sat E w' (.tuple [.v (.int .i64 (atoiN s)), .any]) _
      rw [e]; exact sat_any2 ..
    · rcases hw with rfl | ⟨t, rfl⟩
      · exact .refl _ _
      · exact Lib.bytesWorld_below _ _ _
  | range =>
    have e : atoiN s = Lib.atoiSat s.data.toList := by simp [atoiN, h]
    refine (Tryd.strconv_Atoi_range s hs h _ w (hm' _ ha') (.inr ⟨_, _, rfl⟩)).mono ?_
    rintro ex w' ⟨N, rfl, -, -, hw⟩
    exact ⟨_, rfl, by show Sat E w' (.tuple [.v (.int .i64 (atoiN s)), .any]) _; rw [e]; exact sat_any2 .., hw⟩
  | _ =>
    have e : atoiN s = 0 := by simp [atoiN, h]
    refine (Tryd.strconv_Atoi_syntax s hs h _ w (hm _ ha) (.inr ⟨_, _, rfl⟩)).mono ?_
    rintro ex w' ⟨N, rfl, -, -, hw⟩
    exact ⟨_, rfl, by show Sat E w' (.tuple [.v (.int .i64 (atoiN s)), .any]) _; rw [e]; exact sat_any2 .., hw⟩
end Go.Proofs.YtghejeecanohoaaDoor

/-! Bytes and their digits. -/
set_option linter.unusedVariables false
set_option linter.unusedSimpArgs false
set_option maxRecDepth 100000
set_option maxHeartbeats 4000000
namespace Go.Proofs.YtghejeecanohoaaDoor
open Go.Eng

theorem byteAt_some {s : ByteArray} {i : Nat} (h : i < s.size) : (bytesL s)[i]? = some (byteAt s i) := by
  have h' : i < s.data.size := h
  unfold bytesL byteAt
  rw [List.getElem?_map, Array.getElem?_toList]
  have e : s[i]? = s.data[i]? := by
    rw [getElem?_pos s i h, getElem?_pos s.data i h']; rfl
  rw [e, getElem?_pos s.data i h']
  rfl
theorem byteAt_rng (s : ByteArray) (i : Nat) : 0 ≤ byteAt s i ∧ byteAt s i < 256 := by
  unfold byteAt
  split
  · rename_i b _
    have := b.toNat_lt
    omega
  · omega
def okB (l : List Int) : Prop := ∀ c, c ∈ l → 0 ≤ c ∧ c < 256
theorem bytesL_ok (s : ByteArray) : okB (bytesL s) := fun c hc => by
  obtain ⟨b, _, rfl⟩ := List.mem_map.1 hc
  have := b.toNat_lt
  omega
theorem bytes_str : ∀ {l : List Int}, okB l → bytesL (strOfNums l) = l := fun {l} h => by
  unfold bytesL
  rw [strOfNums_data, List.map_map]
  conv => rhs; rw [← List.map_id l]
  refine List.map_congr_left fun c hc => ?_
  obtain ⟨h1, h2⟩ := h c hc
  have : ((UInt8.ofNat c.toNat).toNat : Int) = c := by
    rw [UInt8.toNat_ofNat', Nat.mod_eq_of_lt (by omega)]; omega
  exact this
theorem str_inj {l l' : List Int} (h : okB l) (h' : okB l') : strOfNums l = strOfNums l' ↔ l = l' :=
  ⟨fun e => by rw [← bytes_str h, e, bytes_str h'], fun e => by rw [e]⟩
theorem bytes_inj {a b : ByteArray} (h : bytesL a = bytesL b) : a = b := by rw [← str_bytesL a, h, str_bytesL]
theorem okB_app {a b : List Int} (h : okB a) (h' : okB b) : okB (a ++ b) := fun c hc => (List.mem_append.1 hc).elim (h c) (h' c)
theorem okB_cons {c : Int} {l : List Int} (h : 0 ≤ c ∧ c < 256) (h' : okB l) : okB (c :: l) := fun x hx => by
  rcases List.mem_cons.1 hx with rfl | hx
  · exact h
  · exact h' x hx
theorem okB_tail {c : Int} {l : List Int} (h : okB (c :: l)) : okB l := fun x hx => h x (List.mem_cons_of_mem _ hx)
theorem take_get {α : Type} {l : List α} {i : Nat} {c : α} (h : l[i]? = some c) : l.take (i + 1) = l.take i ++ [c] := by
  rw [List.take_add_one, h]; rfl

/-! ### Two lists of bytes -/
structure EqX where
  a : List Int
  b : List Int
@[reducible] def equalC : Ctr := {
  X := EqX
  Y := Unit
  args := fun x => [.ro true (.int .u8) x.a, .ro true (.int .u8) x.b]
  rw := fun _ => []
  side := fun x => x.a.length ≤ 9223372036854775807
  val := fun _ => ()
  ens := fun _ _ => True
  res := fun x _ => .v (.bool (decide (x.a = x.b)))
  out := fun _ _ => [] }
@[reducible] def equalL (x : EqX) : LA := {
  X := Nat
  pre := fun i => i ≤ x.a.length ∧ x.a.length = x.b.length ∧ x.a.take i = x.b.take i
  mu := fun i => x.a.length - i
  T := fun i => [(0, .ro true (.int .u8) x.a), (1, .ro true (.int .u8) x.b), (12, .v (.int .i64 x.a.length)), (13, .v (.int .i64 (i : Nat)))]
  M := fun _ => [] }
theorem equal_ok : equalC.ok Tryd.prog 33 := by
  refine ok_of_vc (An := fun (x : EqX) => anOf [(0, .loop (equalL x))]) (known_nil _) mo Tryd.func33 (by kernel_rfl) (by kernel_rfl) (fun _ _ => trivial) (fun x hs => ?_)
  obtain ⟨a, b⟩ := x
  have hs : a.length ≤ 9223372036854775807 := hs
  ((repeat' ((conv => whnf) <;> first | exact True.intro | (guard_target =~ Fork _ _ _; first | refine F1 ?_ | refine F2 ?_ | refine F3 (fun h => ?_) fun h => ?_) | (guard_target =~ Ar _ _ _; first | refine A1 ?_ | refine A2 ?_ | refine A3 ?_) | (guard_target =~ AskL _ _; first | refine L1 ?_) | (guard_target =~ Go.Eng.Ask _ _; first | refine K1 ?_) | (guard_target =~ All' _ _; first | (refine Y2 fun y he he' hy => ?_; (try dsimp only at he he' hy)) | (refine Y1 fun y he hy => ?_; (try with_reducible conv at he => (rhs; whnf)); (try dsimp only at he hy)) | (refine All'.mk ?_; intro y hy)) | refine F4 (fun h => ?_) fun h => ?_ | refine R1 ?_ | refine Q1 ?_ | fail)); all_goals (conv => whnf))
  · refine AskL.mk ?_ trivial
    simp only [conj]
    have : ¬ a = b := fun e => h (by rw [e])
    exact (decide_eq_false this).symm
  · refine Some'.mk (0 : Nat) ?_
    ((repeat' ((conv => whnf) <;> first | exact True.intro | (guard_target =~ Fork _ _ _; first | refine F1 ?_ | refine F2 ?_ | refine F3 (fun h => ?_) fun h => ?_) | (guard_target =~ Ar _ _ _; first | refine A1 ?_ | refine A2 ?_ | refine A3 ?_) | (guard_target =~ AskL _ _; first | refine L1 ?_) | (guard_target =~ Go.Eng.Ask _ _; first | refine K1 ?_) | (guard_target =~ All' _ _; first | (refine Y2 fun y he he' hy => ?_; (try dsimp only at he he' hy)) | (refine Y1 fun y he hy => ?_; (try with_reducible conv at he => (rhs; whnf)); (try dsimp only at he hy)) | (refine All'.mk ?_; intro y hy)) | refine F4 (fun h => ?_) fun h => ?_ | refine R1 ?_ | refine Q1 ?_ | fail)); all_goals (conv => whnf))
    refine Ask.mk ⟨Nat.zero_le _, by dsimp only; omega, rfl⟩ ?_
    ((repeat' ((conv => whnf) <;> first | exact True.intro | (guard_target =~ Fork _ _ _; first | refine F1 ?_ | refine F2 ?_ | refine F3 (fun h => ?_) fun h => ?_) | (guard_target =~ Ar _ _ _; first | refine A1 ?_ | refine A2 ?_ | refine A3 ?_) | (guard_target =~ AskL _ _; first | refine L1 ?_) | (guard_target =~ Go.Eng.Ask _ _; first | refine K1 ?_) | (guard_target =~ All' _ _; first | (refine Y2 fun y he he' hy => ?_; (try dsimp only at he he' hy)) | (refine Y1 fun y he hy => ?_; (try with_reducible conv at he => (rhs; whnf)); (try dsimp only at he hy)) | (refine All'.mk ?_; intro y hy)) | refine F4 (fun h => ?_) fun h => ?_ | refine R1 ?_ | refine Q1 ?_ | fail)); all_goals (conv => whnf))
    refine AllI.mk ?_
    rintro (i : Nat) ⟨h1, h2, h3⟩
    dsimp only at h1 h2 h3
    by_cases hi : i = a.length
    · subst hi
      have e : a = b := by rw [List.take_length] at h3; rw [h3, h2, List.take_length]
      have hd := decide_eq_true e
      exact G1
    · obtain ⟨c, hc⟩ : ∃ c, a[i]? = some c := ⟨_, List.getElem?_eq_getElem (by omega)⟩
      obtain ⟨d, hd⟩ : ∃ d, b[i]? = some d := ⟨_, List.getElem?_eq_getElem (by omega)⟩
      ((repeat' ((conv => whnf) <;> first | exact True.intro | (guard_target =~ Fork _ _ _; first | refine F1 ?_ | refine F2 ?_ | refine F3 (fun h => ?_) fun h => ?_) | (guard_target =~ Ar _ _ _; first | refine A1 ?_ | refine A2 ?_ | refine A3 ?_) | (guard_target =~ AskL _ _; first | refine L1 ?_) | (guard_target =~ Go.Eng.Ask _ _; first | refine K1 ?_) | (guard_target =~ All' _ _; first | (refine Y2 fun y he he' hy => ?_; (try dsimp only at he he' hy)) | (refine Y1 fun y he hy => ?_; (try with_reducible conv at he => (rhs; whnf)); (try dsimp only at he hy))) | refine F4 (fun h => ?_) fun h => ?_ | refine R1 ?_ | refine Q1 ?_ | fail)); all_goals (conv => whnf))
      refine All'.mk ?_; rintro (c' : Int) hc'
      ((repeat' ((conv => whnf) <;> first | exact True.intro | (guard_target =~ Fork _ _ _; first | refine F1 ?_ | refine F2 ?_ | refine F3 (fun h => ?_) fun h => ?_) | (guard_target =~ Ar _ _ _; first | refine A1 ?_ | refine A2 ?_ | refine A3 ?_) | (guard_target =~ AskL _ _; first | refine L1 ?_) | (guard_target =~ Go.Eng.Ask _ _; first | refine K1 ?_) | (guard_target =~ All' _ _; first | (refine Y2 fun y he he' hy => ?_; (try dsimp only at he he' hy)) | (refine Y1 fun y he hy => ?_; (try with_reducible conv at he => (rhs; whnf)); (try dsimp only at he hy))) | refine F4 (fun h => ?_) fun h => ?_ | refine R1 ?_ | refine Q1 ?_ | fail)); all_goals (conv => whnf))
      refine All'.mk ?_; rintro (d' : Int) hd'
      ((repeat' ((conv => whnf) <;> first | exact True.intro | (guard_target =~ Fork _ _ _; first | refine F1 ?_ | refine F2 ?_ | refine F3 (fun h => ?_) fun h => ?_) | (guard_target =~ Ar _ _ _; first | refine A1 ?_ | refine A2 ?_ | refine A3 ?_) | (guard_target =~ AskL _ _; first | refine L1 ?_) | (guard_target =~ Go.Eng.Ask _ _; first | refine K1 ?_) | (guard_target =~ All' _ _; first | (refine Y2 fun y he he' hy => ?_; (try dsimp only at he he' hy)) | (refine Y1 fun y he hy => ?_; (try with_reducible conv at he => (rhs; whnf)); (try dsimp only at he hy)) | (refine All'.mk ?_; intro y hy)) | refine F4 (fun h => ?_) fun h => ?_ | refine R1 ?_ | refine Q1 ?_ | fail)); all_goals (conv => whnf))
      · refine AskL.mk ?_ trivial
        simp only [conj]
        refine (decide_eq_false fun e => ?_).symm
        have hc' : a[i]? = some c' := hc'
        have hd' : b[i]? = some d' := hd'
        have e : a = b := e
        rw [e, hd'] at hc'
        simp only [Option.some.injEq] at hc'
        omega
      · obtain rfl : c' = d' := by omega
        refine Some'.mk (i + 1) ?_
        ((repeat' ((conv => whnf) <;> first | exact True.intro | (guard_target =~ Fork _ _ _; first | refine F1 ?_ | refine F2 ?_ | refine F3 (fun h => ?_) fun h => ?_) | (guard_target =~ Ar _ _ _; first | refine A1 ?_ | refine A2 ?_ | refine A3 ?_) | (guard_target =~ AskL _ _; first | refine L1 ?_) | (guard_target =~ Go.Eng.Ask _ _; first | refine K1 ?_) | (guard_target =~ All' _ _; first | (refine Y2 fun y he he' hy => ?_; (try dsimp only at he he' hy)) | (refine Y1 fun y he hy => ?_; (try with_reducible conv at he => (rhs; whnf)); (try dsimp only at he hy)) | (refine All'.mk ?_; intro y hy)) | refine F4 (fun h => ?_) fun h => ?_ | refine R1 ?_ | refine Q1 ?_ | fail)); all_goals (conv => whnf))
        refine Ask.mk ⟨by dsimp only; omega, h2, ?_⟩ ?_
        · show a.take (i + 1) = b.take (i + 1)
          have hc' : a[i]? = some c' := hc'
          have hd' : b[i]? = some c' := hd'
          rw [take_get hc', take_get hd', h3]
        exact G1

theorem knownA1 : Known Tryd.prog (gOf [(33, equalC)]) := known_cons ⟨equal_ok, Tryd.call33⟩ (known_nil _)

/-- An event as Go has one. -/
def okEv (e : Ev) : Prop := (-9223372036854775808 ≤ e.1 ∧ e.1 ≤ 9223372036854775807) ∧ okB e.2.2.2.2.2.1 ∧ (0 ≤ e.2.2.2.2.2.2 ∧ e.2.2.2.2.2.2 < 256) ∧ e.2.2.2.2.2.1.length ≤ 9223372036854775807 ∧ e.2.2.2.2.1.size ≤ 9223372036854775807

structure SameX where
  a : Ev
  b : Ev
open Classical in
noncomputable def sameB (a b : Ev) : Bool := decide (a = b)
theorem sameB_true {a b : Ev} (h : a = b) : sameB a b = true := by unfold sameB; simpa using h
theorem sameB_false {a b : Ev} (h : ¬ a = b) : sameB a b = false := by unfold sameB; simpa using h
@[reducible] noncomputable def sameC : Ctr := {
  X := SameX
  Y := Unit
  args := fun x => [.agg (evS true x.a), .agg (evS true x.b)]
  rw := fun _ => []
  side := fun x => okEv x.a ∧ okEv x.b
  val := fun _ => ()
  ens := fun _ _ => True
  res := fun x _ => .v (.bool (sameB x.a x.b))
  out := fun _ _ => [] }
theorem same_ok : sameC.ok Tryd.prog 12 := by
  refine ok_of_vc (An := fun _ => anOf []) knownA1 mo Tryd.func12 (by kernel_rfl) (by kernel_rfl) (fun _ _ => trivial) (fun x hs => ?_)
  obtain ⟨⟨a1, a2, a3, a4, a5, a6, a7⟩, ⟨b1, b2, b3, b4, b5, b6, b7⟩⟩ := x
  have h6 : a6.length ≤ 9223372036854775807 := hs.1.2.2.2.1
  clear hs
  ((repeat' ((conv => whnf) <;> first | exact True.intro | (guard_target =~ Fork _ _ _; first | refine F1 ?_ | refine F2 ?_ | refine F3 (fun h => ?_) fun h => ?_) | (guard_target =~ Ar _ _ _; first | refine A1 ?_ | refine A2 ?_ | refine A3 ?_) | (guard_target =~ AskL _ _; first | refine L1 ?_) | (guard_target =~ Go.Eng.Ask _ _; first | refine K1 ?_) | (guard_target =~ All' _ _; first | (refine Y2 fun y he he' hy => ?_; (try dsimp only at he he' hy)) | (refine Y1 fun y he hy => ?_; (try with_reducible conv at he => (rhs; whnf)); (try dsimp only at he hy)) | (refine All'.mk ?_; intro y hy)) | refine F4 (fun h => ?_) fun h => ?_ | refine R1 ?_ | refine Q1 ?_ | fail)); all_goals (conv => whnf))
  refine CallP.mk (C := equalC) ⟨a6, b6⟩ ?_
  ((repeat' ((conv => whnf) <;> first | exact True.intro | (guard_target =~ Fork _ _ _; first | refine F1 ?_ | refine F2 ?_ | refine F3 (fun h => ?_) fun h => ?_) | (guard_target =~ Ar _ _ _; first | refine A1 ?_ | refine A2 ?_ | refine A3 ?_) | (guard_target =~ AskL _ _; first | refine L1 ?_) | (guard_target =~ Go.Eng.Ask _ _; first | refine K1 ?_) | (guard_target =~ All' _ _; first | (refine Y2 fun y he he' hy => ?_; (try dsimp only at he he' hy)) | (refine Y1 fun y he hy => ?_; (try with_reducible conv at he => (rhs; whnf)); (try dsimp only at he hy)) | (refine All'.mk ?_; intro y hy)) | refine F4 (fun h => ?_) fun h => ?_ | refine R1 ?_ | refine Q1 ?_ | fail)); all_goals (conv => whnf))
  all_goals
    refine AskL.mk ?_ trivial
    simp only [conj]
    first
    | (refine (sameB_false fun e => ?_).symm
       (try dsimp only at e)
       simp only [Prod.mk.injEq] at e
       exact h (by simp only [e]))
    | (by_cases e7 : a7 = b7
       · rw [sameB_true (by simp_all [str_eq])]; simpa using e7
       · rw [sameB_false (fun e => e7 (by (try dsimp only at e); simp only [Prod.mk.injEq] at e; simp only [e]))]; simpa using e7)
theorem rsame_ok : sameC.ok Tryd.prog 13 := by
  refine ok_of_vc (An := fun _ => anOf []) (known_nil _) mo Tryd.func13 (by kernel_rfl) (by kernel_rfl) (fun _ _ => trivial) (fun x hs => ?_)
  obtain ⟨⟨a1, a2, a3, a4, a5, a6, a7⟩, ⟨b1, b2, b3, b4, b5, b6, b7⟩⟩ := x
  have h6 : okB a6 := hs.1.2.1
  have h6' : okB b6 := hs.2.2.1
  clear hs
  have hsi := str_inj h6 h6'
  ((repeat' ((conv => whnf) <;> first | exact True.intro | (guard_target =~ Fork _ _ _; first | refine F1 ?_ | refine F2 ?_ | refine F3 (fun h => ?_) fun h => ?_) | (guard_target =~ Ar _ _ _; first | refine A1 ?_ | refine A2 ?_ | refine A3 ?_) | (guard_target =~ AskL _ _; first | refine L1 ?_) | (guard_target =~ Go.Eng.Ask _ _; first | refine K1 ?_) | (guard_target =~ All' _ _; first | (refine Y2 fun y he he' hy => ?_; (try dsimp only at he he' hy)) | (refine Y1 fun y he hy => ?_; (try with_reducible conv at he => (rhs; whnf)); (try dsimp only at he hy)) | (refine All'.mk ?_; intro y hy)) | refine F4 (fun h => ?_) fun h => ?_ | refine R1 ?_ | refine Q1 ?_ | fail)); all_goals (conv => whnf))
  all_goals
    refine AskL.mk ?_ trivial
    simp only [conj]
    first
    | (refine (sameB_false fun e => ?_).symm
       (try dsimp only at e)
       simp only [Prod.mk.injEq] at e
       exact h (by simp only [e]))
    | (by_cases e7 : a7 = b7
       · rw [sameB_true (by simp_all [str_eq])]; simpa using e7
       · rw [sameB_false (fun e => e7 (by (try dsimp only at e); simp only [Prod.mk.injEq] at e; simp only [e]))]; simpa using e7)
end Go.Proofs.YtghejeecanohoaaDoor
