/- The engine, part O: a function keeps its contract. -/
import Derived.Test.YteckpdifeoffjaaDoorEngS
set_option linter.unusedVariables false
namespace Go.Eng

/-- What is known of functions, as a list. -/
def gOf : List (Nat × Ctr) → Nat → Option Ctr
  | [], _ => none
  | (j, C) :: l, i => match Nat.beq j i with | true => some C | false => gOf l i
def anAt : List (Nat × AN) → Nat → Option AN
  | [], _ => none
  | (j, L) :: l, i => match Nat.beq j i with | true => some L | false => anAt l i
/-- The loops' invariants, as a list. -/
def anOf (l : List (Nat × AN)) (ms : List Nat) (i : Nat) : Option AN := anAt l i
/-- The same, where inner loops may name what is left of the outer ones (the innermost ahead). -/
def anOfM (f : List Nat → List (Nat × AN)) (ms : List Nat) (i : Nat) : Option AN := anAt (f ms) i

def Has (P : Program) (C : Ctr) (g : FuncId) : Prop := C.ok P g ∧ ∀ args w, (callFunc g args).run P w = .ok (.enter g args) w
/-- A function without a body. -/
theorem known_ext {P : Program} {j : Nat} {C : Ctr} {l : List (Nat × Ctr)} (hb : bodyB P j = false) (h : C.okV P j) (k : Known P (gOf l)) : Known P (gOf ((j, C) :: l)) := fun g D e => by
  unfold gOf at e
  split at e
  · rename_i hb'
    obtain rfl := Nat.eq_of_beq_eq_true hb'
    obtain rfl := Option.some.inj e
    exact .inr ⟨hb, h⟩
  · exact k g D e

theorem known_nil (P : Program) : Known P (gOf []) := fun g C h => by cases h
theorem known_cons {P : Program} {j : Nat} {C : Ctr} {l : List (Nat × Ctr)} (h : Has P C j) (k : Known P (gOf l)) : Known P (gOf ((j, C) :: l)) := fun g D e => by
  unfold gOf at e
  split at e
  · rename_i hb
    obtain rfl := Nat.eq_of_beq_eq_true hb
    obtain rfl := Option.some.inj e
    exact .inl h
  · exact k g D e

theorem Fork.pos {b : Bool} {A B : Prop} (h : b = true) (a : A) : Fork b A B := ⟨fun _ => a, fun h' => by rw [h] at h'; cases h'⟩
theorem Fork.neg {b : Bool} {A B : Prop} (h : b = false) (a : B) : Fork b A B := ⟨(fun h' => by rw [h] at h'; cases h'), fun _ => a⟩

section
variable {P : Program} {G : Nat → Option Ctr} {An : List Nat → Nat → Option AN}

theorem vals_ok {T : Tm} {M : En} {nt : Nat} : ∀ (rs : List ResultVar) {K : List SV → Prop}, endL P T M rs K → ∃ ss, K ss ∧ ∀ (E : Env) (fp : Nat → Nat → Prop) (a : Act) (w : World), StSat E w fp a nt T M →
    ∃ vs, (∀ (f : ResultVar → Sem Value) (_ : ∀ u, f (.tmp u) = pure (a.tmps.getD u undef)) (_ : ∀ c t, f (.cell c t) = (do loadVar t (← asAddr (a.tmps.getD c undef)))),
      (rs.mapM f).run P w = .ok vs w) ∧ CellsAre E w ss vs
  | [], K, h => ⟨[], h, fun E fp a w hs => ⟨[], fun f _ _ => by simp, rfl, fun j s hj => by simp at hj⟩⟩
  | .tmp t :: l, K, h => by
    obtain ⟨ss, hk, hss⟩ := vals_ok l (force_spec h)
    refine ⟨_, hk, fun E fp a w hs => ?_⟩
    obtain ⟨vs, h1, h2⟩ := hss E fp a w hs
    refine ⟨a.tmps.getD t undef :: vs, fun f hf hc => by simp only [List.mapM_cons, hf, Sem.run_bind, Sem.run_pure, Result.andThen_ok, h1 f hf hc], by simp [h2.1], fun j s hj => ?_⟩
    cases j with
    | zero =>
      obtain rfl : look T t = s := by simpa using hj
      exact ⟨_, rfl, hs.tm t⟩
    | succ j => exact h2.2 j s (by simpa using hj)
  | .cell c t :: l, K, h => by
    unfold endL at h
    split at h
    · rename_i i off hc0
      split at h
      · rename_i t' cs hf0
        obtain ⟨out, h, hout⟩ := partV_load h
        obtain ⟨ss, hk, hss⟩ := vals_ok l h
        refine ⟨_, hk, fun E fp a w hs => ?_⟩
        obtain ⟨vs, h1, h2⟩ := hss E fp a w hs
        have hp := hs.tm c
        rw [hc0] at hp
        have he := hs.en.sat i
        rw [hf0] at he
        obtain ⟨s', arr, fz, e1, e2, e3, e4, e5, e6⟩ := he
        generalize hq : a.tmps.getD c undef = pv at hp
        cases hp with
        | ptr _ _ s hsl =>
          obtain rfl := Option.some.inj (hsl.symm.trans e1)
          obtain ⟨v, g1, g2⟩ := hout E w s.blk 0 (fun j sv hj => by
            obtain ⟨u, hu, hsat⟩ := e6 j sv hj
            exact ⟨u, by rw [Nat.zero_add]; exact cell_of e3 hu, hsat⟩)
          rw [Nat.zero_add] at g1
          refine ⟨v :: vs, fun f hf hc => ?_, by simp [h2.1], fun j s hj => ?_⟩
          · simp only [List.mapM_cons, hc, hq, asAddr, Sem.run_bind, Sem.run_pure, Result.andThen_ok, g1, h1 f hf hc]
          · cases j with
            | zero =>
              obtain rfl : out = s := by simpa using hj
              exact ⟨_, rfl, g2⟩
            | succ j => exact h2.2 j s (by simpa using hj)
      · exact h.elim
    · exact h.elim

theorem results_run {fn : Func} {tmps : Array Value} {w : World} {vs : List Value}
    (h : ∀ (f : ResultVar → Sem Value) (_ : ∀ u, f (.tmp u) = pure (tmps.getD u undef)) (_ : ∀ c t, f (.cell c t) = (do loadVar t (← asAddr (tmps.getD c undef)))), (fn.results.toList.mapM f).run P w = .ok vs w) :
    (results fn tmps).run P w = .ok (if h : vs.toArray.size = 1 then vs.toArray[0] else .tuple vs.toArray) w := by
  unfold results
  rw [show fn.results = fn.results.toList.toArray by simp, List.mapM_toArray]
  simp only [Sem.run_bind, Sem.run_map]
  rw [h]
  · simp
  · intro u; rfl
  · intro a t; rfl

theorem endV_ok {fn : Func} {T : Tm} {M : En} {nt : Nat} {K : SV → Prop} (h : endV P T M fn.results.toList K) : ∃ s, K s ∧ ∀ (E : Env) (fp : Nat → Nat → Prop) (a : Act) (w : World), StSat E w fp a nt T M →
    ∃ v, (results fn a.tmps).run P w = .ok v w ∧ Sat E w s v := by
  obtain ⟨ss, hk, hss⟩ := vals_ok (nt := nt) _ h
  have hrun : ∀ (E : Env) (fp : Nat → Nat → Prop) (a : Act) (w : World), StSat E w fp a nt T M → ∃ vs : List Value, (results fn a.tmps).run P w = .ok (if h : vs.toArray.size = 1 then vs.toArray[0] else .tuple vs.toArray) w ∧ CellsAre E w ss vs := fun E fp a w hs =>
    let ⟨vs, h1, h2⟩ := hss E fp a w hs
    ⟨vs, results_run h1, h2⟩
  split at hk
  · rename_i s
    refine ⟨s, hk, fun E fp a w hs => ?_⟩
    obtain ⟨vs, h1, h2, h3⟩ := hrun E fp a w hs
    match vs, h2 with
    | [v], _ =>
      obtain ⟨u, hu, hsat⟩ := h3 0 s rfl
      obtain rfl : v = u := by simpa using hu
      exact ⟨v, h1, hsat⟩
  · rename_i hne
    refine ⟨_, hk, fun E fp a w hs => ?_⟩
    obtain ⟨vs, h1, h2, h3⟩ := hrun E fp a w hs
    have hl : vs.toArray.size ≠ 1 := fun e => by
      match ss, h2, hne with
      | [s], _, hne => exact hne s rfl
      | [], h2, _ => simp at e h2; simp [h2] at e
      | _ :: _ :: _, h2, _ => simp at e h2; omega
    rw [dif_neg hl] at h1
    refine ⟨_, h1, .tuple ss _ (fun j => vs.getD j undef) (by simpa using h2) (fun j hj => ?_) (fun j sv hj => ?_)⟩
    · have : j < vs.length := by omega
      simp [this]
    · obtain ⟨u, hu, hsat⟩ := h3 j sv hj
      have : vs.getD j undef = u := by simp [hu]
      rw [this]; exact hsat

theorem newOk_spec {rg : Mp} : ∀ (m : Mp), newOk rg m = true → ∀ j i, mlook m j = some i → j < 1000 → ∃ k, mlook rg j = some k
  | [], _, j, i, h, _ => by cases h
  | (k, i0) :: m, hc, j, i, h, hj => by
    rw [mlook_cons] at h
    have ht : newOk rg m = true ∧ (k < 1000 → ∃ k', mlook rg k = some k') := by
      unfold newOk at hc
      split at hc
      · rename_i hb; exact ⟨hc, fun hk => by have := Nat.le_of_ble_eq_true hb; omega⟩
      · split at hc
        · rename_i k' hk'; exact ⟨hc, fun _ => ⟨k', hk'⟩⟩
        · cases hc
    split at h
    · rename_i e; subst e; exact ht.2 hj
    · exact newOk_spec m ht.1 j i h hj

/-- The marks are taken: nothing else turns. -/
theorem takes_marks {F : Fence} {n : Nat} {fn : Func} {tmps : Array Value} {R : Ending → World → Prop} : ∀ (ds : List Nat) (w : World), ds.Nodup → (∀ b, b ∈ ds → w.heap[b]? = some (.deferred (some []))) →
    (∀ w' : World, w'.os = w.os → TF w w' → w'.output = w.output → w'.heap.size = w.heap.size → (∀ b, b ∉ ds → w'.heap[b]? = w.heap[b]?) → ∃ v, (results fn tmps).run P w' = .ok v w' ∧ R (.returned v) w') →
    LeavesInM F n P fn tmps R (ds.map markOf) .returning w
  | [], w, _, _, h => h w rfl (.refl w) rfl rfl (fun _ _ => rfl)
  | b :: ds, w, hn, hb, h => by
    obtain ⟨hn1, hn2⟩ := List.nodup_cons.1 hn
    refine ⟨by simp, .inl ⟨b, _, rfl, run_takeDeferred (hb b (List.mem_cons_self ..)), ?_⟩⟩
    refine takes_marks ds _ hn2 (fun c hc => ?_) (fun w' h1 h2 h3 h4 h5 => h w' h1 (h2.trans ⟨rfl⟩) h3 (h4.trans World.putObj_size) (fun c hc => ?_))
    · rw [World.putObj_heap_other (by rintro rfl; exact hn1 hc)]; exact hb c (List.mem_cons_of_mem _ hc)
    · rw [h5 c (fun e => hc (List.mem_cons_of_mem _ e)), World.putObj_heap_other (by rintro rfl; exact hc (List.mem_cons_self ..))]

theorem rgOf_self : ∀ (M : En) (j i : Nat), mlook (rgOf M) j = some i → i = j ∧ j ∈ keys M
  | [], j, i, h => by cases h
  | (k, e) :: M, j, i, h => by
    simp only [rgOf] at h
    rw [mlook_cons] at h
    split at h
    · rename_i e1
      subst e1
      exact ⟨(Option.some.inj h).symm, by simp [keys]⟩
    · obtain ⟨h1, h2⟩ := rgOf_self M j i h
      exact ⟨h1, by simp only [keys, List.map_cons, List.mem_cons] at h2 ⊢; exact .inr h2⟩

theorem keysLt_spec {n : Nat} : ∀ (M : En), keysLt n M = true → ∀ j, j ∈ keys M → j < n
  | [], _, j, h => by cases h
  | (k, e) :: M, h, j, hj => by
    unfold keysLt at h
    split at h
    · rename_i hb
      rcases List.mem_cons.1 (show j ∈ k :: keys M from hj) with rfl | hj
      · exact Nat.le_of_ble_eq_true hb
      · exact keysLt_spec M h j hj
    · cases h

theorem numT_look : ∀ (l : List SV) (n t : Nat), look (numT n l) t = .any ∨ ∃ j, t = n + j ∧ l[j]? = some (look (numT n l) t)
  | [], n, t => .inl rfl
  | s :: l, n, t => by
    simp only [numT, look]
    cases hb : Nat.beq n t with
    | true => obtain rfl := Nat.eq_of_beq_eq_true hb; exact .inr ⟨0, rfl, rfl⟩
    | false =>
      rcases numT_look l (n + 1) t with e | ⟨j, h1, h2⟩
      · exact .inl e
      · exact .inr ⟨j + 1, by omega, by simpa using h2⟩

theorem ok_of_vc {C : Ctr} {An : C.X → List Nat → Nat → Option AN} {f : FuncId} {fn : Func} (hG : Known P G) (hm : P.follows .mixedOrders = true) (hf : P.funcs[f]? = some fn) (hb : fn.body = some (bodyC fn)) (hd : dstsB fn.ntmps (bodyC fn) = true)
    (hens : ∀ x, C.side x → C.ens x (C.val x)) (h : ∀ x, C.side x → fnVC P G (An x) fn C x) : C.ok P f := by
  intro x hside
  refine ⟨hens x hside, fun E fp vals w hsz hvals hents hnames => ?_⟩
  have h := h x hside
  unfold fnVC at h
  split at h
  · rename_i hkeys
    split at h
    · rename_i hlen
      have hlen := Nat.le_of_ble_eq_true hlen
      have hrg : ∀ j i, mlook (rgOf (C.rw x)) j = some i → i = j ∧ j < 1000 := fun j i hj => by
        obtain ⟨h1, h2⟩ := rgOf_self _ j i hj
        exact ⟨h1, keysLt_spec _ hkeys j h2⟩
      refine callsIn_of_wp_marks (F := fence none) hf hb trivial ?_
      have hst : StSat E w fp { tmps := vals ++ Array.replicate (fn.ntmps - vals.size) undef, defers := [] } fn.ntmps (numT 0 (C.args x)) (C.rw x) := by
        refine ⟨by simp; omega, fun t => ?_, hents⟩
        rcases numT_look (C.args x) 0 t with e | ⟨j, h1, h2⟩
        · rw [e]; exact .any _
        · obtain rfl : t = j := by omega
          have hj := (List.getElem?_eq_some_iff.1 h2).1
          have := hvals t _ h2
          have e : (vals ++ Array.replicate (fn.ntmps - vals.size) undef).getD t undef = vals.getD t undef := by
            have hlt : t < vals.size := by omega
            simp [Array.getElem?_append, hlt]
          rw [e]; exact this
      have fin : ∀ nx' T' M' a' w', (endV P T' M' fn.results.toList fun v => postB C x (rgOf (C.rw x)) M' v) → Here (rgOf (C.rw x)) E fp w fn.ntmps [] nx' T' M' a' w' →
          LeavesInM (fence none) 0 P fn a'.tmps (fun e w' => ∃ u E' fp', e = .returned u ∧ Sat E' w' (C.res x (C.val x)) u ∧ EntsSat E' w' fp' (C.out x (C.val x)) ∧ Adv E fp w E' fp' w' ∧ ∀ id, id < 1000 → E'.slot id = E.slot id) a'.defers .returning w' := by
        intro nx' T' M' a' w0 hk hh
        obtain ⟨E1, fp1, hs0, hnx, hfrom0, hheld⟩ := hh
        obtain ⟨ds, hds, hnd, hmk⟩ := hheld.marks
        rw [hds]
        refine takes_marks ds w0 hnd (fun b hb => (hmk b hb).2.1) (fun w' h1 h2 h3 h4 h5 => ?_)
        have hne : ∀ b, own fp1 b → b ∉ ds := fun b hb hm => (hmk b hm).2.2.1 hb
        have hIs : Stays E1 w0 w' := fun b hb _ => h5 b (fun hm => hb.elim (hmk b hm).2.2.2.1 (hmk b hm).2.2.2.2)
        have hs : StSat E1 w' fp1 a' fn.ntmps T' M' := ⟨hs0.sz, fun t => (hs0.tm t).mono (.refl E1) hIs, ⟨fun id => (hs0.en.sat id).mono (.refl E1) hIs (by omega) (fun b hb => h5 b (hne b ⟨id, hb⟩)),
          fun id b hb => by rw [h4]; exact hs0.en.lt id b hb, hs0.en.I, hs0.en.B, hs0.en.apart, fun b hb => by rw [h4]; exact hs0.en.Ilt b hb, hs0.en.nil, hs0.en.glob hIs (fun _ h => h)⟩⟩
        have hfrom : From (rgOf (C.rw x)) E fp w E1 fp1 w' := ⟨⟨h1.trans hfrom0.keep.os, h2.trans hfrom0.keep.tape, h3.trans hfrom0.keep.output, by have := hfrom0.keep.size; omega,
          fun b hb hn => (h5 b (fun hm => by have := (hmk b hm).1; omega)).trans (hfrom0.keep.same b hb hn)⟩, hfrom0.I, hfrom0.Inew, hfrom0.B, hfrom0.onew, hfrom0.slot⟩
        obtain ⟨s, hk, hrun⟩ := endV_ok (nt := fn.ntmps) hk
        obtain ⟨v, hv1, hv2⟩ := hrun E1 fp1 a' w' hs
        refine ⟨v, hv1, v, ?_⟩
        unfold postB at hk
        obtain ⟨m1, bs1, fs1, q1, hk, g1, d1⟩ := (mat_good M' 200).1 _ _ _ _ _ _ _ hk
        obtain ⟨m, bs, fs, q, us, hk, g2, ht, hsem⟩ := matE_good _ hk
        cases bs with
        | cons _ _ => exact hk.elim
        | nil =>
          simp only at hk
          split at hk
          · exact hk.elim
          · rename_i hchk
            simp only [Bool.or_eq_false_iff, Bool.not_eq_false'] at hchk
            obtain ⟨⟨hfu, hnew⟩, hlt⟩ := hchk
            have hq := conj_all q hk.e
            have hlent : Lent M' E1 w' fp1 [] fs := ⟨hs.en.nil, fun i hi => hs.en.sat i⟩
            have hT := EntsSat.target (M := M') (bs := []) hs.en (fun i hi => hs.en.sat i) ht (fun j e hm i hi he => hsem hq E1 w' fp1 hlent j e hm i hi he) (by rfl) hfu
            have hR := hfrom.rename fs (C.out x (C.val x)) (fun j i hj => g2.m j i (g1.m j i hj))
            have hS := d1.grow g2 hq E1 w' fp1 hlent _ hv2
            -- the names of the entry stand as they stood
            let E2 : Env := { slot := fun id => if id < 1000 then E.slot id else (envF E1 fp1 m [] fs).slot id, I := (envF E1 fp1 m [] fs).I, B := E.B }
            have hslot : ∀ id, id < 1000 → ∀ s, (envF E1 fp1 m [] fs).slot id = some s → E.slot id = some s := fun id hid s hs => by
              cases hm : mlook m id with
              | none => simp only [envF, nilB_lt (show id < 1984 by omega), hm] at hs; cases hs
              | some i =>
                obtain ⟨k, hk⟩ := newOk_spec m hnew id i hm hid
                rw [← (hR.slot id k hk).2.2]; exact hs
            have hle : (envF E1 fp1 m [] fs).le E2 := by
              refine ⟨fun id s hs => ?_, fun b hb => hb, fun b hb => (hR.B b).1 hb⟩
              by_cases hid : id < 1000
              · simp only [E2, if_pos hid]; exact hslot id hid s hs
              · simp only [E2, if_neg hid]; exact hs
            have hst0 : Stays (envF E1 fp1 m [] fs) w' w' := fun _ _ _ => rfl
            refine ⟨E2, fpF fp1 m (C.out x (C.val x)), rfl, hS.mono hle hst0, ⟨fun id => (hT.sat id).mono hle hst0 (Nat.le_refl _) (fun _ _ => rfl), hT.lt, hT.I, fun id b hb hB => hT.B id b hb ((hR.B b).2 hB), hT.apart, fun b hb => ?_, hT.nil.mono hle, hT.gl.mono hle.I (fun _ _ => rfl)⟩,
              ⟨hR.keep, ⟨fun id s hs => ?_, hR.I, fun b hb => hb⟩, hR.Inew, fun b hb => hb, hR.onew⟩, fun id hid => by simp only [E2, if_pos hid]⟩
            · rcases hb with hb | hb
              · exact hT.Ilt b (.inl hb)
              · exact hT.Ilt b (.inr ((hR.B b).2 hb))
            · by_cases hid : id < 1000
              · simp only [E2, if_pos hid]; exact hs
              · have hz := (hnames id (by rw [hs]; simp)).resolve_left hid
                simp only [E2, if_neg hid, envF, hz]
                rw [← hents.nil id hz]; exact hs
      refine vc_ok (nt := fn.ntmps) hG hm (bodyC fn) hd [] none (rgOf (C.rw x)) E fp w [] (fun l hl => by cases hl) 0 2000 _ _ _ (bodyPostM (fence none) 0 P fn _) _ w (Nat.le_refl _) h
        ⟨E, fp, hst, fun id hne => by rcases hnames id hne with h | h; omega; exact (nilB_range h).2, From.refl E fp w (fun j i hj => ⟨(hrg j i hj).1, by have := (hrg j i hj).2; omega⟩), (fun _ _ h => by cases h), [], rfl, List.nodup_nil, fun _ h => by cases h⟩ ?_
      intro e nx' T' M' a' w' _ hk hh
      cases e with
      | normal => exact fin _ _ _ _ _ hk hh
      | ret => exact fin _ _ _ _ _ hk hh
      | _ => exact hk.elim
    · exact h.elim
  · exact h.elim

end
end Go.Eng
