/- The engine, part R: a range over a function. -/
import Derived.Test.YteckpdifeoffjaaDoorEngN
import Derived.RangeFuncRecord
set_option linter.unusedVariables false
namespace Go.Eng

/-- The conditions of a text suffice. -/
def VOk (P : Program) (G : Nat → Option Ctr) (An : List Nat → Nat → Option AN) (nt : Nat) (c : Code) : Prop :=
  ∀ (ms : List Nat) (r : Option Nat) (rg : Mp) (E0 : Env) (fp0 : Nat → Nat → Prop) (w0 : World) (df : List (Nat × Obj)), (∀ l, r = some l → ∃ rec, (l, Obj.loop rec) ∈ df) →
    ∀ (cur nx : Nat) (T : Tm) (M : En) (K : VK) (Q : Exit → Act → World → Prop) (a : Act) (w : World), 2000 ≤ nx →
    vc P G An c ms rg cur nx T M K → Here rg E0 fp0 w0 nt df nx T M a w →
    (∀ e nx' T' M' a' w', 2000 ≤ nx' → K e nx' T' M' → Here rg E0 fp0 w0 nt df nx' T' M' a' w' → Q e a' w') → c.wpIn (fence r) 0 P Q a w

/-! ### Names that are among rg -/

def restr (E : Env) (rg : List Nat) : Env := ⟨fun j => if j ∈ rg then E.slot j else none, E.I, E.B⟩

theorem restr_le {E E' : Env} {rg : List Nat} (hs : ∀ j, j ∈ rg → E'.slot j = E.slot j) (hI : ∀ b, E.I b → E'.I b) (hB : ∀ b, E.B b → E'.B b) : (restr E rg).le E' :=
  ⟨fun id s h => (by
    simp only [restr] at h
    split at h
    · rename_i hm; rw [hs id hm]; exact h
    · exact absurd h (by simp)), hI, hB⟩

theorem restr_slot {E : Env} {rg : List Nat} {i : Nat} (h : memB i rg = true) : (restr E rg).slot i = E.slot i := by simp [restr, memB_iff.1 h]

theorem in_sat {E : Env} {w : World} {rg : List Nat} : ∀ n, (∀ s v, inS n rg s = true → Sat E w s v → Sat (restr E rg) w s v) ∧
    (∀ l, inL n rg l = true → ∀ (j : Nat) (s : SV), l[j]? = some s → ∀ v, Sat E w s v → Sat (restr E rg) w s v) := by
  intro n
  induction n with
  | zero => exact ⟨fun s v h => by simp [inS] at h, fun l h => by simp [inL] at h⟩
  | succ n ih =>
    obtain ⟨ih1, ih2⟩ := ih
    refine ⟨fun s v h hs => ?_, fun l h => ?_⟩
    · unfold inS at h
      cases hs with
      | v => exact .v _
      | any => exact .any _
      | ptr id off s h1 => exact .ptr id off s ((restr_slot h).trans h1)
      | unkB p b hp => exact .unkB p b hp
      | elp id sz i off s h1 o n c hv => exact .elp id sz i off s ((restr_slot h).trans h1) o n c hv
      | rop b cs off k o u hb hc hs => exact .rop b cs off k o u hb hc (fun j sv hj => ih2 cs h j sv hj _ (hs j sv hj))
      | sl id s h1 => exact .sl id s ((restr_slot h).trans h1)
      | slc id off len cap s h1 => exact .slc id off len cap s ((restr_slot h).trans h1)
      | nil b t A c => exact .nil b t A c
      | ro b t xs k o c u hb hle hc hs => exact .ro b t xs k o c u hb hle hc (fun i x j sv hi hj => (enc_move (E := E) (E' := restr E rg) (fun b hb => hb) t).1 x j sv _ hj (hs i x j sv hi hj))
      | agg l vs u hl hu hs => exact .agg l vs u hl hu (fun j sv hj => ih2 l h j sv hj _ (hs j sv hj))
      | tuple l vs u hl hu hs => exact .tuple l vs u hl hu (fun j sv hj => ih2 l h j sv hj _ (hs j sv hj))
      | func fn f c vf vc uf uc hf hc huf huc hsf hsc =>
        dsimp only at h
        split at h
        · rename_i h1
          exact .func fn f c vf vc uf uc hf hc huf huc (fun j sv hj => ih2 f h1 j sv hj _ (hsf j sv hj)) (fun j sv hj => ih2 c h j sv hj _ (hsc j sv hj))
        · cases h
    · intro j s hj v hv
      unfold inL at h
      cases l with
      | nil => simp at hj
      | cons x l =>
        dsimp only at h
        split at h
        · rename_i h1
          cases j with
          | zero =>
            obtain rfl : x = s := by simpa using hj
            exact ih1 _ v h1 hv
          | succ j => exact ih2 l h j s (by simpa using hj) v hv
        · cases h

theorem inT_sat {E : Env} {w : World} {rg : List Nat} : ∀ {T : Tm}, inT rg T = true → ∀ t v, Sat E w (look T t) v → Sat (restr E rg) w (look T t) v
  | [], _, t, v, _ => .any v
  | (j, s) :: T, h, t, v, hv => by
    unfold inT at h
    split at h
    · rename_i h1
      simp only [look] at hv ⊢
      split
      · rename_i hb; rw [hb] at hv; exact (in_sat 200).1 s v h1 hv
      · rename_i hb; rw [hb] at hv; exact inT_sat h t v hv
    · cases h

theorem ltB_spec {n : Nat} : ∀ {l : List Nat}, ltB n l = true → ∀ i, i ∈ l → i < n
  | [], _, i, hi => by cases hi
  | j :: l, h, i, hi => by
    unfold ltB at h
    split at h
    · rename_i hb
      rcases List.mem_cons.1 hi with rfl | hi
      · exact Nat.le_of_ble_eq_true hb
      · exact ltB_spec h i hi
    · cases h

theorem idM_some : ∀ {l : List Nat} {j i : Nat}, mlook (idM l) j = some i → i = j ∧ j ∈ l
  | [], j, i, h => by cases h
  | k :: l, j, i, h => by
    simp only [idM] at h
    rw [mlook_cons] at h
    split at h
    · rename_i e; subst e; exact ⟨(Option.some.inj h).symm, List.mem_cons_self ..⟩
    · exact ⟨(idM_some h).1, List.mem_cons_of_mem _ (idM_some h).2⟩
theorem idM_mem : ∀ {l : List Nat} {j : Nat}, j ∈ l → mlook (idM l) j = some j
  | k :: l, j, h => by
    simp only [idM]
    rw [mlook_cons]
    split
    · rename_i e; subst e; rfl
    · rename_i e; exact idM_mem ((List.mem_cons.1 h).resolve_left (fun h' => e h'.symm))

theorem goesB_succ {g : Nat → Bool} {k : Nat} (h : goesB g k = true) : goesB g (k + 1) = g k := by simp [goesB, h]
theorem liveB_goes {n : Nat} {g : Nat → Bool} {k : Nat} (h : liveB n g k = true) : goesB g k = true := by
  unfold liveB at h; split at h; exact h; cases h
theorem goesB_iff {g : Nat → Bool} : ∀ {k : Nat}, goesB g k = true ↔ ∀ j, j < k → g j = true
  | 0 => ⟨fun _ j hj => by omega, fun _ => rfl⟩
  | k + 1 => by
    unfold goesB
    cases h : goesB g k with
    | true =>
      have := (goesB_iff (g := g) (k := k)).1 h
      exact ⟨fun hg j hj => by
        rcases Nat.lt_or_ge j k with h1 | h1
        · exact this j h1
        · obtain rfl : j = k := by omega
          exact hg, fun hg => hg k (by omega)⟩
    | false => exact ⟨fun h => (by cases h), fun hg => by
        have := (goesB_iff (g := g) (k := k)).2 (fun j hj => hg j (by omega))
        rw [h] at this; cases this⟩
theorem liveB_iff {n : Nat} {g : Nat → Bool} {k : Nat} : liveB n g k = true ↔ k < n ∧ ∀ j, j < k → g j = true := by
  unfold liveB
  cases h : Nat.blt k n with
  | true => exact ⟨fun hg => ⟨Nat.le_of_ble_eq_true h, goesB_iff.1 hg⟩, fun hg => goesB_iff.2 hg.2⟩
  | false => exact ⟨fun h => (by cases h), fun ⟨hg, _⟩ => by
      have : Nat.blt k n = true := Nat.ble_eq_true_of_le hg
      rw [h] at this; cases this⟩

/-! ### The parameters -/

def setL (tmps : Array Value) : List (Nat × Value) → Array Value
  | [] => tmps
  | (t, v) :: l => setL (tmps.setIfInBounds t v) l

theorem setL_foldl (ps : Array Nat) (vals : Array Value) (tmps : Array Value) : (ps.zip vals).foldl (fun tmps (t, a) => tmps.setIfInBounds t a) tmps = setL tmps (ps.toList.zip vals.toList) := by
  rw [← Array.foldl_toList, Array.toList_zip]
  generalize ps.toList.zip vals.toList = l
  induction l generalizing tmps with
  | nil => rfl
  | cons p l ih => simp only [List.foldl_cons, setL]; exact ih _

theorem setPs_len : ∀ {ps : List Nat} {ss : List SV} {T T' : Tm}, setPs ps ss T = some T' → ps.length = ss.length
  | [], [], _, _, _ => rfl
  | p :: ps, s :: ss, T, T', h => by simp only [setPs] at h; simp only [List.length_cons, setPs_len h]
  | [], _ :: _, _, _, h => by cases h
  | _ :: _, [], _, _, h => by cases h

theorem setPs_sat {E : Env} {w : World} {nt : Nat} : ∀ (ps : List Nat) (ss : List SV) (vals : List Value) {T T' : Tm} {tmps : Array Value}, setPs ps ss T = some T' → vals.length = ss.length → (∀ p, p ∈ ps → p < nt) →
    (∀ (j : Nat) (s : SV), ss[j]? = some s → Sat E w s (vals.getD j undef)) → tmps.size = nt → (∀ t, Sat E w (look T t) (tmps.getD t undef)) →
    (setL tmps (ps.zip vals)).size = nt ∧ ∀ t, Sat E w (look T' t) ((setL tmps (ps.zip vals)).getD t undef)
  | [], [], vals, T, T', tmps, h, _, _, _, hz, hT => by
    obtain rfl := Option.some.inj h
    exact ⟨hz, hT⟩
  | p :: ps, s :: ss, vals, T, T', tmps, h, hl, hp, hv, hz, hT => by
    cases vals with
    | nil => simp at hl
    | cons v vals =>
      simp only [setPs] at h
      simp only [List.zip_cons_cons, setL]
      refine setPs_sat ps ss vals h (by simpa using hl) (fun q hq => hp q (List.mem_cons_of_mem _ hq)) (fun j s' hj => by simpa using hv (j + 1) s' (by simpa using hj)) (by simpa using hz) (fun t => ?_)
      rw [look_putT]
      by_cases e : p = t
      · subst e
        rw [if_pos rfl]
        have hlt : p < tmps.size := by rw [hz]; exact hp p (List.mem_cons_self ..)
        have : (tmps.setIfInBounds p v).getD p undef = v := by simp [Array.getD, hlt]
        rw [this]
        simpa using hv 0 s rfl
      · rw [if_neg (fun h => e (Option.some.inj h))]
        have : (tmps.setIfInBounds p v).getD t undef = tmps.getD t undef := by
          simp only [Array.getD_eq_getD_getElem?]
          rw [Array.getElem?_setIfInBounds_ne e]
        rw [this]
        exact hT t
  | [], _ :: _, _, _, _, _, h, _, _, _, _, _ => by cases h
  | _ :: _, [], _, _, _, _, h, _, _, _, _, _ => by cases h

/-! ### The caller's side of a range -/

def jumpC : Exit → Option Code
  | .exit j => some (.exit j)
  | .ret => some .ret
  | _ => none

/-- The record behind k rounds. -/
def recAt (R : RA) (x : R.X) (rec : Loop) (k : Nat) : Loop :=
  { rec with state := if goesB (R.goes x) k = true then .ready else .done, pending := if goesB (R.goes x) k = true then none else jumpC (R.jump x (k - 1)) }

/-- His state ahead of round k. -/
def ranS (R : RA) (x : R.X) (E0 : Env) (w1 : World) (rec : Loop) (l : Nat) (k : Nat) (J fp : Nat → Prop) (w : World) : Prop :=
  ∃ (E : Env) (fpm : Nat → Nat → Prop) (V : Nat → Prop), w.heap[l]? = some (.loop (recAt R x rec k)) ∧ EntsSat E w fpm (R.M x k) ∧ (∀ b, E.I b ↔ E0.I b ∨ J b ∨ V b) ∧ (∀ b, E.B b ↔ E0.B b) ∧
    (∀ b, fp b ↔ b = l ∨ own fpm b ∨ V b) ∧ (∀ j, j ∈ R.rg → E.slot j = E0.slot j) ∧ (∀ id, E.slot id ≠ none → id < 2000) ∧ (¬ own fpm l ∧ ¬ E.I l ∧ ¬ E.B l) ∧
    (∀ b, E0.I b ∨ E0.B b → w.heap[b]? = w1.heap[b]?)

def ranY (R : RA) (x : R.X) (E0 : Env) (w1 : World) (rec : Loop) (l : Nat) : Yld :=
  { args := R.args x, goes := R.goes x, live := liveB (R.n x) (R.goes x), F := fun b => E0.I b ∨ E0.B b, S := ranS R x E0 w1 rec l }

theorem ranS_stay {R : RA} {x : R.X} {E0 : Env} {w1 : World} {rec : Loop} {l k : Nat} {J fp : Nat → Prop} {w w' : World} (h : ranS R x E0 w1 rec l k J fp w) (hz : w.heap.size ≤ w'.heap.size)
    (hs : ∀ b, fp b ∨ (E0.I b ∨ E0.B b) ∨ J b → w'.heap[b]? = w.heap[b]?) : ranS R x E0 w1 rec l k J fp w' := by
  obtain ⟨E, fpm, V, hl, hents, hEI, hEB, hfp, hslot, hlt, hno, hst⟩ := h
  have hfrz : ∀ b, E.I b ∨ E.B b → w'.heap[b]? = w.heap[b]? := fun b hb => by
    rcases hb with hb | hb
    · rcases (hEI b).1 hb with h1 | h1 | h1
      · exact hs b (.inr (.inl (.inl h1)))
      · exact hs b (.inr (.inr h1))
      · exact hs b (.inl ((hfp b).2 (.inr (.inr h1))))
    · exact hs b (.inr (.inl (.inr ((hEB b).1 hb))))
  have hown : ∀ id b, fpm id b → w'.heap[b]? = w.heap[b]? := fun id b hb => hs b (.inl ((hfp b).2 (.inr (.inl ⟨id, hb⟩))))
  refine ⟨E, fpm, V, (hs l (.inl ((hfp l).2 (.inl rfl)))).trans hl, ⟨fun id => (hents.sat id).mono (.refl E) (fun b hb _ => hfrz b hb) hz (fun b hb => hown id b hb), fun id b hb => Nat.lt_of_lt_of_le (hents.lt id b hb) hz, hents.I, hents.B, hents.apart,
    fun b hb => Nat.lt_of_lt_of_le (hents.Ilt b hb) hz, hents.nil, hents.glob (fun b hb _ => hfrz b hb) (fun _ h => h)⟩, hEI, hEB, hfp, hslot, hlt, hno, fun b hb => (hs b (.inr (.inl hb))).trans (hst b hb)⟩

theorem fence_inRound (r : Option Nat) (l : Nat) : (fence r).inRound l = fence (some l) := rfl

/-- The record turns. -/
theorem Here.put {rg : Mp} {E0 : Env} {fp0 : Nat → Nat → Prop} {w0 : World} {nt l : Nat} {o o' : Obj} {nx : Nat} {T : Tm} {M : En} {a : Act} {w : World} (h : Here rg E0 fp0 w0 nt [(l, o)] nx T M a w) (hl0 : l < w0.heap.size) (hown : own fp0 l) :
    Here rg E0 fp0 w0 nt [(l, o')] nx T M a (w.putObj l o') := by
  obtain ⟨E, fp, hs, hnx, hf, hh⟩ := h
  obtain ⟨h1, h2, h3, h4⟩ := hh.side l o (List.mem_singleton.2 rfl)
  have hlt := (Array.getElem?_eq_some_iff.1 h1).1
  have hoth : ∀ b, b ≠ l → (w.putObj l o').heap[b]? = w.heap[b]? := fun b hb => World.putObj_heap_other hb
  have hst : Stays E w (w.putObj l o') := fun b hb _ => hoth b (fun e => by subst e; exact hb.elim h3 h4)
  have hz : (w.putObj l o').heap.size = w.heap.size := World.putObj_size
  refine ⟨E, fp, ⟨hs.sz, fun t => (hs.tm t).mono (.refl E) hst, ⟨fun id => (hs.en.sat id).mono (.refl E) hst (by omega) (fun b hb => hoth b (fun e => by subst e; exact h2 ⟨id, hb⟩)), fun id b hb => by rw [hz]; exact hs.en.lt id b hb, hs.en.I, hs.en.B, hs.en.apart,
    fun b hb => by rw [hz]; exact hs.en.Ilt b hb, hs.en.nil, hs.en.glob hst (fun _ h => h)⟩⟩, hnx, ⟨⟨hf.keep.os, ⟨hf.keep.tape.tape⟩, hf.keep.output, by rw [hz]; exact hf.keep.size, fun b hb hn => (hoth b (fun e => by subst e; exact hn hown)).trans (hf.keep.same b hb hn)⟩, hf.I, hf.Inew, hf.B, hf.onew, hf.slot⟩,
    fun b o2 hb => ?_, ?_⟩
  · obtain ⟨rfl, rfl⟩ := Prod.mk.inj (List.mem_singleton.1 hb)
    exact ⟨World.putObj_heap_same hlt, h2, h3, h4⟩
  · obtain ⟨ds, e1, e2, e3⟩ := hh.marks
    refine ⟨ds, e1, e2, fun b hb => ?_⟩
    obtain ⟨g0, g1, g2⟩ := e3 b hb
    exact ⟨g0, (hoth b (fun e => by omega)).trans g1, g2⟩

section
variable {P : Program} {G : Nat → Option Ctr} {An : List Nat → Nat → Option AN} {nt : Nat}

/-- He keeps his word. -/
theorem ranY_ok {R : RA} {x : R.X} {E0 : Env} {w1 : World} {rec : Loop} {l cur : Nat} {ms : List Nat} {ca cb : Code} (iha : VOk P G An nt ca) (ihb : VOk P G An nt cb) (hps : ∀ p, p ∈ rec.params.toList → p < nt) (hrec : rec.assign = ca ∧ rec.body = cb) (hsz : rec.tmps.size = nt)
    (hrg : ltB 1983 R.rg = true) (hT : ∀ t, Sat (restr E0 R.rg) w1 (look (R.T x) t) (rec.tmps.getD t undef)) (hIlt : ∀ b, E0.I b ∨ E0.B b → b < w1.heap.size)
    (h : ∀ k, liveB (R.n x) (R.goes x) k = true → match setPs rec.params.toList (R.args x k) (R.T x) with
      | some T' => vc P G An ca (k :: ms) (idM R.rg) cur 2000 T' (R.M x k) fun e nx T M => match e with
        | .normal => vc P G An cb (k :: ms) (idM R.rg) cur nx T M (roundK R x k)
        | _ => False
      | none => False) : YOk P l (ranY R x E0 w1 rec l) := by
  have hidm : ∀ j i, mlook (idM R.rg) j = some i → i = j ∧ j < 1984 := fun j i hj => by
    obtain ⟨h1, h2⟩ := idM_some hj
    have := ltB_spec hrg j h2
    exact ⟨h1, by omega⟩
  refine ⟨fun k J fp w w' hS hz hs => ranS_stay hS hz hs, fun k J fp I w vals hlive hS hI hJI hF hfplt hvs hvals => ?_⟩
  have hlive : liveB (R.n x) (R.goes x) k = true := hlive
  have hS : ranS R x E0 w1 rec l k J fp w := hS
  have hF : ∀ b, E0.I b ∨ E0.B b → b < w.heap.size ∧ ¬ fp b := hF
  have hvs : vals.size = (R.args x k).length := hvs
  have hvals : ∀ (j : Nat) (s : SV), (R.args x k)[j]? = some s → Sat (bareE I) w s (vals.getD j undef) := hvals
  have h := h k hlive
  have hg := liveB_goes hlive
  obtain ⟨E, fpm, V, hl, hents, hEI, hEB, hfp, hslot, hlt, ⟨hno, hnI, hnB⟩, hst⟩ := hS
  split at h
  · rename_i T' hsp
    have hplen := setPs_len hsp
    have hrdy : recAt R x rec k = { rec with state := .ready, pending := none } := by simp [recAt, hg]
    rw [hrdy] at hl
    refine ⟨_, _, _, _, run_yield hl (by simp only [hvs, ← hplen, Array.length_toList]), roundIn_of_wpIn trivial ?_⟩
    rw [fence_inRound]
    simp only
    rw [setL_foldl, hrec.1, hrec.2]
    -- the round's environment
    let Er : Env := ⟨E.slot, fun b => E.I b ∨ I b, E.B⟩
    let fp0 : Nat → Nat → Prop := fun id b => fpm id b ∨ (id = 0 ∧ b = l)
    have hle : E.le Er := ⟨fun _ _ h => h, fun _ h => .inl h, fun _ h => h⟩
    have hfl : fp l := (hfp l).2 (.inl rfl)
    have hown0 : ∀ b, own fp0 b → fp b := fun b ⟨id, hb⟩ => (hfp b).2 (hb.elim (fun h => .inr (.inl ⟨id, h⟩)) (fun h => .inl h.2))
    have hlown : own fp0 l := ⟨0, .inr ⟨rfl, rfl⟩⟩
    have hllt : l < w.heap.size := hfplt l hfl
    have hents' : EntsSat Er w fpm (R.M x k) := ⟨fun id => (hents.sat id).mono hle (fun _ _ _ => rfl) (Nat.le_refl _) (fun _ _ => rfl), hents.lt, fun id b hb hI' => hI'.elim (hents.I id b hb) (fun h1 => (hI b h1).2 ((hfp b).2 (.inr (.inl ⟨id, hb⟩)))), hents.B, hents.apart,
      fun b hb => by
        rcases hb with (hb | hb) | hb
        · exact hents.Ilt b (.inl hb)
        · exact (hI b hb).1
        · exact hents.Ilt b (.inr hb), hents.nil.mono hle, hents.gl.mono hle.I (fun _ _ => rfl)⟩
    have hres : (restr E0 R.rg).le Er := restr_le (fun j hj => hslot j hj) (fun b hb => .inl ((hEI b).2 (.inl hb))) (fun b hb => (hEB b).2 hb)
    have hstay : Stays (restr E0 R.rg) w1 w := fun b hb _ => hst b hb
    have hbare : (bareE I).le Er := ⟨fun j s hj => (by
      simp only [bareE] at hj
      split at hj
      · rename_i hz; obtain rfl := Option.some.inj hj; exact hents.nil j hz
      · exact absurd hj (by simp)), fun b hb => .inr hb, fun b hb => hb.elim⟩
    obtain ⟨hz', hT'⟩ := setPs_sat (E := Er) (w := w) (nt := nt) rec.params.toList (R.args x k) vals.toList hsp (by simpa using hvs) hps (fun j s hj => by
      have h1 := (hvals j s hj).mono hbare (fun _ _ _ => rfl)
      have e : vals.toList.getD j undef = vals.getD j undef := by simp [Array.getD_eq_getD_getElem?]
      rw [e]; exact h1) hsz (fun t => (hT t).mono hres hstay)
    have here0 : Here (idM R.rg) Er fp0 w nt [(l, .loop { rec with state := .ready, pending := none })] 2000 T' (R.M x k) { tmps := setL rec.tmps (rec.params.toList.zip vals.toList), defers := [] } w := by
      refine ⟨Er, fpm, ⟨hz', hT', hents'⟩, hlt, ⟨.refl _ _, fun _ h => h, fun _ h => .inl h, fun _ => Iff.rfl, fun id b hb => .inl ⟨id, .inl hb⟩, fun j i hj => ⟨(hidm j i hj).1, (hidm j i hj).2, rfl⟩⟩, ⟨fun b o hb => ?_, [], rfl, by simp, fun b hb => by cases hb⟩⟩
      obtain ⟨rfl, rfl⟩ := Prod.mk.inj (List.mem_singleton.1 hb)
      exact ⟨hl, hno, fun h1 => h1.elim hnI (fun h2 => (hI _ h2).2 hfl), hnB⟩
    -- the end of a round
    have fin : ∀ (jump : Option Code) (a' : Act) (w' : World), R.goes x k = jump.isNone → (R.goes x k = false → jumpC (R.jump x k) = jump) → Here (idM R.rg) Er fp0 w nt [(l, .loop { rec with state := .busy, pending := none })] 2000 [] (R.M x (k + 1)) a' w' →
        ∃ v w'', (Instr.endRound l jump).run P w' = .ok v w'' ∧ ((Ending.returned v) = .returned (.bool (R.goes x k)) ∧ ∃ J' fp', ranS R x E0 w1 rec l (k + 1) J' fp' w'' ∧ Keep fp w w'' ∧ (∀ b, J' b → I b) ∧ (∀ b, fp' b → fp b ∨ w.heap.size ≤ b) ∧ ∀ b, fp' b → b < w''.heap.size) := by
      intro jump a' w' hgo hju hh
      obtain ⟨E1, fp1, hs, hnx, hf, hd⟩ := hh
      obtain ⟨k1, k2, k3, k4⟩ := hd.side l _ (List.mem_singleton.2 rfl)
      have hlt' := (Array.getElem?_eq_some_iff.1 k1).1
      refine ⟨_, _, run_endRound jump k1, by rw [hgo], ?_⟩
      have hoth : ∀ b o, b ≠ l → (w'.putObj l o).heap[b]? = w'.heap[b]? := fun b o hb => World.putObj_heap_other hb
      let V' : Nat → Prop := fun b => E1.I b ∧ ¬ E0.I b ∧ ¬ I b
      have hgs := goesB_succ (g := R.goes x) hg
      have hrecE : recAt R x rec (k + 1) = { rec with state := if jump.isNone then .ready else .done, pending := jump } := by
        unfold recAt
        rw [hgs]
        cases jump with
        | none => simp only [hgo, Option.isNone_none, if_true]
        | some c =>
          have h1 : R.goes x k = false := hgo
          have h2 := hju h1
          simp only [h1, Option.isNone_some, Bool.false_eq_true, if_false, Nat.add_sub_cancel, h2]
      have hIof : ∀ b, E0.I b → E1.I b := fun b hb => hf.I b (.inl ((hEI b).2 (.inl hb)))
      have hIIof : ∀ b, I b → E1.I b := fun b hb => hf.I b (.inr hb)
      have hV' : ∀ b, V' b → fp b ∨ w.heap.size ≤ b := fun b ⟨h1, h2, h3⟩ => by
        rcases hf.Inew b h1 with h4 | h4 | h4
        · rcases h4 with h4 | h4
          · rcases (hEI b).1 h4 with h5 | h5 | h5
            · exact absurd h5 h2
            · exact absurd (hJI b h5) h3
            · exact .inl ((hfp b).2 (.inr (.inr h5)))
          · exact absurd h4 h3
        · exact .inl (hown0 b h4)
        · exact .inr h4
      have hst' : Stays E1 w' (w'.putObj l (.loop { rec with state := if jump.isNone then .ready else .done, pending := jump })) := fun b hb _ => hoth b _ (fun e => by subst e; exact hb.elim k3 k4)
      have hz2 : (w'.putObj l (.loop { rec with state := if jump.isNone then .ready else .done, pending := jump })).heap.size = w'.heap.size := World.putObj_size
      refine ⟨I, fun b => b = l ∨ own fp1 b ∨ V' b, ⟨E1, fp1, V', ?_, ⟨fun id => (hs.en.sat id).mono (.refl E1) hst' (Nat.le_of_eq hz2.symm) (fun b hb => hoth b _ (fun e => by subst e; exact k2 ⟨id, hb⟩)), fun id b hb => by rw [hz2]; exact hs.en.lt id b hb, hs.en.I, hs.en.B, hs.en.apart, fun b hb => by rw [hz2]; exact hs.en.Ilt b hb, hs.en.nil, hs.en.glob hst' (fun _ h => h)⟩,
        fun b => ⟨fun hb => ?_, fun hb => ?_⟩, fun b => (hf.B b).trans (hEB b), fun b => Iff.rfl, fun j hj => ?_, hnx, ⟨k2, k3, k4⟩, fun b hb => ?_⟩, ⟨hf.keep.os, ⟨hf.keep.tape.tape⟩, hf.keep.output, by rw [hz2]; exact hf.keep.size, fun b hb hn => ?_⟩, fun b hb => hb, fun b hb => ?_, fun b hb => ?_⟩
      · rw [hrecE]; exact World.putObj_heap_same hlt'
      · by_cases h1 : E0.I b
        · exact .inl h1
        · by_cases h2 : I b
          · exact .inr (.inl h2)
          · exact .inr (.inr ⟨hb, h1, h2⟩)
      · rcases hb with hb | hb | hb
        · exact hIof b hb
        · exact hIIof b hb
        · exact hb.1
      · obtain ⟨_, _, h3⟩ := hf.slot j j (idM_mem hj)
        exact h3.trans (hslot j hj)
      · have hfb : ¬ fp b := (hF b hb).2
        have hbl : b ≠ l := fun e => hfb (e ▸ hfl)
        exact (hoth b _ hbl).trans ((hf.keep.same b (hF b hb).1 (fun ho => hfb (hown0 b ho))).trans (hst b hb))
      · have hbl : b ≠ l := fun e => hn (e ▸ hfl)
        exact (hoth b _ hbl).trans (hf.keep.same b hb (fun ho => hn (hown0 b ho)))
      · rcases hb with rfl | ⟨id, hb⟩ | hb
        · exact .inl hfl
        · exact (hf.onew id b hb).imp (hown0 b) (fun h => h)
        · exact hV' b hb
      · rw [hz2]
        rcases hb with rfl | ⟨id, hb⟩ | hb
        · exact hlt'
        · exact hs.en.lt id b hb
        · exact hs.en.Ilt b (.inl hb.1)
    refine iha (k :: ms) (some l) (idM R.rg) Er fp0 w _ (fun l' hl' => ⟨_, by obtain rfl := Option.some.inj hl'; exact List.mem_singleton.2 rfl⟩) cur 2000 T' (R.M x k) _ _ _ w (Nat.le_refl _) h here0 ?_
    intro e nx' T2 M2 a' w' hnx' hk hh
    cases e with
    | normal =>
      have hh1 := hh
      obtain ⟨E1, fp1, _, _, _, hd⟩ := hh1
      obtain ⟨k1, _⟩ := hd.side l _ (List.mem_singleton.2 rfl)
      refine ⟨_, run_beginRound k1 rfl, ?_⟩
      refine ihb (k :: ms) (some l) (idM R.rg) Er fp0 w _ (fun l' hl' => ⟨_, by obtain rfl := Option.some.inj hl'; exact List.mem_singleton.2 rfl⟩) cur nx' T2 M2 (roundK R x k) _ _ _ hnx' hk (hh.put hllt hlown) ?_
      intro e nx3 T3 M3 a3 w3 _ hk3 hh3
      cases e with
      | normal =>
        obtain ⟨hgo, hk3⟩ := hk3
        obtain ⟨_, hh4⟩ := matSt_ok hk3 hh3
        exact fin none a3 w3 (by simp [hgo]) (fun h1 => by rw [hgo] at h1; cases h1) hh4
      | exit j =>
        obtain ⟨⟨hgo, hju⟩, hk3⟩ := hk3
        obtain ⟨_, hh4⟩ := matSt_ok hk3 hh3
        exact fin (some (.exit j)) a3 w3 (by simp [hgo]) (fun _ => by rw [hju]; rfl) hh4
      | ret =>
        obtain ⟨⟨hgo, hju⟩, hk3⟩ := hk3
        obtain ⟨_, hh4⟩ := matSt_ok hk3 hh3
        exact fin (some .ret) a3 w3 (by simp [hgo]) (fun _ => by rw [hju]; rfl) hh4
      | goto l => exact hk3.elim
      | panic ch => exact hk3.elim
      | outgrown => exact hk3.elim
    | exit j => exact hk.elim
    | ret => exact hk.elim
    | goto l => exact hk.elim
    | panic ch => exact hk.elim
    | outgrown => exact hk.elim
  · exact h.elim

end
end Go.Eng
