/- The engine, part C: one operation; a region's operations, in whatever order the region allows. -/
import Derived.Test.YteckpdifeoffjaaDoorEngB
import Derived.OrdersIn
set_option linter.unusedVariables false
namespace Go.Eng

def fence (r : Option Nat) : Fence := { Fence.wide with round := r }
theorem fence_fn (r : Option Nat) (f : FuncId) : (fence r).fn f := trivial
theorem fence_depth (r : Option Nat) : (fence r).depth = none := rfl

def OpRun (r : Option Nat) (P : Program) (o : Oper) (a : Act) (w : World) (R : Value → World → Prop) : Prop :=
  o.wpIn (fence r) 0 P a w (fun a' w' => ∃ v, a' = a.put o.dst v ∧ R v w') (fun _ _ _ => False)

theorem OpRun.value {r : Option Nat} {P : Program} {o : Oper} {a : Act} {w w' : World} {R : Value → World → Prop} {v : Value} (hd : ∀ c, o.op ≠ .defer c)
    (h : (execOp a.eval o).run P w = .ok (.value v) w') (hR : R v w') : OpRun r P o a w R := by
  refine ⟨fun _ _ => fence_fn _ _, ?_⟩
  rw [Oper.semAt_eq _ _ _ hd, h]
  exact ⟨v, rfl, hR⟩

theorem OpRun.skip {r : Option Nat} {P : Program} {o : Oper} {a : Act} {w w' : World} {R : Value → World → Prop} (hd : ∀ c, o.op ≠ .defer c)
    (h : (execOp a.eval o).run P w = .ok .skip w') (hR : R undef w') : OpRun r P o a w R := by
  refine ⟨fun _ _ => fence_fn _ _, ?_⟩
  rw [Oper.semAt_eq _ _ _ hd, h]
  exact ⟨undef, rfl, hR⟩

theorem OpRun.enter {r : Option Nat} {P : Program} {o : Oper} {a : Act} {w w' : World} {R : Value → World → Prop} {f : FuncId} {args : Array Value} (hd : ∀ c, o.op ≠ .defer c)
    (h : (execOp a.eval o).run P w = .ok (.enter f args) w') (hR : CallsIn (fence none) 0 P f args w' fun e w'' => ∃ v, e = .returned v ∧ R v w'') : OpRun r P o a w R := by
  refine ⟨fun _ _ => fence_fn _ _, ?_⟩
  rw [Oper.semAt_eq _ _ _ hd, h]
  refine ⟨fun h => by simp [fence, Fence.wide] at h, ?_⟩
  have hR' : CallsIn (fence r) 0 P f args w' fun e w'' => ∃ v, e = .returned v ∧ R v w'' := hR
  exact CallsIn.mono hR' (fun e w'' he => by obtain ⟨v, rfl, hv⟩ := he; exact ⟨v, rfl, hv⟩)

theorem OpRun.round {r : Option Nat} {P : Program} {o : Oper} {a : Act} {w w' : World} {R : Value → World → Prop} {l : Nat} {f : FuncId} {tmps : Array Value} {as body : Code} (hd : ∀ c, o.op ≠ .defer c)
    (h : (execOp a.eval o).run P w = .ok (.round l f tmps as body) w') (hR : RoundIn (fence none) 0 P l f tmps as body w' fun e w'' => ∃ v, e = .returned v ∧ R v w'') : OpRun r P o a w R := by
  refine ⟨fun _ _ => fence_fn _ _, ?_⟩
  rw [Oper.semAt_eq _ _ _ hd, h]
  refine ⟨fun h => by simp [fence, Fence.wide] at h, ?_⟩
  have hR' : RoundIn (fence r) 0 P l f tmps as body w' fun e w'' => ∃ v, e = .returned v ∧ R v w'' := hR
  exact RoundIn.mono hR' (fun e w'' he => by obtain ⟨v, rfl, hv⟩ := he; exact ⟨v, rfl, hv⟩)

theorem OpRun.mono {r : Option Nat} {P : Program} {o : Oper} {a : Act} {w : World} {R R' : Value → World → Prop} (h : OpRun r P o a w R) (hR : ∀ v w', R v w' → R' v w') : OpRun r P o a w R' :=
  Oper.wpIn_mono (fun a' w' ⟨v, e, hv⟩ => ⟨v, e, hR v w' hv⟩) h

theorem OpRun.to {r : Option Nat} {P : Program} {o : Oper} {a : Act} {w : World} {R : Value → World → Prop} {K : Act → World → Prop} {Q : Exit → Act → World → Prop}
    (h : OpRun r P o a w R) (hK : ∀ v w', R v w' → K (a.put o.dst v) w') : o.wpIn (fence r) 0 P a w K Q := by
  unfold OpRun Oper.wpIn at *
  refine ⟨h.1, ?_⟩
  have hh := h.2
  generalize (o.semAt (fence r).round a.eval).run P w = q at *
  have go : ∀ a' w', (∃ v, a' = a.put o.dst v ∧ R v w') → K a' w' := fun a' w' ⟨v, e, hv⟩ => e ▸ hK v w' hv
  cases q with
  | ok x w' =>
    cases x <;> simp only [Oper.uponIn] at hh ⊢ <;>
      first
        | exact go _ _ hh
        | exact ⟨hh.1, CallsIn.mono hh.2 (fun e w'' he => by cases e <;> first | exact go _ _ he | exact he.elim | (obtain ⟨_, _, he⟩ := he; exact he.elim))⟩
        | exact ⟨hh.1, RowsIn.mono hh.2 (fun _ _ he => go _ _ he)⟩
        | exact ⟨hh.1, RoundIn.mono hh.2 (fun e w'' he => by cases e <;> first | exact go _ _ he | exact he.elim | (obtain ⟨_, _, he⟩ := he; exact he.elim))⟩
  | halt x w' => cases x <;> simp only [Oper.uponIn] at hh ⊢

/-- One operation, or its being passed over. -/
def OpStep (r : Option Nat) (P : Program) (ops : Array Oper) (o : Oper) (a : Act) (w : World) (R : Value → World → Prop) : Prop :=
  if Region.wanted o (yielded ops a.tmps) = true then OpRun r P o a w R else R undef w

theorem OpStep.mono {r : Option Nat} {P : Program} {ops : Array Oper} {o : Oper} {a : Act} {w : World} {R R' : Value → World → Prop} (h : OpStep r P ops o a w R)
    (hR : ∀ v w', R v w' → R' v w') : OpStep r P ops o a w R' := by
  unfold OpStep at *
  split
  · rename_i hw; rw [if_pos hw] at h; exact h.mono hR
  · rename_i hw; rw [if_neg hw] at h; exact hR _ _ h

theorem OpStep.to {r : Option Nat} {P : Program} {ops : Array Oper} {i : Nat} {o : Oper} (ho : ops[i]? = some o) {a : Act} {w : World} {R : Value → World → Prop} {K : Act → World → Prop} {Q : Exit → Act → World → Prop}
    (h : OpStep r P ops o a w R) (hK : ∀ v w', R v w' → K (a.put o.dst v) w') : wpOpIn (fence r) 0 P ops Q i K a w := by
  unfold OpStep at h
  unfold wpOpIn
  simp only [ho]
  split
  · rename_i hw; rw [if_pos hw] at h; exact h.to hK
  · rename_i hw; rw [if_neg hw] at h; exact ⟨fun _ _ => fence_fn _ _, hK _ _ h⟩

/-- What an operation did, in symbols. -/
structure Eff where
  rd : List Nat
  out : SV
  S : List Nat
  ci : List Nat
  eo : En

instance : Inhabited Eff := ⟨⟨[], .any, [], [], []⟩⟩

def putT (d : Option Nat) (x : SV) (T : Tm) : Tm := match d with | some t => (t, x) :: T | none => T

def LocOk (r : Option Nat) (P : Program) (ops : Array Oper) (o : Oper) (T : Tm) (M : En) (lo hi : Nat) (f : Eff) : Prop :=
  (∀ id, id ∈ f.ci → id ∈ f.S) ∧
  ∀ (E : Env) (fp : Nat → Nat → Prop) (a : Act) (w : World), (∀ t, t ∈ f.rd → Sat E w (look T t) (a.tmps.getD t undef)) → EntsSat E w fp (sub M f.S) →
    (∀ id, lo ≤ id → id < hi → E.slot id = none) →
    OpStep r P ops o a w fun v w' => ∃ E' fp', Sat E' w' f.out v ∧ EntsSat E' w' fp' (upd f.eo f.ci (sub M f.S)) ∧ Adv E fp w E' fp' w' ∧
      ∀ id, E'.slot id = E.slot id ∨ (lo ≤ id ∧ id < hi)

structure StSat (E : Env) (w : World) (fp : Nat → Nat → Prop) (a : Act) (nt : Nat) (T : Tm) (M : En) : Prop where
  sz : a.tmps.size = nt
  tm : ∀ t, Sat E w (look T t) (a.tmps.getD t undef)
  en : EntsSat E w fp M

theorem EntsSat.congr {E : Env} {w : World} {fp : Nat → Nat → Prop} {M M' : En} (h : EntsSat E w fp M) (he : ∀ id, find M' id = find M id) : EntsSat E w fp M' :=
  ⟨fun id => by rw [he]; exact h.sat id, h.lt, h.I, h.B, h.apart, h.Ilt, h.nil, h.gl⟩

theorem StSat.congr {E : Env} {w : World} {fp : Nat → Nat → Prop} {a : Act} {nt : Nat} {T T' : Tm} {M M' : En} (h : StSat E w fp a nt T M)
    (ht : ∀ t, look T' t = look T t) (he : ∀ id, find M' id = find M id) : StSat E w fp a nt T' M' :=
  ⟨h.sz, fun t => by rw [ht]; exact h.tm t, h.en.congr he⟩

theorem look_putT (d : Option Nat) (x : SV) (T : Tm) (t : Nat) : look (putT d x T) t = if d = some t then x else look T t := by
  cases d with
  | none => simp [putT]
  | some j =>
    by_cases h : j = t
    · subst h; simp [putT, look]
    · have hb : Nat.beq j t = false := by rw [← Bool.not_eq_true, Nat.beq_eq]; exact h
      simp [putT, look, hb, h]

theorem sub_congr {M M' : En} {S : List Nat} (h : ∀ id, id ∈ S → find M' id = find M id) : sub M' S = sub M S :=
  List.map_congr_left fun id hid => by rw [h id hid]

theorem put_getD (a : Act) (d : Option Nat) (v : Value) (t : Nat) (hd : ∀ j, d = some j → j < a.tmps.size) :
    (a.put d v).tmps.getD t undef = if d = some t then v else a.tmps.getD t undef := by
  cases d with
  | none => simp [Act.put]
  | some j =>
    have hj := hd j rfl
    by_cases h : j = t
    · subst h; simp [Act.put, hj]
    · simp [Act.put, Array.getElem?_setIfInBounds_ne h, h]

theorem put_size (a : Act) (d : Option Nat) (v : Value) : (a.put d v).tmps.size = a.tmps.size := by cases d <;> simp [Act.put]

/-- A step of one operation on the whole state. -/
theorem StSat.step {r : Option Nat} {P : Program} {ops : Array Oper} {o : Oper} {T Ti : Tm} {M Mi : En} {lo hi nt : Nat} {f : Eff} (hl : LocOk r P ops o Ti Mi lo hi f)
    {E : Env} {w : World} {fp : Nat → Nat → Prop} {a : Act} (h : StSat E w fp a nt T M) (ht : ∀ t, t ∈ f.rd → look T t = look Ti t) (hm : ∀ id, id ∈ f.S → find M id = find Mi id)
    (hdst : ∀ d, o.dst = some d → d < nt) (hfr : ∀ id, lo ≤ id → id < hi → E.slot id = none) :
    OpStep r P ops o a w fun v w' => ∃ E' fp', StSat E' w' fp' (a.put o.dst v) nt (putT o.dst f.out T) (upd f.eo f.ci M) ∧ Adv E fp w E' fp' w' ∧
      ∀ id, E'.slot id = E.slot id ∨ (lo ≤ id ∧ id < hi) := by
  have hsub : sub M f.S = sub Mi f.S := sub_congr hm
  refine (hl.2 E (only f.S fp) a w (fun t hr => by rw [← ht t hr]; exact h.tm t) (by rw [← hsub]; exact h.en.part f.S) hfr).mono ?_
  rintro v w' ⟨E', fp', hout, hents, hadv, hslot⟩
  rw [← hsub] at hents
  obtain ⟨g1, g2⟩ := h.en.frame hents hadv hl.1
  have hst : Stays E w w' := h.en.stays (g2.keep)
  refine ⟨E', _, ⟨by rw [put_size]; exact h.sz, fun t => ?_, g1⟩, g2, hslot⟩
  rw [look_putT, put_getD _ _ _ _ (fun j hj => by rw [h.sz]; exact hdst j hj)]
  split
  · exact hout
  · exact (h.tm t).mono g2.le hst

/-! ### Any order -/
section order
variable (dst : Nat → Option Nat) (ef : Nat → Eff) (T0 : Tm) (M0 : En)

/-- The state when those of D have been carried out. -/
def stD (D : Nat → Bool) : Nat → Tm × En
  | 0 => (T0, M0)
  | i + 1 => match D i with
    | true => (putT (dst i) (ef i).out (stD D i).1, upd (ef i).eo (ef i).ci (stD D i).2)
    | false => stD D i

def wrE (i : Nat) : List Nat := (ef i).ci ++ keys (ef i).eo

def Confl (i j : Nat) : Prop :=
  (∃ t, dst i = some t ∧ (t ∈ (ef j).rd ∨ dst j = some t)) ∨ (∃ t, dst j = some t ∧ t ∈ (ef i).rd) ∨
  (∃ id, id ∈ wrE ef i ∧ (id ∈ (ef j).S ∨ id ∈ wrE ef j)) ∨ (∃ id, id ∈ wrE ef j ∧ id ∈ (ef i).S)

variable {dst ef T0 M0}

theorem stD_look {D D' : Nat → Bool} {t : Nat} : ∀ (m : Nat), (∀ j, j < m → dst j = some t → D j = D' j) → look (stD dst ef T0 M0 D m).1 t = look (stD dst ef T0 M0 D' m).1 t
  | 0, _ => rfl
  | m + 1, h => by
    have ih := stD_look m (fun j hj => h j (by omega))
    have h1 := h m (by omega)
    simp only [stD]
    cases hD : D m <;> cases hD' : D' m <;> simp only [look_putT, ih]
    · split
      · rename_i e; rw [h1 e, hD'] at hD; cases hD
      · rfl
    · split
      · rename_i e; rw [h1 e, hD'] at hD; cases hD
      · rfl

theorem find_upd_other {eo : En} {ci : List Nat} {M : En} {id : Nat} (h : id ∉ ci ++ keys eo) : find (upd eo ci M) id = find M id := by
  rw [find_upd, if_neg (fun e => h (List.mem_append_right _ e)), if_neg (fun e => h (List.mem_append_left _ e))]

theorem find_upd_same {eo : En} {ci : List Nat} {M M' : En} {id : Nat} (h : id ∈ ci ++ keys eo) : find (upd eo ci M) id = find (upd eo ci M') id := by
  rw [find_upd, find_upd]
  by_cases h1 : id ∈ keys eo
  · simp [h1]
  · have h2 : id ∈ ci := (List.mem_append.1 h).resolve_right h1
    simp [h1, h2]

theorem stD_find {D D' : Nat → Bool} {id : Nat} : ∀ (m : Nat), (∀ j, j < m → id ∈ wrE ef j → D j = D' j) → find (stD dst ef T0 M0 D m).2 id = find (stD dst ef T0 M0 D' m).2 id
  | 0, _ => rfl
  | m + 1, h => by
    have ih := stD_find m (fun j hj => h j (by omega))
    have h1 := h m (by omega)
    simp only [stD]
    by_cases hw : id ∈ wrE ef m
    · have := h1 hw
      cases hD : D m
      · rw [hD] at this; rw [← this]; exact ih
      · rw [hD] at this; rw [← this]; exact find_upd_same hw
    · cases hD : D m <;> cases hD' : D' m <;> simp only [find_upd_other hw, ih]

theorem stD_look_ext {D : Nat → Bool} {t : Nat} (i : Nat) : ∀ (m : Nat), i ≤ m → (∀ j, i ≤ j → j < m → dst j = some t → D j = false) →
    look (stD dst ef T0 M0 D m).1 t = look (stD dst ef T0 M0 D i).1 t
  | 0, hm, _ => by obtain rfl : i = 0 := by omega
                   rfl
  | m + 1, hm, h => by
    rcases Nat.lt_or_ge m i with hlt | hge
    · obtain rfl : i = m + 1 := by omega
      rfl
    · have ih := stD_look_ext i m hge (fun j h1 h2 => h j h1 (by omega))
      have h1 := h m hge (by omega)
      rw [← ih]
      simp only [stD]
      cases hD : D m <;> simp only [look_putT]
      split
      · rename_i e; rw [h1 e] at hD; cases hD
      · rfl

theorem stD_find_ext {D : Nat → Bool} {id : Nat} (i : Nat) : ∀ (m : Nat), i ≤ m → (∀ j, i ≤ j → j < m → id ∈ wrE ef j → D j = false) →
    find (stD dst ef T0 M0 D m).2 id = find (stD dst ef T0 M0 D i).2 id
  | 0, hm, _ => by obtain rfl : i = 0 := by omega
                   rfl
  | m + 1, hm, h => by
    rcases Nat.lt_or_ge m i with hlt | hge
    · obtain rfl : i = m + 1 := by omega
      rfl
    · have ih := stD_find_ext i m hge (fun j h1 h2 => h j h1 (by omega))
      have h1 := h m hge (by omega)
      rw [← ih]
      simp only [stD]
      cases hD : D m
      · rfl
      · by_cases hw : id ∈ wrE ef m
        · rw [h1 hw] at hD; cases hD
        · exact find_upd_other hw

def ins (D : Nat → Bool) (i : Nat) : Nat → Bool := fun j => D j || j == i

theorem ins_same (D : Nat → Bool) (i : Nat) : ins D i i = true := by simp [ins]
theorem ins_ne (D : Nat → Bool) {i j : Nat} (h : j ≠ i) : ins D i j = D j := by simp [ins, h]

/-- What the ways to a state have in common: nothing that conflicts with i is out of its place. -/
def Placed (dst : Nat → Option Nat) (ef : Nat → Eff) (n : Nat) (D : Nat → Bool) (i : Nat) : Prop :=
  ∀ j, j < n → j ≠ i → Confl dst ef i j → (j < i → D j = true) ∧ (i < j → D j = false)

theorem look_ins {D : Nat → Bool} {n i : Nat} (hi : i < n) (hD : D i = false) (hp : Placed dst ef n D i) (t : Nat) :
    look (stD dst ef T0 M0 (ins D i) n).1 t = look (putT (dst i) (ef i).out (stD dst ef T0 M0 D n).1) t := by
  rw [look_putT]
  by_cases h : dst i = some t
  · rw [if_pos h]
    have e1 : look (stD dst ef T0 M0 (ins D i) n).1 t = look (stD dst ef T0 M0 (ins D i) (i + 1)).1 t :=
      stD_look_ext (i + 1) n hi (fun j h1 h2 h3 => by
        rw [ins_ne _ (by omega)]
        exact (hp j h2 (by omega) (.inl ⟨t, h, .inr h3⟩)).2 (by omega))
    rw [e1]
    simp only [stD, ins_same, look_putT, h, if_true]
  · rw [if_neg h]
    exact stD_look n (fun j _ hj => ins_ne _ (fun e => h (e ▸ hj)))

theorem find_ins {D : Nat → Bool} {n i : Nat} (hi : i < n) (hD : D i = false) (hp : Placed dst ef n D i) (id : Nat) :
    find (stD dst ef T0 M0 (ins D i) n).2 id = find (upd (ef i).eo (ef i).ci (stD dst ef T0 M0 D n).2) id := by
  by_cases h : id ∈ wrE ef i
  · have e1 : find (stD dst ef T0 M0 (ins D i) n).2 id = find (stD dst ef T0 M0 (ins D i) (i + 1)).2 id :=
      stD_find_ext (i + 1) n hi (fun j h1 h2 h3 => by
        rw [ins_ne _ (by omega)]
        exact (hp j h2 (by omega) (.inr (.inr (.inl ⟨id, h, .inr h3⟩)))).2 (by omega))
    rw [e1]
    simp only [stD, ins_same]
    exact find_upd_same h
  · rw [find_upd_other h]
    exact stD_find n (fun j _ hj => ins_ne _ (fun e => h (e ▸ hj)))

theorem look_at {D : Nat → Bool} {n i : Nat} (hi : i < n) (hD : D i = false) (hp : Placed dst ef n D i) {t : Nat} (ht : t ∈ (ef i).rd) :
    look (stD dst ef T0 M0 D n).1 t = look (stD dst ef T0 M0 (fun _ => true) i).1 t := by
  rw [stD_look_ext i n (by omega) (fun j h1 h2 h3 => by
    by_cases e : j = i
    · rw [e]; exact hD
    · exact (hp j h2 e (.inr (.inl ⟨t, h3, ht⟩))).2 (by omega))]
  exact stD_look i (fun j hj h3 => (hp j (by omega) (by omega) (.inr (.inl ⟨t, h3, ht⟩))).1 hj)

theorem find_at {D : Nat → Bool} {n i : Nat} (hi : i < n) (hD : D i = false) (hp : Placed dst ef n D i) {id : Nat} (ht : id ∈ (ef i).S) :
    find (stD dst ef T0 M0 D n).2 id = find (stD dst ef T0 M0 (fun _ => true) i).2 id := by
  rw [stD_find_ext i n (by omega) (fun j h1 h2 h3 => by
    by_cases e : j = i
    · rw [e]; exact hD
    · exact (hp j h2 e (.inr (.inr (.inr ⟨id, h3, ht⟩)))).2 (by omega))]
  exact stD_find i (fun j hj h3 => (hp j (by omega) (by omega) (.inr (.inr (.inr ⟨id, h3, ht⟩)))).1 hj)

end order

def dstOf (ops : Array Oper) (j : Nat) : Option Nat := (ops[j]?).bind (·.dst)

/-- A region's operations, each with what it does in the order of the text. -/
structure Traced (r : Option Nat) (P : Program) (ops : Array Oper) (nt base : Nat) (T0 : Tm) (M0 : En) (ef : Nat → Eff) : Prop where
  loc : ∀ (i : Nat) (o : Oper), ops[i]? = some o → LocOk r P ops o (stD (dstOf ops) ef T0 M0 (fun _ => true) i).1 (stD (dstOf ops) ef T0 M0 (fun _ => true) i).2
    (base + 16 * i) (base + 16 * i + 16) (ef i)
  dst : ∀ (i : Nat) (o : Oper) (d : Nat), ops[i]? = some o → o.dst = some d → d < nt

/-- The state that goes with D. -/
def AtD (ops : Array Oper) (nt base : Nat) (T0 : Tm) (M0 : En) (ef : Nat → Eff) (D : Nat → Bool) (E : Env) (fp : Nat → Nat → Prop) (a : Act) (w : World) : Prop :=
  StSat E w fp a nt (stD (dstOf ops) ef T0 M0 D ops.size).1 (stD (dstOf ops) ef T0 M0 D ops.size).2 ∧
  ∀ id, E.slot id ≠ none → id < base ∨ ∃ i, D i = true ∧ base + 16 * i ≤ id ∧ id < base + 16 * i + 16

theorem AtD.step {r : Option Nat} {P : Program} {ops : Array Oper} {nt base : Nat} {T0 : Tm} {M0 : En} {ef : Nat → Eff} (ht : Traced r P ops nt base T0 M0 ef)
    {D : Nat → Bool} {E : Env} {fp : Nat → Nat → Prop} {a : Act} {w : World} (h : AtD ops nt base T0 M0 ef D E fp a w) {i : Nat} {o : Oper} (ho : ops[i]? = some o) (hD : D i = false)
    (hp : Placed (dstOf ops) ef ops.size D i) :
    OpStep r P ops o a w fun v w' => ∃ E' fp', AtD ops nt base T0 M0 ef (ins D i) E' fp' (a.put o.dst v) w' ∧ Adv E fp w E' fp' w' ∧ ∀ id, id < base → E'.slot id = E.slot id := by
  have hi : i < ops.size := (Array.getElem?_eq_some_iff.1 ho).1
  have hdst : dstOf ops i = o.dst := by simp [dstOf, ho]
  refine (StSat.step (ht.loc i o ho) h.1 (fun t hr => look_at hi hD hp hr) (fun id hr => find_at hi hD hp hr) (fun d hd => ht.dst i o d ho hd) ?_).mono ?_
  · intro id h1 h2
    refine Classical.byContradiction fun hne => ?_
    rcases h.2 id hne with h3 | ⟨j, hj, h3, h4⟩
    · omega
    · obtain rfl : j = i := by omega
      rw [hD] at hj; cases hj
  · rintro v w' ⟨E', fp', hs, hadv, hslot⟩
    refine ⟨E', fp', ⟨hs.congr (fun t => ?_) (fun id => find_ins hi hD hp id), fun id hne => ?_⟩, hadv, fun id hlt => (hslot id).resolve_right (fun h => by omega)⟩
    · rw [look_ins hi hD hp t, hdst]
    · rcases hslot id with e | e
      · rw [e] at hne
        rcases h.2 id hne with h3 | ⟨j, hj, h3⟩
        · exact .inl h3
        · exact .inr ⟨j, by simp [ins, hj], h3⟩
      · exact .inr ⟨i, ins_same _ _, e⟩

/-- In the order of the text. -/
theorem run_text {r : Option Nat} {P : Program} {ops : Array Oper} {nt base : Nat} {T0 : Tm} {M0 : En} {ef : Nat → Eff} (ht : Traced r P ops nt base T0 M0 ef)
    {Q : Exit → Act → World → Prop} : ∀ (k : Nat) (i : Nat), i + k = ops.size → ∀ (E : Env) (fp : Nat → Nat → Prop) (a : Act) (w : World),
      AtD ops nt base T0 M0 ef (fun j => decide (j < i)) E fp a w →
      (∀ E' fp' a' w', AtD ops nt base T0 M0 ef (fun j => decide (j < ops.size)) E' fp' a' w' → Adv E fp w E' fp' w' → (∀ id, id < base → E'.slot id = E.slot id) → a'.defers = a.defers → Q .normal a' w') →
      wpOpsIn (fence r) 0 P ops Q (List.range' i k) a w
  | 0, i, hk, E, fp, a, w, h, hQ => by
    obtain rfl : i = ops.size := by omega
    exact hQ E fp a w h (.refl _ _ _) (fun _ _ => rfl) rfl
  | k + 1, i, hk, E, fp, a, w, h, hQ => by
    have hi : i < ops.size := by omega
    have ho : ops[i]? = some ops[i] := by simp [hi]
    have hins : ins (fun j => decide (j < i)) i = fun j => decide (j < i + 1) := by
      funext j
      by_cases e : j = i
      · subst e; simp [ins]
      · rw [ins_ne _ e]
        by_cases hj : j < i
        · simp [hj]; omega
        · simp [hj]; omega
    rw [List.range'_succ, wpOpsIn_cons]
    refine (AtD.step ht h ho (by simp) ?_).to ho ?_
    · intro j hj hne _
      exact ⟨fun h1 => by simp [h1], fun h1 => by simp; omega⟩
    · rintro v w' ⟨E', fp', hs, hadv, hsl⟩
      rw [hins] at hs
      refine run_text ht k (i + 1) (by omega) E' fp' _ w' hs (fun E2 fp2 a2 w2 h2 hadv2 hsl2 hdf => hQ E2 fp2 a2 w2 h2 (hadv.trans hadv2) (fun id hid => (hsl2 id hid).trans (hsl id hid)) ?_)
      rw [hdf]; cases (ops[i]).dst <;> rfl

/-! ### The check: whatever conflicts is in order -/

def edgesOk : Nat → List Oper → Bool
  | _, [] => true
  | n, o :: l => o.after.toList.all (fun e => !Region.binds .any e || Nat.blt e.on n) && edgesOk (n + 1) l

def maskOf (acc : List Nat) : List Edge → Nat
  | [] => 0
  | e :: l => match Region.binds .any e with
    | true => Nat.lor (Nat.lor (Nat.shiftLeft 1 e.on) (acc.getD e.on 0)) (maskOf acc l)
    | false => maskOf acc l

def masks : List Nat → List Oper → List Nat
  | acc, [] => acc
  | acc, o :: l => masks (acc ++ [maskOf acc o.after.toList]) l

/-- What an operation touched. -/
structure Tch where
  rd : List Nat
  wr : Option Nat
  S : List Nat
  W : List Nat

def memB (i : Nat) : List Nat → Bool
  | [] => false
  | j :: l => match Nat.beq j i with | true => true | false => memB i l
def anyB (l m : List Nat) : Bool := match l with | [] => false | i :: l => match memB i m with | true => true | false => anyB l m
def dstB (d : Option Nat) (l : List Nat) : Bool := match d with | none => false | some t => memB t l
def sameB (d e : Option Nat) : Bool := match d, e with | some t, some s => Nat.beq t s | _, _ => false
def conflB (p q : Tch) : Bool := dstB p.wr q.rd || sameB p.wr q.wr || dstB q.wr p.rd || anyB p.W q.S || anyB p.W q.W || anyB q.W p.S

def raceRow (m : Nat) (q : Tch) : Nat → List Tch → Bool
  | _, [] => true
  | k, p :: l => (match conflB p q with | true => Nat.testBit m k | false => true) && raceRow m q (k + 1) l

/-- prev: those ahead, in order. -/
def raceGo : List Tch → List Tch → List Nat → Bool
  | prev, q :: l, m :: ms => raceRow m q 0 prev && raceGo (prev ++ [q]) l ms
  | _, [], _ => true
  | _, _ :: _, [] => false

def raceOk (ops : List Oper) (tr : List Tch) : Bool := edgesOk 0 ops && raceGo [] tr (masks [] ops)

theorem memB_iff {i : Nat} {l : List Nat} : memB i l = true ↔ i ∈ l := by
  induction l with
  | nil => simp [memB]
  | cons j l ih =>
    simp only [memB, List.mem_cons]
    by_cases h : j = i
    · subst h; simp
    · have hb : Nat.beq j i = false := by rw [← Bool.not_eq_true, Nat.beq_eq]; exact h
      have h' : ¬ i = j := fun e => h e.symm
      simp [hb, ih, h']
theorem anyB_iff {l m : List Nat} : anyB l m = true ↔ ∃ i, i ∈ l ∧ i ∈ m := by
  induction l with
  | nil => simp [anyB]
  | cons j l ih =>
    simp only [anyB]
    cases h : memB j m
    · have : j ∉ m := fun e => by rw [memB_iff.2 e] at h; cases h
      simp [ih, this]
    · simp [memB_iff.1 h]

theorem raceRow_spec {m : Nat} {q : Tch} : ∀ (k : Nat) (l : List Tch), raceRow m q k l = true → ∀ i p, l[i]? = some p → conflB p q = true → Nat.testBit m (k + i) = true
  | k, [], _, i, p, hi, _ => by simp at hi
  | k, p0 :: l, h, i, p, hi, hc => by
    simp only [raceRow, Bool.and_eq_true] at h
    cases i with
    | zero =>
      obtain rfl : p0 = p := by simpa using hi
      have h1 := h.1; rw [hc] at h1; exact h1
    | succ i =>
      have := raceRow_spec (k + 1) l h.2 i p (by simpa using hi) hc
      rw [show k + (i + 1) = k + 1 + i by omega]; exact this

theorem raceGo_spec : ∀ (l prev : List Tch) (ms : List Nat), raceGo prev l ms = true → ∀ j q, l[j]? = some q → ∀ i p, (prev ++ l)[i]? = some p → i < prev.length + j → conflB p q = true →
    ∃ m, ms[j]? = some m ∧ Nat.testBit m i = true
  | [], prev, ms, _, j, q, hj, _, _, _, _, _ => by simp at hj
  | q0 :: l, prev, [], h, _, _, _, _, _, _, _, _ => by simp [raceGo] at h
  | q0 :: l, prev, m :: ms, h, j, q, hj, i, p, hi, hlt, hc => by
    simp only [raceGo, Bool.and_eq_true] at h
    cases j with
    | zero =>
      obtain rfl : q0 = q := by simpa using hj
      have hi' : prev[i]? = some p := by rw [List.getElem?_append_left (by simpa using hlt)] at hi; exact hi
      have := raceRow_spec 0 prev h.1 i p hi' hc
      exact ⟨m, by simp, by simpa using this⟩
    | succ j =>
      have hi' : ((prev ++ [q0]) ++ l)[i]? = some p := by simpa using hi
      obtain ⟨m', h1, h2⟩ := raceGo_spec l (prev ++ [q0]) ms h.2 j q (by simpa using hj) i p hi' (by simp; omega) hc
      exact ⟨m', by simpa using h1, h2⟩

theorem edgesOk_spec : ∀ (l : List Oper) (n : Nat), edgesOk n l = true → ∀ i o, l[i]? = some o → ∀ e ∈ o.after, Region.binds .any e = true → e.on < n + i
  | [], n, _, i, o, hi, _, _, _ => by simp at hi
  | o0 :: l, n, h, i, o, hi, e, he, hb => by
    simp only [edgesOk, Bool.and_eq_true] at h
    cases i with
    | zero =>
      obtain rfl : o0 = o := by simpa using hi
      have := List.all_eq_true.1 h.1 e (by simpa using he)
      rw [hb] at this
      simp [Nat.blt] at this
      omega
    | succ i =>
      have := edgesOk_spec l (n + 1) h.2 i o (by simpa using hi) e he hb
      omega

theorem maskOf_spec {acc : List Nat} {i : Nat} : ∀ (l : List Edge), Nat.testBit (maskOf acc l) i = true → ∃ e ∈ l, Region.binds .any e = true ∧ (e.on = i ∨ Nat.testBit (acc.getD e.on 0) i = true)
  | [], h => by simp [maskOf] at h
  | e :: l, h => by
    simp only [maskOf] at h
    cases hb : Region.binds .any e with
    | false =>
      rw [hb] at h
      obtain ⟨e', h1, h2⟩ := maskOf_spec l h
      exact ⟨e', List.mem_cons_of_mem _ h1, h2⟩
    | true =>
      rw [hb] at h
      simp only at h
      change Nat.testBit (((1 <<< e.on) ||| acc.getD e.on 0) ||| maskOf acc l) i = true at h
      rw [Nat.testBit_or, Nat.testBit_or, Bool.or_eq_true, Bool.or_eq_true] at h
      rcases h with (h | h) | h
      · refine ⟨e, List.mem_cons_self .., hb, .inl ?_⟩
        rw [Nat.testBit_shiftLeft] at h
        simp only [Bool.and_eq_true, decide_eq_true_eq] at h
        have h2 := h.2
        have : i - e.on = 0 := by
          cases hz : i - e.on with
          | zero => rfl
          | succ z => rw [hz] at h2; simp [Nat.testBit_succ] at h2
        omega
      · exact ⟨e, List.mem_cons_self .., hb, .inr h⟩
      · obtain ⟨e', h1, h2⟩ := maskOf_spec l h
        exact ⟨e', List.mem_cons_of_mem _ h1, h2⟩

theorem masks_spec : ∀ (l : List Oper) (acc : List Nat), (∀ j, j < acc.length → (masks acc l)[j]? = acc[j]?) ∧
    ∀ i o, l[i]? = some o → ∃ acc', (masks acc l)[acc.length + i]? = some (maskOf acc' o.after.toList) ∧ ∀ j, j < acc.length + i → acc'[j]? = (masks acc l)[j]? ∧ acc'.length = acc.length + i
  | [], acc => ⟨fun _ _ => rfl, fun i o hi => by simp at hi⟩
  | o0 :: l, acc => by
    obtain ⟨h1, h2⟩ := masks_spec l (acc ++ [maskOf acc o0.after.toList])
    refine ⟨fun j hj => ?_, fun i o hi => ?_⟩
    · simp only [masks]
      rw [h1 j (by simp; omega), List.getElem?_append_left hj]
    · simp only [masks]
      cases i with
      | zero =>
        obtain rfl : o0 = o := by simpa using hi
        refine ⟨acc, ?_, fun j hj => ⟨?_, rfl⟩⟩
        · rw [Nat.add_zero, h1 acc.length (by simp)]; simp
        · rw [h1 j (by simp; omega), List.getElem?_append_left (by omega)]
      | succ i =>
        obtain ⟨acc', h3, h4⟩ := h2 i o (by simpa using hi)
        have e : (acc ++ [maskOf acc o0.after.toList]).length + i = acc.length + (i + 1) := by simp; omega
        rw [e] at h3 h4
        exact ⟨acc', h3, h4⟩

/-- What has been carried out holds all that it waits for, at whatever remove. -/
theorem closed_mask {ops : Array Oper} {D : Nat → Bool} (he : edgesOk 0 ops.toList = true) (hc : ∀ j o, ops[j]? = some o → D j = true → ∀ e ∈ o.after, Region.binds .any e = true → D e.on = true) :
    ∀ (j : Nat) (o : Oper) (m : Nat) (i : Nat), ops[j]? = some o → (∀ e ∈ o.after, Region.binds .any e = true → D e.on = true) → (masks [] ops.toList)[j]? = some m → Nat.testBit m i = true → D i = true := by
  intro j
  induction j using Nat.strongRecOn with
  | _ j ih =>
    intro o m i ho hdep hm hbit
    have hol : ops.toList[j]? = some o := by simpa using ho
    obtain ⟨acc', h1, h2⟩ := (masks_spec ops.toList []).2 j o hol
    simp only [List.length_nil, Nat.zero_add] at h1 h2
    rw [h1] at hm
    obtain rfl := Option.some.inj hm
    obtain ⟨e, hem, hb, hor⟩ := maskOf_spec _ hbit
    have hem' : e ∈ o.after := by simpa using hem
    have hlt := edgesOk_spec ops.toList 0 he j o hol e hem' hb
    have hDe := hdep e hem' hb
    rcases hor with rfl | hor
    · exact hDe
    · obtain ⟨h3, h4⟩ := h2 e.on (by omega)
      have hlen : e.on < ops.size := by
        have := (Array.getElem?_eq_some_iff.1 ho).1; omega
      have hoe : ops[e.on]? = some ops[e.on] := by simp [hlen]
      cases hacc : acc'[e.on]? with
      | none => rw [List.getElem?_eq_none_iff] at hacc; omega
      | some m' =>
        have hg : acc'.getD e.on 0 = m' := by simp [List.getD, hacc]
        rw [hg] at hor
        exact ih e.on (by omega) ops[e.on] m' i hoe (hc _ _ hoe hDe) (by rw [← h3]; exact hacc) hor

/-- The touches of a trace. -/
def tchOf (o : Oper) (f : Eff) : Tch := ⟨f.rd, o.dst, f.S, f.ci ++ keys f.eo⟩

theorem conflB_of {dst : Nat → Option Nat} {ef : Nat → Eff} {i j : Nat} {oi oj : Oper} (hi : dst i = oi.dst) (hj : dst j = oj.dst) (h : Confl dst ef i j) :
    conflB (tchOf oi (ef i)) (tchOf oj (ef j)) = true ∧ conflB (tchOf oj (ef j)) (tchOf oi (ef i)) = true := by
  unfold conflB tchOf
  unfold Confl wrE at h
  rcases h with ⟨t, h1, h2 | h2⟩ | ⟨t, h1, h2⟩ | ⟨id, h1, h2 | h2⟩ | ⟨id, h1, h2⟩
  · rw [hi] at h1; simp [dstB, h1, memB_iff.2 h2]
  · rw [hi] at h1; rw [hj] at h2; simp [sameB, h1, h2]
  · rw [hj] at h1; simp [dstB, h1, memB_iff.2 h2]
  · simp [anyB_iff.2 ⟨id, h1, h2⟩]
  · simp [anyB_iff.2 ⟨id, h1, h2⟩, anyB_iff.2 ⟨id, h2, h1⟩]
  · simp [anyB_iff.2 ⟨id, h1, h2⟩]

theorem confl_symm {dst : Nat → Option Nat} {ef : Nat → Eff} {i j : Nat} (h : Confl dst ef i j) : Confl dst ef j i := by
  rcases h with ⟨t, h1, h2 | h2⟩ | ⟨t, h1, h2⟩ | ⟨id, h1, h2 | h2⟩ | ⟨id, h1, h2⟩
  · exact .inr (.inl ⟨t, h1, h2⟩)
  · exact .inl ⟨t, h2, .inr h1⟩
  · exact .inl ⟨t, h1, .inl h2⟩
  · exact .inr (.inr (.inr ⟨id, h1, h2⟩))
  · exact .inr (.inr (.inl ⟨id, h2, .inr h1⟩))
  · exact .inr (.inr (.inl ⟨id, h1, .inl h2⟩))

theorem placed_of {ops : Array Oper} {ef : Nat → Eff} {tr : List Tch} (htr : ∀ i o, ops[i]? = some o → tr[i]? = some (tchOf o (ef i))) (hr : raceOk ops.toList tr = true)
    {D : Nat → Bool} (hc : ∀ j o, ops[j]? = some o → D j = true → ∀ e ∈ o.after, Region.binds .any e = true → D e.on = true)
    {i : Nat} {o : Oper} (ho : ops[i]? = some o) (hD : D i = false) (hdep : ∀ e ∈ o.after, Region.binds .any e = true → D e.on = true) : Placed (dstOf ops) ef ops.size D i := by
  simp only [raceOk, Bool.and_eq_true] at hr
  intro j hj hne hcf
  have hoj : ops[j]? = some ops[j] := by simp [hj]
  have hdi : dstOf ops i = o.dst := by simp [dstOf, ho]
  have hdj : dstOf ops j = (ops[j]).dst := by simp [dstOf, hoj]
  obtain ⟨hb1, hb2⟩ := conflB_of hdi hdj hcf
  refine ⟨fun hlt => ?_, fun hlt => ?_⟩
  · obtain ⟨m, h1, h2⟩ := raceGo_spec tr [] _ hr.2 i _ (htr i o ho) j _ (by simpa using htr j _ hoj) (by simpa using hlt) hb2
    exact closed_mask hr.1 hc i o m j ho hdep h1 h2
  · obtain ⟨m, h1, h2⟩ := raceGo_spec tr [] _ hr.2 j _ (htr j _ hoj) i _ (by simpa using htr i o ho) (by simpa using hlt) hb1
    cases hDj : D j with
    | false => rfl
    | true =>
      have := closed_mask hr.1 hc j _ m i hoj (hc j _ hoj hDj) h1 h2
      rw [hD] at this; cases this

theorem countFalse_set {l : List Bool} {i : Nat} (h : l[i]? = some false) : (l.set i true).countP (fun b => !b) + 1 = l.countP (fun b => !b) := by
  induction l generalizing i with
  | nil => simp at h
  | cons b l ih =>
    cases i with
    | zero => obtain rfl : b = false := by simpa using h
              simp
    | succ i =>
      have := ih (i := i) (by simpa using h)
      simp only [List.set_cons_succ, List.countP_cons]
      omega

/-- In whatever order the region allows. -/
theorem run_any {r : Option Nat} {P : Program} {ops : Array Oper} {nt base : Nat} {T0 : Tm} {M0 : En} {ef : Nat → Eff} (ht : Traced r P ops nt base T0 M0 ef) {tr : List Tch}
    (htr : ∀ i o, ops[i]? = some o → tr[i]? = some (tchOf o (ef i))) (hr : raceOk ops.toList tr = true)
    {Q : Exit → Act → World → Prop} : ∀ (k : Nat) (listed : Array Bool), listed.size = ops.size → listed.toList.countP (fun b => !b) = k →
      (∀ j o, ops[j]? = some o → listed.getD j false = true → ∀ e ∈ o.after, Region.binds .any e = true → listed.getD e.on false = true) →
      ∀ (E : Env) (fp : Nat → Nat → Prop) (a : Act) (w : World), AtD ops nt base T0 M0 ef (fun j => listed.getD j false) E fp a w →
      (∀ E' fp' a' w' D, (∀ j, j < ops.size → D j = true) → (∀ j, ops.size ≤ j → D j = false) → AtD ops nt base T0 M0 ef D E' fp' a' w' → Adv E fp w E' fp' w' → (∀ id, id < base → E'.slot id = E.slot id) → a'.defers = a.defers → Q .normal a' w') →
      wpAnyIn (fence r) 0 P .any ops Q k listed a w := by
  have hedge : edgesOk 0 ops.toList = true := by simp only [raceOk, Bool.and_eq_true] at hr; exact hr.1
  intro k
  induction k with
  | zero =>
    intro listed hsz hcount hc E fp a w h hQ
    have hall : ∀ j, j < ops.size → listed.getD j false = true := fun j hj => by
      have h0 := List.countP_eq_zero.1 hcount (listed.getD j false) (by
        have : j < listed.size := by omega
        simp [this])
      simpa using h0
    refine ⟨?_, hQ E fp a w _ hall (fun j hj => by simp [Array.getD]; omega) h (.refl _ _ _) (fun _ _ => rfl) rfl⟩
    rw [List.eq_nil_iff_forall_not_mem]
    intro i hi
    obtain ⟨h1, o, h2, _⟩ := mem_ready.1 hi
    have hlt := (Array.getElem?_eq_some_iff.1 h2).1
    have h3 := hall i hlt
    have : i < listed.size := by omega
    simp [this] at h1 h3
    rw [h3] at h1; cases h1
  | succ k ih =>
    intro listed hsz hcount hc E fp a w h hQ
    refine ⟨fun hnil => ?_, fun i hi => ?_⟩
    · exfalso
      -- the first one that is not listed is ready
      have : ∃ j, j < ops.size ∧ listed.getD j false = false := by
        refine Classical.byContradiction fun hn => ?_
        have : listed.toList.countP (fun b => !b) = 0 := by
          rw [List.countP_eq_zero]
          intro b hb
          obtain ⟨j, hj, rfl⟩ := List.mem_iff_getElem.1 hb
          have hj' : j < listed.size := by simpa using hj
          have h2 : ¬ (listed.getD j false = false) := fun e => hn ⟨j, by omega, e⟩
          simp [hj'] at h2
          simpa using h2
        omega
      obtain ⟨j, hj⟩ := this
      have key : ∀ j, j < ops.size ∧ listed.getD j false = false → False := by
        intro j
        induction j using Nat.strongRecOn with
        | _ j ih2 =>
          intro ⟨hj, hl⟩
          have hoj : ops[j]? = some ops[j] := by simp [hj]
          have hmem : j ∈ Region.ready .any ops listed := mem_ready.2 ⟨by
            have hj' : j < listed.size := by omega
            simp [hj'] at hl ⊢; exact hl, ops[j], hoj, fun e he hb => by
            have hlt := edgesOk_spec ops.toList 0 hedge j ops[j] (by simp [hj]) e he hb
            cases hle : listed.getD e.on false with
            | true => rfl
            | false => exact (ih2 e.on (by omega) ⟨by omega, hle⟩).elim⟩
          rw [hnil] at hmem; cases hmem
      exact key j hj
    · obtain ⟨hun, o, ho, hdep⟩ := mem_ready.1 hi
      have hlt := (Array.getElem?_eq_some_iff.1 ho).1
      have hlt' : i < listed.size := by omega
      have hun' : listed.getD i false = false := by simp [hlt'] at hun ⊢; exact hun
      have hins : ins (fun j => listed.getD j false) i = fun j => (listed.setIfInBounds i true).getD j false := by
        funext j
        by_cases e : j = i
        · subst e; simp [ins, hlt']
        · rw [ins_ne _ e]; simp [Array.getElem?_setIfInBounds_ne (Ne.symm e)]
      refine (AtD.step ht h ho hun' (placed_of htr hr hc ho hun' hdep)).to ho ?_
      rintro v w' ⟨E', fp', hs, hadv, hsl⟩
      rw [hins] at hs
      refine ih (listed.setIfInBounds i true) (by simpa using hsz) ?_ ?_ E' fp' _ w' hs ?_
      · have := countFalse_set (l := listed.toList) (i := i) (by simp [hlt'] at hun' ⊢; exact hun')
        simp only [Array.toList_setIfInBounds]
        omega
      · intro j oj hoj hl e he hb
        by_cases h1 : e.on = i
        · rw [h1]; simp [hlt']
        · have h2 : (listed.setIfInBounds i true).getD e.on false = listed.getD e.on false := by simp [Array.getElem?_setIfInBounds_ne (Ne.symm h1)]
          rw [h2]
          by_cases h3 : j = i
          · subst h3
            obtain rfl : o = oj := Option.some.inj (ho.symm.trans hoj)
            exact hdep e he hb
          · have h4 : (listed.setIfInBounds i true).getD j false = listed.getD j false := by simp [Array.getElem?_setIfInBounds_ne (Ne.symm h3)]
            rw [h4] at hl
            exact hc j oj hoj hl e he hb
      · intro E2 fp2 a2 w2 D hD hD2 h2 hadv2 hsl2 hdf
        refine hQ E2 fp2 a2 w2 D hD hD2 h2 (hadv.trans hadv2) (fun id hid => (hsl2 id hid).trans (hsl id hid)) ?_
        rw [hdf]; cases o.dst <;> rfl

end Go.Eng
