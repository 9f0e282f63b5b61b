/- The engine, part H: each operation does what is said of it. -/
import Derived.Test.YteckpdifeoffjaaDoorEngG
set_option linter.unusedVariables false
namespace Go.Eng

def LocRun (r : Option Nat) (P : Program) (o : Oper) (T : Tm) (M : En) (lo hi : Nat) (f : Eff) : Prop :=
  (∀ id, id ∈ f.ci → id ∈ f.S) ∧
  ∀ (E : Env) (fp : Nat → Nat → Prop) (a : Act) (w : World), (∀ t, t ∈ f.rd → Sat E w (look T t) (a.tmps.getD t undef)) → EntsSat E w fp (sub M f.S) →
    (∀ id, lo ≤ id → id < hi → E.slot id = none) →
    OpRun r P o a w fun v w' => ∃ E' fp', Sat E' w' f.out v ∧ EntsSat E' w' fp' (upd f.eo f.ci (sub M f.S)) ∧ Adv E fp w E' fp' w' ∧
      ∀ id, E'.slot id = E.slot id ∨ (lo ≤ id ∧ id < hi)

def opsOf (o : Oper) : List Nat := opTmps o.op.operands.toList

theorem upd_nil (M : En) : upd [] [] M = M := by simp [upd, gones]

theorem loc_pure {r : Option Nat} {P : Program} {o : Oper} {T : Tm} {M : En} {lo hi : Nat} {rd : List Nat} {out : SV} {S : List Nat} (hd : ∀ c, o.op ≠ .defer c)
    (h : ∀ (E : Env) (fp : Nat → Nat → Prop) (a : Act) (w : World), (∀ t, t ∈ rd → Sat E w (look T t) (a.tmps.getD t undef)) → EntsSat E w fp (sub M S) →
      ∃ v, (execOp a.eval o).run P w = .ok (.value v) w ∧ Sat E w out v) : LocRun r P o T M lo hi ⟨rd, out, S, [], []⟩ :=
  ⟨(fun id hid => by cases hid), fun E fp a w hrd hents _ =>
    let ⟨v, h1, h2⟩ := h E fp a w hrd hents
    OpRun.value hd h1 ⟨E, fp, h2, (by rw [upd_nil]; exact hents), .refl _ _ _, fun id => .inl rfl⟩⟩

theorem opTmps_mem {l : List Operand} {t : Nat} (h : Operand.tmp t ∈ l) : t ∈ opTmps l := by
  induction l with
  | nil => cases h
  | cons x l ih =>
    rcases List.mem_cons.1 h with rfl | h'
    · simp [opTmps]
    · cases x <;> simp only [opTmps] <;> first | exact List.mem_cons_of_mem _ (ih h') | exact ih h'

theorem list_sat_v {E : Env} {w : World} {l : List Value} {j : Nat} {sv : SV} (h : (l.map SV.v)[j]? = some sv) : ∃ x, l[j]? = some x ∧ sv = .v x := by
  rw [List.getElem?_map] at h
  cases hx : l[j]? with
  | none => rw [hx] at h; cases h
  | some x => rw [hx] at h; exact ⟨x, rfl, (Option.some.inj h).symm⟩

theorem evC_sat {E : Env} {w : World} (v : Value) : Sat E w (evC v) v := by
  cases v with
  | agg cs =>
    refine .agg _ cs (fun j => cs.getD j undef) (by simp) (fun j hj => ?_) (fun j sv hj => ?_)
    · have : j < cs.size := by simpa using hj
      simp [this]
    · obtain ⟨x, h1, rfl⟩ := list_sat_v (E := E) (w := w) hj
      have hlt : j < cs.size := by
        have := (List.getElem?_eq_some_iff.1 h1).1; simpa using this
      have : cs.getD j undef = x := by
        rw [Array.getElem?_toList] at h1
        simp [h1]
      rw [this]; exact .v x
  | _ => exact .v _

theorem ev_sat {E : Env} {w : World} {T : Tm} {a : Act} {l : List Operand} (h : ∀ t, t ∈ opTmps l → Sat E w (look T t) (a.tmps.getD t undef)) {x : Operand} (hx : x ∈ l) : Sat E w (ev T x) (a.eval x) := by
  cases x with
  | tmp t => exact h t (opTmps_mem hx)
  | const v => exact evC_sat v
  | global g => exact .v _
  | func f => exact .func _ [] [] #[] #[] (fun _ => undef) (fun _ => undef) rfl rfl (fun j hj => by cases hj) (fun j hj => by cases hj) (fun j sv hj => by simp at hj) (fun j sv hj => by simp at hj)

theorem force_spec {s : SV} {K : SV → Prop} (h : force s K) : K s := by cases s <;> exact h

theorem nth_eq : ∀ (l : List SV) (n : Nat), nth l n = l[n]?
  | [], _ => rfl
  | _ :: _, 0 => rfl
  | _ :: l, n + 1 => by simp [nth, nth_eq l n]

theorem find_sub_in {M : En} {S : List Nat} {i : Nat} (h : i ∈ S) : find (sub M S) i = find M i := by rw [find_sub, if_pos h]

/-! ### Parts -/

theorem partV_load {P : Program} {t : TypeId} {cs : List SV} {off : Nat} {K : SV → Prop} (h : partV P t cs off K) : ∃ out, K out ∧
    ∀ (E : Env) (w : World) (k o : Nat), (∀ (j : Nat) (sv : SV), cs[j]? = some sv → ∃ u, w.cell? ⟨k, o + j, none⟩ = some u ∧ Sat E w sv u) →
      ∃ v, (loadVar t ⟨k, o + off, none⟩).run P w = .ok v w ∧ Sat E w out v := by
  unfold partV at h
  cases ha : aggOf P t with
  | none => rw [ha] at h; exact h.elim
  | some b =>
    rw [ha] at h
    cases b with
    | false =>
      dsimp only at h
      rw [nth_eq] at h
      cases hn : cs[off]? with
      | none => rw [hn] at h; exact h.elim
      | some s =>
        rw [hn] at h
        refine ⟨s, force_spec h, fun E w k o hc => ?_⟩
        obtain ⟨u, hu, hs⟩ := hc off s hn
        exact ⟨u, run_loadVar_scalar ha hu, hs⟩
    | true =>
      dsimp only at h
      cases hz : szOf P t with
      | none => rw [hz] at h; exact h.elim
      | some n =>
        rw [hz] at h
        dsimp only at h
        cases hcut : cutS cs off n with
        | none => rw [hcut] at h; exact h.elim
        | some l =>
          rw [hcut] at h
          refine ⟨_, h, fun E w k o hc => ?_⟩
          obtain ⟨c1, c2⟩ := cutS_spec cs off n l hcut
          have hget : ∀ j, j < n → ∃ sv, l[j]? = some sv ∧ cs[off + j]? = some sv := fun j hj => by
            have hlt : j < l.length := by omega
            exact ⟨l[j], by simp [hlt], by rw [c2 j hj]; simp [hlt]⟩
          have hu : ∀ j, j < n → w.cell? ⟨k, (o + off) + j, none⟩ = some ((w.cell? ⟨k, (o + off) + j, none⟩).getD undef) := fun j hj => by
            obtain ⟨sv, _, h2⟩ := hget j hj
            obtain ⟨u, hu, _⟩ := hc _ _ h2
            rw [Nat.add_assoc, hu]; rfl
          obtain ⟨vs, h1, h2, h3⟩ := run_loadVar_agg (P := P) ha hz (k := k) (o := o + off) (u := fun j => (w.cell? ⟨k, (o + off) + j, none⟩).getD undef) hu
          refine ⟨_, h1, .agg l vs _ (by omega) (fun j hj => h3 j (by omega)) (fun j sv hj => ?_)⟩
          have hlt := (List.getElem?_eq_some_iff.1 hj).1
          obtain ⟨sv', e1, e2⟩ := hget j (by omega)
          obtain rfl := Option.some.inj (hj.symm.trans e1)
          obtain ⟨u, hu, hs⟩ := hc _ _ e2
          rw [Nat.add_assoc, hu]; exact hs

theorem partV_part {P : Program} {t : TypeId} {cs : List SV} {off : Nat} {K : SV → Prop} (h : partV P t cs off K) : ∃ out, K out ∧
    ∀ (E : Env) (w : World) (vs : Array Value), (∀ (j : Nat) (sv : SV), cs[j]? = some sv → ∃ u, vs[j]? = some u ∧ Sat E w sv u) → vs.size = cs.length →
      ∃ v, (part t vs off).run P w = .ok v w ∧ Sat E w out v := by
  unfold partV at h
  cases ha : aggOf P t with
  | none => rw [ha] at h; exact h.elim
  | some b =>
    rw [ha] at h
    cases b with
    | false =>
      dsimp only at h
      rw [nth_eq] at h
      cases hn : cs[off]? with
      | none => rw [hn] at h; exact h.elim
      | some s =>
        rw [hn] at h
        refine ⟨s, force_spec h, fun E w vs hc _ => ?_⟩
        obtain ⟨u, hu, hs⟩ := hc off s hn
        refine ⟨u, ?_, hs⟩
        unfold part
        rw [run_then (run_isAgg ha w)]
        simp [hu]
    | true =>
      dsimp only at h
      cases hz : szOf P t with
      | none => rw [hz] at h; exact h.elim
      | some n =>
        rw [hz] at h
        dsimp only at h
        cases hcut : cutS cs off n with
        | none => rw [hcut] at h; exact h.elim
        | some l =>
          rw [hcut] at h
          refine ⟨_, h, fun E w vs hc hsz => ?_⟩
          obtain ⟨c1, c2⟩ := cutS_spec cs off n l hcut
          have hget : ∀ j, j < n → ∃ sv u, l[j]? = some sv ∧ vs[off + j]? = some u ∧ Sat E w sv u := fun j hj => by
            have hlt : j < l.length := by omega
            obtain ⟨u, hu, hs⟩ := hc (off + j) l[j] (by rw [c2 j hj]; simp [hlt])
            exact ⟨l[j], u, by simp [hlt], hu, hs⟩
          refine ⟨.agg (vs.extract off (off + n)), ?_, .agg l _ (fun j => vs.getD (off + j) undef) ?_ (fun j hj => ?_) (fun j sv hj => ?_)⟩
          · unfold part
            rw [run_then (run_isAgg ha w)]
            simp only [if_true]
            rw [run_then (run_sizeOf hz w)]
            rfl
          · rw [Array.size_extract]
            cases n with
            | zero => omega
            | succ n =>
              obtain ⟨_, u, _, h2, _⟩ := hget n (by omega)
              have := (Array.getElem?_eq_some_iff.1 h2).1
              omega
          · obtain ⟨_, u, _, h2, _⟩ := hget j (by omega)
            have hlt := (Array.getElem?_eq_some_iff.1 h2).1
            rw [Array.getElem?_extract, if_pos (by omega), h2]
            simp [h2]
          · have hlt := (List.getElem?_eq_some_iff.1 hj).1
            obtain ⟨sv', u, e1, e2, e3⟩ := hget j (by omega)
            obtain rfl := Option.some.inj (hj.symm.trans e1)
            have : vs.getD (off + j) undef = u := by simp [e2]
            rw [this]; exact e3

/-! ### Cells of a value; filling -/

theorem scalB_plain {E : Env} {w : World} {s : SV} {v : Value} (h : scalB s = true) (hs : Sat E w s v) : plainV v := by
  cases hs with
  | v _ => cases v <;> first | (simp [scalB] at h; done) | (exact ⟨(fun _ e => by cases e), (fun _ e => by cases e)⟩)
  | any _ => simp [scalB] at h
  | agg _ _ _ _ _ _ => simp [scalB] at h
  | tuple _ _ _ _ _ _ => simp [scalB] at h
  | _ => exact ⟨(fun _ e => by cases e), (fun _ e => by cases e)⟩

theorem allScal_spec : ∀ {l : List SV}, allScal l = true → ∀ (j : Nat) (s : SV), l[j]? = some s → scalB s = true
  | [], _, j, s, h => by simp at h
  | x :: l, h, j, s, hj => by
    simp only [allScal] at h
    cases hx : scalB x with
    | false => rw [hx] at h; cases h
    | true =>
      rw [hx] at h
      cases j with
      | zero => obtain rfl : x = s := by simpa using hj
                exact hx
      | succ j => exact allScal_spec h j s (by simpa using hj)

/-- Cells of a value, in symbols and in fact. -/
def CellsAre (E : Env) (w : World) (vs : List SV) (l : List Value) : Prop := l.length = vs.length ∧ ∀ (j : Nat) (s : SV), vs[j]? = some s → ∃ u, l[j]? = some u ∧ Sat E w s u

theorem CellsAre.mono {E E' : Env} {w w' : World} {vs : List SV} {l : List Value} (h : CellsAre E w vs l) (hE : E.le E') (hs : Stays E w w') : CellsAre E' w' vs l :=
  ⟨h.1, fun j s hj => let ⟨u, hu, hsat⟩ := h.2 j s hj; ⟨u, hu, hsat.mono hE hs⟩⟩

theorem svCells_sat {E : Env} {w : World} {s : SV} {vs : List SV} {v : Value} (h : svCells s = some vs) (hs : Sat E w s v) : CellsAre E w vs v.cells.toList ∧ ∀ u, u ∈ v.cells.toList → plainV u := by
  have one : scalB s = true → vs = [s] → v.cells = #[v] → CellsAre E w vs v.cells.toList ∧ ∀ u, u ∈ v.cells.toList → plainV u := by
    intro h1 h2 h3
    subst h2
    rw [h3]
    refine ⟨⟨rfl, fun j s' hj => ?_⟩, fun u hu => ?_⟩
    · cases j with
      | zero => obtain rfl : s = s' := by simpa using hj
                exact ⟨v, rfl, hs⟩
      | succ j => simp at hj
    · obtain rfl : u = v := by simpa using hu
      exact scalB_plain h1 hs
  cases hs with
  | v _ => cases v <;> first | (simp [svCells] at h; done) | (exact one rfl (by simpa [svCells] using h.symm) rfl)
  | any _ => simp [svCells] at h
  | tuple _ _ _ _ _ _ => simp [svCells] at h
  | agg l arr u hl hu hss =>
    simp only [svCells] at h
    cases hall : allScal l with
    | false => rw [hall] at h; cases h
    | true =>
      rw [hall] at h
      obtain rfl := Option.some.inj h
      refine ⟨⟨by simpa [Value.cells] using hl, fun j s hj => ?_⟩, fun x hx => ?_⟩
      · have hlt := (List.getElem?_eq_some_iff.1 hj).1
        exact ⟨u j, by simpa [Value.cells] using hu j hlt, hss j s hj⟩
      · obtain ⟨j, hj, rfl⟩ := List.mem_iff_getElem.1 hx
        have hj' : j < l.length := by simp [Value.cells] at hj; omega
        have h1 := hu j hj'
        have h2 : (Value.agg arr).cells.toList[j] = u j := by
          have : arr[j]? = some ((Value.agg arr).cells.toList[j]) := by simp [Value.cells] at hj ⊢
          exact Option.some.inj (this.symm.trans h1)
        rw [h2]
        exact scalB_plain (allScal_spec hall j l[j] (by simp [hj'])) (hss j l[j] (by simp [hj']))
  | _ => exact one rfl (by simpa [svCells] using h.symm) rfl

theorem setN_spec : ∀ (cs : List SV) (o : Nat) (y : SV) (cs' : List SV), setN cs o y = some cs' → o < cs.length ∧ cs'.length = cs.length ∧ ∀ j, cs'[j]? = if j = o then some y else cs[j]?
  | [], o, y, cs', h => by simp [setN] at h
  | x :: l, 0, y, cs', h => by
    obtain rfl : y :: l = cs' := by simpa [setN] using h
    refine ⟨by simp, rfl, fun j => ?_⟩
    cases j <;> simp
  | x :: l, n + 1, y, cs', h => by
    simp only [setN] at h
    cases hr : setN l n y with
    | none => rw [hr] at h; cases h
    | some l' =>
      rw [hr] at h
      obtain rfl : x :: l' = cs' := by simpa using h
      obtain ⟨h1, h2, h3⟩ := setN_spec l n y l' hr
      refine ⟨by simp; omega, by simp [h2], fun j => ?_⟩
      cases j with
      | zero => simp
      | succ j => simp [h3 j]

theorem setAll_spec : ∀ (ys : List SV) (cs : List SV) (o : Nat) (cs' : List SV), setAll cs o ys = some cs' → (ys = [] ∨ o + ys.length ≤ cs.length) ∧ cs'.length = cs.length ∧
    ∀ j, cs'[j]? = if o ≤ j ∧ j < o + ys.length then ys[j - o]? else cs[j]?
  | [], cs, o, cs', h => by
    obtain rfl : cs = cs' := by simpa [setAll] using h
    exact ⟨.inl rfl, rfl, fun j => by simp only [List.length_nil]; rw [if_neg (by omega)]⟩
  | y :: ys, cs, o, cs', h => by
    simp only [setAll] at h
    cases hr : setN cs o y with
    | none => rw [hr] at h; cases h
    | some cs1 =>
      rw [hr] at h
      obtain ⟨a1, a2, a3⟩ := setN_spec cs o y cs1 hr
      obtain ⟨b1, b2, b3⟩ := setAll_spec ys cs1 (o + 1) cs' h
      refine ⟨.inr ?_, b2.trans a2, fun j => ?_⟩
      · simp only [List.length_cons]
        rcases b1 with rfl | b1
        · simp; omega
        · omega
      · rw [b3 j, a3 j]
        simp only [List.length_cons]
        by_cases h1 : j = o
        · subst h1
          rw [if_neg (by omega), if_pos rfl, if_pos (by omega)]
          simp
        · by_cases h2 : o + 1 ≤ j ∧ j < o + 1 + ys.length
          · rw [if_pos h2, if_pos (by omega), show j - o = (j - (o + 1)) + 1 by omega]; simp
          · rw [if_neg h2, if_neg h1, if_neg (by omega)]

theorem cells_put {E : Env} {w : World} {cs ys cs' : List SV} {o : Nat} {arr : Array Value} {l : List Value} (h : setAll cs o ys = some cs') (hc : CellsAre E w cs arr.toList) (hy : CellsAre E w ys l)
    (hne : l ≠ [] ∨ o ≤ arr.size) : CellsAre E w cs' (putAll arr o l).toList := by
  obtain ⟨h1, h2, h3⟩ := setAll_spec ys cs o cs' h
  have hsz : arr.size = cs.length := by simpa using hc.1
  have hly := hy.1
  have hle : o + l.length ≤ arr.size := by
    rcases h1 with rfl | h1
    · have : l = [] := List.length_eq_zero_iff.1 (by simpa using hly)
      subst this
      rcases hne with hne | hne
      · exact absurd rfl hne
      · simpa using hne
    · omega
  refine ⟨by simp [putAll_size]; omega, fun j s hj => ?_⟩
  rw [Array.getElem?_toList, putAll_get hle j]
  rw [h3 j] at hj
  by_cases hr : o ≤ j ∧ j < o + ys.length
  · rw [if_pos hr] at hj
    rw [if_pos (by omega)]
    exact hy.2 _ s hj
  · rw [if_neg hr] at hj
    rw [if_neg (by omega)]
    obtain ⟨u, hu, hs⟩ := hc.2 j s hj
    exact ⟨u, by simpa using hu, hs⟩

theorem zip_put (l : List Value) (off : Nat) : ∀ (cells : Array Value) (k : Nat), (l.zipIdx k).foldl (fun cs (p : Value × Nat) => cs.setIfInBounds (off + p.2) p.1) cells = putAll cells (off + k) l := by
  induction l with
  | nil => intro cells k; rfl
  | cons v l ih => intro cells k; simp only [List.zipIdx_cons, List.foldl_cons]; rw [ih]; rfl

/-- Filling. -/
theorem fill_any {E : Env} {w : World} {place : Nat → Option (Nat × Nat)} (parts : List (Nat × SV)) (vals : List (Nat × Value)) (cs cs' : List SV) (cells : Array Value) (h : fillS place cs parts = some cs')
    (hc : CellsAre E w cs cells.toList) (hl : parts.length = vals.length) (hp : ∀ (k i : Nat) (s : SV), parts[k]? = some (i, s) → ∃ v, vals[k]? = some (i, v) ∧ Sat E w s v) :
    ∃ cells', Instr.fill place cells vals = some cells' ∧ CellsAre E w cs' cells'.toList := by
  induction parts generalizing vals cs cells with
  | nil =>
    cases vals with
    | nil =>
      obtain rfl : cs = cs' := by simpa [fillS] using h
      exact ⟨cells, rfl, hc⟩
    | cons v vals => simp at hl
  | cons p parts ih =>
    obtain ⟨i, s⟩ := p
    cases vals with
    | nil => simp at hl
    | cons v vals =>
      obtain ⟨i', v⟩ := v
      obtain ⟨v', hv', hs⟩ := hp 0 i s rfl
      obtain ⟨rfl, rfl⟩ : i' = i ∧ v = v' := by simpa using hv'
      simp only [fillS] at h
      cases hpi : place i' with
      | none => rw [hpi] at h; cases h
      | some on =>
        obtain ⟨off, n⟩ := on
        rw [hpi] at h
        dsimp only at h
        cases hsv : svCells s with
        | none => rw [hsv] at h; cases h
        | some vs =>
          rw [hsv] at h
          dsimp only at h
          cases hb : Nat.beq vs.length n && Nat.ble (off + n) cs.length with
          | false => rw [hb] at h; cases h
          | true =>
            rw [hb] at h
            dsimp only at h
            simp only [Bool.and_eq_true] at hb
            have hn := Nat.eq_of_beq_eq_true hb.1
            have hle := Nat.le_of_ble_eq_true hb.2
            cases hset : setAll cs off vs with
            | none => rw [hset] at h; cases h
            | some cs1 =>
              rw [hset] at h
              dsimp only at h
              obtain ⟨hcells, hplain⟩ := svCells_sat hsv hs
              have hsz : v.cells.size = n := by have := hcells.1; simp at this; omega
              have hcl : cells.size = cs.length := by simpa using hc.1
              have hput := cells_put hset hc hcells (.inr (by omega))
              obtain ⟨cells', e1, e2⟩ := ih vals cs1 (putAll cells off v.cells.toList) h hput (by simpa using hl) (fun k i s hk => hp (k + 1) i s (by simpa using hk))
              refine ⟨cells', ?_, e2⟩
              unfold Instr.fill
              rw [hpi]
              dsimp only
              rw [if_neg (by simp; omega)]
              rw [← e1]
              congr 1
              have := zip_put v.cells.toList off cells 0
              rw [Nat.add_zero] at this
              rw [← this]
              rw [← Array.foldl_toList]
              simp

theorem mapEv_length (T : Tm) : ∀ l, (mapEv T l).length = l.length
  | [] => rfl
  | _ :: l => by simp [mapEv, mapEv_length T l]
theorem mapEv_get (T : Tm) : ∀ (l : List Operand) (j : Nat), (mapEv T l)[j]? = (l[j]?).map (ev T)
  | [], _ => by simp [mapEv]
  | _ :: l, 0 => by simp [mapEv]
  | _ :: l, j + 1 => by simp [mapEv, mapEv_get T l j]
theorem partsEv_get (T : Tm) : ∀ (l : List (Nat × Operand)) (j : Nat), (partsEv T l)[j]? = (l[j]?).map fun p => (p.1, ev T p.2)
  | [], _ => by simp [partsEv]
  | _ :: l, 0 => by simp [partsEv]
  | _ :: l, j + 1 => by simp [partsEv, partsEv_get T l j]
theorem partsEv_length (T : Tm) : ∀ l, (partsEv T l).length = l.length
  | [] => rfl
  | _ :: l => by simp [partsEv, partsEv_length T l]
theorem listV_eq : ∀ l, listV l = l.map SV.v
  | [] => rfl
  | _ :: l => by simp [listV, listV_eq l]

theorem listV_are {E : Env} {w : World} (l : List Value) : CellsAre E w (listV l) l := by
  rw [listV_eq]
  refine ⟨by simp, fun j s hj => ?_⟩
  obtain ⟨x, h1, rfl⟩ := list_sat_v (E := E) (w := w) hj
  exact ⟨x, h1, .v x⟩

end Go.Eng
