/- The engine, part I: the conditions asked of one operation suffice. -/
import Derived.Test.YteckpdifeoffjaaDoorEngH
set_option linter.unusedVariables false
namespace Go.Eng

/-- What is known of the functions that may be called. -/
def Known (P : Program) (G : Nat → Option Ctr) : Prop := ∀ g C, G g = some C → (C.ok P g ∧ ∀ args w, (callFunc g args).run P w = .ok (.enter g args) w) ∨ (bodyB P g = false ∧ C.okV P g)

/-- One of the two ways on, and what it stands for. -/
def Led (r : Option Nat) (P : Program) (o : Oper) (T : Tm) (M : En) (lo : Nat) (Kp : SV → List Nat → Prop) (Kg : SV → List Nat → List Nat → En → Prop) : Prop :=
  (∃ out S, Kp out S ∧ LocRun r P o T M lo (lo + 16) ⟨opsOf o, out, S, [], []⟩) ∨
  (∃ out S ci eo, Kg out S ci eo ∧ LocRun r P o T M lo (lo + 16) ⟨opsOf o, out, S, ci, eo⟩)

theorem ok_value {P : Program} {s : Sem Value} {v : Value} {w w' : World} (h : s.run P w = .ok v w') : (do pure (.value (← s)) : Sem Next).run P w = .ok (.value v) w' := by
  rw [run_then h]; rfl
theorem ok_skip {P : Program} {s : Sem Unit} {w w' : World} (h : s.run P w = .ok () w') : (do s; pure .skip : Sem Next).run P w = .ok .skip w' := by
  rw [run_then h]; rfl

section
variable {r : Option Nat} {P : Program} {G : Nat → Option Ctr} {o : Oper} {T : Tm} {M : En} {lo : Nat} {Kp : SV → List Nat → Prop} {Kg : SV → List Nat → List Nat → En → Prop}

theorem led_p {out : SV} {S : List Nat} (hk : Kp out S) (hd : ∀ c, o.op ≠ .defer c)
    (h : ∀ (E : Env) (fp : Nat → Nat → Prop) (a : Act) (w : World), (∀ t, t ∈ opsOf o → Sat E w (look T t) (a.tmps.getD t undef)) → EntsSat E w fp (sub M S) →
      ∃ v, (execOp a.eval o).run P w = .ok (.value v) w ∧ Sat E w out v) : Led r P o T M lo Kp Kg :=
  .inl ⟨out, S, hk, loc_pure hd h⟩

theorem led_move {x : Operand} (hop : o.op = .move x ∨ o.op = .assign x) (h : force (ev T x) fun s => Kp s []) : Led r P o T M lo Kp Kg := by
  have hops : opsOf o = opTmps [x] := by rcases hop with e | e <;> simp [opsOf, e, Op.operands]
  refine led_p (force_spec h) (fun c => by rcases hop with e | e <;> simp [e]) (fun E fp a w hrd _ => ⟨a.eval x, ?_, ?_⟩)
  · rcases hop with e | e <;> simp only [execOp, e] <;> rfl
  · rw [hops] at hrd
    exact ev_sat hrd (List.mem_singleton.2 rfl)

/-- A new block. -/
theorem led_new {t : TypeId} {cs : List SV} {out : SV} (hk : Kg out [] [] [(lo, .cells t cs)]) (hd : ∀ c, o.op ≠ .defer c)
    (h : ∀ (E : Env) (a : Act) (w : World), (∀ t, t ∈ opsOf o → Sat E w (look T t) (a.tmps.getD t undef)) →
      ∃ arr v, (execOp a.eval o).run P w = .ok (.value v) (wnew w (.cells arr t)) ∧ CellsAre E w cs arr.toList ∧
        ∀ (E' : Env) (s : Slot), E'.slot lo = some s → s.blk = w.heap.size → Sat E' (wnew w (.cells arr t)) out v) : Led r P o T M lo Kp Kg := by
  refine .inr ⟨out, [], [], _, hk, (fun id hid => by cases hid), fun E fp a w hrd hents hfr => ?_⟩
  obtain ⟨arr, v, h1, h2, h3⟩ := h E a w hrd
  refine OpRun.value hd h1 ?_
  have hlo := hfr lo (Nat.le_refl _) (by omega)
  let s : Slot := ⟨w.heap.size, none, 0, 0⟩
  have hkeep : Keep (fun _ => False) w (wnew w (.cells arr t)) := wnew_keep _ _ _ _
  have hst : Stays E w (wnew w (.cells arr t)) := fun k hk hlt => wnew_same w _ hlt
  have hcells := h2.mono (Env.le_with (s := s) hlo) hst
  obtain ⟨g1, g2⟩ := hents.fresh (w' := wnew w (.cells arr t)) (s := s) (e := .cells t cs) hlo rfl hkeep (by simp [wnew])
    ⟨s, arr, (0, 0), Env.with_self _ _ _, fun b => Iff.rfl, wnew_new w _, fun o _ => by omega, by simpa using hcells.1, fun j sv hj => by
      obtain ⟨u, hu, hs⟩ := hcells.2 j sv hj
      exact ⟨u, by simpa using hu, hs⟩⟩
  refine ⟨E.with lo s, _, h3 _ s (Env.with_self _ _ _) rfl, ?_, g2, fun id => ?_⟩
  · simpa [upd, gones, sub] using g1
  · by_cases e : id = lo
    · exact .inr (by omega)
    · exact .inl (Env.with_other e)

theorem led_alloc {t : TypeId} (hop : o.op = .alloc t) (h : match zeroOf P t with | some zs => Kg (.ptr lo 0) [] [] [(lo, .cells t (listV zs))] | none => False) : Led r P o T M lo Kp Kg := by
  cases hz : zeroOf P t with
  | none => rw [hz] at h; exact h.elim
  | some zs =>
    rw [hz] at h
    refine led_new h (fun c => by simp [hop]) (fun E a w _ => ?_)
    obtain ⟨v, h1, h2⟩ := run_zeroValue hz w
    refine ⟨v.cells, .pointer (some ⟨w.heap.size, 0, none⟩), ?_, by rw [h2]; exact listV_are zs, fun E' s hs hb => ?_⟩
    · simp only [execOp, hop]
      refine ok_value ?_
      unfold Instr.alloc
      rw [run_then h1]
      dsimp only
      rw [run_then (show (newVar t v).run P w = .ok ⟨w.heap.size, 0, none⟩ _ from run_newRow t v.cells w)]
      rfl
    · rw [← hb]; exact .ptr lo 0 s hs

theorem led_box {t : TypeId} {x : Operand} (hop : o.op = .box t x) (h : match svCells (ev T x) with | some cs => Kg (.ptr lo 0) [] [] [(lo, .cells t cs)] | none => False) : Led r P o T M lo Kp Kg := by
  have hops : opsOf o = opTmps [x] := by simp [opsOf, hop, Op.operands]
  cases hc : svCells (ev T x) with
  | none => rw [hc] at h; exact h.elim
  | some cs =>
    rw [hc] at h
    refine led_new h (fun c => by simp [hop]) (fun E a w hrd => ?_)
    rw [hops] at hrd
    obtain ⟨hcs, _⟩ := svCells_sat hc (ev_sat (E := E) (w := w) hrd (List.mem_singleton.2 rfl))
    refine ⟨(a.eval x).cells, .pointer (some ⟨w.heap.size, 0, none⟩), ?_, hcs, fun E' s hs hb => ?_⟩
    · simp only [execOp, hop]
      refine ok_value ?_
      unfold Instr.box
      rw [run_then (show (newVar t (a.eval x)).run P w = .ok ⟨w.heap.size, 0, none⟩ _ from run_newRow t (a.eval x).cells w)]
      rfl
    · rw [← hb]; exact .ptr lo 0 s hs

theorem placeOf_struct {t : TypeId} {fs : Array Field} (hu : P.underlying t = some (.struct fs)) (hall : ∀ f : Field, f ∈ fs → ∃ n, szOf P f.type = some n) (w : World) :
    ∃ places, (fs.mapM (fun (f : Field) => do pure (f.offset, ← sizeOf f.type)) : Sem (Array (Nat × Nat))).run P w = .ok places w ∧ ∀ i, places[i]? = placeOf P t i := by
  have key : ∀ (l : List Field), (∀ f : Field, f ∈ l → ∃ n, szOf P f.type = some n) → ∃ ps, (l.mapM (fun (f : Field) => do pure (f.offset, ← sizeOf f.type)) : Sem (List (Nat × Nat))).run P w = .ok ps w ∧
      ∀ (i : Nat), ps[i]? = match l[i]? with | some (f : Field) => (match szOf P f.type with | some n => some (f.offset, n) | none => none) | none => none := by
    intro l
    induction l with
    | nil => intro _; exact ⟨[], rfl, fun i => by simp⟩
    | cons f l ih =>
      intro hl
      obtain ⟨n, hn⟩ := hl f (List.mem_cons_self ..)
      obtain ⟨ps, h1, h2⟩ := ih (fun g hg => hl g (List.mem_cons_of_mem _ hg))
      refine ⟨(f.offset, n) :: ps, ?_, fun i => ?_⟩
      · rw [List.mapM_cons]
        rw [run_then (show (do pure (f.offset, ← sizeOf f.type) : Sem (Nat × Nat)).run P w = .ok (f.offset, n) w from by rw [run_then (run_sizeOf hn w)]; rfl)]
        rw [run_then h1]; rfl
      · cases i with
        | zero => simp [hn]
        | succ i => simp [h2 i]
  obtain ⟨ps, h1, h2⟩ := key fs.toList (fun f hf => hall f (by simpa using hf))
  refine ⟨ps.toArray, ?_, fun i => ?_⟩
  · rw [← Array.toArray_toList (xs := fs), List.mapM_toArray]
    rw [Sem.run_map, h1]; rfl
  · have := h2 i
    simp only [placeOf, hu]
    rw [List.getElem?_toArray, this]
    cases fs.toList[i]? with
    | none => rfl
    | some f => cases szOf P f.type <;> rfl

theorem szsOk_spec : ∀ (l : List Field), szsOk P l = true → ∀ f : Field, f ∈ l → ∃ n, szOf P f.type = some n
  | [], _, f, hf => by cases hf
  | g :: l, h, f, hf => by
    simp only [szsOk] at h
    cases hg : szOf P g.type with
    | none => rw [hg] at h; cases h
    | some n =>
      rw [hg] at h
      rcases List.mem_cons.1 hf with rfl | hf'
      · exact ⟨n, hg⟩
      · exact szsOk_spec l h f hf'

theorem fill_congr {p p' : Nat → Option (Nat × Nat)} (hp : ∀ i, p i = p' i) (cells : Array Value) (l : List (Nat × Value)) : Instr.fill p cells l = Instr.fill p' cells l := by
  rw [show p = p' from funext hp]

theorem setAll_le {cs cs' ys : List SV} {o : Nat} (h : setAll cs o ys = some cs') (hne : ys ≠ []) : o ≤ cs.length := by
  rcases (setAll_spec ys cs o cs' h).1 with rfl | h1
  · exact absurd rfl hne
  · omega

theorem led_build {t : TypeId} {parts : Array (Nat × Operand)} (hop : o.op = .build t parts)
    (h : match (match partsOk P t with | true => zeroOf P t | false => none) with
      | some zs => match fillS (placeOf P t) (listV zs) (partsEv T parts.toList) with
        | some cs => Kp (.agg cs) []
        | none => False
      | none => False) : Led r P o T M lo Kp Kg := by
  cases hok : partsOk P t with
  | false => rw [hok] at h; exact h.elim
  | true =>
    rw [hok] at h
    dsimp only at h
    cases hz : zeroOf P t with
    | none => rw [hz] at h; exact h.elim
    | some zs =>
      rw [hz] at h
      dsimp only at h
      cases hf : fillS (placeOf P t) (listV zs) (partsEv T parts.toList) with
      | none => rw [hf] at h; exact h.elim
      | some cs =>
        rw [hf] at h
        refine led_p h (fun c => by simp [hop]) (fun E fp a w hrd _ => ?_)
        have hrd' : ∀ t, t ∈ opTmps (parts.toList.map (·.2)) → Sat E w (look T t) (a.tmps.getD t undef) := by
          simpa [opsOf, hop, Op.operands] using hrd
        obtain ⟨z, hz1, hz2⟩ := run_zeroValue hz w
        -- where each part goes, and that it is within
        have hplace : ∀ i off n, placeOf P t i = some (off, n) → True := fun _ _ _ _ => trivial
        have hfill : ∀ place : Nat → Option (Nat × Nat), (∀ i, place i = placeOf P t i) →
            ∃ cells', Instr.fill place z.cells (parts.map fun (i, x) => (i, a.eval x)).toList = some cells' ∧ CellsAre E w cs cells'.toList := by
          intro place hpl
          rw [fill_congr hpl]
          exact fill_any (partsEv T parts.toList) _ (listV zs) cs z.cells hf (by rw [hz2]; exact listV_are zs) (by simp [partsEv_length]) (fun k i s hk => by
            rw [partsEv_get] at hk
            cases hp : parts.toList[k]? with
            | none => rw [hp] at hk; cases hk
            | some p =>
              obtain ⟨i', x⟩ := p
              rw [hp] at hk
              obtain ⟨rfl, rfl⟩ : i' = i ∧ ev T x = s := by simpa using hk
              refine ⟨a.eval x, ?_, ev_sat hrd' (List.mem_map.2 ⟨(i', x), List.mem_of_getElem? hp, rfl⟩)⟩
              simp only [Array.toList_map, List.getElem?_map, hp]
              rfl)
        cases hu : P.underlying t with
        | none => simp [partsOk, hu] at hok
        | some d =>
          cases d with
          | struct fs =>
            have hall : ∀ f : Field, f ∈ fs → ∃ n, szOf P f.type = some n := fun f hf' => szsOk_spec fs.toList (by simpa [partsOk, hu] using hok) f (by simpa using hf')
            obtain ⟨places, p1, p2⟩ := placeOf_struct hu hall w
            obtain ⟨cells', c1, c2⟩ := hfill (places[·]?) p2
            refine ⟨.agg cells', ?_, .agg cs cells' (fun j => cells'.getD j undef) (by simpa using c2.1) (fun j hj => ?_) (fun j sv hj => ?_)⟩
            · simp only [execOp, hop]
              refine ok_value ?_
              unfold Instr.build
              rw [run_then hz1]
              rw [run_then (run_underlying' hu w)]
              dsimp only
              rw [run_then p1]
              rw [c1]; rfl
            · have : j < cells'.size := by have := c2.1; simp at this; omega
              simp [this]
            · obtain ⟨u, hu', hs⟩ := c2.2 j sv hj
              have : cells'.getD j undef = u := by
                have : cells'[j]? = some u := by simpa using hu'
                simp [this]
              rw [this]; exact hs
          | array len e =>
            cases hse : szOf P e with
            | none => simp [partsOk, hu, hse] at hok
            | some n =>
              obtain ⟨cells', c1, c2⟩ := hfill (fun i => some (i * n, n)) (fun i => by simp [placeOf, hu, hse])
              refine ⟨.agg cells', ?_, .agg cs cells' (fun j => cells'.getD j undef) (by simpa using c2.1) (fun j hj => ?_) (fun j sv hj => ?_)⟩
              · simp only [execOp, hop]
                refine ok_value ?_
                unfold Instr.build
                rw [run_then hz1]
                rw [run_then (run_underlying' hu w)]
                dsimp only
                rw [run_then (run_sizeOf hse w)]
                rw [c1]; rfl
              · have : j < cells'.size := by have := c2.1; simp at this; omega
                simp [this]
              · obtain ⟨u, hu', hs⟩ := c2.2 j sv hj
                have : cells'.getD j undef = u := by
                  have : cells'[j]? = some u := by simpa using hu'
                  simp [this]
                rw [this]; exact hs
          | _ => simp [partsOk, hu] at hok

theorem repS_get {E : Env} {w : World} (zs : List Value) (n : Nat) (hn : zs.length = n) : ∀ (len : Nat), CellsAre E w (repS len (listV zs)) ((List.range (len * n)).map fun m => zs.getD (m % n) undef) := by
  intro len
  induction len with
  | zero => exact ⟨by simp [repS], fun j s hj => by simp [repS] at hj⟩
  | succ len ih =>
    obtain ⟨ih1, ih2⟩ := ih
    have hlz : (listV zs).length = n := by rw [listV_eq]; simpa using hn
    simp only [List.length_map, List.length_range] at ih1
    refine ⟨by simp only [repS, List.length_map, List.length_range, List.length_append, hlz, ← ih1, Nat.add_mul]; omega, fun j s hj => ?_⟩
    simp only [repS] at hj
    rcases Nat.lt_or_ge j n with hlt | hge
    · rw [List.getElem?_append_left (by omega), listV_eq] at hj
      obtain ⟨x, h1, rfl⟩ := list_sat_v (E := E) (w := w) hj
      have hjl : j < (len + 1) * n := by rw [Nat.add_mul]; omega
      refine ⟨x, ?_, .v x⟩
      simp only [List.getElem?_map, List.getElem?_range hjl, Option.map_some, Nat.mod_eq_of_lt hlt]
      simp [h1]
    · rw [List.getElem?_append_right (by omega), hlz] at hj
      obtain ⟨u, hu, hs⟩ := ih2 _ _ hj
      refine ⟨u, ?_, hs⟩
      have hlt : j - n < len * n := by
        have := (List.getElem?_eq_some_iff.1 hu).1; simpa using this
      have hjl : j < (len + 1) * n := by rw [Nat.add_mul]; omega
      simp only [List.getElem?_map, List.getElem?_range hlt, List.getElem?_range hjl, Option.map_some] at hu ⊢
      have : j % n = (j - n) % n := by rw [Nat.mod_eq_sub_mod hge]
      rw [this]; exact hu

theorem led_buildSlice {t : TypeId} {len : Nat} {parts : Array (Nat × Operand)} (hop : o.op = .buildSlice t len parts)
    (h : match P.underlying t with
      | some (.slice e) => match szOf P e, zeroOf P e with
        | some n, some zs => match Nat.beq zs.length n && Nat.blt 0 n && Nat.ble (len * n) 16777216 with
          | true => match fillS (fun i => some (i * n, n)) (repS len (listV zs)) (partsEv T parts.toList) with
            | some cs => Kg (.slc lo 0 len len) [] [] [(lo, .cells e cs)]
            | none => False
          | false => False
        | _, _ => False
      | _ => False) : Led r P o T M lo Kp Kg := by
  split at h
  · rename_i e hu
    split at h
    · rename_i n zs hn hz
      split at h
      · rename_i hb
        simp only [Bool.and_eq_true] at hb
        have hzl := Nat.eq_of_beq_eq_true hb.1.1
        have hpos : 0 < n := by have := hb.1.2; simp [Nat.blt] at this; omega
        have hle := Nat.le_of_ble_eq_true hb.2
        split at h
        · rename_i cs hf
          refine led_new h (fun c => by simp [hop]) (fun E a w hrd => ?_)
          have hrd' : ∀ t, t ∈ opTmps (parts.toList.map (·.2)) → Sat E w (look T t) (a.tmps.getD t undef) := by
            simpa [opsOf, hop, Op.operands] using hrd
          obtain ⟨z, hz1, hz2⟩ := run_zeroValue hz w
          have hzs : z.cells.size = n := by rw [← Array.length_toList, hz2]; exact hzl
          let z0 : Array Value := if len * n = 0 then #[] else z.cells
          have hz0 : ∀ m, m < len * n → z0[m % z0.size]! = zs.getD (m % n) undef := fun m hm => by
            have h0 : ¬ len * n = 0 := by omega
            have hlt : m % n < z.cells.size := by rw [hzs]; exact Nat.mod_lt _ hpos
            simp only [z0, if_neg h0, hzs]
            rw [← hz2]
            simp [hlt]
          have hbase : CellsAre E w (repS len (listV zs)) ((Array.range (len * n)).map fun m => z0[m % z0.size]!).toList := by
            have h1 := repS_get (E := E) (w := w) zs n hzl len
            have h2 : ((Array.range (len * n)).map fun m => z0[m % z0.size]!).toList = (List.range (len * n)).map fun m => zs.getD (m % n) undef := by
              rw [Array.toList_map, Array.toList_range]
              exact List.map_congr_left fun m hm => hz0 m (List.mem_range.1 hm)
            rw [h2]; exact h1
          obtain ⟨cells', c1, c2⟩ := fill_any (place := fun i => some (i * n, n)) (partsEv T parts.toList) (parts.map fun (i, x) => (i, a.eval x)).toList _ cs _ hf hbase (by simp [partsEv_length]) (fun k i s hk => by
            rw [partsEv_get] at hk
            cases hp : parts.toList[k]? with
            | none => rw [hp] at hk; cases hk
            | some p =>
              obtain ⟨i', x⟩ := p
              rw [hp] at hk
              obtain ⟨rfl, rfl⟩ : i' = i ∧ ev T x = s := by simpa using hk
              refine ⟨a.eval x, ?_, ev_sat hrd' (List.mem_map.2 ⟨(i', x), List.mem_of_getElem? hp, rfl⟩)⟩
              simp only [Array.toList_map, List.getElem?_map, hp]
              rfl)
          refine ⟨cells', .slice (some ⟨w.heap.size, 0, none⟩) len len, ?_, c2, fun E' s hs hbk => ?_⟩
          · simp only [execOp, hop]
            refine ok_value ?_
            unfold Instr.buildSlice
            rw [run_then (run_underlying' hu w)]
            dsimp only
            rw [run_then (run_sizeOf hn w)]
            rw [if_neg (by omega)]
            by_cases h0 : len * n = 0
            · have e0 : z0 = #[] := if_pos h0
              rw [e0] at c1
              rw [if_pos h0]
              rw [run_then (show (pure #[] : Sem (Array Value)).run P w = .ok #[] w from rfl)]
              rw [c1]
              dsimp only
              rw [run_then (run_newRow e cells' w)]
              rfl
            · have e0 : z0 = z.cells := if_neg h0
              rw [e0] at c1
              rw [if_neg h0]
              rw [run_then hz1]
              rw [run_then (show (pure z.cells : Sem (Array Value)).run P w = .ok z.cells w from rfl)]
              rw [c1]
              dsimp only
              rw [run_then (run_newRow e cells' w)]
              rfl
          · rw [← hbk]; exact .slc lo 0 len len s hs
        · exact h.elim
      · exact h.elim
    · exact h.elim
  · exact h.elim

theorem wf_block {E : Env} {w : World} {fp : Nat → Nat → Prop} {M : En} {S : List Nat} {i : Nat} (h : EntsSat E w fp (sub M S)) (hi : i ∈ S) : EntSat E w (fp i) i (find M i) := by
  have := h.sat i
  rwa [find_sub_in hi] at this

theorem cell_of {w : World} {k o : Nat} {arr : Array Value} {t : TypeId} {fz : Nat × Nat} {u : Value} (h : w.heap[k]? = some (.cells arr t fz)) (hu : arr[o]? = some u) : w.cell? ⟨k, o, none⟩ = some u := by
  simp [World.cell?, h, hu]

theorem loadAt_ptr {t : TypeId} {k o : Nat} {v : Value} {w : World} (h : (loadVar t ⟨k, o, none⟩).run P w = .ok v w) : (Instr.loadAt t (.pointer (some ⟨k, o, none⟩))).run P w = .ok v w := by
  unfold Instr.loadAt
  rw [run_then (show (Instr.sureAddr (.pointer (some ⟨k, o, none⟩))).run P w = .ok ⟨k, o, none⟩ w from rfl)]
  exact h

theorem led_load {t : TypeId} {x : Operand} (hop : o.op = .load t x) (h : match ev T x with
    | .ptr i off => match find M i with
      | .cells _ cs => partV P t cs off fun s => Kp s [i]
      | _ => False
    | .rop _ cs off => partV P t cs off fun s => Kp s []
    | .elp i sz ix off => match find M i with
      | .row _ ty xs => match Nat.beq sz ty.size with
        | true => Ask (0 ≤ ix ∧ ix.toNat < xs.length) (All' (fun e => xs[ix.toNat]? = some e) fun e => partV P t (enc ty e) off fun s => Kp s [i])
        | false => False
      | _ => False
    | _ => False) : Led r P o T M lo Kp Kg := by
  have hops : opsOf o = opTmps [x] := by simp [opsOf, hop, Op.operands]
  have hd : ∀ c, o.op ≠ .defer c := fun c => by simp [hop]
  have hexec : ∀ (a : Act) (w : World) (k off : Nat) (v : Value), a.eval x = .pointer (some ⟨k, off, none⟩) → (loadVar t ⟨k, off, none⟩).run P w = .ok v w → (execOp a.eval o).run P w = .ok (.value v) w := fun a w k off v h1 h2 => by
    simp only [execOp, hop, h1]
    exact ok_value (loadAt_ptr h2)
  split at h
  · rename_i i off he
    split at h
    · rename_i t' cs hf
      obtain ⟨out, hk, hl⟩ := partV_load h
      refine led_p hk hd (fun E fp a w hrd hents => ?_)
      rw [hops] at hrd
      have hx := ev_sat (E := E) (w := w) hrd (List.mem_singleton.2 rfl)
      rw [he] at hx
      have hent := wf_block hents (List.mem_singleton.2 rfl)
      rw [hf] at hent
      obtain ⟨s', arr, fz, e1, e2, e3, e4, e5, e6⟩ := hent
      generalize hxe : a.eval x = xv at hx
      cases hx with
      | ptr _ _ s hs =>
        obtain rfl := Option.some.inj (hs.symm.trans e1)
        obtain ⟨v, h1, h2⟩ := hl E w s.blk 0 (fun j sv hj => by
          obtain ⟨u, hu, hsat⟩ := e6 j sv hj
          exact ⟨u, cell_of e3 (by simpa using hu), hsat⟩)
        rw [Nat.zero_add] at h1
        exact ⟨v, hexec a w _ _ v hxe h1, h2⟩
    · exact h.elim
  · rename_i b cs off he
    obtain ⟨out, hk, hl⟩ := partV_load h
    refine led_p hk hd (fun E fp a w hrd hents => ?_)
    rw [hops] at hrd
    have hx := ev_sat (E := E) (w := w) hrd (List.mem_singleton.2 rfl)
    rw [he] at hx
    generalize hxe : a.eval x = xv at hx
    cases hx with
    | rop _ _ _ k o u hb hc hs =>
      obtain ⟨v, h1, h2⟩ := hl E w k o (fun j sv hj => by
        have hlt := (List.getElem?_eq_some_iff.1 hj).1
        exact ⟨u j, hc j hlt, hs j sv hj⟩)
      exact ⟨v, hexec a w _ _ v hxe h1, h2⟩
  · rename_i i sz ix off he
    split at h
    · rename_i te ty xs hf
      split at h
      · rename_i hb
        have hsz := Nat.eq_of_beq_eq_true hb
        obtain ⟨⟨h0, hlt⟩, h⟩ := h
        have h := h.h xs[ix.toNat] (by simp [hlt])
        obtain ⟨out, hk, hl⟩ := partV_load h
        refine led_p hk hd (fun E fp a w hrd hents => ?_)
        rw [hops] at hrd
        have hx := ev_sat (E := E) (w := w) hrd (List.mem_singleton.2 rfl)
        rw [he] at hx
        have hent := wf_block hents (List.mem_singleton.2 rfl)
        rw [hf] at hent
        obtain ⟨s', e1, e2⟩ := hent
        generalize hxe : a.eval x = xv at hx
        cases hx with
        | elp _ _ _ _ s hs o1 n1 c1 hv =>
          obtain rfl := Option.some.inj (hs.symm.trans e1)
          rcases e2 with ⟨g1, g2, _⟩ | ⟨o2, c2, arr, fz, g1, g2, g3, g4, g5, g6, g7⟩
          · subst g2; simp at hlt
          · rw [g1] at hv
            obtain ⟨rfl, rfl, rfl⟩ : o2 = o1 ∧ xs.length = n1 ∧ c2 = c1 := by simpa using hv
            obtain ⟨v, h1, h2⟩ := hl E w s.blk (o2 + ix.toNat * sz) (fun j sv hj => by
              obtain ⟨u, hu, hsat⟩ := g7 ix.toNat xs[ix.toNat] j sv (by simp [hlt]) hj
              exact ⟨u, cell_of g3 (by rw [hsz]; exact hu), hsat⟩)
            exact ⟨v, hexec a w _ _ v hxe h1, h2⟩
      · exact h.elim
    · exact h.elim
  · exact h.elim

theorem storeAt_ptr {t : TypeId} {k o : Nat} {v : Value} {w w' : World} (h : (storeVar t ⟨k, o, none⟩ v).run P w = .ok () w') : (Instr.storeAt t (.pointer (some ⟨k, o, none⟩)) v).run P w = .ok () w' := by
  unfold Instr.storeAt
  rw [run_then (show (Instr.sureAddr (.pointer (some ⟨k, o, none⟩))).run P w = .ok ⟨k, o, none⟩ w from rfl)]
  exact h

/-- One's own block is written: its entry is anew. -/
theorem EntsSat.write {E : Env} {w w' : World} {fp : Nat → Nat → Prop} {M : En} {i : Nat} {s : Slot} {e : Ent} (h : EntsSat E w fp (sub M [i])) (hfp : ∀ b, fp i b ↔ b = s.blk)
    (hk : Keep (fun b => b = s.blk) w w') (he : EntSat E w' (fp i) i e) : EntsSat E w' fp (upd [(i, e)] [i] (sub M [i])) ∧ Adv E fp w E fp w' := by
  have hown : ∀ b, b = s.blk → own fp b := fun b hb => ⟨i, (hfp b).2 hb⟩
  have hkeep : Keep (own fp) w w' := hk.mono hown
  refine ⟨⟨fun id => ?_, fun id b hb => Nat.lt_of_lt_of_le (h.lt id b hb) hk.size, h.I, h.B, h.apart, fun b hb => Nat.lt_of_lt_of_le (h.Ilt b hb) hk.size, h.nil, h.glob (h.stays hkeep) (fun _ h => h)⟩, ⟨hkeep, .refl _, fun b hb => .inl hb, fun b hb => hb, fun id b hb => .inl ⟨id, hb⟩⟩⟩
  rw [find_upd]
  by_cases e1 : id = i
  · subst e1
    rw [if_pos (by simp [keys])]
    simpa [find] using he
  · rw [if_neg (by simp [keys, e1]), if_neg (by simp [e1]), find_sub, if_neg (by simp [e1])]
    have := h.sat id
    rw [find_sub, if_neg (by simp [e1])] at this
    exact this

theorem run_storeVar {t : TypeId} {n : Nat} (hn : szOf P t = some n) {k o : Nat} {v : Value} {w : World} {arr : Array Value} {te : TypeId} {fz : Nat × Nat} (hb : w.heap[k]? = some (.cells arr te fz)) (hu : unfrozen fz arr.size)
    (hsz : v.cells.size = n) (hle : o + n ≤ arr.size) (hp : ∀ u, u ∈ v.cells.toList → plainV u) :
    ∃ w', (storeVar t ⟨k, o, none⟩ v).run P w = .ok () w' ∧ w'.heap[k]? = some (.cells (putAll arr o v.cells.toList) te fz) ∧ Keep (fun b => b = k) w w' := by
  obtain ⟨w', h1, h2, h3⟩ := run_storeCells (P := P) (o := o) v.cells.toList 0 w arr hb (by simp; omega) hu hp
  refine ⟨w', ?_, by simpa using h2, h3⟩
  unfold storeVar
  rw [run_then (run_sizeOf hn w)]
  rw [if_neg (by omega)]
  exact h1

theorem led_store {t : TypeId} {x y : Operand} (hop : o.op = .store t x y) (h : match ev T x with
    | .ptr i off => match svCells (ev T y) with
      | some vs => match szOf P t with
        | some n => match Nat.beq n vs.length with
          | true => match find M i with
            | .cells t' cs => match setAll cs off vs with
              | some cs' => Kg (.v undef) [i] [i] [(i, .cells t' cs')]
              | none => False
            | _ => False
          | false => False
        | none => False
      | none => False
    | .elp i sz ix off => match svCells (ev T y) with
      | some vs => match szOf P t with
        | some n => match Nat.beq n vs.length && Nat.ble (off + n) sz && Nat.blt 0 n with
          | true => match find M i with
            | .row te ty xs => match Nat.beq sz ty.size with
              | true => Ask (0 ≤ ix ∧ ix.toNat < xs.length) (All' (fun e => xs[ix.toNat]? = some e) fun e => Some' fun e' =>
                  Eqn (setAll (enc ty e) off vs) (some (enc ty e')) (Kg (.v undef) [i] [i] [(i, .row te ty (xs.set ix.toNat e'))]))
              | false => False
            | _ => False
          | false => False
        | none => False
      | none => False
    | _ => False) : Led r P o T M lo Kp Kg := by
  have hops : opsOf o = opTmps [x, y] := by simp [opsOf, hop, Op.operands]
  have hd : ∀ c, o.op ≠ .defer c := fun c => by simp [hop]
  have hexec : ∀ (a : Act) (w w' : World) (k off : Nat), a.eval x = .pointer (some ⟨k, off, none⟩) → (storeVar t ⟨k, off, none⟩ (a.eval y)).run P w = .ok () w' → (execOp a.eval o).run P w = .ok .skip w' := fun a w w' k off h1 h2 => by
    simp only [execOp, hop, h1]
    exact ok_skip (storeAt_ptr h2)
  split at h
  · rename_i i off he
    split at h
    · rename_i vs hvs
      split at h
      · rename_i n hn
        split at h
        · rename_i hb
          have hnl := Nat.eq_of_beq_eq_true hb
          split at h
          · rename_i t' cs hf
            split at h
            · rename_i cs' hset
              refine .inr ⟨_, _, _, _, h, (fun id hid => hid), fun E fp a w hrd hents hfr => ?_⟩
              rw [hops] at hrd
              have hx := ev_sat (E := E) (w := w) hrd (x := x) (by simp)
              rw [he] at hx
              obtain ⟨hyc, hyp⟩ := svCells_sat hvs (ev_sat (E := E) (w := w) hrd (x := y) (by simp))
              have hent := wf_block hents (List.mem_singleton.2 rfl)
              rw [hf] at hent
              obtain ⟨s', arr, fz, e1, e2, e3, e4, e5, e6⟩ := hent
              generalize hxe : a.eval x = xv at hx
              cases hx with
              | ptr _ _ s hs =>
                obtain rfl := Option.some.inj (hs.symm.trans e1)
                have hysz : (a.eval y).cells.size = n := by have := hyc.1; simp at this; omega
                have hcs : CellsAre E w cs arr.toList := ⟨by simpa using e5, fun j sv hj => by obtain ⟨u, hu, hs⟩ := e6 j sv hj; exact ⟨u, by simpa using hu, hs⟩⟩
                rcases Nat.eq_zero_or_pos n with hz | hpos
                · -- nothing is stored
                  have hvn : vs = [] := List.length_eq_zero_iff.1 (by omega)
                  subst hvn
                  obtain rfl : cs = cs' := by simpa [setAll] using hset
                  have hyn : (a.eval y).cells.toList = [] := List.length_eq_zero_iff.1 (by rw [Array.length_toList]; omega)
                  refine OpRun.skip hd (hexec a w w _ _ hxe ?_) ⟨E, fp, .v undef, ?_, .refl _ _ _, fun id => .inl rfl⟩
                  · unfold storeVar
                    rw [run_then (run_sizeOf hn w), if_neg (by omega), hyn]; rfl
                  · have := (EntsSat.write (w' := w) hents (s := s) e2 (.refl _ _) (e := .cells t' cs) ⟨s, arr, fz, e1, e2, e3, e4, e5, e6⟩).1
                    exact this
                · have hb1 := (setAll_spec vs cs off cs' hset).1
                  have hle : off + n ≤ arr.size := by
                    rcases hb1 with rfl | hb1
                    · simp at hnl; omega
                    · omega
                  obtain ⟨w', h1, h2, h3⟩ := run_storeVar (P := P) hn (v := a.eval y) e3 e4 hysz hle hyp
                  have hput := cells_put hset hcs hyc (.inr (by omega))
                  have hstay : Stays E w w' := fun k hk hlt => h3.same k hlt (fun ek => by
                    subst ek
                    rcases hk with hk | hk
                    · exact hents.I i _ ((e2 _).2 rfl) hk
                    · exact hents.B i _ ((e2 _).2 rfl) hk)
                  have hput' := hput.mono (.refl E) hstay
                  obtain ⟨g1, g2⟩ := EntsSat.write (w' := w') hents (s := s) e2 h3 (e := .cells t' cs')
                    ⟨s, _, fz, e1, e2, h2, by rw [putAll_size]; exact e4, by simpa using hput'.1, fun j sv hj => by
                      obtain ⟨u, hu, hs⟩ := hput'.2 j sv hj
                      exact ⟨u, by simpa using hu, hs⟩⟩
                  exact OpRun.skip hd (hexec a w w' _ _ hxe h1) ⟨E, fp, .v undef, g1, g2, fun id => .inl rfl⟩
            · exact h.elim
          · exact h.elim
        · exact h.elim
      · exact h.elim
    · exact h.elim
  · rename_i i sz ix off he
    split at h
    · rename_i vs hvs
      split at h
      · rename_i n hn
        split at h
        · rename_i hb
          simp only [Bool.and_eq_true] at hb
          have hnl := Nat.eq_of_beq_eq_true hb.1.1
          have hon := Nat.le_of_ble_eq_true hb.1.2
          have hpos : 0 < n := by have := hb.2; simp [Nat.blt] at this; omega
          split at h
          · rename_i te ty xs hf
            split at h
            · rename_i hb2
              have hsz := Nat.eq_of_beq_eq_true hb2
              obtain ⟨⟨h0, hlt⟩, h⟩ := h
              obtain ⟨e', h⟩ := h.h xs[ix.toNat] (by simp [hlt])
              obtain ⟨hset, h⟩ := h
              refine .inr ⟨_, _, _, _, h, (fun id hid => hid), fun E fp a w hrd hents hfr => ?_⟩
              rw [hops] at hrd
              have hx := ev_sat (E := E) (w := w) hrd (x := x) (by simp)
              rw [he] at hx
              obtain ⟨hyc, hyp⟩ := svCells_sat hvs (ev_sat (E := E) (w := w) hrd (x := y) (by simp))
              have hent := wf_block hents (List.mem_singleton.2 rfl)
              rw [hf] at hent
              obtain ⟨s', e1, e2⟩ := hent
              generalize hxe : a.eval x = xv at hx
              cases hx with
              | elp _ _ _ _ s hs o1 n1 c1 hv =>
                obtain rfl := Option.some.inj (hs.symm.trans e1)
                rcases e2 with ⟨g1, g2, _⟩ | ⟨o2, c2, arr, fz, g1, g2, g3, g4, g5, g6, g7⟩
                · subst g2; simp at hlt
                · rw [g1] at hv
                  obtain ⟨rfl, rfl, rfl⟩ : o2 = o1 ∧ xs.length = n1 ∧ c2 = c1 := by simpa using hv
                  have hysz : (a.eval y).cells.size = n := by have := hyc.1; simp at this; omega
                  have hin : o2 + ix.toNat * sz + sz ≤ arr.size := by
                    have : (ix.toNat + 1) * sz ≤ c2 * sz := Nat.mul_le_mul_right _ (by omega)
                    rw [Nat.add_mul] at this
                    rw [hsz] at this ⊢
                    omega
                  have hle : o2 + ix.toNat * sz + off + n ≤ arr.size := by omega
                  obtain ⟨w', h1, h2, h3⟩ := run_storeVar (P := P) hn (v := a.eval y) g3 g4 hysz hle hyp
                  have hstay : Stays E w w' := fun k hk hlt => h3.same k hlt (fun ek => by
                    subst ek
                    rcases hk with hk | hk
                    · exact hents.I i _ ((g2 _).2 rfl) hk
                    · exact hents.B i _ ((g2 _).2 rfl) hk)
                  obtain ⟨q1, q2, q3⟩ := setAll_spec vs _ off _ hset
                  have hel : (enc ty xs[ix.toNat]).length = sz := by rw [enc_length, hsz]
                  have hrow : EntSat E w' (fp i) i (.row te ty (xs.set ix.toNat e')) := by
                    refine ⟨s, e1, .inr ⟨o2, c2, _, fz, by simpa using g1, g2, h2, by rw [putAll_size]; exact g4, by simpa using g5, by rw [putAll_size]; exact g6, fun k x j sv hk hj => ?_⟩⟩
                    have hjt : j < sz := by
                      have := (List.getElem?_eq_some_iff.1 hj).1
                      rw [enc_length] at this; omega
                    have hkl : k < xs.length := by
                      have := (List.getElem?_eq_some_iff.1 hk).1; simpa using this
                    rw [putAll_get (by simp; omega)]
                    by_cases ek : k = ix.toNat
                    · subst ek
                      obtain rfl : e' = x := by simpa [hlt] using hk
                      rw [q3 j] at hj
                      by_cases hr : off ≤ j ∧ j < off + vs.length
                      · rw [if_pos hr] at hj
                        rw [if_pos (by rw [← hsz]; simp; omega)]
                        obtain ⟨u, hu, hs⟩ := hyc.2 _ _ hj
                        refine ⟨u, ?_, hs.mono (.refl E) hstay⟩
                        rw [← hsz, show o2 + ix.toNat * sz + j - (o2 + ix.toNat * sz + off) = j - off by omega]
                        exact hu
                      · rw [if_neg hr] at hj
                        rw [if_neg (by rw [← hsz]; simp; omega)]
                        obtain ⟨u, hu, hs⟩ := g7 ix.toNat xs[ix.toNat] j sv (by simp [hlt]) hj
                        exact ⟨u, hu, hs.mono (.refl E) hstay⟩
                    · rw [List.getElem?_set_ne (fun e => ek e.symm)] at hk
                      have hfar : ¬ (o2 + ix.toNat * sz + off ≤ o2 + k * ty.size + j ∧ o2 + k * ty.size + j < o2 + ix.toNat * sz + off + (a.eval y).cells.toList.length) := by
                        rw [← hsz]
                        simp only [Array.length_toList, hysz]
                        rcases Nat.lt_or_gt_of_ne ek with hlt2 | hgt2
                        · have : (k + 1) * sz ≤ ix.toNat * sz := Nat.mul_le_mul_right _ hlt2
                          rw [Nat.add_mul] at this
                          omega
                        · have : (ix.toNat + 1) * sz ≤ k * sz := Nat.mul_le_mul_right _ hgt2
                          rw [Nat.add_mul] at this
                          omega
                      rw [if_neg hfar]
                      obtain ⟨u, hu, hs⟩ := g7 k x j sv hk hj
                      exact ⟨u, hu, hs.mono (.refl E) hstay⟩
                  obtain ⟨r1, r2⟩ := EntsSat.write (w' := w') hents (s := s) g2 h3 hrow
                  exact OpRun.skip hd (hexec a w w' _ _ hxe h1) ⟨E, fp, .v undef, r1, r2, fun id => .inl rfl⟩
            · exact h.elim
          · exact h.elim
        · exact h.elim
      · exact h.elim
    · exact h.elim
  · exact h.elim

end
end Go.Eng
