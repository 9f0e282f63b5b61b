/- Parts of the proof, one behind the other (EngP, EngM, EngN, EngR). -/
import Derived.Test.YtoaaieiiamdopaaGreatDoorPk4
import Derived.Lib.ConvBytes
import Derived.Laws.MakeOwn
import Derived.Laws.RangeString
import Derived.RangeFuncRecord
set_option linter.unusedVariables false
set_option linter.unusedSimpArgs false
set_option linter.unusedSectionVars false
/-! The engine, part P: slices and nil; bytes and strings; make. -/
set_option linter.unusedVariables false
namespace Go.Eng
variable [DM]
set_option linter.unusedSectionVars false

section
variable {r : Option Nat} {P : Program} {G : Nat → Option Ctr} {o : Oper} {T : Tm} {M : En} {lo : Nat} {Kp : SV → List Nat → Prop} {Kg : SV → List Nat → List Nat → En → Prop}

theorem equal_sl_nil {t : TypeId} (hp : isSliceT P t = true) (a : Option Addr) (l c : Nat) (w : World) : (Op.equal t (.slice a l c) (.slice none 0 0)).run P w = .ok a.isNone w := by
  obtain ⟨e, hu⟩ := isSliceT_spec hp
  unfold Op.equal Op.maxDepth
  unfold Op.equalIn
  rw [run_then (run_underlying' hu w)]
  cases a <;> rfl

theorem nilQ_spec {op : BinOp} {n : Nat} {K : SV → Prop} (h : nilQ op n K) : ∃ p, K (.unkB p) ∧ ∀ (b : Bool), (b = true → n = 0) → (op = .eql ∧ p b) ∨ (op = .neq ∧ p (!b)) := by
  unfold nilQ at h
  split at h
  · exact ⟨_, h, fun b hb => .inl ⟨rfl, hb⟩⟩
  · exact ⟨_, h, fun b hb => .inr ⟨rfl, fun e => hb (by cases b <;> simp_all)⟩⟩
  · exact h.elim

theorem plainL_spec : ∀ (l : List SV) (a : List Value), plainL l = some a → l = a.map .v
  | [], a, h => by simp [plainL] at h; subst h; rfl
  | s :: l, a, h => by
    cases s with
    | v x =>
      simp only [plainL] at h
      split at h
      · rename_i r hr
        obtain rfl := Option.some.inj h
        simp [plainL_spec l r hr]
      · cases h
    | _ => simp [plainL] at h
theorem plainL_sat {E : Env} {w : World} {l : List SV} {a : List Value} {v : Value} (h : Sat E w (.agg l) v) (hp : plainL l = some a) : v = .agg a.toArray := by
  have e := plainL_spec l a hp
  subst e
  cases h with
  | agg _ vs u hl hu hs =>
    congr 1
    apply Array.ext_getElem?
    intro j
    by_cases hj : j < (a.map SV.v).length
    · have h1 := hu j hj
      have hj' : j < a.length := by simpa using hj
      have h2 := hs j (.v a[j]) (by simp [hj'])
      have h3 : u j = a[j] := by generalize u j = q at h2; cases h2; rfl
      rw [h1, h3]; simp [hj']
    · rw [Array.getElem?_eq_none (by omega), Array.getElem?_eq_none (by simpa using hj)]

theorem eqOk_run {t : TypeId} {a b : List Value} {r : Bool} (h : (eqOkB P t (kds a) && eqOkB P t (kds b)) = true) (he : eqLv a b = some r) (w : World) :
    (Op.equalIn 10000 t (.agg a.toArray) (.agg b.toArray)).run P w = .ok r w ∧ P.eqGuardType P.depth t = false := by
  simp only [Bool.and_eq_true] at h
  obtain ⟨h1, h2⟩ := h
  unfold eqOkB at h1 h2
  split at h1
  · rename_i l hl hag
    rw [hl, hag] at h2
    simp only [Bool.and_eq_true, Bool.not_eq_true', beq_iff_eq] at h1 h2
    exact ⟨(eq_run (P := P) 20).1 t l hl a b r h1.1.symm h2.1.symm he 10000 (by omega) w _ _ (.inl ⟨hag, rfl⟩) (.inl ⟨hag, rfl⟩), h1.2⟩
  · cases h1

theorem led_binW {op : BinOp} {t t' : TypeId} {x y : Operand} (hop : o.op = .binOp op t x y t') (h : binW P op t (ev T x) (ev T y) M Kp) : Led r P o T M lo Kp Kg := by
  have hops : opsOf o = opTmps [x, y] := by simp [opsOf, hop, Op.operands]
  have hd : ∀ c, o.op ≠ .defer c := fun c => by simp [hop]
  have nil' : isNilSl (ev T y) = true → ∀ (E : Env) (w : World) (a : Act), Sat E w (ev T y) (a.eval y) → a.eval y = .slice none 0 0 := fun hn E w a hs => by
    unfold isNilSl at hn
    split at hn
    · rename_i hv; rw [hv] at hs; generalize a.eval y = q at hs; cases hs; rfl
    · cases hn
  have run : isSliceT P t = true → ∀ (a : Act) (w : World) (A : Option Addr) (l c : Nat), a.eval x = .slice A l c → a.eval y = .slice none 0 0 → (op = .eql ∨ op = .neq) →
      (execOp a.eval o).run P w = .ok (.value (.bool (if op = .eql then A.isNone else !A.isNone))) w := fun ht a w A l c hx hy ho => by
    refine exec_bin hop (by rw [hx]; exact fun _ e => by cases e) (by rw [hx]; exact fun e => by cases e) ?_
    rw [hx, hy]
    rcases ho with rfl | rfl
    · simp only [binOp]; rw [run_then (equal_sl_nil ht A l c w)]; rfl
    · simp only [binOp]; rw [run_then (equal_sl_nil ht A l c w)]; rfl
  -- a slice whose length is known
  have go : ∀ (n : Nat) (S : List Nat), isNilSl (ev T y) = true → isSliceT P t = true → nilQ op n (fun s => Kp s S) →
      (∀ (E : Env) (fp : Nat → Nat → Prop) (w : World) (v : Value), EntsSat E w fp (sub M S) → Sat E w (ev T x) v → ∃ A l c, v = .slice A l c ∧ (A.isNone = true → n = 0)) → Led r P o T M lo Kp Kg := fun n S h1 h2 h3 h4 => by
    obtain ⟨p, hk, hp⟩ := nilQ_spec h3
    refine led_p hk hd (fun E fp a w hrd hents => ?_)
    rw [hops] at hrd
    obtain ⟨A, l, c, hx, hn⟩ := h4 E fp w _ hents (ev_sat (E := E) (w := w) hrd (x := x) (by simp))
    have hy := nil' h1 E w a (ev_sat (E := E) (w := w) hrd (x := y) (by simp))
    rcases hp A.isNone hn with ⟨ho, hb⟩ | ⟨ho, hb⟩
    · exact ⟨_, run h2 a w A l c hx hy (.inl ho), by rw [if_pos ho]; exact .unkB _ _ hb⟩
    · exact ⟨_, run h2 a w A l c hx hy (.inr ho), by rw [if_neg (by rw [ho]; simp)]; exact .unkB _ _ hb⟩
  unfold binW at h
  split at h
  · rename_i i hx
    split at h
    · rename_i hc
      simp only [Bool.and_eq_true] at hc
      split at h
      · rename_i te ty xs hf
        refine go xs.length [i] hc.1 hc.2 h (fun E fp w v hents hv => ?_)
        have hent := wf_block hents (List.mem_singleton.2 rfl)
        rw [hf] at hent
        obtain ⟨s', g0, g⟩ := hent
        rw [hx] at hv
        cases hv with
        | sl _ s hs =>
          obtain rfl := Option.some.inj (hs.symm.trans g0)
          rcases g with ⟨g1, g2, _⟩ | ⟨o2, c2, arr, fz, g1, _⟩
          · subst g2; exact ⟨_, _, _, g1, fun _ => rfl⟩
          · exact ⟨_, _, _, g1, fun hn => by cases hn⟩
      · exact h.elim
    · exact h.elim
  · rename_i b ty xs hx
    split at h
    · rename_i hc
      simp only [Bool.and_eq_true] at hc
      refine go xs.length [] hc.1 hc.2 h (fun E fp w v _ hv => ?_)
      rw [hx] at hv
      cases hv with
      | nil _ _ A c => exact ⟨_, _, _, rfl, fun _ => rfl⟩
      | ro _ _ _ k o c u hb hle hc hs => exact ⟨_, _, _, rfl, fun hn => by cases hn⟩
    · exact h.elim
  · rename_i i off len cap hx
    split at h
    · rename_i hc
      simp only [Bool.and_eq_true] at hc
      obtain ⟨_, h⟩ := notNil_spec h
      have fin : ∀ b : Bool, (op = .eql ∨ op = .neq) → b = (if op = .eql then false else true) → Kp (.v (.bool b)) [] → Led r P o T M lo Kp Kg := fun b ho hb hk => by
        refine led_p hk hd (fun E fp a w hrd _ => ⟨.bool b, ?_, .v _⟩)
        rw [hops] at hrd
        have e1 := ev_sat (E := E) (w := w) hrd (x := x) (by simp)
        have hy := nil' hc.1 E w a (ev_sat (E := E) (w := w) hrd (x := y) (by simp))
        rw [hx] at e1
        generalize hq : a.eval x = q at e1
        cases e1 with
        | slc _ _ _ _ s hs =>
          have := run hc.2 a w _ _ _ hq hy ho
          rw [this, hb]
          rcases ho with rfl | rfl <;> rfl
      rcases h with ⟨rfl, hk⟩ | ⟨rfl, hk⟩
      · exact fin false (.inl rfl) rfl hk
      · exact fin true (.inr rfl) rfl hk
    · exact h.elim
  · rename_i l hx
    split at h
    · rename_i l' hy
      unfold eqAggV at h
      split at h
      · rename_i va ha
        split at h
        · rename_i vb hb
          split at h
          · rename_i rr hr
            have fin : ∀ bb : Bool, (eqOkB P t (kds va) && eqOkB P t (kds vb)) = true → ((op = .eql ∧ bb = rr) ∨ (op = .neq ∧ bb = !rr)) → Kp (.v (.bool bb)) [] → Led r P o T M lo Kp Kg := fun bb hok ho hk => by
              refine led_p hk hd (fun E fp a w hrd _ => ⟨.bool bb, ?_, .v _⟩)
              rw [hops] at hrd
              have e1 := ev_sat (E := E) (w := w) hrd (x := x) (by simp)
              have e2 := ev_sat (E := E) (w := w) hrd (x := y) (by simp)
              rw [hx] at e1
              rw [hy] at e2
              have e1 := plainL_sat e1 ha
              have e2 := plainL_sat e2 hb
              obtain ⟨g1, g2⟩ := eqOk_run hok hr w
              simp only [execOp, hop]
              refine ok_value ?_
              rw [e1, e2, run_then (run_eqGuard_agg w op t x y _ _ g2)]
              rcases ho with ⟨rfl, rfl⟩ | ⟨rfl, rfl⟩
              · rw [run_eql_struct, g1]; rfl
              · rw [run_neq_struct, g1]; rfl
            split at h
            · exact fin _ h.e (.inl ⟨rfl, rfl⟩) h.h
            · exact fin _ h.e (.inr ⟨rfl, rfl⟩) h.h
            · exact h.elim
          · exact h.elim
        · exact h.elim
      · exact h.elim
    · exact h.elim
  · exact led_bin hop h

theorem bytesT_spec {t e : TypeId} (h : bytesT P t = some e) : P.underlying t = some (.slice e) ∧ P.underlying e = some (.int .u8) := by
  unfold bytesT at h
  split at h
  · rename_i e' hu
    split at h
    · rename_i he; obtain rfl := Option.some.inj h; exact ⟨hu, he⟩
    · cases h
  · cases h
theorem isStrT_spec {t : TypeId} (h : isStrT P t = true) : P.underlying t = some .string := by
  unfold isStrT at h; split at h; assumption; cases h

theorem flat_ints (ys : List Int) : flatF (enc (.int .u8)) ys = ys.map fun n => SV.v (.int .u8 n) := by
  induction ys with
  | nil => rfl
  | cons y ys ih =>
    show [SV.v (.int .u8 y)] ++ flatF (enc (.int .u8)) ys = _
    rw [ih]; rfl

theorem firstCells_string {src dst e : TypeId} (hs : P.underlying src = some (.slice e)) (he : P.underlying e = some (.int .u8)) (hd : P.underlying dst = some .string) {A : Option Addr} {c : Nat} {ys : List Int} {cells : Array Value} {w : World}
    (h : (Builtin.firstCells 1 ys.length (.slice A ys.length c)).run P w = .ok cells w) (hc : cells.toList = ys.map (Value.int .u8)) :
    (convert src dst (.slice A ys.length c)).run P w = .ok (.string (strOfNums ys)) w := by
  rw [run_convert_bytes_string w src dst e A ys.length c hs he hd]
  cases A with
  | none =>
    have h : (.ok #[] w : Result (Array Value)) = .ok cells w := h
    have hc0 : cells = #[] := by injection h with h1 _; exact h1.symm
    subst hc0
    have : ys = [] := by simpa using hc.symm
    subst this
    simp [Conv.bytesToString, strOfNums, Sem.run_pure]
    rfl
  | some ad =>
    have h : (loadCells ad (ys.length * 1)).run P w = .ok cells w := h
    rw [Nat.mul_one] at h
    have hca : cells = (ys.map (Value.int .u8)).toArray := by rw [← hc]
    rw [hca] at h
    rw [run_bytesToString w ad ys.length c ys h, foldl_push_bytes]
    simp [strOfNums, ByteArray.empty, ByteArray.emptyWithCapacity]
    rfl

/-- Bytes as bytes: the model marks the block behind its end. -/
theorem run_conv_same {t e te : TypeId} (ht : P.underlying t = some (.slice e)) (he : P.underlying e = some (.int .u8)) {k o n c : Nat} {w : World} {arr : Array Value} {fz : Nat × Nat} (hb : w.heap[k]? = some (.cells arr te fz)) :
    (convert t t (.slice (some ⟨k, o, none⟩) n c)).run P w = .ok (.slice (some ⟨k, o, none⟩) n c) (w.freeze ⟨k, arr.size, none⟩ 1) := by
  have hsh : w.shape? k = some (te, arr.size) := by simp [World.shape?, hb]
  simp [convert, run_underlying ht, run_underlying he, markStringish, hsh]
theorem freeze_at {w : World} {k n : Nat} {arr : Array Value} {te : TypeId} {fz : Nat × Nat} (hb : w.heap[k]? = some (.cells arr te fz)) (hu : unfrozen fz arr.size) (hn : n = arr.size) :
    ∃ fz', (w.freeze ⟨k, n, none⟩ 1).heap[k]? = some (.cells arr te fz') ∧ unfrozen fz' arr.size ∧ Keep (fun b => b = k) w (w.freeze ⟨k, n, none⟩ 1) := by
  subst hn
  obtain ⟨lo, hi⟩ := fz
  have hk : Keep (fun b => b = k) w (w.freeze ⟨k, arr.size, none⟩ 1) := by
    unfold World.freeze
    rw [if_neg (by omega)]
    exact ⟨rfl, .same rfl rfl, rfl, Nat.le_of_eq Array.size_modify.symm, fun b _ hn => by simp only [Array.getElem?_modify]; rw [if_neg (fun e => hn e.symm)]⟩
  unfold World.freeze at hk ⊢
  rw [if_neg (by omega)] at hk ⊢
  refine ⟨if (lo == hi) = true then (arr.size, arr.size + 1) else (min lo arr.size, max hi (arr.size + 1)), by simp [Array.getElem?_modify, hb], ?_, hk⟩
  by_cases hlh : lo = hi
  · rw [if_pos (by simpa using hlh)]; exact .inr (Nat.le_refl _)
  · rw [if_neg (by simpa using hlh)]
    unfold unfrozen at hu ⊢
    dsimp only at hu ⊢
    omega
theorem led_conv {src dst : TypeId} {x : Operand} (hop : o.op = .convert src dst x) (h : convW P src dst (ev T x) lo M Kp Kg (genV P o T fun s => Kp s [])) : Led r P o T M lo Kp Kg := by
  have hops : opsOf o = opTmps [x] := by simp [opsOf, hop, Op.operands]
  have hd : ∀ c, o.op ≠ .defer c := fun c => by simp [hop]
  have hg : genV P o T (fun s => Kp s []) → Led r P o T M lo Kp Kg := led_gen (fun cs b => by simp [hop]) hd
  unfold convW at h
  split at h
  · rename_i e he
    split at h
    · rename_i hst
      obtain ⟨hu, hue⟩ := bytesT_spec he
      obtain ⟨ys, S, hk, hsrc⟩ := srcV_spec (P := P) h
      refine led_p hk hd (fun E fp a w hrd hents => ⟨_, ?_, .v _⟩)
      rw [hops] at hrd
      obtain ⟨A, c, cells, c1, c2, c3⟩ := hsrc E fp w _ (fun i hi => wf_block hents hi) (ev_sat (E := E) (w := w) hrd (x := x) (by simp))
      simp only [execOp, hop]
      refine ok_value ?_
      rw [c1]
      rw [c1] at c2
      refine firstCells_string hu hue (isStrT_spec hst) (c2 w rfl) ?_
      rw [flat_ints] at c3
      refine List.ext_getElem? fun j => ?_
      by_cases hj : j < ys.length
      · obtain ⟨u, hu, hs⟩ := c3.2 j (.v (.int .u8 ys[j])) (by simp [hj])
        cases hs
        rw [hu]; simp [hj]
      · rw [List.getElem?_eq_none (by rw [c3.1]; simp; omega), List.getElem?_eq_none (by simp; omega)]
    · split at h
      · rename_i i0 o0 l0 c0 hx
        split at h
        · rename_i hb
          obtain rfl := Nat.eq_of_beq_eq_true hb
          split at h
          · rename_i te cs hf
            split at h
            · rename_i l' hcut
              split at h
              · rename_i xs hdec
                obtain ⟨hlc, hcut⟩ : l0 ≤ c0 ∧ cutS cs o0 l0 = some l' := by
                  cases hle : Nat.ble l0 c0 with
                  | true => rw [hle] at hcut; exact ⟨Nat.le_of_ble_eq_true hle, hcut⟩
                  | false => rw [hle] at hcut; cases hcut
                obtain ⟨hcl, hcg⟩ := cutS_spec cs o0 l0 l' hcut
                obtain ⟨hxl, hsp⟩ := decL_spec (.int .u8) l0 l' xs hdec
                obtain ⟨hu, hue⟩ := bytesT_spec he
                refine .inr ⟨_, _, _, _, h, (fun id hid => hid), fun E fp a w hrd hents hfr => ?_⟩
                rw [hops] at hrd
                have e1 := ev_sat (E := E) (w := w) hrd (x := x) (by simp)
                rw [hx] at e1
                have hent := wf_block hents (List.mem_singleton.2 rfl)
                rw [hf] at hent
                obtain ⟨s, arr, fz, q1, q2, q3, q4, q5, q6⟩ := hent
                have f1 : a.eval x = .slice (some ⟨s.blk, o0, none⟩) l0 c0 := by
                  generalize a.eval x = q at e1
                  cases e1 with
                  | slc _ _ _ _ s' hs => obtain rfl := Option.some.inj (hs.symm.trans q1); rfl
                obtain ⟨fz', k1, k2, k3⟩ := freeze_at q3 q4 rfl
                have hk : Keep (own fp) w (w.freeze ⟨s.blk, arr.size, none⟩ 1) := k3.mono (fun b hb => ⟨i0, (q2 b).2 hb⟩)
                have hlt : s.blk < (w.freeze ⟨s.blk, arr.size, none⟩ 1).heap.size := (Array.getElem?_eq_some_iff.1 k1).1
                let E' : Env := { E with I := fun b => E.I b ∨ b = s.blk }
                have hle : E.le E' := ⟨fun _ _ h => h, fun _ h => .inl h, fun _ h => h⟩
                have hcs : CellsAre E w l' (arr.toList.drop o0 |>.take l0) := by
                  have hlen : ∀ j, j < l0 → (arr.toList.drop o0 |>.take l0)[j]? = arr[o0 + j]? := fun j hj => by
                    rw [List.getElem?_take_of_lt hj, List.getElem?_drop, Array.getElem?_toList]
                  have hall : ∀ j, j < l0 → o0 + j < arr.size := fun j hj => by
                    have h1 := (hcg j hj).trans (List.getElem?_eq_getElem (show j < l'.length by omega))
                    have := (List.getElem?_eq_some_iff.1 h1).1
                    omega
                  refine ⟨?_, fun j sv hj => ?_⟩
                  · rw [hcl, List.length_take, List.length_drop, Array.length_toList]
                    rcases Nat.eq_zero_or_pos l0 with h0 | hp
                    · omega
                    · have := hall (l0 - 1) (by omega); omega
                  · have hjl : j < l0 := by have := (List.getElem?_eq_some_iff.1 hj).1; omega
                    obtain ⟨u, hu1, hu2⟩ := q6 (o0 + j) sv (by rw [hcg j hjl]; exact hj)
                    exact ⟨u, by rw [hlen j hjl]; exact hu1, hu2⟩
                have hxs := hsp E w _ hcs
                rw [flat_ints] at hxs
                have hcell : ∀ m, m < xs.length → (w.freeze ⟨s.blk, arr.size, none⟩ 1).cell? ⟨s.blk, o0 + m, none⟩ = some (.int .u8 (xs.getD m 0)) := fun m hm => by
                  obtain ⟨u, hu1, hu2⟩ := hxs.2 m (.v (.int .u8 (xs.getD m 0))) (by simp [hm])
                  cases hu2
                  rw [List.getElem?_take_of_lt (by omega), List.getElem?_drop, Array.getElem?_toList] at hu1
                  simp [World.cell?, k1, hu1]
                refine OpRun.value (v := .slice (some ⟨s.blk, o0, none⟩) l0 c0) hd ?_ ⟨E', fun _ _ => False, ?_, ⟨fun id => ?_, fun _ _ h => h.elim, fun _ _ h => h.elim, fun _ _ h => h.elim, fun _ _ _ _ h => h.elim, fun b hb => ?_, hents.nil.mono hle, hents.glob (hents.stays hk) (fun _ h => .inl h)⟩,
                  ⟨hk, hle, fun b hb => ?_, fun _ h => h, fun _ _ h => h.elim⟩, fun id => .inl rfl⟩
                · simp only [execOp, hop]
                  refine ok_value ?_
                  rw [f1]
                  exact run_conv_same hu hue q3
                · rw [← hxl]
                  refine .ro false (.int .u8) xs s.blk o0 c0 (fun m => .int .u8 (xs.getD m 0)) (.inl (.inr rfl)) (by omega) (fun m hm => hcell m (by simpa [Ty.size] using hm)) (fun i y j sv hi hj => ?_)
                  cases j with
                  | zero =>
                    have hj : [SV.v (.int .u8 y)][0]? = some sv := hj
                    obtain rfl : SV.v (.int .u8 y) = sv := by simpa using hj
                    have : xs.getD (i * Ty.size (.int .u8) + 0) 0 = y := by
                      have e : i * Ty.size (.int .u8) + 0 = i := by simp [Ty.size]
                      rw [e]; simp [hi]
                    show Sat _ _ _ (Value.int .u8 (xs.getD (i * Ty.size (.int .u8) + 0) 0))
                    rw [this]; exact .v _
                  | succ j =>
                    have hj : (none : Option SV) = some sv := hj
                    cases hj
                · have : find (upd [] [i0] (sub M [i0])) id = .gone := by
                    rw [find_upd, if_neg (by simp [keys])]
                    by_cases h0 : id = i0
                    · rw [if_pos (by simp [h0])]
                    · rw [if_neg (by simp [h0]), find_sub, if_neg (by simp [h0])]
                  rw [this]; exact fun b h => h
                · rcases hb with (hb | rfl) | hb
                  · exact Nat.lt_of_lt_of_le (hents.Ilt b (.inl hb)) hk.size
                  · exact hlt
                  · exact Nat.lt_of_lt_of_le (hents.Ilt b (.inr hb)) hk.size
                · rcases hb with hb | rfl
                  · exact .inl hb
                  · exact .inr (.inl ⟨i0, (q2 _).2 rfl⟩)
              · exact h.elim
            · exact h.elim
          · exact h.elim
        · exact h.elim
      · exact hg h
  · split at h
    · rename_i e he
      split at h
      · rename_i hst
        obtain ⟨hu, hue⟩ := bytesT_spec he
        split at h
        · rename_i s hx
          refine .inr ⟨_, [], [], _, h, (fun id hid => by cases hid), fun E fp a w hrd hents hfr => ?_⟩
          rw [hops] at hrd
          have e1 := ev_sat (E := E) (w := w) hrd (x := x) (by simp)
          rw [hx] at e1
          have f1 : a.eval x = .string s := by generalize a.eval x = q at e1; cases e1; rfl
          have hlo := hfr lo (Nat.le_refl _) (by omega)
          let w' := Lib.bytesWorld w e s
          let sl : Slot := ⟨w.heap.size, some ⟨w.heap.size, 0, none⟩, s.size, grownCap w s.size 0 e⟩
          have hrun : (execOp a.eval o).run P w = .ok (.value (.slice (some ⟨w.heap.size, 0, none⟩) s.size (grownCap w s.size 0 e))) w' := by
            simp only [execOp, hop]
            refine ok_value ?_
            rw [f1]
            exact Lib.run_convert_string_bytes w src dst e s (isStrT_spec hst) hu hue
          have hsz : w'.heap.size = w.heap.size + 1 := Lib.bytesWorld_size w e s
          have hkeep : Keep (fun _ => False) w w' := ⟨rfl, ⟨rfl, fun _ => Nat.le_succ _⟩, rfl, by omega, fun b hb _ => Lib.bytesWorld_at_old w e s b hb⟩
          have hcap : s.size ≤ grownCap w s.size 0 e := by have := grownCap_ge w s.size 0 e; omega
          have hlen : (bytesL s).length = s.size := by
            show (s.data.toList.map _).length = s.data.size
            simp
          have hbs : (Lib.bytesCells w e s).size = grownCap w s.size 0 e := by
            simp only [Lib.bytesCells, Array.size_append, Array.size_map, Array.size_replicate]
            show s.size + _ = _
            omega
          obtain ⟨g1, g2⟩ := hents.fresh (w' := w') (s := sl) (e := .row e (.int .u8) (bytesL s)) hlo rfl hkeep (by omega)
            ⟨sl, Env.with_self _ _ _, .inr ⟨0, grownCap w s.size 0 e, Lib.bytesCells w e s, _, by rw [hlen]; rfl, fun b => Iff.rfl, Lib.bytesWorld_at_new w e s, (by first | exact .inr (Nat.le_refl _) | exact .inl rfl), by omega, by rw [hbs]; simp [Ty.size],
              fun i x j sv hi hj => by
                cases j with
                | zero =>
                  have hj : [SV.v (.int .u8 x)][0]? = some sv := hj
                  obtain rfl : SV.v (.int .u8 x) = sv := by simpa using hj
                  refine ⟨.int .u8 x, ?_, .v _⟩
                  have hi' := (List.getElem?_eq_some_iff.1 hi).1
                  rw [hlen] at hi'
                  simp only [Ty.size, Nat.mul_one, Nat.zero_add, Nat.add_zero, Lib.bytesCells]
                  rw [Array.getElem?_append_left (by simpa using hi')]
                  simp only [bytesL, List.getElem?_map, Array.getElem?_toList] at hi
                  rw [Array.getElem?_map]
                  cases hb : s.data[i]? with
                  | none => rw [hb] at hi; cases hi
                  | some b =>
                    rw [hb] at hi
                    have hi : (some ((b.toNat : Nat) : Int) : Option Int) = some x := hi
                    obtain rfl := Option.some.inj hi
                    rfl
                | succ j =>
                  have hj : (none : Option SV) = some sv := hj
                  cases hj⟩⟩
          refine OpRun.value hd hrun ⟨E.with lo sl, _, Sat.sl lo sl (Env.with_self _ _ _), ?_, g2, fun id => ?_⟩
          · simpa [upd, gones, sub] using g1
          · by_cases e : id = lo
            · exact .inr (by omega)
            · exact .inl (Env.with_other e)
        · exact h.elim
      · exact hg h
    · exact hg h

theorem led_index {t : TypeId} {x i : Operand} (hop : o.op = .index t x i) (h : indexW P t (ev T x) (ev T i) Kp (genV P o T fun s => Kp s [])) : Led r P o T M lo Kp Kg := by
  have hops : opsOf o = opTmps [x, i] := by simp [opsOf, hop, Op.operands]
  have hd : ∀ c, o.op ≠ .defer c := fun c => by simp [hop]
  have hg : genV P o T (fun s => Kp s []) → Led r P o T M lo Kp Kg := led_gen (fun cs b => by simp [hop]) hd
  unfold indexW at h
  split at h
  · rename_i hst
    split at h
    · rename_i s hx
      split at h
      · rename_i k n hi
        obtain ⟨⟨h0, h1⟩, hk⟩ := h
        refine led_p hk hd (fun E fp a w hrd _ => ⟨_, ?_, .v _⟩)
        rw [hops] at hrd
        have e1 := ev_sat (E := E) (w := w) hrd (x := x) (by simp)
        have e2 := ev_sat (E := E) (w := w) hrd (x := i) (by simp)
        rw [hx] at e1; rw [hi] at e2
        have f1 : a.eval x = .string s := by generalize a.eval x = q at e1; cases e1; rfl
        have f2 : a.eval i = .int k n := by generalize a.eval i = q at e2; cases e2; rfl
        simp only [execOp, hop]
        refine ok_value ?_
        rw [f1, f2]
        unfold Instr.index
        rw [run_then (run_asIntOf w)]
        dsimp only
        rw [run_then (run_underlying' (isStrT_spec hst) w)]
        dsimp only
        rw [if_pos h0]
        have hlt : n.toNat < s.size := by omega
        have hb : s[n.toNat]? = some s[n.toNat] := by simp [hlt]
        rw [hb]
        simp only [byteAt, hb]
        rfl
      · exact h.elim
    · exact h.elim
  · exact hg h

theorem bnd_spec {x : Option Operand} {d : Int} {K : Int → Prop} (h : bndV T x d K) : ∃ n, K n ∧ ∀ (E : Env) (w : World) (a : Act), (∀ y, x = some y → Sat E w (ev T y) (a.eval y)) →
    (x = none ∧ n = d) ∨ ∃ y k, x = some y ∧ a.eval y = .int k n := by
  unfold bndV at h
  split at h
  · exact ⟨d, h, fun E w a _ => .inl ⟨rfl, rfl⟩⟩
  · rename_i y
    split at h
    · rename_i k n hv
      refine ⟨n, h, fun E w a hs => .inr ⟨y, k, rfl, ?_⟩⟩
      have := hs y rfl
      rw [hv] at this
      generalize a.eval y = q at this
      cases this; rfl
    · exact h.elim

theorem sliceBounds_run {b : Bool} {len cap : Nat} {lo hi : Option Value} {l h : Int} {w : World} (h1 : (lo = none ∧ l = 0) ∨ ∃ k, lo = some (.int k l)) (h2 : (hi = none ∧ h = len) ∨ ∃ k, hi = some (.int k h))
    (h3 : 0 ≤ l ∧ l ≤ h ∧ h ≤ len) (hc : len ≤ cap) : (Instr.sliceBounds b len cap lo hi none).run P w = .ok (l.toNat, h.toNat, cap) w := by
  have bnd : ∀ (k : IntKind) (i : Int) (y : Nat) (code : BoundsCode), 0 ≤ i ∧ i ≤ y → (Instr.sliceBound (.int k i) y code).run P w = .ok i.toNat w := fun k i y code hb => by
    unfold Instr.sliceBound
    rw [run_then (run_asIntOf w)]
    dsimp only
    rw [if_pos hb]; rfl
  have e2 : ((h.toNat : Nat) : Int) = h := by omega
  unfold Instr.sliceBounds
  dsimp only
  rw [run_then (show (pure cap : Sem Nat).run P w = .ok cap w from rfl)]
  rcases h2 with ⟨rfl, rfl⟩ | ⟨k2, rfl⟩
  · dsimp only
    rw [run_then (show (pure len : Sem Nat).run P w = .ok len w from rfl)]
    rcases h1 with ⟨rfl, rfl⟩ | ⟨k1, rfl⟩
    · dsimp only
      rw [run_then (show (pure 0 : Sem Nat).run P w = .ok 0 w from rfl)]
      rfl
    · dsimp only
      rw [run_then (bnd k1 l len _ ⟨h3.1, h3.2.1⟩)]
      rfl
  · dsimp only
    rw [run_then (bnd k2 h cap _ ⟨by omega, by omega⟩)]
    rcases h1 with ⟨rfl, rfl⟩ | ⟨k1, rfl⟩
    · dsimp only
      rw [run_then (show (pure 0 : Sem Nat).run P w = .ok 0 w from rfl)]
      rfl
    · dsimp only
      rw [run_then (bnd k1 l h.toNat _ ⟨h3.1, by omega⟩)]
      rfl

theorem sliceBounds_max {P : Program} {k1 k2 k3 : IntKind} {len cap : Nat} {l h m : Int} {low : Option Value} {w : World} (h1 : (low = none ∧ l = 0) ∨ ∃ k, low = some (.int k l)) (hb : 0 ≤ l ∧ l ≤ h ∧ h ≤ m ∧ m ≤ cap) :
    (Instr.sliceBounds true len cap low (some (.int k2 h)) (some (.int k3 m))).run P w = .ok (l.toNat, h.toNat, m.toNat) w := by
  have bnd : ∀ (k : IntKind) (v : Int) (mx : Nat) (c : BoundsCode), 0 ≤ v ∧ v ≤ mx → (Instr.sliceBound (.int k v) mx c).run P w = .ok v.toNat w := fun k v mx c hv => by
    unfold Instr.sliceBound
    rw [run_then (run_asIntOf w)]
    simp [hv.1, hv.2]
  unfold Instr.sliceBounds
  dsimp only
  rw [run_then (bnd k3 m cap _ ⟨by omega, hb.2.2.2⟩)]
  rw [run_then (bnd k2 h m.toNat _ ⟨by omega, by omega⟩)]
  rcases h1 with ⟨rfl, rfl⟩ | ⟨k, rfl⟩
  · dsimp only
    rw [run_then (show (pure 0 : Sem Nat).run P w = .ok 0 w from rfl)]
    rfl
  · dsimp only
    rw [run_then (bnd k l h.toNat _ ⟨hb.1, by omega⟩)]
    rfl

/-- A part of a slice that is only read. -/
theorem ro_cut {E : Env} {w : World} {b : Bool} {ty : Ty} {xs : List ty.den} {A A' : Option Addr} {c c' lv hv : Nat} (hs : Sat E w (.ro b ty xs) (.slice A xs.length c)) (hb : lv ≤ hv ∧ hv ≤ xs.length)
    (hA : hv - lv = 0 ∨ A' = A.map (·.add (lv * ty.size))) (hc' : hv - lv ≤ c') : Sat E w (.ro b ty ((xs.take hv).drop lv)) (.slice A' (hv - lv) c') := by
  have hlen : ((xs.take hv).drop lv).length = hv - lv := by simp; omega
  rcases Nat.eq_zero_or_pos (hv - lv) with h0 | hpos
  · have : (xs.take hv).drop lv = [] := List.eq_nil_of_length_eq_zero (by omega)
    rw [this, h0]
    exact .nil b ty _ _
  · have hA := hA.resolve_left (by omega)
    generalize hq : Value.slice A xs.length c = q at hs
    cases hs with
    | nil _ _ A0 c0 => simp at hb; omega
    | ro _ _ _ k o1 c1 u hbk hle hc hs =>
      cases hq
      have hA2 : A' = some ⟨k, o1 + lv * ty.size, none⟩ := by
        rw [hA]
        show some (Addr.add ⟨k, o1, none⟩ (lv * ty.size)) = _
        rw [add_none]
      rw [hA2, ← hlen]
      have hm : ∀ m, m < ((xs.take hv).drop lv).length * ty.size → lv * ty.size + m < xs.length * ty.size := fun m hm => by
        rw [hlen] at hm
        have h1 : lv * ty.size + m < lv * ty.size + (hv - lv) * ty.size := by omega
        rw [← Nat.add_mul] at h1
        exact Nat.lt_of_lt_of_le h1 (Nat.mul_le_mul_right _ (by omega))
      refine .ro b ty _ k (o1 + lv * ty.size) c' (fun m => u (lv * ty.size + m)) hbk (by omega) (fun m hm' => ?_) (fun i y j sv hi hj => ?_)
      · have := hc (lv * ty.size + m) (hm m hm')
        rw [Nat.add_assoc]; exact this
      · rw [List.getElem?_drop, List.getElem?_take] at hi
        split at hi
        · have := hs (lv + i) y j sv hi hj
          rw [Nat.add_mul, Nat.add_assoc] at this
          exact this
        · cases hi

theorem led_slice {t : TypeId} {x : Operand} {l h' m : Option Operand} (hop : o.op = .slice t x l h' m) (h : sliceW P t (ev T x) T l h' m lo M Kp Kg) : Led r P o T M lo Kp Kg := by
  have hops : opsOf o = opTmps ([x] ++ l.toList ++ h'.toList ++ m.toList) := by simp [opsOf, hop, Op.operands]
  have hd : ∀ c, o.op ≠ .defer c := fun c => by simp [hop]
  have bd : ∀ (y : Option Operand) (v : Int) (d : Int) (a : Act), ((y = none ∧ v = d) ∨ ∃ z k, y = some z ∧ a.eval z = .int k v) → (y.map a.eval = none ∧ v = d) ∨ ∃ k, y.map a.eval = some (.int k v) := by
    rintro y v d a (⟨rfl, e⟩ | ⟨z, k, rfl, e⟩)
    · exact .inl ⟨rfl, e⟩
    · exact .inr ⟨k, by simp [e]⟩
  unfold sliceW at h
  cases m with
  | some y =>
    dsimp only at h
    split at h
    · rename_i b ty xs hx
      split at h
      · rename_i e hu
        split at h
        · rename_i n hn
          split at h
          · rename_i hne
            obtain rfl := Nat.eq_of_beq_eq_true hne
            split at h
            · rename_i hy0
              obtain ⟨lv, h, hl⟩ := bnd_spec h
              obtain ⟨hv, h, hh⟩ := bnd_spec h
              obtain ⟨mv, h, hm⟩ := bnd_spec h
              obtain ⟨hb, hk⟩ := h
              refine .inl ⟨_, [], hk, loc_pure hd (fun E fp a w hrd hents => ?_)⟩
              rw [hops] at hrd
              have e1 := ev_sat (E := E) (w := w) hrd (x := x) (by simp)
              rw [hx] at e1
              have b1 := bd l lv 0 a (hl E w a (fun y hy => ev_sat (E := E) (w := w) hrd (x := y) (by simp [hy])))
              have b2 := (hh E w a (fun y hy => ev_sat (E := E) (w := w) hrd (x := y) (by cases hy; simp)))
              have b3 := (hm E w a (fun y hy => ev_sat (E := E) (w := w) hrd (x := y) (by cases hy; simp)))
              obtain ⟨z2, k2, hz2, b2⟩ := b2.resolve_left (fun h => by cases h.1)
              obtain ⟨z3, k3, hz3, b3⟩ := b3.resolve_left (fun h => by cases h.1)
              cases hz2
              cases hz3
              obtain ⟨A, c, hq, hle⟩ : ∃ A c, a.eval x = .slice A xs.length c ∧ xs.length ≤ c := by
                generalize a.eval x = q at e1
                cases e1 with
                | nil _ _ A c => exact ⟨A, c, rfl, Nat.zero_le _⟩
                | ro _ _ _ k o1 c u hbk hle hc hs => exact ⟨_, c, rfl, hle⟩
              refine ⟨.slice (if mv.toNat = lv.toNat then A else A.map (·.add (lv.toNat * ty.size))) (hv.toNat - lv.toNat) (mv.toNat - lv.toNat), ?_, ?_⟩
              · simp only [execOp, hop]
                refine ok_value ?_
                rw [hq]
                unfold Instr.sliceAt
                rw [run_then (run_underlying' hu w)]
                dsimp only
                unfold Instr.slice
                rw [run_then (run_underlying' hu w)]
                dsimp only
                rw [show (some hy0 : Option Operand).map a.eval = some (.int k2 hv) by simp [b2], show (some y : Option Operand).map a.eval = some (.int k3 mv) by simp [b3]]
                rw [run_then (sliceBounds_max (k1 := k2) (len := xs.length) (cap := c) b1 (by omega))]
                dsimp only
                rw [run_then (run_sizeOf hn w)]
                rfl
              · rw [hq] at e1
                exact ro_cut e1 (by omega) (by
                  by_cases e : mv.toNat = lv.toNat
                  · exact .inl (by omega)
                  · exact .inr (by rw [if_neg e])) (by omega)
            · exact h.elim
          · exact h.elim
        · exact h.elim
      · exact h.elim
    · exact h.elim
  | none =>
    dsimp only at h
    have execS : ∀ (e : TypeId) (sz : Nat), P.underlying t = some (.slice e) → szOf P e = some sz → ∀ (a : Act) (w : World) (A : Option Addr) (n c : Nat) (lv hv : Int), a.eval x = .slice A n c → n ≤ c → (0 ≤ lv ∧ lv ≤ hv ∧ hv ≤ (n : Nat)) →
        ((l.map a.eval = none ∧ lv = 0) ∨ ∃ k, l.map a.eval = some (.int k lv)) → ((h'.map a.eval = none ∧ hv = (n : Nat)) ∨ ∃ k, h'.map a.eval = some (.int k hv)) →
        (execOp a.eval o).run P w = .ok (.value (.slice (if c = lv.toNat then A else A.map (·.add (lv.toNat * sz))) (hv.toNat - lv.toNat) (c - lv.toNat))) w := fun e sz hu hn a w A n c lv hv hx hc hb b1 b2 => by
      simp only [execOp, hop]
      refine ok_value ?_
      rw [hx]
      unfold Instr.sliceAt
      rw [run_then (run_underlying' hu w)]
      dsimp only
      unfold Instr.slice
      rw [run_then (run_underlying' hu w)]
      dsimp only
      rw [show (none : Option Operand).map a.eval = none from rfl]
      rw [run_then (sliceBounds_run (b := true) (len := n) (cap := c) b1 b2 hb hc)]
      dsimp only
      rw [run_then (run_sizeOf hn w)]
      rfl
    split at h
    · rename_i hx
      split at h
      · rename_i e hu
        split at h
        · rename_i sz hn
          obtain ⟨lv, h, hl⟩ := bnd_spec h
          obtain ⟨hv, h, hh⟩ := bnd_spec h
          obtain ⟨⟨rfl, rfl⟩, hk⟩ := h
          refine led_p hk hd (fun E fp a w hrd _ => ⟨_, ?_, .v _⟩)
          rw [hops] at hrd
          have e1 := ev_sat (E := E) (w := w) hrd (x := x) (by simp)
          rw [hx] at e1
          have f1 : a.eval x = .slice none 0 0 := by generalize a.eval x = q at e1; cases e1; rfl
          have b1 := bd l 0 0 a (hl E w a (fun y hy => ev_sat (E := E) (w := w) hrd (x := y) (by simp [hy])))
          have b2 := bd h' 0 0 a (hh E w a (fun y hy => ev_sat (E := E) (w := w) hrd (x := y) (by simp [hy])))
          exact execS e sz hu hn a w none 0 0 0 0 f1 (Nat.le_refl _) (by omega) b1 b2
        · exact h.elim
      · exact h.elim
    · rename_i i hx
      split at h
      · rename_i te ty xs hf
        split at h
        · rename_i e hu
          split at h
          · rename_i sz hn
            split at h
            · rename_i hne
              obtain rfl := Nat.eq_of_beq_eq_true hne
              cases l with
              | none =>
                dsimp only at h
                obtain ⟨hv, h, hh⟩ := bnd_spec h
                obtain ⟨hb, hk⟩ := h
                refine .inr ⟨_, _, _, _, hk, (fun id hid => hid), fun E fp a w hrd hents hfr => ?_⟩
                rw [hops] at hrd
                have hlo := hfr lo (Nat.le_refl _) (by omega)
                have e1 := ev_sat (E := E) (w := w) hrd (x := x) (by simp)
                rw [hx] at e1
                have b2 := bd h' hv xs.length a (hh E w a (fun y hy => ev_sat (E := E) (w := w) hrd (x := y) (by simp [hy])))
                have hent := wf_block hents (List.mem_singleton.2 rfl)
                rw [hf] at hent
                obtain ⟨s0, g0, g⟩ := hent
                have hval : a.eval x = s0.val := by
                  generalize a.eval x = xv at e1
                  cases e1 with
                  | sl _ s hs => obtain rfl := Option.some.inj (hs.symm.trans g0); rfl
                rcases g with ⟨g1, g2, g3⟩ | ⟨o2, cp, arr, fz, g1, g2, g3, g4, g5, g6, g7⟩
                · subst g2
                  rw [g1] at hval
                  have hrun := execS e ty.size hu hn a w none 0 0 0 hv hval (Nat.le_refl _) ⟨Int.le_refl _, hb⟩ (.inl ⟨rfl, rfl⟩) b2
                  have h0 : hv.toNat = 0 := by have := hb.2; simp at this; omega
                  rw [h0] at hrun ⊢
                  let s : Slot := ⟨0, none, 0, 0⟩
                  obtain ⟨q1, q2⟩ := hents.trade (w' := w) (ci := [i]) (s := s) (e := .row te ty []) (F := fun b => False) hlo (fun b hb => hb.elim) (.refl _ _) ⟨s, Env.with_self _ _ _, .inl ⟨rfl, rfl, fun b hb => hb⟩⟩
                  refine OpRun.value hd hrun ⟨E.with lo s, _, ?_, q1, q2, fun id => ?_⟩
                  · exact Sat.sl lo s (Env.with_self _ _ _)
                  · by_cases e : id = lo
                    · exact .inr (by omega)
                    · exact .inl (Env.with_other e)
                · rw [g1] at hval
                  have hrun := execS e ty.size hu hn a w _ xs.length cp 0 hv hval g5 ⟨Int.le_refl _, hb⟩ (.inl ⟨rfl, rfl⟩) b2
                  have hA : (if cp = (0 : Int).toNat then (some ⟨s0.blk, o2, none⟩ : Option Addr) else (some (⟨s0.blk, o2, none⟩ : Addr)).map (·.add ((0 : Int).toNat * ty.size))) = some ⟨s0.blk, o2, none⟩ := by
                    split
                    · rfl
                    · show some (Addr.add ⟨s0.blk, o2, none⟩ ((0 : Int).toNat * ty.size)) = _
                      rw [add_none, show (0 : Int).toNat = 0 from rfl, Nat.zero_mul, Nat.add_zero]
                  rw [hA, show (0 : Int).toNat = 0 from rfl, Nat.sub_zero, Nat.sub_zero] at hrun
                  let s : Slot := ⟨s0.blk, some ⟨s0.blk, o2, none⟩, hv.toNat, cp⟩
                  have hle := Env.le_with (s := s) hlo
                  have hlen : (xs.take hv.toNat).length = hv.toNat := by rw [List.length_take]; omega
                  have hrow : EntSat (E.with lo s) w (fun b => b = s0.blk) lo (.row te ty (xs.take hv.toNat)) := by
                    refine ⟨s, Env.with_self _ _ _, .inr ⟨o2, cp, arr, fz, by simp [Slot.val, s, hlen], fun b => Iff.rfl, g3, g4, by rw [hlen]; omega, g6, fun k x j sv hk hj => ?_⟩⟩
                    rw [List.getElem?_take] at hk
                    split at hk
                    · obtain ⟨u, hu, hs⟩ := g7 k x j sv hk hj
                      exact ⟨u, hu, hs.stay hle⟩
                    · cases hk
                  obtain ⟨q1, q2⟩ := hents.trade (w' := w) (ci := [i]) (s := s) (F := fun b => b = s0.blk) hlo (fun b hb => .inl ⟨i, List.mem_singleton.2 rfl, (g2 b).2 hb⟩) (.refl _ _) hrow
                  refine OpRun.value hd hrun ⟨E.with lo s, _, ?_, q1, q2, fun id => ?_⟩
                  · exact Sat.sl lo s (Env.with_self _ _ _)
                  · by_cases e : id = lo
                    · exact .inr (by omega)
                    · exact .inl (Env.with_other e)
              | some y0 =>
                dsimp only at h
                obtain ⟨lv, h, hl⟩ := bnd_spec h
                obtain ⟨hv, h, hh⟩ := bnd_spec h
                obtain ⟨⟨hpos, hb⟩, hk⟩ := h
                refine led_p hk hd (fun E fp a w hrd hents => ?_)
                rw [hops] at hrd
                have e1 := ev_sat (E := E) (w := w) hrd (x := x) (by simp)
                rw [hx] at e1
                have b1 := bd (some y0) lv 0 a (hl E w a (fun y hy => ev_sat (E := E) (w := w) hrd (x := y) (by cases hy; simp)))
                have b2 := bd h' hv xs.length a (hh E w a (fun y hy => ev_sat (E := E) (w := w) hrd (x := y) (by simp [hy])))
                have hent := wf_block hents (List.mem_singleton.2 rfl)
                rw [hf] at hent
                obtain ⟨s0, g0, g⟩ := hent
                have hval : a.eval x = s0.val := by
                  generalize a.eval x = xv at e1
                  cases e1 with
                  | sl _ s hs => obtain rfl := Option.some.inj (hs.symm.trans g0); rfl
                rcases g with ⟨_, g2, _⟩ | ⟨o2, cp, arr, fz, g1, g2, g3, g4, g5, g6, g7⟩
                · subst g2; simp at hpos
                · rw [g1] at hval
                  have hrun := execS e ty.size hu hn a w _ xs.length cp lv hv hval g5 hb b1 b2
                  refine ⟨_, hrun, ?_⟩
                  have e2 : hv.toNat - lv.toNat = (hv - lv).toNat := by omega
                  rw [e2]
                  refine .slv i ty.size lv (hv - lv) s0 g0 o2 xs.length cp _ _ g1 hb.1 (by omega) (by omega) ?_
                  by_cases hz : hv - lv = 0
                  · exact .inl hz
                  · refine .inr ?_
                    rw [if_neg (by omega)]
                    show some (Addr.add ⟨s0.blk, o2, none⟩ (lv.toNat * ty.size)) = _
                    rw [add_none]
            · exact h.elim
          · exact h.elim
        · exact h.elim
      · exact h.elim
    · rename_i s hx
      split at h
      · rename_i hst
        obtain ⟨lv, h, hl⟩ := bnd_spec h
        obtain ⟨hv, h, hh⟩ := bnd_spec h
        obtain ⟨hb, hk⟩ := h
        refine led_p hk hd (fun E fp a w hrd _ => ⟨_, ?_, .v _⟩)
        rw [hops] at hrd
        have e1 := ev_sat (E := E) (w := w) hrd (x := x) (by simp)
        rw [hx] at e1
        have f1 : a.eval x = .string s := by generalize a.eval x = q at e1; cases e1; rfl
        have b1 := bd l lv 0 a (hl E w a (fun y hy => ev_sat (E := E) (w := w) hrd (x := y) (by simp [hy])))
        have b2 := bd h' hv s.size a (hh E w a (fun y hy => ev_sat (E := E) (w := w) hrd (x := y) (by simp [hy])))
        simp only [execOp, hop]
        refine ok_value ?_
        rw [f1]
        unfold Instr.sliceAt
        rw [run_then (run_underlying' (isStrT_spec hst) w)]
        dsimp only
        unfold Instr.slice
        rw [run_then (run_underlying' (isStrT_spec hst) w)]
        dsimp only
        rw [if_neg (by simp)]
        rw [run_then (sliceBounds_run (b := false) (len := s.size) (cap := s.size) b1 b2 hb (Nat.le_refl _))]
        rfl
      · exact h.elim
    · rename_i b ty xs hx
      split at h
      · rename_i e hu
        split at h
        · rename_i n hn
          split at h
          · rename_i hne
            obtain rfl := Nat.eq_of_beq_eq_true hne
            obtain ⟨lv, h, hl⟩ := bnd_spec h
            obtain ⟨hv, h, hh⟩ := bnd_spec h
            obtain ⟨hb, hk⟩ := h
            have hlen : ((xs.take hv.toNat).drop lv.toNat).length = hv.toNat - lv.toNat := by simp; omega
            have exec : ∀ (a : Act) (w : World) (A : Option Addr) (c : Nat), a.eval x = .slice A xs.length c → xs.length ≤ c → ((l.map a.eval = none ∧ lv = 0) ∨ ∃ k, l.map a.eval = some (.int k lv)) →
                ((h'.map a.eval = none ∧ hv = (xs.length : Nat)) ∨ ∃ k, h'.map a.eval = some (.int k hv)) →
                (execOp a.eval o).run P w = .ok (.value (.slice (if c = lv.toNat then A else A.map (·.add (lv.toNat * ty.size))) (hv.toNat - lv.toNat) (c - lv.toNat))) w := fun a w A c hx hc b1 b2 => by
              simp only [execOp, hop]
              refine ok_value ?_
              rw [hx]
              unfold Instr.sliceAt
              rw [run_then (run_underlying' hu w)]
              dsimp only
              unfold Instr.slice
              rw [run_then (run_underlying' hu w)]
              dsimp only
              rw [show (none : Option Operand).map a.eval = none from rfl]
              rw [run_then (sliceBounds_run (b := true) (len := xs.length) (cap := c) b1 b2 hb hc)]
              dsimp only
              rw [run_then (run_sizeOf hn w)]
              rfl
            refine .inl ⟨_, [], hk, loc_pure hd (fun E fp a w hrd hents => ?_)⟩
            rw [hops] at hrd
            have e1 := ev_sat (E := E) (w := w) hrd (x := x) (by simp)
            rw [hx] at e1
            have b1 := bd l lv 0 a (hl E w a (fun y hy => ev_sat (E := E) (w := w) hrd (x := y) (by simp [hy])))
            have b2 := bd h' hv xs.length a (hh E w a (fun y hy => ev_sat (E := E) (w := w) hrd (x := y) (by simp [hy])))
            generalize hq : a.eval x = q at e1
            cases e1 with
            | nil _ _ A c =>
              have h0 : hv.toNat - lv.toNat = 0 := by simp at hb; omega
              refine ⟨_, exec a w A c hq (by simp) b1 b2, ?_⟩
              have : (List.drop lv.toNat (List.take hv.toNat ([] : List ty.den))) = [] := by simp
              rw [this, h0]
              exact .nil b ty _ _
            | ro _ _ _ k o1 c u hbk hle hc hs =>
              refine ⟨_, exec a w _ c hq hle b1 b2, ?_⟩
              rcases Nat.eq_zero_or_pos (hv.toNat - lv.toNat) with h0 | hpos
              · have : (xs.take hv.toNat).drop lv.toNat = [] := List.eq_nil_of_length_eq_zero (by omega)
                rw [this, h0]
                exact .nil b ty _ _
              · rw [if_neg (by omega)]
                have hA : (some (⟨k, o1, none⟩ : Addr)).map (·.add (lv.toNat * ty.size)) = some ⟨k, o1 + lv.toNat * ty.size, none⟩ := by
                  show some (Addr.add ⟨k, o1, none⟩ (lv.toNat * ty.size)) = _
                  rw [add_none]
                rw [hA, ← hlen]
                have hm : ∀ m, m < ((xs.take hv.toNat).drop lv.toNat).length * ty.size → lv.toNat * ty.size + m < xs.length * ty.size := fun m hm => by
                  rw [hlen] at hm
                  have h1 : lv.toNat * ty.size + m < lv.toNat * ty.size + (hv.toNat - lv.toNat) * ty.size := by omega
                  rw [← Nat.add_mul] at h1
                  exact Nat.lt_of_lt_of_le h1 (Nat.mul_le_mul_right _ (by omega))
                refine .ro b ty _ k (o1 + lv.toNat * ty.size) (c - lv.toNat) (fun m => u (lv.toNat * ty.size + m)) hbk (by omega) (fun m hm' => ?_) (fun i y j sv hi hj => ?_)
                · have := hc (lv.toNat * ty.size + m) (hm m hm')
                  rw [Nat.add_assoc]; exact this
                · rw [List.getElem?_drop, List.getElem?_take] at hi
                  split at hi
                  · have := hs (lv.toNat + i) y j sv hi hj
                    rw [Nat.add_mul, Nat.add_assoc] at this
                    exact this
                  · cases hi
          · exact h.elim
        · exact h.elim
      · exact h.elim
    · exact h.elim

theorem led_make {t : TypeId} {l c : Operand} (hop : o.op = .makeSlice t l c) (h : makeW P t (ev T l) (ev T c) lo Kg) : Led r P o T M lo Kp Kg := by
  have hops : opsOf o = opTmps [l, c] := by simp [opsOf, hop, Op.operands]
  have hd : ∀ c, o.op ≠ .defer c := fun c => by simp [hop]
  unfold makeW at h
  split at h
  · rename_i e hu
    split at h
    · rename_i k n hl
      split at h
      · rename_i k' m hc
        split at h
        · rename_i ty ht
          split at h
          · rename_i zs hok hz
            split at h
            · rename_i z hdec
              obtain ⟨⟨h0, h1, rfl⟩, hk⟩ := h
              obtain ⟨i, zs', i1, i2, i3, i4, i5⟩ := appOk_spec hok
              obtain rfl := Option.some.inj (hz.symm.trans i4)
              obtain ⟨d1, d2⟩ := decL_spec ty 1 _ _ hdec
              obtain ⟨zv, hzv, hzc⟩ : ∃ zv, i.zero = some zv ∧ zv.cells.toList = zs := by
                unfold zeroOf at hz
                rw [i1] at hz
                dsimp only at hz
                split at hz
                · rename_i v hv; exact ⟨v, hv, by rw [← cellsOfV_eq]; exact Option.some.inj hz⟩
                · cases hz
              refine .inr ⟨_, [], [], _, hk, (fun id hid => by cases hid), fun E fp a w hrd hents hfr => ?_⟩
              rw [hops] at hrd
              have e1 := ev_sat (E := E) (w := w) hrd (x := l) (by simp)
              have e2 := ev_sat (E := E) (w := w) hrd (x := c) (by simp)
              rw [hl] at e1; rw [hc] at e2
              have f1 : a.eval l = .int k m := by generalize a.eval l = q at e1; cases e1; rfl
              have f2 : a.eval c = .int k' m := by generalize a.eval c = q at e2; cases e2; rfl
              have hlo := hfr lo (Nat.le_refl _) (by omega)
              let arr := madeCells zv.cells (m.toNat * i.size)
              let w' := wnew w (.cells arr e)
              have hrun : (execOp a.eval o).run P w = .ok (.value (.slice (some ⟨w.heap.size, 0, none⟩) m.toNat m.toNat)) w' := by
                simp only [execOp, hop]
                refine ok_value ?_
                rw [f1, f2]
                exact run_make w t e i zv hu i1 hzv k k' m m h0 (Int.le_refl _) (by
                  have h3 : (i.bytes : Int) ≤ 400 := by omega
                  have : (i.bytes : Int) * m ≤ 400 * m := Int.mul_le_mul_of_nonneg_right h3 h0
                  omega) (by omega)
              let sl : Slot := ⟨w.heap.size, some ⟨w.heap.size, 0, none⟩, m.toNat, m.toNat⟩
              have hkeep : Keep (fun _ => False) w w' := wnew_keep _ _ _ _
              have hst : Stays E w w' := fun k hk hlt => wnew_same w _ hlt
              have hzl : zv.cells.size = ty.size := by rw [← i5, ← hzc]; simp
              have hzcells : CellsAre (E.with lo sl) w' (flatF (enc ty) [z]) zv.cells.toList := by
                refine d2 _ _ _ ?_
                rw [hzc, listV_eq]
                exact ⟨by simp, fun j s hj => by
                  simp only [List.getElem?_map] at hj
                  cases hq : zs[j]? with
                  | none => rw [hq] at hj; cases hj
                  | some v => rw [hq] at hj; obtain rfl := Option.some.inj hj; exact ⟨v, rfl, .v v⟩⟩
              obtain ⟨g1, g2⟩ := hents.fresh (w' := w') (s := sl) (e := .row e ty (List.replicate m.toNat z)) hlo rfl hkeep (by simp [w', wnew])
                ⟨sl, Env.with_self _ _ _, .inr ⟨0, m.toNat, arr, (0, 0), by simp [Slot.val, sl], fun b => Iff.rfl, wnew_new w _, .inl rfl, by simp, by simp [arr, size_madeCells, i2], fun p x j sv hp hj => by
                  have hp' := (List.getElem?_eq_some_iff.1 hp)
                  obtain ⟨hlt, rfl⟩ := hp'
                  rw [List.length_replicate] at hlt
                  rw [List.getElem_replicate] at hj
                  have hjt : j < ty.size := by have := (List.getElem?_eq_some_iff.1 hj).1; rw [enc_length] at this; exact this
                  obtain ⟨u, hu, hs⟩ := row_cells hzcells 0 z j sv rfl hj
                  refine ⟨u, ?_, hs⟩
                  have hlt2 : p * ty.size + j < m.toNat * i.size := by
                    rw [i2]
                    have : (p + 1) * ty.size ≤ m.toNat * ty.size := Nat.mul_le_mul_right _ hlt
                    rw [Nat.add_mul] at this
                    omega
                  have hmod : (p * ty.size + j) % ty.size = j := by rw [Nat.add_comm, Nat.add_mul_mod_self_right]; exact Nat.mod_eq_of_lt hjt
                  have hju : zv.cells[j]? = some u := by simpa using hu
                  have hjz : j < zv.cells.size := by omega
                  show (madeCells zv.cells (m.toNat * i.size))[0 + p * ty.size + j]? = some u
                  rw [Nat.zero_add]
                  unfold madeCells
                  rw [Array.getElem?_map, Array.getElem?_range, if_pos hlt2]
                  simp only [Option.map_some, hzl, hmod]
                  rw [getElem!_pos zv.cells j hjz, ← hju]
                  simp [hjz]⟩⟩
              refine OpRun.value hd hrun ⟨E.with lo sl, _, Sat.sl lo sl (Env.with_self _ _ _), ?_, g2, fun id => ?_⟩
              · simpa [upd, gones, sub] using g1
              · by_cases e : id = lo
                · exact .inr (by omega)
                · exact .inl (Env.with_other e)
            · exact h.elim
          · exact h.elim
        · exact h.elim
      · exact h.elim
    · exact h.elim
  · exact h.elim

/-! ### clear -/

theorem eqTy_eq {a b : Ty} {h : PLift (a = b)} (_ : eqTy a b = some h) : a = b := h.down
theorem getElem_zeroCells {z : Array Value} {n k : Nat} (h : k < n * z.size) : (Builtin.zeroCells z n)[k]? = z[k % z.size]? := by
  have hz : 0 < z.size := by
    rcases Nat.eq_zero_or_pos z.size with h0 | h0
    · rw [h0] at h; omega
    · exact h0
  unfold Builtin.zeroCells
  rw [Array.getElem?_map, Array.getElem?_range, if_pos h]
  simp only [Option.map_some]
  rw [getElem!_pos z (k % z.size) (Nat.mod_lt _ hz)]
  simp [Nat.mod_lt _ hz]
theorem led_clear {c : Call} (hop : o.op = .call c) (hc : c.callee = .builtin .clear) (h : clearV P c.argTypes.toList (mapEv T c.args.toList) M Kg) : Led r P o T M lo Kp Kg := by
  have hops : opsOf o = opTmps c.args.toList := by simp [opsOf, hop, Op.operands, Call.operands, hc]
  have hd : ∀ c, o.op ≠ .defer c := fun c => by simp [hop]
  have arg1 : ∀ (s : SV) (t : TypeId), mapEv T c.args.toList = [s] → c.argTypes.toList = [t] → ∃ x, c.args = #[x] ∧ c.argTypes = #[t] ∧ ev T x = s := fun s t h1 h2 => by
    have h3 : c.argTypes = #[t] := by rw [← Array.toArray_toList (xs := c.argTypes), h2]
    cases hl : c.args.toList with
    | nil => rw [hl] at h1; simp [mapEv] at h1
    | cons x l =>
      cases l with
      | nil =>
        rw [hl] at h1
        refine ⟨x, by rw [← Array.toArray_toList (xs := c.args), hl], h3, by simpa [mapEv] using h1⟩
      | cons y l => rw [hl] at h1; simp [mapEv] at h1
  unfold clearV at h
  split at h
  · rename_i t i sz l n h1 h2
    obtain ⟨x, ha, ht, hx⟩ := arg1 _ _ h2 h1
    split at h
    · rename_i te ty xs hf
      split at h
      · rename_i e hu
        split at h
        · rename_i ty' zs hty hz
          split at h
          · rename_i hE hsz hok z heq hb hok2 hdec
            obtain rfl := Nat.eq_of_beq_eq_true hb
            obtain ⟨inf, zs', i1, i2, i3, i4, i5⟩ := appOk_spec hok2
            obtain rfl := Option.some.inj (hz.symm.trans i4)
            obtain ⟨d1, d2⟩ := decL_spec ty 1 _ _ hdec
            refine .inr ⟨_, _, _, _, h, (fun id hid => hid), fun E fp a w hrd hents hfr => ?_⟩
            obtain ⟨zv, hzr, hzc⟩ := run_zeroValue hz w
            rw [hops, ha] at hrd
            have e1 := ev_sat (E := E) (w := w) hrd (x := x) (by simp)
            rw [hx] at e1
            have hent := wf_block hents (List.mem_singleton.2 rfl)
            rw [hf] at hent
            have hent0 := hent
            obtain ⟨s0, g0, g⟩ := hent
            have hexec : ∀ (w' : World), (Builtin.clear_ #[t] o.type #[a.eval x]).run P w = .ok (.tuple #[]) w' → (execOp a.eval o).run P w = .ok (.value (.tuple #[])) w' := fun w' h1 => by
              simp only [execOp, hop, resolve, hc, ha, ht, List.map_toArray, List.map_cons, List.map_nil]
              exact ok_value h1
            have hsat : ∀ w' : World, Sat E w' (.tuple []) (.tuple #[]) := fun w' => .tuple [] #[] (fun _ => undef) rfl (fun j hj => by simp at hj) (fun j sv hj => by simp at hj)
            generalize hxe : a.eval x = xv at e1 hexec
            cases e1 with
            | slv _ _ _ _ s hs o1 m1 c1 c' A hv hlo hn0 hm hA =>
              obtain rfl := Option.some.inj (hs.symm.trans g0)
              rcases g with ⟨g1, _, _⟩ | ⟨o2, cp, arr, fz, g1, g2, g3, g4, g5, g6, g7⟩
              · rw [g1] at hv; cases hv
              · rw [g1] at hv
                obtain ⟨rfl, rfl, rfl⟩ : o2 = o1 ∧ xs.length = m1 ∧ cp = c1 := by simpa using hv
                rcases Nat.eq_zero_or_pos n.toNat with hz0 | hpos
                · have hrow : xs.take l.toNat ++ (List.replicate n.toNat z ++ xs.drop (l.toNat + n.toNat)) = xs := by
                    rw [hz0]; simp
                  rw [hrow]
                  refine OpRun.value hd (hexec w ?_) ⟨E, fp, hsat w, (EntsSat.write (w' := w) hents (s := s) g2 (.refl _ _) (e := .row te ty xs) hent0).1, .refl _ _ _, fun id => .inl rfl⟩
                  rw [hz0]
                  simp only [Builtin.clear_, List.getElem?_toArray, List.getElem?_cons_zero]
                  rw [run_then (run_underlying' hu w)]
                  cases A <;> rfl
                · obtain rfl := hA.resolve_left (by omega)
                  have hzl : zv.cells.size = ty.size := by rw [← i5, ← hzc]; simp
                  have hsc : (Builtin.zeroCells zv.cells n.toNat).toList.length = n.toNat * ty.size := by rw [Array.length_toList, size_zeroCells, hzl]
                  have hin : (l.toNat + n.toNat) * ty.size ≤ cp * ty.size := Nat.mul_le_mul_right _ (by omega)
                  rw [Nat.add_mul] at hin
                  have hzcells : CellsAre E w (flatF (enc ty) [z]) zv.cells.toList := by
                    refine d2 _ _ _ ?_
                    rw [hzc, listV_eq]
                    exact ⟨by simp, fun j s hj => by
                      simp only [List.getElem?_map] at hj
                      cases hq : zs[j]? with
                      | none => rw [hq] at hj; cases hj
                      | some v => rw [hq] at hj; obtain rfl := Option.some.inj hj; exact ⟨v, rfl, .v v⟩⟩
                  have hplain : ∀ u, u ∈ (Builtin.zeroCells zv.cells n.toNat).toList → plainV u := fun u hu => by
                    obtain ⟨k, hk, rfl⟩ := List.mem_iff_getElem.1 hu
                    rw [hsc] at hk
                    have hk' : k < n.toNat * zv.cells.size := by rw [hzl]; exact hk
                    have e := getElem_zeroCells hk'
                    have hz2 : 0 < ty.size := by
                      rcases Nat.eq_zero_or_pos ty.size with h0 | h0
                      · rw [h0] at hk; omega
                      · exact h0
                    refine cells_plain (E := E) (w := w) (cs := flatF (enc ty) [z]) (fun s hs => by obtain ⟨x, _, hx⟩ := flatF_mem hs; exact enc_scal ty x s hx) hzcells _ ?_
                    have hmod : k % zv.cells.size < zv.cells.size := Nat.mod_lt _ (by omega)
                    have e' : (Builtin.zeroCells zv.cells n.toNat).toList[k] = zv.cells[k % zv.cells.size] := by
                      have := e
                      rw [Array.getElem?_eq_getElem hmod, ← Array.getElem?_toList, List.getElem?_eq_getElem (by rw [hsc]; exact hk)] at this
                      exact Option.some.inj this
                    rw [e']
                    simp
                  obtain ⟨w', h1, h2, h3⟩ := run_storeCells (P := P) (o := o2 + l.toNat * ty.size) (Builtin.zeroCells zv.cells n.toNat).toList 0 w arr g3 (by rw [hsc]; omega) g4 hplain
                  rw [Nat.add_zero] at h2
                  have hstay : Stays E w w' := fun k hk hlt => h3.same k hlt (fun ek => by
                    subst ek
                    rcases hk with hk | hk
                    · exact hents.I i _ ((g2 _).2 rfl) hk
                    · exact hents.B i _ ((g2 _).2 rfl) hk)
                  have hlen : (xs.take l.toNat ++ (List.replicate n.toNat z ++ xs.drop (l.toNat + n.toNat))).length = xs.length := by
                    simp only [List.length_append, List.length_take, List.length_replicate, List.length_drop]; omega
                  have hrow : EntSat E w' (fp i) i (.row te ty (xs.take l.toNat ++ (List.replicate n.toNat z ++ xs.drop (l.toNat + n.toNat)))) := by
                    refine ⟨s, hs, .inr ⟨o2, cp, _, fz, by rw [hlen]; exact g1, g2, h2, by rw [putAll_size]; exact g4, by rw [hlen]; exact g5, by rw [putAll_size]; exact g6, fun k x j sv hk hj => ?_⟩⟩
                    have hjt : j < ty.size := by
                      have := (List.getElem?_eq_some_iff.1 hj).1
                      rw [enc_length] at this; exact this
                    rw [putAll_get (by rw [hsc]; omega), hsc]
                    have hkl : k < xs.length := by have := (List.getElem?_eq_some_iff.1 hk).1; omega
                    by_cases hk1 : k < l.toNat
                    · rw [List.getElem?_append_left (by rw [List.length_take]; omega), List.getElem?_take, if_pos hk1] at hk
                      have : (k + 1) * ty.size ≤ l.toNat * ty.size := Nat.mul_le_mul_right _ hk1
                      rw [Nat.add_mul] at this
                      rw [if_neg (by omega)]
                      obtain ⟨u, hu, hs⟩ := g7 k x j sv hk hj
                      exact ⟨u, hu, hs.mono (.refl E) hstay⟩
                    · rw [List.getElem?_append_right (by rw [List.length_take]; omega), List.length_take, Nat.min_eq_left (by omega)] at hk
                      by_cases hk2 : k < l.toNat + n.toNat
                      · rw [List.getElem?_append_left (by rw [List.length_replicate]; omega), List.getElem?_replicate, if_pos (by omega)] at hk
                        obtain rfl := Option.some.inj hk
                        have e1 : (k - l.toNat + 1) * ty.size ≤ n.toNat * ty.size := Nat.mul_le_mul_right _ (by omega)
                        have e2 : k * ty.size = l.toNat * ty.size + (k - l.toNat) * ty.size := by rw [← Nat.add_mul]; congr 1; omega
                        rw [Nat.add_mul] at e1
                        rw [if_pos (by omega)]
                        obtain ⟨u, hu, hs⟩ := row_cells hzcells 0 z j sv rfl hj
                        refine ⟨u, ?_, hs.mono (.refl E) hstay⟩
                        rw [show o2 + k * ty.size + j - (o2 + l.toNat * ty.size) = (k - l.toNat) * ty.size + j by omega, Array.getElem?_toList, getElem_zeroCells (by rw [hzl]; omega), hzl,
                          show ((k - l.toNat) * ty.size + j) % ty.size = j by rw [Nat.add_comm, Nat.add_mul_mod_self_right]; exact Nat.mod_eq_of_lt hjt]
                        simpa using hu
                      · rw [List.getElem?_append_right (by rw [List.length_replicate]; omega), List.length_replicate, List.getElem?_drop] at hk
                        have : (l.toNat + n.toNat) * ty.size ≤ k * ty.size := Nat.mul_le_mul_right _ (by omega)
                        rw [Nat.add_mul] at this
                        rw [if_neg (by omega)]
                        rw [show l.toNat + n.toNat + (k - l.toNat - n.toNat) = k by omega] at hk
                        obtain ⟨u, hu, hs⟩ := g7 k x j sv hk hj
                        exact ⟨u, hu, hs.mono (.refl E) hstay⟩
                  obtain ⟨r1, r2⟩ := EntsSat.write (w' := w') hents (s := s) g2 h3 hrow
                  refine OpRun.value hd (hexec w' ?_) ⟨E, fp, hsat w', r1, r2, fun id => .inl rfl⟩
                  obtain ⟨p, hp⟩ : ∃ p, n.toNat = p + 1 := ⟨n.toNat - 1, by omega⟩
                  simp only [Builtin.clear_, List.getElem?_toArray, List.getElem?_cons_zero]
                  rw [run_then (run_underlying' hu w)]
                  rw [hp] at h1 ⊢
                  simp only [Sem.run_bind, hzr, Result.andThen]
                  have h1' : Sem.run P (storeCells ⟨s.blk, o2 + l.toNat * ty.size, none⟩ (Builtin.zeroCells zv.cells (p + 1)).toList) w = .ok () w' := h1
                  rw [h1']
                  rfl
          · exact h.elim
        · exact h.elim
      · exact h.elim
    · exact h.elim
  · exact h.elim

/-! ### Iterators over strings -/

theorem led_range {t : TypeId} {x : Operand} (hop : o.op = .range t x) (h : rangeS P t (ev T x) lo Kg) : Led r P o T M lo Kp Kg := by
  have hops : opsOf o = opTmps [x] := by simp [opsOf, hop, Op.operands]
  have hd : ∀ c, o.op ≠ .defer c := fun c => by simp [hop]
  unfold rangeS at h
  split at h
  · rename_i hst
    split at h
    · rename_i s hx
      refine .inr ⟨_, [], [], _, h, (fun id hid => by cases hid), fun E fp a w hrd hents hfr => ?_⟩
      rw [hops] at hrd
      have e1 := ev_sat (E := E) (w := w) hrd (x := x) (by simp)
      rw [hx] at e1
      have f1 : a.eval x = .string s := by generalize a.eval x = q at e1; cases e1; rfl
      have hlo := hfr lo (Nat.le_refl _) (by omega)
      let sl : Slot := ⟨w.heap.size, none, 0, 0⟩
      have hkeep : Keep (fun _ => False) w (wnew w (.stringIter s 0)) := ⟨rfl, .same rfl rfl, rfl, by simp [wnew], fun b hb _ => wnew_same w _ hb⟩
      obtain ⟨g1, g2⟩ := hents.fresh (w' := wnew w (.stringIter s 0)) (s := sl) (e := .siter s 0) hlo rfl hkeep (by simp [wnew])
        ⟨sl, Env.with_self _ _ _, fun b => Iff.rfl, wnew_new w _⟩
      refine OpRun.value hd (w' := wnew w (.stringIter s 0)) (v := .pointer (some ⟨w.heap.size, 0, none⟩)) ?_ ⟨E.with lo sl, _, .ptr lo 0 sl (Env.with_self _ _ _), ?_, g2, fun id => ?_⟩
      · simp only [execOp, hop]
        refine ok_value ?_
        rw [f1]
        exact run_range_string w t s (isStrT_spec hst)
      · simpa [upd, gones, sub] using g1
      · by_cases e : id = lo
        · exact .inr (by omega)
        · exact .inl (Env.with_other e)
    · exact h.elim
  · exact h.elim

theorem run_next_at {w : World} {b : Nat} {s : ByteArray} {p : Nat} {ty : TypeId} (hb : w.heap[b]? = some (.stringIter s p)) :
    (Instr.next (.pointer (some ⟨b, 0, none⟩)) true ty).run P w = if h : p < s.size then
      .ok (.tuple #[.bool true, goInt p, .int .i32 (Utf8.decode s p).1]) (w.putObj b (.stringIter s (p + (Utf8.decode s p).2)))
    else .ok (.tuple #[.bool false]) w := by
  by_cases h : p < s.size
  · rw [dif_pos h]
    simp only [Instr.next, getObj, setObj, Sem.run_bind, Sem.run, hb, Result.andThen, h, if_true]
    simp [Sem.run, hb, World.putObj]
  · rw [dif_neg h]
    simp [Instr.next, getObj, Sem.run, hb, h]

theorem led_next {x : Operand} {str : Bool} (hop : o.op = .next x str) (h : nextS (ev T x) str M Kg) : Led r P o T M lo Kp Kg := by
  have hops : opsOf o = opTmps [x] := by simp [opsOf, hop, Op.operands]
  have hd : ∀ c, o.op ≠ .defer c := fun c => by simp [hop]
  unfold nextS at h
  split at h
  · split at h
    · rename_i i hx
      split at h
      · rename_i s p hf
        have pt : ∀ (E : Env) (fp : Nat → Nat → Prop) (a : Act) (w : World), (∀ t, t ∈ opsOf o → Sat E w (look T t) (a.tmps.getD t undef)) → EntsSat E w fp (sub M [i]) →
            ∃ sl, E.slot i = some sl ∧ (∀ b, fp i b ↔ b = sl.blk) ∧ w.heap[sl.blk]? = some (.stringIter s p) ∧ a.eval x = .pointer (some ⟨sl.blk, 0, none⟩) := fun E fp a w hrd hents => by
          rw [hops] at hrd
          have e1 := ev_sat (E := E) (w := w) hrd (x := x) (by simp)
          rw [hx] at e1
          have hent := wf_block hents (List.mem_singleton.2 rfl)
          rw [hf] at hent
          obtain ⟨sl, h1, h2, h3⟩ := hent
          refine ⟨sl, h1, h2, h3, ?_⟩
          generalize a.eval x = q at e1
          cases e1 with
          | ptr _ _ s' hs' => obtain rfl := Option.some.inj (hs'.symm.trans h1); rfl
        by_cases hp : p < s.size
        · obtain ⟨hb, hk⟩ := h.t (decide_eq_true hp)
          have hbt : byteAt s p = ((s[p]'hp).toNat : Int) := by unfold byteAt; rw [show s[p]? = some (s[p]'hp) from getElem?_pos s p hp]
          rw [hbt] at hb hk
          refine .inr ⟨_, [i], [i], _, hk, (fun id hid => hid), fun E fp a w hrd hents hfr => ?_⟩
          obtain ⟨sl, h1, h2, h3, h4⟩ := pt E fp a w hrd hents
          have hdec := decode_ascii s p hp (by omega)
          have hrun := run_next_at (P := P) (ty := o.type) h3
          rw [dif_pos hp, hdec] at hrun
          have hlt := (Array.getElem?_eq_some_iff.1 h3).1
          have hkeep : Keep (fun b => b = sl.blk) w (w.putObj sl.blk (.stringIter s (p + 1))) := ⟨rfl, .same rfl rfl, rfl, by rw [World.putObj_size]; exact Nat.le_refl _, fun b _ hn => World.putObj_heap_other hn⟩
          obtain ⟨q1, q2⟩ := hents.write (w' := w.putObj sl.blk (.stringIter s (p + 1))) (s := sl) (e := .siter s (p + 1)) h2 hkeep
            ⟨sl, h1, h2, World.putObj_heap_same hlt⟩
          refine OpRun.value hd (w' := w.putObj sl.blk (.stringIter s (p + 1))) (v := .tuple #[.bool true, goInt p, .int .i32 ((s[p]'hp).toNat : Int)]) ?_ ⟨E, fp, ?_, q1, q2, fun id => .inl rfl⟩
          · simp only [execOp, hop]
            refine ok_value ?_
            rw [h4]
            exact hrun
          · exact evR_sat (.tuple #[.bool true, .int .i64 p, .int .i32 ((s[p]'hp).toNat : Int)])
        · have hk := h.f (decide_eq_false hp)
          refine .inr ⟨_, [i], [i], _, hk, (fun id hid => hid), fun E fp a w hrd hents hfr => ?_⟩
          obtain ⟨sl, h1, h2, h3, h4⟩ := pt E fp a w hrd hents
          have hrun := run_next_at (P := P) (ty := o.type) h3
          rw [dif_neg hp] at hrun
          obtain ⟨q1, q2⟩ := hents.write (w' := w) (s := sl) (e := .siter s p) h2 ⟨rfl, .same rfl rfl, rfl, Nat.le_refl _, fun _ _ _ => rfl⟩ ⟨sl, h1, h2, h3⟩
          refine OpRun.value hd (w' := w) (v := .tuple #[.bool false]) ?_ ⟨E, fp, ?_, q1, q2, fun id => .inl rfl⟩
          · simp only [execOp, hop]
            refine ok_value ?_
            rw [h4]
            exact hrun
          · exact evR_sat (.tuple #[.bool false])
      · exact h.elim
    · exact h.elim
  · exact h.elim

end
end Go.Eng

/-! The engine, part M: one operation; a region. -/
set_option linter.unusedVariables false
namespace Go.Eng
variable [DM]
set_option linter.unusedSectionVars false

section
variable {r : Option Nat} {P : Program} {G : Nat → Option Ctr}

theorem own1_sat {E : Env} {w : World} {s : SV} {v : Value} (h : own1 s = true) (hs : Sat E w s v) : Sat (bareE E.I) w s v := by
  cases hs with
  | v _ => exact .v _
  | nil b t A c => exact .nil b t A c
  | ro b t xs k o c u hb hle hc hcs =>
    cases b with
    | true => cases h
    | false =>
      have hI : (bareE E.I).ok false k := .inl (hb.resolve_right (fun h => by cases h.1))
      exact .ro false t xs k o c u hI hle hc (fun i x j sv hi hj => (enc_move (E := E) (E' := bareE E.I) (fun b hb => hb) t).1 x j sv _ hj (hcs i x j sv hi hj))
  | _ => cases h

theorem allOwn1_spec : ∀ {l : List SV}, allOwn1 l = true → ∀ (j : Nat) (s : SV), l[j]? = some s → own1 s = true
  | [], _, j, s, h => by simp at h
  | x :: l, h, j, s, hj => by
    unfold allOwn1 at h
    split at h
    · rename_i hx
      cases j with
      | zero => obtain rfl : x = s := by simpa using hj
                exact hx
      | succ j => exact allOwn1_spec h j s (by simpa using hj)
    · cases h

theorem ownB_sat {E : Env} {w : World} {s : SV} {v : Value} (h : ownB s = true) (hs : Sat E w s v) : Sat (bareE E.I) w s v := by
  cases hs with
  | agg l vs u hl hu hcs => exact .agg l vs u hl hu (fun j sv hj => own1_sat (allOwn1_spec h j sv hj) (hcs j sv hj))
  | v _ => exact .v _
  | nil b t A c => exact .nil b t A c
  | ro b t xs k o c u hb hle hc hcs => exact own1_sat h (.ro b t xs k o c u hb hle hc hcs)
  | _ => cases h

theorem allOwn_spec : ∀ {l : List SV}, allOwn l = true → ∀ (j : Nat) (s : SV), l[j]? = some s → ownB s = true
  | [], _, j, s, h => by simp at h
  | x :: l, h, j, s, hj => by
    unfold allOwn at h
    split at h
    · rename_i hx
      cases j with
      | zero => obtain rfl : x = s := by simpa using hj
                exact hx
      | succ j => exact allOwn_spec h j s (by simpa using hj)
    · cases h

theorem led_yield {o : Oper} {T : Tm} {M : En} {lo : Nat} {Kp : SV → List Nat → Prop} {Kg : SV → List Nat → List Nat → En → Prop} {c : Call} {f : Operand} {l : Nat} {cap : Array Value}
    (hop : o.op = .call c) (hc : c.callee = .value f) (hf : ev T f = .v (.func (.yield l) ⟨[]⟩ cap)) (h : YieldP P l (mapEv T c.args.toList) M Kg) : Led r P o T M lo Kp Kg := by
  have hops : opsOf o = opTmps (f :: c.args.toList) := by simp [opsOf, hop, Op.operands, Call.operands, hc]
  have hd : ∀ c, o.op ≠ .defer c := fun c => by simp [hop]
  obtain ⟨Y, k, i, as0, e0, h⟩ := h
  subst e0
  unfold YieldB at h
  split at h
  · rename_i F A hfi
    obtain ⟨⟨hok, hlive, rfl, rfl⟩, h⟩ := h
    obtain ⟨m, bs, fs, q, h, g1, gl, ga⟩ := (mat_good M 200).2 _ _ _ _ _ _ _ h
    split at h
    · split at h
      · rename_i hb
        simp only [Bool.and_eq_true, Bool.not_eq_true'] at hb
        obtain ⟨hown, hmem⟩ := hb
        have hifs : i ∉ fs := memB_false hmem
        obtain ⟨hq, hk⟩ := h
        have hq := conj_all q hq
        refine .inr ⟨_, _, _, _, hk, (fun id hid => hid), fun E fp a w hrd hents hfr => ?_⟩
        rw [hops] at hrd
        have e1 := ev_sat (E := E) (w := w) hrd (x := f) (List.mem_cons_self ..)
        rw [hf] at e1
        generalize hfe : a.eval f = fv at e1
        cases e1
        obtain ⟨a1, a2, a3⟩ := map_sat (T := T) (E := E) (w := w) (a := a) (l := c.args) (fun t ht => hrd t (by
          show t ∈ opTmps ([f] ++ c.args.toList)
          rw [opTmps_append]; exact List.mem_append_right _ ht))
        have hM : ∀ j, j ∈ i :: fs → EntSat E w (fp j) j (find M j) := fun j hj => wf_block hents hj
        have hlent : Lent M E w fp [] fs := ⟨hents.nil, fun j hj => hM j (List.mem_cons_of_mem _ (hj.resolve_left (fun h => by cases h)))⟩
        have hent := hM i (List.mem_cons_self ..)
        rw [hfi] at hent
        obtain ⟨hF, J, hJ, hS, hst⟩ := hent
        let E1 := envF E fp [] [] fs
        have hnotI : ∀ b, E1.I b → b < w.heap.size ∧ ¬ fp i b := fun b hb => by
          rcases hb with hb | ⟨j, hj, hb⟩
          · exact ⟨hents.Ilt b (.inl hb), fun hx => hents.I i b hx hb⟩
          · exact ⟨hents.lt j b hb, fun hx => hents.apart i j b (fun e => hifs (e ▸ hj)) hx hb⟩
        obtain ⟨fn, tmps, as, body, hy, hround⟩ := hok.law k J (fp i) E1.I w (c.args.map a.eval) hlive hS hnotI (fun b hb => .inl (hJ b hb).1)
          (fun b hb => ⟨(hF b hb).2, fun hx => by rcases (hF b hb).1 with h1 | h1; exact hents.I i b hx h1; exact hents.B i b hx h1⟩) (fun b hb => hents.lt i b hb) (by omega) (fun j s hj => by
            have hlt := (List.getElem?_eq_some_iff.1 hj).1
            have hlt' : j < (mapEv T c.args.toList).length := by omega
            exact ownB_sat (E := E1) (allOwn_spec hown j s hj) (ga j s _ hj (List.getElem?_eq_getElem hlt') hq E w fp hlent _ (a3 j _ (List.getElem?_eq_getElem hlt'))))
        refine OpRun.round hd (w' := w) (l := l) (f := fn) (tmps := tmps) (as := as) (body := body) ?_ (RoundIn.mono hround ?_)
        · simp only [execOp, hop, resolve, hc, hfe, Deferred.ofValue]
          rw [run_then (show (pure { target := Target.fn (Fn.yield l) cap, args := #[] ++ c.args.map a.eval } : Sem Deferred).run P w = .ok _ w from rfl)]
          simp only [invoke, Array.empty_append]
          exact hy
        · rintro e w' ⟨rfl, J', fp', hS', hkp, hJ', hon, hlt'⟩
          have hkeep : Keep (own fp) w w' := hkp.mono (fun b hb => ⟨i, hb⟩)
          have hstay : Stays E w w' := hents.stays hkeep
          let E2 : Env := ⟨E.slot, E1.I, E.B⟩
          have hle : E.le E2 := ⟨fun _ _ h => h, fun b hb => .inl hb, fun b hb => hb⟩
          open Classical in
          let fp2 : Nat → Nat → Prop := fun j => if j = i then fp' else if j ∈ fs then fun _ => False else fp j
          have f1 : fp2 i = fp' := by simp [fp2]
          have f2 : ∀ {j}, j ≠ i → j ∈ fs → fp2 j = fun _ => False := fun h1 h2 => by simp [fp2, h1, h2]
          have f3 : ∀ {j}, j ≠ i → j ∉ fs → fp2 j = fp j := fun h1 h2 => by simp [fp2, h1, h2]
          have hsub : ∀ {j b}, j ≠ i → fp2 j b → fp j b ∧ j ∉ fs := fun {j b} h1 h2 => by
            by_cases hc : j ∈ fs
            · rw [f2 h1 hc] at h2; exact h2.elim
            · rw [f3 h1 hc] at h2; exact ⟨h2, hc⟩
          have hap : ∀ {j b}, j ≠ i → fp' b → fp2 j b → False := fun {j b} h1 h2 h3 => by
            have h4 := (hsub h1 h3).1
            rcases hon b h2 with h5 | h5
            · exact hents.apart i j b (fun e => h1 e.symm) h5 h4
            · have := hents.lt j b h4; omega
          have hsame : ∀ b, fp i b → True := fun _ _ => trivial
          refine ⟨_, rfl, E2, fp2, .v _, ⟨fun id => ?_, fun id b hb => ?_, fun id b hb hI => ?_, fun id b hb hB => ?_, fun x y b hxy hx hy => ?_, fun b hb => ?_, hents.nil.mono hle, hents.glob (hents.stays hkeep) hle.I⟩, ⟨hkeep, hle, fun b hb => ?_, fun b hb => hb, fun id b hb => ?_⟩, fun id => .inl rfl⟩
          · rw [find_upd]
            by_cases e : id = i
            · subst e
              rw [if_pos (by simp [keys]), f1]
              show EntSat E2 w' fp' id (find [(id, Ent.res Y.F (Y.S (k + 1)))] id)
              have : find [(id, Ent.res Y.F (Y.S (k + 1)))] id = .res Y.F (Y.S (k + 1)) := by simp [find]
              rw [this]
              refine ⟨fun b hb => ⟨(hF b hb).1.imp .inl (fun h => h), Nat.lt_of_lt_of_le (hF b hb).2 hkp.size⟩, J', fun b hb => ⟨hJ' b hb, Nat.lt_of_lt_of_le (hnotI b (hJ' b hb)).1 hkp.size⟩, hS', fun w'' h1 h2 => hok.stay _ _ _ _ _ hS' h1 h2⟩
            · rw [if_neg (by simp [keys, e])]
              by_cases hc : id ∈ i :: fs
              · have hc' : id ∈ fs := (List.mem_cons.1 hc).resolve_left e
                rw [if_pos hc, f2 e hc']
                exact fun b hb => hb
              · have hc' : id ∉ fs := fun h => hc (List.mem_cons_of_mem _ h)
                rw [if_neg hc, f3 e hc']
                exact (hents.sat id).mono hle hstay hkp.size (fun b hb => hkp.same b (hents.lt id b hb) (fun hx => hents.apart i id b (fun h => e h.symm) hx hb))
          · by_cases e : id = i
            · subst e; rw [f1] at hb; exact hlt' b hb
            · exact Nat.lt_of_lt_of_le (hents.lt id b (hsub e hb).1) hkp.size
          · by_cases e : id = i
            · subst e
              rw [f1] at hb
              rcases hon b hb with h5 | h5
              · exact (hnotI b hI).2 h5
              · have := (hnotI b hI).1; omega
            · obtain ⟨h1, h2⟩ := hsub e hb
              rcases hI with hI | ⟨j, hj, hx⟩
              · exact hents.I id b h1 hI
              · exact hents.apart id j b (fun h => h2 (h ▸ hj)) h1 hx
          · by_cases e : id = i
            · subst e
              rw [f1] at hb
              rcases hon b hb with h5 | h5
              · exact hents.B id b h5 hB
              · have := hents.Ilt b (.inr hB); omega
            · exact hents.B id b (hsub e hb).1 hB
          · by_cases h1 : x = i <;> by_cases h2 : y = i
            · exact hxy (h1.trans h2.symm)
            · subst h1; rw [f1] at hx; exact hap h2 hx hy
            · subst h2; rw [f1] at hy; exact hap h1 hy hx
            · exact hents.apart x y b hxy (hsub h1 hx).1 (hsub h2 hy).1
          · rcases hb with hb | hb
            · exact Nat.lt_of_lt_of_le (hnotI b hb).1 hkp.size
            · exact Nat.lt_of_lt_of_le (hents.Ilt b (.inr hb)) hkp.size
          · rcases hb with hb | ⟨j, hj, hb⟩
            · exact .inl hb
            · exact .inr (.inl ⟨j, hb⟩)
          · by_cases e : id = i
            · subst e
              rw [f1] at hb
              exact (hon b hb).imp (fun h => ⟨id, h⟩) (fun h => h)
            · exact .inl ⟨id, (hsub e hb).1⟩
      · exact h.elim
    · exact h.elim
  · exact h.elim

theorem opV_led (hG : Known P G) {o : Oper} {T : Tm} {M : En} {lo : Nat} {Kp : SV → List Nat → Prop} {Kg : SV → List Nat → List Nat → En → Prop} (h : opV P G o lo T M Kp Kg) : Led r P o T M lo Kp Kg := by
  unfold opV at h
  split at h
  · rename_i x e; exact led_move (.inl e) h
  · rename_i x e; exact led_move (.inr e) h
  · rename_i c x y e; exact led_pick e h
  · rename_i t e; exact led_alloc e h
  · rename_i t x e; exact led_box e h
  · rename_i t parts e; exact led_build e h
  · rename_i t len parts e; exact led_buildSlice e h
  · rename_i t x e; exact led_load e h
  · rename_i t x y e; exact led_store e h
  · rename_i x e; exact led_nilCheck e h
  · rename_i t x f e; exact led_fieldAddr e h
  · rename_i t x f e; exact led_field e h
  · rename_i f a c e; exact led_makeFunc e h
  · rename_i x n e; exact led_extract e h
  · rename_i op t x y t' e; exact led_binW e h
  · rename_i a b x e; exact led_conv e h
  · rename_i t x i e; exact led_index e h
  · rename_i t x l h' m e; exact led_slice e h
  · rename_i t l c e; exact led_make e h
  · rename_i t x y e; exact led_indexAddr e h
  · rename_i t x e; exact led_range e h
  · rename_i x str e; exact led_next e h
  · rename_i c e
    split at h
    · rename_i f hc
      split at h
      · rename_i g cap hf; exact led_call hG e hc (by rw [hf]; exact h)
      · rename_i l cap hf; exact led_yield e hc hf h
      · exact h.elim
    · rename_i hc; exact led_clear e hc h
    · rename_i hc; exact led_app e hc h
    · rename_i b hn1 hn hc; exact led_blt e hc h
    · exact h.elim
  · exact h.elim
  · exact h.elim
  · rename_i h1 h2
    refine led_gen (fun cs b e => ?_) (fun c e => ?_) h
    · simp_all
    · simp_all

theorem gonesM_eq (M : En) : ∀ ci, gonesM ci M = gones ci ++ M
  | [] => rfl
  | i :: ci => by simp [gonesM, gones, gonesM_eq M ci]
theorem updM_eq (ci : List Nat) (M : En) : ∀ eo, updM eo ci M = upd eo ci M
  | [] => by simp [updM, upd, gonesM_eq]
  | p :: eo => by simp [updM, upd, updM_eq ci M eo]

theorem putK_eq (d : Option Nat) (x : SV) (T : Tm) (K : Tm → Prop) : putK d x T K = K (putT d x T) := by cases d <;> rfl
theorem gonesK_eq : ∀ (ci : List Nat) (M : En) (K : En → Prop), gonesK ci M K = K (gonesM ci M)
  | [], M, K => rfl
  | i :: ci, M, K => gonesK_eq ci M _
theorem updK_eq : ∀ (eo : En) (ci : List Nat) (M : En) (K : En → Prop), updK eo ci M K = K (updM eo ci M)
  | [], ci, M, K => gonesK_eq ci M K
  | p :: eo, ci, M, K => updK_eq eo ci M _
theorem forceN_eq (n : Nat) (K : Nat → Prop) : forceN n K = K n := by cases n <;> rfl

theorem LocOk.of_run {ops : Array Oper} {o : Oper} {T : Tm} {M : En} {lo hi : Nat} {f : Eff} {rd : List Nat} (h : LocRun r P o T M lo hi f) (hrd : ∀ t, t ∈ f.rd → t ∈ rd)
    (hw : ∀ (E : Env) (w : World) (a : Act), (∀ t, t ∈ rd → Sat E w (look T t) (a.tmps.getD t undef)) → Region.wanted o (yielded ops a.tmps) = true) :
    LocOk r P ops o T M lo hi ⟨rd, f.out, f.S, f.ci, f.eo⟩ := by
  refine ⟨h.1, fun E fp a w hs hents hfr => ?_⟩
  unfold OpStep
  rw [if_pos (hw E w a hs)]
  exact h.2 E fp a w (fun t ht => hs t (hrd t ht)) hents hfr

theorem LocOk.skip {ops : Array Oper} {o : Oper} {T : Tm} {M : En} {lo hi : Nat} {rd : List Nat}
    (hw : ∀ (E : Env) (w : World) (a : Act), (∀ t, t ∈ rd → Sat E w (look T t) (a.tmps.getD t undef)) → Region.wanted o (yielded ops a.tmps) = false) :
    LocOk r P ops o T M lo hi ⟨rd, .v undef, [], [], []⟩ := by
  refine ⟨(fun id hid => by cases hid), fun E fp a w hs hents hfr => ?_⟩
  unfold OpStep
  rw [if_neg (by rw [hw E w a hs]; simp)]
  exact ⟨E, fp, .v _, by rw [upd_nil]; exact hents, .refl _ _ _, fun id => .inl rfl⟩

theorem opV_loc (hG : Known P G) {ops : Array Oper} {base : Nat} {o : Oper} {i : Nat} {T : Tm} {M : En} {tr : List Tch} {K : Tm → En → List Tch → Prop}
    (h : opV P G o (base + 16 * i) T M (fun out S => K (putT o.dst out T) M (⟨rdOf ops.toList o, o.dst, S, []⟩ :: tr))
      (fun out S ci eo => K (putT o.dst out T) (updM eo ci M) (⟨rdOf ops.toList o, o.dst, S, ci ++ keys eo⟩ :: tr)))
    (hw : ∀ (E : Env) (w : World) (a : Act), (∀ t, t ∈ rdOf ops.toList o → Sat E w (look T t) (a.tmps.getD t undef)) → Region.wanted o (yielded ops a.tmps) = true) :
    ∃ ef : Eff, K (putT o.dst ef.out T) (upd ef.eo ef.ci M) (tchOf o ef :: tr) ∧ LocOk r P ops o T M (base + 16 * i) (base + 16 * i + 16) ef := by
  have hsub : ∀ t, t ∈ opsOf o → t ∈ rdOf ops.toList o := fun t ht => List.mem_append_right _ ht
  rcases opV_led hG (r := r) h with ⟨out, S, hk, hr⟩ | ⟨out, S, ci, eo, hk, hr⟩
  · exact ⟨⟨rdOf ops.toList o, out, S, [], []⟩, by rw [upd_nil]; exact hk, LocOk.of_run hr hsub hw⟩
  · exact ⟨⟨rdOf ops.toList o, out, S, ci, eo⟩, by rw [← updM_eq]; exact hk, LocOk.of_run hr hsub hw⟩

theorem opG_ok (hG : Known P G) {ops : Array Oper} {base : Nat} {o : Oper} {i : Nat} {T : Tm} {M : En} {tr : List Tch} {K : Tm → En → List Tch → Prop} (h : opG P G base ops.toList o i T M tr K) :
    ∃ ef : Eff, K (putT o.dst ef.out T) (upd ef.eo ef.ci M) (tchOf o ef :: tr) ∧ LocOk r P ops o T M (base + 16 * i) (base + 16 * i + 16) ef := by
  unfold opG at h
  rw [forceN_eq] at h
  simp only [putK_eq, updK_eq] at h
  split at h
  · rename_i hg
    exact opV_loc hG h (fun E w a _ => by simp [Region.wanted, hg])
  · rename_i g want hg
    split at h
    · rename_i d hd
      have hmem : d ∈ rdOf ops.toList o := List.mem_append_left _ (by rw [hd]; exact List.mem_singleton.2 rfl)
      have hdst : (ops[g]?).bind (·.dst) = some d := by
        unfold gTmp at hd
        rw [hg] at hd
        simp only at hd
        split at hd
        · rename_i og ho
          split at hd
          · rename_i d' hd'
            obtain rfl : d' = d := by simpa using hd
            rw [show ops[g]? = some og by simpa using ho]; simpa using hd'
          · cases hd
        · cases hd
      -- what the guard says
      have hwant : ∀ (b : Bool), look T d = .v (.bool b) → ∀ (E : Env) (w : World) (a : Act), (∀ t, t ∈ rdOf ops.toList o → Sat E w (look T t) (a.tmps.getD t undef)) → Region.wanted o (yielded ops a.tmps) = (b == want) := fun b hb E w a hs => by
        have h1 := hs d hmem
        rw [hb] at h1
        generalize hq : a.tmps.getD d undef = q at h1
        cases h1
        have h2 : a.tmps[d]? = some (.bool b) := by
          cases hc : a.tmps[d]? with
          | none => simp [hc, undef] at hq
          | some v => simp [hc] at hq; rw [hq]
        simp only [Region.wanted, hg, yielded, hdst, Option.bind_some, h2]
        cases b <;> cases want <;> rfl
      have hskip : K (putT o.dst (.v undef) T) M (⟨rdOf ops.toList o, o.dst, [], []⟩ :: tr) →
          (∀ (E : Env) (w : World) (a : Act), (∀ t, t ∈ rdOf ops.toList o → Sat E w (look T t) (a.tmps.getD t undef)) → Region.wanted o (yielded ops a.tmps) = false) →
          ∃ ef : Eff, K (putT o.dst ef.out T) (upd ef.eo ef.ci M) (tchOf o ef :: tr) ∧ LocOk r P ops o T M (base + 16 * i) (base + 16 * i + 16) ef := fun hk hw =>
        ⟨⟨rdOf ops.toList o, .v undef, [], [], []⟩, by rw [upd_nil]; exact hk, LocOk.skip hw⟩
      split at h
      · rename_i b hb
        split at h
        · cases b with
          | true => exact opV_loc hG (h.t rfl) (fun E w a hs => by rw [hwant true hb E w a hs]; rfl)
          | false => exact hskip (h.f rfl) (fun E w a hs => by rw [hwant false hb E w a hs]; rfl)
        · cases b with
          | true => exact hskip (h.t rfl) (fun E w a hs => by rw [hwant true hb E w a hs]; rfl)
          | false => exact opV_loc hG (h.f rfl) (fun E w a hs => by rw [hwant false hb E w a hs]; rfl)
      · rename_i vs hb
        refine hskip h (fun E w a hs => ?_)
        have h1 := hs d hmem
        rw [hb] at h1
        generalize hq : a.tmps.getD d undef = q at h1
        cases h1
        have h2 : ∀ b, a.tmps[d]? ≠ some (.bool b) := fun b hc => by simp [hc] at hq
        have hy : yielded ops a.tmps g = none := by
          unfold yielded
          rw [hdst, Option.bind_some]
          cases hc : a.tmps[d]? with
          | none => rfl
          | some v => cases v with
            | bool b => exact absurd hc (h2 b)
            | _ => rfl
        simp [Region.wanted, hg, hy]
      · exact h.elim
    · exact h.elim

/-! ### A region -/

theorem stD_congr {dst : Nat → Option Nat} {ef ef' : Nat → Eff} {T0 : Tm} {M0 : En} {D : Nat → Bool} : ∀ (m : Nat), (∀ j, j < m → ef j = ef' j) → stD dst ef T0 M0 D m = stD dst ef' T0 M0 D m
  | 0, _ => rfl
  | m + 1, h => by
    simp only [stD, stD_congr m (fun j hj => h j (by omega)), h m (by omega)]

theorem stD_none {dst : Nat → Option Nat} {ef : Nat → Eff} {T0 : Tm} {M0 : En} {D : Nat → Bool} : ∀ (m : Nat), (∀ j, j < m → D j = false) → stD dst ef T0 M0 D m = (T0, M0)
  | 0, _ => rfl
  | m + 1, h => by
    simp only [stD, h m (by omega)]
    exact stD_none m (fun j hj => h j (by omega))

/-- The touches, the last first. -/
def trOf (ops : Array Oper) (ef : Nat → Eff) : Nat → List Tch
  | 0 => []
  | n + 1 => tchOf (ops.getD n default) (ef n) :: trOf ops ef n

theorem trOf_length (ops : Array Oper) (ef : Nat → Eff) : ∀ n, (trOf ops ef n).length = n
  | 0 => rfl
  | n + 1 => by simp [trOf, trOf_length ops ef n]

theorem trOf_get (ops : Array Oper) (ef : Nat → Eff) : ∀ (n i : Nat) (o : Oper), i < n → ops[i]? = some o → (trOf ops ef n).reverse[i]? = some (tchOf o (ef i))
  | 0, i, o, h, _ => by omega
  | n + 1, i, o, h, ho => by
    simp only [trOf, List.reverse_cons]
    by_cases e : i = n
    · subst e
      rw [List.getElem?_append_right (by simp [trOf_length]), List.length_reverse, trOf_length]
      simp [ho]
    · rw [List.getElem?_append_left (by simp [trOf_length]; omega)]
      exact trOf_get ops ef n i o (by omega) ho

theorem trOf_congr {ops : Array Oper} {ef ef' : Nat → Eff} : ∀ n, (∀ j, j < n → ef j = ef' j) → trOf ops ef n = trOf ops ef' n
  | 0, _ => rfl
  | n + 1, h => by simp only [trOf, trOf_congr n (fun j hj => h j (by omega)), h n (by omega)]

theorem vcOps_cons (base : Nat) (all : List Oper) (o : Oper) (l : List Oper) (i : Nat) (T : Tm) (M : En) (tr : List Tch) (K : Tm → En → List Tch → Prop) :
    vcOps P G base all (o :: l) i T M tr K = opG P G base all o i T M tr (fun T M tr => vcOps P G base all l (i + 1) T M tr K) := by
  show opG P G base all o i T M tr (fun T M tr => forceN (i + 1) fun i => vcOps P G base all l i T M tr K) = _
  simp only [forceN_eq]

theorem vcOps_ok (hG : Known P G) {ops : Array Oper} {base : Nat} {T0 : Tm} {M0 : En} {K : Tm → En → List Tch → Prop} : ∀ (l : List Oper) (i : Nat) (ef0 : Nat → Eff), i + l.length = ops.size →
    (∀ j o, l[j]? = some o → ops[i + j]? = some o) →
    vcOps P G base ops.toList l i (stD (dstOf ops) ef0 T0 M0 (fun _ => true) i).1 (stD (dstOf ops) ef0 T0 M0 (fun _ => true) i).2 (trOf ops ef0 i) K →
    ∃ ef : Nat → Eff, (∀ j, j < i → ef j = ef0 j) ∧
      (∀ j o, i ≤ j → ops[j]? = some o → LocOk r P ops o (stD (dstOf ops) ef T0 M0 (fun _ => true) j).1 (stD (dstOf ops) ef T0 M0 (fun _ => true) j).2 (base + 16 * j) (base + 16 * j + 16) (ef j)) ∧
      K (stD (dstOf ops) ef T0 M0 (fun _ => true) ops.size).1 (stD (dstOf ops) ef T0 M0 (fun _ => true) ops.size).2 (trOf ops ef ops.size)
  | [], i, ef0, hlen, hl, h => by
    obtain rfl : i = ops.size := by simpa using hlen
    exact ⟨ef0, fun _ _ => rfl, fun j o hj ho => by have := (Array.getElem?_eq_some_iff.1 ho).1; omega, h⟩
  | o :: l, i, ef0, hlen, hl, h => by
    have hoi : ops[i]? = some o := by simpa using hl 0 o rfl
    have hdst : dstOf ops i = o.dst := by simp [dstOf, hoi]
    rw [vcOps_cons] at h
    obtain ⟨f, hk, hloc⟩ := opG_ok (r := r) hG (ops := ops) (o := o) h
    let ef1 : Nat → Eff := fun j => if j = i then f else ef0 j
    have e0 : ∀ j, j < i → ef1 j = ef0 j := fun j hj => by simp [ef1]; omega
    have e1 : ef1 i = f := by simp [ef1]
    have hst : stD (dstOf ops) ef1 T0 M0 (fun _ => true) i = stD (dstOf ops) ef0 T0 M0 (fun _ => true) i := stD_congr i e0
    have hst1 : stD (dstOf ops) ef1 T0 M0 (fun _ => true) (i + 1) = (putT o.dst f.out (stD (dstOf ops) ef0 T0 M0 (fun _ => true) i).1, upd f.eo f.ci (stD (dstOf ops) ef0 T0 M0 (fun _ => true) i).2) := by
      simp only [stD, hst, e1, hdst]
    have htr : trOf ops ef1 (i + 1) = tchOf o f :: trOf ops ef0 i := by
      simp only [trOf, e1, trOf_congr i e0]
      simp [hoi]
    obtain ⟨ef, g1, g2, g3⟩ := vcOps_ok (ops := ops) (K := K) (base := base) (T0 := T0) (M0 := M0) hG l (i + 1) ef1 (by simp at hlen; omega) (fun j o' hj => by
      have := hl (j + 1) o' (by simpa using hj)
      rw [show i + 1 + j = i + (j + 1) by omega]; exact this) (by rw [hst1, htr]; exact hk)
    refine ⟨ef, fun j hj => (g1 j (by omega)).trans (e0 j hj), fun j o' hj ho => ?_, g3⟩
    by_cases e : j = i
    · subst e
      obtain rfl : o = o' := Option.some.inj (hoi.symm.trans ho)
      have : stD (dstOf ops) ef T0 M0 (fun _ => true) j = stD (dstOf ops) ef0 T0 M0 (fun _ => true) j := (stD_congr j (fun k hk => g1 k (by omega))).trans hst
      rw [this, g1 j (by omega), e1]
      exact hloc
    · exact g2 j o' (by omega) ho

theorem Keep.drawn (own : Nat → Prop) (w : World) (n : Nat) (hn : w.drawn ≤ n) : Keep own w { w with drawn := n } := ⟨rfl, ⟨rfl, fun _ => hn⟩, rfl, Nat.le_refl _, fun _ _ _ => rfl⟩

theorem StSat.drawn {E : Env} {w : World} {fp : Nat → Nat → Prop} {a : Act} {nt : Nat} {T : Tm} {M : En} (h : StSat E w fp a nt T M) (n : Nat) : StSat E { w with drawn := n } fp a nt T M := by
  have hst : Stays E w { w with drawn := n } := fun _ _ _ => rfl
  exact ⟨h.sz, fun t => (h.tm t).mono (.refl E) hst, ⟨fun id => (h.en.sat id).mono (.refl E) hst (Nat.le_refl _) (fun _ _ => rfl), h.en.lt, h.en.I, h.en.B, h.en.apart, h.en.Ilt, h.en.nil, h.en.glob hst (fun _ h => h)⟩⟩

theorem Adv.drawn (E : Env) (fp : Nat → Nat → Prop) (w : World) (n : Nat) (hn : w.drawn ≤ n) : Adv E fp w E fp { w with drawn := n } :=
  ⟨.drawn _ _ _ hn, .refl _, fun _ h => .inl h, fun _ h => h, fun id _ h => .inl ⟨id, h⟩⟩

theorem reg_ok (hG : Known P G) (hm : P.follows .mixedOrders = true) {ops : Array Oper} {dr : Bool} {nx nt : Nat} {T : Tm} {M : En} {K : VK} (h : regV P G ops dr nx T M K)
    (hdst : ∀ (i : Nat) (o : Oper) (d : Nat), ops[i]? = some o → o.dst = some d → d < nt) {E : Env} {fp : Nat → Nat → Prop} {a : Act} {w : World} (hs : StSat E w fp a nt T M)
    (hfr : ∀ id, E.slot id ≠ none → id < nx) {id : Nat} {Q : Exit → Act → World → Prop}
    (hQ : ∀ T' M' E' fp' a' w', K .normal (nx + 16 * ops.size) T' M' → StSat E' w' fp' a' nt T' M' → (∀ id, E'.slot id ≠ none → id < nx + 16 * ops.size) → Adv E fp w E' fp' w' → (∀ id, id < nx → E'.slot id = E.slot id) → a'.defers = a.defers → Q .normal a' w') :
    (Code.region id ops dr).wpIn (fence r) 0 P Q a w := by
  unfold regV at h
  simp only [forceN_eq] at h
  obtain ⟨ef, _, hloc, hk⟩ := vcOps_ok (r := r) hG (ops := ops) (T0 := T) (M0 := M) ops.toList 0 (fun _ => default) (by simp) (fun j o hj => by simpa using hj) h
  have ht : Traced r P ops nt nx T M ef := ⟨fun i o ho => hloc i o (Nat.zero_le _) ho, hdst⟩
  -- the end
  have fin : ∀ E' fp' a' w' (D : Nat → Bool), (∀ j, j < ops.size → D j = true) → (∀ j, ops.size ≤ j → D j = false) → AtD ops nt nx T M ef D E' fp' a' w' →
      StSat E' w' fp' a' nt (stD (dstOf ops) ef T M (fun _ => true) ops.size).1 (stD (dstOf ops) ef T M (fun _ => true) ops.size).2 ∧ (∀ id, E'.slot id ≠ none → id < nx + 16 * ops.size) := fun E' fp' a' w' D hD hD2 h => by
    refine ⟨h.1.congr (fun t => stD_look _ (fun j hj _ => (hD j hj).symm)) (fun id => stD_find _ (fun j hj _ => (hD j hj).symm)), fun id hne => ?_⟩
    rcases h.2 id hne with h1 | ⟨i, h1, h2, h3⟩
    · omega
    · have : i < ops.size := by
        rcases Nat.lt_or_ge i ops.size with h4 | h4
        · exact h4
        · rw [hD2 i h4] at h1; cases h1
      omega
  have start : ∀ (D : Nat → Bool) (w' : World), (∀ j, D j = false) → StSat E w' fp a nt T M → AtD ops nt nx T M ef D E fp a w' := fun D w' hD hs => by
    refine ⟨?_, fun id hne => .inl (hfr id hne)⟩
    rw [stD_none _ (fun j _ => hD j)]; exact hs
  cases dr with
  | false =>
    refine wpIn_region ?_
    rw [List.range_eq_range']
    refine run_text ht ops.size 0 (by omega) E fp a w (start _ w (fun j => by simp) hs) (fun E' fp' a' w' h1 h2 hsl h3 => ?_)
    obtain ⟨q1, q2⟩ := fin E' fp' a' w' _ (fun j hj => by simp [hj]) (fun j hj => by simp [hj]) h1
    exact hQ _ _ E' fp' a' w' hk q1 q2 h2 hsl h3
  | true =>
    obtain ⟨hrace, hk⟩ := hk
    refine wpIn_region_any hm ?_
    have hrep : ∀ j, (Array.replicate ops.size false).getD j false = false := fun j => by by_cases hj : j < ops.size <;> simp [Array.getD, hj]
    refine run_any ht (fun i o ho => trOf_get ops ef _ i o (Array.getElem?_eq_some_iff.1 ho).1 ho) hrace ops.size _ (by simp) (by simp [List.countP_replicate]) (fun j o ho hj => by rw [hrep] at hj; cases hj) E fp a _ (start _ _ hrep (hs.drawn _)) ?_
    intro E' fp' a' w' D hD hD2 h1 h2 hsl h3
    obtain ⟨q1, q2⟩ := fin E' fp' a' w' D hD hD2 h1
    exact hQ _ _ E' fp' a' w' hk q1 q2 ((Adv.drawn E fp w _ (Nat.le_succ _)).trans h2) hsl h3

end
end Go.Eng

/-! The engine, part N: the conditions asked of a text of code suffice. -/
set_option linter.unusedVariables false
namespace Go.Eng
variable [DM]
set_option linter.unusedSectionVars false

/-- How a state lies to the one that was entered. -/
structure From (rg : Mp) (E0 : Env) (fp0 : Nat → Nat → Prop) (w0 : World) (E : Env) (fp : Nat → Nat → Prop) (w : World) : Prop where
  keep : Keep (own fp0) w0 w
  I : ∀ b, E0.I b → E.I b
  Inew : ∀ b, E.I b → E0.I b ∨ own fp0 b ∨ w0.heap.size ≤ b
  B : ∀ b, E.B b ↔ E0.B b
  onew : ∀ id b, fp id b → own fp0 b ∨ w0.heap.size ≤ b
  slot : ∀ j i, mlook rg j = some i → i = j ∧ j < 1984 ∧ E.slot j = E0.slot j

theorem From.refl {rg : Mp} (E : Env) (fp : Nat → Nat → Prop) (w : World) (h : ∀ j i, mlook rg j = some i → i = j ∧ j < 1984) : From rg E fp w E fp w :=
  ⟨.refl _ _, fun _ h => h, fun _ h => .inl h, fun _ => Iff.rfl, fun id _ h => .inl ⟨id, h⟩, fun j i hj => ⟨(h j i hj).1, (h j i hj).2, rfl⟩⟩

theorem From.step {rg : Mp} {E0 E E' : Env} {fp0 fp fp' : Nat → Nat → Prop} {w0 w w' : World} (h : From rg E0 fp0 w0 E fp w) (k : Adv E fp w E' fp' w') (hs : ∀ id, id < 2000 → E'.slot id = E.slot id) : From rg E0 fp0 w0 E' fp' w' := by
  have onew : ∀ b, own fp b → own fp0 b ∨ w0.heap.size ≤ b := fun b ⟨id, hb⟩ => h.onew id b hb
  refine ⟨⟨k.keep.os.trans h.keep.os, k.keep.tape.trans h.keep.tape, k.keep.output.trans h.keep.output, Nat.le_trans h.keep.size k.keep.size, fun b hb hn => ?_⟩, fun b hb => k.le.I b (h.I b hb), fun b hb => ?_,
    fun b => ⟨fun hb => (h.B b).1 (k.Beq b hb), fun hb => k.le.B b ((h.B b).2 hb)⟩, fun id b hb => ?_, fun j i hj => ?_⟩
  · rw [k.keep.same b (Nat.lt_of_lt_of_le hb h.keep.size) (fun ho => ?_), h.keep.same b hb hn]
    rcases onew b ho with h1 | h1
    · exact hn h1
    · omega
  · rcases k.Inew b hb with h1 | h1 | h1
    · exact h.Inew b h1
    · exact .inr (onew b h1)
    · have := h.keep.size; exact .inr (.inr (by omega))
  · rcases k.onew id b hb with h1 | h1
    · exact onew b h1
    · have := h.keep.size; exact .inr (by omega)
  · obtain ⟨h1, h2, h3⟩ := h.slot j i hj
    exact ⟨h1, h2, (hs j (by omega)).trans h3⟩

/-- The same state under the target's names. -/
theorem From.rename {rg m : Mp} {E0 E : Env} {fp0 fp : Nat → Nat → Prop} {w0 w : World} (h : From rg E0 fp0 w0 E fp w) (fs : List Nat) (tgt : En) (hm : ∀ j i, mlook rg j = some i → mlook m j = some i) :
    From rg E0 fp0 w0 (envF E fp m [] fs) (fpF fp m tgt) w := by
  refine ⟨h.keep, fun b hb => .inl (h.I b hb), fun b hb => ?_, fun b => ⟨fun hb => ?_, fun hb => .inl ((h.B b).2 hb)⟩, fun id b hb => ?_, fun j i hj => ?_⟩
  · rcases hb with hb | ⟨i, _, hb⟩
    · exact h.Inew b hb
    · exact .inr (h.onew i b hb)
  · rcases hb with hb | ⟨i, hi, _⟩
    · exact (h.B b).1 hb
    · cases hi
  · cases hi : mlook m id with
    | none => simp only [fpF, hi] at hb
    | some i => simp only [fpF, hi] at hb; exact h.onew _ b (fpG_sub hb)
  · obtain ⟨h1, h2, h3⟩ := h.slot j i hj
    subst h1
    exact ⟨rfl, h2, by simp only [envF, nilB_lt (show i < 1984 by omega), hm i i hj, Option.bind_some]; exact h3⟩

/-- A block that nobody here touches. -/
def Aside (E : Env) (fp : Nat → Nat → Prop) (w : World) (b : Nat) (o : Obj) : Prop := w.heap[b]? = some o ∧ ¬ own fp b ∧ ¬ E.I b ∧ ¬ E.B b

theorem Aside.step {E E' : Env} {fp fp' : Nat → Nat → Prop} {w w' : World} {b : Nat} {o : Obj} (h : Aside E fp w b o) (k : Adv E fp w E' fp' w') : Aside E' fp' w' b o := by
  obtain ⟨h1, h2, h3, h4⟩ := h
  have hlt := (Array.getElem?_eq_some_iff.1 h1).1
  refine ⟨(k.keep.same b hlt h2).trans h1, fun ⟨id, hb⟩ => ?_, fun hI => ?_, fun hB => h4 (k.Beq b hB)⟩
  · rcases k.onew id b hb with h5 | h5
    · exact h2 h5
    · omega
  · rcases k.Inew b hI with h5 | h5 | h5
    · exact h3 h5
    · exact h2 h5
    · omega

theorem Aside.rename {E : Env} {fp : Nat → Nat → Prop} {w : World} {b : Nat} {o : Obj} {m : Mp} (h : Aside E fp w b o) (fs : List Nat) (tgt : En) : Aside (envF E fp m [] fs) (fpF fp m tgt) w b o := by
  obtain ⟨h1, h2, h3, h4⟩ := h
  refine ⟨h1, fun ⟨id, hb⟩ => ?_, fun hI => ?_, fun hB => ?_⟩
  · cases hi : mlook m id with
    | none => simp only [fpF, hi] at hb
    | some i => simp only [fpF, hi] at hb; exact h2 ⟨i, fpG_sub hb⟩
  · rcases hI with hI | ⟨i, _, hb⟩
    · exact h3 hI
    · exact h2 ⟨i, hb⟩
  · rcases hB with hB | ⟨i, hi, _⟩
    · exact h4 hB
    · cases hi

def markOf (b : Nat) : Deferred := { target := .collected b, args := #[] }

/-- Side blocks that stay; and the marks among the deferred calls. -/
structure Held (H : List (Nat × Obj)) (w0 : World) (E : Env) (fp : Nat → Nat → Prop) (w : World) (df : List Deferred) : Prop where
  side : ∀ b o, (b, o) ∈ H → Aside E fp w b o
  marks : ∃ ds : List Nat, df = ds.map markOf ∧ ds.Nodup ∧ ∀ b, b ∈ ds → w0.heap.size ≤ b ∧ Aside E fp w b (.deferred (some []))

theorem Held.step {H : List (Nat × Obj)} {w0 : World} {E E' : Env} {fp fp' : Nat → Nat → Prop} {w w' : World} {df : List Deferred} (h : Held H w0 E fp w df) (k : Adv E fp w E' fp' w') : Held H w0 E' fp' w' df :=
  ⟨fun b o hb => (h.side b o hb).step k, let ⟨ds, h1, h2, h3⟩ := h.marks; ⟨ds, h1, h2, fun b hb => ⟨(h3 b hb).1, (h3 b hb).2.step k⟩⟩⟩
theorem Held.rename {H : List (Nat × Obj)} {w0 : World} {E : Env} {fp : Nat → Nat → Prop} {w : World} {df : List Deferred} {m : Mp} (h : Held H w0 E fp w df) (fs : List Nat) (tgt : En) :
    Held H w0 (envF E fp m [] fs) (fpF fp m tgt) w df :=
  ⟨fun b o hb => (h.side b o hb).rename fs tgt, let ⟨ds, h1, h2, h3⟩ := h.marks; ⟨ds, h1, h2, fun b hb => ⟨(h3 b hb).1, (h3 b hb).2.rename fs tgt⟩⟩⟩

/-- The state at a place of the text. -/
def Here (rg : Mp) (E0 : Env) (fp0 : Nat → Nat → Prop) (w0 : World) (nt : Nat) (H : List (Nat × Obj)) (nx : Nat) (T : Tm) (M : En) (a : Act) (w : World) : Prop :=
  ∃ E fp, StSat E w fp a nt T M ∧ (∀ id, E.slot id ≠ none → id < nx) ∧ From rg E0 fp0 w0 E fp w ∧ Held H w0 E fp w a.defers

theorem look_mem (t : Nat) : ∀ (T : Tm), look T t = .any ∨ (t, look T t) ∈ T
  | [] => .inl rfl
  | (j, x) :: T => by
    simp only [look]
    cases hb : Nat.beq j t with
    | true => obtain rfl := Nat.eq_of_beq_eq_true hb; exact .inr (List.mem_cons_self ..)
    | false => exact (look_mem t T).imp id (List.mem_cons_of_mem _)

theorem matT_good {M : En} {T : Tm} : ∀ (tgt : Tm) {m : Mp} {bs fs : List Nat} {q : List Prop} {K : MK}, matT M T tgt m bs fs q K →
    ∃ m' bs' fs' q', K m' bs' fs' q' ∧ Grow m m' bs bs' fs fs' q q' ∧ ∀ t s, (t, s) ∈ tgt → Good1 M s (look T t) m' bs' fs' q'
  | [], m, bs, fs, q, K, h => ⟨m, bs, fs, q, h, .refl _ _ _ _, fun _ _ h => by cases h⟩
  | (t, s) :: l, m, bs, fs, q, K, h => by
    obtain ⟨m1, bs1, fs1, q1, h, g1, d1⟩ := (mat_good M 200).1 _ _ _ _ _ _ _ h
    obtain ⟨m2, bs2, fs2, q2, h, g2, d2⟩ := matT_good l h
    refine ⟨m2, bs2, fs2, q2, h, g1.trans g2, fun t' s' hm => ?_⟩
    rcases List.mem_cons.1 hm with e | hm
    · obtain ⟨rfl, rfl⟩ := Prod.mk.inj e; exact d1.grow g2
    · exact d2 t' s' hm

section
variable {r : Option Nat} {P : Program} {G : Nat → Option Ctr} {An : List Nat → Nat → Option AN} {rg : Mp} {E0 : Env} {fp0 : Nat → Nat → Prop} {w0 : World} {nt : Nat} {df : List (Nat × Obj)}

theorem matSt_ok {T T' : Tm} {M M' : En} {K : Prop} {nx : Nat} {a : Act} {w : World} (h : matSt rg T M T' M' K) (hh : Here rg E0 fp0 w0 nt df nx T M a w) : K ∧ Here rg E0 fp0 w0 nt df 2000 T' M' a w := by
  obtain ⟨E, fp, hs, hnx, hf, hd⟩ := hh
  obtain ⟨m1, bs1, fs1, q1, h, g1, d1⟩ := matT_good _ h
  obtain ⟨m, bs, fs, q, us, h, g2, ht, hsem⟩ := matE_good _ h
  cases bs with
  | cons _ _ => exact h.elim
  | nil =>
    simp only at h
    split at h
    · exact h.elim
    · rename_i hchk
      simp only [Bool.or_eq_false_iff, Bool.not_eq_false'] at hchk
      obtain ⟨hfu, hlt⟩ := hchk
      obtain ⟨hq, hk⟩ := h
      have hq := conj_all q hq
      have hlent : Lent M E w fp [] fs := ⟨hs.en.nil, fun i hi => hs.en.sat i⟩
      have hT := EntsSat.target (M := M) (bs := []) hs.en (fun i hi => hs.en.sat i) ht (fun j e hm i hi he => hsem hq E w fp hlent j e hm i hi he) (by rfl) hfu
      refine ⟨hk, envF E fp m [] fs, fpF fp m M', ⟨hs.sz, fun t => ?_, hT⟩, fun id hne => ?_, hf.rename fs M' (fun j i hj => g2.m j i (g1.m j i hj)), hd.rename fs M'⟩
      · rcases look_mem t T' with e | e
        · rw [e]; exact .any _
        · exact (d1 _ _ e).grow g2 hq E w fp hlent _ (hs.tm t)
      · simp only [envF] at hne
        cases hz : nilB id with
        | true => exact (nilB_range hz).2
        | false =>
          rw [hz] at hne
          cases hm : mlook m id with
          | none => rw [hm] at hne; exact absurd rfl hne
          | some i => have := allLt_spec hlt id i hm; omega

end
end Go.Eng

/-! The engine, part R: a range over a function. -/
set_option linter.unusedVariables false
namespace Go.Eng
variable [DM]
set_option linter.unusedSectionVars false

/-- The conditions of a text suffice. -/
def VOk (P : Program) (G : Nat → Option Ctr) (An : List Nat → Nat → Option AN) (nt : Nat) (c : Code) : Prop :=
  ∀ (ms : List Nat) (r : Option Nat) (rg : Mp) (E0 : Env) (fp0 : Nat → Nat → Prop) (w0 : World) (df : List (Nat × Obj)), (∀ l, r = some l → ∃ rec, (l, Obj.loop rec) ∈ df) →
    ∀ (cur nx : Nat) (T : Tm) (M : En) (K : VK) (Q : Exit → Act → World → Prop) (a : Act) (w : World), 2000 ≤ nx →
    vc P G An c ms rg cur nx T M K → Here rg E0 fp0 w0 nt df nx T M a w →
    (∀ e nx' T' M' a' w', 2000 ≤ nx' → K e nx' T' M' → Here rg E0 fp0 w0 nt df nx' T' M' a' w' → Q e a' w') → c.wpIn (fence r) 0 P Q a w

/-! ### Names that are among rg -/

def restr (E : Env) (rg : List Nat) : Env := ⟨fun j => if j ∈ rg then E.slot j else none, E.I, E.B⟩

theorem restr_le {E E' : Env} {rg : List Nat} (hs : ∀ j, j ∈ rg → E'.slot j = E.slot j) (hI : ∀ b, E.I b → E'.I b) (hB : ∀ b, E.B b → E'.B b) : (restr E rg).le E' :=
  ⟨fun id s h => (by
    simp only [restr] at h
    split at h
    · rename_i hm; rw [hs id hm]; exact h
    · exact absurd h (by simp)), hI, hB⟩

theorem restr_slot {E : Env} {rg : List Nat} {i : Nat} (h : memB i rg = true) : (restr E rg).slot i = E.slot i := by simp [restr, memB_iff.1 h]

theorem in_sat {E : Env} {w : World} {rg : List Nat} : ∀ n, (∀ s v, inS n rg s = true → Sat E w s v → Sat (restr E rg) w s v) ∧
    (∀ l, inL n rg l = true → ∀ (j : Nat) (s : SV), l[j]? = some s → ∀ v, Sat E w s v → Sat (restr E rg) w s v) := by
  intro n
  induction n with
  | zero => exact ⟨fun s v h => by simp [inS] at h, fun l h => by simp [inL] at h⟩
  | succ n ih =>
    obtain ⟨ih1, ih2⟩ := ih
    refine ⟨fun s v h hs => ?_, fun l h => ?_⟩
    · unfold inS at h
      cases hs with
      | v => exact .v _
      | any => exact .any _
      | ptr id off s h1 => exact .ptr id off s ((restr_slot h).trans h1)
      | unkB p b hp => exact .unkB p b hp
      | elp id sz i off s h1 o n c hv => exact .elp id sz i off s ((restr_slot h).trans h1) o n c hv
      | rop b cs off k o u hb hc hs => exact .rop b cs off k o u hb hc (fun j sv hj => ih2 cs h j sv hj _ (hs j sv hj))
      | sl id s h1 => exact .sl id s ((restr_slot h).trans h1)
      | slc id off len cap s h1 => exact .slc id off len cap s ((restr_slot h).trans h1)
      | slv id sz lo n s h1 o m c c' A hv hlo hn hm hA => exact .slv id sz lo n s ((restr_slot h).trans h1) o m c c' A hv hlo hn hm hA
      | nil b t A c => exact .nil b t A c
      | ro b t xs k o c u hb hle hc hs => exact .ro b t xs k o c u hb hle hc (fun i x j sv hi hj => (enc_move (E := E) (E' := restr E rg) (fun b hb => hb) t).1 x j sv _ hj (hs i x j sv hi hj))
      | agg l vs u hl hu hs => exact .agg l vs u hl hu (fun j sv hj => ih2 l h j sv hj _ (hs j sv hj))
      | tuple l vs u hl hu hs => exact .tuple l vs u hl hu (fun j sv hj => ih2 l h j sv hj _ (hs j sv hj))
      | func fn f c vf vc uf uc hf hc huf huc hsf hsc =>
        dsimp only at h
        split at h
        · rename_i h1
          exact .func fn f c vf vc uf uc hf hc huf huc (fun j sv hj => ih2 f h1 j sv hj _ (hsf j sv hj)) (fun j sv hj => ih2 c h j sv hj _ (hsc j sv hj))
        · cases h
    · intro j s hj v hv
      unfold inL at h
      cases l with
      | nil => simp at hj
      | cons x l =>
        dsimp only at h
        split at h
        · rename_i h1
          cases j with
          | zero =>
            obtain rfl : x = s := by simpa using hj
            exact ih1 _ v h1 hv
          | succ j => exact ih2 l h j s (by simpa using hj) v hv
        · cases h

theorem inT_sat {E : Env} {w : World} {rg : List Nat} : ∀ {T : Tm}, inT rg T = true → ∀ t v, Sat E w (look T t) v → Sat (restr E rg) w (look T t) v
  | [], _, t, v, _ => .any v
  | (j, s) :: T, h, t, v, hv => by
    unfold inT at h
    split at h
    · rename_i h1
      simp only [look] at hv ⊢
      split
      · rename_i hb; rw [hb] at hv; exact (in_sat 200).1 s v h1 hv
      · rename_i hb; rw [hb] at hv; exact inT_sat h t v hv
    · cases h

theorem ltB_spec {n : Nat} : ∀ {l : List Nat}, ltB n l = true → ∀ i, i ∈ l → i < n
  | [], _, i, hi => by cases hi
  | j :: l, h, i, hi => by
    unfold ltB at h
    split at h
    · rename_i hb
      rcases List.mem_cons.1 hi with rfl | hi
      · exact Nat.le_of_ble_eq_true hb
      · exact ltB_spec h i hi
    · cases h

theorem idM_some : ∀ {l : List Nat} {j i : Nat}, mlook (idM l) j = some i → i = j ∧ j ∈ l
  | [], j, i, h => by cases h
  | k :: l, j, i, h => by
    simp only [idM] at h
    rw [mlook_cons] at h
    split at h
    · rename_i e; subst e; exact ⟨(Option.some.inj h).symm, List.mem_cons_self ..⟩
    · exact ⟨(idM_some h).1, List.mem_cons_of_mem _ (idM_some h).2⟩
theorem idM_mem : ∀ {l : List Nat} {j : Nat}, j ∈ l → mlook (idM l) j = some j
  | k :: l, j, h => by
    simp only [idM]
    rw [mlook_cons]
    split
    · rename_i e; subst e; rfl
    · rename_i e; exact idM_mem ((List.mem_cons.1 h).resolve_left (fun h' => e h'.symm))

theorem goesB_succ {g : Nat → Bool} {k : Nat} (h : goesB g k = true) : goesB g (k + 1) = g k := by simp [goesB, h]
theorem liveB_goes {n : Nat} {g : Nat → Bool} {k : Nat} (h : liveB n g k = true) : goesB g k = true := by
  unfold liveB at h; split at h; exact h; cases h
theorem goesB_iff {g : Nat → Bool} : ∀ {k : Nat}, goesB g k = true ↔ ∀ j, j < k → g j = true
  | 0 => ⟨fun _ j hj => by omega, fun _ => rfl⟩
  | k + 1 => by
    unfold goesB
    cases h : goesB g k with
    | true =>
      have := (goesB_iff (g := g) (k := k)).1 h
      exact ⟨fun hg j hj => by
        rcases Nat.lt_or_ge j k with h1 | h1
        · exact this j h1
        · obtain rfl : j = k := by omega
          exact hg, fun hg => hg k (by omega)⟩
    | false => exact ⟨fun h => (by cases h), fun hg => by
        have := (goesB_iff (g := g) (k := k)).2 (fun j hj => hg j (by omega))
        rw [h] at this; cases this⟩
theorem liveB_iff {n : Nat} {g : Nat → Bool} {k : Nat} : liveB n g k = true ↔ k < n ∧ ∀ j, j < k → g j = true := by
  unfold liveB
  cases h : Nat.blt k n with
  | true => exact ⟨fun hg => ⟨Nat.le_of_ble_eq_true h, goesB_iff.1 hg⟩, fun hg => goesB_iff.2 hg.2⟩
  | false => exact ⟨fun h => (by cases h), fun ⟨hg, _⟩ => by
      have : Nat.blt k n = true := Nat.ble_eq_true_of_le hg
      rw [h] at this; cases this⟩

/-! ### The parameters -/

def setL (tmps : Array Value) : List (Nat × Value) → Array Value
  | [] => tmps
  | (t, v) :: l => setL (tmps.setIfInBounds t v) l

theorem setL_foldl (ps : Array Nat) (vals : Array Value) (tmps : Array Value) : (ps.zip vals).foldl (fun tmps (t, a) => tmps.setIfInBounds t a) tmps = setL tmps (ps.toList.zip vals.toList) := by
  rw [← Array.foldl_toList, Array.toList_zip]
  generalize ps.toList.zip vals.toList = l
  induction l generalizing tmps with
  | nil => rfl
  | cons p l ih => simp only [List.foldl_cons, setL]; exact ih _

theorem setPs_len : ∀ {ps : List Nat} {ss : List SV} {T T' : Tm}, setPs ps ss T = some T' → ps.length = ss.length
  | [], [], _, _, _ => rfl
  | p :: ps, s :: ss, T, T', h => by simp only [setPs] at h; simp only [List.length_cons, setPs_len h]
  | [], _ :: _, _, _, h => by cases h
  | _ :: _, [], _, _, h => by cases h

theorem setPs_sat {E : Env} {w : World} {nt : Nat} : ∀ (ps : List Nat) (ss : List SV) (vals : List Value) {T T' : Tm} {tmps : Array Value}, setPs ps ss T = some T' → vals.length = ss.length → (∀ p, p ∈ ps → p < nt) →
    (∀ (j : Nat) (s : SV), ss[j]? = some s → Sat E w s (vals.getD j undef)) → tmps.size = nt → (∀ t, Sat E w (look T t) (tmps.getD t undef)) →
    (setL tmps (ps.zip vals)).size = nt ∧ ∀ t, Sat E w (look T' t) ((setL tmps (ps.zip vals)).getD t undef)
  | [], [], vals, T, T', tmps, h, _, _, _, hz, hT => by
    obtain rfl := Option.some.inj h
    exact ⟨hz, hT⟩
  | p :: ps, s :: ss, vals, T, T', tmps, h, hl, hp, hv, hz, hT => by
    cases vals with
    | nil => simp at hl
    | cons v vals =>
      simp only [setPs] at h
      simp only [List.zip_cons_cons, setL]
      refine setPs_sat ps ss vals h (by simpa using hl) (fun q hq => hp q (List.mem_cons_of_mem _ hq)) (fun j s' hj => by simpa using hv (j + 1) s' (by simpa using hj)) (by simpa using hz) (fun t => ?_)
      rw [look_putT]
      by_cases e : p = t
      · subst e
        rw [if_pos rfl]
        have hlt : p < tmps.size := by rw [hz]; exact hp p (List.mem_cons_self ..)
        have : (tmps.setIfInBounds p v).getD p undef = v := by simp [Array.getD, hlt]
        rw [this]
        simpa using hv 0 s rfl
      · rw [if_neg (fun h => e (Option.some.inj h))]
        have : (tmps.setIfInBounds p v).getD t undef = tmps.getD t undef := by
          simp only [Array.getD_eq_getD_getElem?]
          rw [Array.getElem?_setIfInBounds_ne e]
        rw [this]
        exact hT t
  | [], _ :: _, _, _, _, _, h, _, _, _, _, _ => by cases h
  | _ :: _, [], _, _, _, _, h, _, _, _, _, _ => by cases h

/-! ### The caller's side of a range -/

def jumpC : Exit → Option Code
  | .exit j => some (.exit j)
  | .ret => some .ret
  | _ => none

/-- The record behind k rounds. -/
def recAt (R : RA) (x : R.X) (rec : Loop) (k : Nat) : Loop :=
  { rec with state := if goesB (R.goes x) k = true then .ready else .done, pending := if goesB (R.goes x) k = true then none else jumpC (R.jump x (k - 1)) }

/-- His state ahead of round k. -/
def ranS (R : RA) (x : R.X) (E0 : Env) (w1 : World) (rec : Loop) (l : Nat) (k : Nat) (J fp : Nat → Prop) (w : World) : Prop :=
  ∃ (E : Env) (fpm : Nat → Nat → Prop) (V : Nat → Prop), w.heap[l]? = some (.loop (recAt R x rec k)) ∧ EntsSat E w fpm (R.M x k) ∧ (∀ b, E.I b ↔ E0.I b ∨ J b ∨ V b) ∧ (∀ b, E.B b ↔ E0.B b) ∧
    (∀ b, fp b ↔ b = l ∨ own fpm b ∨ V b) ∧ (∀ j, j ∈ R.rg → E.slot j = E0.slot j) ∧ (∀ id, E.slot id ≠ none → id < 2000) ∧ (¬ own fpm l ∧ ¬ E.I l ∧ ¬ E.B l) ∧
    (∀ b, E0.I b ∨ E0.B b → w.heap[b]? = w1.heap[b]?)

def ranY (R : RA) (x : R.X) (E0 : Env) (w1 : World) (rec : Loop) (l : Nat) : Yld :=
  { args := R.args x, goes := R.goes x, live := liveB (R.n x) (R.goes x), F := fun b => E0.I b ∨ E0.B b, S := ranS R x E0 w1 rec l }

theorem ranS_stay {R : RA} {x : R.X} {E0 : Env} {w1 : World} {rec : Loop} {l k : Nat} {J fp : Nat → Prop} {w w' : World} (h : ranS R x E0 w1 rec l k J fp w) (hz : w.heap.size ≤ w'.heap.size)
    (hs : ∀ b, fp b ∨ (E0.I b ∨ E0.B b) ∨ J b → w'.heap[b]? = w.heap[b]?) : ranS R x E0 w1 rec l k J fp w' := by
  obtain ⟨E, fpm, V, hl, hents, hEI, hEB, hfp, hslot, hlt, hno, hst⟩ := h
  have hfrz : ∀ b, E.I b ∨ E.B b → w'.heap[b]? = w.heap[b]? := fun b hb => by
    rcases hb with hb | hb
    · rcases (hEI b).1 hb with h1 | h1 | h1
      · exact hs b (.inr (.inl (.inl h1)))
      · exact hs b (.inr (.inr h1))
      · exact hs b (.inl ((hfp b).2 (.inr (.inr h1))))
    · exact hs b (.inr (.inl (.inr ((hEB b).1 hb))))
  have hown : ∀ id b, fpm id b → w'.heap[b]? = w.heap[b]? := fun id b hb => hs b (.inl ((hfp b).2 (.inr (.inl ⟨id, hb⟩))))
  refine ⟨E, fpm, V, (hs l (.inl ((hfp l).2 (.inl rfl)))).trans hl, ⟨fun id => (hents.sat id).mono (.refl E) (fun b hb _ => hfrz b hb) hz (fun b hb => hown id b hb), fun id b hb => Nat.lt_of_lt_of_le (hents.lt id b hb) hz, hents.I, hents.B, hents.apart,
    fun b hb => Nat.lt_of_lt_of_le (hents.Ilt b hb) hz, hents.nil, hents.glob (fun b hb _ => hfrz b hb) (fun _ h => h)⟩, hEI, hEB, hfp, hslot, hlt, hno, fun b hb => (hs b (.inr (.inl hb))).trans (hst b hb)⟩

theorem fence_inRound (r : Option Nat) (l : Nat) : (fence r).inRound l = fence (some l) := rfl

/-- The record turns. -/
theorem Here.put {rg : Mp} {E0 : Env} {fp0 : Nat → Nat → Prop} {w0 : World} {nt l : Nat} {o o' : Obj} {nx : Nat} {T : Tm} {M : En} {a : Act} {w : World} (h : Here rg E0 fp0 w0 nt [(l, o)] nx T M a w) (hl0 : l < w0.heap.size) (hown : own fp0 l) :
    Here rg E0 fp0 w0 nt [(l, o')] nx T M a (w.putObj l o') := by
  obtain ⟨E, fp, hs, hnx, hf, hh⟩ := h
  obtain ⟨h1, h2, h3, h4⟩ := hh.side l o (List.mem_singleton.2 rfl)
  have hlt := (Array.getElem?_eq_some_iff.1 h1).1
  have hoth : ∀ b, b ≠ l → (w.putObj l o').heap[b]? = w.heap[b]? := fun b hb => World.putObj_heap_other hb
  have hst : Stays E w (w.putObj l o') := fun b hb _ => hoth b (fun e => by subst e; exact hb.elim h3 h4)
  have hz : (w.putObj l o').heap.size = w.heap.size := World.putObj_size
  refine ⟨E, fp, ⟨hs.sz, fun t => (hs.tm t).mono (.refl E) hst, ⟨fun id => (hs.en.sat id).mono (.refl E) hst (by omega) (fun b hb => hoth b (fun e => by subst e; exact h2 ⟨id, hb⟩)), fun id b hb => by rw [hz]; exact hs.en.lt id b hb, hs.en.I, hs.en.B, hs.en.apart,
    fun b hb => by rw [hz]; exact hs.en.Ilt b hb, hs.en.nil, hs.en.glob hst (fun _ h => h)⟩⟩, hnx, ⟨⟨hf.keep.os, ⟨hf.keep.tape.tape, hf.keep.tape.drawn⟩, hf.keep.output, by rw [hz]; exact hf.keep.size, fun b hb hn => (hoth b (fun e => by subst e; exact hn hown)).trans (hf.keep.same b hb hn)⟩, hf.I, hf.Inew, hf.B, hf.onew, hf.slot⟩,
    fun b o2 hb => ?_, ?_⟩
  · obtain ⟨rfl, rfl⟩ := Prod.mk.inj (List.mem_singleton.1 hb)
    exact ⟨World.putObj_heap_same hlt, h2, h3, h4⟩
  · obtain ⟨ds, e1, e2, e3⟩ := hh.marks
    refine ⟨ds, e1, e2, fun b hb => ?_⟩
    obtain ⟨g0, g1, g2⟩ := e3 b hb
    exact ⟨g0, (hoth b (fun e => by omega)).trans g1, g2⟩

section
variable {P : Program} {G : Nat → Option Ctr} {An : List Nat → Nat → Option AN} {nt : Nat}

/-- He keeps his word. -/
theorem ranY_ok {R : RA} {x : R.X} {E0 : Env} {w1 : World} {rec : Loop} {l cur : Nat} {ms : List Nat} {ca cb : Code} (iha : VOk P G An nt ca) (ihb : VOk P G An nt cb) (hps : ∀ p, p ∈ rec.params.toList → p < nt) (hrec : rec.assign = ca ∧ rec.body = cb) (hsz : rec.tmps.size = nt)
    (hrg : ltB 1983 R.rg = true) (hT : ∀ t, Sat (restr E0 R.rg) w1 (look (R.T x) t) (rec.tmps.getD t undef)) (hIlt : ∀ b, E0.I b ∨ E0.B b → b < w1.heap.size)
    (h : ∀ k, liveB (R.n x) (R.goes x) k = true → match setPs rec.params.toList (R.args x k) (R.T x) with
      | some T' => vc P G An ca (k :: ms) (idM R.rg) cur 2000 T' (R.M x k) fun e nx T M => match e with
        | .normal => vc P G An cb (k :: ms) (idM R.rg) cur nx T M (roundK R x k)
        | _ => False
      | none => False) : YOk P l (ranY R x E0 w1 rec l) := by
  have hidm : ∀ j i, mlook (idM R.rg) j = some i → i = j ∧ j < 1984 := fun j i hj => by
    obtain ⟨h1, h2⟩ := idM_some hj
    have := ltB_spec hrg j h2
    exact ⟨h1, by omega⟩
  refine ⟨fun k J fp w w' hS hz hs => ranS_stay hS hz hs, fun k J fp I w vals hlive hS hI hJI hF hfplt hvs hvals => ?_⟩
  have hlive : liveB (R.n x) (R.goes x) k = true := hlive
  have hS : ranS R x E0 w1 rec l k J fp w := hS
  have hF : ∀ b, E0.I b ∨ E0.B b → b < w.heap.size ∧ ¬ fp b := hF
  have hvs : vals.size = (R.args x k).length := hvs
  have hvals : ∀ (j : Nat) (s : SV), (R.args x k)[j]? = some s → Sat (bareE I) w s (vals.getD j undef) := hvals
  have h := h k hlive
  have hg := liveB_goes hlive
  obtain ⟨E, fpm, V, hl, hents, hEI, hEB, hfp, hslot, hlt, ⟨hno, hnI, hnB⟩, hst⟩ := hS
  split at h
  · rename_i T' hsp
    have hplen := setPs_len hsp
    have hrdy : recAt R x rec k = { rec with state := .ready, pending := none } := by simp [recAt, hg]
    rw [hrdy] at hl
    refine ⟨_, _, _, _, run_yield hl (by simp only [hvs, ← hplen, Array.length_toList]), roundIn_of_wpIn trivial ?_⟩
    rw [fence_inRound]
    simp only
    rw [setL_foldl, hrec.1, hrec.2]
    -- the round's environment
    let Er : Env := ⟨E.slot, fun b => E.I b ∨ I b, E.B⟩
    let fp0 : Nat → Nat → Prop := fun id b => fpm id b ∨ (id = 0 ∧ b = l)
    have hle : E.le Er := ⟨fun _ _ h => h, fun _ h => .inl h, fun _ h => h⟩
    have hfl : fp l := (hfp l).2 (.inl rfl)
    have hown0 : ∀ b, own fp0 b → fp b := fun b ⟨id, hb⟩ => (hfp b).2 (hb.elim (fun h => .inr (.inl ⟨id, h⟩)) (fun h => .inl h.2))
    have hlown : own fp0 l := ⟨0, .inr ⟨rfl, rfl⟩⟩
    have hllt : l < w.heap.size := hfplt l hfl
    have hents' : EntsSat Er w fpm (R.M x k) := ⟨fun id => (hents.sat id).mono hle (fun _ _ _ => rfl) (Nat.le_refl _) (fun _ _ => rfl), hents.lt, fun id b hb hI' => hI'.elim (hents.I id b hb) (fun h1 => (hI b h1).2 ((hfp b).2 (.inr (.inl ⟨id, hb⟩)))), hents.B, hents.apart,
      fun b hb => by
        rcases hb with (hb | hb) | hb
        · exact hents.Ilt b (.inl hb)
        · exact (hI b hb).1
        · exact hents.Ilt b (.inr hb), hents.nil.mono hle, hents.gl.mono hle.I (fun _ _ => rfl)⟩
    have hres : (restr E0 R.rg).le Er := restr_le (fun j hj => hslot j hj) (fun b hb => .inl ((hEI b).2 (.inl hb))) (fun b hb => (hEB b).2 hb)
    have hstay : Stays (restr E0 R.rg) w1 w := fun b hb _ => hst b hb
    have hbare : (bareE I).le Er := ⟨fun j s hj => (by
      simp only [bareE] at hj
      split at hj
      · rename_i hz; obtain rfl := Option.some.inj hj; exact hents.nil j hz
      · exact absurd hj (by simp)), fun b hb => .inr hb, fun b hb => hb.elim⟩
    obtain ⟨hz', hT'⟩ := setPs_sat (E := Er) (w := w) (nt := nt) rec.params.toList (R.args x k) vals.toList hsp (by simpa using hvs) hps (fun j s hj => by
      have h1 := (hvals j s hj).mono hbare (fun _ _ _ => rfl)
      have e : vals.toList.getD j undef = vals.getD j undef := by simp [Array.getD_eq_getD_getElem?]
      rw [e]; exact h1) hsz (fun t => (hT t).mono hres hstay)
    have here0 : Here (idM R.rg) Er fp0 w nt [(l, .loop { rec with state := .ready, pending := none })] 2000 T' (R.M x k) { tmps := setL rec.tmps (rec.params.toList.zip vals.toList), defers := [] } w := by
      refine ⟨Er, fpm, ⟨hz', hT', hents'⟩, hlt, ⟨.refl _ _, fun _ h => h, fun _ h => .inl h, fun _ => Iff.rfl, fun id b hb => .inl ⟨id, .inl hb⟩, fun j i hj => ⟨(hidm j i hj).1, (hidm j i hj).2, rfl⟩⟩, ⟨fun b o hb => ?_, [], rfl, by simp, fun b hb => by cases hb⟩⟩
      obtain ⟨rfl, rfl⟩ := Prod.mk.inj (List.mem_singleton.1 hb)
      exact ⟨hl, hno, fun h1 => h1.elim hnI (fun h2 => (hI _ h2).2 hfl), hnB⟩
    -- the end of a round
    have fin : ∀ (jump : Option Code) (a' : Act) (w' : World), R.goes x k = jump.isNone → (R.goes x k = false → jumpC (R.jump x k) = jump) → Here (idM R.rg) Er fp0 w nt [(l, .loop { rec with state := .busy, pending := none })] 2000 [] (R.M x (k + 1)) a' w' →
        ∃ v w'', (Instr.endRound l jump).run P w' = .ok v w'' ∧ ((Ending.returned v) = .returned (.bool (R.goes x k)) ∧ ∃ J' fp', ranS R x E0 w1 rec l (k + 1) J' fp' w'' ∧ Keep fp w w'' ∧ (∀ b, J' b → I b) ∧ (∀ b, fp' b → fp b ∨ w.heap.size ≤ b) ∧ ∀ b, fp' b → b < w''.heap.size) := by
      intro jump a' w' hgo hju hh
      obtain ⟨E1, fp1, hs, hnx, hf, hd⟩ := hh
      obtain ⟨k1, k2, k3, k4⟩ := hd.side l _ (List.mem_singleton.2 rfl)
      have hlt' := (Array.getElem?_eq_some_iff.1 k1).1
      refine ⟨_, _, run_endRound jump k1, by rw [hgo], ?_⟩
      have hoth : ∀ b o, b ≠ l → (w'.putObj l o).heap[b]? = w'.heap[b]? := fun b o hb => World.putObj_heap_other hb
      let V' : Nat → Prop := fun b => E1.I b ∧ ¬ E0.I b ∧ ¬ I b
      have hgs := goesB_succ (g := R.goes x) hg
      have hrecE : recAt R x rec (k + 1) = { rec with state := if jump.isNone then .ready else .done, pending := jump } := by
        unfold recAt
        rw [hgs]
        cases jump with
        | none => simp only [hgo, Option.isNone_none, if_true]
        | some c =>
          have h1 : R.goes x k = false := hgo
          have h2 := hju h1
          simp only [h1, Option.isNone_some, Bool.false_eq_true, if_false, Nat.add_sub_cancel, h2]
      have hIof : ∀ b, E0.I b → E1.I b := fun b hb => hf.I b (.inl ((hEI b).2 (.inl hb)))
      have hIIof : ∀ b, I b → E1.I b := fun b hb => hf.I b (.inr hb)
      have hV' : ∀ b, V' b → fp b ∨ w.heap.size ≤ b := fun b ⟨h1, h2, h3⟩ => by
        rcases hf.Inew b h1 with h4 | h4 | h4
        · rcases h4 with h4 | h4
          · rcases (hEI b).1 h4 with h5 | h5 | h5
            · exact absurd h5 h2
            · exact absurd (hJI b h5) h3
            · exact .inl ((hfp b).2 (.inr (.inr h5)))
          · exact absurd h4 h3
        · exact .inl (hown0 b h4)
        · exact .inr h4
      have hst' : Stays E1 w' (w'.putObj l (.loop { rec with state := if jump.isNone then .ready else .done, pending := jump })) := fun b hb _ => hoth b _ (fun e => by subst e; exact hb.elim k3 k4)
      have hz2 : (w'.putObj l (.loop { rec with state := if jump.isNone then .ready else .done, pending := jump })).heap.size = w'.heap.size := World.putObj_size
      refine ⟨I, fun b => b = l ∨ own fp1 b ∨ V' b, ⟨E1, fp1, V', ?_, ⟨fun id => (hs.en.sat id).mono (.refl E1) hst' (Nat.le_of_eq hz2.symm) (fun b hb => hoth b _ (fun e => by subst e; exact k2 ⟨id, hb⟩)), fun id b hb => by rw [hz2]; exact hs.en.lt id b hb, hs.en.I, hs.en.B, hs.en.apart, fun b hb => by rw [hz2]; exact hs.en.Ilt b hb, hs.en.nil, hs.en.glob hst' (fun _ h => h)⟩,
        fun b => ⟨fun hb => ?_, fun hb => ?_⟩, fun b => (hf.B b).trans (hEB b), fun b => Iff.rfl, fun j hj => ?_, hnx, ⟨k2, k3, k4⟩, fun b hb => ?_⟩, ⟨hf.keep.os, ⟨hf.keep.tape.tape, hf.keep.tape.drawn⟩, hf.keep.output, by rw [hz2]; exact hf.keep.size, fun b hb hn => ?_⟩, fun b hb => hb, fun b hb => ?_, fun b hb => ?_⟩
      · rw [hrecE]; exact World.putObj_heap_same hlt'
      · by_cases h1 : E0.I b
        · exact .inl h1
        · by_cases h2 : I b
          · exact .inr (.inl h2)
          · exact .inr (.inr ⟨hb, h1, h2⟩)
      · rcases hb with hb | hb | hb
        · exact hIof b hb
        · exact hIIof b hb
        · exact hb.1
      · obtain ⟨_, _, h3⟩ := hf.slot j j (idM_mem hj)
        exact h3.trans (hslot j hj)
      · have hfb : ¬ fp b := (hF b hb).2
        have hbl : b ≠ l := fun e => hfb (e ▸ hfl)
        exact (hoth b _ hbl).trans ((hf.keep.same b (hF b hb).1 (fun ho => hfb (hown0 b ho))).trans (hst b hb))
      · have hbl : b ≠ l := fun e => hn (e ▸ hfl)
        exact (hoth b _ hbl).trans (hf.keep.same b hb (fun ho => hn (hown0 b ho)))
      · rcases hb with rfl | ⟨id, hb⟩ | hb
        · exact .inl hfl
        · exact (hf.onew id b hb).imp (hown0 b) (fun h => h)
        · exact hV' b hb
      · rw [hz2]
        rcases hb with rfl | ⟨id, hb⟩ | hb
        · exact hlt'
        · exact hs.en.lt id b hb
        · exact hs.en.Ilt b (.inl hb.1)
    refine iha (k :: ms) (some l) (idM R.rg) Er fp0 w _ (fun l' hl' => ⟨_, by obtain rfl := Option.some.inj hl'; exact List.mem_singleton.2 rfl⟩) cur 2000 T' (R.M x k) _ _ _ w (Nat.le_refl _) h here0 ?_
    intro e nx' T2 M2 a' w' hnx' hk hh
    cases e with
    | normal =>
      have hh1 := hh
      obtain ⟨E1, fp1, _, _, _, hd⟩ := hh1
      obtain ⟨k1, _⟩ := hd.side l _ (List.mem_singleton.2 rfl)
      refine ⟨_, run_beginRound k1 rfl, ?_⟩
      refine ihb (k :: ms) (some l) (idM R.rg) Er fp0 w _ (fun l' hl' => ⟨_, by obtain rfl := Option.some.inj hl'; exact List.mem_singleton.2 rfl⟩) cur nx' T2 M2 (roundK R x k) _ _ _ hnx' hk (hh.put hllt hlown) ?_
      intro e nx3 T3 M3 a3 w3 _ hk3 hh3
      cases e with
      | normal =>
        obtain ⟨hgo, hk3⟩ := hk3
        obtain ⟨_, hh4⟩ := matSt_ok hk3 hh3
        exact fin none a3 w3 (by simp [hgo]) (fun h1 => by rw [hgo] at h1; cases h1) hh4
      | exit j =>
        obtain ⟨⟨hgo, hju⟩, hk3⟩ := hk3
        obtain ⟨_, hh4⟩ := matSt_ok hk3 hh3
        exact fin (some (.exit j)) a3 w3 (by simp [hgo]) (fun _ => by rw [hju]; rfl) hh4
      | ret =>
        obtain ⟨⟨hgo, hju⟩, hk3⟩ := hk3
        obtain ⟨_, hh4⟩ := matSt_ok hk3 hh3
        exact fin (some .ret) a3 w3 (by simp [hgo]) (fun _ => by rw [hju]; rfl) hh4
      | goto l => exact hk3.elim
      | panic ch => exact hk3.elim
      | outgrown => exact hk3.elim
    | exit j => exact hk.elim
    | ret => exact hk.elim
    | goto l => exact hk.elim
    | panic ch => exact hk.elim
    | outgrown => exact hk.elim
  · exact h.elim

end
end Go.Eng
