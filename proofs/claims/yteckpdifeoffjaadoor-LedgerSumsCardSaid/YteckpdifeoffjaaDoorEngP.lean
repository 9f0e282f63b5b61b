/- The engine, part P: slices and nil; bytes and strings; make. -/
import Derived.Test.YteckpdifeoffjaaDoorEngU
import Derived.Lib.ConvBytes
import Derived.Laws.MakeOwn
set_option linter.unusedVariables false
namespace Go.Eng

section
variable {r : Option Nat} {P : Program} {G : Nat → Option Ctr} {o : Oper} {T : Tm} {M : En} {lo : Nat} {Kp : SV → List Nat → Prop} {Kg : SV → List Nat → List Nat → En → Prop}

theorem equal_sl_nil {t : TypeId} (hp : isSliceT P t = true) (a : Option Addr) (l c : Nat) (w : World) : (Op.equal t (.slice a l c) (.slice none 0 0)).run P w = .ok a.isNone w := by
  obtain ⟨e, hu⟩ := isSliceT_spec hp
  unfold Op.equal Op.maxDepth
  unfold Op.equalIn
  rw [run_then (run_underlying' hu w)]
  cases a <;> rfl

theorem nilQ_spec {op : BinOp} {n : Nat} {K : SV → Prop} (h : nilQ op n K) : ∃ p, K (.unkB p) ∧ ∀ (b : Bool), (b = true → n = 0) → (op = .eql ∧ p b) ∨ (op = .neq ∧ p (!b)) := by
  unfold nilQ at h
  split at h
  · exact ⟨_, h, fun b hb => .inl ⟨rfl, hb⟩⟩
  · exact ⟨_, h, fun b hb => .inr ⟨rfl, fun e => hb (by cases b <;> simp_all)⟩⟩
  · exact h.elim

theorem plainL_spec : ∀ (l : List SV) (a : List Value), plainL l = some a → l = a.map .v
  | [], a, h => by simp [plainL] at h; subst h; rfl
  | s :: l, a, h => by
    cases s with
    | v x =>
      simp only [plainL] at h
      split at h
      · rename_i r hr
        obtain rfl := Option.some.inj h
        simp [plainL_spec l r hr]
      · cases h
    | _ => simp [plainL] at h
theorem plainL_sat {E : Env} {w : World} {l : List SV} {a : List Value} {v : Value} (h : Sat E w (.agg l) v) (hp : plainL l = some a) : v = .agg a.toArray := by
  have e := plainL_spec l a hp
  subst e
  cases h with
  | agg _ vs u hl hu hs =>
    congr 1
    apply Array.ext_getElem?
    intro j
    by_cases hj : j < (a.map SV.v).length
    · have h1 := hu j hj
      have hj' : j < a.length := by simpa using hj
      have h2 := hs j (.v a[j]) (by simp [hj'])
      have h3 : u j = a[j] := by generalize u j = q at h2; cases h2; rfl
      rw [h1, h3]; simp [hj']
    · rw [Array.getElem?_eq_none (by omega), Array.getElem?_eq_none (by simpa using hj)]

theorem eqOk_run {t : TypeId} {a b : List Value} {r : Bool} (h : (eqOkB P t (kds a) && eqOkB P t (kds b)) = true) (he : eqLv a b = some r) (w : World) :
    (Op.equalIn 10000 t (.agg a.toArray) (.agg b.toArray)).run P w = .ok r w ∧ P.eqGuardType P.depth t = false := by
  simp only [Bool.and_eq_true] at h
  obtain ⟨h1, h2⟩ := h
  unfold eqOkB at h1 h2
  split at h1
  · rename_i l hl hag
    rw [hl, hag] at h2
    simp only [Bool.and_eq_true, Bool.not_eq_true', beq_iff_eq] at h1 h2
    exact ⟨(eq_run (P := P) 20).1 t l hl a b r h1.1.symm h2.1.symm he 10000 (by omega) w _ _ (.inl ⟨hag, rfl⟩) (.inl ⟨hag, rfl⟩), h1.2⟩
  · cases h1

theorem led_binW {op : BinOp} {t t' : TypeId} {x y : Operand} (hop : o.op = .binOp op t x y t') (h : binW P op t (ev T x) (ev T y) M Kp) : Led r P o T M lo Kp Kg := by
  have hops : opsOf o = opTmps [x, y] := by simp [opsOf, hop, Op.operands]
  have hd : ∀ c, o.op ≠ .defer c := fun c => by simp [hop]
  have nil' : isNilSl (ev T y) = true → ∀ (E : Env) (w : World) (a : Act), Sat E w (ev T y) (a.eval y) → a.eval y = .slice none 0 0 := fun hn E w a hs => by
    unfold isNilSl at hn
    split at hn
    · rename_i hv; rw [hv] at hs; generalize a.eval y = q at hs; cases hs; rfl
    · cases hn
  have run : isSliceT P t = true → ∀ (a : Act) (w : World) (A : Option Addr) (l c : Nat), a.eval x = .slice A l c → a.eval y = .slice none 0 0 → (op = .eql ∨ op = .neq) →
      (execOp a.eval o).run P w = .ok (.value (.bool (if op = .eql then A.isNone else !A.isNone))) w := fun ht a w A l c hx hy ho => by
    refine exec_bin hop (by rw [hx]; exact fun _ e => by cases e) (by rw [hx]; exact fun e => by cases e) ?_
    rw [hx, hy]
    rcases ho with rfl | rfl
    · simp only [binOp]; rw [run_then (equal_sl_nil ht A l c w)]; rfl
    · simp only [binOp]; rw [run_then (equal_sl_nil ht A l c w)]; rfl
  -- a slice whose length is known
  have go : ∀ (n : Nat) (S : List Nat), isNilSl (ev T y) = true → isSliceT P t = true → nilQ op n (fun s => Kp s S) →
      (∀ (E : Env) (fp : Nat → Nat → Prop) (w : World) (v : Value), EntsSat E w fp (sub M S) → Sat E w (ev T x) v → ∃ A l c, v = .slice A l c ∧ (A.isNone = true → n = 0)) → Led r P o T M lo Kp Kg := fun n S h1 h2 h3 h4 => by
    obtain ⟨p, hk, hp⟩ := nilQ_spec h3
    refine led_p hk hd (fun E fp a w hrd hents => ?_)
    rw [hops] at hrd
    obtain ⟨A, l, c, hx, hn⟩ := h4 E fp w _ hents (ev_sat (E := E) (w := w) hrd (x := x) (by simp))
    have hy := nil' h1 E w a (ev_sat (E := E) (w := w) hrd (x := y) (by simp))
    rcases hp A.isNone hn with ⟨ho, hb⟩ | ⟨ho, hb⟩
    · exact ⟨_, run h2 a w A l c hx hy (.inl ho), by rw [if_pos ho]; exact .unkB _ _ hb⟩
    · exact ⟨_, run h2 a w A l c hx hy (.inr ho), by rw [if_neg (by rw [ho]; simp)]; exact .unkB _ _ hb⟩
  unfold binW at h
  split at h
  · rename_i i hx
    split at h
    · rename_i hc
      simp only [Bool.and_eq_true] at hc
      split at h
      · rename_i te ty xs hf
        refine go xs.length [i] hc.1 hc.2 h (fun E fp w v hents hv => ?_)
        have hent := wf_block hents (List.mem_singleton.2 rfl)
        rw [hf] at hent
        obtain ⟨s', g0, g⟩ := hent
        rw [hx] at hv
        cases hv with
        | sl _ s hs =>
          obtain rfl := Option.some.inj (hs.symm.trans g0)
          rcases g with ⟨g1, g2, _⟩ | ⟨o2, c2, arr, fz, g1, _⟩
          · subst g2; exact ⟨_, _, _, g1, fun _ => rfl⟩
          · exact ⟨_, _, _, g1, fun hn => by cases hn⟩
      · exact h.elim
    · exact h.elim
  · rename_i b ty xs hx
    split at h
    · rename_i hc
      simp only [Bool.and_eq_true] at hc
      refine go xs.length [] hc.1 hc.2 h (fun E fp w v _ hv => ?_)
      rw [hx] at hv
      cases hv with
      | nil _ _ A c => exact ⟨_, _, _, rfl, fun _ => rfl⟩
      | ro _ _ _ k o c u hb hle hc hs => exact ⟨_, _, _, rfl, fun hn => by cases hn⟩
    · exact h.elim
  · rename_i i off len cap hx
    split at h
    · rename_i hc
      simp only [Bool.and_eq_true] at hc
      obtain ⟨_, h⟩ := notNil_spec h
      have fin : ∀ b : Bool, (op = .eql ∨ op = .neq) → b = (if op = .eql then false else true) → Kp (.v (.bool b)) [] → Led r P o T M lo Kp Kg := fun b ho hb hk => by
        refine led_p hk hd (fun E fp a w hrd _ => ⟨.bool b, ?_, .v _⟩)
        rw [hops] at hrd
        have e1 := ev_sat (E := E) (w := w) hrd (x := x) (by simp)
        have hy := nil' hc.1 E w a (ev_sat (E := E) (w := w) hrd (x := y) (by simp))
        rw [hx] at e1
        generalize hq : a.eval x = q at e1
        cases e1 with
        | slc _ _ _ _ s hs =>
          have := run hc.2 a w _ _ _ hq hy ho
          rw [this, hb]
          rcases ho with rfl | rfl <;> rfl
      rcases h with ⟨rfl, hk⟩ | ⟨rfl, hk⟩
      · exact fin false (.inl rfl) rfl hk
      · exact fin true (.inr rfl) rfl hk
    · exact h.elim
  · rename_i l hx
    split at h
    · rename_i l' hy
      unfold eqAggV at h
      split at h
      · rename_i va ha
        split at h
        · rename_i vb hb
          split at h
          · rename_i rr hr
            have fin : ∀ bb : Bool, (eqOkB P t (kds va) && eqOkB P t (kds vb)) = true → ((op = .eql ∧ bb = rr) ∨ (op = .neq ∧ bb = !rr)) → Kp (.v (.bool bb)) [] → Led r P o T M lo Kp Kg := fun bb hok ho hk => by
              refine led_p hk hd (fun E fp a w hrd _ => ⟨.bool bb, ?_, .v _⟩)
              rw [hops] at hrd
              have e1 := ev_sat (E := E) (w := w) hrd (x := x) (by simp)
              have e2 := ev_sat (E := E) (w := w) hrd (x := y) (by simp)
              rw [hx] at e1
              rw [hy] at e2
              have e1 := plainL_sat e1 ha
              have e2 := plainL_sat e2 hb
              obtain ⟨g1, g2⟩ := eqOk_run hok hr w
              simp only [execOp, hop]
              refine ok_value ?_
              rw [e1, e2, run_then (run_eqGuard_agg w op t x y _ _ g2)]
              rcases ho with ⟨rfl, rfl⟩ | ⟨rfl, rfl⟩
              · rw [run_eql_struct, g1]; rfl
              · rw [run_neq_struct, g1]; rfl
            split at h
            · exact fin _ h.e (.inl ⟨rfl, rfl⟩) h.h
            · exact fin _ h.e (.inr ⟨rfl, rfl⟩) h.h
            · exact h.elim
          · exact h.elim
        · exact h.elim
      · exact h.elim
    · exact h.elim
  · exact led_bin hop h

theorem bytesT_spec {t e : TypeId} (h : bytesT P t = some e) : P.underlying t = some (.slice e) ∧ P.underlying e = some (.int .u8) := by
  unfold bytesT at h
  split at h
  · rename_i e' hu
    split at h
    · rename_i he; obtain rfl := Option.some.inj h; exact ⟨hu, he⟩
    · cases h
  · cases h
theorem isStrT_spec {t : TypeId} (h : isStrT P t = true) : P.underlying t = some .string := by
  unfold isStrT at h; split at h; assumption; cases h

theorem flat_ints (ys : List Int) : flatF (enc (.int .u8)) ys = ys.map fun n => SV.v (.int .u8 n) := by
  induction ys with
  | nil => rfl
  | cons y ys ih =>
    show [SV.v (.int .u8 y)] ++ flatF (enc (.int .u8)) ys = _
    rw [ih]; rfl

theorem firstCells_string {src dst e : TypeId} (hs : P.underlying src = some (.slice e)) (he : P.underlying e = some (.int .u8)) (hd : P.underlying dst = some .string) {A : Option Addr} {c : Nat} {ys : List Int} {cells : Array Value} {w : World}
    (h : (Builtin.firstCells 1 ys.length (.slice A ys.length c)).run P w = .ok cells w) (hc : cells.toList = ys.map (Value.int .u8)) :
    (convert src dst (.slice A ys.length c)).run P w = .ok (.string (strOfNums ys)) w := by
  rw [run_convert_bytes_string w src dst e A ys.length c hs he hd]
  cases A with
  | none =>
    have h : (.ok #[] w : Result (Array Value)) = .ok cells w := h
    have hc0 : cells = #[] := by injection h with h1 _; exact h1.symm
    subst hc0
    have : ys = [] := by simpa using hc.symm
    subst this
    simp [Conv.bytesToString, strOfNums, Sem.run_pure]
    rfl
  | some ad =>
    have h : (loadCells ad (ys.length * 1)).run P w = .ok cells w := h
    rw [Nat.mul_one] at h
    have hca : cells = (ys.map (Value.int .u8)).toArray := by rw [← hc]
    rw [hca] at h
    rw [run_bytesToString w ad ys.length c ys h, foldl_push_bytes]
    simp [strOfNums, ByteArray.empty, ByteArray.emptyWithCapacity]
    rfl

theorem led_conv {src dst : TypeId} {x : Operand} (hop : o.op = .convert src dst x) (h : convW P src dst (ev T x) lo M Kp Kg (genV P o T fun s => Kp s [])) : Led r P o T M lo Kp Kg := by
  have hops : opsOf o = opTmps [x] := by simp [opsOf, hop, Op.operands]
  have hd : ∀ c, o.op ≠ .defer c := fun c => by simp [hop]
  have hg : genV P o T (fun s => Kp s []) → Led r P o T M lo Kp Kg := led_gen (fun cs b => by simp [hop]) hd
  unfold convW at h
  split at h
  · rename_i e he
    split at h
    · rename_i hst
      obtain ⟨hu, hue⟩ := bytesT_spec he
      obtain ⟨ys, S, hk, hsrc⟩ := srcV_spec (P := P) h
      refine led_p hk hd (fun E fp a w hrd hents => ⟨_, ?_, .v _⟩)
      rw [hops] at hrd
      obtain ⟨A, c, cells, c1, c2, c3⟩ := hsrc E fp w _ (fun i hi => wf_block hents hi) (ev_sat (E := E) (w := w) hrd (x := x) (by simp))
      simp only [execOp, hop]
      refine ok_value ?_
      rw [c1]
      rw [c1] at c2
      refine firstCells_string hu hue (isStrT_spec hst) (c2 w rfl) ?_
      rw [flat_ints] at c3
      refine List.ext_getElem? fun j => ?_
      by_cases hj : j < ys.length
      · obtain ⟨u, hu, hs⟩ := c3.2 j (.v (.int .u8 ys[j])) (by simp [hj])
        cases hs
        rw [hu]; simp [hj]
      · rw [List.getElem?_eq_none (by rw [c3.1]; simp; omega), List.getElem?_eq_none (by simp; omega)]
    · exact hg h
  · split at h
    · rename_i e he
      split at h
      · rename_i hst
        obtain ⟨hu, hue⟩ := bytesT_spec he
        split at h
        · rename_i s hx
          refine .inr ⟨_, [], [], _, h, (fun id hid => by cases hid), fun E fp a w hrd hents hfr => ?_⟩
          rw [hops] at hrd
          have e1 := ev_sat (E := E) (w := w) hrd (x := x) (by simp)
          rw [hx] at e1
          have f1 : a.eval x = .string s := by generalize a.eval x = q at e1; cases e1; rfl
          have hlo := hfr lo (Nat.le_refl _) (by omega)
          let w' := Lib.bytesWorld w e s
          let sl : Slot := ⟨w.heap.size, some ⟨w.heap.size, 0, none⟩, s.size, grownCap w s.size 0 e⟩
          have hrun : (execOp a.eval o).run P w = .ok (.value (.slice (some ⟨w.heap.size, 0, none⟩) s.size (grownCap w s.size 0 e))) w' := by
            simp only [execOp, hop]
            refine ok_value ?_
            rw [f1]
            exact Lib.run_convert_string_bytes w src dst e s (isStrT_spec hst) hu hue
          have hsz : w'.heap.size = w.heap.size + 1 := Lib.bytesWorld_size w e s
          have hkeep : Keep (fun _ => False) w w' := ⟨rfl, ⟨rfl⟩, rfl, by omega, fun b hb _ => Lib.bytesWorld_at_old w e s b hb⟩
          have hcap : s.size ≤ grownCap w s.size 0 e := by have := grownCap_ge w s.size 0 e; omega
          have hlen : (bytesL s).length = s.size := by
            show (s.data.toList.map _).length = s.data.size
            simp
          have hbs : (Lib.bytesCells w e s).size = grownCap w s.size 0 e := by
            simp only [Lib.bytesCells, Array.size_append, Array.size_map, Array.size_replicate]
            show s.size + _ = _
            omega
          obtain ⟨g1, g2⟩ := hents.fresh (w' := w') (s := sl) (e := .row e (.int .u8) (bytesL s)) hlo rfl hkeep (by omega)
            ⟨sl, Env.with_self _ _ _, .inr ⟨0, grownCap w s.size 0 e, Lib.bytesCells w e s, _, by rw [hlen]; rfl, fun b => Iff.rfl, Lib.bytesWorld_at_new w e s, fun o ho => by simp only; omega, by omega, by rw [hbs]; simp [Ty.size],
              fun i x j sv hi hj => by
                cases j with
                | zero =>
                  have hj : [SV.v (.int .u8 x)][0]? = some sv := hj
                  obtain rfl : SV.v (.int .u8 x) = sv := by simpa using hj
                  refine ⟨.int .u8 x, ?_, .v _⟩
                  have hi' := (List.getElem?_eq_some_iff.1 hi).1
                  rw [hlen] at hi'
                  simp only [Ty.size, Nat.mul_one, Nat.zero_add, Nat.add_zero, Lib.bytesCells]
                  rw [Array.getElem?_append_left (by simpa using hi')]
                  simp only [bytesL, List.getElem?_map, Array.getElem?_toList] at hi
                  rw [Array.getElem?_map]
                  cases hb : s.data[i]? with
                  | none => rw [hb] at hi; cases hi
                  | some b =>
                    rw [hb] at hi
                    have hi : (some ((b.toNat : Nat) : Int) : Option Int) = some x := hi
                    obtain rfl := Option.some.inj hi
                    rfl
                | succ j =>
                  have hj : (none : Option SV) = some sv := hj
                  cases hj⟩⟩
          refine OpRun.value hd hrun ⟨E.with lo sl, _, Sat.sl lo sl (Env.with_self _ _ _), ?_, g2, fun id => ?_⟩
          · simpa [upd, gones, sub] using g1
          · by_cases e : id = lo
            · exact .inr (by omega)
            · exact .inl (Env.with_other e)
        · exact h.elim
      · exact hg h
    · exact hg h

theorem led_index {t : TypeId} {x i : Operand} (hop : o.op = .index t x i) (h : indexW P t (ev T x) (ev T i) Kp (genV P o T fun s => Kp s [])) : Led r P o T M lo Kp Kg := by
  have hops : opsOf o = opTmps [x, i] := by simp [opsOf, hop, Op.operands]
  have hd : ∀ c, o.op ≠ .defer c := fun c => by simp [hop]
  have hg : genV P o T (fun s => Kp s []) → Led r P o T M lo Kp Kg := led_gen (fun cs b => by simp [hop]) hd
  unfold indexW at h
  split at h
  · rename_i hst
    split at h
    · rename_i s hx
      split at h
      · rename_i k n hi
        obtain ⟨⟨h0, h1⟩, hk⟩ := h
        refine led_p hk hd (fun E fp a w hrd _ => ⟨_, ?_, .v _⟩)
        rw [hops] at hrd
        have e1 := ev_sat (E := E) (w := w) hrd (x := x) (by simp)
        have e2 := ev_sat (E := E) (w := w) hrd (x := i) (by simp)
        rw [hx] at e1; rw [hi] at e2
        have f1 : a.eval x = .string s := by generalize a.eval x = q at e1; cases e1; rfl
        have f2 : a.eval i = .int k n := by generalize a.eval i = q at e2; cases e2; rfl
        simp only [execOp, hop]
        refine ok_value ?_
        rw [f1, f2]
        unfold Instr.index
        rw [run_then (run_asIntOf w)]
        dsimp only
        rw [run_then (run_underlying' (isStrT_spec hst) w)]
        dsimp only
        rw [if_pos h0]
        have hlt : n.toNat < s.size := by omega
        have hb : s[n.toNat]? = some s[n.toNat] := by simp [hlt]
        rw [hb]
        simp only [byteAt, hb]
        rfl
      · exact h.elim
    · exact h.elim
  · exact hg h

theorem bnd_spec {x : Option Operand} {d : Int} {K : Int → Prop} (h : bndV T x d K) : ∃ n, K n ∧ ∀ (E : Env) (w : World) (a : Act), (∀ y, x = some y → Sat E w (ev T y) (a.eval y)) →
    (x = none ∧ n = d) ∨ ∃ y k, x = some y ∧ a.eval y = .int k n := by
  unfold bndV at h
  split at h
  · exact ⟨d, h, fun E w a _ => .inl ⟨rfl, rfl⟩⟩
  · rename_i y
    split at h
    · rename_i k n hv
      refine ⟨n, h, fun E w a hs => .inr ⟨y, k, rfl, ?_⟩⟩
      have := hs y rfl
      rw [hv] at this
      generalize a.eval y = q at this
      cases this; rfl
    · exact h.elim

theorem sliceBounds_run {b : Bool} {len cap : Nat} {lo hi : Option Value} {l h : Int} {w : World} (h1 : (lo = none ∧ l = 0) ∨ ∃ k, lo = some (.int k l)) (h2 : (hi = none ∧ h = len) ∨ ∃ k, hi = some (.int k h))
    (h3 : 0 ≤ l ∧ l ≤ h ∧ h ≤ len) (hc : len ≤ cap) : (Instr.sliceBounds b len cap lo hi none).run P w = .ok (l.toNat, h.toNat, cap) w := by
  have bnd : ∀ (k : IntKind) (i : Int) (y : Nat) (code : BoundsCode), 0 ≤ i ∧ i ≤ y → (Instr.sliceBound (.int k i) y code).run P w = .ok i.toNat w := fun k i y code hb => by
    unfold Instr.sliceBound
    rw [run_then (run_asIntOf w)]
    dsimp only
    rw [if_pos hb]; rfl
  have e2 : ((h.toNat : Nat) : Int) = h := by omega
  unfold Instr.sliceBounds
  dsimp only
  rw [run_then (show (pure cap : Sem Nat).run P w = .ok cap w from rfl)]
  rcases h2 with ⟨rfl, rfl⟩ | ⟨k2, rfl⟩
  · dsimp only
    rw [run_then (show (pure len : Sem Nat).run P w = .ok len w from rfl)]
    rcases h1 with ⟨rfl, rfl⟩ | ⟨k1, rfl⟩
    · dsimp only
      rw [run_then (show (pure 0 : Sem Nat).run P w = .ok 0 w from rfl)]
      rfl
    · dsimp only
      rw [run_then (bnd k1 l len _ ⟨h3.1, h3.2.1⟩)]
      rfl
  · dsimp only
    rw [run_then (bnd k2 h cap _ ⟨by omega, by omega⟩)]
    rcases h1 with ⟨rfl, rfl⟩ | ⟨k1, rfl⟩
    · dsimp only
      rw [run_then (show (pure 0 : Sem Nat).run P w = .ok 0 w from rfl)]
      rfl
    · dsimp only
      rw [run_then (bnd k1 l h.toNat _ ⟨h3.1, by omega⟩)]
      rfl

theorem led_slice {t : TypeId} {x : Operand} {l h' m : Option Operand} (hop : o.op = .slice t x l h' m) (h : sliceW P t (ev T x) T l h' m Kp) : Led r P o T M lo Kp Kg := by
  have hops : opsOf o = opTmps ([x] ++ l.toList ++ h'.toList ++ m.toList) := by simp [opsOf, hop, Op.operands]
  have hd : ∀ c, o.op ≠ .defer c := fun c => by simp [hop]
  have bd : ∀ (y : Option Operand) (v : Int) (d : Int) (a : Act), ((y = none ∧ v = d) ∨ ∃ z k, y = some z ∧ a.eval z = .int k v) → (y.map a.eval = none ∧ v = d) ∨ ∃ k, y.map a.eval = some (.int k v) := by
    rintro y v d a (⟨rfl, e⟩ | ⟨z, k, rfl, e⟩)
    · exact .inl ⟨rfl, e⟩
    · exact .inr ⟨k, by simp [e]⟩
  unfold sliceW at h
  cases m with
  | some _ => exact h.elim
  | none =>
    dsimp only at h
    split at h
    · rename_i s hx
      split at h
      · rename_i hst
        obtain ⟨lv, h, hl⟩ := bnd_spec h
        obtain ⟨hv, h, hh⟩ := bnd_spec h
        obtain ⟨hb, hk⟩ := h
        refine led_p hk hd (fun E fp a w hrd _ => ⟨_, ?_, .v _⟩)
        rw [hops] at hrd
        have e1 := ev_sat (E := E) (w := w) hrd (x := x) (by simp)
        rw [hx] at e1
        have f1 : a.eval x = .string s := by generalize a.eval x = q at e1; cases e1; rfl
        have b1 := bd l lv 0 a (hl E w a (fun y hy => ev_sat (E := E) (w := w) hrd (x := y) (by simp [hy])))
        have b2 := bd h' hv s.size a (hh E w a (fun y hy => ev_sat (E := E) (w := w) hrd (x := y) (by simp [hy])))
        simp only [execOp, hop]
        refine ok_value ?_
        rw [f1]
        unfold Instr.sliceAt
        rw [run_then (run_underlying' (isStrT_spec hst) w)]
        dsimp only
        unfold Instr.slice
        rw [run_then (run_underlying' (isStrT_spec hst) w)]
        dsimp only
        rw [if_neg (by simp)]
        rw [run_then (sliceBounds_run (b := false) (len := s.size) (cap := s.size) b1 b2 hb (Nat.le_refl _))]
        rfl
      · exact h.elim
    · rename_i b ty xs hx
      split at h
      · rename_i e hu
        split at h
        · rename_i n hn
          split at h
          · rename_i hne
            obtain rfl := Nat.eq_of_beq_eq_true hne
            obtain ⟨lv, h, hl⟩ := bnd_spec h
            obtain ⟨hv, h, hh⟩ := bnd_spec h
            obtain ⟨hb, hk⟩ := h
            have hlen : ((xs.take hv.toNat).drop lv.toNat).length = hv.toNat - lv.toNat := by simp; omega
            have exec : ∀ (a : Act) (w : World) (A : Option Addr) (c : Nat), a.eval x = .slice A xs.length c → xs.length ≤ c → ((l.map a.eval = none ∧ lv = 0) ∨ ∃ k, l.map a.eval = some (.int k lv)) →
                ((h'.map a.eval = none ∧ hv = (xs.length : Nat)) ∨ ∃ k, h'.map a.eval = some (.int k hv)) →
                (execOp a.eval o).run P w = .ok (.value (.slice (if c = lv.toNat then A else A.map (·.add (lv.toNat * ty.size))) (hv.toNat - lv.toNat) (c - lv.toNat))) w := fun a w A c hx hc b1 b2 => by
              simp only [execOp, hop]
              refine ok_value ?_
              rw [hx]
              unfold Instr.sliceAt
              rw [run_then (run_underlying' hu w)]
              dsimp only
              unfold Instr.slice
              rw [run_then (run_underlying' hu w)]
              dsimp only
              rw [show (none : Option Operand).map a.eval = none from rfl]
              rw [run_then (sliceBounds_run (b := true) (len := xs.length) (cap := c) b1 b2 hb hc)]
              dsimp only
              rw [run_then (run_sizeOf hn w)]
              rfl
            refine .inl ⟨_, [], hk, loc_pure hd (fun E fp a w hrd hents => ?_)⟩
            rw [hops] at hrd
            have e1 := ev_sat (E := E) (w := w) hrd (x := x) (by simp)
            rw [hx] at e1
            have b1 := bd l lv 0 a (hl E w a (fun y hy => ev_sat (E := E) (w := w) hrd (x := y) (by simp [hy])))
            have b2 := bd h' hv xs.length a (hh E w a (fun y hy => ev_sat (E := E) (w := w) hrd (x := y) (by simp [hy])))
            generalize hq : a.eval x = q at e1
            cases e1 with
            | nil _ _ A c =>
              have h0 : hv.toNat - lv.toNat = 0 := by simp at hb; omega
              refine ⟨_, exec a w A c hq (by simp) b1 b2, ?_⟩
              have : (List.drop lv.toNat (List.take hv.toNat ([] : List ty.den))) = [] := by simp
              rw [this, h0]
              exact .nil b ty _ _
            | ro _ _ _ k o1 c u hbk hle hc hs =>
              refine ⟨_, exec a w _ c hq hle b1 b2, ?_⟩
              rcases Nat.eq_zero_or_pos (hv.toNat - lv.toNat) with h0 | hpos
              · have : (xs.take hv.toNat).drop lv.toNat = [] := List.eq_nil_of_length_eq_zero (by omega)
                rw [this, h0]
                exact .nil b ty _ _
              · rw [if_neg (by omega)]
                have hA : (some (⟨k, o1, none⟩ : Addr)).map (·.add (lv.toNat * ty.size)) = some ⟨k, o1 + lv.toNat * ty.size, none⟩ := by
                  show some (Addr.add ⟨k, o1, none⟩ (lv.toNat * ty.size)) = _
                  rw [add_none]
                rw [hA, ← hlen]
                have hm : ∀ m, m < ((xs.take hv.toNat).drop lv.toNat).length * ty.size → lv.toNat * ty.size + m < xs.length * ty.size := fun m hm => by
                  rw [hlen] at hm
                  have h1 : lv.toNat * ty.size + m < lv.toNat * ty.size + (hv.toNat - lv.toNat) * ty.size := by omega
                  rw [← Nat.add_mul] at h1
                  exact Nat.lt_of_lt_of_le h1 (Nat.mul_le_mul_right _ (by omega))
                refine .ro b ty _ k (o1 + lv.toNat * ty.size) (c - lv.toNat) (fun m => u (lv.toNat * ty.size + m)) hbk (by omega) (fun m hm' => ?_) (fun i y j sv hi hj => ?_)
                · have := hc (lv.toNat * ty.size + m) (hm m hm')
                  rw [Nat.add_assoc]; exact this
                · rw [List.getElem?_drop, List.getElem?_take] at hi
                  split at hi
                  · have := hs (lv.toNat + i) y j sv hi hj
                    rw [Nat.add_mul, Nat.add_assoc] at this
                    exact this
                  · cases hi
          · exact h.elim
        · exact h.elim
      · exact h.elim
    · exact h.elim

theorem led_make {t : TypeId} {l c : Operand} (hop : o.op = .makeSlice t l c) (h : makeW P t (ev T l) (ev T c) lo Kg) : Led r P o T M lo Kp Kg := by
  have hops : opsOf o = opTmps [l, c] := by simp [opsOf, hop, Op.operands]
  have hd : ∀ c, o.op ≠ .defer c := fun c => by simp [hop]
  unfold makeW at h
  split at h
  · rename_i e hu
    split at h
    · rename_i k n hl
      split at h
      · rename_i k' m hc
        split at h
        · rename_i ty ht
          split at h
          · rename_i zs hok hz
            split at h
            · rename_i z hdec
              obtain ⟨⟨h0, h1, rfl⟩, hk⟩ := h
              obtain ⟨i, zs', i1, i2, i3, i4, i5⟩ := appOk_spec hok
              obtain rfl := Option.some.inj (hz.symm.trans i4)
              obtain ⟨d1, d2⟩ := decL_spec ty 1 _ _ hdec
              obtain ⟨zv, hzv, hzc⟩ : ∃ zv, i.zero = some zv ∧ zv.cells.toList = zs := by
                unfold zeroOf at hz
                rw [i1] at hz
                dsimp only at hz
                split at hz
                · rename_i v hv; exact ⟨v, hv, by rw [← cellsOfV_eq]; exact Option.some.inj hz⟩
                · cases hz
              refine .inr ⟨_, [], [], _, hk, (fun id hid => by cases hid), fun E fp a w hrd hents hfr => ?_⟩
              rw [hops] at hrd
              have e1 := ev_sat (E := E) (w := w) hrd (x := l) (by simp)
              have e2 := ev_sat (E := E) (w := w) hrd (x := c) (by simp)
              rw [hl] at e1; rw [hc] at e2
              have f1 : a.eval l = .int k m := by generalize a.eval l = q at e1; cases e1; rfl
              have f2 : a.eval c = .int k' m := by generalize a.eval c = q at e2; cases e2; rfl
              have hlo := hfr lo (Nat.le_refl _) (by omega)
              let arr := madeCells zv.cells (m.toNat * i.size)
              let w' := wnew w (.cells arr e)
              have hrun : (execOp a.eval o).run P w = .ok (.value (.slice (some ⟨w.heap.size, 0, none⟩) m.toNat m.toNat)) w' := by
                simp only [execOp, hop]
                refine ok_value ?_
                rw [f1, f2]
                exact run_make w t e i zv hu i1 hzv k k' m m h0 (Int.le_refl _) (by
                  have h3 : (i.bytes : Int) ≤ 400 := by omega
                  have : (i.bytes : Int) * m ≤ 400 * m := Int.mul_le_mul_of_nonneg_right h3 h0
                  omega) (by omega)
              let sl : Slot := ⟨w.heap.size, some ⟨w.heap.size, 0, none⟩, m.toNat, m.toNat⟩
              have hkeep : Keep (fun _ => False) w w' := wnew_keep _ _ _ _
              have hst : Stays E w w' := fun k hk hlt => wnew_same w _ hlt
              have hzl : zv.cells.size = ty.size := by rw [← i5, ← hzc]; simp
              have hzcells : CellsAre (E.with lo sl) w' (flatF (enc ty) [z]) zv.cells.toList := by
                refine d2 _ _ _ ?_
                rw [hzc, listV_eq]
                exact ⟨by simp, fun j s hj => by
                  simp only [List.getElem?_map] at hj
                  cases hq : zs[j]? with
                  | none => rw [hq] at hj; cases hj
                  | some v => rw [hq] at hj; obtain rfl := Option.some.inj hj; exact ⟨v, rfl, .v v⟩⟩
              obtain ⟨g1, g2⟩ := hents.fresh (w' := w') (s := sl) (e := .row e ty (List.replicate m.toNat z)) hlo rfl hkeep (by simp [w', wnew])
                ⟨sl, Env.with_self _ _ _, .inr ⟨0, m.toNat, arr, (0, 0), by simp [Slot.val, sl], fun b => Iff.rfl, wnew_new w _, fun o _ => by omega, by simp, by simp [arr, size_madeCells, i2], fun p x j sv hp hj => by
                  have hp' := (List.getElem?_eq_some_iff.1 hp)
                  obtain ⟨hlt, rfl⟩ := hp'
                  rw [List.length_replicate] at hlt
                  rw [List.getElem_replicate] at hj
                  have hjt : j < ty.size := by have := (List.getElem?_eq_some_iff.1 hj).1; rw [enc_length] at this; exact this
                  obtain ⟨u, hu, hs⟩ := row_cells hzcells 0 z j sv rfl hj
                  refine ⟨u, ?_, hs⟩
                  have hlt2 : p * ty.size + j < m.toNat * i.size := by
                    rw [i2]
                    have : (p + 1) * ty.size ≤ m.toNat * ty.size := Nat.mul_le_mul_right _ hlt
                    rw [Nat.add_mul] at this
                    omega
                  have hmod : (p * ty.size + j) % ty.size = j := by rw [Nat.add_comm, Nat.add_mul_mod_self_right]; exact Nat.mod_eq_of_lt hjt
                  have hju : zv.cells[j]? = some u := by simpa using hu
                  have hjz : j < zv.cells.size := by omega
                  show (madeCells zv.cells (m.toNat * i.size))[0 + p * ty.size + j]? = some u
                  rw [Nat.zero_add]
                  unfold madeCells
                  rw [Array.getElem?_map, Array.getElem?_range, if_pos hlt2]
                  simp only [Option.map_some, hzl, hmod]
                  rw [getElem!_pos zv.cells j hjz, ← hju]
                  simp [hjz]⟩⟩
              refine OpRun.value hd hrun ⟨E.with lo sl, _, Sat.sl lo sl (Env.with_self _ _ _), ?_, g2, fun id => ?_⟩
              · simpa [upd, gones, sub] using g1
              · by_cases e : id = lo
                · exact .inr (by omega)
                · exact .inl (Env.with_other e)
            · exact h.elim
          · exact h.elim
        · exact h.elim
      · exact h.elim
    · exact h.elim
  · exact h.elim

end
end Go.Eng
