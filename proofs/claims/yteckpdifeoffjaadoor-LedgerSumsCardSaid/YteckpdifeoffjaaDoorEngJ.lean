/- The engine, part J: the other operations; any operation. -/
import Derived.Test.YteckpdifeoffjaaDoorEngI
set_option linter.unusedVariables false
set_option linter.unusedSimpArgs false
namespace Go.Eng
section
variable {r : Option Nat} {P : Program} {G : Nat → Option Ctr} {o : Oper} {T : Tm} {M : En} {lo : Nat} {Kp : SV → List Nat → Prop} {Kg : SV → List Nat → List Nat → En → Prop}

theorem pureP_value {s : Sem Value} {v : Value} (h : pureP P s = some v) (w : World) : (do pure (.value (← s)) : Sem Next).run P w = .ok (.value v) w := ok_value (pureP_run s v h)

theorem led_pick {c x y : Operand} (hop : o.op = .pick c x y) (h : match ev T c with
    | .v (.bool b) => Fork b (force (ev T x) fun s => Kp s []) (force (ev T y) fun s => Kp s [])
    | _ => False) : Led r P o T M lo Kp Kg := by
  have hops : opsOf o = opTmps [c, x, y] := by simp [opsOf, hop, Op.operands]
  split at h
  · rename_i b he
    have hd : ∀ c, o.op ≠ .defer c := fun c => by simp [hop]
    have key : ∀ (out : SV), (out = if b then ev T x else ev T y) → Kp out [] → Led r P o T M lo Kp Kg := fun out ho hk => by
      refine led_p hk hd (fun E fp a w hrd _ => ?_)
      rw [hops] at hrd
      have hc := ev_sat (E := E) (w := w) hrd (x := c) (by simp)
      rw [he] at hc
      have hce : a.eval c = .bool b := by generalize a.eval c = q at hc; cases hc; rfl
      refine ⟨if b then a.eval x else a.eval y, ?_, ?_⟩
      · simp only [execOp, hop, hce]
        rw [run_then (show (asBool (.bool b)).run P w = .ok b w from rfl)]
        rfl
      · rw [ho]
        cases b
        · exact ev_sat hrd (by simp)
        · exact ev_sat hrd (by simp)
    cases b with
    | true => exact key _ rfl (force_spec (h.t rfl))
    | false => exact key _ rfl (force_spec (h.f rfl))
  · exact h.elim

theorem led_nilCheck {x : Operand} (hop : o.op = .nilCheck x) (h : match ev T x with
    | .ptr i off => Kp (.ptr i off) []
    | .elp i z ix off => Kp (.elp i z ix off) []
    | .rop b cs off => Kp (.rop b cs off) []
    | .func (.func f) a c => Kp (.func (.func f) a c) []
    | .v (.func (.yield l) a c) => Kp (.v (.func (.yield l) a c)) []
    | _ => False) : Led r P o T M lo Kp Kg := by
  have hops : opsOf o = opTmps [x] := by simp [opsOf, hop, Op.operands]
  have hd : ∀ c, o.op ≠ .defer c := fun c => by simp [hop]
  have key : ∀ out, ev T x = out → (∀ (E : Env) (w : World) (v : Value), Sat E w out v → (∃ a, v = .pointer (some a)) ∨ (∃ f p q, v = .func (.func f) p q) ∨ ∃ l p q, v = .func (.yield l) p q) → Kp out [] → Led r P o T M lo Kp Kg := fun out he hv hk => by
    refine led_p hk hd (fun E fp a w hrd _ => ?_)
    rw [hops] at hrd
    have hx := ev_sat (E := E) (w := w) hrd (List.mem_singleton.2 rfl)
    rw [he] at hx
    refine ⟨a.eval x, ?_, hx⟩
    rcases hv E w _ hx with ⟨q, hq⟩ | ⟨f, p, q, hq⟩ | ⟨l, p, q, hq⟩
    · simp only [execOp, hop, hq]; rfl
    · simp only [execOp, hop, hq]; rfl
    · simp only [execOp, hop, hq]; rfl
  split at h
  · rename_i he
    exact key _ he (fun E w v hv => by cases hv; exact .inl ⟨_, rfl⟩) h
  · rename_i he
    exact key _ he (fun E w v hv => by cases hv; exact .inl ⟨_, rfl⟩) h
  · rename_i he
    exact key _ he (fun E w v hv => by cases hv; exact .inl ⟨_, rfl⟩) h
  · rename_i he
    exact key _ he (fun E w v hv => by cases hv; exact .inr (.inl ⟨_, _, _, rfl⟩)) h
  · rename_i he
    exact key _ he (fun E w v hv => by cases hv; exact .inr (.inr ⟨_, _, _, rfl⟩)) h
  · exact h.elim

theorem fldOf_spec {t : TypeId} {f : Nat} {fd : Field} (h : fldOf P t f = some fd) : ∃ fs, P.underlying t = some (.struct fs) ∧ fs[f]? = some fd := by
  unfold fldOf at h
  split at h
  · rename_i fs hu
    exact ⟨fs, hu, by simpa using h⟩
  · cases h

theorem led_fieldAddr {t : TypeId} {x : Operand} {f : Nat} (hop : o.op = .fieldAddr t x f) (h : match fldOf P t f with
    | some fd => match szOf P fd.type with
      | some (_ + 1) => match ev T x with
        | .ptr i off => Kp (.ptr i (off + fd.offset)) []
        | .elp i z ix off => Kp (.elp i z ix (off + fd.offset)) []
        | .rop b cs off => Kp (.rop b cs (off + fd.offset)) []
        | _ => False
      | _ => False
    | none => False) : Led r P o T M lo Kp Kg := by
  have hops : opsOf o = opTmps [x] := by simp [opsOf, hop, Op.operands]
  have hd : ∀ c, o.op ≠ .defer c := fun c => by simp [hop]
  split at h
  · rename_i fd hfd
    split at h
    · rename_i n hn
      obtain ⟨fs, hu, hget⟩ := fldOf_spec hfd
      have hexec : ∀ (a : Act) (w : World) (k off : Nat), a.eval x = .pointer (some ⟨k, off, none⟩) → (execOp a.eval o).run P w = .ok (.value (.pointer (some ⟨k, off + fd.offset, none⟩))) w := fun a w k off h1 => by
        simp only [execOp, hop, h1]
        refine ok_value ?_
        unfold Instr.fieldAt
        rw [run_then (run_underlying' hu w)]
        dsimp only
        rw [hget]
        dsimp only
        rw [run_then (show (Instr.sureAddr (.pointer (some ⟨k, off, none⟩))).run P w = .ok ⟨k, off, none⟩ w from rfl)]
        unfold fieldPlace
        rw [run_then (show (do if (← sizeOf fd.type) = 0 then partAt ⟨k, off, none⟩ fd.offset fd.byteOffset else pure ((⟨k, off, none⟩ : Addr).add fd.offset) : Sem Addr).run P w = .ok ⟨k, off + fd.offset, none⟩ w from by
          rw [run_then (run_sizeOf hn w), if_neg (by omega), add_none]; rfl)]
        rfl
      split at h
      · rename_i i off he
        refine led_p h hd (fun E fp a w hrd _ => ?_)
        rw [hops] at hrd
        have hx := ev_sat (E := E) (w := w) hrd (List.mem_singleton.2 rfl)
        rw [he] at hx
        generalize hxe : a.eval x = xv at hx
        cases hx with
        | ptr _ _ s hs => exact ⟨_, hexec a w _ _ hxe, .ptr i _ s hs⟩
      · rename_i i z ix off he
        refine led_p h hd (fun E fp a w hrd _ => ?_)
        rw [hops] at hrd
        have hx := ev_sat (E := E) (w := w) hrd (List.mem_singleton.2 rfl)
        rw [he] at hx
        generalize hxe : a.eval x = xv at hx
        cases hx with
        | elp _ _ _ _ s hs o1 n1 c1 hv =>
          refine ⟨_, hexec a w _ _ hxe, ?_⟩
          have := Sat.elp (E := E) (w := w) i z ix (off + fd.offset) s hs o1 n1 c1 hv
          rw [← Nat.add_assoc] at this
          exact this
      · rename_i b cs off he
        refine led_p h hd (fun E fp a w hrd _ => ?_)
        rw [hops] at hrd
        have hx := ev_sat (E := E) (w := w) hrd (List.mem_singleton.2 rfl)
        rw [he] at hx
        generalize hxe : a.eval x = xv at hx
        cases hx with
        | rop _ _ _ k o u hb hc hs =>
          refine ⟨_, hexec a w _ _ hxe, ?_⟩
          have := Sat.rop (E := E) (w := w) b cs (off + fd.offset) k o u hb hc hs
          rw [← Nat.add_assoc] at this
          exact this
      · exact h.elim
    · exact h.elim
  · exact h.elim

theorem led_field {t : TypeId} {x : Operand} {f : Nat} (hop : o.op = .field t x f) (h : match fldOf P t f with
    | some fd => match ev T x with
      | .agg cs => partV P fd.type cs fd.offset fun s => Kp s []
      | _ => False
    | none => False) : Led r P o T M lo Kp Kg := by
  have hops : opsOf o = opTmps [x] := by simp [opsOf, hop, Op.operands]
  split at h
  · rename_i fd hfd
    obtain ⟨fs, hu, hget⟩ := fldOf_spec hfd
    split at h
    · rename_i cs he
      obtain ⟨out, hk, hl⟩ := partV_part h
      refine led_p hk (fun c => by simp [hop]) (fun E fp a w hrd _ => ?_)
      rw [hops] at hrd
      have hx := ev_sat (E := E) (w := w) hrd (List.mem_singleton.2 rfl)
      rw [he] at hx
      generalize hxe : a.eval x = xv at hx
      cases hx with
      | agg _ vs u hsz hu' hss =>
        obtain ⟨v, h1, h2⟩ := hl E w vs (fun j sv hj => ⟨u j, hu' j (List.getElem?_eq_some_iff.1 hj).1, hss j sv hj⟩) hsz
        refine ⟨v, ?_, h2⟩
        simp only [execOp, hop, hxe]
        refine ok_value ?_
        unfold Instr.field
        rw [run_then (run_underlying' hu w)]
        dsimp only
        rw [hget]
        dsimp only
        rw [run_then (show (asAgg (.agg vs)).run P w = .ok vs w from rfl)]
        exact h1
    · exact h.elim
  · exact h.elim

theorem arr_get (xs : Array Value) (j : Nat) (h : j < xs.size) : xs[j]? = some (xs.getD j undef) := by simp [h]

theorem map_sat {E : Env} {w : World} {a : Act} {l : Array Operand} (h : ∀ t, t ∈ opTmps l.toList → Sat E w (look T t) (a.tmps.getD t undef)) :
    (l.map a.eval).size = (mapEv T l.toList).length ∧ (∀ j, j < (mapEv T l.toList).length → (l.map a.eval)[j]? = some ((l.map a.eval).getD j undef)) ∧
      ∀ (j : Nat) (sv : SV), (mapEv T l.toList)[j]? = some sv → Sat E w sv ((l.map a.eval).getD j undef) := by
  have hsz : (l.map a.eval).size = (mapEv T l.toList).length := by simp [mapEv_length]
  refine ⟨hsz, fun j hj => ?_, fun j sv hj => ?_⟩
  · exact arr_get _ _ (by omega)
  · rw [mapEv_get] at hj
    cases hx : l.toList[j]? with
    | none => rw [hx] at hj; cases hj
    | some x =>
      rw [hx] at hj
      obtain rfl : ev T x = sv := by simpa using hj
      have h2 : (l.map a.eval).getD j undef = a.eval x := by
        have : l[j]? = some x := by simpa using hx
        simp [this]
      rw [h2]
      exact ev_sat h (List.mem_of_getElem? hx)

theorem opTmps_append : ∀ (l m : List Operand), opTmps (l ++ m) = opTmps l ++ opTmps m
  | [], _ => rfl
  | x :: l, m => by cases x <;> simp [opTmps, opTmps_append l m]

theorem led_makeFunc {fn : Fn} {f c : Array Operand} (hop : o.op = .makeFunc fn f c) (h : Kp (.func fn (mapEv T f.toList) (mapEv T c.toList)) []) : Led r P o T M lo Kp Kg := by
  have hops : opsOf o = opTmps f.toList ++ opTmps c.toList := by simp [opsOf, hop, Op.operands, opTmps_append]
  refine led_p h (fun c => by simp [hop]) (fun E fp a w hrd _ => ?_)
  rw [hops] at hrd
  obtain ⟨a1, a2, a3⟩ := map_sat (T := T) (E := E) (w := w) (a := a) (l := f) (fun t ht => hrd t (List.mem_append_left _ ht))
  obtain ⟨b1, b2, b3⟩ := map_sat (T := T) (E := E) (w := w) (a := a) (l := c) (fun t ht => hrd t (List.mem_append_right _ ht))
  refine ⟨.func fn (f.map a.eval) (c.map a.eval), ?_, .func fn _ _ _ _ _ _ a1 b1 a2 b2 a3 b3⟩
  simp only [execOp, hop]
  exact ok_value rfl

theorem led_extract {x : Operand} {n : Nat} (hop : o.op = .extract x n) (h : match ev T x with
    | .tuple l => match nth l n with | some s => force s fun s => Kp s [] | none => False
    | _ => False) : Led r P o T M lo Kp Kg := by
  have hops : opsOf o = opTmps [x] := by simp [opsOf, hop, Op.operands]
  split at h
  · rename_i l he
    rw [nth_eq] at h
    split at h
    · rename_i s hn
      refine led_p (force_spec h) (fun c => by simp [hop]) (fun E fp a w hrd _ => ?_)
      rw [hops] at hrd
      have hx := ev_sat (E := E) (w := w) hrd (List.mem_singleton.2 rfl)
      rw [he] at hx
      generalize hxe : a.eval x = xv at hx
      cases hx with
      | tuple _ vs u hsz hu hss =>
        refine ⟨u n, ?_, hss n s hn⟩
        have := hu n (List.getElem?_eq_some_iff.1 hn).1
        simp only [execOp, hop, hxe]
        refine ok_value ?_
        simp only [Instr.extract, this]
        rfl
    · exact h.elim
  · exact h.elim

/-! ### Operators -/

theorem guard_plain {op : BinOp} {t : TypeId} {x y : Operand} {a b : Value} {w : World} (ha : ∀ cs, a ≠ .agg cs) (hi : a ≠ .nilIface) : (eqGuard op t x y a b).run P w = .ok () w := by
  cases a <;> cases op <;> first | rfl | (exact absurd rfl hi) | (exact absurd rfl (ha _))

theorem exec_bin {op : BinOp} {t t' : TypeId} {x y : Operand} (hop : o.op = .binOp op t x y t') {a : Act} {w : World} {v : Value} (ha : ∀ cs, a.eval x ≠ .agg cs) (hi : a.eval x ≠ .nilIface)
    (h : (binOp op t (a.eval x) (a.eval y)).run P w = .ok v w) : (execOp a.eval o).run P w = .ok (.value v) w := by
  simp only [execOp, hop]
  refine ok_value ?_
  rw [run_then (guard_plain ha hi)]
  exact h

def IsV (s : SV) (v : Value) : Prop := s = .v v ∨ s = evC v
theorem IsV.sat {s : SV} {v : Value} (h : IsV s v) (E : Env) (w : World) : Sat E w s v := by
  rcases h with rfl | rfl
  · exact .v v
  · exact evC_sat v

theorem plain2_spec {s : Sem Value} {K : SV → Prop} (h : plain2 P s K) : ∃ s' v, K s' ∧ IsV s' v ∧ ∀ w, s.run P w = .ok v w := by
  unfold plain2 at h
  split at h
  · rename_i v hv; exact ⟨_, v, h, .inr rfl, fun w => pureP_run s v hv⟩
  · exact h.elim

theorem intV_spec {op : BinOp} {k : IntKind} {m n : Int} {t : TypeId} {K : SV → Prop} (hs1 : op ≠ .shl) (hs2 : op ≠ .shr) (h : intV P op k m n t K) :
    ∃ s v, K s ∧ IsV s v ∧ ∀ w, (binOp op t (.int k m) (.int k n)).run P w = .ok v w := by
  cases op with
  | add => exact ⟨_, _, h.h, .inl rfl, fun w => by simp [binOp, Op.intArith]⟩
  | sub => exact ⟨_, _, h.h, .inl rfl, fun w => by simp [binOp, Op.intArith]⟩
  | mul => exact ⟨_, _, h.h, .inl rfl, fun w => by simp [binOp, Op.intArith]⟩
  | quo => exact ⟨_, _, h.h.h, .inl rfl, fun w => by simp [binOp, Op.intDiv, h.e]⟩
  | rem => exact ⟨_, _, h.h, .inl rfl, fun w => by simp [binOp, Op.intDiv, h.e]⟩
  | and =>
    simp only [intV] at h
    obtain ⟨s, v, h1, h2, h3⟩ := plain2_spec h
    exact ⟨s, v, h1, h2, fun w => by simpa [binOp] using h3 w⟩
  | or =>
    simp only [intV] at h
    obtain ⟨s, v, h1, h2, h3⟩ := plain2_spec h
    exact ⟨s, v, h1, h2, fun w => by simpa [binOp] using h3 w⟩
  | xor =>
    simp only [intV] at h
    obtain ⟨s, v, h1, h2, h3⟩ := plain2_spec h
    exact ⟨s, v, h1, h2, fun w => by simpa [binOp] using h3 w⟩
  | andNot =>
    simp only [intV] at h
    obtain ⟨s, v, h1, h2, h3⟩ := plain2_spec h
    exact ⟨s, v, h1, h2, fun w => by simpa [binOp] using h3 w⟩
  | shl => exact absurd rfl hs1
  | shr => exact absurd rfl hs2
  | eql => exact ⟨_, _, h, .inl rfl, fun w => by simp [binOp, Op.intCmp]⟩
  | neq => exact ⟨_, _, h, .inl rfl, fun w => by simp [binOp, Op.intCmp]⟩
  | lss => exact ⟨_, _, h, .inl rfl, fun w => by simp [binOp, Op.intCmp]⟩
  | leq => exact ⟨_, _, h, .inl rfl, fun w => by simp [binOp, Op.intCmp]⟩
  | gtr => exact ⟨_, _, h, .inl rfl, fun w => by simp [binOp, Op.intCmp]⟩
  | geq => exact ⟨_, _, h, .inl rfl, fun w => by simp [binOp, Op.intCmp]⟩

theorem shiftV_spec {op : BinOp} {k k' : IntKind} {m n : Int} {t : TypeId} {K : SV → Prop} (h : shiftV op k m n K) : ∃ s v, K s ∧ IsV s v ∧ ∀ w, (binOp op t (.int k m) (.int k' n)).run P w = .ok v w := by
  cases op with
  | shl => exact ⟨_, _, h.h.h, .inl rfl, fun w => by
            have := h.e
            simp only [binOp, Op.shift]
            rw [if_neg (by omega)]; rfl⟩
  | shr => exact ⟨_, _, h.h, .inl rfl, fun w => by
            have := h.e
            simp only [binOp, Op.shift]
            rw [if_neg (by omega)]; rfl⟩
  | _ => exact h.elim

theorem strV_spec {op : BinOp} {a b : ByteArray} {t : TypeId} {K : SV → Prop} (h : strV op a b K) : ∃ s v, K s ∧ IsV s v ∧ ∀ w, (binOp op t (.string a) (.string b)).run P w = .ok v w := by
  cases op with
  | add => exact ⟨_, _, h.h, .inl rfl, fun w => by
            have := h.e
            have e : IntKind.i64.max = 9223372036854775807 := by decide
            simp only [binOp, Op.stringOp]
            rw [if_neg (by rw [e]; omega)]; rfl⟩
  | eql => exact ⟨_, _, h, .inl rfl, fun w => by simp only [binOp, Op.stringOp]; rfl⟩
  | neq => exact ⟨_, _, h, .inl rfl, fun w => by simp only [binOp, Op.stringOp]; rfl⟩
  | lss => exact ⟨_, _, h, .inl rfl, fun w => by simp only [binOp, Op.stringOp]; rfl⟩
  | leq => exact ⟨_, _, h, .inl rfl, fun w => by simp only [binOp, Op.stringOp]; rfl⟩
  | gtr => exact ⟨_, _, h, .inl rfl, fun w => by simp only [binOp, Op.stringOp]; rfl⟩
  | geq => exact ⟨_, _, h, .inl rfl, fun w => by simp only [binOp, Op.stringOp]; rfl⟩
  | _ => exact h.elim

theorem notNil_spec {op : BinOp} {c : Bool} {K : SV → Prop} (h : notNil op c K) : c = true ∧ ((op = .eql ∧ K (.v (.bool false))) ∨ (op = .neq ∧ K (.v (.bool true)))) := by
  cases c with
  | false => exact h.elim
  | true => cases op <;> first | exact ⟨rfl, .inl ⟨rfl, h⟩⟩ | exact ⟨rfl, .inr ⟨rfl, h⟩⟩ | exact h.elim

theorem equal_ptr_nil {t : TypeId} (hp : isPtrT P t = true) (a : Addr) (w : World) : (Op.equal t (.pointer (some a)) (.pointer none)).run P w = .ok false w := by
  unfold isPtrT at hp
  split at hp
  · rename_i e hu
    unfold Op.equal Op.maxDepth
    unfold Op.equalIn
    rw [run_then (run_underlying' hu w)]
    rfl
  · cases hp

theorem equal_func_nil {t : TypeId} (hp : isFuncT P t = true) (fn : Fn) (a c : Array Value) (w : World) : (Op.equal t (.func fn a c) .nilFunc).run P w = .ok false w := by
  unfold isFuncT at hp
  split at hp
  · rename_i e hu
    unfold Op.equal Op.maxDepth
    unfold Op.equalIn
    rw [run_then (run_underlying' hu w)]
    rfl
  · cases hp

theorem led_bin {op : BinOp} {t t' : TypeId} {x y : Operand} (hop : o.op = .binOp op t x y t') (h : binV P op t (ev T x) (ev T y) M Kp) : Led r P o T M lo Kp Kg := by
  have hops : opsOf o = opTmps [x, y] := by simp [opsOf, hop, Op.operands]
  have hd : ∀ c, o.op ≠ .defer c := fun c => by simp [hop]
  -- both plain
  have plain : ∀ (p q : Value), ev T x = .v p → ev T y = .v q → (∀ cs, p ≠ .agg cs) → p ≠ .nilIface → (∃ s v, Kp s [] ∧ IsV s v ∧ ∀ w, (binOp op t p q).run P w = .ok v w) → Led r P o T M lo Kp Kg := fun p q hx hy h1 h2 ⟨s, v, hk, hsv, hrun⟩ => by
    refine led_p hk hd (fun E fp a w hrd _ => ⟨v, ?_, hsv.sat E w⟩)
    rw [hops] at hrd
    have e1 := ev_sat (E := E) (w := w) hrd (x := x) (by simp)
    have e2 := ev_sat (E := E) (w := w) hrd (x := y) (by simp)
    rw [hx] at e1; rw [hy] at e2
    have f1 : a.eval x = p := by generalize a.eval x = q at e1; cases e1; rfl
    have f2 : a.eval y = q := by generalize a.eval y = q at e2; cases e2; rfl
    refine exec_bin hop (by rw [f1]; exact h1) (by rw [f1]; exact h2) ?_
    rw [f1, f2]; exact hrun w
  -- a pointer or a function, against nil
  have nils : ∀ (c : Bool) (q : Value), ev T y = .v q → notNil op c (fun s => Kp s []) → (c = true → ∀ (E : Env) (w : World) (v : Value), Sat E w (ev T x) v → (∀ cs, v ≠ .agg cs) ∧ v ≠ .nilIface ∧
      ∀ w', (binOp .eql t v q).run P w' = .ok (.bool false) w' ∧ (binOp .neq t v q).run P w' = .ok (.bool true) w') → Led r P o T M lo Kp Kg := fun c q hy hn hv => by
    obtain ⟨hc, hn⟩ := notNil_spec hn
    have go : ∀ b, Kp (.v (.bool b)) [] → (∀ (v : Value) (w' : World), ((binOp .eql t v q).run P w' = .ok (.bool false) w' ∧ (binOp .neq t v q).run P w' = .ok (.bool true) w') → (binOp op t v q).run P w' = .ok (.bool b) w') → Led r P o T M lo Kp Kg := fun b hk hrun => by
      refine led_p hk hd (fun E fp a w hrd _ => ⟨.bool b, ?_, .v _⟩)
      rw [hops] at hrd
      have e1 := ev_sat (E := E) (w := w) hrd (x := x) (by simp)
      have e2 := ev_sat (E := E) (w := w) hrd (x := y) (by simp)
      rw [hy] at e2
      have f2 : a.eval y = q := by generalize a.eval y = q at e2; cases e2; rfl
      obtain ⟨g1, g2, g3⟩ := hv hc E w _ e1
      refine exec_bin hop g1 g2 ?_
      rw [f2]
      exact hrun _ w (g3 w)
    rcases hn with ⟨rfl, hk⟩ | ⟨rfl, hk⟩
    · exact go false hk (fun v w' h => h.1)
    · exact go true hk (fun v w' h => h.2)
  have ptrs : isPtrT P t = true → ∀ (p : Addr), (∀ cs, Value.pointer (some p) ≠ .agg cs) ∧ Value.pointer (some p) ≠ .nilIface ∧
      ∀ w', (binOp .eql t (.pointer (some p)) (.pointer none)).run P w' = .ok (.bool false) w' ∧ (binOp .neq t (.pointer (some p)) (.pointer none)).run P w' = .ok (.bool true) w' := fun hp p =>
    ⟨(fun _ e => by cases e), (fun e => by cases e), fun w' => ⟨by simp only [binOp]; rw [run_then (equal_ptr_nil hp p w')]; rfl, by simp only [binOp]; rw [run_then (equal_ptr_nil hp p w')]; rfl⟩⟩
  unfold binV at h
  split at h
  · rename_i p hx
    split at h
    · rename_i q hy
      split at h
      · rename_i k m
        split at h
        · rename_i k' n
          split at h
          · exact plain _ _ hx hy (fun _ e => by cases e) (fun e => by cases e) (shiftV_spec h)
          · exact plain _ _ hx hy (fun _ e => by cases e) (fun e => by cases e) (shiftV_spec h)
          · split at h
            · rename_i hk
              obtain rfl := eqK_eq hk
              exact plain _ _ hx hy (fun _ e => by cases e) (fun e => by cases e) (intV_spec (by assumption) (by assumption) h)
            · exact h.elim
        · exact h.elim
      · rename_i s
        split at h
        · exact plain _ _ hx hy (fun _ e => by cases e) (fun e => by cases e) (strV_spec h)
        · exact h.elim
      · exact h.elim
      · exact h.elim
      · rename_i hn1 hn2 hn3 hn4
        split at h
        · obtain ⟨s, v, h1, h2, h3⟩ := plain2_spec h
          exact plain _ _ hx hy (fun _ e => hn3 _ e) (fun e => hn4 e) ⟨s, v, h1, h2, h3⟩
        · obtain ⟨s, v, h1, h2, h3⟩ := plain2_spec h
          exact plain _ _ hx hy (fun _ e => hn3 _ e) (fun e => hn4 e) ⟨s, v, h1, h2, h3⟩
        · exact h.elim
    · exact h.elim
  · rename_i hx
    split at h
    · rename_i hy
      exact nils _ _ hy h (fun hc E w v hv => by rw [hx] at hv; cases hv; exact ptrs hc _)
    · exact h.elim
  · rename_i hx
    split at h
    · rename_i hy
      exact nils _ _ hy h (fun hc E w v hv => by rw [hx] at hv; cases hv; exact ptrs hc _)
    · exact h.elim
  · rename_i hx
    split at h
    · rename_i hy
      exact nils _ _ hy h (fun hc E w v hv => by rw [hx] at hv; cases hv; exact ptrs hc _)
    · exact h.elim
  · rename_i hx
    split at h
    · rename_i hy
      refine nils _ _ hy h (fun hc E w v hv => ?_)
      rw [hx] at hv
      cases hv with
      | func fn f c vf vc _ _ _ _ _ _ _ _ =>
        exact ⟨(fun _ e => by cases e), (fun e => by cases e), fun w' => ⟨by simp only [binOp]; rw [run_then (equal_func_nil hc _ _ _ w')]; rfl, by simp only [binOp]; rw [run_then (equal_func_nil hc _ _ _ w')]; rfl⟩⟩
    · exact h.elim
  · exact h.elim

/-! ### Elements -/

theorem run_asIntOf {k : IntKind} {i : Int} (w : World) : (asIntOf (.int k i)).run P w = .ok (k, i) w := rfl

theorem indexAt_slice {t e : TypeId} {n : Nat} {k : IntKind} {i : Int} {b o l c : Nat} (hu : P.underlying t = some (.slice e)) (hn : szOf P e = some n) (h0 : 0 ≤ i) (hl : i < l) (w : World) :
    (Instr.indexAt t (.slice (some ⟨b, o, none⟩) l c) (.int k i)).run P w = .ok (.pointer (some ⟨b, o + i.toNat * n, none⟩)) w := by
  unfold Instr.indexAt
  rw [run_then (run_asIntOf w)]
  dsimp only
  rw [run_then (run_underlying' hu w)]
  dsimp only
  have hf : ∀ (q : Nat × Option Addr × Nat × TypeId), True := fun _ => trivial
  simp only [Sem.run_bind, Sem.run_pure, Result.andThen, run_underlying' hu w, h0, hl, and_self, if_true, run_sizeOf hn w, add_none]

theorem indexAt_array {t e : TypeId} {len n : Nat} {k : IntKind} {i : Int} {b o : Nat} (hu : P.underlying t = some (.array len e)) (hn : szOf P e = some n) (h0 : 0 ≤ i) (hl : i < len) (w : World) :
    (Instr.indexAt t (.pointer (some ⟨b, o, none⟩)) (.int k i)).run P w = .ok (.pointer (some ⟨b, o + i.toNat * n, none⟩)) w := by
  unfold Instr.indexAt
  rw [run_then (run_asIntOf w)]
  dsimp only
  rw [run_then (run_underlying' hu w)]
  dsimp only
  simp only [Sem.run_bind, Sem.run_pure, Result.andThen, run_underlying' hu w, h0, hl, and_self, if_true, run_sizeOf hn w, add_none, Instr.sureAddr]

theorem led_indexAddr {t : TypeId} {x y : Operand} (hop : o.op = .indexAddr t x y) (h : match ev T y with
    | .v (.int _ ix) => match P.underlying t with
      | some (.slice e) => match ev T x with
        | .ro b ty xs => (match szOf P e with
          | some n => (match Nat.beq n ty.size with
            | true => Ask (0 ≤ ix ∧ ix < xs.length) (All' (fun e => xs[ix.toNat]? = some e) fun e => Kp (.rop b (enc ty e) 0) [])
            | false => False)
          | none => False)
        | .sl i => (match find M i with
          | .row te ty xs => (match szOf P e with
            | some n => (match Nat.beq n ty.size with
              | true => Ask (0 ≤ ix ∧ ix < xs.length) (Kp (.elp i n ix 0) [i])
              | false => False)
            | none => False)
          | _ => False)
        | .slc i o l c => (match szOf P e with
          | some n => Ask (0 ≤ ix ∧ ix < l) (Kp (.ptr i (o + ix.toNat * n)) [])
          | none => False)
        | _ => False
      | some (.array len e) => match ev T x with
        | .ptr i off => (match szOf P e with
          | some n => Ask (0 ≤ ix ∧ ix < len) (Kp (.ptr i (off + ix.toNat * n)) [])
          | none => False)
        | .rop b cs off => (match szOf P e with
          | some n => Ask (0 ≤ ix ∧ ix < len) (Kp (.rop b cs (off + ix.toNat * n)) [])
          | none => False)
        | _ => False
      | _ => False
    | _ => False) : Led r P o T M lo Kp Kg := by
  have hops : opsOf o = opTmps [x, y] := by simp [opsOf, hop, Op.operands]
  have hd : ∀ c, o.op ≠ .defer c := fun c => by simp [hop]
  split at h
  · rename_i k ix hy
    have yv : ∀ (E : Env) (a : Act) (w : World), (∀ t, t ∈ opTmps [x, y] → Sat E w (look T t) (a.tmps.getD t undef)) → a.eval y = .int k ix := fun E a w hrd => by
      have e2 := ev_sat (E := E) (w := w) hrd (x := y) (by simp)
      rw [hy] at e2
      generalize a.eval y = q at e2; cases e2; rfl
    split at h
    · rename_i e hu
      split at h
      · rename_i b ty xs hx
        split at h
        · rename_i n hn
          split at h
          · rename_i hb
            have hsz := Nat.eq_of_beq_eq_true hb
            obtain ⟨⟨h0, hlt⟩, h⟩ := h
            have hlt' : ix.toNat < xs.length := by omega
            have h := h.h xs[ix.toNat] (by simp [hlt'])
            refine led_p h hd (fun E fp a w hrd _ => ?_)
            rw [hops] at hrd
            have e1 := ev_sat (E := E) (w := w) hrd (x := x) (by simp)
            have e2 := yv E a w hrd
            rw [hx] at e1
            generalize hxe : a.eval x = xv at e1
            cases e1 with
            | nil _ _ A c => simp at hlt'
            | ro _ _ _ k1 o1 c1 u hbk hle hc hs =>
              refine ⟨_, by simp only [execOp, hop, hxe, e2]; exact ok_value (indexAt_slice hu hn h0 (by omega) w), ?_⟩
              have hin : (ix.toNat + 1) * ty.size ≤ xs.length * ty.size := Nat.mul_le_mul_right _ hlt'
              rw [Nat.add_mul] at hin
              have hel := enc_length ty xs[ix.toNat]
              have := Sat.rop (E := E) (w := w) b (enc ty xs[ix.toNat]) 0 k1 (o1 + ix.toNat * n) (fun j => u (ix.toNat * ty.size + j)) hbk (fun j hj => by
                rw [hsz, Nat.add_assoc]; exact hc _ (by omega)) (fun j sv hj => hs ix.toNat xs[ix.toNat] j sv (by simp [hlt']) hj)
              simpa using this
          · exact h.elim
        · exact h.elim
      · rename_i i hx
        split at h
        · rename_i te ty xs hf
          split at h
          · rename_i n hn
            split at h
            · rename_i hb
              have hsz := Nat.eq_of_beq_eq_true hb
              obtain ⟨⟨h0, hlt⟩, h⟩ := h
              have hlt' : ix.toNat < xs.length := by omega
              refine led_p h hd (fun E fp a w hrd hents => ?_)
              rw [hops] at hrd
              have e1 := ev_sat (E := E) (w := w) hrd (x := x) (by simp)
              have e2 := yv E a w hrd
              rw [hx] at e1
              have hent := wf_block hents (List.mem_singleton.2 rfl)
              rw [hf] at hent
              obtain ⟨s', g0, g⟩ := hent
              generalize hxe : a.eval x = xv at e1
              cases e1 with
              | sl _ s hs =>
                obtain rfl := Option.some.inj (hs.symm.trans g0)
                rcases g with ⟨_, g2, _⟩ | ⟨o2, c2, arr, fz, g1, g2, g3, g4, g5, g6, g7⟩
                · subst g2; simp at hlt'
                · rw [g1] at hxe
                  exact ⟨_, by simp only [execOp, hop, hxe, e2]; exact ok_value (indexAt_slice hu hn h0 (by omega) w), .elp i n ix 0 s hs o2 _ _ g1⟩
            · exact h.elim
          · exact h.elim
        · exact h.elim
      · rename_i i o1 l c hx
        split at h
        · rename_i n hn
          obtain ⟨⟨h0, hlt⟩, h⟩ := h
          refine led_p h hd (fun E fp a w hrd _ => ?_)
          rw [hops] at hrd
          have e1 := ev_sat (E := E) (w := w) hrd (x := x) (by simp)
          have e2 := yv E a w hrd
          rw [hx] at e1
          generalize hxe : a.eval x = xv at e1
          cases e1 with
          | slc _ _ _ _ s hs => exact ⟨_, by simp only [execOp, hop, hxe, e2]; exact ok_value (indexAt_slice hu hn h0 (by omega) w), .ptr i _ s hs⟩
        · exact h.elim
      · exact h.elim
    · rename_i len e hu
      split at h
      · rename_i i off hx
        split at h
        · rename_i n hn
          obtain ⟨⟨h0, hlt⟩, h⟩ := h
          refine led_p h hd (fun E fp a w hrd _ => ?_)
          rw [hops] at hrd
          have e1 := ev_sat (E := E) (w := w) hrd (x := x) (by simp)
          have e2 := yv E a w hrd
          rw [hx] at e1
          generalize hxe : a.eval x = xv at e1
          cases e1 with
          | ptr _ _ s hs => exact ⟨_, by simp only [execOp, hop, hxe, e2]; exact ok_value (indexAt_array hu hn h0 (by omega) w), .ptr i _ s hs⟩
        · exact h.elim
      · rename_i b cs off hx
        split at h
        · rename_i n hn
          obtain ⟨⟨h0, hlt⟩, h⟩ := h
          refine led_p h hd (fun E fp a w hrd _ => ?_)
          rw [hops] at hrd
          have e1 := ev_sat (E := E) (w := w) hrd (x := x) (by simp)
          have e2 := yv E a w hrd
          rw [hx] at e1
          generalize hxe : a.eval x = xv at e1
          cases e1 with
          | rop _ _ _ k1 o1 u hb hc hs =>
            refine ⟨_, by simp only [execOp, hop, hxe, e2]; exact ok_value (indexAt_array hu hn h0 (by omega) w), ?_⟩
            have := Sat.rop (E := E) (w := w) b cs (off + ix.toNat * n) k1 o1 u hb hc hs
            rw [← Nat.add_assoc] at this
            exact this
        · exact h.elim
      · exact h.elim
    · exact h.elim
  · exact h.elim

/-! ### Calls -/

theorem isSliceT_spec {t : TypeId} (h : isSliceT P t = true) : ∃ e, P.underlying t = some (.slice e) := by
  unfold isSliceT at h
  split at h
  · rename_i e hu; exact ⟨e, hu⟩
  · cases h

theorem plain_args {E : Env} {w : World} {a : Act} {l : Array Operand} (vs : List Value) (h : mapEv T l.toList = vs.map SV.v) (hrd : ∀ t, t ∈ opTmps l.toList → Sat E w (look T t) (a.tmps.getD t undef)) :
    l.map a.eval = vs.toArray := by
  obtain ⟨a1, a2, a3⟩ := map_sat (T := T) hrd
  have hlen : (mapEv T l.toList).length = vs.length := by rw [h]; simp
  refine Array.ext (by simp at a1 ⊢; omega) (fun j h1 h2 => ?_)
  have hj : j < vs.length := by simpa using h2
  have hs := a3 j (.v vs[j]) (by rw [h]; simp [hj])
  have hg := a2 j (by omega)
  generalize hq : (l.map a.eval).getD j undef = q at hs hg
  cases hs
  have : (l.map a.eval)[j]? = some vs[j] := hg
  rw [Array.getElem?_eq_getElem h1] at this
  simpa using Option.some.inj this

theorem led_blt {c : Call} {b : Builtin} (hop : o.op = .call c) (hc : c.callee = .builtin b) (h : bltV P b c.argTypes.toList (mapEv T c.args.toList) M Kp) : Led r P o T M lo Kp Kg := by
  have hops : opsOf o = opTmps c.args.toList := by simp [opsOf, hop, Op.operands, Call.operands, hc]
  have hd : ∀ c, o.op ≠ .defer c := fun c => by simp [hop]
  have hexec : ∀ (a : Act) (w w' : World) (v : Value), (builtin b c.argTypes o.type (c.args.map fun | .const _ => true | _ => false) (c.args.map a.eval)).run P w = .ok (.value v) w' → (execOp a.eval o).run P w = .ok (.value v) w' := fun a w w' v h1 => by
    simp only [execOp, hop, resolve, hc]
    exact h1
  -- a lone argument
  have arg1 : ∀ (s : SV) (t : TypeId), mapEv T c.args.toList = [s] → c.argTypes.toList = [t] → ∃ x, c.args = #[x] ∧ c.argTypes = #[t] ∧ ev T x = s := fun s t h1 h2 => by
    have h3 : c.argTypes = #[t] := by rw [← Array.toArray_toList (xs := c.argTypes), h2]
    cases hl : c.args.toList with
    | nil => rw [hl] at h1; simp [mapEv] at h1
    | cons x l =>
      cases l with
      | nil =>
        rw [hl] at h1
        refine ⟨x, by rw [← Array.toArray_toList (xs := c.args), hl], h3, by simpa [mapEv] using h1⟩
      | cons y l => rw [hl] at h1; simp [mapEv] at h1
  unfold bltV at h
  split at h
  · -- len
    have lenS : ∀ (S : List Nat) (s : SV) (t : TypeId) (n : Nat), mapEv T c.args.toList = [s] → c.argTypes.toList = [t] → isSliceT P t = true →
        (∀ (E : Env) (fp : Nat → Nat → Prop) (w : World) (v : Value), EntsSat E w fp (sub M S) → Sat E w s v → ∃ a k, v = .slice a n k) → Kp (.v (.int .i64 n)) S → Led r P o T M lo Kp Kg := fun S s t n h1 h2 h3 h4 hk => by
      obtain ⟨x, ha, ht, hx⟩ := arg1 s t h1 h2
      obtain ⟨e, hu⟩ := isSliceT_spec h3
      refine led_p hk hd (fun E fp a w hrd hents => ⟨_, ?_, .v _⟩)
      rw [hops, ha] at hrd
      have e1 := ev_sat (E := E) (w := w) hrd (x := x) (by simp)
      rw [hx] at e1
      obtain ⟨q, k, hv⟩ := h4 E fp w _ hents e1
      refine hexec a w w _ ?_
      rw [ha, ht]
      simp only [builtin, List.map_toArray, List.map_cons, List.map_nil, hv]
      refine ok_value ?_
      simp only [Builtin.len_]
      simp only [List.getElem?_toArray, List.getElem?_cons_zero]
      rw [run_then (run_underlying' hu w)]
      rfl
    split at h
    · rename_i s t h1 h2
      split at h
      · rename_i hu
        obtain ⟨x, ha, ht, hx⟩ := arg1 _ _ h1 h2
        refine led_p h hd (fun E fp a w hrd hents => ⟨_, ?_, .v _⟩)
        rw [hops, ha] at hrd
        have e1 := ev_sat (E := E) (w := w) hrd (x := x) (by simp)
        rw [hx] at e1
        have hv : a.eval x = .string s := by generalize a.eval x = q at e1; cases e1; rfl
        refine hexec a w w _ ?_
        rw [ha, ht]
        simp only [builtin, List.map_toArray, List.map_cons, List.map_nil, hv]
        refine ok_value ?_
        simp only [Builtin.len_, List.getElem?_toArray, List.getElem?_cons_zero]
        rw [run_then (run_underlying' hu w)]
        rfl
      · exact h.elim
    · rename_i b ty xs t h1 h2
      split at h
      · rename_i h3
        refine lenS [] _ _ _ h1 h2 h3 (fun E fp w v _ hv => ?_) h
        cases hv with
        | nil _ _ A c => exact ⟨A, c, rfl⟩
        | ro _ _ _ k1 o1 c1 u hbk hle hc hs => exact ⟨_, _, rfl⟩
      · exact h.elim
    · rename_i h1 h2
      split at h
      · rename_i h3
        refine lenS [] _ _ _ h1 h2 h3 (fun E fp w v _ hv => ?_) h
        cases hv with
        | slc _ _ _ _ s hs => exact ⟨_, _, rfl⟩
      · exact h.elim
    · rename_i h1 h2
      split at h
      · rename_i h3
        refine lenS [] _ _ 0 h1 h2 h3 (fun E fp w v _ hv => ?_) h
        cases hv
        exact ⟨_, _, rfl⟩
      · exact h.elim
    · rename_i i t h1 h2
      split at h
      · rename_i h3
        split at h
        · rename_i te ty xs hf
          refine lenS [i] _ _ _ h1 h2 h3 (fun E fp w v hents hv => ?_) h
          have hent := wf_block hents (List.mem_singleton.2 rfl)
          rw [hf] at hent
          obtain ⟨s', g0, g⟩ := hent
          cases hv with
          | sl _ s hs =>
            obtain rfl := Option.some.inj (hs.symm.trans g0)
            rcases g with ⟨g1, g2, _⟩ | ⟨o2, c2, arr, fz, g1, _⟩
            · subst g2; exact ⟨_, _, g1⟩
            · exact ⟨_, _, g1⟩
        · exact h.elim
      · exact h.elim
    · exact h.elim
  · -- max
    split at h
    · rename_i k a1 k' b1 hargs
      refine led_p h hd (fun E fp a w hrd hents => ⟨_, ?_, .v _⟩)
      rw [hops] at hrd
      refine hexec a w w _ ?_
      rw [plain_args [.int k a1, .int k' b1] hargs hrd]
      refine ok_value ?_
      simp only [Builtin.max_, List.foldlM_cons, List.foldlM_nil, Builtin.max2]
      rw [run_then (show (pure (Value.int k (if b1 > a1 then b1 else a1)) : Sem Value).run P w = .ok _ w from rfl)]
      rw [show (if b1 > a1 then b1 else a1) = max a1 b1 by split <;> omega]
      rfl
    · rename_i k a1 k' b1 k'' c1 hargs
      refine led_p h hd (fun E fp a w hrd hents => ⟨_, ?_, .v _⟩)
      rw [hops] at hrd
      refine hexec a w w _ ?_
      rw [plain_args [.int k a1, .int k' b1, .int k'' c1] hargs hrd]
      refine ok_value ?_
      simp only [Builtin.max_, List.foldlM_cons, List.foldlM_nil, Builtin.max2]
      rw [run_then (show (pure (Value.int k (if b1 > a1 then b1 else a1)) : Sem Value).run P w = .ok _ w from rfl)]
      rw [show (if b1 > a1 then b1 else a1) = max a1 b1 by split <;> omega]
      simp only [Builtin.max2]
      rw [run_then (show (pure (Value.int k (if c1 > max a1 b1 then c1 else max a1 b1)) : Sem Value).run P w = .ok _ w from rfl)]
      rw [show (if c1 > max a1 b1 then c1 else max a1 b1) = max (max a1 b1) c1 by split <;> omega]
      rfl
    · exact h.elim
  · -- min
    split at h
    · rename_i k a1 k' b1 hargs
      refine led_p h hd (fun E fp a w hrd hents => ⟨_, ?_, .v _⟩)
      rw [hops] at hrd
      refine hexec a w w _ ?_
      rw [plain_args [.int k a1, .int k' b1] hargs hrd]
      refine ok_value ?_
      simp only [Builtin.min_, List.foldlM_cons, List.foldlM_nil, Builtin.min2]
      rw [run_then (show (pure (Value.int k (if b1 < a1 then b1 else a1)) : Sem Value).run P w = .ok _ w from rfl)]
      rw [show (if b1 < a1 then b1 else a1) = min a1 b1 by split <;> omega]
      rfl
    · rename_i k a1 k' b1 k'' c1 hargs
      refine led_p h hd (fun E fp a w hrd hents => ⟨_, ?_, .v _⟩)
      rw [hops] at hrd
      refine hexec a w w _ ?_
      rw [plain_args [.int k a1, .int k' b1, .int k'' c1] hargs hrd]
      refine ok_value ?_
      simp only [Builtin.min_, List.foldlM_cons, List.foldlM_nil, Builtin.min2]
      rw [run_then (show (pure (Value.int k (if b1 < a1 then b1 else a1)) : Sem Value).run P w = .ok _ w from rfl)]
      rw [show (if b1 < a1 then b1 else a1) = min a1 b1 by split <;> omega]
      simp only [Builtin.min2]
      rw [run_then (show (pure (Value.int k (if c1 < min a1 b1 then c1 else min a1 b1)) : Sem Value).run P w = .ok _ w from rfl)]
      rw [show (if c1 < min a1 b1 then c1 else min a1 b1) = min (min a1 b1) c1 by split <;> omega]
      rfl
    · exact h.elim
  · exact h.elim

theorem plain_sat {E : Env} {w : World} {x : Operand} {v : Value} (h : Sat E w (ev T x) v) (hp : (match ev T x with | .v _ => true | .func _ [] [] => true | _ => false) = true) : v = plainE T x := by
  unfold plainE
  generalize ev T x = s at h hp
  cases h with
  | v x => rfl
  | func fn f c vf vc uf uc hf hc huf huc hsf hsc =>
    cases f with
    | nil =>
      cases c with
      | nil =>
        obtain rfl : vf = #[] := Array.eq_empty_of_size_eq_zero (by simpa using hf)
        obtain rfl : vc = #[] := Array.eq_empty_of_size_eq_zero (by simpa using hc)
        rfl
      | cons a l => cases hp
    | cons a l => cases hp
  | _ => cases hp
theorem allPlain_spec : ∀ {l : List Operand}, allPlain T l = true → ∀ x, x ∈ l → (match ev T x with | .v _ => true | .func _ [] [] => true | _ => false) = true
  | [], _, x, hx => by cases hx
  | y :: l, h, x, hx => by
    simp only [allPlain] at h
    split at h
    · rename_i v hv
      rcases List.mem_cons.1 hx with rfl | hx'
      · rw [hv]
      · exact allPlain_spec h x hx'
    · rename_i fn hv
      rcases List.mem_cons.1 hx with rfl | hx'
      · rw [hv]
      · exact allPlain_spec h x hx'
    · cases h
theorem evR_sat {E : Env} {w : World} (v : Value) : Sat E w (evR v) v := by
  cases v with
  | tuple vs =>
    refine .tuple _ vs (fun j => vs.getD j undef) (by simp) (fun j hj => ?_) (fun j sv hj => ?_)
    · have : j < vs.size := by simpa using hj
      simp [this]
    · obtain ⟨x, h1, rfl⟩ := list_sat_v (E := E) (w := w) hj
      have hlt : j < vs.size := by
        have := (List.getElem?_eq_some_iff.1 h1).1; simpa using this
      have : vs.getD j undef = x := by
        have h2 : vs.toList[j]? = some x := h1
        simp only [Array.getElem?_toList] at h2
        simp [Array.getD_eq_getD_getElem?, h2]
      rw [this]; exact .v _
  | agg cs => exact evC_sat (.agg cs)
  | _ => exact .v _

theorem led_gen (hs : ∀ cs b, o.op ≠ .select cs b) (hd : ∀ c, o.op ≠ .defer c) (h : genV P o T fun s => Kp s []) : Led r P o T M lo Kp Kg := by
  unfold genV at h
  split at h
  · rename_i hall
    split at h
    · rename_i v hv
      refine led_p h hd (fun E fp a w hrd _ => ⟨v, ?_, evR_sat v⟩)
      have heq : execOp a.eval o = execOp (plainE T) o := execOp_congr o hs (fun x hx => by
        have h1 := ev_sat (E := E) (w := w) (T := T) (a := a) (l := o.op.operands.toList) hrd (x := x) (by simpa using hx)
        exact plain_sat h1 (allPlain_spec hall x (by simpa using hx)))
      rw [heq]
      exact pureP_run _ _ hv
    · exact h.elim
  · exact h.elim

theorem led_call {c : Call} {f : Operand} (hG : Known P G) (hop : o.op = .call c) (hc : c.callee = .value f) (h : match ev T f with
      | .func (.func g) [] cap => match G g with
        | some C => CallP C (mapEv T c.args.toList ++ cap) M lo Kg
        | none => genV P o T fun s => Kp s []
      | _ => False) : Led r P o T M lo Kp Kg := by
  have hops : opsOf o = opTmps (f :: c.args.toList) := by simp [opsOf, hop, Op.operands, Call.operands, hc]
  have hd : ∀ c, o.op ≠ .defer c := fun c => by simp [hop]
  split at h
  · rename_i g cap hf
    split at h
    · rename_i C hgC
      obtain ⟨x, h⟩ := h
      have vls : ∀ (E : Env) (w : World) (a : Act), (∀ t, t ∈ opTmps (f :: c.args.toList) → Sat E w (look T t) (a.tmps.getD t undef)) → ∃ vals : Array Value, vals.size = (mapEv T c.args.toList ++ cap).length ∧
          (∀ (j : Nat) (s : SV), (mapEv T c.args.toList ++ cap)[j]? = some s → Sat E w s (vals.getD j undef)) ∧ (execOp a.eval o).run P w = (callFunc g vals).run P w := fun E w a hrd => by
        have e1 := ev_sat (E := E) (w := w) hrd (x := f) (List.mem_cons_self ..)
        rw [hf] at e1
        generalize hfe : a.eval f = fv at e1
        cases e1 with
        | func _ _ _ vf vc uf uc hlf hlc huf huc hsf hsc =>
          have hvf : vf = #[] := Array.eq_empty_of_size_eq_zero (by simpa using hlf)
          subst hvf
          obtain ⟨a1, a2, a3⟩ := map_sat (T := T) (E := E) (w := w) (a := a) (l := c.args) (fun t ht => hrd t (by
            show t ∈ opTmps ([f] ++ c.args.toList)
            rw [opTmps_append]; exact List.mem_append_right _ ht))
          refine ⟨c.args.map a.eval ++ vc, by simp only [Array.size_append, List.length_append]; omega, fun j s hj => ?_, ?_⟩
          · rcases Nat.lt_or_ge j (mapEv T c.args.toList).length with hlt | hge
            · rw [List.getElem?_append_left hlt] at hj
              have : (c.args.map a.eval ++ vc).getD j undef = (c.args.map a.eval).getD j undef := by
                have hlt' : j < (c.args.map a.eval).size := by omega
                simp only [Array.getD_eq_getD_getElem?]
                rw [Array.getElem?_append_left hlt']
              rw [this]; exact a3 j s hj
            · rw [List.getElem?_append_right hge] at hj
              have hlt2 := (List.getElem?_eq_some_iff.1 hj).1
              have : (c.args.map a.eval ++ vc).getD j undef = uc (j - (mapEv T c.args.toList).length) := by
                simp only [Array.getD_eq_getD_getElem?]
                rw [Array.getElem?_append_right (by omega), a1, huc _ hlt2]
                rfl
              rw [this]; exact hsc _ s hj
          · simp only [execOp, hop, resolve, hc, hfe, Deferred.ofValue]
            rw [run_then (show (pure { target := Target.fn (Fn.func g) vc, args := #[] ++ c.args.map a.eval } : Sem Deferred).run P w = .ok _ w from rfl)]
            simp only [invoke, Array.empty_append]
      rcases hG g C hgC with ⟨hok, hcall⟩ | ⟨_, hok⟩
      case inr =>
        obtain ⟨out, S, ci, eo, hk, hci, hsem⟩ := call_goodV hok h
        refine .inr ⟨out, S, ci, eo, hk, hci, fun E fp a w hrd hents hfr => ?_⟩
        rw [hops] at hrd
        obtain ⟨vals, v1, v2, v3⟩ := vls E w a hrd
        obtain ⟨v, hv, E', fp', q1, q2, q3, q4⟩ := hsem E fp w vals v1 v2 hents hfr
        exact OpRun.value hd (v3.trans hv) ⟨E', fp', q1, q2, q3, q4⟩
      obtain ⟨out, S, ci, eo, hk, hci, hsem⟩ := call_good hok h
      refine .inr ⟨out, S, ci, eo, hk, hci, fun E fp a w hrd hents hfr => ?_⟩
      rw [hops] at hrd
      obtain ⟨vals, v1, v2, v3⟩ := vls E w a hrd
      refine OpRun.enter hd (w' := w) (f := g) (args := vals) (v3.trans (hcall _ w)) ?_
      refine CallsIn.mono (hsem E fp w vals v1 v2 hents hfr) ?_
      rintro e w' ⟨v, rfl, E', fp', q1, q2, q3, q4⟩
      exact ⟨v, rfl, E', fp', q1, q2, q3, q4⟩
    · exact led_gen (fun cs b => by simp [hop]) hd h
  · exact h.elim

end
end Go.Eng
