/- Parts of the proof, one behind the other (EngJ, EngK, EngL, EngU). -/
import Derived.Test.YtoaaieiiamdopaaGreatDoorPk3
import Derived.Laws.Append
import Derived.Laws.AppendOwn
import Derived.ChangeKeysEq
set_option linter.unusedVariables false
set_option linter.unusedSimpArgs false
set_option linter.unusedSectionVars false
/-! The engine, part J: the other operations; any operation. -/
set_option linter.unusedVariables false
set_option linter.unusedSimpArgs false
namespace Go.Eng
variable [DM]
set_option linter.unusedSectionVars false
section
variable {r : Option Nat} {P : Program} {G : Nat → Option Ctr} {o : Oper} {T : Tm} {M : En} {lo : Nat} {Kp : SV → List Nat → Prop} {Kg : SV → List Nat → List Nat → En → Prop}

theorem pureP_value {s : Sem Value} {v : Value} (h : pureP P s = some v) (w : World) : (do pure (.value (← s)) : Sem Next).run P w = .ok (.value v) w := ok_value (pureP_run s v h)

theorem led_pick {c x y : Operand} (hop : o.op = .pick c x y) (h : match ev T c with
    | .v (.bool b) => Fork b (force (ev T x) fun s => Kp s []) (force (ev T y) fun s => Kp s [])
    | _ => False) : Led r P o T M lo Kp Kg := by
  have hops : opsOf o = opTmps [c, x, y] := by simp [opsOf, hop, Op.operands]
  split at h
  · rename_i b he
    have hd : ∀ c, o.op ≠ .defer c := fun c => by simp [hop]
    have key : ∀ (out : SV), (out = if b then ev T x else ev T y) → Kp out [] → Led r P o T M lo Kp Kg := fun out ho hk => by
      refine led_p hk hd (fun E fp a w hrd _ => ?_)
      rw [hops] at hrd
      have hc := ev_sat (E := E) (w := w) hrd (x := c) (by simp)
      rw [he] at hc
      have hce : a.eval c = .bool b := by generalize a.eval c = q at hc; cases hc; rfl
      refine ⟨if b then a.eval x else a.eval y, ?_, ?_⟩
      · simp only [execOp, hop, hce]
        rw [run_then (show (asBool (.bool b)).run P w = .ok b w from rfl)]
        rfl
      · rw [ho]
        cases b
        · exact ev_sat hrd (by simp)
        · exact ev_sat hrd (by simp)
    cases b with
    | true => exact key _ rfl (force_spec (h.t rfl))
    | false => exact key _ rfl (force_spec (h.f rfl))
  · exact h.elim

theorem led_nilCheck {x : Operand} (hop : o.op = .nilCheck x) (h : match ev T x with
    | .ptr i off => Kp (.ptr i off) []
    | .elp i z ix off => Kp (.elp i z ix off) []
    | .rop b cs off => Kp (.rop b cs off) []
    | .func (.func f) a c => Kp (.func (.func f) a c) []
    | .v (.func (.yield l) a c) => Kp (.v (.func (.yield l) a c)) []
    | _ => False) : Led r P o T M lo Kp Kg := by
  have hops : opsOf o = opTmps [x] := by simp [opsOf, hop, Op.operands]
  have hd : ∀ c, o.op ≠ .defer c := fun c => by simp [hop]
  have key : ∀ out, ev T x = out → (∀ (E : Env) (w : World) (v : Value), Sat E w out v → (∃ a, v = .pointer (some a)) ∨ (∃ f p q, v = .func (.func f) p q) ∨ ∃ l p q, v = .func (.yield l) p q) → Kp out [] → Led r P o T M lo Kp Kg := fun out he hv hk => by
    refine led_p hk hd (fun E fp a w hrd _ => ?_)
    rw [hops] at hrd
    have hx := ev_sat (E := E) (w := w) hrd (List.mem_singleton.2 rfl)
    rw [he] at hx
    refine ⟨a.eval x, ?_, hx⟩
    rcases hv E w _ hx with ⟨q, hq⟩ | ⟨f, p, q, hq⟩ | ⟨l, p, q, hq⟩
    · simp only [execOp, hop, hq]; rfl
    · simp only [execOp, hop, hq]; rfl
    · simp only [execOp, hop, hq]; rfl
  split at h
  · rename_i he
    exact key _ he (fun E w v hv => by cases hv; exact .inl ⟨_, rfl⟩) h
  · rename_i he
    exact key _ he (fun E w v hv => by cases hv; exact .inl ⟨_, rfl⟩) h
  · rename_i he
    exact key _ he (fun E w v hv => by cases hv; exact .inl ⟨_, rfl⟩) h
  · rename_i he
    exact key _ he (fun E w v hv => by cases hv; exact .inr (.inl ⟨_, _, _, rfl⟩)) h
  · rename_i he
    exact key _ he (fun E w v hv => by cases hv; exact .inr (.inr ⟨_, _, _, rfl⟩)) h
  · exact h.elim

theorem fldOf_spec {t : TypeId} {f : Nat} {fd : Field} (h : fldOf P t f = some fd) : ∃ fs, P.underlying t = some (.struct fs) ∧ fs[f]? = some fd := by
  unfold fldOf at h
  split at h
  · rename_i fs hu
    exact ⟨fs, hu, by simpa using h⟩
  · cases h

theorem led_fieldAddr {t : TypeId} {x : Operand} {f : Nat} (hop : o.op = .fieldAddr t x f) (h : match fldOf P t f with
    | some fd => match szOf P fd.type with
      | some (_ + 1) => match ev T x with
        | .ptr i off => Kp (.ptr i (off + fd.offset)) []
        | .elp i z ix off => Kp (.elp i z ix (off + fd.offset)) []
        | .rop b cs off => Kp (.rop b cs (off + fd.offset)) []
        | _ => False
      | _ => False
    | none => False) : Led r P o T M lo Kp Kg := by
  have hops : opsOf o = opTmps [x] := by simp [opsOf, hop, Op.operands]
  have hd : ∀ c, o.op ≠ .defer c := fun c => by simp [hop]
  split at h
  · rename_i fd hfd
    split at h
    · rename_i n hn
      obtain ⟨fs, hu, hget⟩ := fldOf_spec hfd
      have hexec : ∀ (a : Act) (w : World) (k off : Nat), a.eval x = .pointer (some ⟨k, off, none⟩) → (execOp a.eval o).run P w = .ok (.value (.pointer (some ⟨k, off + fd.offset, none⟩))) w := fun a w k off h1 => by
        simp only [execOp, hop, h1]
        refine ok_value ?_
        unfold Instr.fieldAt
        rw [run_then (run_underlying' hu w)]
        dsimp only
        rw [hget]
        dsimp only
        rw [run_then (show (Instr.sureAddr (.pointer (some ⟨k, off, none⟩))).run P w = .ok ⟨k, off, none⟩ w from rfl)]
        unfold fieldPlace
        rw [run_then (show (do if (← sizeOf fd.type) = 0 then partAt ⟨k, off, none⟩ fd.offset fd.byteOffset else pure ((⟨k, off, none⟩ : Addr).add fd.offset) : Sem Addr).run P w = .ok ⟨k, off + fd.offset, none⟩ w from by
          rw [run_then (run_sizeOf hn w), if_neg (by omega), add_none]; rfl)]
        rfl
      split at h
      · rename_i i off he
        refine led_p h hd (fun E fp a w hrd _ => ?_)
        rw [hops] at hrd
        have hx := ev_sat (E := E) (w := w) hrd (List.mem_singleton.2 rfl)
        rw [he] at hx
        generalize hxe : a.eval x = xv at hx
        cases hx with
        | ptr _ _ s hs => exact ⟨_, hexec a w _ _ hxe, .ptr i _ s hs⟩
      · rename_i i z ix off he
        refine led_p h hd (fun E fp a w hrd _ => ?_)
        rw [hops] at hrd
        have hx := ev_sat (E := E) (w := w) hrd (List.mem_singleton.2 rfl)
        rw [he] at hx
        generalize hxe : a.eval x = xv at hx
        cases hx with
        | elp _ _ _ _ s hs o1 n1 c1 hv =>
          refine ⟨_, hexec a w _ _ hxe, ?_⟩
          have := Sat.elp (E := E) (w := w) i z ix (off + fd.offset) s hs o1 n1 c1 hv
          rw [← Nat.add_assoc] at this
          exact this
      · rename_i b cs off he
        refine led_p h hd (fun E fp a w hrd _ => ?_)
        rw [hops] at hrd
        have hx := ev_sat (E := E) (w := w) hrd (List.mem_singleton.2 rfl)
        rw [he] at hx
        generalize hxe : a.eval x = xv at hx
        cases hx with
        | rop _ _ _ k o u hb hc hs =>
          refine ⟨_, hexec a w _ _ hxe, ?_⟩
          have := Sat.rop (E := E) (w := w) b cs (off + fd.offset) k o u hb hc hs
          rw [← Nat.add_assoc] at this
          exact this
      · exact h.elim
    · exact h.elim
  · exact h.elim

theorem led_field {t : TypeId} {x : Operand} {f : Nat} (hop : o.op = .field t x f) (h : match fldOf P t f with
    | some fd => match ev T x with
      | .agg cs => partV P fd.type cs fd.offset fun s => Kp s []
      | _ => False
    | none => False) : Led r P o T M lo Kp Kg := by
  have hops : opsOf o = opTmps [x] := by simp [opsOf, hop, Op.operands]
  split at h
  · rename_i fd hfd
    obtain ⟨fs, hu, hget⟩ := fldOf_spec hfd
    split at h
    · rename_i cs he
      obtain ⟨out, hk, hl⟩ := partV_part h
      refine led_p hk (fun c => by simp [hop]) (fun E fp a w hrd _ => ?_)
      rw [hops] at hrd
      have hx := ev_sat (E := E) (w := w) hrd (List.mem_singleton.2 rfl)
      rw [he] at hx
      generalize hxe : a.eval x = xv at hx
      cases hx with
      | agg _ vs u hsz hu' hss =>
        obtain ⟨v, h1, h2⟩ := hl E w vs (fun j sv hj => ⟨u j, hu' j (List.getElem?_eq_some_iff.1 hj).1, hss j sv hj⟩) hsz
        refine ⟨v, ?_, h2⟩
        simp only [execOp, hop, hxe]
        refine ok_value ?_
        unfold Instr.field
        rw [run_then (run_underlying' hu w)]
        dsimp only
        rw [hget]
        dsimp only
        rw [run_then (show (asAgg (.agg vs)).run P w = .ok vs w from rfl)]
        exact h1
    · exact h.elim
  · exact h.elim

theorem arr_get (xs : Array Value) (j : Nat) (h : j < xs.size) : xs[j]? = some (xs.getD j undef) := by simp [h]

theorem map_sat {E : Env} {w : World} {a : Act} {l : Array Operand} (h : ∀ t, t ∈ opTmps l.toList → Sat E w (look T t) (a.tmps.getD t undef)) :
    (l.map a.eval).size = (mapEv T l.toList).length ∧ (∀ j, j < (mapEv T l.toList).length → (l.map a.eval)[j]? = some ((l.map a.eval).getD j undef)) ∧
      ∀ (j : Nat) (sv : SV), (mapEv T l.toList)[j]? = some sv → Sat E w sv ((l.map a.eval).getD j undef) := by
  have hsz : (l.map a.eval).size = (mapEv T l.toList).length := by simp [mapEv_length]
  refine ⟨hsz, fun j hj => ?_, fun j sv hj => ?_⟩
  · exact arr_get _ _ (by omega)
  · rw [mapEv_get] at hj
    cases hx : l.toList[j]? with
    | none => rw [hx] at hj; cases hj
    | some x =>
      rw [hx] at hj
      obtain rfl : ev T x = sv := by simpa using hj
      have h2 : (l.map a.eval).getD j undef = a.eval x := by
        have : l[j]? = some x := by simpa using hx
        simp [this]
      rw [h2]
      exact ev_sat h (List.mem_of_getElem? hx)

theorem opTmps_append : ∀ (l m : List Operand), opTmps (l ++ m) = opTmps l ++ opTmps m
  | [], _ => rfl
  | x :: l, m => by cases x <;> simp [opTmps, opTmps_append l m]

theorem led_makeFunc {fn : Fn} {f c : Array Operand} (hop : o.op = .makeFunc fn f c) (h : Kp (.func fn (mapEv T f.toList) (mapEv T c.toList)) []) : Led r P o T M lo Kp Kg := by
  have hops : opsOf o = opTmps f.toList ++ opTmps c.toList := by simp [opsOf, hop, Op.operands, opTmps_append]
  refine led_p h (fun c => by simp [hop]) (fun E fp a w hrd _ => ?_)
  rw [hops] at hrd
  obtain ⟨a1, a2, a3⟩ := map_sat (T := T) (E := E) (w := w) (a := a) (l := f) (fun t ht => hrd t (List.mem_append_left _ ht))
  obtain ⟨b1, b2, b3⟩ := map_sat (T := T) (E := E) (w := w) (a := a) (l := c) (fun t ht => hrd t (List.mem_append_right _ ht))
  refine ⟨.func fn (f.map a.eval) (c.map a.eval), ?_, .func fn _ _ _ _ _ _ a1 b1 a2 b2 a3 b3⟩
  simp only [execOp, hop]
  exact ok_value rfl

theorem led_extract {x : Operand} {n : Nat} (hop : o.op = .extract x n) (h : match ev T x with
    | .tuple l => match nth l n with | some s => force s fun s => Kp s [] | none => False
    | _ => False) : Led r P o T M lo Kp Kg := by
  have hops : opsOf o = opTmps [x] := by simp [opsOf, hop, Op.operands]
  split at h
  · rename_i l he
    rw [nth_eq] at h
    split at h
    · rename_i s hn
      refine led_p (force_spec h) (fun c => by simp [hop]) (fun E fp a w hrd _ => ?_)
      rw [hops] at hrd
      have hx := ev_sat (E := E) (w := w) hrd (List.mem_singleton.2 rfl)
      rw [he] at hx
      generalize hxe : a.eval x = xv at hx
      cases hx with
      | tuple _ vs u hsz hu hss =>
        refine ⟨u n, ?_, hss n s hn⟩
        have := hu n (List.getElem?_eq_some_iff.1 hn).1
        simp only [execOp, hop, hxe]
        refine ok_value ?_
        simp only [Instr.extract, this]
        rfl
    · exact h.elim
  · exact h.elim

/-! ### Operators -/

theorem guard_plain {op : BinOp} {t : TypeId} {x y : Operand} {a b : Value} {w : World} (ha : ∀ cs, a ≠ .agg cs) (hi : a ≠ .nilIface) : (eqGuard op t x y a b).run P w = .ok () w := by
  cases a <;> cases op <;> first | rfl | (exact absurd rfl hi) | (exact absurd rfl (ha _))

theorem exec_bin {op : BinOp} {t t' : TypeId} {x y : Operand} (hop : o.op = .binOp op t x y t') {a : Act} {w : World} {v : Value} (ha : ∀ cs, a.eval x ≠ .agg cs) (hi : a.eval x ≠ .nilIface)
    (h : (binOp op t (a.eval x) (a.eval y)).run P w = .ok v w) : (execOp a.eval o).run P w = .ok (.value v) w := by
  simp only [execOp, hop]
  refine ok_value ?_
  rw [run_then (guard_plain ha hi)]
  exact h

def IsV (s : SV) (v : Value) : Prop := s = .v v ∨ s = evC v
theorem IsV.sat {s : SV} {v : Value} (h : IsV s v) (E : Env) (w : World) : Sat E w s v := by
  rcases h with rfl | rfl
  · exact .v v
  · exact evC_sat v

theorem plain2_spec {s : Sem Value} {K : SV → Prop} (h : plain2 P s K) : ∃ s' v, K s' ∧ IsV s' v ∧ ∀ w, s.run P w = .ok v w := by
  unfold plain2 at h
  split at h
  · rename_i v hv; exact ⟨_, v, h, .inr rfl, fun w => pureP_run s v hv⟩
  · exact h.elim

theorem intV_spec {op : BinOp} {k : IntKind} {m n : Int} {t : TypeId} {K : SV → Prop} (hs1 : op ≠ .shl) (hs2 : op ≠ .shr) (h : intV P op k m n t K) :
    ∃ s v, K s ∧ IsV s v ∧ ∀ w, (binOp op t (.int k m) (.int k n)).run P w = .ok v w := by
  cases op with
  | add => exact ⟨_, _, h.h, .inl rfl, fun w => by simp [binOp, Op.intArith]⟩
  | sub => exact ⟨_, _, h.h, .inl rfl, fun w => by simp [binOp, Op.intArith]⟩
  | mul => exact ⟨_, _, h.h, .inl rfl, fun w => by simp [binOp, Op.intArith]⟩
  | quo => exact ⟨_, _, h.h.h, .inl rfl, fun w => by simp [binOp, Op.intDiv, h.e]⟩
  | rem => exact ⟨_, _, h.h, .inl rfl, fun w => by simp [binOp, Op.intDiv, h.e]⟩
  | and =>
    simp only [intV] at h
    obtain ⟨s, v, h1, h2, h3⟩ := plain2_spec h
    exact ⟨s, v, h1, h2, fun w => by simpa [binOp] using h3 w⟩
  | or =>
    simp only [intV] at h
    obtain ⟨s, v, h1, h2, h3⟩ := plain2_spec h
    exact ⟨s, v, h1, h2, fun w => by simpa [binOp] using h3 w⟩
  | xor =>
    simp only [intV] at h
    obtain ⟨s, v, h1, h2, h3⟩ := plain2_spec h
    exact ⟨s, v, h1, h2, fun w => by simpa [binOp] using h3 w⟩
  | andNot =>
    simp only [intV] at h
    obtain ⟨s, v, h1, h2, h3⟩ := plain2_spec h
    exact ⟨s, v, h1, h2, fun w => by simpa [binOp] using h3 w⟩
  | shl => exact absurd rfl hs1
  | shr => exact absurd rfl hs2
  | eql => exact ⟨_, _, h, .inl rfl, fun w => by simp [binOp, Op.intCmp]⟩
  | neq => exact ⟨_, _, h, .inl rfl, fun w => by simp [binOp, Op.intCmp]⟩
  | lss => exact ⟨_, _, h, .inl rfl, fun w => by simp [binOp, Op.intCmp]⟩
  | leq => exact ⟨_, _, h, .inl rfl, fun w => by simp [binOp, Op.intCmp]⟩
  | gtr => exact ⟨_, _, h, .inl rfl, fun w => by simp [binOp, Op.intCmp]⟩
  | geq => exact ⟨_, _, h, .inl rfl, fun w => by simp [binOp, Op.intCmp]⟩

theorem shiftV_spec {op : BinOp} {k k' : IntKind} {m n : Int} {t : TypeId} {K : SV → Prop} (h : shiftV op k m n K) : ∃ s v, K s ∧ IsV s v ∧ ∀ w, (binOp op t (.int k m) (.int k' n)).run P w = .ok v w := by
  cases op with
  | shl => exact ⟨_, _, h.h.h, .inl rfl, fun w => by
            have := h.e
            simp only [binOp, Op.shift]
            rw [if_neg (by omega)]; rfl⟩
  | shr => exact ⟨_, _, h.h, .inl rfl, fun w => by
            have := h.e
            simp only [binOp, Op.shift]
            rw [if_neg (by omega)]; rfl⟩
  | _ => exact h.elim

theorem strV_spec {op : BinOp} {a b : ByteArray} {t : TypeId} {K : SV → Prop} (h : strV op a b K) : ∃ s v, K s ∧ IsV s v ∧ ∀ w, (binOp op t (.string a) (.string b)).run P w = .ok v w := by
  cases op with
  | add => exact ⟨_, _, h.h, .inl rfl, fun w => by
            have := h.e
            have e : IntKind.i64.max = 9223372036854775807 := by decide
            simp only [binOp, Op.stringOp]
            rw [if_neg (by rw [e]; omega)]; rfl⟩
  | eql => exact ⟨_, _, h, .inl rfl, fun w => by simp only [binOp, Op.stringOp]; rfl⟩
  | neq => exact ⟨_, _, h, .inl rfl, fun w => by simp only [binOp, Op.stringOp]; rfl⟩
  | lss => exact ⟨_, _, h, .inl rfl, fun w => by simp only [binOp, Op.stringOp]; rfl⟩
  | leq => exact ⟨_, _, h, .inl rfl, fun w => by simp only [binOp, Op.stringOp]; rfl⟩
  | gtr => exact ⟨_, _, h, .inl rfl, fun w => by simp only [binOp, Op.stringOp]; rfl⟩
  | geq => exact ⟨_, _, h, .inl rfl, fun w => by simp only [binOp, Op.stringOp]; rfl⟩
  | _ => exact h.elim

theorem notNil_spec {op : BinOp} {c : Bool} {K : SV → Prop} (h : notNil op c K) : c = true ∧ ((op = .eql ∧ K (.v (.bool false))) ∨ (op = .neq ∧ K (.v (.bool true)))) := by
  cases c with
  | false => exact h.elim
  | true => cases op <;> first | exact ⟨rfl, .inl ⟨rfl, h⟩⟩ | exact ⟨rfl, .inr ⟨rfl, h⟩⟩ | exact h.elim

theorem equal_ptr_nil {t : TypeId} (hp : isPtrT P t = true) (a : Addr) (w : World) : (Op.equal t (.pointer (some a)) (.pointer none)).run P w = .ok false w := by
  unfold isPtrT at hp
  split at hp
  · rename_i e hu
    unfold Op.equal Op.maxDepth
    unfold Op.equalIn
    rw [run_then (run_underlying' hu w)]
    rfl
  · cases hp

theorem equal_func_nil {t : TypeId} (hp : isFuncT P t = true) (fn : Fn) (a c : Array Value) (w : World) : (Op.equal t (.func fn a c) .nilFunc).run P w = .ok false w := by
  unfold isFuncT at hp
  split at hp
  · rename_i e hu
    unfold Op.equal Op.maxDepth
    unfold Op.equalIn
    rw [run_then (run_underlying' hu w)]
    rfl
  · cases hp

theorem led_bin {op : BinOp} {t t' : TypeId} {x y : Operand} (hop : o.op = .binOp op t x y t') (h : binV P op t (ev T x) (ev T y) M Kp) : Led r P o T M lo Kp Kg := by
  have hops : opsOf o = opTmps [x, y] := by simp [opsOf, hop, Op.operands]
  have hd : ∀ c, o.op ≠ .defer c := fun c => by simp [hop]
  -- both plain
  have plain : ∀ (p q : Value), ev T x = .v p → ev T y = .v q → (∀ cs, p ≠ .agg cs) → p ≠ .nilIface → (∃ s v, Kp s [] ∧ IsV s v ∧ ∀ w, (binOp op t p q).run P w = .ok v w) → Led r P o T M lo Kp Kg := fun p q hx hy h1 h2 ⟨s, v, hk, hsv, hrun⟩ => by
    refine led_p hk hd (fun E fp a w hrd _ => ⟨v, ?_, hsv.sat E w⟩)
    rw [hops] at hrd
    have e1 := ev_sat (E := E) (w := w) hrd (x := x) (by simp)
    have e2 := ev_sat (E := E) (w := w) hrd (x := y) (by simp)
    rw [hx] at e1; rw [hy] at e2
    have f1 : a.eval x = p := by generalize a.eval x = q at e1; cases e1; rfl
    have f2 : a.eval y = q := by generalize a.eval y = q at e2; cases e2; rfl
    refine exec_bin hop (by rw [f1]; exact h1) (by rw [f1]; exact h2) ?_
    rw [f1, f2]; exact hrun w
  -- a pointer or a function, against nil
  have nils : ∀ (c : Bool) (q : Value), ev T y = .v q → notNil op c (fun s => Kp s []) → (c = true → ∀ (E : Env) (w : World) (v : Value), Sat E w (ev T x) v → (∀ cs, v ≠ .agg cs) ∧ v ≠ .nilIface ∧
      ∀ w', (binOp .eql t v q).run P w' = .ok (.bool false) w' ∧ (binOp .neq t v q).run P w' = .ok (.bool true) w') → Led r P o T M lo Kp Kg := fun c q hy hn hv => by
    obtain ⟨hc, hn⟩ := notNil_spec hn
    have go : ∀ b, Kp (.v (.bool b)) [] → (∀ (v : Value) (w' : World), ((binOp .eql t v q).run P w' = .ok (.bool false) w' ∧ (binOp .neq t v q).run P w' = .ok (.bool true) w') → (binOp op t v q).run P w' = .ok (.bool b) w') → Led r P o T M lo Kp Kg := fun b hk hrun => by
      refine led_p hk hd (fun E fp a w hrd _ => ⟨.bool b, ?_, .v _⟩)
      rw [hops] at hrd
      have e1 := ev_sat (E := E) (w := w) hrd (x := x) (by simp)
      have e2 := ev_sat (E := E) (w := w) hrd (x := y) (by simp)
      rw [hy] at e2
      have f2 : a.eval y = q := by generalize a.eval y = q at e2; cases e2; rfl
      obtain ⟨g1, g2, g3⟩ := hv hc E w _ e1
      refine exec_bin hop g1 g2 ?_
      rw [f2]
      exact hrun _ w (g3 w)
    rcases hn with ⟨rfl, hk⟩ | ⟨rfl, hk⟩
    · exact go false hk (fun v w' h => h.1)
    · exact go true hk (fun v w' h => h.2)
  have ptrs : isPtrT P t = true → ∀ (p : Addr), (∀ cs, Value.pointer (some p) ≠ .agg cs) ∧ Value.pointer (some p) ≠ .nilIface ∧
      ∀ w', (binOp .eql t (.pointer (some p)) (.pointer none)).run P w' = .ok (.bool false) w' ∧ (binOp .neq t (.pointer (some p)) (.pointer none)).run P w' = .ok (.bool true) w' := fun hp p =>
    ⟨(fun _ e => by cases e), (fun e => by cases e), fun w' => ⟨by simp only [binOp]; rw [run_then (equal_ptr_nil hp p w')]; rfl, by simp only [binOp]; rw [run_then (equal_ptr_nil hp p w')]; rfl⟩⟩
  unfold binV at h
  split at h
  · rename_i p hx
    split at h
    · rename_i q hy
      split at h
      · rename_i k m
        split at h
        · rename_i k' n
          split at h
          · exact plain _ _ hx hy (fun _ e => by cases e) (fun e => by cases e) (shiftV_spec h)
          · exact plain _ _ hx hy (fun _ e => by cases e) (fun e => by cases e) (shiftV_spec h)
          · split at h
            · rename_i hk
              obtain rfl := eqK_eq hk
              exact plain _ _ hx hy (fun _ e => by cases e) (fun e => by cases e) (intV_spec (by assumption) (by assumption) h)
            · exact h.elim
        · exact h.elim
      · rename_i s
        split at h
        · exact plain _ _ hx hy (fun _ e => by cases e) (fun e => by cases e) (strV_spec h)
        · exact h.elim
      · exact h.elim
      · exact h.elim
      · rename_i hn1 hn2 hn3 hn4
        split at h
        · obtain ⟨s, v, h1, h2, h3⟩ := plain2_spec h
          exact plain _ _ hx hy (fun _ e => hn3 _ e) (fun e => hn4 e) ⟨s, v, h1, h2, h3⟩
        · obtain ⟨s, v, h1, h2, h3⟩ := plain2_spec h
          exact plain _ _ hx hy (fun _ e => hn3 _ e) (fun e => hn4 e) ⟨s, v, h1, h2, h3⟩
        · exact h.elim
    · exact h.elim
  · rename_i hx
    split at h
    · rename_i hy
      exact nils _ _ hy h (fun hc E w v hv => by rw [hx] at hv; cases hv; exact ptrs hc _)
    · exact h.elim
  · rename_i hx
    split at h
    · rename_i hy
      exact nils _ _ hy h (fun hc E w v hv => by rw [hx] at hv; cases hv; exact ptrs hc _)
    · exact h.elim
  · rename_i hx
    split at h
    · rename_i hy
      exact nils _ _ hy h (fun hc E w v hv => by rw [hx] at hv; cases hv; exact ptrs hc _)
    · exact h.elim
  · rename_i hx
    split at h
    · rename_i hy
      refine nils _ _ hy h (fun hc E w v hv => ?_)
      rw [hx] at hv
      cases hv with
      | func fn f c vf vc _ _ _ _ _ _ _ _ =>
        exact ⟨(fun _ e => by cases e), (fun e => by cases e), fun w' => ⟨by simp only [binOp]; rw [run_then (equal_func_nil hc _ _ _ w')]; rfl, by simp only [binOp]; rw [run_then (equal_func_nil hc _ _ _ w')]; rfl⟩⟩
    · exact h.elim
  · exact h.elim

/-! ### Elements -/

theorem run_asIntOf {k : IntKind} {i : Int} (w : World) : (asIntOf (.int k i)).run P w = .ok (k, i) w := rfl

theorem indexAt_slice {t e : TypeId} {n : Nat} {k : IntKind} {i : Int} {b o l c : Nat} (hu : P.underlying t = some (.slice e)) (hn : szOf P e = some n) (h0 : 0 ≤ i) (hl : i < l) (w : World) :
    (Instr.indexAt t (.slice (some ⟨b, o, none⟩) l c) (.int k i)).run P w = .ok (.pointer (some ⟨b, o + i.toNat * n, none⟩)) w := by
  unfold Instr.indexAt
  rw [run_then (run_asIntOf w)]
  dsimp only
  rw [run_then (run_underlying' hu w)]
  dsimp only
  have hf : ∀ (q : Nat × Option Addr × Nat × TypeId), True := fun _ => trivial
  simp only [Sem.run_bind, Sem.run_pure, Result.andThen, run_underlying' hu w, h0, hl, and_self, if_true, run_sizeOf hn w, add_none]

theorem indexAt_array {t e : TypeId} {len n : Nat} {k : IntKind} {i : Int} {b o : Nat} (hu : P.underlying t = some (.array len e)) (hn : szOf P e = some n) (h0 : 0 ≤ i) (hl : i < len) (w : World) :
    (Instr.indexAt t (.pointer (some ⟨b, o, none⟩)) (.int k i)).run P w = .ok (.pointer (some ⟨b, o + i.toNat * n, none⟩)) w := by
  unfold Instr.indexAt
  rw [run_then (run_asIntOf w)]
  dsimp only
  rw [run_then (run_underlying' hu w)]
  dsimp only
  simp only [Sem.run_bind, Sem.run_pure, Result.andThen, run_underlying' hu w, h0, hl, and_self, if_true, run_sizeOf hn w, add_none, Instr.sureAddr]

theorem led_indexAddr {t : TypeId} {x y : Operand} (hop : o.op = .indexAddr t x y) (h : match ev T y with
    | .v (.int _ ix) => match P.underlying t with
      | some (.slice e) => match ev T x with
        | .ro b ty xs => (match szOf P e with
          | some n => (match Nat.beq n ty.size with
            | true => Ask (0 ≤ ix ∧ ix < xs.length) (All' (fun e => xs[ix.toNat]? = some e) fun e => Kp (.rop b (enc ty e) 0) [])
            | false => False)
          | none => False)
        | .sl i => (match find M i with
          | .row te ty xs => (match szOf P e with
            | some n => (match Nat.beq n ty.size with
              | true => Ask (0 ≤ ix ∧ ix < xs.length) (Kp (.elp i n ix 0) [i])
              | false => False)
            | none => False)
          | _ => False)
        | .slc i o l c => (match szOf P e with
          | some n => Ask (0 ≤ ix ∧ ix < l) (Kp (.ptr i (o + ix.toNat * n)) [])
          | none => False)
        | .slv i sz l m => (match szOf P e with
          | some n => (match Nat.beq n sz with
            | true => Ask (0 ≤ ix ∧ ix < m) (Kp (.elp i n (l + ix) 0) [])
            | false => False)
          | none => False)
        | _ => False
      | some (.array len e) => match ev T x with
        | .ptr i off => (match szOf P e with
          | some n => Ask (0 ≤ ix ∧ ix < len) (Kp (.ptr i (off + ix.toNat * n)) [])
          | none => False)
        | .rop b cs off => (match szOf P e with
          | some n => Ask (0 ≤ ix ∧ ix < len) (Kp (.rop b cs (off + ix.toNat * n)) [])
          | none => False)
        | _ => False
      | _ => False
    | _ => False) : Led r P o T M lo Kp Kg := by
  have hops : opsOf o = opTmps [x, y] := by simp [opsOf, hop, Op.operands]
  have hd : ∀ c, o.op ≠ .defer c := fun c => by simp [hop]
  split at h
  · rename_i k ix hy
    have yv : ∀ (E : Env) (a : Act) (w : World), (∀ t, t ∈ opTmps [x, y] → Sat E w (look T t) (a.tmps.getD t undef)) → a.eval y = .int k ix := fun E a w hrd => by
      have e2 := ev_sat (E := E) (w := w) hrd (x := y) (by simp)
      rw [hy] at e2
      generalize a.eval y = q at e2; cases e2; rfl
    split at h
    · rename_i e hu
      split at h
      · rename_i b ty xs hx
        split at h
        · rename_i n hn
          split at h
          · rename_i hb
            have hsz := Nat.eq_of_beq_eq_true hb
            obtain ⟨⟨h0, hlt⟩, h⟩ := h
            have hlt' : ix.toNat < xs.length := by omega
            have h := h.h xs[ix.toNat] (by simp [hlt'])
            refine led_p h hd (fun E fp a w hrd _ => ?_)
            rw [hops] at hrd
            have e1 := ev_sat (E := E) (w := w) hrd (x := x) (by simp)
            have e2 := yv E a w hrd
            rw [hx] at e1
            generalize hxe : a.eval x = xv at e1
            cases e1 with
            | nil _ _ A c => simp at hlt'
            | ro _ _ _ k1 o1 c1 u hbk hle hc hs =>
              refine ⟨_, by simp only [execOp, hop, hxe, e2]; exact ok_value (indexAt_slice hu hn h0 (by omega) w), ?_⟩
              have hin : (ix.toNat + 1) * ty.size ≤ xs.length * ty.size := Nat.mul_le_mul_right _ hlt'
              rw [Nat.add_mul] at hin
              have hel := enc_length ty xs[ix.toNat]
              have := Sat.rop (E := E) (w := w) b (enc ty xs[ix.toNat]) 0 k1 (o1 + ix.toNat * n) (fun j => u (ix.toNat * ty.size + j)) hbk (fun j hj => by
                rw [hsz, Nat.add_assoc]; exact hc _ (by omega)) (fun j sv hj => hs ix.toNat xs[ix.toNat] j sv (by simp [hlt']) hj)
              simpa using this
          · exact h.elim
        · exact h.elim
      · rename_i i hx
        split at h
        · rename_i te ty xs hf
          split at h
          · rename_i n hn
            split at h
            · rename_i hb
              have hsz := Nat.eq_of_beq_eq_true hb
              obtain ⟨⟨h0, hlt⟩, h⟩ := h
              have hlt' : ix.toNat < xs.length := by omega
              refine led_p h hd (fun E fp a w hrd hents => ?_)
              rw [hops] at hrd
              have e1 := ev_sat (E := E) (w := w) hrd (x := x) (by simp)
              have e2 := yv E a w hrd
              rw [hx] at e1
              have hent := wf_block hents (List.mem_singleton.2 rfl)
              rw [hf] at hent
              obtain ⟨s', g0, g⟩ := hent
              generalize hxe : a.eval x = xv at e1
              cases e1 with
              | sl _ s hs =>
                obtain rfl := Option.some.inj (hs.symm.trans g0)
                rcases g with ⟨_, g2, _⟩ | ⟨o2, c2, arr, fz, g1, g2, g3, g4, g5, g6, g7⟩
                · subst g2; simp at hlt'
                · rw [g1] at hxe
                  exact ⟨_, by simp only [execOp, hop, hxe, e2]; exact ok_value (indexAt_slice hu hn h0 (by omega) w), .elp i n ix 0 s hs o2 _ _ g1⟩
            · exact h.elim
          · exact h.elim
        · exact h.elim
      · rename_i i o1 l c hx
        split at h
        · rename_i n hn
          obtain ⟨⟨h0, hlt⟩, h⟩ := h
          refine led_p h hd (fun E fp a w hrd _ => ?_)
          rw [hops] at hrd
          have e1 := ev_sat (E := E) (w := w) hrd (x := x) (by simp)
          have e2 := yv E a w hrd
          rw [hx] at e1
          generalize hxe : a.eval x = xv at e1
          cases e1 with
          | slc _ _ _ _ s hs => exact ⟨_, by simp only [execOp, hop, hxe, e2]; exact ok_value (indexAt_slice hu hn h0 (by omega) w), .ptr i _ s hs⟩
        · exact h.elim
      · rename_i i sz l m hx
        split at h
        · rename_i n hn
          split at h
          · rename_i hb
            obtain rfl := Nat.eq_of_beq_eq_true hb
            obtain ⟨⟨h0, hlt⟩, h⟩ := h
            refine led_p h hd (fun E fp a w hrd _ => ?_)
            rw [hops] at hrd
            have e1 := ev_sat (E := E) (w := w) hrd (x := x) (by simp)
            have e2 := yv E a w hrd
            rw [hx] at e1
            generalize hxe : a.eval x = xv at e1
            cases e1 with
            | slv _ _ _ _ s hs o m' c c' A hv hlo hn' hm hA =>
              obtain rfl := hA.resolve_left (by omega)
              refine ⟨_, by simp only [execOp, hop, hxe, e2]; exact ok_value (indexAt_slice hu hn h0 (by omega) w), ?_⟩
              have := Sat.elp (E := E) (w := w) i n (l + ix) 0 s hs o m' c hv
              have e3 : (l + ix).toNat = l.toNat + ix.toNat := by omega
              rw [e3, Nat.add_mul, Nat.add_zero, ← Nat.add_assoc] at this
              exact this
          · exact h.elim
        · exact h.elim
      · exact h.elim
    · rename_i len e hu
      split at h
      · rename_i i off hx
        split at h
        · rename_i n hn
          obtain ⟨⟨h0, hlt⟩, h⟩ := h
          refine led_p h hd (fun E fp a w hrd _ => ?_)
          rw [hops] at hrd
          have e1 := ev_sat (E := E) (w := w) hrd (x := x) (by simp)
          have e2 := yv E a w hrd
          rw [hx] at e1
          generalize hxe : a.eval x = xv at e1
          cases e1 with
          | ptr _ _ s hs => exact ⟨_, by simp only [execOp, hop, hxe, e2]; exact ok_value (indexAt_array hu hn h0 (by omega) w), .ptr i _ s hs⟩
        · exact h.elim
      · rename_i b cs off hx
        split at h
        · rename_i n hn
          obtain ⟨⟨h0, hlt⟩, h⟩ := h
          refine led_p h hd (fun E fp a w hrd _ => ?_)
          rw [hops] at hrd
          have e1 := ev_sat (E := E) (w := w) hrd (x := x) (by simp)
          have e2 := yv E a w hrd
          rw [hx] at e1
          generalize hxe : a.eval x = xv at e1
          cases e1 with
          | rop _ _ _ k1 o1 u hb hc hs =>
            refine ⟨_, by simp only [execOp, hop, hxe, e2]; exact ok_value (indexAt_array hu hn h0 (by omega) w), ?_⟩
            have := Sat.rop (E := E) (w := w) b cs (off + ix.toNat * n) k1 o1 u hb hc hs
            rw [← Nat.add_assoc] at this
            exact this
        · exact h.elim
      · exact h.elim
    · exact h.elim
  · exact h.elim

/-! ### Calls -/

theorem isSliceT_spec {t : TypeId} (h : isSliceT P t = true) : ∃ e, P.underlying t = some (.slice e) := by
  unfold isSliceT at h
  split at h
  · rename_i e hu; exact ⟨e, hu⟩
  · cases h

theorem plain_args {E : Env} {w : World} {a : Act} {l : Array Operand} (vs : List Value) (h : mapEv T l.toList = vs.map SV.v) (hrd : ∀ t, t ∈ opTmps l.toList → Sat E w (look T t) (a.tmps.getD t undef)) :
    l.map a.eval = vs.toArray := by
  obtain ⟨a1, a2, a3⟩ := map_sat (T := T) hrd
  have hlen : (mapEv T l.toList).length = vs.length := by rw [h]; simp
  refine Array.ext (by simp at a1 ⊢; omega) (fun j h1 h2 => ?_)
  have hj : j < vs.length := by simpa using h2
  have hs := a3 j (.v vs[j]) (by rw [h]; simp [hj])
  have hg := a2 j (by omega)
  generalize hq : (l.map a.eval).getD j undef = q at hs hg
  cases hs
  have : (l.map a.eval)[j]? = some vs[j] := hg
  rw [Array.getElem?_eq_getElem h1] at this
  simpa using Option.some.inj this

theorem led_blt {c : Call} {b : Builtin} (hop : o.op = .call c) (hc : c.callee = .builtin b) (h : bltV P b c.argTypes.toList (mapEv T c.args.toList) M Kp) : Led r P o T M lo Kp Kg := by
  have hops : opsOf o = opTmps c.args.toList := by simp [opsOf, hop, Op.operands, Call.operands, hc]
  have hd : ∀ c, o.op ≠ .defer c := fun c => by simp [hop]
  have hexec : ∀ (a : Act) (w w' : World) (v : Value), (builtin b c.argTypes o.type (c.args.map fun | .const _ => true | _ => false) (c.args.map a.eval)).run P w = .ok (.value v) w' → (execOp a.eval o).run P w = .ok (.value v) w' := fun a w w' v h1 => by
    simp only [execOp, hop, resolve, hc]
    exact h1
  -- a lone argument
  have arg1 : ∀ (s : SV) (t : TypeId), mapEv T c.args.toList = [s] → c.argTypes.toList = [t] → ∃ x, c.args = #[x] ∧ c.argTypes = #[t] ∧ ev T x = s := fun s t h1 h2 => by
    have h3 : c.argTypes = #[t] := by rw [← Array.toArray_toList (xs := c.argTypes), h2]
    cases hl : c.args.toList with
    | nil => rw [hl] at h1; simp [mapEv] at h1
    | cons x l =>
      cases l with
      | nil =>
        rw [hl] at h1
        refine ⟨x, by rw [← Array.toArray_toList (xs := c.args), hl], h3, by simpa [mapEv] using h1⟩
      | cons y l => rw [hl] at h1; simp [mapEv] at h1
  unfold bltV at h
  split at h
  · -- len
    have lenS : ∀ (S : List Nat) (s : SV) (t : TypeId) (n : Nat), mapEv T c.args.toList = [s] → c.argTypes.toList = [t] → isSliceT P t = true →
        (∀ (E : Env) (fp : Nat → Nat → Prop) (w : World) (v : Value), EntsSat E w fp (sub M S) → Sat E w s v → ∃ a k, v = .slice a n k) → Kp (.v (.int .i64 n)) S → Led r P o T M lo Kp Kg := fun S s t n h1 h2 h3 h4 hk => by
      obtain ⟨x, ha, ht, hx⟩ := arg1 s t h1 h2
      obtain ⟨e, hu⟩ := isSliceT_spec h3
      refine led_p hk hd (fun E fp a w hrd hents => ⟨_, ?_, .v _⟩)
      rw [hops, ha] at hrd
      have e1 := ev_sat (E := E) (w := w) hrd (x := x) (by simp)
      rw [hx] at e1
      obtain ⟨q, k, hv⟩ := h4 E fp w _ hents e1
      refine hexec a w w _ ?_
      rw [ha, ht]
      simp only [builtin, List.map_toArray, List.map_cons, List.map_nil, hv]
      refine ok_value ?_
      simp only [Builtin.len_]
      simp only [List.getElem?_toArray, List.getElem?_cons_zero]
      rw [run_then (run_underlying' hu w)]
      rfl
    split at h
    · rename_i s t h1 h2
      split at h
      · rename_i hu
        obtain ⟨x, ha, ht, hx⟩ := arg1 _ _ h1 h2
        refine led_p h hd (fun E fp a w hrd hents => ⟨_, ?_, .v _⟩)
        rw [hops, ha] at hrd
        have e1 := ev_sat (E := E) (w := w) hrd (x := x) (by simp)
        rw [hx] at e1
        have hv : a.eval x = .string s := by generalize a.eval x = q at e1; cases e1; rfl
        refine hexec a w w _ ?_
        rw [ha, ht]
        simp only [builtin, List.map_toArray, List.map_cons, List.map_nil, hv]
        refine ok_value ?_
        simp only [Builtin.len_, List.getElem?_toArray, List.getElem?_cons_zero]
        rw [run_then (run_underlying' hu w)]
        rfl
      · exact h.elim
    · rename_i b ty xs t h1 h2
      split at h
      · rename_i h3
        refine lenS [] _ _ _ h1 h2 h3 (fun E fp w v _ hv => ?_) h
        cases hv with
        | nil _ _ A c => exact ⟨A, c, rfl⟩
        | ro _ _ _ k1 o1 c1 u hbk hle hc hs => exact ⟨_, _, rfl⟩
      · exact h.elim
    · rename_i h1 h2
      split at h
      · rename_i h3
        refine lenS [] _ _ _ h1 h2 h3 (fun E fp w v _ hv => ?_) h
        cases hv with
        | slc _ _ _ _ s hs => exact ⟨_, _, rfl⟩
      · exact h.elim
    · rename_i i sz l n t h1 h2
      split at h
      · rename_i h3
        obtain ⟨x, ha, ht, hx⟩ := arg1 _ t h1 h2
        obtain ⟨e, hu⟩ := isSliceT_spec h3
        refine led_p h hd (fun E fp a w hrd hents => ⟨_, ?_, .v _⟩)
        rw [hops, ha] at hrd
        have e1 := ev_sat (E := E) (w := w) hrd (x := x) (by simp)
        rw [hx] at e1
        obtain ⟨q, k, hv, hn0⟩ : ∃ q k, a.eval x = .slice q n.toNat k ∧ 0 ≤ n := by
          generalize a.eval x = v at e1
          cases e1 with
          | slv _ _ _ _ s hs o m' c c' A hv hlo hn' hm hA => exact ⟨_, _, rfl, hn'⟩
        refine hexec a w w _ ?_
        rw [ha, ht]
        simp only [builtin, List.map_toArray, List.map_cons, List.map_nil, hv]
        refine ok_value ?_
        simp only [Builtin.len_]
        simp only [List.getElem?_toArray, List.getElem?_cons_zero]
        rw [run_then (run_underlying' hu w)]
        have e3 : ((n.toNat : Nat) : Int) = n := by omega
        show (pure (Value.int .i64 (n.toNat : Nat)) : Sem Value).run P w = _
        rw [e3]; rfl
      · exact h.elim
    · rename_i h1 h2
      split at h
      · rename_i h3
        refine lenS [] _ _ 0 h1 h2 h3 (fun E fp w v _ hv => ?_) h
        cases hv
        exact ⟨_, _, rfl⟩
      · exact h.elim
    · rename_i i t h1 h2
      split at h
      · rename_i h3
        split at h
        · rename_i te ty xs hf
          refine lenS [i] _ _ _ h1 h2 h3 (fun E fp w v hents hv => ?_) h
          have hent := wf_block hents (List.mem_singleton.2 rfl)
          rw [hf] at hent
          obtain ⟨s', g0, g⟩ := hent
          cases hv with
          | sl _ s hs =>
            obtain rfl := Option.some.inj (hs.symm.trans g0)
            rcases g with ⟨g1, g2, _⟩ | ⟨o2, c2, arr, fz, g1, _⟩
            · subst g2; exact ⟨_, _, g1⟩
            · exact ⟨_, _, g1⟩
        · exact h.elim
      · exact h.elim
    · exact h.elim
  · -- max
    split at h
    · rename_i k a1 k' b1 hargs
      refine led_p h hd (fun E fp a w hrd hents => ⟨_, ?_, .v _⟩)
      rw [hops] at hrd
      refine hexec a w w _ ?_
      rw [plain_args [.int k a1, .int k' b1] hargs hrd]
      refine ok_value ?_
      simp only [Builtin.max_, List.foldlM_cons, List.foldlM_nil, Builtin.max2]
      rw [run_then (show (pure (Value.int k (if b1 > a1 then b1 else a1)) : Sem Value).run P w = .ok _ w from rfl)]
      rw [show (if b1 > a1 then b1 else a1) = max a1 b1 by split <;> omega]
      rfl
    · rename_i k a1 k' b1 k'' c1 hargs
      refine led_p h hd (fun E fp a w hrd hents => ⟨_, ?_, .v _⟩)
      rw [hops] at hrd
      refine hexec a w w _ ?_
      rw [plain_args [.int k a1, .int k' b1, .int k'' c1] hargs hrd]
      refine ok_value ?_
      simp only [Builtin.max_, List.foldlM_cons, List.foldlM_nil, Builtin.max2]
      rw [run_then (show (pure (Value.int k (if b1 > a1 then b1 else a1)) : Sem Value).run P w = .ok _ w from rfl)]
      rw [show (if b1 > a1 then b1 else a1) = max a1 b1 by split <;> omega]
      simp only [Builtin.max2]
      rw [run_then (show (pure (Value.int k (if c1 > max a1 b1 then c1 else max a1 b1)) : Sem Value).run P w = .ok _ w from rfl)]
      rw [show (if c1 > max a1 b1 then c1 else max a1 b1) = max (max a1 b1) c1 by split <;> omega]
      rfl
    · exact h.elim
  · -- min
    split at h
    · rename_i k a1 k' b1 hargs
      refine led_p h hd (fun E fp a w hrd hents => ⟨_, ?_, .v _⟩)
      rw [hops] at hrd
      refine hexec a w w _ ?_
      rw [plain_args [.int k a1, .int k' b1] hargs hrd]
      refine ok_value ?_
      simp only [Builtin.min_, List.foldlM_cons, List.foldlM_nil, Builtin.min2]
      rw [run_then (show (pure (Value.int k (if b1 < a1 then b1 else a1)) : Sem Value).run P w = .ok _ w from rfl)]
      rw [show (if b1 < a1 then b1 else a1) = min a1 b1 by split <;> omega]
      rfl
    · rename_i k a1 k' b1 k'' c1 hargs
      refine led_p h hd (fun E fp a w hrd hents => ⟨_, ?_, .v _⟩)
      rw [hops] at hrd
      refine hexec a w w _ ?_
      rw [plain_args [.int k a1, .int k' b1, .int k'' c1] hargs hrd]
      refine ok_value ?_
      simp only [Builtin.min_, List.foldlM_cons, List.foldlM_nil, Builtin.min2]
      rw [run_then (show (pure (Value.int k (if b1 < a1 then b1 else a1)) : Sem Value).run P w = .ok _ w from rfl)]
      rw [show (if b1 < a1 then b1 else a1) = min a1 b1 by split <;> omega]
      simp only [Builtin.min2]
      rw [run_then (show (pure (Value.int k (if c1 < min a1 b1 then c1 else min a1 b1)) : Sem Value).run P w = .ok _ w from rfl)]
      rw [show (if c1 < min a1 b1 then c1 else min a1 b1) = min (min a1 b1) c1 by split <;> omega]
      rfl
    · exact h.elim
  · -- cap of nil
    split at h
    · rename_i h1 h2
      split at h
      · rename_i h3
        obtain ⟨x, ha, ht, hx⟩ := arg1 _ _ h1 h2
        obtain ⟨e, hu⟩ := isSliceT_spec h3
        refine led_p h hd (fun E fp a w hrd hents => ⟨_, ?_, .v _⟩)
        rw [hops, ha] at hrd
        have e1 := ev_sat (E := E) (w := w) hrd (x := x) (by simp)
        rw [hx] at e1
        have hv : a.eval x = .slice none 0 0 := by generalize a.eval x = q at e1; cases e1; rfl
        refine hexec a w w _ ?_
        rw [ha, ht]
        simp only [builtin, List.map_toArray, List.map_cons, List.map_nil, hv]
        refine ok_value ?_
        simp only [Builtin.cap_, List.getElem?_toArray, List.getElem?_cons_zero]
        rw [run_then (run_underlying' hu w)]
        rfl
      · exact h.elim
    · exact h.elim
  · exact h.elim

theorem plain_sat {E : Env} {w : World} {x : Operand} {v : Value} (h : Sat E w (ev T x) v) (hp : (match ev T x with | .v _ => true | .func _ [] [] => true | _ => false) = true) : v = plainE T x := by
  unfold plainE
  generalize ev T x = s at h hp
  cases h with
  | v x => rfl
  | func fn f c vf vc uf uc hf hc huf huc hsf hsc =>
    cases f with
    | nil =>
      cases c with
      | nil =>
        obtain rfl : vf = #[] := Array.eq_empty_of_size_eq_zero (by simpa using hf)
        obtain rfl : vc = #[] := Array.eq_empty_of_size_eq_zero (by simpa using hc)
        rfl
      | cons a l => cases hp
    | cons a l => cases hp
  | _ => cases hp
theorem allPlain_spec : ∀ {l : List Operand}, allPlain T l = true → ∀ x, x ∈ l → (match ev T x with | .v _ => true | .func _ [] [] => true | _ => false) = true
  | [], _, x, hx => by cases hx
  | y :: l, h, x, hx => by
    simp only [allPlain] at h
    split at h
    · rename_i v hv
      rcases List.mem_cons.1 hx with rfl | hx'
      · rw [hv]
      · exact allPlain_spec h x hx'
    · rename_i fn hv
      rcases List.mem_cons.1 hx with rfl | hx'
      · rw [hv]
      · exact allPlain_spec h x hx'
    · cases h
theorem evR_sat {E : Env} {w : World} (v : Value) : Sat E w (evR v) v := by
  cases v with
  | tuple vs =>
    refine .tuple _ vs (fun j => vs.getD j undef) (by simp) (fun j hj => ?_) (fun j sv hj => ?_)
    · have : j < vs.size := by simpa using hj
      simp [this]
    · obtain ⟨x, h1, rfl⟩ := list_sat_v (E := E) (w := w) hj
      have hlt : j < vs.size := by
        have := (List.getElem?_eq_some_iff.1 h1).1; simpa using this
      have : vs.getD j undef = x := by
        have h2 : vs.toList[j]? = some x := h1
        simp only [Array.getElem?_toList] at h2
        simp [Array.getD_eq_getD_getElem?, h2]
      rw [this]; exact .v _
  | agg cs => exact evC_sat (.agg cs)
  | _ => exact .v _

theorem led_gen (hs : ∀ cs b, o.op ≠ .select cs b) (hd : ∀ c, o.op ≠ .defer c) (h : genV P o T fun s => Kp s []) : Led r P o T M lo Kp Kg := by
  unfold genV at h
  split at h
  · rename_i hall
    split at h
    · rename_i v hv
      refine led_p h hd (fun E fp a w hrd _ => ⟨v, ?_, evR_sat v⟩)
      have heq : execOp a.eval o = execOp (plainE T) o := execOp_congr o hs (fun x hx => by
        have h1 := ev_sat (E := E) (w := w) (T := T) (a := a) (l := o.op.operands.toList) hrd (x := x) (by simpa using hx)
        exact plain_sat h1 (allPlain_spec hall x (by simpa using hx)))
      rw [heq]
      exact pureP_run _ _ hv
    · exact h.elim
  · exact h.elim

theorem led_call {c : Call} {f : Operand} (hG : Known P G) (hop : o.op = .call c) (hc : c.callee = .value f) (h : match ev T f with
      | .func (.func g) [] cap => match G g with
        | some C => CallP C (mapEv T c.args.toList ++ cap) M lo Kg
        | none => genV P o T fun s => Kp s []
      | _ => False) : Led r P o T M lo Kp Kg := by
  have hops : opsOf o = opTmps (f :: c.args.toList) := by simp [opsOf, hop, Op.operands, Call.operands, hc]
  have hd : ∀ c, o.op ≠ .defer c := fun c => by simp [hop]
  split at h
  · rename_i g cap hf
    split at h
    · rename_i C hgC
      obtain ⟨x, h⟩ := h
      have vls : ∀ (E : Env) (w : World) (a : Act), (∀ t, t ∈ opTmps (f :: c.args.toList) → Sat E w (look T t) (a.tmps.getD t undef)) → ∃ vals : Array Value, vals.size = (mapEv T c.args.toList ++ cap).length ∧
          (∀ (j : Nat) (s : SV), (mapEv T c.args.toList ++ cap)[j]? = some s → Sat E w s (vals.getD j undef)) ∧ (execOp a.eval o).run P w = (callFunc g vals).run P w := fun E w a hrd => by
        have e1 := ev_sat (E := E) (w := w) hrd (x := f) (List.mem_cons_self ..)
        rw [hf] at e1
        generalize hfe : a.eval f = fv at e1
        cases e1 with
        | func _ _ _ vf vc uf uc hlf hlc huf huc hsf hsc =>
          have hvf : vf = #[] := Array.eq_empty_of_size_eq_zero (by simpa using hlf)
          subst hvf
          obtain ⟨a1, a2, a3⟩ := map_sat (T := T) (E := E) (w := w) (a := a) (l := c.args) (fun t ht => hrd t (by
            show t ∈ opTmps ([f] ++ c.args.toList)
            rw [opTmps_append]; exact List.mem_append_right _ ht))
          refine ⟨c.args.map a.eval ++ vc, by simp only [Array.size_append, List.length_append]; omega, fun j s hj => ?_, ?_⟩
          · rcases Nat.lt_or_ge j (mapEv T c.args.toList).length with hlt | hge
            · rw [List.getElem?_append_left hlt] at hj
              have : (c.args.map a.eval ++ vc).getD j undef = (c.args.map a.eval).getD j undef := by
                have hlt' : j < (c.args.map a.eval).size := by omega
                simp only [Array.getD_eq_getD_getElem?]
                rw [Array.getElem?_append_left hlt']
              rw [this]; exact a3 j s hj
            · rw [List.getElem?_append_right hge] at hj
              have hlt2 := (List.getElem?_eq_some_iff.1 hj).1
              have : (c.args.map a.eval ++ vc).getD j undef = uc (j - (mapEv T c.args.toList).length) := by
                simp only [Array.getD_eq_getD_getElem?]
                rw [Array.getElem?_append_right (by omega), a1, huc _ hlt2]
                rfl
              rw [this]; exact hsc _ s hj
          · simp only [execOp, hop, resolve, hc, hfe, Deferred.ofValue]
            rw [run_then (show (pure { target := Target.fn (Fn.func g) vc, args := #[] ++ c.args.map a.eval } : Sem Deferred).run P w = .ok _ w from rfl)]
            simp only [invoke, Array.empty_append]
      rcases hG g C hgC with ⟨hok, hcall⟩ | ⟨_, hok⟩
      case inr =>
        obtain ⟨out, S, ci, eo, hk, hci, hsem⟩ := call_goodV hok h
        refine .inr ⟨out, S, ci, eo, hk, hci, fun E fp a w hrd hents hfr => ?_⟩
        rw [hops] at hrd
        obtain ⟨vals, v1, v2, v3⟩ := vls E w a hrd
        obtain ⟨v, hv, E', fp', q1, q2, q3, q4⟩ := hsem E fp w vals v1 v2 hents hfr
        exact OpRun.value hd (v3.trans hv) ⟨E', fp', q1, q2, q3, q4⟩
      obtain ⟨out, S, ci, eo, hk, hci, hsem⟩ := call_good hok h
      refine .inr ⟨out, S, ci, eo, hk, hci, fun E fp a w hrd hents hfr => ?_⟩
      rw [hops] at hrd
      obtain ⟨vals, v1, v2, v3⟩ := vls E w a hrd
      refine OpRun.enter hd (w' := w) (f := g) (args := vals) (v3.trans (hcall _ w)) ?_
      refine CallsIn.mono (hsem E fp w vals v1 v2 hents hfr) ?_
      rintro e w' ⟨v, rfl, E', fp', q1, q2, q3, q4⟩
      exact ⟨v, rfl, E', fp', q1, q2, q3, q4⟩
    · exact led_gen (fun cs b => by simp [hop]) hd h
  · exact h.elim

end
end Go.Eng

/-! The engine, part K: append. -/
set_option linter.unusedVariables false
namespace Go.Eng
variable [DM]
set_option linter.unusedSectionVars false

theorem flatF_mem {α : Type} {f : α → List SV} {s : SV} : ∀ {l : List α}, s ∈ flatF f l → ∃ a, a ∈ l ∧ s ∈ f a
  | [], h => by cases h
  | a :: l, h => by
    rcases List.mem_append.1 h with h | h
    · exact ⟨a, List.mem_cons_self .., h⟩
    · obtain ⟨b, h1, h2⟩ := flatF_mem h
      exact ⟨b, List.mem_cons_of_mem _ h1, h2⟩

theorem enc_scal : ∀ (t : Ty) (x : t.den) (s : SV), s ∈ enc t x → scalB s = true
  | .int k, x, s, h => by obtain rfl := List.mem_singleton.1 h; rfl
  | .bool, x, s, h => by obtain rfl := List.mem_singleton.1 h; rfl
  | .str, x, s, h => by obtain rfl := List.mem_singleton.1 h; rfl
  | .unit, x, s, h => by cases h
  | .sl t, x, s, h => by obtain rfl := List.mem_singleton.1 h; rfl
  | .pair a b, x, s, h => by
    rcases List.mem_append.1 h with h | h
    · exact enc_scal a _ s h
    · exact enc_scal b _ s h
  | .arr n t, f, s, h => by
    obtain ⟨i, _, h2⟩ := flatF_mem h
    exact enc_scal t _ s h2

theorem CellsAre.append {E : Env} {w : World} {a b : List SV} {l m : List Value} (h : CellsAre E w a l) (k : CellsAre E w b m) : CellsAre E w (a ++ b) (l ++ m) := by
  refine ⟨by simp [h.1, k.1], fun j s hj => ?_⟩
  rcases Nat.lt_or_ge j a.length with hlt | hge
  · rw [List.getElem?_append_left hlt] at hj
    rw [List.getElem?_append_left (by rw [h.1]; exact hlt)]
    exact h.2 j s hj
  · rw [List.getElem?_append_right hge] at hj
    rw [List.getElem?_append_right (by rw [h.1]; exact hge), h.1]
    exact k.2 _ s hj

/-- A better spelling of cells. -/
def Spells (l l' : List SV) : Prop := ∀ (E : Env) (w : World) (vs : List Value), CellsAre E w l vs → CellsAre E w l' vs
theorem Spells.refl (l : List SV) : Spells l l := fun _ _ _ h => h
theorem Spells.trans {a b c : List SV} (h : Spells a b) (k : Spells b c) : Spells a c := fun E w vs x => k E w vs (h E w vs x)
theorem Spells.cons {s s' : SV} {l l' : List SV} (h : ∀ (E : Env) (w : World) (v : Value), Sat E w s v → Sat E w s' v) (k : Spells l l') : Spells (s :: l) (s' :: l') := fun E w vs hv => by
  cases vs with
  | nil => exact absurd hv.1 (by simp)
  | cons v vs =>
    have hk := k E w vs ⟨by simpa using hv.1, fun j s hj => hv.2 (j + 1) s (by simpa using hj)⟩
    refine ⟨by simpa using hk.1, fun j t hj => ?_⟩
    cases j with
    | zero =>
      obtain rfl : s' = t := by simpa using hj
      obtain ⟨u, hu, hs⟩ := hv.2 0 s rfl
      exact ⟨u, by simpa using hu, h E w u hs⟩
    | succ j => simpa using hk.2 j t (by simpa using hj)
theorem Spells.app {a : List SV} {l l' : List SV} (k : Spells l l') : Spells (a ++ l) (a ++ l') := by
  induction a with
  | nil => exact k
  | cons s a ih => exact Spells.cons (fun _ _ _ h => h) ih

theorem dec_spec : ∀ (t : Ty) (l : List SV) (x : t.den) (r : List SV), dec t l = some (x, r) → Spells l (enc t x ++ r)
  | .int k, l, x, r, h => by
    cases l with
    | nil => simp [dec] at h
    | cons s l =>
      simp only [dec] at h
      split at h
      · rename_i k' n l2 heq
        split at h
        · rename_i hk
          obtain rfl := eqK_eq hk
          obtain ⟨rfl, rfl⟩ : n = x ∧ l2 = r := by simpa using h
          rw [heq]; exact .refl _
        · cases h
      · cases h
  | .bool, l, x, r, h => by
    cases l with
    | nil => simp [dec] at h
    | cons s l =>
      simp only [dec] at h
      split at h
      · rename_i n l2 heq
        obtain ⟨rfl, rfl⟩ : n = x ∧ l2 = r := by simpa using h
        rw [heq]; exact .refl _
      · cases h
  | .str, l, x, r, h => by
    cases l with
    | nil => simp [dec] at h
    | cons s l =>
      simp only [dec] at h
      split at h
      · rename_i n l2 heq
        obtain ⟨rfl, rfl⟩ : n = x ∧ l2 = r := by simpa using h
        rw [heq]; exact .refl _
      · cases h
  | .unit, l, x, r, h => by
    obtain ⟨_, rfl⟩ : True ∧ l = r := by simpa [dec] using h
    exact .refl _
  | .sl t, l, x, r, h => by
    cases l with
    | nil => simp [dec] at h
    | cons s l =>
      simp only [dec] at h
      split at h
      · rename_i t' xs l2 heq
        split at h
        · rename_i hh _
          obtain ⟨he⟩ := hh
          subst he
          obtain ⟨rfl, rfl⟩ : xs = x ∧ l2 = r := by simpa using h
          rw [heq]; exact .refl _
        · cases h
      · rename_i l2 heq
        obtain ⟨rfl, rfl⟩ : [] = x ∧ l2 = r := by simpa using h
        rw [heq]
        exact Spells.cons (fun E w v hv => by cases hv; exact .nil false t _ _) (.refl _)
      · cases h
  | .pair a b, l, x, r, h => by
    simp only [dec] at h
    split at h
    · rename_i y l1 h1
      split at h
      · rename_i z l2 h2
        obtain ⟨rfl, rfl⟩ : (y, z) = x ∧ l2 = r := by simpa using h
        have s1 := dec_spec a l y l1 h1
        have s2 := dec_spec b l1 z l2 h2
        have := s1.trans (Spells.app (a := enc a y) s2)
        simpa [enc] using this
      · cases h
    · cases h
  | .arr n t, l, x, r, h => by
    have key : ∀ (n : Nat) (l : List SV) (f : Fin n → t.den) (r : List SV), decA (dec t) n l = some (f, r) → Spells l (flatF (fun i => enc t (f i)) (idx n) ++ r) := by
      intro n
      induction n with
      | zero =>
        intro l f r h
        obtain ⟨_, rfl⟩ : True ∧ l = r := by
          simp only [decA, Option.some.injEq, Prod.mk.injEq] at h
          exact ⟨trivial, h.2⟩
        exact .refl _
      | succ n ih =>
        intro l f r h
        simp only [decA] at h
        split at h
        · rename_i y l1 h1
          split at h
          · rename_i g l2 h2
            obtain ⟨rfl, rfl⟩ : consF y g = f ∧ l2 = r := by simpa using h
            have s1 := dec_spec t l y l1 h1
            have s2 := ih l1 g l2 h2
            have := s1.trans (Spells.app (a := enc t y) s2)
            have e : flatF (fun i => enc t (consF y g i)) (idx (n + 1)) = enc t y ++ flatF (fun i => enc t (g i)) (idx n) := by
              have e2 : ∀ l : List (Fin n), flatF (fun i => enc t (consF y g i)) (l.map Fin.succ) = flatF (fun i => enc t (g i)) l := by
                intro l
                induction l with
                | nil => rfl
                | cons a l ih => simp only [List.map_cons, flatF, ih]; rfl
              simp only [idx, flatF, e2]
              rfl
            rw [e, List.append_assoc]
            exact this
          · cases h
        · cases h
    exact key n l x r h

theorem decL_spec (t : Ty) : ∀ (n : Nat) (l : List SV) (xs : List t.den), decL t n l = some xs → xs.length = n ∧ Spells l (flatF (enc t) xs)
  | 0, l, xs, h => by
    cases l with
    | nil =>
      obtain rfl : [] = xs := by simpa [decL] using h
      exact ⟨rfl, .refl _⟩
    | cons s l => simp [decL] at h
  | n + 1, l, xs, h => by
    simp only [decL] at h
    split at h
    · rename_i x l1 h1
      split at h
      · rename_i ys h2
        obtain rfl : x :: ys = xs := by simpa using h
        obtain ⟨a1, a2⟩ := decL_spec t n l1 ys h2
        exact ⟨by simp [a1], (dec_spec t l x l1 h1).trans (Spells.app a2)⟩
      · cases h
    · cases h

section
variable {r : Option Nat} {P : Program} {G : Nat → Option Ctr} {o : Oper} {T : Tm} {M : En} {lo : Nat} {Kp : SV → List Nat → Prop} {Kg : SV → List Nat → List Nat → En → Prop}

theorem firstCells_some {k o : Nat} {size n c : Nat} {u : Nat → Value} {w : World} (h : ∀ m, m < n * size → w.cell? ⟨k, o + m, none⟩ = some (u m)) :
    ∃ vs, (∀ w', w'.heap = w.heap → (Builtin.firstCells size n (.slice (some ⟨k, o, none⟩) n c)).run P w' = .ok vs w') ∧ vs.toList = (List.range (n * size)).map u := by
  refine ⟨((List.range (n * size)).map u).toArray, fun w' hw => ?_, by simp⟩
  obtain ⟨vs, h1, h2, _, h4⟩ := run_loadCellsFrom (P := P) (w := w') (k := k) (o := o) (u := u) (n * size) 0 #[] (fun j hj => by
    have := h j hj
    unfold World.cell? at this ⊢
    rw [hw]; simpa using this)
  have e : vs = ((List.range (n * size)).map u).toArray := by
    refine Array.toList_inj.1 (List.ext_getElem? fun j => ?_)
    by_cases hj : j < n * size
    · have := h4 j hj
      simp only [List.size_toArray, List.length_nil, Nat.zero_add] at this
      rw [Array.getElem?_toList, this]
      simp [hj]
    · rw [List.getElem?_eq_none (by simp at h2 ⊢; omega), List.getElem?_eq_none (by simp; omega)]
  rw [← e]; exact h1

theorem range_cells {E : Env} {w : World} {cs : List SV} {u : Nat → Value} {n : Nat} (hn : cs.length = n) (h : ∀ (j : Nat) (s : SV), cs[j]? = some s → Sat E w s (u j)) : CellsAre E w cs ((List.range n).map u) :=
  ⟨by simp [hn], fun j s hj => ⟨u j, by
    have := (List.getElem?_eq_some_iff.1 hj).1
    have hlt : j < n := by omega
    simp [hlt], h j s hj⟩⟩

/-- What is appended lies there. -/
theorem srcV_spec {t : Ty} {x : SV} {K : List t.den → List Nat → Prop} (h : srcV M t x K) : ∃ ys S, K ys S ∧
    ∀ (E : Env) (fp : Nat → Nat → Prop) (w : World) (v : Value), (∀ i, i ∈ S → EntSat E w (fp i) i (find M i)) → Sat E w x v →
      ∃ a c cells, v = .slice a ys.length c ∧ (∀ w', w'.heap = w.heap → (Builtin.firstCells t.size ys.length v).run P w' = .ok cells w') ∧ CellsAre E w (flatF (enc t) ys) cells.toList := by
  have roCase : ∀ (E : Env) (w : World) (b : Bool) (ys : List t.den) (v : Value), Sat E w (.ro b t ys) v →
      ∃ a c cells, v = .slice a ys.length c ∧ (∀ w', w'.heap = w.heap → (Builtin.firstCells t.size ys.length v).run P w' = .ok cells w') ∧ CellsAre E w (flatF (enc t) ys) cells.toList := by
    intro E w b ys v hv
    cases hv with
    | nil _ _ A c =>
      cases A with
      | none => exact ⟨none, c, #[], rfl, fun _ _ => rfl, ⟨rfl, fun j s hj => by simp [flatF] at hj⟩⟩
      | some ad =>
        refine ⟨some ad, c, #[], rfl, fun w' _ => ?_, ⟨rfl, fun j s hj => by simp [flatF] at hj⟩⟩
        show (loadCells ad (0 * t.size)).run P w' = _
        rw [Nat.zero_mul]; rfl
    | ro _ _ _ k1 o1 c1 u hbk hle hc hs =>
      obtain ⟨vs, h1, h2⟩ := firstCells_some (P := P) (k := k1) (o := o1) (size := t.size) (n := ys.length) (c := c1) (u := u) (w := w) hc
      refine ⟨_, _, vs, rfl, h1, ?_⟩
      rw [h2]
      refine range_cells (by rw [flatF_length _ t.size (enc_length t)]) (fun j s hj => ?_)
      have hlt := (List.getElem?_eq_some_iff.1 hj).1
      rw [flatF_length _ t.size (enc_length t)] at hlt
      rcases Nat.eq_zero_or_pos t.size with hz | hpos
      · rw [hz] at hlt; omega
      · have hi : j / t.size < ys.length := (Nat.div_lt_iff_lt_mul hpos).2 hlt
        have hj2 : j = (j / t.size) * t.size + j % t.size := by rw [Nat.mul_comm]; exact (Nat.div_add_mod j t.size).symm
        have hm : j % t.size < t.size := Nat.mod_lt _ hpos
        have hg := flatF_get (enc t) t.size (enc_length t) ys (j / t.size) (j % t.size) ys[j / t.size] (by simp [hi]) hm
        rw [← hj2, hj] at hg
        have := hs (j / t.size) ys[j / t.size] (j % t.size) s (by simp [hi]) hg.symm
        rw [← hj2] at this
        exact this
  unfold srcV at h
  split at h
  · rename_i j o n c
    split at h
    · rename_i hble
      split at h
      · rename_i te cs hf
        split at h
        · rename_i l hcut
          split at h
          · rename_i ys hdec
            obtain ⟨d1, d2⟩ := decL_spec t n l ys hdec
            refine ⟨ys, [j], h, fun E fp w v hent hv => ?_⟩
            have he := hent j (List.mem_singleton.2 rfl)
            rw [hf] at he
            obtain ⟨s', arr, fz, e1, e2, e3, e4, e5, e6⟩ := he
            obtain ⟨c1, c2⟩ := cutS_spec cs o _ l hcut
            cases hv with
            | slc _ _ _ _ s hs =>
              obtain rfl := Option.some.inj (hs.symm.trans e1)
              subst d1
              have hsub : ∀ m, m < ys.length * t.size → ∃ u, arr[o + m]? = some u ∧ ∃ sv, l[m]? = some sv ∧ Sat E w sv u := fun m hm => by
                have h1 := c2 m hm
                have hlt : m < l.length := by omega
                rw [show l[m]? = some l[m] by simp [hlt]] at h1
                obtain ⟨u, hu, hsat⟩ := e6 _ _ h1
                exact ⟨u, hu, l[m], by simp [hlt], hsat⟩
              obtain ⟨vs, h1, h2⟩ := firstCells_some (P := P) (k := s.blk) (o := o) (size := t.size) (n := ys.length) (c := c) (u := fun m => arr.getD (o + m) undef) (w := w) (fun m hm => by
                obtain ⟨u, hu, _⟩ := hsub m hm
                rw [cell_of e3 hu]; simp [hu])
              refine ⟨_, _, vs, rfl, h1, ?_⟩
              rw [h2]
              refine d2 E w _ (range_cells c1 (fun m sv hm => ?_))
              have hlt := (List.getElem?_eq_some_iff.1 hm).1
              obtain ⟨u, hu, sv', g1, g2⟩ := hsub m (by omega)
              obtain rfl := Option.some.inj (hm.symm.trans g1)
              have : arr.getD (o + m) undef = u := by simp [hu]
              rw [this]; exact g2
          · exact h.elim
        · exact h.elim
      · exact h.elim
    · exact h.elim
  · rename_i b t' ys
    split at h
    · rename_i hh _
      obtain ⟨he⟩ := hh
      subst he
      exact ⟨_, [], h, fun E fp w v _ hv => roCase E w _ _ v hv⟩
    · exact h.elim
  · rename_i j
    split at h
    · rename_i te t' ys hf
      split at h
      · rename_i hh _
        obtain ⟨he⟩ := hh
        subst he
        refine ⟨_, [j], h, fun E fp w v hent hv => ?_⟩
        have he := hent j (List.mem_singleton.2 rfl)
        rw [hf] at he
        cases hv with
        | sl _ s hs =>
          have := row_ro (fp := fp) (m := []) (bs := [j]) (fs := []) (b := true) he hs (by simp)
          obtain ⟨a, c, cells, q1, q2, q3⟩ := roCase _ w true ys _ this
          refine ⟨a, c, cells, q1, q2, ⟨q3.1, fun k sv hk => ?_⟩⟩
          -- the cells' own names do not matter: data
          obtain ⟨s', g0, g⟩ := he
          obtain rfl := Option.some.inj (hs.symm.trans g0)
          have hlt := (List.getElem?_eq_some_iff.1 hk).1
          rw [flatF_length _ t'.size (enc_length t')] at hlt
          rcases g with ⟨_, gx, _⟩ | ⟨o2, c2, arr, fz, g1, g2, g3, g4, g5, g6, g7⟩
          · subst gx; simp at hlt
          · rcases Nat.eq_zero_or_pos t'.size with hz | hpos
            · rw [hz] at hlt; omega
            · have hi : k / t'.size < ys.length := (Nat.div_lt_iff_lt_mul hpos).2 hlt
              have hj2 : k = (k / t'.size) * t'.size + k % t'.size := by rw [Nat.mul_comm]; exact (Nat.div_add_mod k t'.size).symm
              have hm : k % t'.size < t'.size := Nat.mod_lt _ hpos
              have hg := flatF_get (enc t') t'.size (enc_length t') ys (k / t'.size) (k % t'.size) ys[k / t'.size] (by simp [hi]) hm
              rw [← hj2, hk] at hg
              obtain ⟨u, hu, hsat⟩ := g7 (k / t'.size) ys[k / t'.size] (k % t'.size) sv (by simp [hi]) hg.symm
              -- and it is that cell that was loaded
              have q2 := q2 w rfl
              rw [g1] at q2
              obtain ⟨vs, h1, h2⟩ := firstCells_some (P := P) (k := s.blk) (o := o2) (size := t'.size) (n := ys.length) (c := c2) (u := fun m => arr.getD (o2 + m) undef) (w := w) (fun m hm' => by
                have hle : ys.length * t'.size ≤ c2 * t'.size := Nat.mul_le_mul_right _ g5
                have hlt' : o2 + m < arr.size := by omega
                simp [World.cell?, g3, hlt'])
              rw [h1 w rfl] at q2
              obtain rfl : vs = cells := by simpa using q2
              refine ⟨u, ?_, hsat⟩
              rw [h2]
              have : arr[o2 + k]?.getD undef = u := by
                rw [Nat.add_assoc, ← hj2] at hu
                simp [hu]
              simp [hlt, this]
      · exact h.elim
    · exact h.elim
  · refine ⟨[], [], h, fun E fp w v _ hv => ?_⟩
    cases hv
    exact ⟨none, 0, #[], rfl, fun _ _ => rfl, ⟨rfl, fun j s hj => by simp [flatF] at hj⟩⟩
  · exact h.elim

/-- The same, of what is appended. -/
theorem srcA_spec {t : Ty} {x : SV} {K : List t.den → List Nat → Prop} (h : srcA M t x K) : ∃ ys S, K ys S ∧
    ∀ (E : Env) (fp : Nat → Nat → Prop) (w : World) (v : Value), (∀ i, i ∈ S → EntSat E w (fp i) i (find M i)) → Sat E w x v →
      ∃ cells, Builtin.lenOf v = pure ys.length ∧ (∀ w', w'.heap = w.heap → (Builtin.firstCells t.size ys.length v).run P w' = .ok cells w') ∧ CellsAre E w (flatF (enc t) ys) cells.toList := by
  unfold srcA at h
  split at h
  · rename_i s
    split at h
    · rename_i he _
      obtain ⟨he⟩ := he
      subst he
      refine ⟨_, [], h, fun E fp w v _ hv => ?_⟩
      cases hv
      have hlen : (s.data.toList.map fun b => ((b.toNat : Nat) : Int)).length = s.size := by
        show _ = s.data.size
        simp
      refine ⟨s.data.map fun b => .int .u8 b.toNat, by show pure s.size = _; rw [← hlen], fun w' _ => ?_, ?_⟩
      · show (pure ((s.extract 0 _).data.map fun b => Value.int .u8 b.toNat) : Sem (Array Value)).run P w' = _
        have e : s.extract 0 (List.length (s.data.toList.map fun b => ((b.toNat : Nat) : Int))) = s := by
          rw [hlen]
          apply ByteArray.ext
          simp
        have e2 : (s.extract 0 (List.length (α := (Ty.int .u8).den) (s.data.toList.map fun b => ((b.toNat : Nat) : Int)))) = s := e
        rw [e2]; rfl
      · refine ⟨by rw [flatF_length _ 1 (fun _ => rfl)]; simp, fun j sv hj => ?_⟩
        have hfl : flatF (enc (.int .u8)) (s.data.toList.map fun b => ((b.toNat : Nat) : Int)) = s.data.toList.map fun b => SV.v (.int .u8 b.toNat) := by
          generalize s.data.toList = l
          induction l with
          | nil => rfl
          | cons b l ih => exact congrArg (fun x => SV.v (.int .u8 b.toNat) :: x) ih
        have hj' : (s.data.toList.map fun b => SV.v (.int .u8 b.toNat))[j]? = some sv := by rw [← hfl]; exact hj
        rw [List.getElem?_map] at hj'
        obtain ⟨b, hb, rfl⟩ := Option.map_eq_some_iff.1 hj'
        exact ⟨.int .u8 b.toNat, by simp at hb ⊢; simp [hb], .v _⟩
    · exact h.elim
  · obtain ⟨ys, S, hk, hs⟩ := srcV_spec (P := P) h
    refine ⟨ys, S, hk, fun E fp w v h1 h2 => ?_⟩
    obtain ⟨a, c, cells, rfl, q1, q2⟩ := hs E fp w v h1 h2
    exact ⟨cells, rfl, q1, q2⟩

end
end Go.Eng

/-! The engine, part L: append. -/
set_option linter.unusedVariables false
namespace Go.Eng
variable [DM]
set_option linter.unusedSectionVars false

section
variable {r : Option Nat} {P : Program} {G : Nat → Option Ctr} {o : Oper} {T : Tm} {M : En} {lo : Nat} {Kp : SV → List Nat → Prop} {Kg : SV → List Nat → List Nat → En → Prop}

theorem szOf_info {t : TypeId} {n : Nat} (h : szOf P t = some n) : ∃ i, P.info? t = some i ∧ i.size = n := by
  unfold szOf at h
  split at h
  · rename_i i hi; exact ⟨i, hi, by simpa using h⟩
  · cases h

theorem appOk_spec {e : TypeId} {t : Ty} (h : appOk P e t = true) : ∃ i zs, P.info? e = some i ∧ i.size = t.size ∧ i.bytes ≤ 400 ∧ zeroOf P e = some zs ∧ zs.length = t.size := by
  unfold appOk at h
  split at h
  · rename_i n b zs h1 h2 h3
    simp only [Bool.and_eq_true] at h
    obtain ⟨i, hi, rfl⟩ := szOf_info h1
    unfold byOf at h2
    rw [hi] at h2
    obtain rfl := Option.some.inj h2
    have e1 := Nat.eq_of_beq_eq_true h.1.1
    have e3 := Nat.eq_of_beq_eq_true h.2
    exact ⟨i, zs, hi, e1, Nat.le_of_ble_eq_true h.1.2, h3, by omega⟩
  · cases h

theorem isIntT_spec {t : TypeId} (h : isIntT P t = false) : (∃ e, P.underlying t = some (.slice e)) ∨ P.underlying t = some .string := by
  unfold isIntT at h
  split at h
  · rename_i e hd; exact .inl ⟨e, hd⟩
  · rename_i hd; exact .inr hd
  · cases h

set_option maxHeartbeats 1000000 in
theorem run_append_room {ts tx ty e : TypeId} {i : TypeInfo} (ht : P.underlying ts = some (.slice e)) (hx : isIntT P tx = false) (hi : P.info? e = some i)
    {base : Option Addr} {sLen sCap n : Nat} {vx : Value} {new : Array Value} {w w' : World} (hl : Builtin.lenOf vx = pure n) (hroom : sLen + n ≤ sCap)
    (hn : (Builtin.firstCells i.size n vx).run P w = .ok new w)
    (hs : (match base with | some a => storeCells (a.add (sLen * i.size)) new.toList | none => (pure () : Sem Unit)).run P w = .ok () w') :
    (Builtin.append_ #[ts, tx] ty #[.slice base sLen sCap, vx]).run P w = .ok (.slice base (sLen + n) sCap) w' := by
  rcases isIntT_spec hx with ⟨e', hd⟩ | hd
  all_goals
    cases base <;> simp [Builtin.append_, run_underlying ht, run_underlying hd, sizeOf, typeInfo, hi, hl, hroom, hn] at hs ⊢ <;> simp [hs]

set_option maxHeartbeats 1000000 in
theorem run_append_grow {ts tx ty e : TypeId} {i : TypeInfo} {zs : List Value} (ht : P.underlying ts = some (.slice e)) (hx : isIntT P tx = false) (hi : P.info? e = some i) (hb : i.bytes ≤ 400)
    (hz : zeroOf P e = some zs)
    {base : Option Addr} {sLen sCap n : Nat} {vx : Value} {old new : Array Value} {w : World} (hl : Builtin.lenOf vx = pure n) (hroom : sCap < sLen + n) (hlim : sLen + n ≤ 274877906944)
    (hn : ∀ w', w'.heap = w.heap → (Builtin.firstCells i.size n vx).run P w' = .ok new w')
    (ho : ∀ w', w'.heap = w.heap → (Builtin.firstCells i.size sLen (.slice base sLen sCap)).run P w' = .ok old w') :
    ∃ cap rest w', sLen + n ≤ cap ∧ rest.size = (cap - (sLen + n)) * zs.length ∧
    (Builtin.append_ #[ts, tx] ty #[.slice base sLen sCap, vx]).run P w = .ok (.slice (some ⟨w.heap.size, 0, none⟩) (sLen + n) cap) w' ∧
    w'.heap = w.heap.push (.cells (old ++ new ++ rest) e) ∧ w'.os = w.os ∧ w'.tape = w.tape ∧ w'.output = w.output ∧ w.drawn ≤ w'.drawn := by
  have hx' := isIntT_spec hx
  obtain ⟨zv, hzr, hzl⟩ := run_zeroValue hz (w.drew)
  have hfit : Builtin.nextslicecap (sLen + n) sCap * i.bytes ≤ 281474976710656 := growslice_fits hroom (by
    have := Nat.mul_le_mul hlim hb; omega)
  have hn' : ¬ (sLen + n ≤ sCap) := by omega
  have h63' : ¬ (9223372036854775807 < ((sLen : Int) + (n : Int))) := by omega
  have h48' : ¬ (281474976710656 < Builtin.nextslicecap (sLen + n) sCap * i.bytes) := by omega
  have hq : (Question.appendCap (sLen + n) sCap e).forced = false := rfl
  have h1 := hn w.drew rfl
  have h2 := ho w.drew rfl
  refine ⟨grownCap w (sLen + n) sCap e, Builtin.zeroCells zv.cells (grownCap w (sLen + n) sCap e - (sLen + n)), w.drew.alloc (.cells (old ++ new ++ Builtin.zeroCells zv.cells (grownCap w (sLen + n) sCap e - (sLen + n))) e), grownCap_ge _ _ _ _, by
    rw [size_zeroCells, ← hzl]; simp, ?_, rfl, rfl, rfl, rfl, Nat.le_succ _⟩
  rcases hx' with ⟨e', hd⟩ | hd
  all_goals
    simp [Builtin.append_, run_underlying ht, run_underlying hd, sizeOf, typeInfo, hi, hl, hn', h63', h48', hq, h1, h2, hzr, newRow, grownCap]

theorem flatF_append {α : Type} (f : α → List SV) : ∀ (a b : List α), flatF f (a ++ b) = flatF f a ++ flatF f b
  | [], b => rfl
  | x :: a, b => by simp [flatF, flatF_append f a b]

open Classical in
noncomputable def tradeFp (fp : Nat → Nat → Prop) (ci : List Nat) (lo : Nat) (F : Nat → Prop) : Nat → Nat → Prop := fun j => if j = lo then F else if j ∈ ci then fun _ => False else fp j

/-- Some names are given up for a new one. -/
theorem EntsSat.trade {E : Env} {w w' : World} {fp : Nat → Nat → Prop} {M : En} {ci : List Nat} {lo : Nat} {s : Slot} {e : Ent} {F : Nat → Prop} (h : EntsSat E w fp M) (hlo : E.slot lo = none)
    (hF : ∀ b, F b → (∃ i, i ∈ ci ∧ fp i b) ∨ (w.heap.size ≤ b ∧ b < w'.heap.size))
    (hk : Keep (fun b => ∃ i, i ∈ ci ∧ fp i b) w w') (he : EntSat (E.with lo s) w' F lo e) :
    EntsSat (E.with lo s) w' (tradeFp fp ci lo F) (upd [(lo, e)] ci M) ∧ Adv E fp w (E.with lo s) (tradeFp fp ci lo F) w' := by
  have hkeep : Keep (own fp) w w' := hk.mono (fun b ⟨i, _, hf⟩ => ⟨i, hf⟩)
  have hst := h.stays hkeep
  have hsame : tradeFp fp ci lo F lo = F := by simp [tradeFp]
  have hgone : ∀ {j}, j ≠ lo → j ∈ ci → tradeFp fp ci lo F j = fun _ => False := fun h1 h2 => by simp [tradeFp, h1, h2]
  have hother : ∀ {j}, j ≠ lo → j ∉ ci → tradeFp fp ci lo F j = fp j := fun h1 h2 => by simp [tradeFp, h1, h2]
  have hsub : ∀ {j b}, j ≠ lo → tradeFp fp ci lo F j b → fp j b ∧ j ∉ ci := fun {j b} h1 h2 => by
    by_cases hc : j ∈ ci
    · rw [hgone h1 hc] at h2; exact h2.elim
    · rw [hother h1 hc] at h2; exact ⟨h2, hc⟩
  have hap : ∀ {j b}, j ≠ lo → F b → tradeFp fp ci lo F j b → False := fun {j b} h1 h2 h3 => by
    obtain ⟨h3, h4⟩ := hsub h1 h3
    rcases hF b h2 with ⟨i, hi, hf⟩ | ⟨hb, _⟩
    · exact h.apart i j b (fun e => h4 (e ▸ hi)) hf h3
    · have := h.lt j b h3; omega
  refine ⟨⟨fun j => ?_, fun j b hb => ?_, fun j b hb => ?_, fun j b hb => ?_, fun i j b hij hi hj => ?_, fun b hb => Nat.lt_of_lt_of_le (h.Ilt b hb) hk.size, h.nil.mono (Env.le_with hlo), h.glob (h.stays hkeep) (fun _ h => h)⟩, ⟨hkeep, Env.le_with hlo, fun b hb => .inl hb, fun b hb => hb, fun j b hb => ?_⟩⟩
  · by_cases hj : j = lo
    · subst hj
      rw [hsame, find_upd, if_pos (by simp [keys])]
      simpa [find] using he
    · rw [find_upd, if_neg (by simp [keys, hj])]
      by_cases hc : j ∈ ci
      · rw [if_pos hc, hgone hj hc]; exact fun b hb => hb
      · rw [if_neg hc, hother hj hc]
        exact (h.sat j).mono (Env.le_with hlo) hst hk.size (fun b hb => hk.same b (h.lt j b hb) (fun ⟨i, hi, hf⟩ => h.apart i j b (fun e => hc (e ▸ hi)) hf hb))
  · by_cases hj : j = lo
    · subst hj
      rw [hsame] at hb
      rcases hF b hb with ⟨i, hi, hf⟩ | ⟨_, hb⟩
      · exact Nat.lt_of_lt_of_le (h.lt i b hf) hk.size
      · exact hb
    · exact Nat.lt_of_lt_of_le (h.lt j b (hsub hj hb).1) hk.size
  · by_cases hj : j = lo
    · subst hj
      rw [hsame] at hb
      intro hI
      rcases hF b hb with ⟨i, hi, hf⟩ | ⟨hb, _⟩
      · exact h.I i b hf hI
      · have := h.Ilt b (.inl hI); omega
    · exact h.I j b (hsub hj hb).1
  · by_cases hj : j = lo
    · subst hj
      rw [hsame] at hb
      intro hI
      rcases hF b hb with ⟨i, hi, hf⟩ | ⟨hb, _⟩
      · exact h.B i b hf hI
      · have := h.Ilt b (.inr hI); omega
    · exact h.B j b (hsub hj hb).1
  · by_cases h1 : i = lo <;> by_cases h2 : j = lo
    · exact hij (h1.trans h2.symm)
    · subst h1; rw [hsame] at hi; exact hap h2 hi hj
    · subst h2; rw [hsame] at hj; exact hap h1 hj hi
    · exact h.apart i j b hij (hsub h1 hi).1 (hsub h2 hj).1
  · by_cases hj : j = lo
    · subst hj
      rw [hsame] at hb
      rcases hF b hb with ⟨i, hi, hf⟩ | ⟨hb, _⟩
      · exact .inl ⟨i, hf⟩
      · exact .inr hb
    · exact .inl ⟨j, (hsub hj hb).1⟩

/-- Cells in a row are those of data. -/
theorem row_cells {E : Env} {w : World} {t : Ty} {xs : List t.den} {l : List Value} (h : CellsAre E w (flatF (enc t) xs) l) (i : Nat) (x : t.den) (j : Nat) (sv : SV)
    (hi : xs[i]? = some x) (hj : (enc t x)[j]? = some sv) : ∃ u, l[i * t.size + j]? = some u ∧ Sat E w sv u := by
  have hjl : j < t.size := by have := (List.getElem?_eq_some_iff.1 hj).1; rw [enc_length] at this; exact this
  have := flatF_get (enc t) t.size (enc_length t) xs i j x hi hjl
  exact h.2 _ sv (by rw [this]; exact hj)

theorem cells_plain {E : Env} {w : World} {cs : List SV} {l : List Value} (hc : ∀ s, s ∈ cs → scalB s = true) (h : CellsAre E w cs l) : ∀ u, u ∈ l → plainV u := fun u hu => by
  obtain ⟨j, hj, rfl⟩ := List.mem_iff_getElem.1 hu
  have hlt : j < cs.length := by rw [← h.1]; exact hj
  obtain ⟨u', h1, h2⟩ := h.2 j cs[j] (by simp [hlt])
  rw [List.getElem?_eq_getElem hj] at h1
  obtain rfl := Option.some.inj h1
  exact scalB_plain (hc _ (List.getElem_mem hlt)) h2

/-- A row in a block of its own. -/
theorem row_sat {E : Env} {w : World} {t : Ty} {te : TypeId} {xs : List t.den} {id cap : Nat} {s : Slot} {arr rest : Array Value} {l : List Value} (hs : E.slot id = some s)
    (hv : s.val = .slice (some ⟨s.blk, 0, none⟩) xs.length cap) (hb : w.heap[s.blk]? = some (.cells arr te (0, 0))) (ha : arr.toList = l ++ rest.toList) (hc : CellsAre E w (flatF (enc t) xs) l)
    (hle : xs.length ≤ cap) (hr : rest.size = (cap - xs.length) * t.size) : EntSat E w (fun b => b = s.blk) id (.row te t xs) := by
  have hl : l.length = xs.length * t.size := by rw [hc.1, flatF_length _ t.size (enc_length t)]
  refine ⟨s, hs, .inr ⟨0, cap, arr, (0, 0), hv, fun b => Iff.rfl, hb, .inl rfl, hle, ?_, fun i x j sv hi hj => ?_⟩⟩
  · have e1 : arr.toList.length = arr.size := by simp
    have e2 : rest.toList.length = rest.size := by simp
    rw [ha, List.length_append, hl, e2, hr] at e1
    rw [← e1, ← Nat.add_mul, Nat.zero_add]
    congr 1; omega
  · obtain ⟨u, h1, h2⟩ := row_cells hc i x j sv hi hj
    refine ⟨u, ?_, h2⟩
    rw [Nat.zero_add, ← Array.getElem?_toList, ha, List.getElem?_append_left (List.getElem?_eq_some_iff.1 h1).1]
    exact h1

theorem getElem_zeros {z : Array Value} {n k : Nat} (h : k < n * z.size) : (Builtin.zeroCells z n)[k]? = z[k % z.size]? := by
  have hz : 0 < z.size := by
    rcases Nat.eq_zero_or_pos z.size with h0 | h0
    · rw [h0] at h; omega
    · exact h0
  unfold Builtin.zeroCells
  rw [Array.getElem?_map, Array.getElem?_range, if_pos h]
  simp only [Option.map_some]
  rw [getElem!_pos z (k % z.size) (Nat.mod_lt _ hz)]
  simp [Nat.mod_lt _ hz]
set_option maxHeartbeats 1000000 in
theorem run_append_zeros {ts tx ty e : TypeId} {k : IntKind} {i : TypeInfo} {zs : List Value} (ht : P.underlying ts = some (.slice e)) (hx : P.underlying tx = some (.int k)) (hi : P.info? e = some i) (hb : i.bytes ≤ 400)
    (hz : zeroOf P e = some zs) {n : Nat} {w : World} (hlim : n ≤ 274877906944) (hpos : 0 < n * i.size) (hsz : i.size = zs.length) :
    ∃ (cap : Nat) (rest : Array Value) (zv : Value) (w' : World), n ≤ cap ∧ rest.size = (cap - n) * zs.length ∧ zv.cells.toList = zs ∧
    (Builtin.append_ #[ts, tx] ty #[.slice none 0 0, .int .i64 n]).run P w = .ok (.slice (some ⟨w.heap.size, 0, none⟩) n cap) w' ∧
    w'.heap = w.heap.push (.cells (Builtin.zeroCells zv.cells n ++ rest) e) ∧ w'.os = w.os ∧ w'.tape = w.tape ∧ w'.output = w.output ∧ w.drawn ≤ w'.drawn := by
  obtain ⟨zv, hzr, hzl⟩ := run_zeroValue hz (w.drew)
  have hn0 : 0 < n := Nat.pos_of_mul_pos_right hpos
  have hwr : IntKind.i64.wrap (n : Int) = n := wrap_i64 (by omega) (by omega)
  have hn' : ¬ n = 0 := by omega
  have hbytes : n * i.bytes ≤ 274877906944 * 400 := Nat.mul_le_mul hlim hb
  have h48a : ¬ (281474976710656 < ((n : Int) * (i.bytes : Int))) := by
    have : ((n * i.bytes : Nat) : Int) = (n : Int) * i.bytes := by push_cast; rfl
    omega
  have h63' : ¬ (9223372036854775807 < (n : Int)) := by omega
  have hcap : Builtin.nextslicecap n 0 = n := by
    unfold Builtin.nextslicecap
    rw [if_pos (by omega)]
  have h48' : ¬ (281474976710656 < Builtin.nextslicecap n 0 * i.bytes) := by rw [hcap]; omega
  have hne : ¬ (n * i.size = 0) := by omega
  have hne' : ¬ (i.size = 0) := fun h => by rw [h] at hpos; omega
  have hq : (Question.appendCap n 0 e).forced = false := rfl
  refine ⟨grownCap w n 0 e, Builtin.zeroCells zv.cells (grownCap w n 0 e - n), zv, w.drew.alloc (.cells (Builtin.zeroCells zv.cells n ++ Builtin.zeroCells zv.cells (grownCap w n 0 e - n)) e), grownCap_ge w n 0 e, by
    rw [size_zeroCells, ← hzl]; simp, hzl, ?_, rfl, rfl, rfl, rfl, Nat.le_succ _⟩
  have hlt0 : ¬ ((n : Int) < 0) := by omega
  simp [Builtin.append_, run_underlying ht, run_underlying hx, sizeOf, typeInfo, hi, hwr, asInt, run_asIntOf, hlt0, h48a, hn', h63', h48', hne, hne', hq, hzr, newRow, grownCap, Builtin.firstCells]

theorem run_append_zero0 {ts tx ty e : TypeId} {k : IntKind} {i : TypeInfo} (ht : P.underlying ts = some (.slice e)) (hx : P.underlying tx = some (.int k)) (hi : P.info? e = some i) {w : World} :
    (Builtin.append_ #[ts, tx] ty #[.slice none 0 0, .int .i64 (0 : Nat)]).run P w = .ok (.slice none 0 0) w := by
  have hwr : IntKind.i64.wrap 0 = 0 := wrap_i64 (by omega) (by omega)
  simp [Builtin.append_, run_underlying ht, run_underlying hx, sizeOf, typeInfo, hi, hwr, asInt, run_asIntOf, Builtin.firstCells]

theorem led_app {c : Call} (hop : o.op = .call c) (hc : c.callee = .builtin .append) (h : appV P c.argTypes.toList (mapEv T c.args.toList) lo M Kg) : Led r P o T M lo Kp Kg := by
  have hops : opsOf o = opTmps c.args.toList := by simp [opsOf, hop, Op.operands, Call.operands, hc]
  have hd : ∀ c, o.op ≠ .defer c := fun c => by simp [hop]
  have arg2 : ∀ (s x : SV) (t u : TypeId), mapEv T c.args.toList = [s, x] → c.argTypes.toList = [t, u] → ∃ p q, c.args = #[p, q] ∧ c.argTypes = #[t, u] ∧ ev T p = s ∧ ev T q = x := fun s x t u h1 h2 => by
    have h3 : c.argTypes = #[t, u] := by rw [← Array.toArray_toList (xs := c.argTypes), h2]
    cases hl : c.args.toList with
    | nil => rw [hl] at h1; simp [mapEv] at h1
    | cons p l =>
      cases l with
      | nil => rw [hl] at h1; simp [mapEv] at h1
      | cons q l =>
        cases l with
        | nil =>
          rw [hl] at h1
          simp only [mapEv, List.cons.injEq, and_true] at h1
          exact ⟨p, q, by rw [← Array.toArray_toList (xs := c.args), hl], h3, h1.1, h1.2⟩
        | cons _ _ => rw [hl] at h1; simp [mapEv] at h1
  have hexec : ∀ (a : Act) (w w' : World) (v : Value) (t u : TypeId) (p q : Operand), c.args = #[p, q] → c.argTypes = #[t, u] →
      (Builtin.append_ #[t, u] o.type #[a.eval p, a.eval q]).run P w = .ok v w' → (execOp a.eval o).run P w = .ok (.value v) w' := fun a w w' v t u p q h1 h2 h3 => by
    simp only [execOp, hop, resolve, hc, h1, h2, List.map_toArray, List.map_cons, List.map_nil]
    exact ok_value h3
  unfold appV at h
  split at h
  · rename_i ts tx s x htys hargs
    obtain ⟨p, q, ha, hty, hep, heq⟩ := arg2 s x ts tx hargs htys
    split at h
    · rename_i e hu
      split at h
      · -- noughts
        unfold appZ at h
        split at h
        · rename_i n
          split at h
          · rename_i kx hxu
            split at h
            · rename_i t zs hty2 hz
              split at h
              · rename_i z hok hdec
                simp only [Bool.and_eq_true] at hok
                have hpos : 0 < t.size := by have := hok.2; simp [Nat.blt] at this; omega
                obtain ⟨i, zs', i1, i2, i3, i4, i5⟩ := appOk_spec hok.1
                obtain rfl := Option.some.inj (hz.symm.trans i4)
                obtain ⟨d1, d2⟩ := decL_spec t 1 _ _ hdec
                obtain ⟨⟨hn0, hlim⟩, hk⟩ := h
                refine .inr ⟨_, _, _, _, hk, (fun id hid => by cases hid), fun E fp a w hrd hents hfr => ?_⟩
                rw [hops, ha] at hrd
                have hlo := hfr lo (Nat.le_refl _) (by omega)
                have hp := ev_sat (E := E) (w := w) hrd (x := p) (by simp)
                rw [hep] at hp
                have hq := ev_sat (E := E) (w := w) hrd (x := q) (by simp)
                rw [heq] at hq
                have hp' : a.eval p = .slice none 0 0 := by generalize a.eval p = pv at hp; cases hp; rfl
                have hq' : a.eval q = .int .i64 (n.toNat : Nat) := by
                  have e3 : ((n.toNat : Nat) : Int) = n := by omega
                  rw [e3]; generalize a.eval q = pv at hq; cases hq; rfl
                rcases Nat.eq_zero_or_pos n.toNat with hn1 | hn1
                · rw [hn1]
                  rw [hn1] at hq'
                  let s : Slot := ⟨0, none, 0, 0⟩
                  have g := run_append_zero0 (P := P) (ty := o.type) (w := w) hu hxu i1
                  obtain ⟨q1, q2⟩ := hents.trade (w' := w) (ci := []) (s := s) (e := .row e t []) (F := fun b => False) hlo (fun b hb => hb.elim) (.refl _ _) ⟨s, Env.with_self _ _ _, .inl ⟨rfl, rfl, fun b hb => hb⟩⟩
                  have g' : (Builtin.append_ #[ts, tx] o.type #[a.eval p, a.eval q]).run P w = .ok (.slice none 0 0) w := by rw [hp', hq']; exact g
                  refine OpRun.value hd (hexec a w w _ ts tx p q ha hty g') ⟨E.with lo s, _, ?_, q1, q2, fun id => ?_⟩
                  · exact Sat.sl lo s (Env.with_self _ _ _)
                  · by_cases e : id = lo
                    · exact .inr (by omega)
                    · exact .inl (Env.with_other e)
                · have hpn : 0 < n.toNat * i.size := Nat.mul_pos hn1 (by omega)
                  obtain ⟨cap, rest, zv, w', g1, g2, g3, g4, g5, g6, g7, g8, g9⟩ := run_append_zeros (P := P) (ty := o.type) (w := w) hu hxu i1 i3 hz (n := n.toNat) (by omega) hpn (by omega)
                  let s : Slot := ⟨w.heap.size, some ⟨w.heap.size, 0, none⟩, n.toNat, cap⟩
                  have hkeep : Keep (fun b => ∃ i, i ∈ ([] : List Nat) ∧ fp i b) w w' := ⟨g6, ⟨g7, fun _ => g9⟩, g8, by rw [g5]; simp, fun b hb _ => by rw [g5, Array.getElem?_push]; simp; omega⟩
                  have hst : Stays E w w' := hents.stays (hkeep.mono (fun b ⟨i, _, hf⟩ => ⟨i, hf⟩))
                  have hzl : zv.cells.size = t.size := by rw [← i5, ← g3]; simp
                  have hzcells : CellsAre (E.with lo s) w' (flatF (enc t) [z]) zv.cells.toList := by
                    refine d2 _ _ _ ?_
                    rw [g3, listV_eq]
                    exact ⟨by simp, fun j s hj => by
                      simp only [List.getElem?_map] at hj
                      cases hq : zs[j]? with
                      | none => rw [hq] at hj; cases hj
                      | some v => rw [hq] at hj; obtain rfl := Option.some.inj hj; exact ⟨v, rfl, .v v⟩⟩
                  have hrs : rest.size = cap * t.size - n.toNat * t.size := by rw [g2, i5, Nat.sub_mul]
                  have hmul : n.toNat * t.size ≤ cap * t.size := Nat.mul_le_mul_right _ g1
                  have hrow : EntSat (E.with lo s) w' (fun b => b = s.blk) lo (.row e t (List.replicate n.toNat z)) := by
                    refine ⟨s, Env.with_self _ _ _, .inr ⟨0, cap, Builtin.zeroCells zv.cells n.toNat ++ rest, (0, 0), by simp [Slot.val, s], fun b => Iff.rfl, by show w'.heap[w.heap.size]? = _; rw [g5]; simp, .inl rfl, by simpa using g1, by
                      rw [Array.size_append, size_zeroCells, hzl]; omega, fun p x j sv hp hj => ?_⟩⟩
                    obtain ⟨hlt, rfl⟩ := List.getElem?_eq_some_iff.1 hp
                    rw [List.length_replicate] at hlt
                    rw [List.getElem_replicate] at hj
                    have hjt : j < t.size := by have := (List.getElem?_eq_some_iff.1 hj).1; rw [enc_length] at this; exact this
                    obtain ⟨u, hu, hs⟩ := row_cells hzcells 0 z j sv rfl hj
                    refine ⟨u, ?_, hs⟩
                    have h5 : (p + 1) * t.size ≤ n.toNat * t.size := Nat.mul_le_mul_right _ hlt
                    rw [Nat.add_mul] at h5
                    rw [Nat.zero_add, Array.getElem?_append_left (by rw [size_zeroCells, hzl]; omega), getElem_zeros (by rw [hzl]; omega), hzl,
                      show (p * t.size + j) % t.size = j by rw [Nat.add_comm, Nat.add_mul_mod_self_right]; exact Nat.mod_eq_of_lt hjt]
                    simpa using hu
                  obtain ⟨q1, q2⟩ := hents.trade (w' := w') (ci := []) (s := s) (F := fun b => b = s.blk) hlo (fun b hb => .inr ⟨by subst hb; exact Nat.le_refl _, by subst hb; rw [g5]; simp [s]⟩) hkeep hrow
                  rw [← hp', ← hq'] at g4
                  refine OpRun.value hd (hexec a w w' _ ts tx p q ha hty g4) ⟨E.with lo s, _, ?_, q1, q2, fun id => ?_⟩
                  · exact Sat.sl lo s (Env.with_self _ _ _)
                  · by_cases e : id = lo
                    · exact .inr (by omega)
                    · exact .inl (Env.with_other e)
              · exact h.elim
            · exact h.elim
          · exact h.elim
        · exact h.elim
      · rename_i hint
        -- a new row
        have grow : ∀ (t : Ty) (i : TypeInfo) (zs : List Value) (xs ys : List t.den) (ci S : List Nat) (base : Option Addr) (cp : Nat) (old new : Array Value)
            (E : Env) (fp : Nat → Nat → Prop) (a : Act) (w : World), P.info? e = some i → i.size = t.size → i.bytes ≤ 400 → zeroOf P e = some zs → zs.length = t.size → (∀ id, id ∈ ci → id ∈ S) →
            EntsSat E w fp (sub M S) → E.slot lo = none → cp < xs.length + ys.length → xs.length + ys.length ≤ 274877906944 →
            a.eval p = .slice base xs.length cp → Builtin.lenOf (a.eval q) = pure ys.length →
            (∀ w', w'.heap = w.heap → (Builtin.firstCells i.size ys.length (a.eval q)).run P w' = .ok new w') →
            (∀ w', w'.heap = w.heap → (Builtin.firstCells i.size xs.length (.slice base xs.length cp)).run P w' = .ok old w') →
            CellsAre E w (flatF (enc t) xs) old.toList → CellsAre E w (flatF (enc t) ys) new.toList →
            OpRun r P o a w fun v w' => ∃ E' fp', Sat E' w' (.sl lo) v ∧ EntsSat E' w' fp' (upd [(lo, .row e t (xs ++ ys))] ci (sub M S)) ∧ Adv E fp w E' fp' w' ∧ ∀ id, E'.slot id = E.slot id ∨ (lo ≤ id ∧ id < lo + 16) := by
          intro t i zs xs ys ci S base cp old new E fp a w h1 h2 h3 h4 h5 hci hents hlo hlt hlim hp hq hn ho hco hcn
          obtain ⟨cap, rest, w', g1, g2, g3, g4, g5, g6, g7, g8⟩ := run_append_grow (P := P) (ty := o.type) hu hint h1 h3 h4 hq hlt hlim hn ho
          let s : Slot := ⟨w.heap.size, some ⟨w.heap.size, 0, none⟩, xs.length + ys.length, cap⟩
          have hkeep : Keep (fun b => ∃ i, i ∈ ci ∧ fp i b) w w' := ⟨g5, ⟨g6, fun _ => g8⟩, g7, by rw [g4]; simp, fun b hb _ => by rw [g4, Array.getElem?_push]; simp; omega⟩
          have hst : Stays E w w' := hents.stays (hkeep.mono (fun b ⟨i, _, hf⟩ => ⟨i, hf⟩))
          have hcells := (hco.append hcn).mono (Env.le_with (s := s) hlo) hst
          rw [← flatF_append] at hcells
          have hrow : EntSat (E.with lo s) w' (fun b => b = s.blk) lo (.row e t (xs ++ ys)) :=
            row_sat (rest := rest) (cap := cap) (l := old.toList ++ new.toList) (arr := old ++ new ++ rest) (Env.with_self _ _ _) (by simp [Slot.val, s]) (by show w'.heap[w.heap.size]? = _; rw [g4]; simp) (by simp) hcells (by simp; omega) (by rw [g2, h5]; simp)
          obtain ⟨q1, q2⟩ := hents.trade (w' := w') (ci := ci) (s := s) (F := fun b => b = s.blk) hlo (fun b hb => .inr ⟨by subst hb; exact Nat.le_refl _, by subst hb; rw [g4]; simp [s]⟩) hkeep hrow
          rw [← hp] at g3
          refine OpRun.value hd (hexec a w w' _ ts tx p q ha hty g3) ⟨E.with lo s, _, ?_, q1, q2, fun id => ?_⟩
          · exact Sat.sl lo s (Env.with_self _ _ _)
          · by_cases e : id = lo
            · exact .inr (by omega)
            · exact .inl (Env.with_other e)
        have none' : ∀ (w : World) (n m k : Nat), (Builtin.firstCells n 0 (.slice none m k)).run P w = .ok #[] w := fun w n m k => rfl
        have stay : ∀ (t : Ty) (xs ys : List t.den) (ci S : List Nat) (E : Env) (fp : Nat → Nat → Prop) (a : Act) (w : World) (new : Array Value) (i : TypeInfo) , P.info? e = some i →
            xs = [] → ys = [] → EntsSat E w fp (sub M S) → E.slot lo = none → a.eval p = .slice none 0 0 → Builtin.lenOf (a.eval q) = pure ys.length → 
            (Builtin.firstCells i.size ys.length (a.eval q)).run P w = .ok new w →
            OpRun r P o a w fun v w' => ∃ E' fp', Sat E' w' (.sl lo) v ∧ EntsSat E' w' fp' (upd [(lo, .row e t (xs ++ ys))] ci (sub M S)) ∧ Adv E fp w E' fp' w' ∧ ∀ id, E'.slot id = E.slot id ∨ (lo ≤ id ∧ id < lo + 16) := by
          rintro t xs ys ci S E fp a w new i h1 rfl rfl hents hlo hp hq hn
          have g := run_append_room (P := P) (ty := o.type) (base := none) (sLen := 0) (sCap := 0) (w' := w) hu hint h1 hq (Nat.le_refl _) hn rfl
          let s : Slot := ⟨0, none, 0, 0⟩
          obtain ⟨q1, q2⟩ := hents.trade (w' := w) (ci := ci) (s := s) (e := .row e t []) (F := fun b => False) hlo (fun b hb => hb.elim) (.refl _ _) ⟨s, Env.with_self _ _ _, .inl ⟨rfl, rfl, fun b hb => hb⟩⟩
          have g' : (Builtin.append_ #[ts, tx] o.type #[a.eval p, a.eval q]).run P w = .ok (.slice none 0 0) w := by rw [hp]; exact g
          refine OpRun.value hd (hexec a w w _ ts tx p q ha hty g') ⟨E.with lo s, _, ?_, q1, q2, fun id => ?_⟩
          · exact Sat.sl lo s (Env.with_self _ _ _)
          · by_cases e : id = lo
            · exact .inr (by omega)
            · exact .inl (Env.with_other e)
        -- onto a row
        have core : ∀ (t : Ty) (i : TypeInfo) (zs : List Value) (xs ys : List t.den) (i0 : Nat) (S : List Nat) (blk o2 cp : Nat) (arr : Array Value) (fz : Nat × Nat) (cells : Array Value) (E : Env) (fp : Nat → Nat → Prop) (a : Act) (w : World),
            P.info? e = some i → i.size = t.size → i.bytes ≤ 400 → zeroOf P e = some zs → zs.length = t.size → EntsSat E w fp (sub M (i0 :: S)) → E.slot lo = none → a.eval p = .slice (some ⟨blk, o2, none⟩) xs.length cp →
            xs.length + ys.length ≤ 274877906944 → Builtin.lenOf (a.eval q) = pure ys.length → (∀ w', w'.heap = w.heap → (Builtin.firstCells i.size ys.length (a.eval q)).run P w' = .ok cells w') → CellsAre E w (flatF (enc t) ys) cells.toList →
            (∀ b, fp i0 b ↔ b = blk) → w.heap[blk]? = some (.cells arr e fz) → unfrozen fz arr.size → xs.length ≤ cp → o2 + cp * t.size = arr.size →
            (∀ (i : Nat) (x : t.den) (j : Nat) (sv : SV), xs[i]? = some x → (enc t x)[j]? = some sv → ∃ u, arr[o2 + i * t.size + j]? = some u ∧ Sat E w sv u) →
            OpRun r P o a w fun v w' => ∃ E' fp', Sat E' w' (.sl lo) v ∧ EntsSat E' w' fp' (upd [(lo, .row e t (xs ++ ys))] [i0] (sub M (i0 :: S))) ∧ Adv E fp w E' fp' w' ∧ ∀ id, E'.slot id = E.slot id ∨ (lo ≤ id ∧ id < lo + 16) := by
          intro t i zs xs ys i0 S blk o2 cp arr fz cells E fp a w i1 i2 i3 i4 i5 hents hlo hp' hlim c1 c2 c3 g2 g3 g4 g5 g6 g7
          have hci : ∀ id, id ∈ [i0] → id ∈ i0 :: S := fun id hid => by rw [List.mem_singleton.1 hid]; exact List.mem_cons_self ..
          have hlen : xs.length * t.size ≤ cp * t.size := Nat.mul_le_mul_right _ g5
          by_cases hroom : xs.length + ys.length ≤ cp
          · -- in place
            have hlen2 : (xs.length + ys.length) * t.size ≤ cp * t.size := Nat.mul_le_mul_right _ hroom
            rw [Nat.add_mul] at hlen2
            have hcl : cells.toList.length = ys.length * t.size := by rw [c3.1, flatF_length _ t.size (enc_length t)]
            obtain ⟨w', h1, h2, h3⟩ := run_storeCells (P := P) (o := o2 + xs.length * t.size) cells.toList 0 w arr g3 (by omega) g4
              (cells_plain (fun s hs => by obtain ⟨x, _, hx⟩ := flatF_mem hs; exact enc_scal t x s hx) c3)
            have hst : (match (some ⟨blk, o2, none⟩ : Option Addr) with | some a => storeCells (a.add (xs.length * i.size)) cells.toList | none => (pure () : Sem Unit)).run P w = .ok () w' := by
              show (storeCells ((⟨blk, o2, none⟩ : Addr).add (xs.length * i.size)) cells.toList).run P w = _
              rw [add_none, i2]; exact h1
            have g := run_append_room (P := P) (ty := o.type) (base := some ⟨blk, o2, none⟩) (w' := w') hu hint i1 c1 hroom (c2 w rfl) hst
            rw [← hp'] at g
            rw [Nat.add_zero] at h2
            let s : Slot := ⟨blk, some ⟨blk, o2, none⟩, xs.length + ys.length, cp⟩
            have hkeep : Keep (fun b => ∃ i, i ∈ [i0] ∧ fp i b) w w' := h3.mono (fun b hb => ⟨i0, List.mem_singleton.2 rfl, (g2 b).2 hb⟩)
            have hstay : Stays E w w' := hents.stays (hkeep.mono (fun b ⟨i, _, hf⟩ => ⟨i, hf⟩))
            have hle := Env.le_with (s := s) hlo
            have hnew := c3.mono hle hstay
            have hrow : EntSat (E.with lo s) w' (fun b => b = blk) lo (.row e t (xs ++ ys)) := by
              refine ⟨s, Env.with_self _ _ _, .inr ⟨o2, cp, _, fz, by simp [Slot.val, s], fun b => Iff.rfl, h2, by rw [putAll_size]; exact g4, by simpa using hroom, by rw [putAll_size]; exact g6, fun k x j sv hk hj => ?_⟩⟩
              have hjt : j < t.size := by have := (List.getElem?_eq_some_iff.1 hj).1; rw [enc_length] at this; exact this
              rw [putAll_get (by omega)]
              by_cases hkl : k < xs.length
              · rw [List.getElem?_append_left hkl] at hk
                have : (k + 1) * t.size ≤ xs.length * t.size := Nat.mul_le_mul_right _ hkl
                rw [Nat.add_mul] at this
                rw [if_neg (by omega)]
                obtain ⟨u, hu, hs⟩ := g7 k x j sv hk hj
                exact ⟨u, hu, hs.mono hle hstay⟩
              · rw [List.getElem?_append_right (by omega)] at hk
                have hk2 := (List.getElem?_eq_some_iff.1 hk).1
                have e1 : (k - xs.length + 1) * t.size ≤ ys.length * t.size := Nat.mul_le_mul_right _ hk2
                have e2 : k * t.size = xs.length * t.size + (k - xs.length) * t.size := by rw [← Nat.add_mul]; congr 1; omega
                rw [Nat.add_mul] at e1
                rw [if_pos (by omega)]
                obtain ⟨u, hu, hs⟩ := row_cells hnew (k - xs.length) x j sv hk hj
                exact ⟨u, by rw [← hu]; congr 1; omega, hs⟩
            obtain ⟨q1, q2⟩ := hents.trade (w' := w') (ci := [i0]) (s := s) (F := fun b => b = blk) hlo (fun b hb => .inl ⟨i0, List.mem_singleton.2 rfl, (g2 b).2 hb⟩) hkeep hrow
            refine OpRun.value hd (hexec a w w' _ ts tx p q ha hty g) ⟨E.with lo s, _, ?_, q1, q2, fun id => ?_⟩
            · exact Sat.sl lo s (Env.with_self _ _ _)
            · by_cases e : id = lo
              · exact .inr (by omega)
              · exact .inl (Env.with_other e)
          · -- a new row
            obtain ⟨old, o1, o3⟩ := firstCells_some (P := P) (k := blk) (o := o2) (size := t.size) (n := xs.length) (c := cp) (u := fun m => arr.getD (o2 + m) undef) (w := w) (fun m hm => by
              have hlt' : o2 + m < arr.size := by omega
              simp [World.cell?, g3, hlt'])
            rw [← i2] at o1
            refine grow t i zs xs ys [i0] (i0 :: S) _ cp old cells E fp a w i1 i2 i3 i4 i5 hci hents hlo (by omega) hlim hp' c1 c2 o1 ?_ c3
            rw [o3]
            refine range_cells (by rw [flatF_length _ t.size (enc_length t)]) (fun k sv hk => ?_)
            have hlt := (List.getElem?_eq_some_iff.1 hk).1
            rw [flatF_length _ t.size (enc_length t)] at hlt
            rcases Nat.eq_zero_or_pos t.size with hz | hpos
            · rw [hz] at hlt; omega
            · have hi : k / t.size < xs.length := (Nat.div_lt_iff_lt_mul hpos).2 hlt
              have hj2 : k = (k / t.size) * t.size + k % t.size := by rw [Nat.mul_comm]; exact (Nat.div_add_mod k t.size).symm
              have hm : k % t.size < t.size := Nat.mod_lt _ hpos
              have hg := flatF_get (enc t) t.size (enc_length t) xs (k / t.size) (k % t.size) xs[k / t.size] (by simp [hi]) hm
              rw [← hj2, hk] at hg
              obtain ⟨u, hu, hsat⟩ := g7 (k / t.size) xs[k / t.size] (k % t.size) sv (by simp [hi]) hg.symm
              have : arr.getD (o2 + k) undef = u := by
                rw [Nat.add_assoc, ← hj2] at hu
                simp [hu]
              show Sat E w sv (arr.getD (o2 + k) undef)
              rw [this]; exact hsat
        split at h
        · split at h
          · rename_i t ht
            split at h
            · rename_i hok
              obtain ⟨i, zs, i1, i2, i3, i4, i5⟩ := appOk_spec hok
              obtain ⟨ys, S, ⟨hlim, hk⟩, hsrc⟩ := srcA_spec (P := P) h
              refine .inr ⟨_, _, _, _, hk, (fun id hid => by cases hid), fun E fp a w hrd hents hfr => ?_⟩
              rw [hops, ha] at hrd
              have hlo := hfr lo (Nat.le_refl _) (by omega)
              have hp := ev_sat (E := E) (w := w) hrd (x := p) (by simp)
              rw [hep] at hp
              have hq := ev_sat (E := E) (w := w) hrd (x := q) (by simp)
              rw [heq] at hq
              have hp' : a.eval p = .slice none 0 0 := by generalize a.eval p = pv at hp; cases hp; rfl
              have hent : ∀ i, i ∈ S → EntSat E w (fp i) i (find M i) := fun i hi => wf_block hents hi
              obtain ⟨cells, c1, c2, c3⟩ := hsrc E fp w _ hent hq
              by_cases hz : ys.length = 0
              · have hy : ys = [] := List.length_eq_zero_iff.1 hz
                have := stay t [] ys [] S E fp a w cells i i1 rfl hy hents hlo hp' c1 (by rw [i2]; exact c2 w rfl)
                simpa using this
              · have hn : ∀ w', w'.heap = w.heap → (Builtin.firstCells i.size ys.length (a.eval q)).run P w' = .ok cells w' := fun w' hw => by
                  rw [i2]; exact c2 w' hw
                have := grow t i zs [] ys [] S none 0 #[] cells E fp a w i1 i2 i3 i4 i5 (fun _ h => by cases h) hents hlo (by simp; omega) (by simpa using hlim) hp' c1 hn
                  (fun w' _ => none' w' _ _ _) ⟨rfl, fun j s hj => by simp [flatF] at hj⟩ c3
                simpa using this
            · exact h.elim
          · exact h.elim
        · -- a literal
          rename_i i0 n c0
          split at h
          · rename_i te cs hf
            split at h
            · rename_i t ht
              split at h
              · rename_i hok
                simp only [Bool.and_eq_true] at hok
                obtain ⟨⟨hte, hok⟩, hnc⟩ := hok
                obtain rfl := Nat.eq_of_beq_eq_true hte
                obtain rfl := Nat.eq_of_beq_eq_true hnc
                obtain ⟨i, zs, i1, i2, i3, i4, i5⟩ := appOk_spec hok
                split at h
                · rename_i xs hdec
                  obtain ⟨hxl, hsp⟩ := decL_spec t n cs xs hdec
                  obtain ⟨ys, S, hk, hsrc⟩ := srcA_spec (P := P) h
                  split at hk
                  · exact hk.elim
                  · rename_i hmem
                    obtain ⟨hlim, hk⟩ := hk
                    refine .inr ⟨_, _, _, _, hk, (fun id hid => by rw [List.mem_singleton.1 hid]; exact List.mem_cons_self ..), fun E fp a w hrd hents hfr => ?_⟩
                    rw [hops, ha] at hrd
                    have hlo := hfr lo (Nat.le_refl _) (by omega)
                    have hp := ev_sat (E := E) (w := w) hrd (x := p) (by simp)
                    rw [hep] at hp
                    have hq := ev_sat (E := E) (w := w) hrd (x := q) (by simp)
                    rw [heq] at hq
                    have hent : ∀ i, i ∈ S → EntSat E w (fp i) i (find M i) := fun i hi => wf_block hents (List.mem_cons_of_mem _ hi)
                    have hent0 := wf_block hents (List.mem_cons_self (a := i0) (l := S))
                    rw [hf] at hent0
                    obtain ⟨s0, arr, fz, e1, e2, e3, e4, e5, e6⟩ := hent0
                    obtain ⟨cells, c1, c2, c3⟩ := hsrc E fp w _ hent hq
                    rw [← i2] at c2
                    have hp' : a.eval p = .slice (some ⟨s0.blk, 0, none⟩) xs.length n := by
                      rw [hxl]
                      generalize a.eval p = pv at hp
                      cases hp with
                      | slc _ _ _ _ s hs => obtain rfl := Option.some.inj (e1.symm.trans hs); rfl
                    have hall : CellsAre E w (flatF (enc t) xs) arr.toList := hsp E w arr.toList ⟨by rw [Array.length_toList, e5], fun j s hj => by
                      obtain ⟨u, hu, hsu⟩ := e6 j s hj
                      exact ⟨u, by rw [Array.getElem?_toList]; exact hu, hsu⟩⟩
                    have hsz : arr.size = n * t.size := by
                      have := hall.1
                      rw [flatF_length _ t.size (enc_length t), Array.length_toList, hxl] at this
                      exact this
                    exact core t i zs xs ys i0 S s0.blk 0 n arr fz cells E fp a w i1 i2 i3 i4 i5 hents hlo hp' hlim c1 c2 c3 e2 e3 e4 (by omega) (by omega) (fun k x j sv hk hj => by
                      obtain ⟨u, hu, hs⟩ := row_cells hall k x j sv hk hj
                      exact ⟨u, by rw [Nat.zero_add, ← Array.getElem?_toList]; exact hu, hs⟩)
                · exact h.elim
              · exact h.elim
            · exact h.elim
          · exact h.elim
        · rename_i i0
          split at h
          · rename_i e' t xs hf
            split at h
            · rename_i hb
              simp only [Bool.and_eq_true] at hb
              obtain rfl := Nat.eq_of_beq_eq_true hb.1
              obtain ⟨i, zs, i1, i2, i3, i4, i5⟩ := appOk_spec hb.2
              obtain ⟨ys, S, hk, hsrc⟩ := srcA_spec (P := P) h
              split at hk
              · exact hk.elim
              · rename_i hmem
                obtain ⟨hlim, hk⟩ := hk
                have hiS : i0 ∉ S := fun hc => by rw [memB_iff.2 hc] at hmem; cases hmem
                refine .inr ⟨_, _, _, _, hk, (fun id hid => by rw [List.mem_singleton.1 hid]; exact List.mem_cons_self ..), fun E fp a w hrd hents hfr => ?_⟩
                rw [hops, ha] at hrd
                have hlo := hfr lo (Nat.le_refl _) (by omega)
                have hp := ev_sat (E := E) (w := w) hrd (x := p) (by simp)
                rw [hep] at hp
                have hq := ev_sat (E := E) (w := w) hrd (x := q) (by simp)
                rw [heq] at hq
                have hent : ∀ i, i ∈ S → EntSat E w (fp i) i (find M i) := fun i hi => wf_block hents (List.mem_cons_of_mem _ hi)
                have hent0 := wf_block hents (List.mem_cons_self (a := i0) (l := S))
                rw [hf] at hent0
                obtain ⟨cells, c1, c2, c3⟩ := hsrc E fp w _ hent hq
                rw [← i2] at c2
                obtain ⟨s0, hs0, hrow⟩ := hent0
                have hp' : a.eval p = s0.val := by
                  generalize a.eval p = pv at hp
                  cases hp with
                  | sl _ s hs => obtain rfl := Option.some.inj (hs0.symm.trans hs); rfl
                have hci : ∀ id, id ∈ [i0] → id ∈ i0 :: S := fun id hid => by rw [List.mem_singleton.1 hid]; exact List.mem_cons_self ..
                rcases hrow with ⟨g1, g2, g3⟩ | ⟨o2, cp, arr, fz, g1, g2, g3, g4, g5, g6, g7⟩
                · -- it was nil
                  rw [g1] at hp'
                  subst g2
                  by_cases hz : ys.length = 0
                  · have hy : ys = [] := List.length_eq_zero_iff.1 hz
                    exact stay t [] ys [i0] (i0 :: S) E fp a w cells i i1 rfl hy hents hlo hp' c1 (c2 w rfl)
                  · exact grow t i zs [] ys [i0] (i0 :: S) none 0 #[] cells E fp a w i1 i2 i3 i4 i5 hci hents hlo (by simp; omega) hlim hp' c1 c2
                      (fun w' _ => none' w' _ _ _) ⟨rfl, fun j s hj => by simp [flatF] at hj⟩ c3
                · rw [g1] at hp'
                  exact core t i zs xs ys i0 S s0.blk o2 cp arr fz cells E fp a w i1 i2 i3 i4 i5 hents hlo hp' hlim c1 c2 c3 g2 g3 g4 g5 g6 g7
            · exact h.elim
          · exact h.elim
        · exact h.elim
    · exact h.elim
  · exact h.elim

end
end Go.Eng

/-! The engine, part U: equality of structs and arrays of plain parts. -/
set_option linter.unusedVariables false
namespace Go.Eng
variable [DM]
set_option linter.unusedSectionVars false

section
variable {P : Program}

theorem eqLv_cons {a b : Value} {l l' : List Value} {r : Bool} (h : eqLv (a :: l) (b :: l') = some r) : ∃ r1 r2, eq1 a b = some r1 ∧ eqLv l l' = some r2 ∧ r = (r1 && r2) := by
  cases l with
  | nil => cases l' with
    | nil => exact ⟨r, true, by simpa [eqLv] using h, rfl, by simp⟩
    | cons _ _ => simp only [eqLv] at h; split at h <;> cases h
  | cons c l =>
    cases l' with
    | nil => simp only [eqLv] at h; split at h <;> cases h
    | cons d l' =>
    rw [eqLv] at h
    · split at h
      · rename_i r1 h1
        split at h
        · rename_i r2 h2
          exact ⟨r1, r2, h1, h2, (Option.some.inj h).symm⟩
        · cases h
      · cases h
    · simp

theorem eqLv_length : ∀ (l l' : List Value) (r : Bool), eqLv l l' = some r → l.length = l'.length
  | [], [], _, _ => rfl
  | [], _ :: _, _, h => by simp [eqLv] at h
  | _ :: _, [], _, h => by simp [eqLv] at h
  | a :: l, b :: l', r, h => by
    obtain ⟨_, r2, _, h2, _⟩ := eqLv_cons h
    simp [eqLv_length l l' r2 h2]

theorem eqLv_split : ∀ (n : Nat) (l l' : List Value) (r : Bool), eqLv l l' = some r → n ≤ l.length →
    ∃ r1 r2, eqLv (l.take n) (l'.take n) = some r1 ∧ eqLv (l.drop n) (l'.drop n) = some r2 ∧ r = (r1 && r2)
  | 0, l, l', r, h, _ => ⟨true, r, by simp [eqLv], by simpa using h, by simp⟩
  | n + 1, [], l', r, h, hn => by simp at hn
  | n + 1, a :: l, [], r, h, hn => by have := eqLv_length _ _ _ h; simp at this
  | n + 1, a :: l, b :: l', r, h, hn => by
    obtain ⟨r1, r2, h1, h2, e⟩ := eqLv_cons h
    obtain ⟨s1, s2, g1, g2, e2⟩ := eqLv_split n l l' r2 h2 (by simpa using hn)
    refine ⟨r1 && s1, s2, ?_, by simpa using g2, by rw [e, e2, Bool.and_assoc]⟩
    simp only [List.take_succ_cons]
    generalize l.take n = p at g1
    generalize l'.take n = q at g1
    cases p with
    | nil => cases q with
      | nil => simp [eqLv] at g1; simp [eqLv, h1, ← g1]
      | cons _ _ => simp [eqLv] at g1
    | cons x p => cases q with
      | nil => simp [eqLv] at g1
      | cons y q => rw [eqLv]; · simp [h1, g1]
                    · simp

theorem kds_length (l : List Value) : (kds l).length = l.length := by simp [kds]
theorem kds_take (l : List Value) (n : Nat) : kds (l.take n) = (kds l).take n := by simp [kds]
theorem kds_drop (l : List Value) (n : Nat) : kds (l.drop n) = (kds l).drop n := by simp [kds]

/-- A value of a type, by its cells. -/
def ValOf (P : Program) (t : TypeId) (xs : List Value) (v : Value) : Prop := (aggOf P t = some true ∧ v = .agg xs.toArray) ∨ (aggOf P t = some false ∧ xs = [v])

theorem run_part {t : TypeId} {n o : Nat} {X : List Value} {w : World} (hn : szOf P t = some n) (hag : aggOf P t ≠ none) (h1 : aggOf P t = some false → n = 1) (hl : n ≤ (X.drop o).length) :
    ∃ v, (part t X.toArray o).run P w = .ok v w ∧ ValOf P t ((X.drop o).take n) v := by
  unfold part
  cases h : aggOf P t with
  | none => exact absurd h hag
  | some b =>
    rw [run_then (run_isAgg h w)]
    cases b with
    | true =>
      refine ⟨_, ?_, .inl ⟨h, rfl⟩⟩
      simp only [if_true]
      rw [run_then (run_sizeOf hn w)]
      have : X.toArray.extract o (o + n) = ((X.drop o).take n).toArray := by simp [List.extract_eq_take_drop]
      rw [this]; rfl
    | false =>
      have hn1 := h1 h
      subst hn1
      have ho : o < X.length := by rw [List.length_drop] at hl; omega
      refine ⟨X[o], ?_, .inr ⟨h, ?_⟩⟩
      · simp only [Bool.false_eq_true, if_false, List.getElem?_toArray]
        rw [List.getElem?_eq_getElem ho]; rfl
      · rw [List.drop_eq_getElem_cons ho, List.take_succ_cons, List.take_zero]

theorem lfs_agg {n : Nat} {t : TypeId} {l : List Nat} (h : lfs P n t = some l) : aggOf P t ≠ none ∧ (aggOf P t = some false → l.length = 1) := by
  cases n with
  | zero => simp [lfs] at h
  | succ n =>
    unfold lfs at h
    unfold aggOf
    split at h
    · rename_i hu; rw [hu]; obtain rfl := Option.some.inj h; exact ⟨by simp, fun _ => rfl⟩
    · rename_i hu; rw [hu]; obtain rfl := Option.some.inj h; exact ⟨by simp, fun _ => rfl⟩
    · rename_i hu; rw [hu]; obtain rfl := Option.some.inj h; exact ⟨by simp, fun _ => rfl⟩
    · rename_i hu; rw [hu]; exact ⟨by simp, fun h => by simp at h⟩
    · rename_i hu; rw [hu]; exact ⟨by simp, fun h => by simp at h⟩
    · cases h

theorem eq1_int {v : Value} {a : Value} {r : Bool} (h : eq1 a v = some r) (k : IntKind) (x : Int) (ha : a = .int k x) : ∃ y, v = .int k y ∧ r = (x == y) := by
  subst ha
  cases v <;> simp only [eq1] at h <;> try (cases h)
  rename_i k' y
  split at h
  · rename_i hk
    obtain rfl := eqK_eq hk
    exact ⟨y, rfl, (Option.some.inj h).symm⟩
  · cases h

theorem eq_run : ∀ (n : Nat),
    (∀ t ls, lfs P n t = some ls → ∀ (xs ys : List Value) r, kds xs = ls → kds ys = ls → eqLv xs ys = some r → ∀ d, n ≤ d → ∀ (w : World) vx vy, ValOf P t xs vx → ValOf P t ys vy → (Op.equalIn d t vx vy).run P w = .ok r w) ∧
    (∀ fs off ls, lfsF P n fs off = some ls → ∀ (X Y : List Value) r, kds (X.drop off) = ls → kds (Y.drop off) = ls → eqLv (X.drop off) (Y.drop off) = some r → ∀ d, n ≤ d + 1 → ∀ (w : World), (Op.eqFields d X.toArray Y.toArray fs).run P w = .ok r w) := by
  intro n
  induction n with
  | zero => exact ⟨fun t ls h => by simp [lfs] at h, fun fs off ls h => by simp [lfsF] at h⟩
  | succ n ih =>
    obtain ⟨ih1, ih2⟩ := ih
    have scal : ∀ {t : TypeId} {xs : List Value} {v : Value} {d : TypeDesc}, P.underlying t = some d → ValOf P t xs v → (∀ x, aggOf P t = some x → x = false) → xs = [v] := fun hu hv hf => by
      rcases hv with ⟨h1, _⟩ | ⟨_, h2⟩
      · have := hf _ h1; cases this
      · exact h2
    refine ⟨?_, ?_⟩
    · intro t ls h xs ys r hx hy he d hd w vx vy hvx hvy
      obtain ⟨d, rfl⟩ : ∃ d', d = d' + 1 := ⟨d - 1, by omega⟩
      unfold lfs at h
      split at h
      · rename_i k hu
        have hf : ∀ x, aggOf P t = some x → x = false := fun x hx => by unfold aggOf at hx; rw [hu] at hx; simpa using hx.symm
        obtain rfl := scal hu hvx hf
        obtain rfl := scal hu hvy hf
        obtain rfl := Option.some.inj h
        simp only [eqLv] at he
        cases vx <;> simp [kds, kd1] at hx
        rename_i k1 a
        obtain ⟨b, rfl, rfl⟩ := eq1_int he k1 a rfl
        exact run_equalIn_int w d t k1 k a b hu
      · rename_i hu
        have hf : ∀ x, aggOf P t = some x → x = false := fun x hx => by unfold aggOf at hx; rw [hu] at hx; simpa using hx.symm
        obtain rfl := scal hu hvx hf
        obtain rfl := scal hu hvy hf
        obtain rfl := Option.some.inj h
        simp only [eqLv] at he
        cases vx <;> simp [kds, kd1] at hx
        cases vy <;> simp [kds, kd1] at hy
        simp only [eq1, Option.some.injEq] at he
        subst he
        exact run_equalIn_bool' w d t _ _ hu
      · rename_i hu
        have hf : ∀ x, aggOf P t = some x → x = false := fun x hx => by unfold aggOf at hx; rw [hu] at hx; simpa using hx.symm
        obtain rfl := scal hu hvx hf
        obtain rfl := scal hu hvy hf
        obtain rfl := Option.some.inj h
        simp only [eqLv] at he
        cases vx <;> simp [kds, kd1] at hx
        cases vy <;> simp [kds, kd1] at hy
        simp only [eq1, Option.some.injEq] at he
        subst he
        rename_i a b
        rw [run_equalIn_string w d t a b hu, beq_toListBytes]
      · rename_i fs hu
        split at h
        · cases h
        · rename_i hs
          have hag : aggOf P t = some true := by unfold aggOf; rw [hu]
          have vagg : ∀ {xs v}, ValOf P t xs v → v = .agg xs.toArray := fun hv => by
            rcases hv with ⟨_, h2⟩ | ⟨h1, _⟩
            · exact h2
            · rw [hag] at h1; cases h1
          rw [vagg hvx, vagg hvy]
          have hfo : P.fieldsOf t = fs := by unfold Program.fieldsOf; rw [hu]
          rw [run_equalIn_struct w d t _ _ (by rw [hfo]; exact hu) hs, hfo]
          exact ih2 fs.toList 0 ls h xs ys r (by simpa using hx) (by simpa using hy) (by simpa using he) d (by omega) w
      · rename_i len e hu
        split at h
        · rename_i l sz hl hsz
          split at h
          · rename_i hb
            have hlen := Nat.eq_of_beq_eq_true hb
            have hls := Option.some.inj h
            have hag : aggOf P t = some true := by unfold aggOf; rw [hu]
            have vagg : ∀ {xs v}, ValOf P t xs v → v = .agg xs.toArray := fun hv => by
              rcases hv with ⟨_, h2⟩ | ⟨h1, _⟩
              · exact h2
              · rw [hag] at h1; cases h1
            rw [vagg hvx, vagg hvy]
            obtain ⟨i, hi⟩ : ∃ i, P.info? e = some i := by
              unfold szOf at hsz
              cases hi : P.info? e with
              | none => rw [hi] at hsz; cases hsz
              | some i => exact ⟨i, rfl⟩
            have hc : P.cellsOf e = sz := by
              unfold szOf at hsz; rw [hi] at hsz
              unfold Program.cellsOf; rw [hi]; simpa using hsz
            rw [run_equalIn_array w d _ _ hu hi, hc]
            obtain ⟨hna, hone⟩ := lfs_agg hl
            have key : ∀ (m j : Nat) r, kds (xs.drop (j * sz)) = (List.replicate m l).flatten → kds (ys.drop (j * sz)) = (List.replicate m l).flatten → eqLv (xs.drop (j * sz)) (ys.drop (j * sz)) = some r →
                (Op.eqItems d e sz xs.toArray ys.toArray (List.range' j m)).run P w = .ok r w := by
              intro m
              induction m with
              | zero =>
                intro j r h1 h2 h3
                have e1 : xs.drop (j * sz) = [] := List.eq_nil_of_length_eq_zero (by rw [← kds_length, h1]; rfl)
                have e2 : ys.drop (j * sz) = [] := List.eq_nil_of_length_eq_zero (by rw [← kds_length, h2]; rfl)
                rw [e1, e2] at h3
                simp [eqLv] at h3
                subst h3
                rfl
              | succ m ihm =>
                intro j r h1 h2 h3
                have hX : (xs.drop (j * sz)).length = sz + (List.replicate m l).flatten.length := by rw [← kds_length, h1, List.replicate_succ, List.flatten_cons, List.length_append, hlen]
                have hY : (ys.drop (j * sz)).length = sz + (List.replicate m l).flatten.length := by rw [← kds_length, h2, List.replicate_succ, List.flatten_cons, List.length_append, hlen]
                obtain ⟨r1, r2, g1, g2, rfl⟩ := eqLv_split sz _ _ r h3 (by omega)
                obtain ⟨v1, p1, q1⟩ := run_part (P := P) (t := e) (n := sz) (o := j * sz) (X := xs) (w := w) hsz hna (fun h => by rw [hlen]; exact hone h) (by omega)
                obtain ⟨v2, p2, q2⟩ := run_part (P := P) (t := e) (n := sz) (o := j * sz) (X := ys) (w := w) hsz hna (fun h => by rw [hlen]; exact hone h) (by omega)
                have kl : ∀ Z : List Value, kds Z = (List.replicate (m + 1) l).flatten → kds (Z.take sz) = l ∧ kds (Z.drop sz) = (List.replicate m l).flatten := fun Z hz => by
                  rw [List.replicate_succ, List.flatten_cons] at hz
                  refine ⟨by rw [kds_take, hz, hlen, List.take_left], by rw [kds_drop, hz, hlen, List.drop_left]⟩
                have hr := ih1 e l hl _ _ r1 (kl _ h1).1 (kl _ h2).1 g1 d (by omega) w v1 v2 q1 q2
                simp only [List.range'_succ, Op.eqItems, Sem.run_bind, p1, p2, hr, Result.andThen_ok]
                cases r1 with
                | false => simp
                | true =>
                  simp only [Bool.not_true, Bool.false_eq_true, if_false, Bool.true_and]
                  refine ihm (j + 1) r2 ?_ ?_ ?_
                  · rw [Nat.add_mul, Nat.one_mul, ← List.drop_drop]; exact (kl _ h1).2
                  · rw [Nat.add_mul, Nat.one_mul, ← List.drop_drop]; exact (kl _ h2).2
                  · rw [Nat.add_mul, Nat.one_mul, ← List.drop_drop, ← List.drop_drop]; exact g2
            rw [List.range_eq_range']
            exact key len 0 r (by simpa using hx.trans hls.symm) (by simpa using hy.trans hls.symm) (by simpa using he)
          · cases h
        · cases h
      · cases h
    · intro fs off ls h X Y r hx hy he d hd w
      unfold lfsF at h
      cases fs with
      | nil =>
        obtain rfl := Option.some.inj h
        have e1 : X.drop off = [] := List.eq_nil_of_length_eq_zero (by rw [← kds_length, hx]; rfl)
        have e2 : Y.drop off = [] := List.eq_nil_of_length_eq_zero (by rw [← kds_length, hy]; rfl)
        rw [e1, e2] at he
        simp [eqLv] at he
        subst he
        rfl
      | cons f fs =>
        dsimp only at h
        split at h
        · rename_i ks sz hname hoff hl hsz
          have hoff := Nat.eq_of_beq_eq_true hoff
          have hname : f.name ≠ "_" := of_decide_eq_false hname
          split at h
          · rename_i hb
            have hlen := Nat.eq_of_beq_eq_true hb
            split at h
            · rename_i rr hrr
              obtain rfl := Option.some.inj h
              obtain ⟨hna, hone⟩ := lfs_agg hl
              have hX : (X.drop off).length = sz + rr.length := by rw [← kds_length, hx, List.length_append, hlen]
              have hY : (Y.drop off).length = sz + rr.length := by rw [← kds_length, hy, List.length_append, hlen]
              cases n with
              | zero => simp [lfs] at hl
              | succ n' =>
              obtain ⟨r1, r2, g1, g2, rfl⟩ := eqLv_split sz _ _ r he (by omega)
              obtain ⟨v1, p1, q1⟩ := run_part (P := P) (t := f.type) (n := sz) (o := off) (X := X) (w := w) hsz hna (fun h => by rw [hlen]; exact hone h) (by omega)
              obtain ⟨v2, p2, q2⟩ := run_part (P := P) (t := f.type) (n := sz) (o := off) (X := Y) (w := w) hsz hna (fun h => by rw [hlen]; exact hone h) (by omega)
              have kl : ∀ Z : List Value, kds Z = ks ++ rr → kds (Z.take sz) = ks ∧ kds (Z.drop sz) = rr := fun Z hz =>
                ⟨by rw [kds_take, hz, hlen, List.take_left], by rw [kds_drop, hz, hlen, List.drop_left]⟩
              have hr := ih1 f.type ks hl _ _ r1 (kl _ hx).1 (kl _ hy).1 g1 d (by omega) w v1 v2 q1 q2
              unfold Op.eqFields
              rw [if_pos hname, hoff]
              simp only [Sem.run_bind, p1, p2, hr, Result.andThen_ok]
              cases r1 with
              | false => simp
              | true =>
                simp only [Bool.not_true, Bool.false_eq_true, if_false, Bool.true_and]
                refine ih2 fs (off + sz) rr hrr X Y r2 ?_ ?_ ?_ d (by omega) w
                · rw [← List.drop_drop]; exact (kl _ hx).2
                · rw [← List.drop_drop]; exact (kl _ hy).2
                · rw [← List.drop_drop, ← List.drop_drop]; exact g2
            · cases h
          · cases h
        · cases h

end
end Go.Eng
