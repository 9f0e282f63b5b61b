/- The engine, part X: what an argument reads as is a datum of the engine's; behind a law's call it reads as it did. -/
import Derived.Test.YteckpdifeoffjaaDoorEngW
import Derived.Carry
import Derived.OpenShut
set_option linter.unusedVariables false
namespace Go.Eng

/-- The bounds that a datum out of the world keeps. -/
def okT : (t : Ty) → t.den → Prop
  | .int k, n => k.min ≤ n ∧ n ≤ k.max
  | .str, s => s.size ≤ 9223372036854775807
  | .sl t, xs => xs.length ≤ 9223372036854775807 ∧ ∀ x, x ∈ xs → okT t x
  | .pair a b, x => okT a x.1 ∧ okT b x.2
  | .arr _ t, f => ∀ i, okT t (f i)
  | _, _ => True

def fsAt (f : TypeId → Ty → Bool) : Nat → List Field → Ty → Bool
  | _, [], .unit => true
  | off, [g], T => Nat.beq g.offset off && f g.type T
  | off, g :: h :: l, .pair a b => Nat.beq g.offset off && f g.type a && fsAt f (off + a.size) (h :: l) b
  | _, _, _ => false

/-- T is the code of the program's type t. -/
def tyAt (P : Program) : Nat → TypeId → Ty → Bool
  | 0, _, _ => false
  | n + 1, t, T => Nat.beq (P.cellsOf t) T.size && (match P.underlying t with
    | some (.int k) => (match T with | .int k' => decide (k = k') | _ => false)
    | some .bool => (match T with | .bool => true | _ => false)
    | some .string => (match T with | .str => true | _ => false)
    | some (.slice e) => (match T with | .sl a => tyAt P n e a && Nat.blt 0 a.size | _ => false)
    | some (.struct fs) => fsAt (tyAt P n) 0 fs.toList T
    | some (.array len e) => (match T with | .arr m a => Nat.beq m len && tyAt P n e a | _ => false)
    | _ => false)

section
variable {H : Type} {en : TypeId × Value → H} {P : Program} {W : World} {base : Nat} {sp : Nat → Bool} {held : Bool}

theorem add_add (A : Addr) (x y : Nat) : (A.add x).add y = A.add (x + y) := by
  unfold Addr.add
  by_cases hx : x = 0 <;> by_cases hy : y = 0 <;> simp [hx, hy, Nat.add_assoc]

def Reads (W : World) (T : Ty) (cs : List Value) (off : Nat) : Prop :=
  ∃ d : T.den, okT T d ∧ ∀ (j : Nat) (sv : SV), (enc T d)[j]? = some sv → ∃ u, cs[off + j]? = some u ∧ Sat (startE W) W sv u

theorem idx_get : ∀ (n : Nat) (i : Fin n), (idx n)[i.1]? = some i
  | 0, i => i.elim0
  | n + 1, ⟨0, _⟩ => rfl
  | n + 1, ⟨i + 1, h⟩ => by
    simp only [idx, List.getElem?_cons_succ, List.getElem?_map]
    rw [idx_get n ⟨i, by omega⟩]
    rfl

theorem reads_one {T : Ty} {cs : List Value} {d : T.den} {s : SV} {v : Value} (hd : okT T d) (he : enc T d = [s]) (hc : cs = [v]) (hs : Sat (startE W) W s v) : Reads W T cs 0 := by
  refine ⟨d, hd, fun j sv hj => ?_⟩
  rw [he] at hj
  cases j with
  | zero =>
    obtain rfl : s = sv := by simpa using hj
    exact ⟨v, by simp [hc], hs⟩
  | succ j => simp at hj

theorem fields_read {n fuel : Nat} (ih : ∀ (t : TypeId) (T : Ty), tyAt P n t T = true → ∀ (cs : List Value) x, DataW.trod en P W base sp held fuel t cs = some x → Reads W T cs 0 ∧ cs.length = T.size) :
    ∀ (fs : List Field) (off : Nat) (T : Ty) (cs : List Value), fsAt (tyAt P n) off fs T = true → (∀ g, g ∈ fs → ∃ y, DataW.trod en P W base sp held fuel g.type ((cs.drop g.offset).take (P.cellsOf g.type)) = some y) → Reads W T cs off := by
  have one : ∀ (g : Field) (off : Nat) (T : Ty) (cs : List Value), g.offset = off → tyAt P n g.type T = true → (∃ y, DataW.trod en P W base sp held fuel g.type ((cs.drop g.offset).take (P.cellsOf g.type)) = some y) → Reads W T cs off := by
    rintro g off T cs rfl ht ⟨y, hy⟩
    obtain ⟨⟨d, h1, h2⟩, _⟩ := ih _ _ ht _ _ hy
    refine ⟨d, h1, fun j sv hj => ?_⟩
    obtain ⟨u, hu, hs⟩ := h2 j sv hj
    refine ⟨u, ?_, hs⟩
    rw [Nat.zero_add, List.getElem?_take] at hu
    split at hu
    · rw [List.getElem?_drop] at hu; exact hu
    · cases hu
  intro fs
  induction fs with
  | nil =>
    intro off T cs h _
    cases T <;> simp [fsAt] at h
    exact ⟨(), trivial, fun j sv hj => by simp [enc] at hj⟩
  | cons g l ihl =>
    intro off T cs h hall
    cases l with
    | nil =>
      have h' : (Nat.beq g.offset off && tyAt P n g.type T) = true := by cases T <;> exact h
      simp only [Bool.and_eq_true, Nat.beq_eq] at h'
      exact one g off T cs h'.1 h'.2 (hall g (List.mem_cons_self ..))
    | cons h2 l =>
      cases T <;> simp only [fsAt, Bool.false_eq_true] at h
      rename_i a b
      simp only [Bool.and_eq_true, Nat.beq_eq] at h
      obtain ⟨⟨h3, h4⟩, h5⟩ := h
      obtain ⟨d1, k1, k2⟩ := one g off a cs h3 h4 (hall g (List.mem_cons_self ..))
      obtain ⟨d2, k3, k4⟩ := ihl (off + a.size) b cs h5 (fun g' hg' => hall g' (List.mem_cons_of_mem _ hg'))
      refine ⟨(d1, d2), ⟨k1, k3⟩, fun j sv hj => ?_⟩
      simp only [enc] at hj
      rw [List.getElem?_append, enc_length] at hj
      split at hj
      · exact k2 j sv hj
      · obtain ⟨u, hu, hs⟩ := k4 _ sv hj
        exact ⟨u, by rw [← hu]; congr 1; omega, hs⟩

theorem reads : ∀ (n fuel : Nat) (t : TypeId) (T : Ty), tyAt P n t T = true → ∀ (cs : List Value) x, DataW.trod en P W base sp held fuel t cs = some x → Reads W T cs 0 ∧ cs.length = T.size := by
  intro n
  induction n with
  | zero => intro fuel t T h; simp [tyAt] at h
  | succ n ih =>
    intro fuel t T h cs x hx
    unfold tyAt at h
    simp only [Bool.and_eq_true, Nat.beq_eq] at h
    obtain ⟨hsz, h⟩ := h
    split at h
    · rename_i k hu
      cases T <;> simp only [Bool.false_eq_true] at h
      obtain rfl := of_decide_eq_true h
      obtain ⟨m, rfl, _, hw⟩ := DataW.trod_int hu hx
      simp only [Lit.wf, Bool.and_eq_true, decide_eq_true_eq] at hw
      exact ⟨reads_one (T := .int k) (d := m) hw rfl rfl (.v _), rfl⟩
    · rename_i hu
      cases T <;> simp only [Bool.false_eq_true] at h
      obtain ⟨b, rfl, _⟩ := DataW.trod_bool hu hx
      exact ⟨reads_one (T := .bool) (d := b) trivial rfl rfl (.v _), rfl⟩
    · rename_i hu
      cases T <;> simp only [Bool.false_eq_true] at h
      obtain ⟨s, rfl, _, hw⟩ := DataW.trod_string hu hx
      exact ⟨reads_one (T := .str) (d := s) hw rfl rfl (.v _), rfl⟩
    · rename_i e hu
      cases T <;> simp only [Bool.false_eq_true, Bool.and_eq_true] at h
      rename_i a
      obtain ⟨h1, h2⟩ := h
      have h2 : 0 < a.size := Nat.le_of_ble_eq_true h2
      have hce : P.cellsOf e = a.size := by
        cases n with
        | zero => simp [tyAt] at h1
        | succ n => unfold tyAt at h1; simp only [Bool.and_eq_true, Nat.beq_eq] at h1; exact h1.1
      rcases DataW.trod_slice hu hx with ⟨rfl, _⟩ | ⟨A, len, cap, elems, rest, m, rfl, rfl, _, hb, hle, hcap, hlen, hel, _⟩
      · exact ⟨reads_one (T := .sl a) (d := []) ⟨by simp, fun x hx => by cases hx⟩ rfl rfl (.nil _ _ _ _), rfl⟩
      · have each : ∀ i : Fin len, ∃ d : a.den, okT a d ∧ (∀ j, j < a.size → ∃ u, W.cell? (A.add (i * a.size + j)) = some u) ∧
            ∀ (j : Nat) (sv : SV), (enc a d)[j]? = some sv → ∃ u, W.cell? (A.add (i * a.size + j)) = some u ∧ Sat (startE W) W sv u := by
          intro i
          have h3 := hel i i.2
          have h4 : elems[i.1]? = some (elems[i.1]'(by omega)) := by simp
          rw [h4, Option.bind_eq_some_iff] at h3
          obtain ⟨cs, h5, h6⟩ := h3
          obtain ⟨⟨d, k1, k2⟩, k3⟩ := ih m e a h1 cs _ h6
          obtain ⟨_, g1, g2⟩ := World.cells?_some h5
          have hcell : ∀ j, j < a.size → W.cell? (A.add (i * a.size + j)) = cs[j]? := fun j hj => by
            have := g2 j (by omega)
            rw [hce] at this
            rw [← this]
            congr 1
            show A.add (i * a.size + j) = (A.add (i * a.size)).add j
            exact (add_add A _ _).symm
          refine ⟨d, k1, fun j hj => ?_, fun j sv hj => ?_⟩
          · have hj' : j < cs.length := by omega
            exact ⟨cs[j], by rw [hcell j hj]; simp [hj']⟩
          · obtain ⟨u, hu, hs⟩ := k2 j sv hj
            have hj' : j < a.size := by
              have := (List.getElem?_eq_some_iff.1 hj).1
              rw [enc_length] at this; exact this
            rw [Nat.zero_add] at hu
            exact ⟨u, by rw [hcell j hj']; exact hu, hs⟩
        let D : Fin len → a.den := fun i => Classical.choose (each i)
        have hD := fun i => Classical.choose_spec (each i)
        have hxs : (List.ofFn D).length = len := List.length_ofFn
        have hok : okT (.sl a) (List.ofFn D) := ⟨by rw [hxs]; have : maxLen = 9223372036854775807 := rfl; omega, fun x hx => by
          obtain ⟨i, rfl⟩ := List.mem_ofFn.1 hx
          exact (hD i).1⟩
        refine ⟨reads_one (T := .sl a) (d := List.ofFn D) hok rfl rfl ?_, rfl⟩
        rcases Nat.eq_zero_or_pos len with hl0 | hl0
        · have hnil : List.ofFn D = [] := List.eq_nil_of_length_eq_zero (by rw [hxs]; exact hl0)
          rw [hnil, hl0]
          exact .nil _ _ _ _
        · obtain ⟨u0, hu0⟩ := (hD ⟨0, by omega⟩).2.1 0 h2
          obtain ⟨k, o, spot⟩ := A
          have hspot : spot = none := by
            cases spot with
            | none => rfl
            | some q =>
              unfold World.cell? at hu0
              split at hu0
              · simp [Addr.add] at hu0
              · cases hu0
          subst hspot
          rw [add_none] at hu0
          have hk : k < W.heap.size := cell_lt hu0
          have := Sat.ro (E := startE W) (w := W) false a (List.ofFn D) k o cap (fun m => (W.cell? ⟨k, o + m, none⟩).getD undef) (.inl hk) (by omega) (fun m hm => ?_) (fun i x j sv hi hj => ?_)
          · rw [hxs] at this; exact this
          · rw [hxs] at hm
            have hi : m / a.size < len := (Nat.div_lt_iff_lt_mul h2).2 hm
            obtain ⟨u, hu⟩ := (hD ⟨m / a.size, hi⟩).2.1 (m % a.size) (Nat.mod_lt _ h2)
            have e1 : m / a.size * a.size + m % a.size = m := by rw [Nat.mul_comm]; exact Nat.div_add_mod m a.size
            rw [show (Addr.add ⟨k, o, none⟩ ((⟨m / a.size, hi⟩ : Fin len).1 * a.size + m % a.size)) = ⟨k, o + m, none⟩ by rw [add_none, e1]] at hu
            rw [hu]; rfl
          · obtain ⟨hi', rfl⟩ := List.getElem?_eq_some_iff.1 hi
            rw [hxs] at hi'
            rw [List.getElem_ofFn] at hj
            obtain ⟨u, hu, hs⟩ := (hD ⟨i, hi'⟩).2.2 j sv hj
            rw [add_none] at hu
            simp only [hu, Option.getD_some]; exact hs
    · rename_i fs hu
      obtain ⟨xs, m, rfl, _, hl, hlen, hf⟩ := DataW.trod_struct hu hx
      refine ⟨fields_read (ih m) fs.toList 0 T cs h (fun g hg => ?_), by omega⟩
      obtain ⟨i, hi, rfl⟩ := List.mem_iff_getElem.1 hg
      have hi' : i < fs.size := by simpa using hi
      have := hf i fs[i] (by simp [hi'])
      have h4 : xs[i]? = some (xs[i]'(by omega)) := by simp
      exact ⟨_, by rw [h4] at this; simpa using this⟩
    · rename_i len e hu
      cases T <;> simp only [Bool.false_eq_true, Bool.and_eq_true, Nat.beq_eq] at h
      rename_i m a
      obtain ⟨rfl, h1⟩ := h
      have hce : P.cellsOf e = a.size := by
        cases n with
        | zero => simp [tyAt] at h1
        | succ n => unfold tyAt at h1; simp only [Bool.and_eq_true, Nat.beq_eq] at h1; exact h1.1
      obtain ⟨xs, mf, rfl, _, hl, hlen, hf⟩ := DataW.trod_array hu hx
      refine ⟨?_, by omega⟩
      have each : ∀ i : Fin m, ∃ d : a.den, okT a d ∧ ∀ (j : Nat) (sv : SV), (enc a d)[j]? = some sv → ∃ u, cs[i * a.size + j]? = some u ∧ Sat (startE W) W sv u := by
        intro i
        have h3 := hf i i.2
        have h4 : xs[i.1]? = some (xs[i.1]'(by omega)) := by simp
        rw [h4, hce] at h3
        obtain ⟨⟨d, k1, k2⟩, _⟩ := ih mf e a h1 _ _ h3
        refine ⟨d, k1, fun j sv hj => ?_⟩
        obtain ⟨u, hu, hs⟩ := k2 j sv hj
        rw [Nat.zero_add, List.getElem?_take] at hu
        split at hu
        · rw [List.getElem?_drop] at hu; exact ⟨u, hu, hs⟩
        · cases hu
      let D : Fin m → a.den := fun i => Classical.choose (each i)
      have hD := fun i => Classical.choose_spec (each i)
      refine ⟨D, fun i => (hD i).1, fun j sv hj => ?_⟩
      rw [Nat.zero_add]
      simp only [enc] at hj
      have hsz' : ∀ i : Fin m, (enc a (D i)).length = a.size := fun i => enc_length a _
      have hjl : j < m * a.size := by
        have := (List.getElem?_eq_some_iff.1 hj).1
        rw [flatF_length _ a.size hsz', idx_length] at this
        exact this
      have hpos : 0 < a.size := by
        rcases Nat.eq_zero_or_pos a.size with h0 | h0
        · rw [h0] at hjl; simp at hjl
        · exact h0
      have hi : j / a.size < m := (Nat.div_lt_iff_lt_mul hpos).2 hjl
      have e1 : j / a.size * a.size + j % a.size = j := by rw [Nat.mul_comm]; exact Nat.div_add_mod j a.size
      have hg := flatF_get (fun i => enc a (D i)) a.size hsz' (idx m) (j / a.size) (j % a.size) ⟨j / a.size, hi⟩ (idx_get m ⟨j / a.size, hi⟩) (Nat.mod_lt _ hpos)
      rw [e1, hj] at hg
      obtain ⟨u, hu, hs⟩ := (hD ⟨j / a.size, hi⟩).2 (j % a.size) sv hg.symm
      exact ⟨u, by rw [← e1]; exact hu, hs⟩
    · cases h

/-- An argument of one cell. -/
theorem arg_one {t : TypeId} {T : Ty} {v : Value} {d : DataW H} {ps : List MemPlace} (n : Nat) (ht : tyAt P n t T = true) (h1 : ∀ x, ∃ s, enc T x = [s]) (hv : v.cells.toList = [v]) (h : DataW.Trod en P W base sp held t v d ps) :
    ∃ x : T.den, okT T x ∧ ∀ s, enc T x = [s] → Sat (startE W) W s v := by
  obtain ⟨fuel, h⟩ := h
  obtain ⟨⟨x, k1, k2⟩, _⟩ := reads n fuel t T ht _ _ h
  refine ⟨x, k1, fun s hs => ?_⟩
  obtain ⟨u, hu, hsat⟩ := k2 0 s (by rw [hs]; rfl)
  rw [hv] at hu
  obtain rfl : v = u := by simpa using hu
  exact hsat

/-- An argument that is a struct. -/
theorem arg_agg {t : TypeId} {T : Ty} {cs : Array Value} {d : DataW H} {ps : List MemPlace} (n : Nat) (ht : tyAt P n t T = true) (h : DataW.Trod en P W base sp held t (.agg cs) d ps) :
    ∃ x : T.den, okT T x ∧ Sat (startE W) W (.agg (enc T x)) (.agg cs) := by
  obtain ⟨fuel, h⟩ := h
  obtain ⟨⟨x, k1, k2⟩, hl⟩ := reads n fuel t T ht _ _ h
  have hl : cs.size = T.size := by simpa [Value.cells] using hl
  refine ⟨x, k1, .agg _ cs (fun j => cs.getD j undef) (by rw [hl, enc_length]) (fun j hj => ?_) (fun j sv hj => ?_)⟩
  · rw [enc_length] at hj
    have : j < cs.size := by omega
    simp [this]
  · obtain ⟨u, hu, hs⟩ := k2 j sv hj
    have : cs[j]? = some u := by simpa [Value.cells] using hu
    have e : cs.getD j undef = u := by simp [this]
    rw [e]; exact hs

theorem arg_slice {t e : TypeId} {a : Ty} {v : Value} {d : DataW H} {ps : List MemPlace} {r : Reach} {b0 : Nat} (n : Nat) (hu : P.underlying t = some (.slice e)) (hval : Value.okWide P W r b0 t v) (ht : tyAt P n t (.sl a) = true) (h : DataW.Trod en P W base sp held t v d ps) :
    ∃ x : List a.den, okT (.sl a) x ∧ Sat (startE W) W (.ro false a x) v := by
  obtain ⟨_, _, _, rfl⟩ := Go.WideShapes.okWide_slice hu hval
  obtain ⟨x, h1, h2⟩ := arg_one n ht (fun x => ⟨_, rfl⟩) rfl h
  exact ⟨x, h1, h2 _ rfl⟩
theorem arg_str {t : TypeId} {v : Value} {d : DataW H} {ps : List MemPlace} {r : Reach} {b0 : Nat} (n : Nat) (hu : P.underlying t = some .string) (hval : Value.okWide P W r b0 t v) (ht : tyAt P n t .str = true) (h : DataW.Trod en P W base sp held t v d ps) :
    ∃ x : ByteArray, okT .str x ∧ v = .string x := by
  obtain ⟨_, rfl⟩ := Go.WideShapes.okWide_string hu hval
  obtain ⟨x, h1, h2⟩ := arg_one n ht (fun x => ⟨_, rfl⟩) rfl h
  have := h2 _ rfl
  cases this
  exact ⟨_, h1, rfl⟩
theorem arg_bool {t : TypeId} {v : Value} {d : DataW H} {ps : List MemPlace} {r : Reach} {b0 : Nat} (hu : P.underlying t = some .bool) (hval : Value.okWide P W r b0 t v) : ∃ x : Bool, v = .bool x :=
  Go.WideShapes.okWide_bool hu hval
theorem arg_int {t : TypeId} {k : IntKind} {v : Value} {d : DataW H} {ps : List MemPlace} {r : Reach} {b0 : Nat} (hu : P.underlying t = some (.int k)) (hval : Value.okWide P W r b0 t v) (h : DataW.Trod en P W base sp held t v d ps) :
    ∃ n : Int, (k.min ≤ n ∧ n ≤ k.max) ∧ v = .int k n := by
  obtain ⟨n, rfl, _, _, hw⟩ := Go.ChangeShapes.open_int hu hval h
  simp only [Lit.wf, Bool.and_eq_true, decide_eq_true_eq] at hw
  exact ⟨n, hw, rfl⟩
theorem arg_struct {t : TypeId} {fs : Array Field} {T : Ty} {v : Value} {d : DataW H} {ps : List MemPlace} {r : Reach} {b0 : Nat} (n : Nat) (hu : P.underlying t = some (.struct fs)) (hval : Value.okWide P W r b0 t v) (ht : tyAt P n t T = true) (h : DataW.Trod en P W base sp held t v d ps) :
    ∃ x : T.den, okT T x ∧ Sat (startE W) W (.agg (enc T x)) v := by
  obtain ⟨_, rfl, _⟩ := Go.WideShapes.okWide_struct hu hval
  exact arg_agg n ht h

end
end Go.Eng
