/- The engine, part V: contracts out of walks (of the kit's or one's own). -/
import Derived.Test.YteckpdifeoffjaaDoorEngO
import Derived.Lib.LaidTab
import Derived.RowKit3
import Derived.Below
import Derived.Sort.Grow
import Derived.Deep.Draws
set_option linter.unusedVariables false
set_option linter.unusedSimpArgs false
namespace Go.Eng
open Go.RowKit (Below)

/-- The world behind: what lay there lies there. -/
theorem below_grow (w : World) (k : Nat) (os : Array Obj) : Below w.heap.size w (Go.Sort.grow (w.drewN k) os) :=
  ⟨rfl, rfl, rfl, by simp [Go.Sort.grow], fun j hj => by simp only [Go.Sort.grow, World.heap_drewN]; rw [Array.getElem?_append_left hj]⟩

/-- A function that lays nothing for its caller. -/
theorem ok_of_walk {C : Ctr} {P : Program} {f : FuncId} (hrw : ∀ x, C.rw x = []) (hout : ∀ x, C.out x (C.val x) = [])
    (h : ∀ x, C.side x → C.ens x (C.val x) ∧ ∀ (E : Env) (w : World) (vals : Array Value), vals.size = (C.args x).length →
      (∀ (j : Nat) (s : SV), (C.args x)[j]? = some s → Sat E w s (vals.getD j undef)) → GlobOk E w → (∀ b, E.I b ∨ E.B b → b < w.heap.size) →
      Calls P f vals w fun e w' => ∃ v, e = .returned v ∧ Sat E w' (C.res x (C.val x)) v ∧ Below w.heap.size w w') : C.ok P f := by
  intro x hside
  obtain ⟨he, hw⟩ := h x hside
  refine ⟨he, fun E fp vals w hsz hv hents hnames => ?_⟩
  refine callsIn_wide.2 (Calls.mono (hw E w vals hsz hv hents.gl hents.Ilt) ?_)
  rintro e w' ⟨v, rfl, hsat, hb⟩
  have hfp : ∀ id b, ¬ fp id b := fun id b hf => by
    have := hents.sat id
    rw [hrw x] at this
    exact this b hf
  have hst : Stays E w w' := fun b _ hlt => hb.block b hlt
  refine ⟨v, E, fp, rfl, hsat, ?_, ⟨⟨hb.os, ⟨hb.tape⟩, hb.output, hb.size, fun b hlt _ => hb.block b hlt⟩, .refl _, fun b h => .inl h, fun b h => h, fun id b h => .inl ⟨id, h⟩⟩, fun _ _ => rfl⟩
  rw [hout x]
  exact ⟨fun id b hf => hfp id b hf, fun id b hf => (hfp id b hf).elim, fun id b hf => (hfp id b hf).elim, fun id b hf => (hfp id b hf).elim, fun i j b _ hf => (hfp i b hf).elim,
    fun b hI => Nat.lt_of_lt_of_le (hents.Ilt b hI) hb.size, hents.nil, hents.glob hst (fun _ h => h)⟩

/-- A function without a body. -/
theorem okV_of_run {C : Ctr} {P : Program} {f : FuncId} (hrw : ∀ x, C.rw x = []) (hout : ∀ x, C.out x (C.val x) = [])
    (h : ∀ x, C.side x → C.ens x (C.val x) ∧ ∀ (E : Env) (w : World) (vals : Array Value), vals.size = (C.args x).length →
      (∀ (j : Nat) (s : SV), (C.args x)[j]? = some s → Sat E w s (vals.getD j undef)) → ∃ v, (callFunc f vals).run P w = .ok (.value v) w ∧ Sat E w (C.res x (C.val x)) v) : C.okV P f := by
  intro x hside
  obtain ⟨he, hw⟩ := h x hside
  refine ⟨he, fun E fp vals w hsz hv hents hnames => ?_⟩
  obtain ⟨v, h1, h2⟩ := hw E w vals hsz hv
  refine ⟨v, h1, v, E, fp, rfl, h2, ?_, .refl _ _ _, fun _ _ => rfl⟩
  rw [hout x]
  rw [hrw x] at hents
  exact hents

/-! ### Arguments -/

theorem sat_v {E : Env} {w : World} {a v : Value} (h : Sat E w (.v a) v) : v = a := by cases h; rfl

theorem vals_nil {vals : Array Value} (h : vals.size = 0) : vals = #[] := by simpa using h
theorem vals_one {vals : Array Value} (h : vals.size = 1) : vals = #[vals.getD 0 undef] := by
  match vals, h with
  | ⟨[a]⟩, _ => rfl
theorem vals_two {vals : Array Value} (h : vals.size = 2) : vals = #[vals.getD 0 undef, vals.getD 1 undef] := by
  match vals, h with
  | ⟨[a, b]⟩, _ => rfl
theorem vals_three {vals : Array Value} (h : vals.size = 3) : vals = #[vals.getD 0 undef, vals.getD 1 undef, vals.getD 2 undef] := by
  match vals, h with
  | ⟨[a, b, c]⟩, _ => rfl

/-- A slice of data: nil, or cells of memory. -/
theorem sat_ro {E : Env} {w : World} {b : Bool} {t : Ty} {xs : List t.den} {v : Value} (h : Sat E w (.ro b t xs) v) :
    (xs = [] ∧ ∃ A c, v = .slice A 0 c) ∨ ∃ k o c, v = .slice (some ⟨k, o, none⟩) xs.length c ∧ E.ok b k ∧ xs.length ≤ c ∧
      ∀ i x j sv, xs[i]? = some x → (enc t x)[j]? = some sv → ∃ u, w.cell? ⟨k, o + (i * t.size + j), none⟩ = some u ∧ Sat E w sv u := by
  cases h with
  | nil _ _ A c => exact .inl ⟨rfl, A, c, rfl⟩
  | ro _ _ _ k o c u hb hle hc hs =>
    refine .inr ⟨k, o, c, rfl, hb, hle, fun i x j sv hi hj => ⟨u (i * t.size + j), hc _ ?_, hs i x j sv hi hj⟩⟩
    have h1 := (List.getElem?_eq_some_iff.1 hi).1
    have h2 := (List.getElem?_eq_some_iff.1 hj).1
    rw [enc_length] at h2
    calc i * t.size + j < i * t.size + t.size := by omega
      _ = (i + 1) * t.size := by rw [Nat.add_mul, Nat.one_mul]
      _ ≤ xs.length * t.size := Nat.mul_le_mul_right _ h1

/-- A list of strings. -/
theorem sat_strs {E : Env} {w : World} {b : Bool} {xs : List ByteArray} {v : Value} (h : Sat E w (.ro b .str xs) v) :
    (xs = [] ∧ ∃ A c, v = .slice A 0 c) ∨ ∃ k o c, v = .slice (some ⟨k, o, none⟩) xs.length c ∧ E.ok b k ∧ xs.length ≤ c ∧
      ∀ (j : Nat) x, xs[j]? = some x → w.cell? ⟨k, o + j, none⟩ = some (.string x) := by
  rcases sat_ro h with h | ⟨k, o, c, h1, h2, h3, h4⟩
  · exact .inl h
  · refine .inr ⟨k, o, c, h1, h2, h3, fun j x hj => ?_⟩
    obtain ⟨u, hu, hs⟩ := h4 j x 0 (.v (.string x)) hj rfl
    rw [sat_v hs] at hu
    simpa [Ty.size] using hu

theorem env_ok_lt {E : Env} {w : World} {b : Bool} {k : Nat} (hI : ∀ b, E.I b ∨ E.B b → b < w.heap.size) (h : E.ok b k) : k < w.heap.size := hI k h.or

/-- The library's tables. -/
theorem glob_tab {E : Env} {w : World} {P : Program} {name : String} {k : IntKind} {zs : List Int} {g : Nat} {p : Array Value → Prop} (h : GlobOk E w) (hg : P.globalNamed name = some g)
    (hm : (g, p) ∈ gtab) (hp : ∀ a, p a → a = (zs.map fun z => Value.int k z).toArray) : Go.Lib.TabIs P w name k zs := by
  obtain ⟨_, a, t, fz, h1, h2⟩ := h g p hm
  unfold Go.Lib.TabIs World.var?
  rw [hg]
  simp only [Option.bind_eq_bind, Option.bind_some, h1, hp a h2]

end Go.Eng
