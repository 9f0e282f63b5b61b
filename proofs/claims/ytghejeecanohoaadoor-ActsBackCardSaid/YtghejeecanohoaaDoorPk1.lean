/- Parts of the proof, one behind the other (EngA, EngZ, EngB, EngC, EngD, EngE). -/
import Derived.RangeFuncIn
import Derived.KernelRfl
import Derived.Below
import Derived.OrdersIn
import Derived.Laws.BytesArg
/-! The engine, part A: data types, symbolic values, symbolic memory, and what they mean in a world. No program in sight. -/
set_option linter.unusedVariables false
namespace Go.Eng
open Go.RowKit (Below)

/-- Codes of plain data. -/
inductive Ty where
  | int (k : IntKind)
  | bool
  | str
  | unit
  | sl (t : Ty)
  | pair (a b : Ty)
  | arr (n : Nat) (t : Ty)

@[reducible] def Ty.den : Ty → Type
  | .int _ => Int
  | .bool => Bool
  | .str => ByteArray
  | .unit => Unit
  | .sl t => List t.den
  | .pair a b => a.den × b.den
  | .arr n t => Fin n → t.den

def Ty.size : Ty → Nat
  | .unit => 0
  | .pair a b => a.size + b.size
  | .arr n t => n * t.size
  | _ => 1

/-- Symbolic values. -/
inductive SV : Type where
  | v (x : Value)
  | any
  | ptr (id off : Nat)
  | elp (id sz : Nat) (i : Int) (off : Nat)
  | rop (b : Bool) (cells : List SV) (off : Nat)
  | sl (id : Nat)
  | slc (id off len cap : Nat)
  | ro (b : Bool) (t : Ty) (xs : List t.den)
  | agg (l : List SV)
  | tuple (l : List SV)
  | func (fn : Fn) (first cap : List SV)
  | unkB (p : Bool → Prop)

def idx : (n : Nat) → List (Fin n)
  | 0 => []
  | n + 1 => 0 :: (idx n).map Fin.succ

def flatF {α : Type} (f : α → List SV) : List α → List SV
  | [] => []
  | a :: l => f a ++ flatF f l

/-- The cells that a datum fills. -/
def enc : (t : Ty) → t.den → List SV
  | .int k, n => [.v (.int k n)]
  | .bool, b => [.v (.bool b)]
  | .str, s => [.v (.string s)]
  | .unit, _ => []
  | .sl t, xs => [.ro false t xs]
  | .pair a b, x => enc a x.1 ++ enc b x.2
  | .arr n t, f => flatF (fun i => enc t (f i)) (idx n)

/-- Entries of symbolic memory. 'res': whatever else owns blocks: a predicate on its blocks and the world; F: the blocks beyond its own that it leans on. -/
inductive Ent : Type where
  | gone
  | cells (t : TypeId) (cs : List SV)
  | row (te : TypeId) (t : Ty) (xs : List t.den)
  | siter (s : ByteArray) (pos : Nat)
  | res (F : Nat → Prop) (A : (Nat → Prop) → (Nat → Prop) → World → Prop)

abbrev Tm := List (Nat × SV)
abbrev En := List (Nat × Ent)

def look : Tm → Nat → SV
  | [], _ => .any
  | (j, x) :: l, i => match Nat.beq j i with | true => x | false => look l i

def find : En → Nat → Ent
  | [], _ => .gone
  | (j, x) :: l, i => match Nat.beq j i with | true => x | false => find l i

theorem idx_length : ∀ n, (idx n).length = n
  | 0 => rfl
  | n + 1 => by simp [idx, idx_length n]

theorem flatF_length {α : Type} (f : α → List SV) (k : Nat) (h : ∀ a, (f a).length = k) : ∀ l : List α, (flatF f l).length = l.length * k
  | [] => by simp [flatF]
  | a :: l => by simp [flatF, h a, flatF_length f k h l, Nat.add_mul, Nat.add_comm]

theorem enc_length : ∀ (t : Ty) (x : t.den), (enc t x).length = t.size
  | .int _, _ => rfl
  | .bool, _ => rfl
  | .str, _ => rfl
  | .unit, _ => rfl
  | .sl _, _ => rfl
  | .pair a b, x => by simp [enc, Ty.size, enc_length a, enc_length b]
  | .arr n t, f => by
    simp only [enc, Ty.size]
    rw [flatF_length _ t.size (fun i => enc_length t (f i)), idx_length]

/-! ### What they mean -/

structure Slot where
  blk : Nat
  a : Option Addr
  n : Nat
  c : Nat

def Slot.val (s : Slot) : Value := .slice s.a s.n s.c

structure Env where
  slot : Nat → Option Slot
  I : Nat → Prop
  B : Nat → Prop

/-- Names of nil slices. -/
def nilB (i : Nat) : Bool := match Nat.ble 1984 i with | true => Nat.blt i 2000 | false => false
def nilSlot : Slot := ⟨0, none, 0, 0⟩
def NilOk (E : Env) : Prop := ∀ i, nilB i = true → E.slot i = some nilSlot
theorem nilB_lt {i : Nat} (h : i < 1984) : nilB i = false := by
  unfold nilB
  split
  · rename_i hb; have := Nat.le_of_ble_eq_true hb; omega
  · rfl
theorem nilB_ge {i : Nat} (h : 2000 ≤ i) : nilB i = false := by
  unfold nilB
  split
  · cases hb : Nat.blt i 2000 with
    | false => rfl
    | true => have := Nat.le_of_ble_eq_true hb; omega
  · rfl
theorem nilB_range {i : Nat} (h : nilB i = true) : 1984 ≤ i ∧ i < 2000 := by
  unfold nilB at h
  split at h
  · rename_i hb; exact ⟨Nat.le_of_ble_eq_true hb, Nat.le_of_ble_eq_true h⟩
  · cases h

def Env.ok (E : Env) (b : Bool) (k : Nat) : Prop := E.I k ∨ (b = true ∧ E.B k)

inductive Sat (E : Env) (w : World) : SV → Value → Prop where
  | v (x : Value) : Sat E w (.v x) x
  | any (x : Value) : Sat E w .any x
  | ptr (id off : Nat) (s : Slot) (h : E.slot id = some s) : Sat E w (.ptr id off) (.pointer (some ⟨s.blk, off, none⟩))
  | elp (id sz : Nat) (i : Int) (off : Nat) (s : Slot) (h : E.slot id = some s) (o n c : Nat) (hv : s.val = .slice (some ⟨s.blk, o, none⟩) n c) :
      Sat E w (.elp id sz i off) (.pointer (some ⟨s.blk, o + i.toNat * sz + off, none⟩))
  | rop (b : Bool) (cs : List SV) (off k o : Nat) (u : Nat → Value) (hb : E.ok b k) (hc : ∀ j, j < cs.length → w.cell? ⟨k, o + j, none⟩ = some (u j))
      (hs : ∀ j sv, cs[j]? = some sv → Sat E w sv (u j)) : Sat E w (.rop b cs off) (.pointer (some ⟨k, o + off, none⟩))
  | sl (id : Nat) (s : Slot) (h : E.slot id = some s) : Sat E w (.sl id) s.val
  | slc (id off len cap : Nat) (s : Slot) (h : E.slot id = some s) : Sat E w (.slc id off len cap) (.slice (some ⟨s.blk, off, none⟩) len cap)
  | nil (b : Bool) (t : Ty) (A : Option Addr) (c : Nat) : Sat E w (.ro b t []) (.slice A 0 c)
  | ro (b : Bool) (t : Ty) (xs : List t.den) (k o c : Nat) (u : Nat → Value) (hb : E.ok b k) (hle : xs.length ≤ c)
      (hc : ∀ m, m < xs.length * t.size → w.cell? ⟨k, o + m, none⟩ = some (u m))
      (hs : ∀ i x j sv, xs[i]? = some x → (enc t x)[j]? = some sv → Sat E w sv (u (i * t.size + j))) :
      Sat E w (.ro b t xs) (.slice (some ⟨k, o, none⟩) xs.length c)
  | agg (l : List SV) (vs : Array Value) (u : Nat → Value) (hl : vs.size = l.length) (hu : ∀ j, j < l.length → vs[j]? = some (u j))
      (hs : ∀ j sv, l[j]? = some sv → Sat E w sv (u j)) : Sat E w (.agg l) (.agg vs)
  | tuple (l : List SV) (vs : Array Value) (u : Nat → Value) (hl : vs.size = l.length) (hu : ∀ j, j < l.length → vs[j]? = some (u j))
      (hs : ∀ j sv, l[j]? = some sv → Sat E w sv (u j)) : Sat E w (.tuple l) (.tuple vs)
  | func (fn : Fn) (f c : List SV) (vf vc : Array Value) (uf uc : Nat → Value) (hf : vf.size = f.length) (hc : vc.size = c.length)
      (huf : ∀ j, j < f.length → vf[j]? = some (uf j)) (huc : ∀ j, j < c.length → vc[j]? = some (uc j))
      (hsf : ∀ j sv, f[j]? = some sv → Sat E w sv (uf j)) (hsc : ∀ j sv, c[j]? = some sv → Sat E w sv (uc j)) :
      Sat E w (.func fn f c) (.func fn vf vc)
  | unkB (p : Bool → Prop) (b : Bool) (h : p b) : Sat E w (.unkB p) (.bool b)

/-- E' knows all that E knows. -/
structure Env.le (E E' : Env) : Prop where
  slot : ∀ id s, E.slot id = some s → E'.slot id = some s
  I : ∀ k, E.I k → E'.I k
  B : ∀ k, E.B k → E'.B k

theorem NilOk.mono {E E' : Env} (h : NilOk E) (k : E.le E') : NilOk E' := fun i hi => k.slot i _ (h i hi)

theorem Env.le.refl (E : Env) : E.le E := ⟨fun _ _ h => h, fun _ h => h, fun _ h => h⟩
theorem Env.le.trans {E E' E'' : Env} (h : E.le E') (k : E'.le E'') : E.le E'' :=
  ⟨fun id s e => k.slot id s (h.slot id s e), fun i e => k.I i (h.I i e), fun i e => k.B i (h.B i e)⟩
theorem Env.le.ok {E E' : Env} (h : E.le E') {b : Bool} {k : Nat} (hk : E.ok b k) : E'.ok b k := hk.imp (h.I k) (fun ⟨a, c⟩ => ⟨a, h.B k c⟩)

/-- What is read only lies as it lay. -/
def Stays (E : Env) (w w' : World) : Prop := ∀ k, E.I k ∨ E.B k → k < w.heap.size → w'.heap[k]? = w.heap[k]?

theorem Env.ok.or {E : Env} {b : Bool} {k : Nat} (h : E.ok b k) : E.I k ∨ E.B k := h.imp id And.right

theorem cell_lt {w : World} {a : Addr} {v : Value} (h : w.cell? a = some v) : a.block < w.heap.size := by
  unfold World.cell? at h
  split at h
  · rename_i e
    exact (Array.getElem?_eq_some_iff.1 e).1
  · cases h

theorem cell_same {w w' : World} {a : Addr} (h : w'.heap[a.block]? = w.heap[a.block]?) : w'.cell? a = w.cell? a := by
  unfold World.cell?; rw [h]

theorem Stays.cell {E : Env} {w w' : World} (h : Stays E w w') {b : Bool} {k o : Nat} {v : Value} (hb : E.ok b k) (hc : w.cell? ⟨k, o, none⟩ = some v) :
    w'.cell? ⟨k, o, none⟩ = some v := by
  rw [cell_same (w := w) (h k hb.or (cell_lt hc))]; exact hc

theorem Sat.mono {E E' : Env} {w w' : World} (hE : E.le E') (hw : Stays E w w') {sv : SV} {v : Value} (h : Sat E w sv v) : Sat E' w' sv v := by
  induction h with
  | v x => exact .v x
  | any x => exact .any x
  | ptr id off s h => exact .ptr id off s (hE.slot _ _ h)
  | elp id sz i off s h o n c hv => exact .elp id sz i off s (hE.slot _ _ h) o n c hv
  | rop b cs off k o u hb hc hs ih => exact .rop b cs off k o u (hE.ok hb) (fun j hj => hw.cell hb (hc j hj)) ih
  | sl id s h => exact .sl id s (hE.slot _ _ h)
  | slc id off len cap s h => exact .slc id off len cap s (hE.slot _ _ h)
  | nil b t A c => exact .nil b t A c
  | ro b t xs k o c u hb hle hc hs ih => exact .ro b t xs k o c u (hE.ok hb) hle (fun m hm => hw.cell hb (hc m hm)) ih
  | agg l vs u hl hu hs ih => exact .agg l vs u hl hu ih
  | tuple l vs u hl hu hs ih => exact .tuple l vs u hl hu ih
  | func fn f c vf vc uf uc hf hc huf huc hsf hsc ihf ihc => exact .func fn f c vf vc uf uc hf hc huf huc ihf ihc
  | unkB p b h => exact .unkB p b h

end Go.Eng

/-! The package-level variables of the library that the row lists, and what their memory holds. -/
set_option linter.unusedVariables false
namespace Go.Eng

/-- The numbers of the variables, each with what is known of its cells. -/
def gtab : List (Nat × (Array Value → Prop)) :=
  (3, fun a => a = ((List.range 20).map fun i => Value.int .u64 ((10 ^ i : Nat) : Int)).toArray) ::
  (0, fun a => ∃ te pe, a = #[.iface te pe]) ::
  (1, fun a => ∃ te pe, a = #[.iface te pe]) ::
  (2, fun a => ∃ m, a = #[.int .i64 m]) ::
  []

end Go.Eng

/-! The engine, part B: what entries mean, what a step keeps, and the frame rule. -/
set_option linter.unusedVariables false
namespace Go.Eng

def unfrozen (fz : Nat × Nat) (n : Nat) : Prop := fz.1 = fz.2 ∨ n ≤ fz.1
theorem unfrozen.at {fz : Nat × Nat} {n : Nat} (h : unfrozen fz n) (o : Nat) (ho : o < n) : ¬ (fz.1 ≤ o ∧ o < fz.2) := by unfold unfrozen at h; omega

def EntSat (E : Env) (w : World) (fp : Nat → Prop) (id : Nat) : Ent → Prop
  | .gone => ∀ b, ¬ fp b
  | .cells t cs => ∃ (s : Slot) (arr : Array Value) (fz : Nat × Nat), E.slot id = some s ∧ (∀ b, fp b ↔ b = s.blk) ∧ w.heap[s.blk]? = some (.cells arr t fz) ∧ unfrozen fz arr.size ∧
      arr.size = cs.length ∧ ∀ (j : Nat) (sv : SV), cs[j]? = some sv → ∃ u, arr[j]? = some u ∧ Sat E w sv u
  | .row te t xs => ∃ (s : Slot), E.slot id = some s ∧ ((s.val = .slice none 0 0 ∧ xs = [] ∧ ∀ b, ¬ fp b) ∨
      ∃ (o c : Nat) (arr : Array Value) (fz : Nat × Nat), s.val = .slice (some ⟨s.blk, o, none⟩) xs.length c ∧ (∀ b, fp b ↔ b = s.blk) ∧ w.heap[s.blk]? = some (.cells arr te fz) ∧ unfrozen fz arr.size ∧
        xs.length ≤ c ∧ o + c * t.size = arr.size ∧
        ∀ (i : Nat) (x : t.den) (j : Nat) (sv : SV), xs[i]? = some x → (enc t x)[j]? = some sv → ∃ u, arr[o + i * t.size + j]? = some u ∧ Sat E w sv u)
  | .siter s pos => ∃ (sl : Slot), E.slot id = some sl ∧ (∀ b, fp b ↔ b = sl.blk) ∧ w.heap[sl.blk]? = some (.stringIter s pos)
  | .res F A => (∀ b, F b → (E.I b ∨ E.B b) ∧ b < w.heap.size) ∧ ∃ J : Nat → Prop, (∀ b, J b → E.I b ∧ b < w.heap.size) ∧ A J fp w ∧
      ∀ w', w.heap.size ≤ w'.heap.size → (∀ b, fp b ∨ F b ∨ J b → w'.heap[b]? = w.heap[b]?) → A J fp w'

theorem EntSat.mono {E E' : Env} {w w' : World} {fp : Nat → Prop} {id : Nat} {e : Ent} (hE : E.le E') (hs : Stays E w w') (hz : w.heap.size ≤ w'.heap.size)
    (hb : ∀ b, fp b → w'.heap[b]? = w.heap[b]?) (h : EntSat E w fp id e) : EntSat E' w' fp id e := by
  cases e with
  | gone => exact h
  | cells t cs =>
    obtain ⟨s, arr, fz, h1, h2, h3, h4, h5, h6⟩ := h
    exact ⟨s, arr, fz, hE.slot _ _ h1, h2, (hb _ ((h2 _).2 rfl)).trans h3, h4, h5, fun j sv hj => let ⟨u, hu, hsat⟩ := h6 j sv hj; ⟨u, hu, hsat.mono hE hs⟩⟩
  | row te t xs =>
    obtain ⟨s, h1, h2⟩ := h
    refine ⟨s, hE.slot _ _ h1, ?_⟩
    rcases h2 with h2 | ⟨o, c, arr, fz, g1, g2, g3, g4, g5, g6, g7⟩
    · exact .inl h2
    · exact .inr ⟨o, c, arr, fz, g1, g2, (hb _ ((g2 _).2 rfl)).trans g3, g4, g5, g6, fun i x j sv hi hj => let ⟨u, hu, hsat⟩ := g7 i x j sv hi hj; ⟨u, hu, hsat.mono hE hs⟩⟩
  | siter s pos =>
    obtain ⟨sl, h1, h2, h3⟩ := h
    exact ⟨sl, hE.slot _ _ h1, h2, (hb _ ((h2 _).2 rfl)).trans h3⟩
  | res F A =>
    obtain ⟨hF, J, hJ, hA, hst⟩ := h
    have hsame : ∀ b, fp b ∨ F b ∨ J b → w'.heap[b]? = w.heap[b]? := fun b h => by
      rcases h with h | h | h
      · exact hb b h
      · exact hs b (hF b h).1 (hF b h).2
      · exact hs b (.inl (hJ b h).1) (hJ b h).2
    exact ⟨fun b hf => ⟨(hF b hf).1.imp (hE.I b) (hE.B b), Nat.lt_of_lt_of_le (hF b hf).2 hz⟩, J, fun b h => ⟨hE.I b (hJ b h).1, Nat.lt_of_lt_of_le (hJ b h).2 hz⟩, hst w' hz hsame,
      fun w'' hz' hb' => hst w'' (Nat.le_trans hz hz') (fun b hf => (hb' b hf).trans (hsame b hf))⟩

/-- The package-level variables that are known. -/
def GlobOk (E : Env) (w : World) : Prop := ∀ g p, (g, p) ∈ gtab → E.I g ∧ ∃ (a : Array Value) (t : TypeId) (fz : Nat × Nat), w.heap[g]? = some (.cells a t fz) ∧ p a
theorem GlobOk.mono {E E' : Env} {w w' : World} (h : GlobOk E w) (hI : ∀ b, E.I b → E'.I b) (hw : ∀ b, E.I b → w'.heap[b]? = w.heap[b]?) : GlobOk E' w' := fun g p hp => by
  obtain ⟨h1, a, t, fz, h2, h3⟩ := h g p hp
  exact ⟨hI g h1, a, t, fz, (hw g h1).trans h2, h3⟩

structure EntsSat (E : Env) (w : World) (fp : Nat → Nat → Prop) (M : En) : Prop where
  sat : ∀ id, EntSat E w (fp id) id (find M id)
  lt : ∀ id b, fp id b → b < w.heap.size
  I : ∀ id b, fp id b → ¬ E.I b
  B : ∀ id b, fp id b → ¬ E.B b
  apart : ∀ i j b, i ≠ j → fp i b → fp j b → False
  Ilt : ∀ b, E.I b ∨ E.B b → b < w.heap.size
  nil : NilOk E
  gl : GlobOk E w

def own (fp : Nat → Nat → Prop) (b : Nat) : Prop := ∃ id, fp id b

/-- The tape stands. -/
structure TF (w w' : World) : Prop where
  tape : w'.tape = w.tape
theorem TF.refl (w : World) : TF w w := ⟨rfl⟩
theorem TF.trans {w w1 w2 : World} (h : TF w1 w2) (k : TF w w1) : TF w w2 := ⟨h.tape.trans k.tape⟩

structure Keep (own : Nat → Prop) (w w' : World) : Prop where
  os : w'.os = w.os
  tape : TF w w'
  output : w'.output = w.output
  size : w.heap.size ≤ w'.heap.size
  same : ∀ b, b < w.heap.size → ¬ own b → w'.heap[b]? = w.heap[b]?

theorem Keep.refl (o : Nat → Prop) (w : World) : Keep o w w := ⟨rfl, .refl w, rfl, Nat.le_refl _, fun _ _ _ => rfl⟩
theorem Keep.mono {o o' : Nat → Prop} {w w' : World} (h : Keep o w w') (ho : ∀ b, o b → o' b) : Keep o' w w' :=
  ⟨h.os, h.tape, h.output, h.size, fun b hb hn => h.same b hb (fun x => hn (ho b x))⟩

structure Adv (E : Env) (fp : Nat → Nat → Prop) (w : World) (E' : Env) (fp' : Nat → Nat → Prop) (w' : World) : Prop where
  keep : Keep (own fp) w w'
  le : E.le E'
  Inew : ∀ b, E'.I b → E.I b ∨ own fp b ∨ w.heap.size ≤ b
  Beq : ∀ b, E'.B b → E.B b
  onew : ∀ id b, fp' id b → own fp b ∨ w.heap.size ≤ b

theorem Adv.refl (E : Env) (fp : Nat → Nat → Prop) (w : World) : Adv E fp w E fp w :=
  ⟨.refl _ _, .refl _, fun _ h => .inl h, fun _ h => h, fun id _ h => .inl ⟨id, h⟩⟩

theorem Adv.trans {E E1 E2 : Env} {fp fp1 fp2 : Nat → Nat → Prop} {w w1 w2 : World} (h : Adv E fp w E1 fp1 w1) (k : Adv E1 fp1 w1 E2 fp2 w2) : Adv E fp w E2 fp2 w2 := by
  have onew : ∀ b, own fp1 b → own fp b ∨ w.heap.size ≤ b := fun b ⟨id, hb⟩ => h.onew id b hb
  refine ⟨⟨k.keep.os.trans h.keep.os, k.keep.tape.trans h.keep.tape, k.keep.output.trans h.keep.output, Nat.le_trans h.keep.size k.keep.size, fun b hb hn => ?_⟩, h.le.trans k.le, fun b hb => ?_, fun b hb => h.Beq b (k.Beq b hb), fun id b hb => ?_⟩
  · rw [k.keep.same b (Nat.lt_of_lt_of_le hb h.keep.size) (fun ho => ?_), h.keep.same b hb hn]
    rcases onew b ho with h1 | h1
    · exact hn h1
    · omega
  · rcases k.Inew b hb with h1 | h1 | h1
    · exact h.Inew b h1
    · exact .inr (onew b h1)
    · have := h.keep.size; exact .inr (.inr (by omega))
  · rcases k.onew id b hb with h1 | h1
    · exact onew b h1
    · have := h.keep.size; exact .inr (by omega)

theorem EntsSat.stays {E : Env} {w w' : World} {fp : Nat → Nat → Prop} {M : En} (h : EntsSat E w fp M) (k : Keep (own fp) w w') : Stays E w w' := by
  intro b hb hlt
  refine k.same b hlt ?_
  rintro ⟨id, hf⟩
  rcases hb with hb | hb
  · exact h.I id b hf hb
  · exact h.B id b hf hb

theorem EntsSat.glob {E E' : Env} {w w' : World} {fp : Nat → Nat → Prop} {M : En} (h : EntsSat E w fp M) (hst : Stays E w w') (hI : ∀ b, E.I b → E'.I b) : GlobOk E' w' :=
  h.gl.mono hI fun b hb => hst b (.inl hb) (h.Ilt b (.inl hb))

/-! ### Parts of memory -/

def sub (M : En) (S : List Nat) : En := S.map fun id => (id, find M id)
def gones (ci : List Nat) : En := ci.map fun id => (id, .gone)
def upd (eo : En) (ci : List Nat) (M : En) : En := eo ++ (gones ci ++ M)
def keys (M : En) : List Nat := M.map (·.1)

theorem find_append (A B : En) (id : Nat) : find (A ++ B) id = if id ∈ keys A then find A id else find B id := by
  induction A with
  | nil => simp [keys]
  | cons p A ih =>
    obtain ⟨j, x⟩ := p
    by_cases h : j = id
    · subst h; simp [find, keys]
    · have hb : Nat.beq j id = false := by rw [← Bool.not_eq_true, Nat.beq_eq]; exact h
      have h' : ¬ id = j := fun e => h e.symm
      simp only [List.cons_append, find, hb, ih, keys, List.map_cons, List.mem_cons, h', false_or]
      rfl

theorem find_gones (ci : List Nat) (id : Nat) : find (gones ci) id = .gone := by
  induction ci with
  | nil => rfl
  | cons j l ih =>
    simp only [gones, List.map_cons, find]
    split
    · rfl
    · exact ih

theorem find_sub (M : En) (S : List Nat) (id : Nat) : find (sub M S) id = if id ∈ S then find M id else .gone := by
  induction S with
  | nil => simp [sub, find]
  | cons j l ih =>
    by_cases h : j = id
    · subst h; simp [sub, find]
    · have hb : Nat.beq j id = false := by rw [← Bool.not_eq_true, Nat.beq_eq]; exact h
      have h' : ¬ id = j := fun e => h e.symm
      have e : find (sub M (j :: l)) id = find (sub M l) id := by simp only [sub, List.map_cons, find, hb]
      rw [e, ih]
      simp [h']

theorem keys_gones (ci : List Nat) : keys (gones ci) = ci := by simp [keys, gones, Function.comp_def]

theorem find_upd (eo : En) (ci : List Nat) (M : En) (id : Nat) :
    find (upd eo ci M) id = if id ∈ keys eo then find eo id else if id ∈ ci then .gone else find M id := by
  unfold upd
  rw [find_append, find_append, keys_gones, find_gones]

open Classical in
/-- The footprints of a part. -/
noncomputable def only (S : List Nat) (fp : Nat → Nat → Prop) : Nat → Nat → Prop := fun id => if id ∈ S then fp id else fun _ => False
open Classical in
noncomputable def both (S : List Nat) (fp fp' : Nat → Nat → Prop) : Nat → Nat → Prop := fun id => if id ∈ S then fp' id else fp id

theorem own_only {S : List Nat} {fp : Nat → Nat → Prop} {b : Nat} (h : own (only S fp) b) : ∃ id, id ∈ S ∧ fp id b := by
  obtain ⟨id, h⟩ := h
  unfold only at h
  split at h
  · exact ⟨id, ‹_›, h⟩
  · exact h.elim

theorem EntsSat.part {E : Env} {w : World} {fp : Nat → Nat → Prop} {M : En} (h : EntsSat E w fp M) (S : List Nat) : EntsSat E w (only S fp) (sub M S) := by
  have hsub : ∀ id b, only S fp id b → fp id b := fun id b hb => by unfold only at hb; split at hb; exact hb; exact hb.elim
  refine ⟨fun id => ?_, fun id b hb => h.lt id b (hsub id b hb), fun id b hb => h.I id b (hsub id b hb), fun id b hb => h.B id b (hsub id b hb), fun i j b hij hi hj => h.apart i j b hij (hsub i b hi) (hsub j b hj), h.Ilt, h.nil, h.gl⟩
  rw [find_sub]
  unfold only
  split
  · exact h.sat id
  · exact fun _ hb => hb

/-- THE FRAME RULE: a step on a part is a step on the whole. -/
theorem EntsSat.frame {E E' : Env} {w w' : World} {fp fp1 : Nat → Nat → Prop} {M eo : En} {S ci : List Nat} (h : EntsSat E w fp M)
    (hl : EntsSat E' w' fp1 (upd eo ci (sub M S))) (ha : Adv E (only S fp) w E' fp1 w') (hci : ∀ id, id ∈ ci → id ∈ S) :
    EntsSat E' w' (both (S ++ keys eo) fp fp1) (upd eo ci M) ∧ Adv E fp w E' (both (S ++ keys eo) fp fp1) w' := by
  have hown : ∀ b, own (only S fp) b → own fp b := fun b hb => let ⟨id, _, hf⟩ := own_only hb; ⟨id, hf⟩
  have hkeep : ∀ id b, id ∉ S → fp id b → w'.heap[b]? = w.heap[b]? := fun id b hid hf =>
    ha.keep.same b (h.lt id b hf) (fun ho => by
      obtain ⟨j, hj, hfj⟩ := own_only ho
      exact h.apart id j b (fun e => hid (e ▸ hj)) hf hfj)
  have hst : Stays E w w' := h.stays (ha.keep.mono hown)
  have hin : ∀ {id}, id ∈ S ++ keys eo → both (S ++ keys eo) fp fp1 id = fp1 id := fun hid => by unfold both; rw [if_pos hid]
  have hout : ∀ {id}, id ∉ S ++ keys eo → both (S ++ keys eo) fp fp1 id = fp id := fun hid => by unfold both; rw [if_neg hid]
  have newI : ∀ id b, id ∉ S → fp id b → ¬ E'.I b := fun id b hid hf hI => by
    rcases ha.Inew b hI with h1 | h1 | h1
    · exact h.I id b hf h1
    · obtain ⟨j, hj, hfj⟩ := own_only h1
      exact h.apart id j b (fun e => hid (e ▸ hj)) hf hfj
    · have := h.lt id b hf; omega
  have cross : ∀ i j b, i ∉ S ++ keys eo → fp i b → fp1 j b → False := fun i j b hi hf hf1 => by
    have hiS : i ∉ S := fun e => hi (List.mem_append_left _ e)
    rcases ha.onew j b hf1 with h1 | h1
    · obtain ⟨k, hk, hfk⟩ := own_only h1
      exact h.apart i k b (fun e => hiS (e ▸ hk)) hf hfk
    · have := h.lt i b hf; omega
  refine ⟨⟨fun id => ?_, fun id b hb => ?_, fun id b hb => ?_, fun id b hb => ?_, fun i j b hij hi hj => ?_, ?_, hl.nil, hl.gl⟩, ⟨ha.keep.mono hown, ha.le, fun b hb => ?_, ha.Beq, fun id b hb => ?_⟩⟩
  · by_cases hid : id ∈ S ++ keys eo
    · rw [hin hid]
      have := hl.sat id
      rw [find_upd, find_sub] at this
      rw [find_upd]
      by_cases hk : id ∈ keys eo
      · simpa only [hk, if_true] using this
      · have hS : id ∈ S := (List.mem_append.1 hid).resolve_right hk
        simpa only [hk, if_false, hS, if_true] using this
    · rw [hout hid, find_upd]
      have hk : id ∉ keys eo := fun e => hid (List.mem_append_right _ e)
      have hS : id ∉ S := fun e => hid (List.mem_append_left _ e)
      rw [if_neg hk, if_neg (fun e => hS (hci id e))]
      exact (h.sat id).mono ha.le hst ha.keep.size (fun b hf => hkeep id b hS hf)
  · by_cases hid : id ∈ S ++ keys eo
    · rw [hin hid] at hb; exact hl.lt id b hb
    · rw [hout hid] at hb; exact Nat.lt_of_lt_of_le (h.lt id b hb) ha.keep.size
  · by_cases hid : id ∈ S ++ keys eo
    · rw [hin hid] at hb; exact hl.I id b hb
    · rw [hout hid] at hb; exact newI id b (fun e => hid (List.mem_append_left _ e)) hb
  · by_cases hid : id ∈ S ++ keys eo
    · rw [hin hid] at hb; exact hl.B id b hb
    · rw [hout hid] at hb; exact fun hB => h.B id b hb (ha.Beq b hB)
  · by_cases h1 : i ∈ S ++ keys eo <;> by_cases h2 : j ∈ S ++ keys eo
    · rw [hin h1] at hi; rw [hin h2] at hj; exact hl.apart i j b hij hi hj
    · rw [hin h1] at hi; rw [hout h2] at hj; exact cross j i b h2 hj hi
    · rw [hout h1] at hi; rw [hin h2] at hj; exact cross i j b h1 hi hj
    · rw [hout h1] at hi; rw [hout h2] at hj; exact h.apart i j b hij hi hj
  · exact hl.Ilt
  · exact (ha.Inew b hb).imp id (Or.imp (hown b) id)
  · by_cases hid : id ∈ S ++ keys eo
    · rw [hin hid] at hb; exact (ha.onew id b hb).imp (hown b) (fun h => h)
    · rw [hout hid] at hb; exact .inl ⟨id, hb⟩

end Go.Eng

/-! The engine, part C: one operation; a region's operations, in whatever order the region allows. -/
set_option linter.unusedVariables false
namespace Go.Eng

def fence (r : Option Nat) : Fence := { Fence.wide with round := r }
theorem fence_fn (r : Option Nat) (f : FuncId) : (fence r).fn f := trivial
theorem fence_depth (r : Option Nat) : (fence r).depth = none := rfl

def OpRun (r : Option Nat) (P : Program) (o : Oper) (a : Act) (w : World) (R : Value → World → Prop) : Prop :=
  o.wpIn (fence r) 0 P a w (fun a' w' => ∃ v, a' = a.put o.dst v ∧ R v w') (fun _ _ _ => False)

theorem OpRun.value {r : Option Nat} {P : Program} {o : Oper} {a : Act} {w w' : World} {R : Value → World → Prop} {v : Value} (hd : ∀ c, o.op ≠ .defer c)
    (h : (execOp a.eval o).run P w = .ok (.value v) w') (hR : R v w') : OpRun r P o a w R := by
  refine ⟨fun _ _ => fence_fn _ _, ?_⟩
  rw [Oper.semAt_eq _ _ _ hd, h]
  exact ⟨v, rfl, hR⟩

theorem OpRun.skip {r : Option Nat} {P : Program} {o : Oper} {a : Act} {w w' : World} {R : Value → World → Prop} (hd : ∀ c, o.op ≠ .defer c)
    (h : (execOp a.eval o).run P w = .ok .skip w') (hR : R undef w') : OpRun r P o a w R := by
  refine ⟨fun _ _ => fence_fn _ _, ?_⟩
  rw [Oper.semAt_eq _ _ _ hd, h]
  exact ⟨undef, rfl, hR⟩

theorem OpRun.enter {r : Option Nat} {P : Program} {o : Oper} {a : Act} {w w' : World} {R : Value → World → Prop} {f : FuncId} {args : Array Value} (hd : ∀ c, o.op ≠ .defer c)
    (h : (execOp a.eval o).run P w = .ok (.enter f args) w') (hR : CallsIn (fence none) 0 P f args w' fun e w'' => ∃ v, e = .returned v ∧ R v w'') : OpRun r P o a w R := by
  refine ⟨fun _ _ => fence_fn _ _, ?_⟩
  rw [Oper.semAt_eq _ _ _ hd, h]
  refine ⟨fun h => by simp [fence, Fence.wide] at h, ?_⟩
  have hR' : CallsIn (fence r) 0 P f args w' fun e w'' => ∃ v, e = .returned v ∧ R v w'' := hR
  exact CallsIn.mono hR' (fun e w'' he => by obtain ⟨v, rfl, hv⟩ := he; exact ⟨v, rfl, hv⟩)

theorem OpRun.round {r : Option Nat} {P : Program} {o : Oper} {a : Act} {w w' : World} {R : Value → World → Prop} {l : Nat} {f : FuncId} {tmps : Array Value} {as body : Code} (hd : ∀ c, o.op ≠ .defer c)
    (h : (execOp a.eval o).run P w = .ok (.round l f tmps as body) w') (hR : RoundIn (fence none) 0 P l f tmps as body w' fun e w'' => ∃ v, e = .returned v ∧ R v w'') : OpRun r P o a w R := by
  refine ⟨fun _ _ => fence_fn _ _, ?_⟩
  rw [Oper.semAt_eq _ _ _ hd, h]
  refine ⟨fun h => by simp [fence, Fence.wide] at h, ?_⟩
  have hR' : RoundIn (fence r) 0 P l f tmps as body w' fun e w'' => ∃ v, e = .returned v ∧ R v w'' := hR
  exact RoundIn.mono hR' (fun e w'' he => by obtain ⟨v, rfl, hv⟩ := he; exact ⟨v, rfl, hv⟩)

theorem OpRun.mono {r : Option Nat} {P : Program} {o : Oper} {a : Act} {w : World} {R R' : Value → World → Prop} (h : OpRun r P o a w R) (hR : ∀ v w', R v w' → R' v w') : OpRun r P o a w R' :=
  Oper.wpIn_mono (fun a' w' ⟨v, e, hv⟩ => ⟨v, e, hR v w' hv⟩) h

theorem OpRun.to {r : Option Nat} {P : Program} {o : Oper} {a : Act} {w : World} {R : Value → World → Prop} {K : Act → World → Prop} {Q : Exit → Act → World → Prop}
    (h : OpRun r P o a w R) (hK : ∀ v w', R v w' → K (a.put o.dst v) w') : o.wpIn (fence r) 0 P a w K Q := by
  unfold OpRun Oper.wpIn at *
  refine ⟨h.1, ?_⟩
  have hh := h.2
  generalize (o.semAt (fence r).round a.eval).run P w = q at *
  have go : ∀ a' w', (∃ v, a' = a.put o.dst v ∧ R v w') → K a' w' := fun a' w' ⟨v, e, hv⟩ => e ▸ hK v w' hv
  cases q with
  | ok x w' =>
    cases x <;> simp only [Oper.uponIn] at hh ⊢ <;>
      first
        | exact go _ _ hh
        | exact ⟨hh.1, CallsIn.mono hh.2 (fun e w'' he => by cases e <;> first | exact go _ _ he | exact he.elim | (obtain ⟨_, _, he⟩ := he; exact he.elim))⟩
        | exact ⟨hh.1, RowsIn.mono hh.2 (fun _ _ he => go _ _ he)⟩
        | exact ⟨hh.1, RoundIn.mono hh.2 (fun e w'' he => by cases e <;> first | exact go _ _ he | exact he.elim | (obtain ⟨_, _, he⟩ := he; exact he.elim))⟩
  | halt x w' => cases x <;> simp only [Oper.uponIn] at hh ⊢

/-- One operation, or its being passed over. -/
def OpStep (r : Option Nat) (P : Program) (ops : Array Oper) (o : Oper) (a : Act) (w : World) (R : Value → World → Prop) : Prop :=
  if Region.wanted o (yielded ops a.tmps) = true then OpRun r P o a w R else R undef w

theorem OpStep.mono {r : Option Nat} {P : Program} {ops : Array Oper} {o : Oper} {a : Act} {w : World} {R R' : Value → World → Prop} (h : OpStep r P ops o a w R)
    (hR : ∀ v w', R v w' → R' v w') : OpStep r P ops o a w R' := by
  unfold OpStep at *
  split
  · rename_i hw; rw [if_pos hw] at h; exact h.mono hR
  · rename_i hw; rw [if_neg hw] at h; exact hR _ _ h

theorem OpStep.to {r : Option Nat} {P : Program} {ops : Array Oper} {i : Nat} {o : Oper} (ho : ops[i]? = some o) {a : Act} {w : World} {R : Value → World → Prop} {K : Act → World → Prop} {Q : Exit → Act → World → Prop}
    (h : OpStep r P ops o a w R) (hK : ∀ v w', R v w' → K (a.put o.dst v) w') : wpOpIn (fence r) 0 P ops Q i K a w := by
  unfold OpStep at h
  unfold wpOpIn
  simp only [ho]
  split
  · rename_i hw; rw [if_pos hw] at h; exact h.to hK
  · rename_i hw; rw [if_neg hw] at h; exact ⟨fun _ _ => fence_fn _ _, hK _ _ h⟩

/-- What an operation did, in symbols. -/
structure Eff where
  rd : List Nat
  out : SV
  S : List Nat
  ci : List Nat
  eo : En

instance : Inhabited Eff := ⟨⟨[], .any, [], [], []⟩⟩

def putT (d : Option Nat) (x : SV) (T : Tm) : Tm := match d with | some t => (t, x) :: T | none => T

def LocOk (r : Option Nat) (P : Program) (ops : Array Oper) (o : Oper) (T : Tm) (M : En) (lo hi : Nat) (f : Eff) : Prop :=
  (∀ id, id ∈ f.ci → id ∈ f.S) ∧
  ∀ (E : Env) (fp : Nat → Nat → Prop) (a : Act) (w : World), (∀ t, t ∈ f.rd → Sat E w (look T t) (a.tmps.getD t undef)) → EntsSat E w fp (sub M f.S) →
    (∀ id, lo ≤ id → id < hi → E.slot id = none) →
    OpStep r P ops o a w fun v w' => ∃ E' fp', Sat E' w' f.out v ∧ EntsSat E' w' fp' (upd f.eo f.ci (sub M f.S)) ∧ Adv E fp w E' fp' w' ∧
      ∀ id, E'.slot id = E.slot id ∨ (lo ≤ id ∧ id < hi)

structure StSat (E : Env) (w : World) (fp : Nat → Nat → Prop) (a : Act) (nt : Nat) (T : Tm) (M : En) : Prop where
  sz : a.tmps.size = nt
  tm : ∀ t, Sat E w (look T t) (a.tmps.getD t undef)
  en : EntsSat E w fp M

theorem EntsSat.congr {E : Env} {w : World} {fp : Nat → Nat → Prop} {M M' : En} (h : EntsSat E w fp M) (he : ∀ id, find M' id = find M id) : EntsSat E w fp M' :=
  ⟨fun id => by rw [he]; exact h.sat id, h.lt, h.I, h.B, h.apart, h.Ilt, h.nil, h.gl⟩

theorem StSat.congr {E : Env} {w : World} {fp : Nat → Nat → Prop} {a : Act} {nt : Nat} {T T' : Tm} {M M' : En} (h : StSat E w fp a nt T M)
    (ht : ∀ t, look T' t = look T t) (he : ∀ id, find M' id = find M id) : StSat E w fp a nt T' M' :=
  ⟨h.sz, fun t => by rw [ht]; exact h.tm t, h.en.congr he⟩

theorem look_putT (d : Option Nat) (x : SV) (T : Tm) (t : Nat) : look (putT d x T) t = if d = some t then x else look T t := by
  cases d with
  | none => simp [putT]
  | some j =>
    by_cases h : j = t
    · subst h; simp [putT, look]
    · have hb : Nat.beq j t = false := by rw [← Bool.not_eq_true, Nat.beq_eq]; exact h
      simp [putT, look, hb, h]

theorem sub_congr {M M' : En} {S : List Nat} (h : ∀ id, id ∈ S → find M' id = find M id) : sub M' S = sub M S :=
  List.map_congr_left fun id hid => by rw [h id hid]

theorem put_getD (a : Act) (d : Option Nat) (v : Value) (t : Nat) (hd : ∀ j, d = some j → j < a.tmps.size) :
    (a.put d v).tmps.getD t undef = if d = some t then v else a.tmps.getD t undef := by
  cases d with
  | none => simp [Act.put]
  | some j =>
    have hj := hd j rfl
    by_cases h : j = t
    · subst h; simp [Act.put, hj]
    · simp [Act.put, Array.getElem?_setIfInBounds_ne h, h]

theorem put_size (a : Act) (d : Option Nat) (v : Value) : (a.put d v).tmps.size = a.tmps.size := by cases d <;> simp [Act.put]

/-- A step of one operation on the whole state. -/
theorem StSat.step {r : Option Nat} {P : Program} {ops : Array Oper} {o : Oper} {T Ti : Tm} {M Mi : En} {lo hi nt : Nat} {f : Eff} (hl : LocOk r P ops o Ti Mi lo hi f)
    {E : Env} {w : World} {fp : Nat → Nat → Prop} {a : Act} (h : StSat E w fp a nt T M) (ht : ∀ t, t ∈ f.rd → look T t = look Ti t) (hm : ∀ id, id ∈ f.S → find M id = find Mi id)
    (hdst : ∀ d, o.dst = some d → d < nt) (hfr : ∀ id, lo ≤ id → id < hi → E.slot id = none) :
    OpStep r P ops o a w fun v w' => ∃ E' fp', StSat E' w' fp' (a.put o.dst v) nt (putT o.dst f.out T) (upd f.eo f.ci M) ∧ Adv E fp w E' fp' w' ∧
      ∀ id, E'.slot id = E.slot id ∨ (lo ≤ id ∧ id < hi) := by
  have hsub : sub M f.S = sub Mi f.S := sub_congr hm
  refine (hl.2 E (only f.S fp) a w (fun t hr => by rw [← ht t hr]; exact h.tm t) (by rw [← hsub]; exact h.en.part f.S) hfr).mono ?_
  rintro v w' ⟨E', fp', hout, hents, hadv, hslot⟩
  rw [← hsub] at hents
  obtain ⟨g1, g2⟩ := h.en.frame hents hadv hl.1
  have hst : Stays E w w' := h.en.stays (g2.keep)
  refine ⟨E', _, ⟨by rw [put_size]; exact h.sz, fun t => ?_, g1⟩, g2, hslot⟩
  rw [look_putT, put_getD _ _ _ _ (fun j hj => by rw [h.sz]; exact hdst j hj)]
  split
  · exact hout
  · exact (h.tm t).mono g2.le hst

/-! ### Any order -/
section order
variable (dst : Nat → Option Nat) (ef : Nat → Eff) (T0 : Tm) (M0 : En)

/-- The state when those of D have been carried out. -/
def stD (D : Nat → Bool) : Nat → Tm × En
  | 0 => (T0, M0)
  | i + 1 => match D i with
    | true => (putT (dst i) (ef i).out (stD D i).1, upd (ef i).eo (ef i).ci (stD D i).2)
    | false => stD D i

def wrE (i : Nat) : List Nat := (ef i).ci ++ keys (ef i).eo

def Confl (i j : Nat) : Prop :=
  (∃ t, dst i = some t ∧ (t ∈ (ef j).rd ∨ dst j = some t)) ∨ (∃ t, dst j = some t ∧ t ∈ (ef i).rd) ∨
  (∃ id, id ∈ wrE ef i ∧ (id ∈ (ef j).S ∨ id ∈ wrE ef j)) ∨ (∃ id, id ∈ wrE ef j ∧ id ∈ (ef i).S)

variable {dst ef T0 M0}

theorem stD_look {D D' : Nat → Bool} {t : Nat} : ∀ (m : Nat), (∀ j, j < m → dst j = some t → D j = D' j) → look (stD dst ef T0 M0 D m).1 t = look (stD dst ef T0 M0 D' m).1 t
  | 0, _ => rfl
  | m + 1, h => by
    have ih := stD_look m (fun j hj => h j (by omega))
    have h1 := h m (by omega)
    simp only [stD]
    cases hD : D m <;> cases hD' : D' m <;> simp only [look_putT, ih]
    · split
      · rename_i e; rw [h1 e, hD'] at hD; cases hD
      · rfl
    · split
      · rename_i e; rw [h1 e, hD'] at hD; cases hD
      · rfl

theorem find_upd_other {eo : En} {ci : List Nat} {M : En} {id : Nat} (h : id ∉ ci ++ keys eo) : find (upd eo ci M) id = find M id := by
  rw [find_upd, if_neg (fun e => h (List.mem_append_right _ e)), if_neg (fun e => h (List.mem_append_left _ e))]

theorem find_upd_same {eo : En} {ci : List Nat} {M M' : En} {id : Nat} (h : id ∈ ci ++ keys eo) : find (upd eo ci M) id = find (upd eo ci M') id := by
  rw [find_upd, find_upd]
  by_cases h1 : id ∈ keys eo
  · simp [h1]
  · have h2 : id ∈ ci := (List.mem_append.1 h).resolve_right h1
    simp [h1, h2]

theorem stD_find {D D' : Nat → Bool} {id : Nat} : ∀ (m : Nat), (∀ j, j < m → id ∈ wrE ef j → D j = D' j) → find (stD dst ef T0 M0 D m).2 id = find (stD dst ef T0 M0 D' m).2 id
  | 0, _ => rfl
  | m + 1, h => by
    have ih := stD_find m (fun j hj => h j (by omega))
    have h1 := h m (by omega)
    simp only [stD]
    by_cases hw : id ∈ wrE ef m
    · have := h1 hw
      cases hD : D m
      · rw [hD] at this; rw [← this]; exact ih
      · rw [hD] at this; rw [← this]; exact find_upd_same hw
    · cases hD : D m <;> cases hD' : D' m <;> simp only [find_upd_other hw, ih]

theorem stD_look_ext {D : Nat → Bool} {t : Nat} (i : Nat) : ∀ (m : Nat), i ≤ m → (∀ j, i ≤ j → j < m → dst j = some t → D j = false) →
    look (stD dst ef T0 M0 D m).1 t = look (stD dst ef T0 M0 D i).1 t
  | 0, hm, _ => by obtain rfl : i = 0 := by omega
                   rfl
  | m + 1, hm, h => by
    rcases Nat.lt_or_ge m i with hlt | hge
    · obtain rfl : i = m + 1 := by omega
      rfl
    · have ih := stD_look_ext i m hge (fun j h1 h2 => h j h1 (by omega))
      have h1 := h m hge (by omega)
      rw [← ih]
      simp only [stD]
      cases hD : D m <;> simp only [look_putT]
      split
      · rename_i e; rw [h1 e] at hD; cases hD
      · rfl

theorem stD_find_ext {D : Nat → Bool} {id : Nat} (i : Nat) : ∀ (m : Nat), i ≤ m → (∀ j, i ≤ j → j < m → id ∈ wrE ef j → D j = false) →
    find (stD dst ef T0 M0 D m).2 id = find (stD dst ef T0 M0 D i).2 id
  | 0, hm, _ => by obtain rfl : i = 0 := by omega
                   rfl
  | m + 1, hm, h => by
    rcases Nat.lt_or_ge m i with hlt | hge
    · obtain rfl : i = m + 1 := by omega
      rfl
    · have ih := stD_find_ext i m hge (fun j h1 h2 => h j h1 (by omega))
      have h1 := h m hge (by omega)
      rw [← ih]
      simp only [stD]
      cases hD : D m
      · rfl
      · by_cases hw : id ∈ wrE ef m
        · rw [h1 hw] at hD; cases hD
        · exact find_upd_other hw

def ins (D : Nat → Bool) (i : Nat) : Nat → Bool := fun j => D j || j == i

theorem ins_same (D : Nat → Bool) (i : Nat) : ins D i i = true := by simp [ins]
theorem ins_ne (D : Nat → Bool) {i j : Nat} (h : j ≠ i) : ins D i j = D j := by simp [ins, h]

/-- What the ways to a state have in common: nothing that conflicts with i is out of its place. -/
def Placed (dst : Nat → Option Nat) (ef : Nat → Eff) (n : Nat) (D : Nat → Bool) (i : Nat) : Prop :=
  ∀ j, j < n → j ≠ i → Confl dst ef i j → (j < i → D j = true) ∧ (i < j → D j = false)

theorem look_ins {D : Nat → Bool} {n i : Nat} (hi : i < n) (hD : D i = false) (hp : Placed dst ef n D i) (t : Nat) :
    look (stD dst ef T0 M0 (ins D i) n).1 t = look (putT (dst i) (ef i).out (stD dst ef T0 M0 D n).1) t := by
  rw [look_putT]
  by_cases h : dst i = some t
  · rw [if_pos h]
    have e1 : look (stD dst ef T0 M0 (ins D i) n).1 t = look (stD dst ef T0 M0 (ins D i) (i + 1)).1 t :=
      stD_look_ext (i + 1) n hi (fun j h1 h2 h3 => by
        rw [ins_ne _ (by omega)]
        exact (hp j h2 (by omega) (.inl ⟨t, h, .inr h3⟩)).2 (by omega))
    rw [e1]
    simp only [stD, ins_same, look_putT, h, if_true]
  · rw [if_neg h]
    exact stD_look n (fun j _ hj => ins_ne _ (fun e => h (e ▸ hj)))

theorem find_ins {D : Nat → Bool} {n i : Nat} (hi : i < n) (hD : D i = false) (hp : Placed dst ef n D i) (id : Nat) :
    find (stD dst ef T0 M0 (ins D i) n).2 id = find (upd (ef i).eo (ef i).ci (stD dst ef T0 M0 D n).2) id := by
  by_cases h : id ∈ wrE ef i
  · have e1 : find (stD dst ef T0 M0 (ins D i) n).2 id = find (stD dst ef T0 M0 (ins D i) (i + 1)).2 id :=
      stD_find_ext (i + 1) n hi (fun j h1 h2 h3 => by
        rw [ins_ne _ (by omega)]
        exact (hp j h2 (by omega) (.inr (.inr (.inl ⟨id, h, .inr h3⟩)))).2 (by omega))
    rw [e1]
    simp only [stD, ins_same]
    exact find_upd_same h
  · rw [find_upd_other h]
    exact stD_find n (fun j _ hj => ins_ne _ (fun e => h (e ▸ hj)))

theorem look_at {D : Nat → Bool} {n i : Nat} (hi : i < n) (hD : D i = false) (hp : Placed dst ef n D i) {t : Nat} (ht : t ∈ (ef i).rd) :
    look (stD dst ef T0 M0 D n).1 t = look (stD dst ef T0 M0 (fun _ => true) i).1 t := by
  rw [stD_look_ext i n (by omega) (fun j h1 h2 h3 => by
    by_cases e : j = i
    · rw [e]; exact hD
    · exact (hp j h2 e (.inr (.inl ⟨t, h3, ht⟩))).2 (by omega))]
  exact stD_look i (fun j hj h3 => (hp j (by omega) (by omega) (.inr (.inl ⟨t, h3, ht⟩))).1 hj)

theorem find_at {D : Nat → Bool} {n i : Nat} (hi : i < n) (hD : D i = false) (hp : Placed dst ef n D i) {id : Nat} (ht : id ∈ (ef i).S) :
    find (stD dst ef T0 M0 D n).2 id = find (stD dst ef T0 M0 (fun _ => true) i).2 id := by
  rw [stD_find_ext i n (by omega) (fun j h1 h2 h3 => by
    by_cases e : j = i
    · rw [e]; exact hD
    · exact (hp j h2 e (.inr (.inr (.inr ⟨id, h3, ht⟩)))).2 (by omega))]
  exact stD_find i (fun j hj h3 => (hp j (by omega) (by omega) (.inr (.inr (.inr ⟨id, h3, ht⟩)))).1 hj)

end order

def dstOf (ops : Array Oper) (j : Nat) : Option Nat := (ops[j]?).bind (·.dst)

/-- A region's operations, each with what it does in the order of the text. -/
structure Traced (r : Option Nat) (P : Program) (ops : Array Oper) (nt base : Nat) (T0 : Tm) (M0 : En) (ef : Nat → Eff) : Prop where
  loc : ∀ (i : Nat) (o : Oper), ops[i]? = some o → LocOk r P ops o (stD (dstOf ops) ef T0 M0 (fun _ => true) i).1 (stD (dstOf ops) ef T0 M0 (fun _ => true) i).2
    (base + 16 * i) (base + 16 * i + 16) (ef i)
  dst : ∀ (i : Nat) (o : Oper) (d : Nat), ops[i]? = some o → o.dst = some d → d < nt

/-- The state that goes with D. -/
def AtD (ops : Array Oper) (nt base : Nat) (T0 : Tm) (M0 : En) (ef : Nat → Eff) (D : Nat → Bool) (E : Env) (fp : Nat → Nat → Prop) (a : Act) (w : World) : Prop :=
  StSat E w fp a nt (stD (dstOf ops) ef T0 M0 D ops.size).1 (stD (dstOf ops) ef T0 M0 D ops.size).2 ∧
  ∀ id, E.slot id ≠ none → id < base ∨ ∃ i, D i = true ∧ base + 16 * i ≤ id ∧ id < base + 16 * i + 16

theorem AtD.step {r : Option Nat} {P : Program} {ops : Array Oper} {nt base : Nat} {T0 : Tm} {M0 : En} {ef : Nat → Eff} (ht : Traced r P ops nt base T0 M0 ef)
    {D : Nat → Bool} {E : Env} {fp : Nat → Nat → Prop} {a : Act} {w : World} (h : AtD ops nt base T0 M0 ef D E fp a w) {i : Nat} {o : Oper} (ho : ops[i]? = some o) (hD : D i = false)
    (hp : Placed (dstOf ops) ef ops.size D i) :
    OpStep r P ops o a w fun v w' => ∃ E' fp', AtD ops nt base T0 M0 ef (ins D i) E' fp' (a.put o.dst v) w' ∧ Adv E fp w E' fp' w' ∧ ∀ id, id < base → E'.slot id = E.slot id := by
  have hi : i < ops.size := (Array.getElem?_eq_some_iff.1 ho).1
  have hdst : dstOf ops i = o.dst := by simp [dstOf, ho]
  refine (StSat.step (ht.loc i o ho) h.1 (fun t hr => look_at hi hD hp hr) (fun id hr => find_at hi hD hp hr) (fun d hd => ht.dst i o d ho hd) ?_).mono ?_
  · intro id h1 h2
    refine Classical.byContradiction fun hne => ?_
    rcases h.2 id hne with h3 | ⟨j, hj, h3, h4⟩
    · omega
    · obtain rfl : j = i := by omega
      rw [hD] at hj; cases hj
  · rintro v w' ⟨E', fp', hs, hadv, hslot⟩
    refine ⟨E', fp', ⟨hs.congr (fun t => ?_) (fun id => find_ins hi hD hp id), fun id hne => ?_⟩, hadv, fun id hlt => (hslot id).resolve_right (fun h => by omega)⟩
    · rw [look_ins hi hD hp t, hdst]
    · rcases hslot id with e | e
      · rw [e] at hne
        rcases h.2 id hne with h3 | ⟨j, hj, h3⟩
        · exact .inl h3
        · exact .inr ⟨j, by simp [ins, hj], h3⟩
      · exact .inr ⟨i, ins_same _ _, e⟩

/-- In the order of the text. -/
theorem run_text {r : Option Nat} {P : Program} {ops : Array Oper} {nt base : Nat} {T0 : Tm} {M0 : En} {ef : Nat → Eff} (ht : Traced r P ops nt base T0 M0 ef)
    {Q : Exit → Act → World → Prop} : ∀ (k : Nat) (i : Nat), i + k = ops.size → ∀ (E : Env) (fp : Nat → Nat → Prop) (a : Act) (w : World),
      AtD ops nt base T0 M0 ef (fun j => decide (j < i)) E fp a w →
      (∀ E' fp' a' w', AtD ops nt base T0 M0 ef (fun j => decide (j < ops.size)) E' fp' a' w' → Adv E fp w E' fp' w' → (∀ id, id < base → E'.slot id = E.slot id) → a'.defers = a.defers → Q .normal a' w') →
      wpOpsIn (fence r) 0 P ops Q (List.range' i k) a w
  | 0, i, hk, E, fp, a, w, h, hQ => by
    obtain rfl : i = ops.size := by omega
    exact hQ E fp a w h (.refl _ _ _) (fun _ _ => rfl) rfl
  | k + 1, i, hk, E, fp, a, w, h, hQ => by
    have hi : i < ops.size := by omega
    have ho : ops[i]? = some ops[i] := by simp [hi]
    have hins : ins (fun j => decide (j < i)) i = fun j => decide (j < i + 1) := by
      funext j
      by_cases e : j = i
      · subst e; simp [ins]
      · rw [ins_ne _ e]
        by_cases hj : j < i
        · simp [hj]; omega
        · simp [hj]; omega
    rw [List.range'_succ, wpOpsIn_cons]
    refine (AtD.step ht h ho (by simp) ?_).to ho ?_
    · intro j hj hne _
      exact ⟨fun h1 => by simp [h1], fun h1 => by simp; omega⟩
    · rintro v w' ⟨E', fp', hs, hadv, hsl⟩
      rw [hins] at hs
      refine run_text ht k (i + 1) (by omega) E' fp' _ w' hs (fun E2 fp2 a2 w2 h2 hadv2 hsl2 hdf => hQ E2 fp2 a2 w2 h2 (hadv.trans hadv2) (fun id hid => (hsl2 id hid).trans (hsl id hid)) ?_)
      rw [hdf]; cases (ops[i]).dst <;> rfl

/-! ### The check: whatever conflicts is in order -/

def edgesOk : Nat → List Oper → Bool
  | _, [] => true
  | n, o :: l => o.after.toList.all (fun e => !Region.binds .any e || Nat.blt e.on n) && edgesOk (n + 1) l

def maskOf (acc : List Nat) : List Edge → Nat
  | [] => 0
  | e :: l => match Region.binds .any e with
    | true => Nat.lor (Nat.lor (Nat.shiftLeft 1 e.on) (acc.getD e.on 0)) (maskOf acc l)
    | false => maskOf acc l

def masks : List Nat → List Oper → List Nat
  | acc, [] => acc
  | acc, o :: l => masks (acc ++ [maskOf acc o.after.toList]) l

/-- What an operation touched. -/
structure Tch where
  rd : List Nat
  wr : Option Nat
  S : List Nat
  W : List Nat

def memB (i : Nat) : List Nat → Bool
  | [] => false
  | j :: l => match Nat.beq j i with | true => true | false => memB i l
def anyB (l m : List Nat) : Bool := match l with | [] => false | i :: l => match memB i m with | true => true | false => anyB l m
def dstB (d : Option Nat) (l : List Nat) : Bool := match d with | none => false | some t => memB t l
def sameB (d e : Option Nat) : Bool := match d, e with | some t, some s => Nat.beq t s | _, _ => false
def conflB (p q : Tch) : Bool := dstB p.wr q.rd || sameB p.wr q.wr || dstB q.wr p.rd || anyB p.W q.S || anyB p.W q.W || anyB q.W p.S

def raceRow (m : Nat) (q : Tch) : Nat → List Tch → Bool
  | _, [] => true
  | k, p :: l => (match conflB p q with | true => Nat.testBit m k | false => true) && raceRow m q (k + 1) l

/-- prev: those ahead, in order. -/
def raceGo : List Tch → List Tch → List Nat → Bool
  | prev, q :: l, m :: ms => raceRow m q 0 prev && raceGo (prev ++ [q]) l ms
  | _, [], _ => true
  | _, _ :: _, [] => false

def raceOk (ops : List Oper) (tr : List Tch) : Bool := edgesOk 0 ops && raceGo [] tr (masks [] ops)

theorem memB_iff {i : Nat} {l : List Nat} : memB i l = true ↔ i ∈ l := by
  induction l with
  | nil => simp [memB]
  | cons j l ih =>
    simp only [memB, List.mem_cons]
    by_cases h : j = i
    · subst h; simp
    · have hb : Nat.beq j i = false := by rw [← Bool.not_eq_true, Nat.beq_eq]; exact h
      have h' : ¬ i = j := fun e => h e.symm
      simp [hb, ih, h']
theorem anyB_iff {l m : List Nat} : anyB l m = true ↔ ∃ i, i ∈ l ∧ i ∈ m := by
  induction l with
  | nil => simp [anyB]
  | cons j l ih =>
    simp only [anyB]
    cases h : memB j m
    · have : j ∉ m := fun e => by rw [memB_iff.2 e] at h; cases h
      simp [ih, this]
    · simp [memB_iff.1 h]

theorem raceRow_spec {m : Nat} {q : Tch} : ∀ (k : Nat) (l : List Tch), raceRow m q k l = true → ∀ i p, l[i]? = some p → conflB p q = true → Nat.testBit m (k + i) = true
  | k, [], _, i, p, hi, _ => by simp at hi
  | k, p0 :: l, h, i, p, hi, hc => by
    simp only [raceRow, Bool.and_eq_true] at h
    cases i with
    | zero =>
      obtain rfl : p0 = p := by simpa using hi
      have h1 := h.1; rw [hc] at h1; exact h1
    | succ i =>
      have := raceRow_spec (k + 1) l h.2 i p (by simpa using hi) hc
      rw [show k + (i + 1) = k + 1 + i by omega]; exact this

theorem raceGo_spec : ∀ (l prev : List Tch) (ms : List Nat), raceGo prev l ms = true → ∀ j q, l[j]? = some q → ∀ i p, (prev ++ l)[i]? = some p → i < prev.length + j → conflB p q = true →
    ∃ m, ms[j]? = some m ∧ Nat.testBit m i = true
  | [], prev, ms, _, j, q, hj, _, _, _, _, _ => by simp at hj
  | q0 :: l, prev, [], h, _, _, _, _, _, _, _, _ => by simp [raceGo] at h
  | q0 :: l, prev, m :: ms, h, j, q, hj, i, p, hi, hlt, hc => by
    simp only [raceGo, Bool.and_eq_true] at h
    cases j with
    | zero =>
      obtain rfl : q0 = q := by simpa using hj
      have hi' : prev[i]? = some p := by rw [List.getElem?_append_left (by simpa using hlt)] at hi; exact hi
      have := raceRow_spec 0 prev h.1 i p hi' hc
      exact ⟨m, by simp, by simpa using this⟩
    | succ j =>
      have hi' : ((prev ++ [q0]) ++ l)[i]? = some p := by simpa using hi
      obtain ⟨m', h1, h2⟩ := raceGo_spec l (prev ++ [q0]) ms h.2 j q (by simpa using hj) i p hi' (by simp; omega) hc
      exact ⟨m', by simpa using h1, h2⟩

theorem edgesOk_spec : ∀ (l : List Oper) (n : Nat), edgesOk n l = true → ∀ i o, l[i]? = some o → ∀ e ∈ o.after, Region.binds .any e = true → e.on < n + i
  | [], n, _, i, o, hi, _, _, _ => by simp at hi
  | o0 :: l, n, h, i, o, hi, e, he, hb => by
    simp only [edgesOk, Bool.and_eq_true] at h
    cases i with
    | zero =>
      obtain rfl : o0 = o := by simpa using hi
      have := List.all_eq_true.1 h.1 e (by simpa using he)
      rw [hb] at this
      simp [Nat.blt] at this
      omega
    | succ i =>
      have := edgesOk_spec l (n + 1) h.2 i o (by simpa using hi) e he hb
      omega

theorem maskOf_spec {acc : List Nat} {i : Nat} : ∀ (l : List Edge), Nat.testBit (maskOf acc l) i = true → ∃ e ∈ l, Region.binds .any e = true ∧ (e.on = i ∨ Nat.testBit (acc.getD e.on 0) i = true)
  | [], h => by simp [maskOf] at h
  | e :: l, h => by
    simp only [maskOf] at h
    cases hb : Region.binds .any e with
    | false =>
      rw [hb] at h
      obtain ⟨e', h1, h2⟩ := maskOf_spec l h
      exact ⟨e', List.mem_cons_of_mem _ h1, h2⟩
    | true =>
      rw [hb] at h
      simp only at h
      change Nat.testBit (((1 <<< e.on) ||| acc.getD e.on 0) ||| maskOf acc l) i = true at h
      rw [Nat.testBit_or, Nat.testBit_or, Bool.or_eq_true, Bool.or_eq_true] at h
      rcases h with (h | h) | h
      · refine ⟨e, List.mem_cons_self .., hb, .inl ?_⟩
        rw [Nat.testBit_shiftLeft] at h
        simp only [Bool.and_eq_true, decide_eq_true_eq] at h
        have h2 := h.2
        have : i - e.on = 0 := by
          cases hz : i - e.on with
          | zero => rfl
          | succ z => rw [hz] at h2; simp [Nat.testBit_succ] at h2
        omega
      · exact ⟨e, List.mem_cons_self .., hb, .inr h⟩
      · obtain ⟨e', h1, h2⟩ := maskOf_spec l h
        exact ⟨e', List.mem_cons_of_mem _ h1, h2⟩

theorem masks_spec : ∀ (l : List Oper) (acc : List Nat), (∀ j, j < acc.length → (masks acc l)[j]? = acc[j]?) ∧
    ∀ i o, l[i]? = some o → ∃ acc', (masks acc l)[acc.length + i]? = some (maskOf acc' o.after.toList) ∧ ∀ j, j < acc.length + i → acc'[j]? = (masks acc l)[j]? ∧ acc'.length = acc.length + i
  | [], acc => ⟨fun _ _ => rfl, fun i o hi => by simp at hi⟩
  | o0 :: l, acc => by
    obtain ⟨h1, h2⟩ := masks_spec l (acc ++ [maskOf acc o0.after.toList])
    refine ⟨fun j hj => ?_, fun i o hi => ?_⟩
    · simp only [masks]
      rw [h1 j (by simp; omega), List.getElem?_append_left hj]
    · simp only [masks]
      cases i with
      | zero =>
        obtain rfl : o0 = o := by simpa using hi
        refine ⟨acc, ?_, fun j hj => ⟨?_, rfl⟩⟩
        · rw [Nat.add_zero, h1 acc.length (by simp)]; simp
        · rw [h1 j (by simp; omega), List.getElem?_append_left (by omega)]
      | succ i =>
        obtain ⟨acc', h3, h4⟩ := h2 i o (by simpa using hi)
        have e : (acc ++ [maskOf acc o0.after.toList]).length + i = acc.length + (i + 1) := by simp; omega
        rw [e] at h3 h4
        exact ⟨acc', h3, h4⟩

/-- What has been carried out holds all that it waits for, at whatever remove. -/
theorem closed_mask {ops : Array Oper} {D : Nat → Bool} (he : edgesOk 0 ops.toList = true) (hc : ∀ j o, ops[j]? = some o → D j = true → ∀ e ∈ o.after, Region.binds .any e = true → D e.on = true) :
    ∀ (j : Nat) (o : Oper) (m : Nat) (i : Nat), ops[j]? = some o → (∀ e ∈ o.after, Region.binds .any e = true → D e.on = true) → (masks [] ops.toList)[j]? = some m → Nat.testBit m i = true → D i = true := by
  intro j
  induction j using Nat.strongRecOn with
  | _ j ih =>
    intro o m i ho hdep hm hbit
    have hol : ops.toList[j]? = some o := by simpa using ho
    obtain ⟨acc', h1, h2⟩ := (masks_spec ops.toList []).2 j o hol
    simp only [List.length_nil, Nat.zero_add] at h1 h2
    rw [h1] at hm
    obtain rfl := Option.some.inj hm
    obtain ⟨e, hem, hb, hor⟩ := maskOf_spec _ hbit
    have hem' : e ∈ o.after := by simpa using hem
    have hlt := edgesOk_spec ops.toList 0 he j o hol e hem' hb
    have hDe := hdep e hem' hb
    rcases hor with rfl | hor
    · exact hDe
    · obtain ⟨h3, h4⟩ := h2 e.on (by omega)
      have hlen : e.on < ops.size := by
        have := (Array.getElem?_eq_some_iff.1 ho).1; omega
      have hoe : ops[e.on]? = some ops[e.on] := by simp [hlen]
      cases hacc : acc'[e.on]? with
      | none => rw [List.getElem?_eq_none_iff] at hacc; omega
      | some m' =>
        have hg : acc'.getD e.on 0 = m' := by simp [List.getD, hacc]
        rw [hg] at hor
        exact ih e.on (by omega) ops[e.on] m' i hoe (hc _ _ hoe hDe) (by rw [← h3]; exact hacc) hor

/-- The touches of a trace. -/
def tchOf (o : Oper) (f : Eff) : Tch := ⟨f.rd, o.dst, f.S, f.ci ++ keys f.eo⟩

theorem conflB_of {dst : Nat → Option Nat} {ef : Nat → Eff} {i j : Nat} {oi oj : Oper} (hi : dst i = oi.dst) (hj : dst j = oj.dst) (h : Confl dst ef i j) :
    conflB (tchOf oi (ef i)) (tchOf oj (ef j)) = true ∧ conflB (tchOf oj (ef j)) (tchOf oi (ef i)) = true := by
  unfold conflB tchOf
  unfold Confl wrE at h
  rcases h with ⟨t, h1, h2 | h2⟩ | ⟨t, h1, h2⟩ | ⟨id, h1, h2 | h2⟩ | ⟨id, h1, h2⟩
  · rw [hi] at h1; simp [dstB, h1, memB_iff.2 h2]
  · rw [hi] at h1; rw [hj] at h2; simp [sameB, h1, h2]
  · rw [hj] at h1; simp [dstB, h1, memB_iff.2 h2]
  · simp [anyB_iff.2 ⟨id, h1, h2⟩]
  · simp [anyB_iff.2 ⟨id, h1, h2⟩, anyB_iff.2 ⟨id, h2, h1⟩]
  · simp [anyB_iff.2 ⟨id, h1, h2⟩]

theorem confl_symm {dst : Nat → Option Nat} {ef : Nat → Eff} {i j : Nat} (h : Confl dst ef i j) : Confl dst ef j i := by
  rcases h with ⟨t, h1, h2 | h2⟩ | ⟨t, h1, h2⟩ | ⟨id, h1, h2 | h2⟩ | ⟨id, h1, h2⟩
  · exact .inr (.inl ⟨t, h1, h2⟩)
  · exact .inl ⟨t, h2, .inr h1⟩
  · exact .inl ⟨t, h1, .inl h2⟩
  · exact .inr (.inr (.inr ⟨id, h1, h2⟩))
  · exact .inr (.inr (.inl ⟨id, h2, .inr h1⟩))
  · exact .inr (.inr (.inl ⟨id, h1, .inl h2⟩))

theorem placed_of {ops : Array Oper} {ef : Nat → Eff} {tr : List Tch} (htr : ∀ i o, ops[i]? = some o → tr[i]? = some (tchOf o (ef i))) (hr : raceOk ops.toList tr = true)
    {D : Nat → Bool} (hc : ∀ j o, ops[j]? = some o → D j = true → ∀ e ∈ o.after, Region.binds .any e = true → D e.on = true)
    {i : Nat} {o : Oper} (ho : ops[i]? = some o) (hD : D i = false) (hdep : ∀ e ∈ o.after, Region.binds .any e = true → D e.on = true) : Placed (dstOf ops) ef ops.size D i := by
  simp only [raceOk, Bool.and_eq_true] at hr
  intro j hj hne hcf
  have hoj : ops[j]? = some ops[j] := by simp [hj]
  have hdi : dstOf ops i = o.dst := by simp [dstOf, ho]
  have hdj : dstOf ops j = (ops[j]).dst := by simp [dstOf, hoj]
  obtain ⟨hb1, hb2⟩ := conflB_of hdi hdj hcf
  refine ⟨fun hlt => ?_, fun hlt => ?_⟩
  · obtain ⟨m, h1, h2⟩ := raceGo_spec tr [] _ hr.2 i _ (htr i o ho) j _ (by simpa using htr j _ hoj) (by simpa using hlt) hb2
    exact closed_mask hr.1 hc i o m j ho hdep h1 h2
  · obtain ⟨m, h1, h2⟩ := raceGo_spec tr [] _ hr.2 j _ (htr j _ hoj) i _ (by simpa using htr i o ho) (by simpa using hlt) hb1
    cases hDj : D j with
    | false => rfl
    | true =>
      have := closed_mask hr.1 hc j _ m i hoj (hc j _ hoj hDj) h1 h2
      rw [hD] at this; cases this

theorem countFalse_set {l : List Bool} {i : Nat} (h : l[i]? = some false) : (l.set i true).countP (fun b => !b) + 1 = l.countP (fun b => !b) := by
  induction l generalizing i with
  | nil => simp at h
  | cons b l ih =>
    cases i with
    | zero => obtain rfl : b = false := by simpa using h
              simp
    | succ i =>
      have := ih (i := i) (by simpa using h)
      simp only [List.set_cons_succ, List.countP_cons]
      omega

/-- In whatever order the region allows. -/
theorem run_any {r : Option Nat} {P : Program} {ops : Array Oper} {nt base : Nat} {T0 : Tm} {M0 : En} {ef : Nat → Eff} (ht : Traced r P ops nt base T0 M0 ef) {tr : List Tch}
    (htr : ∀ i o, ops[i]? = some o → tr[i]? = some (tchOf o (ef i))) (hr : raceOk ops.toList tr = true)
    {Q : Exit → Act → World → Prop} : ∀ (k : Nat) (listed : Array Bool), listed.size = ops.size → listed.toList.countP (fun b => !b) = k →
      (∀ j o, ops[j]? = some o → listed.getD j false = true → ∀ e ∈ o.after, Region.binds .any e = true → listed.getD e.on false = true) →
      ∀ (E : Env) (fp : Nat → Nat → Prop) (a : Act) (w : World), AtD ops nt base T0 M0 ef (fun j => listed.getD j false) E fp a w →
      (∀ E' fp' a' w' D, (∀ j, j < ops.size → D j = true) → (∀ j, ops.size ≤ j → D j = false) → AtD ops nt base T0 M0 ef D E' fp' a' w' → Adv E fp w E' fp' w' → (∀ id, id < base → E'.slot id = E.slot id) → a'.defers = a.defers → Q .normal a' w') →
      wpAnyIn (fence r) 0 P .any ops Q k listed a w := by
  have hedge : edgesOk 0 ops.toList = true := by simp only [raceOk, Bool.and_eq_true] at hr; exact hr.1
  intro k
  induction k with
  | zero =>
    intro listed hsz hcount hc E fp a w h hQ
    have hall : ∀ j, j < ops.size → listed.getD j false = true := fun j hj => by
      have h0 := List.countP_eq_zero.1 hcount (listed.getD j false) (by
        have : j < listed.size := by omega
        simp [this])
      simpa using h0
    refine ⟨?_, hQ E fp a w _ hall (fun j hj => by simp [Array.getD]; omega) h (.refl _ _ _) (fun _ _ => rfl) rfl⟩
    rw [List.eq_nil_iff_forall_not_mem]
    intro i hi
    obtain ⟨h1, o, h2, _⟩ := mem_ready.1 hi
    have hlt := (Array.getElem?_eq_some_iff.1 h2).1
    have h3 := hall i hlt
    have : i < listed.size := by omega
    simp [this] at h1 h3
    rw [h3] at h1; cases h1
  | succ k ih =>
    intro listed hsz hcount hc E fp a w h hQ
    refine ⟨fun hnil => ?_, fun i hi => ?_⟩
    · exfalso
      -- the first one that is not listed is ready
      have : ∃ j, j < ops.size ∧ listed.getD j false = false := by
        refine Classical.byContradiction fun hn => ?_
        have : listed.toList.countP (fun b => !b) = 0 := by
          rw [List.countP_eq_zero]
          intro b hb
          obtain ⟨j, hj, rfl⟩ := List.mem_iff_getElem.1 hb
          have hj' : j < listed.size := by simpa using hj
          have h2 : ¬ (listed.getD j false = false) := fun e => hn ⟨j, by omega, e⟩
          simp [hj'] at h2
          simpa using h2
        omega
      obtain ⟨j, hj⟩ := this
      have key : ∀ j, j < ops.size ∧ listed.getD j false = false → False := by
        intro j
        induction j using Nat.strongRecOn with
        | _ j ih2 =>
          intro ⟨hj, hl⟩
          have hoj : ops[j]? = some ops[j] := by simp [hj]
          have hmem : j ∈ Region.ready .any ops listed := mem_ready.2 ⟨by
            have hj' : j < listed.size := by omega
            simp [hj'] at hl ⊢; exact hl, ops[j], hoj, fun e he hb => by
            have hlt := edgesOk_spec ops.toList 0 hedge j ops[j] (by simp [hj]) e he hb
            cases hle : listed.getD e.on false with
            | true => rfl
            | false => exact (ih2 e.on (by omega) ⟨by omega, hle⟩).elim⟩
          rw [hnil] at hmem; cases hmem
      exact key j hj
    · obtain ⟨hun, o, ho, hdep⟩ := mem_ready.1 hi
      have hlt := (Array.getElem?_eq_some_iff.1 ho).1
      have hlt' : i < listed.size := by omega
      have hun' : listed.getD i false = false := by simp [hlt'] at hun ⊢; exact hun
      have hins : ins (fun j => listed.getD j false) i = fun j => (listed.setIfInBounds i true).getD j false := by
        funext j
        by_cases e : j = i
        · subst e; simp [ins, hlt']
        · rw [ins_ne _ e]; simp [Array.getElem?_setIfInBounds_ne (Ne.symm e)]
      refine (AtD.step ht h ho hun' (placed_of htr hr hc ho hun' hdep)).to ho ?_
      rintro v w' ⟨E', fp', hs, hadv, hsl⟩
      rw [hins] at hs
      refine ih (listed.setIfInBounds i true) (by simpa using hsz) ?_ ?_ E' fp' _ w' hs ?_
      · have := countFalse_set (l := listed.toList) (i := i) (by simp [hlt'] at hun' ⊢; exact hun')
        simp only [Array.toList_setIfInBounds]
        omega
      · intro j oj hoj hl e he hb
        by_cases h1 : e.on = i
        · rw [h1]; simp [hlt']
        · have h2 : (listed.setIfInBounds i true).getD e.on false = listed.getD e.on false := by simp [Array.getElem?_setIfInBounds_ne (Ne.symm h1)]
          rw [h2]
          by_cases h3 : j = i
          · subst h3
            obtain rfl : o = oj := Option.some.inj (ho.symm.trans hoj)
            exact hdep e he hb
          · have h4 : (listed.setIfInBounds i true).getD j false = listed.getD j false := by simp [Array.getElem?_setIfInBounds_ne (Ne.symm h3)]
            rw [h4] at hl
            exact hc j oj hoj hl e he hb
      · intro E2 fp2 a2 w2 D hD hD2 h2 hadv2 hsl2 hdf
        refine hQ E2 fp2 a2 w2 D hD hD2 h2 (hadv.trans hadv2) (fun id hid => (hsl2 id hid).trans (hsl id hid)) ?_
        rw [hdf]; cases o.dst <;> rfl

end Go.Eng

/-! The engine, part D: what single steps of the model come to: loads, stores, new blocks, steps without memory. -/
set_option linter.unusedVariables false
namespace Go.Eng
open Go.RowKit (Below)

/-! ### Steps without memory -/

def pureP {α : Type} (P : Program) : Sem α → Option α
  | .pure a => some a
  | .program k => pureP P (k P)
  | .mark _ k => pureP P k
  | _ => none

theorem pureP_run {α : Type} {P : Program} {w : World} : ∀ (s : Sem α) (a : α), pureP P s = some a → s.run P w = .ok a w
  | .pure b, a, h => by simp only [pureP, Option.some.injEq] at h; subst h; rfl
  | .program k, a, h => pureP_run (k P) a h
  | .mark _ k, a, h => pureP_run k a h
  | .load .., _, h => by simp [pureP] at h
  | .store .., _, h => by simp [pureP] at h
  | .new .., _, h => by simp [pureP] at h
  | .shape .., _, h => by simp [pureP] at h
  | .freeze .., _, h => by simp [pureP] at h
  | .frozen .., _, h => by simp [pureP] at h
  | .getObj .., _, h => by simp [pureP] at h
  | .setObj .., _, h => by simp [pureP] at h
  | .choose .., _, h => by simp [pureP] at h
  | .sys .., _, h => by simp [pureP] at h
  | .halt .., _, h => by simp [pureP] at h

theorem run_then {α β : Type} {P : Program} {w w' : World} {s : Sem α} {f : α → Sem β} {a : α} (h : s.run P w = .ok a w') : (s >>= f).run P w = (f a).run P w' := by
  rw [Sem.run_bind, h]; rfl

/-! ### What the tables say of a type -/

def szOf (P : Program) (t : TypeId) : Option Nat := match P.info? t with | some i => some i.size | none => none
def aggOf (P : Program) (t : TypeId) : Option Bool := match P.underlying t with
  | some (.struct _) => some true
  | some (.array _ _) => some true
  | some _ => some false
  | none => none
def fldOf (P : Program) (t : TypeId) (f : Nat) : Option Field := match P.underlying t with
  | some (.struct fs) => fs.toList[f]?
  | _ => none
def cellsOfV : Value → List Value
  | .agg cs => cs.toList
  | v => [v]
def zeroOf (P : Program) (t : TypeId) : Option (List Value) := match P.info? t with
  | some i => match i.zero with | some v => some (cellsOfV v) | none => none
  | none => none

theorem cellsOfV_eq (v : Value) : cellsOfV v = v.cells.toList := by cases v <;> rfl

theorem run_sizeOf {P : Program} {t : TypeId} {n : Nat} (h : szOf P t = some n) (w : World) : (sizeOf t).run P w = .ok n w := by
  refine pureP_run _ _ ?_
  unfold szOf at h
  split at h
  · rename_i i hi
    simp only [Option.some.injEq] at h
    subst h
    simp only [sizeOf, typeInfo, program, bind, Sem.bind, pureP, hi]
    rfl
  · cases h

theorem run_isAgg {P : Program} {t : TypeId} {b : Bool} (h : aggOf P t = some b) (w : World) : (isAgg t).run P w = .ok b w := by
  refine pureP_run _ _ ?_
  unfold aggOf at h
  cases hu : P.underlying t with
  | none => rw [hu] at h; cases h
  | some d =>
    rw [hu] at h
    simp only [isAgg, underlying, program, bind, Sem.bind, pureP, hu]
    cases d <;> simp only [Option.some.injEq] at h <;> subst h <;> rfl

theorem run_zeroValue {P : Program} {t : TypeId} {l : List Value} (h : zeroOf P t = some l) (w : World) : ∃ v, (zeroValue t).run P w = .ok v w ∧ v.cells.toList = l := by
  unfold zeroOf at h
  split at h
  · rename_i i hi
    split at h
    · rename_i v hz
      simp only [Option.some.injEq] at h
      subst h
      refine ⟨v, pureP_run _ _ ?_, (cellsOfV_eq v).symm⟩
      simp only [zeroValue, typeInfo, program, bind, Sem.bind, pureP, hi]
      show pureP P (match i.zero with | some v => Sem.pure v | none => unsupported (Unsupported.resourceLimit "a value of more than 2^22 cells")) = some v
      rw [hz]; rfl
    · cases h
  · cases h

theorem run_underlying' {P : Program} {t : TypeId} {d : TypeDesc} (h : P.underlying t = some d) (w : World) : (underlying t).run P w = .ok d w := by
  refine pureP_run _ _ ?_
  simp only [underlying, program, bind, Sem.bind, pureP, h]
  rfl

/-! ### Loads -/

theorem add_none (k o j : Nat) : (⟨k, o, none⟩ : Addr).add j = ⟨k, o + j, none⟩ := by
  unfold Addr.add
  split
  · rename_i h; simp [h]
  · rfl

theorem run_load {P : Program} {a : Addr} {v : Value} {w : World} (h : w.cell? a = some v) : (load a).run P w = .ok v w := by
  simp [load, Sem.run, h]

theorem run_loadCellsFrom {P : Program} {k o : Nat} {u : Nat → Value} {w : World} : ∀ (n i : Nat) (acc : Array Value), (∀ j, j < n → w.cell? ⟨k, o + (i + j), none⟩ = some (u (i + j))) →
    ∃ vs, (loadCellsFrom ⟨k, o, none⟩ i n acc).run P w = .ok vs w ∧ vs.size = acc.size + n ∧ (∀ j, j < acc.size → vs[j]? = acc[j]?) ∧ ∀ j, j < n → vs[acc.size + j]? = some (u (i + j))
  | 0, i, acc, _ => ⟨acc, rfl, rfl, fun _ _ => rfl, fun j hj => by omega⟩
  | n + 1, i, acc, h => by
    obtain ⟨vs, h1, h2, h3, h4⟩ := run_loadCellsFrom n (i + 1) (acc.push (u i)) (fun j hj => by
      have := h (j + 1) (by omega)
      rw [show i + (j + 1) = i + 1 + j by omega] at this; exact this)
    refine ⟨vs, ?_, by simp at h2; omega, fun j hj => ?_, fun j hj => ?_⟩
    · have h0 := h 0 (by omega)
      simp only [loadCellsFrom, add_none]
      rw [run_then (run_load (by simpa using h0))]
      exact h1
    · rw [h3 j (by simp; omega)]; simp [Array.getElem?_push, Nat.ne_of_lt hj]
    · cases j with
      | zero =>
        rw [Nat.add_zero, h3 acc.size (by simp)]; simp
      | succ j =>
        have := h4 j (by omega)
        simp only [Array.size_push] at this
        rw [show acc.size + (j + 1) = acc.size + 1 + j by omega, this, show i + 1 + j = i + (j + 1) by omega]

/-- A load: of one cell, or of a struct or an array whole. -/
theorem run_loadVar_scalar {P : Program} {t : TypeId} (h : aggOf P t = some false) {a : Addr} {v : Value} {w : World} (hc : w.cell? a = some v) : (loadVar t a).run P w = .ok v w := by
  unfold loadVar
  rw [run_then (run_isAgg h w)]
  simpa using run_load hc

theorem run_loadVar_agg {P : Program} {t : TypeId} {n : Nat} (h : aggOf P t = some true) (hn : szOf P t = some n) {k o : Nat} {u : Nat → Value} {w : World}
    (hc : ∀ j, j < n → w.cell? ⟨k, o + j, none⟩ = some (u j)) : ∃ vs : Array Value, (loadVar t ⟨k, o, none⟩).run P w = .ok (.agg vs) w ∧ vs.size = n ∧ ∀ j, j < n → vs[j]? = some (u j) := by
  obtain ⟨vs, h1, h2, _, h4⟩ := run_loadCellsFrom (P := P) (w := w) (k := k) (o := o) (u := u) n 0 #[] (fun j hj => by simpa using hc j hj)
  refine ⟨vs, ?_, by simpa using h2, fun j hj => by simpa using h4 j hj⟩
  unfold loadVar
  rw [run_then (run_isAgg h w)]
  simp only [if_true]
  rw [run_then (run_sizeOf hn w)]
  rw [run_then (show (loadCells ⟨k, o, none⟩ n).run P w = .ok vs w from h1)]
  rfl

/-! ### Stores -/

theorem run_store {P : Program} {k o : Nat} {v : Value} {w : World} {arr : Array Value} {t : TypeId} {fz : Nat × Nat} (hb : w.heap[k]? = some (.cells arr t fz)) (ho : o < arr.size) (hu : unfrozen fz arr.size)
    (hv : ∀ cs, v ≠ .agg cs) (hv' : ∀ cs, v ≠ .tuple cs) : (store ⟨k, o, none⟩ v).run P w = .ok () (w.setCell ⟨k, o, none⟩ v) := by
  have hc : w.cell? ⟨k, o, none⟩ = some arr[o] := by simp [World.cell?, hb, ho]
  have hf : w.frozen? ⟨k, o, none⟩ = false := by
    have := hu.at o ho
    simp only [World.frozen?, hb]
    simpa using this
  unfold store
  cases v <;> simp_all [Sem.run]

theorem setCell_heap {w : World} {k o : Nat} {v : Value} {arr : Array Value} {t : TypeId} {fz : Nat × Nat} (hb : w.heap[k]? = some (.cells arr t fz)) :
    (w.setCell ⟨k, o, none⟩ v).heap[k]? = some (.cells (arr.setIfInBounds o v) t fz) := by
  simp [World.setCell, Array.getElem?_modify, hb]

theorem setCell_other {w : World} {k o b : Nat} {v : Value} (h : b ≠ k) : (w.setCell ⟨k, o, none⟩ v).heap[b]? = w.heap[b]? := by
  simp only [World.setCell, Array.getElem?_modify]
  rw [if_neg (fun e => h e.symm)]

theorem setCell_keep (own : Nat → Prop) {w : World} {k o : Nat} {v : Value} (h : own k) : Keep own w (w.setCell ⟨k, o, none⟩ v) :=
  ⟨rfl, ⟨rfl⟩, rfl, by simp [World.setCell], fun b _ hn => setCell_other (fun e => hn (e ▸ h))⟩

/-- The array behind so many stores from a place on. -/
def putAll (arr : Array Value) (o : Nat) : List Value → Array Value
  | [] => arr
  | v :: l => putAll (arr.setIfInBounds o v) (o + 1) l

theorem putAll_size (o : Nat) : ∀ (l : List Value) (arr : Array Value), (putAll arr o l).size = arr.size := by
  intro l
  induction l generalizing o with
  | nil => intro arr; rfl
  | cons v l ih => intro arr; simp [putAll, ih]

theorem putAll_get {arr : Array Value} {o : Nat} {l : List Value} (h : o + l.length ≤ arr.size) (j : Nat) :
    (putAll arr o l)[j]? = if o ≤ j ∧ j < o + l.length then l[j - o]? else arr[j]? := by
  induction l generalizing arr o with
  | nil => simp only [putAll, List.length_nil, Nat.add_zero]; rw [if_neg (by omega)]
  | cons v l ih =>
    simp only [List.length_cons] at h
    simp only [putAll]
    rw [ih (by simp; omega)]
    simp only [List.length_cons]
    by_cases h1 : j = o
    · subst h1
      rw [if_neg (by omega), if_pos (by omega)]
      have : j < arr.size := by omega
      simp [this]
    · by_cases h2 : o + 1 ≤ j ∧ j < o + 1 + l.length
      · rw [if_pos h2, if_pos (by omega), show j - o = (j - (o + 1)) + 1 by omega]; simp
      · rw [if_neg h2, if_neg (by omega), Array.getElem?_setIfInBounds_ne (fun e => h1 e.symm)]

def plainV (v : Value) : Prop := (∀ cs, v ≠ .agg cs) ∧ ∀ cs, v ≠ .tuple cs

theorem run_storeCells {P : Program} {k o : Nat} {t : TypeId} {fz : Nat × Nat} : ∀ (l : List Value) (i : Nat) (w : World) (arr : Array Value), w.heap[k]? = some (.cells arr t fz) →
    o + i + l.length ≤ arr.size → unfrozen fz arr.size → (∀ v, v ∈ l → plainV v) →
    ∃ w', (storeCells ⟨k, o, none⟩ l i).run P w = .ok () w' ∧ w'.heap[k]? = some (.cells (putAll arr (o + i) l) t fz) ∧ Keep (fun b => b = k) w w'
  | [], i, w, arr, hb, _, _, _ => ⟨w, rfl, hb, .refl _ _⟩
  | v :: l, i, w, arr, hb, hl, hu, hp => by
    simp only [List.length_cons] at hl
    have hv := hp v (List.mem_cons_self ..)
    have h1 := run_store (P := P) (v := v) hb (o := o + i) (by omega) hu hv.1 hv.2
    obtain ⟨w', h2, h3, h4⟩ := run_storeCells (P := P) (o := o) l (i + 1) (w.setCell ⟨k, o + i, none⟩ v) (arr.setIfInBounds (o + i) v) (setCell_heap (o := o + i) (v := v) hb) (by rw [Array.size_setIfInBounds]; omega) (by rw [Array.size_setIfInBounds]; exact hu)
      (fun u hu => hp u (List.mem_cons_of_mem _ hu))
    refine ⟨w', ?_, ?_, ?_⟩
    · simp only [storeCells, add_none]
      rw [run_then h1]; exact h2
    · rw [h3]; rfl
    · have k1 : Keep (fun b => b = k) w (w.setCell ⟨k, o + i, none⟩ v) := setCell_keep _ rfl
      exact ⟨h4.os.trans k1.os, h4.tape.trans k1.tape, h4.output.trans k1.output, Nat.le_trans k1.size h4.size, fun b hb hn => by
        rw [h4.same b (Nat.lt_of_lt_of_le hb k1.size) hn, k1.same b hb hn]⟩

/-! ### New blocks -/

def wnew (w : World) (o : Obj) : World := { w with heap := w.heap.push o }

theorem wnew_same (w : World) (o : Obj) {b : Nat} (h : b < w.heap.size) : (wnew w o).heap[b]? = w.heap[b]? := by
  simp only [wnew, Array.getElem?_push]; rw [if_neg (by omega)]
theorem wnew_new (w : World) (o : Obj) : (wnew w o).heap[w.heap.size]? = some o := by
  show (w.heap.push o)[w.heap.size]? = some o
  simp
theorem wnew_keep (own : Nat → Prop) (w : World) (cs : Array Value) (t : TypeId) : Keep own w (wnew w (.cells cs t)) := ⟨rfl, ⟨rfl⟩, rfl, by simp [wnew], fun b hb _ => wnew_same w _ hb⟩

theorem run_newRow {P : Program} (t : TypeId) (cs : Array Value) (w : World) : (newRow t cs).run P w = .ok ⟨w.heap.size, 0, none⟩ (wnew w (.cells cs t)) := by
  unfold newRow
  rw [run_then (show (newObj (.cells cs t)).run P w = .ok w.heap.size (wnew w (.cells cs t)) from rfl)]
  rfl

/-- The environment with one more name. -/
def Env.with (E : Env) (id : Nat) (s : Slot) : Env := { E with slot := fun j => if j = id then some s else E.slot j }

theorem Env.le_with {E : Env} {id : Nat} {s : Slot} (h : E.slot id = none) : E.le (E.with id s) :=
  ⟨fun j t hj => by simp only [Env.with]; rw [if_neg (fun e => by subst e; rw [h] at hj; cases hj)]; exact hj, fun _ h => h, fun _ h => h⟩
theorem Env.with_self (E : Env) (id : Nat) (s : Slot) : (E.with id s).slot id = some s := by simp [Env.with]
theorem Env.with_other {E : Env} {id j : Nat} {s : Slot} (h : j ≠ id) : (E.with id s).slot j = E.slot j := by simp [Env.with, h]

open Classical in
noncomputable def fpWith (fp : Nat → Nat → Prop) (id b : Nat) : Nat → Nat → Prop := fun j => if j = id then fun x => x = b else fp j

/-- A new block under a new name. -/
theorem EntsSat.fresh {E : Env} {w w' : World} {fp : Nat → Nat → Prop} {M : En} {id : Nat} {s : Slot} {e : Ent} (h : EntsSat E w fp M) (hid : E.slot id = none) (hs : s.blk = w.heap.size)
    (hk : Keep (fun _ => False) w w') (hz : w.heap.size < w'.heap.size) (he : EntSat (E.with id s) w' (fun b => b = w.heap.size) id e) :
    EntsSat (E.with id s) w' (fpWith fp id w.heap.size) ((id, e) :: M) ∧ Adv E fp w (E.with id s) (fpWith fp id w.heap.size) w' := by
  have hkeep : Keep (own fp) w w' := hk.mono (fun _ h => h.elim)
  have hst := h.stays hkeep
  have hsame : fpWith fp id w.heap.size id = fun x => x = w.heap.size := by simp [fpWith]
  have hother : ∀ {j}, j ≠ id → fpWith fp id w.heap.size j = fp j := fun hj => by simp [fpWith, hj]
  refine ⟨⟨fun j => ?_, fun j b hb => ?_, fun j b hb => ?_, fun j b hb => ?_, fun i j b hij hi hj => ?_, fun b hb => ?_, h.nil.mono (Env.le_with hid), h.glob hst (fun _ h => h)⟩, ⟨hkeep, Env.le_with hid, fun b hb => .inl hb, fun b hb => hb, fun j b hb => ?_⟩⟩
  · by_cases hj : j = id
    · subst hj; rw [hsame]; simpa [find] using he
    · rw [hother hj]
      have hf : find ((id, e) :: M) j = find M j := by
        have hb : Nat.beq id j = false := by rw [← Bool.not_eq_true, Nat.beq_eq]; exact fun e => hj e.symm
        simp [find, hb]
      rw [hf]
      exact (h.sat j).mono (Env.le_with hid) hst hk.size (fun b hb => hk.same b (h.lt j b hb) (fun h => h))
  · by_cases hj : j = id
    · subst hj; rw [hsame] at hb; omega
    · rw [hother hj] at hb; have := h.lt j b hb; omega
  · by_cases hj : j = id
    · subst hj; rw [hsame] at hb; intro hI; have := h.Ilt b (.inl hI); omega
    · rw [hother hj] at hb; exact h.I j b hb
  · by_cases hj : j = id
    · subst hj; rw [hsame] at hb; intro hI; have := h.Ilt b (.inr hI); omega
    · rw [hother hj] at hb; exact h.B j b hb
  · by_cases h1 : i = id <;> by_cases h2 : j = id
    · exact hij (h1.trans h2.symm)
    · subst h1; rw [hsame] at hi; rw [hother h2] at hj; have := h.lt j b hj; omega
    · subst h2; rw [hsame] at hj; rw [hother h1] at hi; have := h.lt i b hi; omega
    · rw [hother h1] at hi; rw [hother h2] at hj; exact h.apart i j b hij hi hj
  · have := h.Ilt b hb; omega
  · by_cases hj : j = id
    · subst hj; rw [hsame] at hb; exact .inr (by omega)
    · rw [hother hj] at hb; exact .inl ⟨j, hb⟩

end Go.Eng

/-! The engine, part E: the conditions that it asks of a text of code ('vc'). Definitions alone. -/
set_option linter.unusedVariables false
namespace Go.Eng

/-- A contract of a function. Names below 1000 in 'args', 'rw'; new names in 'out' from 1000 on. What is only read comes as '.rop true ..', '.ro true ..'. -/
structure Ctr where
  X : Type
  Y : Type
  args : X → List SV
  rw : X → En
  side : X → Prop
  val : X → Y
  ens : X → Y → Prop
  res : X → Y → SV
  out : X → Y → En

/-- A loop's invariant. -/
structure LA where
  X : Type
  pre : X → Prop
  mu : X → Nat
  T : X → Tm
  M : X → En

/-- A range over a function, as its caller sees it: the temporaries (T) stand still; what is lent to the rounds, by the number of rounds made (M); what stays behind (R); the names that keep their meaning (rg);
how many rounds there can be (n), what they are given (args); whether one goes on (goes), and how one leaves that does not (jump). -/
structure RA where
  X : Type
  T : X → Tm
  M : X → Nat → En
  R : X → En
  rg : List Nat
  n : X → Nat
  args : X → Nat → List SV
  goes : X → Nat → Bool
  jump : X → Nat → Exit

inductive AN where
  | loop (L : LA)
  | range (R : RA)

structure Two (A B : Prop) : Prop where mk ::
  l : A
  r : B
structure Fork (b : Bool) (A B : Prop) : Prop where mk ::
  t : b = true → A
  f : b = false → B
structure ForkP (p : Bool → Prop) (A B : Prop) : Prop where mk ::
  t : p true → A
  f : p false → B
structure Ar (k : IntKind) (n : Int) (K : Int → Prop) : Prop where wrap ::
  h : K (k.wrap n)
structure Race (b : Bool) (K : Prop) : Prop where mk ::
  e : b = true
  h : K
structure Eqn {α : Type} (a b : α) (K : Prop) : Prop where mk ::
  e : a = b
  h : K
structure Ask (p : Prop) (K : Prop) : Prop where mk ::
  e : p
  h : K
def conj : List Prop → Prop
  | [] => True
  | [p] => p
  | p :: l => conj l ∧ p
structure AskL (q : List Prop) (K : Prop) : Prop where mk ::
  e : conj q
  h : K
inductive Some' {α : Type} (K : α → Prop) : Prop where
  | mk (x : α) (h : K x)
structure All' {α : Type} (p : α → Prop) (K : α → Prop) : Prop where mk ::
  h : ∀ x, p x → K x
/-- The same, of an invariant: a name is to be chosen. -/
structure AllI {α : Type} (p : α → Prop) (K : α → Prop) : Prop where mk ::
  h : ∀ x, p x → K x
theorem Ar.fit {k : IntKind} {n : Int} {K : Int → Prop} (e : k.wrap n = n) (h : K n) : Ar k n K := ⟨by rw [e]; exact h⟩

theorem wrap_i64 {n : Int} (h0 : -9223372036854775808 ≤ n) (h1 : n ≤ 9223372036854775807) : IntKind.i64.wrap n = n := by
  simp only [IntKind.wrap, IntKind.bits, IntKind.signed, Bool.true_and]
  split <;> rename_i h <;> simp at h <;> omega
theorem wrap_u64 {n : Int} (h0 : 0 ≤ n) (h1 : n ≤ 18446744073709551615) : IntKind.u64.wrap n = n := by
  simp only [IntKind.wrap, IntKind.bits, IntKind.signed, Bool.false_and]
  simp only [Bool.false_eq_true, if_false]
  omega
theorem wrap_u8 {n : Int} (h0 : 0 ≤ n) (h1 : n ≤ 255) : IntKind.u8.wrap n = n := by
  simp only [IntKind.wrap, IntKind.bits, IntKind.signed, Bool.false_and]
  simp only [Bool.false_eq_true, if_false]
  omega

def nth : List SV → Nat → Option SV
  | [], _ => none
  | x :: _, 0 => some x
  | _ :: l, n + 1 => nth l n
def setN : List SV → Nat → SV → Option (List SV)
  | [], _, _ => none
  | _ :: l, 0, y => some (y :: l)
  | x :: l, n + 1, y => match setN l n y with | some l' => some (x :: l') | none => none
def setAll : List SV → Nat → List SV → Option (List SV)
  | cs, _, [] => some cs
  | cs, o, y :: ys => match setN cs o y with | some cs' => setAll cs' (o + 1) ys | none => none
/-- n of them from o on. -/
def cutS : List SV → (o n : Nat) → Option (List SV)
  | _, _, 0 => some []
  | [], _, _ + 1 => none
  | x :: l, 0, n + 1 => match cutS l 0 n with | some l' => some (x :: l') | none => none
  | _ :: l, o + 1, n + 1 => cutS l o (n + 1)

def evC : Value → SV
  | .agg cs => .agg (cs.toList.map .v)
  | v => .v v
def ev (T : Tm) : Operand → SV
  | .tmp t => look T t
  | .const v => evC v
  | .global g => .v (.pointer (some ⟨g, 0, none⟩))
  | .func f => .func (.func f) [] []

def force (s : SV) (K : SV → Prop) : Prop := match s with
  | .v x => K (.v x)
  | .any => K .any
  | .ptr i o => K (.ptr i o)
  | .elp i z x o => K (.elp i z x o)
  | .rop b c o => K (.rop b c o)
  | .sl i => K (.sl i)
  | .slc i o l c => K (.slc i o l c)
  | .ro b t xs => K (.ro b t xs)
  | .agg l => K (.agg l)
  | .tuple l => K (.tuple l)
  | .func f a c => K (.func f a c)
  | .unkB p => K (.unkB p)

/-- One cell's. -/
def scalB : SV → Bool
  | .any => false
  | .agg _ => false
  | .tuple _ => false
  | .v (.agg _) => false
  | .v (.tuple _) => false
  | _ => true
def allScal : List SV → Bool
  | [] => true
  | s :: l => match scalB s with | true => allScal l | false => false
/-- A value's cells. -/
def svCells : SV → Option (List SV)
  | .agg l => match allScal l with | true => some l | false => none
  | .any => none
  | .tuple _ => none
  | .v (.agg _) => none
  | .v (.tuple _) => none
  | s => some [s]

/-- A part of a row of cells, as a value of its type. -/
def partV (P : Program) (t : TypeId) (cs : List SV) (o : Nat) (K : SV → Prop) : Prop :=
  match aggOf P t with
  | some true => match szOf P t with
    | some n => match cutS cs o n with | some l => K (.agg l) | none => False
    | none => False
  | some false => match nth cs o with | some s => force s K | none => False
  | none => False

def eqK : IntKind → IntKind → Bool
  | .i8, .i8 | .i16, .i16 | .i32, .i32 | .i64, .i64 | .u8, .u8 | .u16, .u16 | .u32, .u32 | .u64, .u64 => true
  | _, _ => false

def isPtrT (P : Program) (t : TypeId) : Bool := match P.underlying t with | some (.pointer _) => true | _ => false
def isFuncT (P : Program) (t : TypeId) : Bool := match P.underlying t with | some (.func _ _ _) => true | _ => false
def isSliceT (P : Program) (t : TypeId) : Bool := match P.underlying t with | some (.slice _) => true | _ => false

/-- What needs no memory: the model's own reckoning. -/
def plain2 (P : Program) (s : Sem Value) (K : SV → Prop) : Prop := match pureP P s with
  | some v => K (evC v)
  | none => False

def cmpV (op : BinOp) (a b : Int) (K : SV → Prop) : Prop := match op with
  | .eql => K (.v (.bool (a == b)))
  | .neq => K (.v (.bool (a != b)))
  | .lss => K (.v (.bool (decide (a < b))))
  | .leq => K (.v (.bool (decide (a ≤ b))))
  | .gtr => K (.v (.bool (decide (a > b))))
  | .geq => K (.v (.bool (decide (a ≥ b))))
  | _ => False

def intV (P : Program) (op : BinOp) (k : IntKind) (a b : Int) (t : TypeId) (K : SV → Prop) : Prop := match op with
  | .add => Ar k (a + b) fun m => K (.v (.int k m))
  | .sub => Ar k (a - b) fun m => K (.v (.int k m))
  | .mul => Ar k (a * b) fun m => K (.v (.int k m))
  | .quo => Ask (b ≠ 0) (Ar k (a.tdiv b) fun m => K (.v (.int k m)))
  | .rem => Ask (b ≠ 0) (K (.v (.int k (a.tmod b))))
  | .and => plain2 P (Op.intBits .and k a b) K
  | .or => plain2 P (Op.intBits .or k a b) K
  | .xor => plain2 P (Op.intBits .xor k a b) K
  | .andNot => plain2 P (Op.intBits .andNot k a b) K
  | op => cmpV op a b K

def shiftV (op : BinOp) (k : IntKind) (a b : Int) (K : SV → Prop) : Prop := match op with
  | .shl => Ask (0 ≤ b) (Ar k (a * 2 ^ (min b.toNat k.bits)) fun m => K (.v (.int k m)))
  | .shr => Ask (0 ≤ b) (K (.v (.int k (a.fdiv (2 ^ (min b.toNat k.bits))))))
  | _ => False

def strV (op : BinOp) (a b : ByteArray) (K : SV → Prop) : Prop := match op with
  | .add => Ask ((a.size + b.size : Nat) ≤ 9223372036854775807) (K (.v (.string (a ++ b))))
  | .eql => K (.v (.bool (a.toList == b.toList)))
  | .neq => K (.v (.bool (!(a.toList == b.toList))))
  | .lss => K (.v (.bool (Op.bytesLess a.toList b.toList)))
  | .leq => K (.v (.bool (Op.bytesLess a.toList b.toList || a.toList == b.toList)))
  | .gtr => K (.v (.bool (!(Op.bytesLess a.toList b.toList || a.toList == b.toList))))
  | .geq => K (.v (.bool (!(Op.bytesLess a.toList b.toList))))
  | _ => False

def notIf (op : BinOp) (b : Bool) : Option Bool := match op with | .eql => some b | .neq => some (!b) | _ => none

/-- Is it nil? Not: a pointer, a function. -/
def notNil (op : BinOp) (c : Bool) (K : SV → Prop) : Prop := match c with
  | true => match op with
    | .eql => K (.v (.bool false))
    | .neq => K (.v (.bool true))
    | _ => False
  | false => False

def binV (P : Program) (op : BinOp) (t : TypeId) (x y : SV) (M : En) (K : SV → List Nat → Prop) : Prop :=
  match x with
  | .v a => match y with
    | .v b => match a with
      | .int k m => match b with
        | .int k' n => match op with
          | .shl => shiftV .shl k m n fun s => K s []
          | .shr => shiftV .shr k m n fun s => K s []
          | op => match eqK k k' with
            | true => intV P op k m n t fun s => K s []
            | false => False
        | _ => False
      | .string s => match b with
        | .string u => strV op s u fun s => K s []
        | _ => False
      | .agg _ => False
      | .nilIface => False
      | a => match op with
        | .eql => plain2 P (binOp .eql t a b) fun s => K s []
        | .neq => plain2 P (binOp .neq t a b) fun s => K s []
        | _ => False
    | _ => False
  | .ptr _ _ => match y with | .v (.pointer none) => notNil op (isPtrT P t) fun s => K s [] | _ => False
  | .elp _ _ _ _ => match y with | .v (.pointer none) => notNil op (isPtrT P t) fun s => K s [] | _ => False
  | .rop _ _ _ => match y with | .v (.pointer none) => notNil op (isPtrT P t) fun s => K s [] | _ => False
  | .func _ _ _ => match y with | .v .nilFunc => notNil op (isFuncT P t) fun s => K s [] | _ => False
  | _ => False

/-! ### Contracts at a call -/

abbrev Mp := List (Nat × Nat)
def mlook : Mp → Nat → Option Nat
  | [], _ => none
  | (j, i) :: m, k => match Nat.beq j k with | true => some i | false => mlook m k

/-- j of the target's is i of the source's. -/
def bindM (j i : Nat) (m : Mp) (K : Mp → Prop) : Prop := match nilB j with
  | true => False
  | false => match mlook m j with
    | some i' => match Nat.beq i' i with | true => K m | false => False
    | none => K ((j, i) :: m)
def nilC : Mp → Nat
  | [] => 0
  | (_, i) :: m => match nilB i with | true => nilC m + 1 | false => nilC m
/-- j of the target's is a nil slice. -/
def nilM (j : Nat) (m : Mp) (K : Mp → Prop) : Prop := match nilB j with
  | true => False
  | false => match mlook m j with
    | some i => match nilB i with | true => K m | false => False
    | none => match nilB (1984 + nilC m) with | true => K ((j, 1984 + nilC m) :: m) | false => False

def allLt (n : Nat) : Mp → Bool
  | [] => true
  | (j, _) :: m => match Nat.blt j n with | true => allLt n m | false => false
def nodupB : List Nat → Bool
  | [] => true
  | i :: l => match memB i l with | true => false | false => nodupB l
def imgs (m : Mp) : List Nat → List Nat
  | [] => []
  | j :: l => match mlook m j with | some i => i :: imgs m l | none => imgs m l

def eqV (x y : Value) (q : List Prop) (K : List Prop → Prop) : Prop := match x with
  | .int k a => match y with
    | .int k' b => match eqK k k' with | true => K ((a = b) :: q) | false => False
    | _ => False
  | .bool a => match y with | .bool b => K ((a = b) :: q) | _ => False
  | .string a => match y with | .string b => K ((a = b) :: q) | _ => False
  | x => K ((x = y) :: q)

/-- What a comparison carries along: the names; the rows that are lent; those that are given up; the equations. -/
abbrev MK := Mp → List Nat → List Nat → List Prop → Prop

/-- The nil slice. -/
def nilV (y : Value) (A : Prop) : Prop := match y with
  | .slice none 0 0 => A
  | _ => False

mutual
/-- The source's value serves as the target's. -/
def matSV (M : En) : Nat → (tgt src : SV) → Mp → List Nat → List Nat → List Prop → MK → Prop
  | 0, _, _, _, _, _, _, _ => False
  | n + 1, tgt, src, m, bs, fs, q, K => match tgt with
    | .any => K m bs fs q
    | .v x => match src with | .v y => eqV y x q (K m bs fs) | _ => False
    | .ptr j o => match src with | .ptr i o' => (match Nat.beq o o' with | true => bindM j i m fun m => K m bs fs q | false => False) | _ => False
    | .sl j => match src with | .sl i => bindM j i m fun m => K m bs fs q | .v y => nilV y (nilM j m fun m => K m bs fs q) | _ => False
    | .ro b t xs => match src with
      | .ro b' t' ys => (match b' && !b with | true => False | false => K m bs fs ((SV.ro true t' ys = SV.ro true t xs) :: q))
      | .v y => nilV y (K m bs fs ((SV.ro true t [] = SV.ro true t xs) :: q))
      | .sl i => match find M i with
        | .row _ t' ys => (match b with | true => K m (i :: bs) fs ((SV.ro true t' ys = SV.ro true t xs) :: q) | false => K m bs (i :: fs) ((SV.ro true t' ys = SV.ro true t xs) :: q))
        | _ => False
      | .slc i o l c => match find M i with
        | .cells _ cs => match (match Nat.ble l c with | true => cutS cs o (l * t.size) | false => none) with
          | some l' => matL M n (flatF (enc t) xs) l' m bs fs ((xs.length = l) :: q) fun m bs fs q => match b with | true => K m (i :: bs) fs q | false => K m bs (i :: fs) q
          | none => False
        | _ => False
      | _ => False
    | .slc j o l c => match src with
      | .slc i o' l' c' => (match Nat.beq o o' && Nat.beq l l' && Nat.beq c c' with | true => bindM j i m fun m => K m bs fs q | false => False)
      | _ => False
    | .agg l => match src with | .agg l' => matL M n l l' m bs fs q K | _ => False
    | .tuple l => match src with | .tuple l' => matL M n l l' m bs fs q K | _ => False
    | .func (.func f) a c => match src with
      | .func (.func f') a' c' => (match Nat.beq f f' with | true => matL M n a a' m bs fs q fun m bs fs q => matL M n c c' m bs fs q K | false => False)
      | _ => False
    | .rop b cs o => match src with
      | .rop b' cs' o' => (match b' && !b with | true => False | false => match Nat.beq o o' with | true => matL M n cs cs' m bs fs q K | false => False)
      | .ptr i off => match o with
        | 0 => match find M i with
          | .cells _ cs' => match cutS cs' off cs.length with
            | some l' => matL M n cs l' m bs fs q fun m bs fs q => match b with | true => K m (i :: bs) fs q | false => K m bs (i :: fs) q
            | none => False
          | _ => False
        | _ + 1 => False
      | _ => False
    | _ => False
def matL (M : En) : Nat → (tgt src : List SV) → Mp → List Nat → List Nat → List Prop → MK → Prop
  | 0, _, _, _, _, _, _, _ => False
  | n + 1, tgt, src, m, bs, fs, q, K => match tgt with
    | [] => match src with | [] => K m bs fs q | _ :: _ => False
    | x :: l => match src with | y :: l' => matSV M n x y m bs fs q fun m bs fs q => matL M n l l' m bs fs q K | [] => False
end

def matEnt (M : En) (tgt src : Ent) (m : Mp) (bs fs : List Nat) (q : List Prop) (K : MK) : Prop :=
  match tgt with
  | .gone => K m bs fs q
  | .cells t cs => match src with
    | .cells t' cs' => (match Nat.beq t t' with | true => matL M 200 cs cs' m bs fs q K | false => False)
    | _ => False
  | .row e t xs => match src with
    | .row e' t' ys => (match Nat.beq e e' with | true => K m bs fs ((SV.ro true t' ys = SV.ro true t xs) :: q) | false => False)
    | _ => False
  | .siter s p => match src with | .siter s' p' => K m bs fs ((s' = s) :: (p' = p) :: q) | _ => False
  | .res F A => match src with | .res F' B => K m bs fs ((B = A) :: (F' = F) :: q) | _ => False

/-- The source's entry; that of a nil slice is an empty row. -/
def srcE (M : En) (i : Nat) (e : Ent) : Ent := match nilB i with
  | true => match find M i with
    | .gone => match e with | .row te t _ => .row te t [] | _ => .gone
    | x => x
  | false => find M i

def firstRes (M : En) : En → Option Nat
  | [] => none
  | (i, _) :: l => match find M i with | .res _ _ => some i | _ => firstRes M l
/-- An entry of the kind 'res' needs no name. -/
def resM (M : En) (e : Ent) (j : Nat) (m : Mp) : Mp := match e with
  | .res _ _ => match mlook m j with
    | some _ => m
    | none => match firstRes M M with | some i => (j, i) :: m | none => m
  | _ => m
/-- Each of the target's entries is one of the source's of its own. -/
def matE (M : En) : (tgt : En) → Mp → List Nat → List Nat → List Prop → (used : List Nat) → (Mp → List Nat → List Nat → List Prop → List Nat → Prop) → Prop
  | [], m, bs, fs, q, us, K => K m bs fs q us
  | (j, e) :: l, m, bs, fs, q, us, K => match mlook (resM M e j m) j with
    | none => False
    | some i => match memB i us with
      | true => False
      | false => match nilB j with
        | true => False
        | false => matEnt M e (srcE M i e) (resM M e j m) bs fs q fun m bs fs q => matE M l m bs fs q (i :: us) K

/-- New names for what a call hands back. -/
def extM (m : Mp) (lo : Nat) : List Nat → Mp
  | [] => m
  | j :: l => match mlook m j with | some _ => extM m lo l | none => extM ((j, lo) :: m) (lo + 1) l

mutual
def renS (bb : Bool) : Nat → Mp → SV → (SV → Prop) → Prop
  | 0, _, _, _ => False
  | n + 1, m, s, K => match s with
    | .v x => K (.v x)
    | .any => K .any
    | .ptr j o => match mlook m j with | some i => K (.ptr i o) | none => False
    | .elp j z x o => match mlook m j with | some i => K (.elp i z x o) | none => False
    | .sl j => match mlook m j with | some i => K (.sl i) | none => False
    | .slc j o l c => match mlook m j with | some i => K (.slc i o l c) | none => False
    | .ro b t xs => (match b && !bb with | true => False | false => K (.ro b t xs))
    | .agg l => renL bb n m l fun l => K (.agg l)
    | .tuple l => renL bb n m l fun l => K (.tuple l)
    | .func f a c => renL bb n m a fun a => renL bb n m c fun c => K (.func f a c)
    | .rop b cs o => (match b && !bb with | true => False | false => renL bb n m cs fun cs => K (.rop b cs o))
    | .unkB p => K (.unkB p)
def renL (bb : Bool) : Nat → Mp → List SV → (List SV → Prop) → Prop
  | 0, _, _, _ => False
  | n + 1, m, l, K => match l with
    | [] => K []
    | x :: l => renS bb n m x fun x => renL bb n m l fun l => K (x :: l)
end

def renEnt (bb : Bool) (m : Mp) (e : Ent) (K : Ent → Prop) : Prop := match e with
  | .gone => K .gone
  | .cells t cs => renL bb 200 m cs fun cs => K (.cells t cs)
  | .row e t xs => K (.row e t xs)
  | .siter s p => K (.siter s p)
  | .res F A => K (.res F A)

def renE (bb : Bool) (m : Mp) : En → (En → Prop) → Prop
  | [], K => K []
  | (j, e) :: l, K => match mlook m j with
    | some i => renEnt bb m e fun e => renE bb m l fun l => K ((i, e) :: l)
    | none => False

/-- What is lent and comes back leans on what it leant on. -/
def resQ (m : Mp) (M : En) (us : List Nat) : En → Option (List Prop)
  | [] => some []
  | (j, e) :: l => match e with
    | .res F _ => match mlook m j with
      | some i => match memB i us with
        | true => match find M i with
          | .res F0 _ => match resQ m M us l with | some q => some ((F0 = F) :: q) | none => none
          | _ => none
        | false => none
      | none => none
    | _ => resQ m M us l
def AskR (q : List Prop) (K : Prop) : Prop := match q with
  | [] => K
  | p :: l => AskL (p :: l) K

def nullB : List Nat → Bool
  | [] => true
  | _ :: _ => false
def CallB (C : Ctr) (args : List SV) (M : En) (lo : Nat) (Kg : SV → List Nat → List Nat → En → Prop) (x : C.X) : Prop :=
  matL M 200 (C.args x) args [] [] [] [] fun m bs fs q =>
    matE M (C.rw x) m bs fs q [] fun m bs fs q us =>
      match anyB bs us || anyB fs us || anyB fs bs || !allLt 1000 m with
      | true => False
      | false => AskL q (Ask (C.side x) (All' (fun y => y = C.val x ∧ C.ens x y) fun y => match Nat.ble (keys (C.out x y)).length 16 && nodupB (keys (C.out x y)) with
          | true => match resQ m M us (C.out x y) with
            | some q' => AskR q' (renS (nullB bs) 200 (extM m lo (keys (C.out x y))) (C.res x y) fun out =>
              renE (nullB bs) (extM m lo (keys (C.out x y))) (C.out x y) fun eo => match nodupB (keys eo) && !anyB (keys eo) bs with
                | true => Kg out (us ++ fs ++ bs) (us ++ fs) eo
                | false => False)
            | none => False
          | false => False))

inductive CallP (C : Ctr) (args : List SV) (M : En) (lo : Nat) (Kg : SV → List Nat → List Nat → En → Prop) : Prop where
  | mk (x : C.X) (h : CallB C args M lo Kg x)

/-! ### yield -/

/-- Who ranges over a function, as the function sees it: what the calls are given; does he go on behind a call; may he be called; the blocks that he leans on; his state ahead of a call. -/
structure Yld where
  args : Nat → List SV
  goes : Nat → Bool
  live : Nat → Bool
  F : Nat → Prop
  S : Nat → (Nat → Prop) → (Nat → Prop) → World → Prop

def bareE (I : Nat → Prop) : Env := ⟨fun j => match nilB j with | true => some nilSlot | false => none, I, fun _ => False⟩

/-- He keeps his word. -/
structure YOk (P : Program) (l : Nat) (Y : Yld) : Prop where
  stay : ∀ k J fp w w', Y.S k J fp w → w.heap.size ≤ w'.heap.size → (∀ b, fp b ∨ Y.F b ∨ J b → w'.heap[b]? = w.heap[b]?) → Y.S k J fp w'
  law : ∀ (k : Nat) (J fp I : Nat → Prop) (w : World) (vals : Array Value), Y.live k = true → Y.S k J fp w → (∀ b, I b → b < w.heap.size ∧ ¬ fp b) → (∀ b, J b → I b) → (∀ b, Y.F b → b < w.heap.size ∧ ¬ fp b) → (∀ b, fp b → b < w.heap.size) →
    vals.size = (Y.args k).length → (∀ (j : Nat) (s : SV), (Y.args k)[j]? = some s → Sat (bareE I) w s (vals.getD j undef)) →
    ∃ fn tmps as body, (Instr.yield l vals).run P w = .ok (.round l fn tmps as body) w ∧
      RoundIn (fence none) 0 P l fn tmps as body w fun e w' => e = .returned (.bool (Y.goes k)) ∧ ∃ J' fp', Y.S (k + 1) J' fp' w' ∧ Keep fp w w' ∧ (∀ b, J' b → I b) ∧
        (∀ b, fp' b → fp b ∨ w.heap.size ≤ b) ∧ ∀ b, fp' b → b < w'.heap.size

def own1 : SV → Bool
  | .v _ => true
  | .ro b _ _ => !b
  | _ => false
def allOwn1 : List SV → Bool
  | [] => true
  | s :: l => match own1 s with | true => allOwn1 l | false => false
def ownB : SV → Bool
  | .agg l => allOwn1 l
  | s => own1 s
def allOwn : List SV → Bool
  | [] => true
  | s :: l => match ownB s with | true => allOwn l | false => false

/-- A call of yield. -/
def YieldB (P : Program) (l : Nat) (args : List SV) (M : En) (Kg : SV → List Nat → List Nat → En → Prop) (Y : Yld) (k i : Nat) (as : List SV) : Prop := match find M i with
  | .res F A => Ask (YOk P l Y ∧ Y.live k = true ∧ F = Y.F ∧ A = Y.S k) (matL M 200 as args [] [] [] [] fun m bs fs q => match m, bs with
    | [], [] => match allOwn as && !memB i fs with
      | true => AskL q (Kg (.v (.bool (Y.goes k))) (i :: fs) (i :: fs) [(i, .res Y.F (Y.S (k + 1)))])
      | false => False
    | _, _ => False)
  | _ => False
inductive YieldP (P : Program) (l : Nat) (args : List SV) (M : En) (Kg : SV → List Nat → List Nat → En → Prop) : Prop where
  | mk (Y : Yld) (k i : Nat) (as : List SV) (e : Y.args k = as) (h : YieldB P l args M Kg Y k i as)

/-! ### Built-in functions -/

def bltV (P : Program) (b : Builtin) (types : List TypeId) (args : List SV) (M : En) (Kp : SV → List Nat → Prop) : Prop := match b with
  | .len => match args, types with
    | [.v (.string s)], [t] => (match P.underlying t with | some .string => Kp (.v (.int .i64 s.size)) [] | _ => False)
    | [.ro _ _ xs], [t] => (match isSliceT P t with | true => Kp (.v (.int .i64 xs.length)) [] | false => False)
    | [.slc _ _ n _], [t] => (match isSliceT P t with | true => Kp (.v (.int .i64 n)) [] | false => False)
    | [.v (.slice none 0 0)], [t] => (match isSliceT P t with | true => Kp (.v (.int .i64 0)) [] | false => False)
    | [.sl i], [t] => (match isSliceT P t with
      | true => (match find M i with | .row _ _ xs => Kp (.v (.int .i64 xs.length)) [i] | _ => False)
      | false => False)
    | _, _ => False
  | .max => match args with
    | [.v (.int k a), .v (.int _ b)] => Kp (.v (.int k (max a b))) []
    | [.v (.int k a), .v (.int _ b), .v (.int _ c)] => Kp (.v (.int k (max (max a b) c))) []
    | _ => False
  | .min => match args with
    | [.v (.int k a), .v (.int _ b)] => Kp (.v (.int k (min a b))) []
    | [.v (.int k a), .v (.int _ b), .v (.int _ c)] => Kp (.v (.int k (min (min a b) c))) []
    | _ => False
  | _ => False

/-! ### append -/

def eqTy : (a b : Ty) → Option (PLift (a = b))
  | .int k, .int k' => if h : k = k' then some ⟨by rw [h]⟩ else none
  | .bool, .bool => some ⟨rfl⟩
  | .str, .str => some ⟨rfl⟩
  | .unit, .unit => some ⟨rfl⟩
  | .sl a, .sl b => match eqTy a b with | some h => some ⟨by rw [h.down]⟩ | none => none
  | .pair a b, .pair c d => match eqTy a c with
    | some h => match eqTy b d with | some h' => some ⟨by rw [h.down, h'.down]⟩ | none => none
    | none => none
  | .arr n a, .arr m b => if h : n = m then (match eqTy a b with | some h' => some ⟨by rw [h, h'.down]⟩ | none => none) else none
  | _, _ => none

mutual
/-- The code of a type of the program's. -/
def tyOf (P : Program) : Nat → TypeId → Option Ty
  | 0, _ => none
  | n + 1, t => match P.underlying t with
    | some (.int k) => some (.int k)
    | some .bool => some .bool
    | some .string => some .str
    | some (.slice e) => match tyOf P n e with | some a => some (.sl a) | none => none
    | some (.array len e) => match tyOf P n e with | some a => some (.arr len a) | none => none
    | some (.struct fs) => tyFs P n fs.toList
    | _ => none
def tyFs (P : Program) : Nat → List Field → Option Ty
  | 0, _ => none
  | n + 1, l => match l with
    | [] => some .unit
    | [f] => tyOf P n f.type
    | f :: l => match tyOf P n f.type with
      | some a => match tyFs P n l with | some b => some (.pair a b) | none => none
      | none => none
end

def consF {n : Nat} {α : Type} (x : α) (f : Fin n → α) : Fin (n + 1) → α := fun i => match i with
  | ⟨0, _⟩ => x
  | ⟨j + 1, h⟩ => f ⟨j, Nat.lt_of_succ_lt_succ h⟩

/-- n of them out of the cells. -/
def decA {α : Type} (d : List SV → Option (α × List SV)) : (n : Nat) → List SV → Option ((Fin n → α) × List SV)
  | 0, l => some ((fun i => nomatch i), l)
  | n + 1, l => match d l with
    | some (x, l) => match decA d n l with
      | some (f, l) => some (consF x f, l)
      | none => none
    | none => none

/-- A datum out of its cells. -/
def dec : (t : Ty) → List SV → Option (t.den × List SV)
  | .int k, l => match l with | .v (.int k' n) :: l => (match eqK k k' with | true => some (n, l) | false => none) | _ => none
  | .bool, l => match l with | .v (.bool b) :: l => some (b, l) | _ => none
  | .str, l => match l with | .v (.string s) :: l => some (s, l) | _ => none
  | .unit, l => some ((), l)
  | .sl t, l => match l with
    | .ro false t' xs :: l => (match eqTy t' t with | some h => some (h.down ▸ xs, l) | none => none)
    | .v (.slice none 0 0) :: l => some ([], l)
    | _ => none
  | .pair a b, l => match dec a l with
    | some (x, l) => match dec b l with | some (y, l) => some ((x, y), l) | none => none
    | none => none
  | .arr n t, l => decA (dec t) n l

def decL (t : Ty) : Nat → List SV → Option (List t.den)
  | 0, l => match l with | [] => some [] | _ :: _ => none
  | n + 1, l => match dec t l with
    | some (x, l) => match decL t n l with | some xs => some (x :: xs) | none => none
    | none => none

/-- What is appended: the data, and whose entries are read. -/
def srcV (M : En) (t : Ty) (x : SV) (K : List t.den → List Nat → Prop) : Prop := match x with
  | .slc j o n c => match Nat.ble n c with
    | true => match find M j with
      | .cells _ cs => match cutS cs o (n * t.size) with
        | some l => match decL t n l with | some ys => K ys [j] | none => False
        | none => False
      | _ => False
    | false => False
  | .ro _ t' ys => match eqTy t' t with | some h => K (h.down ▸ ys) [] | none => False
  | .sl j => match find M j with
    | .row _ t' ys => match eqTy t' t with | some h => K (h.down ▸ ys) [j] | none => False
    | _ => False
  | .v (.slice none 0 0) => K [] []
  | _ => False

/-- What is appended; a string's bytes too. -/
def srcA (M : En) (t : Ty) (x : SV) (K : List t.den → List Nat → Prop) : Prop := match x with
  | .v (.string s) => match eqTy (.int .u8) t with | some h => K (h.down ▸ (s.data.toList.map fun b => (b.toNat : Int))) [] | none => False
  | x => srcV M t x K

def byOf (P : Program) (t : TypeId) : Option Nat := match P.info? t with | some i => some i.bytes | none => none

/-- May it be appended to at all? -/
def appOk (P : Program) (e : TypeId) (t : Ty) : Bool := match szOf P e, byOf P e, zeroOf P e with
  | some n, some b, some zs => Nat.beq n t.size && Nat.ble b 400 && Nat.beq zs.length n
  | _, _, _ => false

def isIntT (P : Program) (t : TypeId) : Bool := match P.underlying t with | some (.slice _) => false | some .string => false | _ => true

def appV (P : Program) (types : List TypeId) (args : List SV) (lo : Nat) (M : En) (Kg : SV → List Nat → List Nat → En → Prop) : Prop := match types, args with
  | [ts, tx], [s, x] => match P.underlying ts with
    | some (.slice e) => match isIntT P tx with
      | true => False
      | false => match s with
        | .v (.slice none 0 0) => match tyOf P 30 e with
          | some t => match appOk P e t with
            | true => srcA M t x fun ys S => Ask (ys.length ≤ 274877906944) (Kg (.sl lo) S [] [(lo, .row e t ys)])
            | false => False
          | none => False
        | .slc i 0 n c => match find M i with
          | .cells te cs => match tyOf P 30 e with
            | some t => match Nat.beq te e && appOk P e t && Nat.beq n c with
              | true => match decL t n cs with
                | some xs => srcA M t x fun ys S => match memB i S with
                  | true => False
                  | false => Ask (xs.length + ys.length ≤ 274877906944) (Kg (.sl lo) (i :: S) [i] [(lo, .row e t (xs ++ ys))])
                | none => False
              | false => False
            | none => False
          | _ => False
        | .sl i => match find M i with
          | .row e' t xs => match Nat.beq e e' && appOk P e t with
            | true => srcA M t x fun ys S => match memB i S with
              | true => False
              | false => Ask (xs.length + ys.length ≤ 274877906944) (Kg (.sl lo) (i :: S) [i] [(lo, .row e t (xs ++ ys))])
            | false => False
          | _ => False
        | _ => False
    | _ => False
  | _, _ => False

/-! ### One operation -/

def mapEv (T : Tm) : List Operand → List SV
  | [] => []
  | x :: l => ev T x :: mapEv T l
def partsEv (T : Tm) : List (Nat × Operand) → List (Nat × SV)
  | [] => []
  | (i, x) :: l => (i, ev T x) :: partsEv T l

def listV : List Value → List SV
  | [] => []
  | v :: l => .v v :: listV l

def fillS (place : Nat → Option (Nat × Nat)) (cells : List SV) : List (Nat × SV) → Option (List SV)
  | [] => some cells
  | (i, s) :: rest => match place i with
    | none => none
    | some (off, size) => match svCells s with
      | none => none
      | some vs => match Nat.beq vs.length size && Nat.ble (off + size) cells.length with
        | true => match setAll cells off vs with | some cs => fillS place cs rest | none => none
        | false => none

def placeOf (P : Program) (t : TypeId) (i : Nat) : Option (Nat × Nat) := match P.underlying t with
  | some (.struct fs) => match fs.toList[i]? with
    | some f => match szOf P f.type with | some n => some (f.offset, n) | none => none
    | none => none
  | some (.array _ e) => match szOf P e with | some n => some (i * n, n) | none => none
  | _ => none

def szsOk (P : Program) : List Field → Bool
  | [] => true
  | f :: l => match szOf P f.type with | some _ => szsOk P l | none => false
/-- All parts of the type have sizes. -/
def partsOk (P : Program) (t : TypeId) : Bool := match P.underlying t with
  | some (.struct fs) => szsOk P fs.toList
  | some (.array _ e) => match szOf P e with | some _ => true | none => false
  | _ => false

def repS (n : Nat) (l : List SV) : List SV := match n with | 0 => [] | n + 1 => l ++ repS n l

/-- All operands plain values: the model's own reckoning. -/
def plainE (T : Tm) (x : Operand) : Value := match ev T x with | .v a => a | .func fn [] [] => .func fn #[] #[] | _ => undef
def allPlain (T : Tm) : List Operand → Bool
  | [] => true
  | x :: l => match ev T x with | .v _ => allPlain T l | .func _ [] [] => allPlain T l | _ => false
/-- What a function without a body hands back. -/
def evR : Value → SV
  | .tuple vs => .tuple (vs.toList.map .v)
  | v => evC v
def genV (P : Program) (o : Oper) (T : Tm) (K : SV → Prop) : Prop := match allPlain T o.op.operands.toList with
  | true => match pureP P (execOp (plainE T) o) with
    | some (.value v) => K (evR v)
    | _ => False
  | false => False

/-! ### Slices and nil; bytes and strings -/

def nilQ (op : BinOp) (n : Nat) (K : SV → Prop) : Prop := match op with
  | .eql => K (.unkB fun b => b = true → n = 0)
  | .neq => K (.unkB fun b => b = false → n = 0)
  | _ => False
def isNilSl : SV → Bool
  | .v (.slice none 0 0) => true
  | _ => false
/-! Structs and arrays of plain parts -/
mutual
/-- The kinds of a type's parts (0: numbers, 1: truths, 2: strings). -/
def lfs (P : Program) : Nat → TypeId → Option (List Nat)
  | 0, _ => none
  | n + 1, t => match P.underlying t with
    | some (.int _) => some [0]
    | some .bool => some [1]
    | some .string => some [2]
    | some (.struct fs) => match P.stoodInHeld t with | true => none | false => lfsF P n fs.toList 0
    | some (.array len e) => match lfs P n e, szOf P e with
      | some l, some sz => match Nat.beq sz l.length with | true => some (List.replicate len l).flatten | false => none
      | _, _ => none
    | _ => none
def lfsF (P : Program) : Nat → List Field → Nat → Option (List Nat)
  | 0, _, _ => none
  | n + 1, l, off => match l with
    | [] => some []
    | f :: l => match decide (f.name = "_"), Nat.beq f.offset off, lfs P n f.type, szOf P f.type with
      | false, true, some ks, some sz => match Nat.beq sz ks.length with
        | true => match lfsF P n l (off + sz) with | some r => some (ks ++ r) | none => none
        | false => none
      | _, _, _, _ => none
end
def kd1 : Value → Nat
  | .int _ _ => 0
  | .bool _ => 1
  | .string _ => 2
  | _ => 3
def kds (l : List Value) : List Nat := l.map kd1
def eqOkB (P : Program) (t : TypeId) (ks : List Nat) : Bool := match lfs P 20 t, aggOf P t with
  | some l, some true => l == ks && !P.eqGuardType P.depth t
  | _, _ => false
def plainL : List SV → Option (List Value)
  | [] => some []
  | .v a :: l => match plainL l with | some r => some (a :: r) | none => none
  | _ => none
def eq1 : Value → Value → Option Bool
  | .int k a, .int k' b => match eqK k k' with | true => some (a == b) | false => none
  | .bool a, .bool b => some (a == b)
  | .string a, .string b => some (a == b)
  | _, _ => none
def eqLv : List Value → List Value → Option Bool
  | [], [] => some true
  | [a], [b] => eq1 a b
  | a :: l, b :: l' => match eq1 a b with
    | some r => match eqLv l l' with | some r' => some (r && r') | none => none
    | none => none
  | _, _ => none
def eqAggV (P : Program) (op : BinOp) (t : TypeId) (l l' : List SV) (K : SV → Prop) : Prop := match plainL l with
  | some a => match plainL l' with
    | some b => match eqLv a b with
      | some r => match op with
        | .eql => Race (eqOkB P t (kds a) && eqOkB P t (kds b)) (K (.v (.bool r)))
        | .neq => Race (eqOkB P t (kds a) && eqOkB P t (kds b)) (K (.v (.bool (!r))))
        | _ => False
      | none => False
    | none => False
  | none => False
def binW (P : Program) (op : BinOp) (t : TypeId) (x y : SV) (M : En) (K : SV → List Nat → Prop) : Prop := match x with
  | .sl i => (match isNilSl y && isSliceT P t with
    | true => (match find M i with | .row _ _ xs => nilQ op xs.length fun s => K s [i] | _ => False)
    | false => False)
  | .ro _ _ xs => (match isNilSl y && isSliceT P t with | true => nilQ op xs.length fun s => K s [] | false => False)
  | .slc _ _ _ _ => (match isNilSl y && isSliceT P t with | true => notNil op true fun s => K s [] | false => False)
  | .agg l => (match y with | .agg l' => eqAggV P op t l l' fun s => K s [] | _ => False)
  | x => binV P op t x y M K

/-- The number of a string's byte. -/
def byteAt (s : ByteArray) (i : Nat) : Int := match s[i]? with | some b => (b.toNat : Int) | none => 0
/-- A string's bytes as numbers. -/
def bytesL (s : ByteArray) : List Int := s.data.toList.map fun b => (b.toNat : Int)
def bytesT (P : Program) (t : TypeId) : Option TypeId := match P.underlying t with
  | some (.slice e) => (match P.underlying e with | some (.int .u8) => some e | _ => none)
  | _ => none
def isStrT (P : Program) (t : TypeId) : Bool := match P.underlying t with | some .string => true | _ => false

def convW (P : Program) (src dst : TypeId) (x : SV) (lo : Nat) (M : En) (Kp : SV → List Nat → Prop) (Kg : SV → List Nat → List Nat → En → Prop) (F : Prop) : Prop := match bytesT P src with
  | some _ => (match isStrT P dst with
    | true => srcV M (.int .u8) x fun ys S => Kp (.v (.string (strOfNums ys))) S
    | false => (match x with
      | .slc i o l c => (match Nat.beq src dst with
        | true => (match find M i with
          | .cells _ cs => match (match Nat.ble l c with | true => cutS cs o l | false => none) with
            | some l' => (match decL (.int .u8) l l' with | some xs => Kg (.ro false (.int .u8) xs) [i] [i] [] | none => False)
            | none => False
          | _ => False)
        | false => False)
      | _ => F))
  | none => match bytesT P dst with
    | some e => (match isStrT P src with
      | true => (match x with
        | .v (.string s) => Kg (.sl lo) [] [] [(lo, .row e (.int .u8) (bytesL s))]
        | _ => False)
      | false => F)
    | none => F

def indexW (P : Program) (t : TypeId) (x i : SV) (Kp : SV → List Nat → Prop) (F : Prop) : Prop := match isStrT P t with
  | true => (match x with
    | .v (.string s) => (match i with
      | .v (.int _ n) => Ask (0 ≤ n ∧ n < s.size) (Kp (.v (.int .u8 (byteAt s n.toNat))) [])
      | _ => False)
    | _ => False)
  | false => F

/-- A bound of a slice expression. -/
def bndV (T : Tm) (x : Option Operand) (d : Int) (K : Int → Prop) : Prop := match x with
  | none => K d
  | some x => (match ev T x with | .v (.int _ n) => K n | _ => False)
def sliceW (P : Program) (t : TypeId) (x : SV) (T : Tm) (lo hi mx : Option Operand) (Kp : SV → List Nat → Prop) : Prop := match mx with
  | some y => (match x with
    | .ro b ty xs => (match P.underlying t with
      | some (.slice e) => (match szOf P e with
        | some n => (match Nat.beq n ty.size with
          | true => (match hi with
            | some hy => bndV T lo 0 fun l => bndV T (some hy) 0 fun h => bndV T (some y) 0 fun m => Ask (0 ≤ l ∧ l ≤ h ∧ h ≤ m ∧ m ≤ xs.length) (Kp (.ro b ty ((xs.take h.toNat).drop l.toNat)) [])
            | none => False)
          | false => False)
        | none => False)
      | _ => False)
    | _ => False)
  | none => match x with
    | .v (.string s) => (match isStrT P t with
      | true => bndV T lo 0 fun l => bndV T hi s.size fun h => Ask (0 ≤ l ∧ l ≤ h ∧ h ≤ s.size) (Kp (.v (.string (s.extract l.toNat h.toNat))) [])
      | false => False)
    | .ro b ty xs => (match P.underlying t with
      | some (.slice e) => (match szOf P e with
        | some n => (match Nat.beq n ty.size with
          | true => bndV T lo 0 fun l => bndV T hi xs.length fun h => Ask (0 ≤ l ∧ l ≤ h ∧ h ≤ xs.length) (Kp (.ro b ty ((xs.take h.toNat).drop l.toNat)) [])
          | false => False)
        | none => False)
      | _ => False)
    | _ => False

def makeW (P : Program) (t : TypeId) (l c : SV) (lo : Nat) (Kg : SV → List Nat → List Nat → En → Prop) : Prop := match P.underlying t with
  | some (.slice e) => (match l with
    | .v (.int _ n) => (match c with
      | .v (.int _ m) => (match tyOf P 30 e with
        | some ty => (match appOk P e ty, zeroOf P e with
          | true, some zs => (match decL ty 1 (listV zs) with
            | some [z] => Ask (0 ≤ n ∧ n ≤ 274877906944 ∧ m = n) (Kg (.sl lo) [] [] [(lo, .row e ty (List.replicate n.toNat z))])
            | _ => False)
          | _, _ => False)
        | none => False)
      | _ => False)
    | _ => False)
  | _ => False

/-- Iterators over strings (of bytes below 128). -/
def rangeS (P : Program) (t : TypeId) (x : SV) (lo : Nat) (Kg : SV → List Nat → List Nat → En → Prop) : Prop := match isStrT P t with
  | true => (match x with | .v (.string s) => Kg (.ptr lo 0) [] [] [(lo, .siter s 0)] | _ => False)
  | false => False
def nextS (x : SV) (str : Bool) (M : En) (Kg : SV → List Nat → List Nat → En → Prop) : Prop := match str with
  | true => (match x with
    | .ptr i 0 => (match find M i with
      | .siter s p => Fork (decide (p < s.size)) (Ask (byteAt s p < 128) (Kg (.tuple [.v (.bool true), .v (.int .i64 p), .v (.int .i32 (byteAt s p))]) [i] [i] [(i, .siter s (p + 1))]))
          (Kg (.tuple [.v (.bool false)]) [i] [i] [(i, .siter s p)])
      | _ => False)
    | _ => False)
  | false => False

def opV (P : Program) (G : Nat → Option Ctr) (o : Oper) (lo : Nat) (T : Tm) (M : En) (Kp : SV → List Nat → Prop) (Kg : SV → List Nat → List Nat → En → Prop) : Prop :=
  match o.op with
  | .move x => force (ev T x) fun s => Kp s []
  | .assign x => force (ev T x) fun s => Kp s []
  | .pick c x y => match ev T c with
    | .v (.bool b) => Fork b (force (ev T x) fun s => Kp s []) (force (ev T y) fun s => Kp s [])
    | _ => False
  | .alloc t => match zeroOf P t with
    | some zs => Kg (.ptr lo 0) [] [] [(lo, .cells t (listV zs))]
    | none => False
  | .box t x => match svCells (ev T x) with
    | some cs => Kg (.ptr lo 0) [] [] [(lo, .cells t cs)]
    | none => False
  | .build t parts => match (match partsOk P t with | true => zeroOf P t | false => none) with
    | some zs => match fillS (placeOf P t) (listV zs) (partsEv T parts.toList) with
      | some cs => Kp (.agg cs) []
      | none => False
    | none => False
  | .buildSlice t len parts => match P.underlying t with
    | some (.slice e) => match szOf P e, zeroOf P e with
      | some n, some zs => match Nat.beq zs.length n && Nat.blt 0 n && Nat.ble (len * n) 16777216 with
        | true => match fillS (fun i => some (i * n, n)) (repS len (listV zs)) (partsEv T parts.toList) with
          | some cs => Kg (.slc lo 0 len len) [] [] [(lo, .cells e cs)]
          | none => False
        | false => False
      | _, _ => False
    | _ => False
  | .load t x => match ev T x with
    | .ptr i off => match find M i with
      | .cells _ cs => partV P t cs off fun s => Kp s [i]
      | _ => False
    | .rop _ cs off => partV P t cs off fun s => Kp s []
    | .elp i sz ix off => match find M i with
      | .row _ ty xs => match Nat.beq sz ty.size with
        | true => Ask (0 ≤ ix ∧ ix.toNat < xs.length) (All' (fun e => xs[ix.toNat]? = some e) fun e => partV P t (enc ty e) off fun s => Kp s [i])
        | false => False
      | _ => False
    | _ => False
  | .store t x y => match ev T x with
    | .ptr i off => match svCells (ev T y) with
      | some vs => match szOf P t with
        | some n => match Nat.beq n vs.length with
          | true => match find M i with
            | .cells t' cs => match setAll cs off vs with
              | some cs' => Kg (.v undef) [i] [i] [(i, .cells t' cs')]
              | none => False
            | _ => False
          | false => False
        | none => False
      | none => False
    | .elp i sz ix off => match svCells (ev T y) with
      | some vs => match szOf P t with
        | some n => match Nat.beq n vs.length && Nat.ble (off + n) sz && Nat.blt 0 n with
          | true => match find M i with
            | .row te ty xs => match Nat.beq sz ty.size with
              | true => Ask (0 ≤ ix ∧ ix.toNat < xs.length) (All' (fun e => xs[ix.toNat]? = some e) fun e => Some' fun e' =>
                  Eqn (setAll (enc ty e) off vs) (some (enc ty e')) (Kg (.v undef) [i] [i] [(i, .row te ty (xs.set ix.toNat e'))]))
              | false => False
            | _ => False
          | false => False
        | none => False
      | none => False
    | _ => False
  | .nilCheck x => match ev T x with
    | .ptr i off => Kp (.ptr i off) []
    | .elp i z ix off => Kp (.elp i z ix off) []
    | .rop b cs off => Kp (.rop b cs off) []
    | .func (.func f) a c => Kp (.func (.func f) a c) []
    | .v (.func (.yield l) a c) => Kp (.v (.func (.yield l) a c)) []
    | _ => False
  | .fieldAddr t x f => match fldOf P t f with
    | some fd => match szOf P fd.type with
      | some (_ + 1) => match ev T x with
        | .ptr i off => Kp (.ptr i (off + fd.offset)) []
        | .elp i z ix off => Kp (.elp i z ix (off + fd.offset)) []
        | .rop b cs off => Kp (.rop b cs (off + fd.offset)) []
        | _ => False
      | _ => False
    | none => False
  | .field t x f => match fldOf P t f with
    | some fd => match ev T x with
      | .agg cs => partV P fd.type cs fd.offset fun s => Kp s []
      | _ => False
    | none => False
  | .makeFunc fn a c => Kp (.func fn (mapEv T a.toList) (mapEv T c.toList)) []
  | .extract x n => match ev T x with
    | .tuple l => match nth l n with | some s => force s fun s => Kp s [] | none => False
    | _ => False
  | .binOp op t x y _ => binW P op t (ev T x) (ev T y) M Kp
  | .convert a b x => convW P a b (ev T x) lo M Kp Kg (genV P o T fun s => Kp s [])
  | .index t x i => indexW P t (ev T x) (ev T i) Kp (genV P o T fun s => Kp s [])
  | .slice t x l h m => sliceW P t (ev T x) T l h m Kp
  | .makeSlice t l c => makeW P t (ev T l) (ev T c) lo Kg
  | .indexAddr t x y => match ev T y with
    | .v (.int _ ix) => match P.underlying t with
      | some (.slice e) => match ev T x with
        | .ro b ty xs => (match szOf P e with
          | some n => (match Nat.beq n ty.size with
            | true => Ask (0 ≤ ix ∧ ix < xs.length) (All' (fun e => xs[ix.toNat]? = some e) fun e => Kp (.rop b (enc ty e) 0) [])
            | false => False)
          | none => False)
        | .sl i => (match find M i with
          | .row te ty xs => (match szOf P e with
            | some n => (match Nat.beq n ty.size with
              | true => Ask (0 ≤ ix ∧ ix < xs.length) (Kp (.elp i n ix 0) [i])
              | false => False)
            | none => False)
          | _ => False)
        | .slc i o l c => (match szOf P e with
          | some n => Ask (0 ≤ ix ∧ ix < l) (Kp (.ptr i (o + ix.toNat * n)) [])
          | none => False)
        | _ => False
      | some (.array len e) => match ev T x with
        | .ptr i off => (match szOf P e with
          | some n => Ask (0 ≤ ix ∧ ix < len) (Kp (.ptr i (off + ix.toNat * n)) [])
          | none => False)
        | .rop b cs off => (match szOf P e with
          | some n => Ask (0 ≤ ix ∧ ix < len) (Kp (.rop b cs (off + ix.toNat * n)) [])
          | none => False)
        | _ => False
      | _ => False
    | _ => False
  | .range t x => rangeS P t (ev T x) lo Kg
  | .next x str => nextS (ev T x) str M Kg
  | .call c => match c.callee with
    | .value f => match ev T f with
      | .func (.func g) [] cap => match G g with
        | some C => CallP C (mapEv T c.args.toList ++ cap) M lo Kg
        | none => genV P o T fun s => Kp s []
      | .v (.func (.yield l) ⟨[]⟩ _) => YieldP P l (mapEv T c.args.toList) M Kg
      | _ => False
    | .builtin .append => appV P c.argTypes.toList (mapEv T c.args.toList) lo M Kg
    | .builtin b => bltV P b c.argTypes.toList (mapEv T c.args.toList) M Kp
    | .invoke _ _ => False
  | .defer _ => False
  | .select _ _ => False
  | _ => genV P o T fun s => Kp s []

/-! ### A region, a text of code -/

def opTmps : List Operand → List Nat
  | [] => []
  | .tmp t :: l => t :: opTmps l
  | _ :: l => opTmps l
def gTmp (all : List Oper) (o : Oper) : List Nat := match o.guard with
  | some (g, _) => match all[g]? with
    | some og => match og.dst with | some d => [d] | none => []
    | none => []
  | none => []
def rdOf (all : List Oper) (o : Oper) : List Nat := gTmp all o ++ opTmps o.op.operands.toList

def gonesM (ci : List Nat) (M : En) : En := match ci with
  | [] => M
  | i :: ci => (i, .gone) :: gonesM ci M
def updM (eo : En) (ci : List Nat) (M : En) : En := match eo with
  | [] => gonesM ci M
  | p :: eo => p :: updM eo ci M

/-- The same states, written out. -/
def putK (d : Option Nat) (x : SV) (T : Tm) (K : Tm → Prop) : Prop := match d with
  | some t => K ((t, x) :: T)
  | none => K T
def gonesK (ci : List Nat) (M : En) (K : En → Prop) : Prop := match ci with
  | [] => K M
  | i :: ci => gonesK ci M fun M => K ((i, .gone) :: M)
def updK (eo : En) (ci : List Nat) (M : En) (K : En → Prop) : Prop := match eo with
  | [] => gonesK ci M K
  | p :: eo => updK eo ci M fun M => K (p :: M)
def forceN (n : Nat) (K : Nat → Prop) : Prop := match n with
  | 0 => K 0
  | m + 1 => K (m + 1)

/-- One operation, guarded or not. -/
def opG (P : Program) (G : Nat → Option Ctr) (base : Nat) (all : List Oper) (o : Oper) (i : Nat) (T : Tm) (M : En) (tr : List Tch) (K : Tm → En → List Tch → Prop) : Prop :=
  forceN (base + 16 * i) fun lo => match o.guard with
  | none => opV P G o lo T M (fun out S => putK o.dst out T fun T => K T M (⟨rdOf all o, o.dst, S, []⟩ :: tr))
      (fun out S ci eo => putK o.dst out T fun T => updK eo ci M fun M => K T M (⟨rdOf all o, o.dst, S, ci ++ keys eo⟩ :: tr))
  | some (g, want) => match gTmp all o with
    | [d] => match look T d with
      | .v (.bool b) => match want with
        | true => Fork b (opV P G o lo T M (fun out S => putK o.dst out T fun T => K T M (⟨rdOf all o, o.dst, S, []⟩ :: tr))
            (fun out S ci eo => putK o.dst out T fun T => updK eo ci M fun M => K T M (⟨rdOf all o, o.dst, S, ci ++ keys eo⟩ :: tr)))
            (putK o.dst (.v undef) T fun T => K T M (⟨rdOf all o, o.dst, [], []⟩ :: tr))
        | false => Fork b (putK o.dst (.v undef) T fun T => K T M (⟨rdOf all o, o.dst, [], []⟩ :: tr))
            (opV P G o lo T M (fun out S => putK o.dst out T fun T => K T M (⟨rdOf all o, o.dst, S, []⟩ :: tr))
            (fun out S ci eo => putK o.dst out T fun T => updK eo ci M fun M => K T M (⟨rdOf all o, o.dst, S, ci ++ keys eo⟩ :: tr)))
      | .v (.tuple _) => putK o.dst (.v undef) T fun T => K T M (⟨rdOf all o, o.dst, [], []⟩ :: tr)
      | _ => False
    | _ => False

noncomputable def vcOps (P : Program) (G : Nat → Option Ctr) (base : Nat) (all : List Oper) (l : List Oper) : Nat → Tm → En → List Tch → (Tm → En → List Tch → Prop) → Prop :=
  List.rec (motive := fun _ => Nat → Tm → En → List Tch → (Tm → En → List Tch → Prop) → Prop)
    (fun _ T M tr K => K T M tr)
    (fun o _ ih i T M tr K => opG P G base all o i T M tr fun T M tr => forceN (i + 1) fun i => ih i T M tr K) l

def matT (M : En) (T : Tm) : (tgt : Tm) → Mp → List Nat → List Nat → List Prop → MK → Prop
  | [], m, bs, fs, q, K => K m bs fs q
  | (t, s) :: l, m, bs, fs, q, K => matSV M 200 s (look T t) m bs fs q fun m bs fs q => matT M T l m bs fs q K

/-- The state is one of the invariant's. -/
def matSt (rg : Mp) (T : Tm) (M : En) (T' : Tm) (M' : En) (K : Prop) : Prop :=
  matT M T T' rg [] [] [] fun m bs fs q => matE M M' m bs fs q [] fun m bs fs q us => match bs with
    | [] => match anyB fs us || !allLt 1984 m with | true => False | false => AskL q K
    | _ :: _ => False

abbrev VK := Exit → Nat → Tm → En → Prop

def seqK (k : VK → Nat → Tm → En → Prop) (K : VK) : VK := fun e nx T M => match e with
  | .normal => k K nx T M
  | .exit j => K (.exit j) nx T M
  | .ret => K .ret nx T M
  | _ => False
def blkK (id : Nat) (K : VK) : VK := fun e nx T M => match e with
  | .normal => K .normal nx T M
  | .exit j => match Nat.beq j id with | true => K .normal nx T M | false => K (.exit j) nx T M
  | .ret => K .ret nx T M
  | _ => False
def loopV (An : List Nat → Nat → Option AN) (ms : List Nat) (rg : Mp) (cur : Nat) (body : List Nat → Nat → Tm → En → VK → Prop) (T : Tm) (M : En) (K : VK) : Prop := match An ms cur with
  | some (.loop L) => Some' fun x0 => matSt rg T M (L.T x0) (L.M x0) (Ask (L.pre x0) (AllI L.pre fun x =>
      body (L.mu x :: ms) 2000 (L.T x) (L.M x) fun e nx T' M' => match e with
        | .normal => Some' fun x' => matSt rg T' M' (L.T x') (L.M x') (Ask (L.pre x') (Ask (L.mu x' < L.mu x) True))
        | .exit j => K (.exit j) nx T' M'
        | .ret => K .ret nx T' M'
        | _ => False))
  | _ => False
def condV (T : Tm) (c : Operand) (A B : Prop) : Prop := match ev T c with
  | .v (.bool t) => Fork t A B
  | .unkB p => ForkP p A B
  | _ => False
noncomputable def regV (P : Program) (G : Nat → Option Ctr) (ops : Array Oper) (dr : Bool) (nx : Nat) (T : Tm) (M : En) (K : VK) : Prop :=
  vcOps P G nx ops.toList ops.toList 0 T M [] fun T M tr => match dr with
    | true => Race (raceOk ops.toList tr.reverse) (forceN (nx + 16 * ops.size) fun nx => K .normal nx T M)
    | false => forceN (nx + 16 * ops.size) fun nx => K .normal nx T M

/-! ### A range over a function -/

def goesB (g : Nat → Bool) : Nat → Bool
  | 0 => true
  | k + 1 => match goesB g k with | true => g k | false => false
def liveB (n : Nat) (g : Nat → Bool) (k : Nat) : Bool := match Nat.blt k n with | true => goesB g k | false => false

def idM : List Nat → Mp
  | [] => []
  | j :: l => (j, j) :: idM l
def ltB (n : Nat) : List Nat → Bool
  | [] => true
  | j :: l => match Nat.blt j n with | true => ltB n l | false => false
def setPs : List Nat → List SV → Tm → Option Tm
  | [], [], T => some T
  | p :: ps, s :: ss, T => setPs ps ss (putT (some p) s T)
  | _, _, _ => none

mutual
/-- All names are among rg. -/
def inS : Nat → List Nat → SV → Bool
  | 0, _, _ => false
  | n + 1, rg, s => match s with
    | .v _ => true
    | .any => true
    | .ptr i _ => memB i rg
    | .elp i _ _ _ => memB i rg
    | .rop _ cs _ => inL n rg cs
    | .sl i => memB i rg
    | .slc i _ _ _ => memB i rg
    | .ro _ _ _ => true
    | .agg l => inL n rg l
    | .tuple l => inL n rg l
    | .func _ a c => match inL n rg a with | true => inL n rg c | false => false
    | .unkB _ => true
def inL : Nat → List Nat → List SV → Bool
  | 0, _, _ => false
  | n + 1, rg, l => match l with
    | [] => true
    | s :: l => match inS n rg s with | true => inL n rg l | false => false
end
def inT (rg : List Nat) : Tm → Bool
  | [] => true
  | (_, s) :: T => match inS 200 rg s with | true => inT rg T | false => false

/-- How a round may end. -/
def roundK (R : RA) (x : R.X) (k : Nat) : VK := fun e _ T M => match e with
  | .normal => Ask (R.goes x k = true) (matSt (idM R.rg) T M [] (R.M x (k + 1)) True)
  | .exit j => Ask (R.goes x k = false ∧ R.jump x k = .exit j) (matSt (idM R.rg) T M [] (R.M x (k + 1)) True)
  | .ret => Ask (R.goes x k = false ∧ R.jump x k = .ret) (matSt (idM R.rg) T M [] (R.M x (k + 1)) True)
  | _ => False
def jumpV (e : Exit) (K : Exit → Prop) : Prop := match e with
  | .exit j => K (.exit j)
  | .ret => K .ret
  | _ => False
/-- Behind the statement. -/
def backV (R : RA) (x : R.X) (Y : Yld) (M2 : En) (K : VK) : Prop := match find M2 1983 with
  | .res _ A => Some' fun n => Eqn A (Y.S n) (renE true (extM (idM R.rg) 2016 (keys (R.M x n))) (R.M x n) fun eo => match nodupB (keys eo) && nodupB (keys (R.M x n)) && Nat.ble (keys (R.M x n)).length 16 with
    | true => updK eo [1983] M2 fun M2 => Fork (goesB (R.goes x) n) (K .normal 2032 (R.T x) M2) (jumpV (R.jump x (n - 1)) fun e => K e 2032 (R.T x) M2)
    | false => False)
  | _ => False
/-- Has the function a body? -/
def bodyB (P : Program) (g : Nat) : Bool := match P.funcs[g]? with | some fn => fn.body.isSome | none => false
def callV (P : Program) (G : Nat → Option Ctr) (f : SV) (l : Nat) (M : En) (Kg : SV → List Nat → List Nat → En → Prop) : Prop := match f with
  | .func (.func g) [] cap => match G g with
    | some C => match bodyB P g with | true => CallP C (.v (.func (.yield l) ⟨[]⟩ ⟨[]⟩) :: cap) M 2000 Kg | false => False
    | none => False
  | _ => False
def rangeV (P : Program) (G : Nat → Option Ctr) (An : List Nat → Nat → Option AN) (ms : List Nat) (rg : Mp) (cur : Nat) (g : Operand) (ps : List Nat) (asV bodyV : List Nat → Mp → Nat → Nat → Tm → En → VK → Prop) (T : Tm) (M : En) (K : VK) : Prop := match An ms cur with
  | some (.range R) => Some' fun x => match inT R.rg (R.T x) && ltB 1983 R.rg && !anyB (keys (R.M x 0)) (keys (R.R x)) with
    | true => matSt rg T M (R.T x) (updM (R.M x 0) [] (R.R x)) (Two
        (AllI (fun k => liveB (R.n x) (R.goes x) k = true) fun k => match setPs ps (R.args x k) (R.T x) with
          | some T' => asV (k :: ms) (idM R.rg) cur 2000 T' (R.M x k) fun e nx T M => match e with
            | .normal => bodyV (k :: ms) (idM R.rg) cur nx T M (roundK R x k)
            | _ => False
          | none => False)
        (AllI (fun y : Nat × Yld => y.2.args = R.args x ∧ y.2.goes = R.goes x ∧ y.2.live = liveB (R.n x) (R.goes x) ∧ YOk P y.1 y.2) fun y =>
          callV P G (ev (R.T x) g) y.1 ((1983, .res y.2.F (y.2.S 0)) :: R.R x) fun _ _ ci eo => updK eo ci ((1983, .res y.2.F (y.2.S 0)) :: R.R x) fun M => backV R x y.2 M K))
    | false => False
  | _ => False

noncomputable def vc (P : Program) (G : Nat → Option Ctr) (An : List Nat → Nat → Option AN) (c : Code) : (ms : List Nat) → (rg : Mp) → (cur nx : Nat) → Tm → En → VK → Prop :=
  Code.rec (motive := fun _ => List Nat → Mp → Nat → Nat → Tm → En → VK → Prop)
    (skip := fun _ _ _ nx T M K => K .normal nx T M)
    (region := fun _ ops dr _ _ _ nx T M K => regV P G ops dr nx T M K)
    (seq := fun _ _ iha ihb ms rg cur nx T M K => iha ms rg cur nx T M (seqK (fun K nx T M => ihb ms rg cur nx T M K) K))
    (cond := fun c _ _ iha ihb ms rg cur nx T M K => condV T c (iha ms rg cur nx T M K) (ihb ms rg cur nx T M K))
    (block := fun id _ ih ms rg _ nx T M K => ih ms rg id nx T M (blkK id K))
    (loop := fun _ ih ms rg cur _ T M K => loopV An ms rg cur (fun ms => ih ms rg cur) T M K)
    (rangeFunc := fun g ps _ _ iha ihb ms rg cur _ T M K => rangeV P G An ms rg cur g ps.toList iha ihb T M K)
    (exit := fun i _ _ _ nx T M K => K (.exit i) nx T M)
    (scope := fun _ ih ms rg cur nx T M K => ih ms rg cur nx T M (seqK (fun K nx T M => K .normal nx T M) K))
    (label := fun _ _ _ _ nx T M K => K .normal nx T M)
    (goto := fun _ _ _ _ _ _ _ _ => False)
    (ret := fun _ _ _ nx T M K => K .ret nx T M)
    (refuse := fun _ _ _ _ _ _ _ _ => False) c

/-! ### A function -/

def numT (n : Nat) : List SV → Tm
  | [] => []
  | s :: l => (n, s) :: numT (n + 1) l
def rgOf : En → Mp
  | [] => []
  | (j, _) :: l => (j, j) :: rgOf l

def endL (P : Program) (T : Tm) (M : En) : List ResultVar → (List SV → Prop) → Prop
  | [], K => K []
  | .tmp t :: l, K => force (look T t) fun s => endL P T M l fun ss => K (s :: ss)
  | .cell a t :: l, K => match look T a with
    | .ptr i off => match find M i with
      | .cells _ cs => partV P t cs off fun s => endL P T M l fun ss => K (s :: ss)
      | _ => False
    | _ => False
def endV (P : Program) (T : Tm) (M : En) (rs : List ResultVar) (K : SV → Prop) : Prop := endL P T M rs fun l => match l with
  | [s] => K s
  | l => K (.tuple l)

def newOk (rg : Mp) : Mp → Bool
  | [] => true
  | (j, _) :: m => match Nat.ble 1000 j with
    | true => newOk rg m
    | false => match mlook rg j with | some _ => newOk rg m | none => false

def postB (C : Ctr) (x : C.X) (rg : Mp) (M : En) (v : SV) : Prop :=
  matSV M 200 (C.res x (C.val x)) v rg [] [] [] fun m bs fs q => matE M (C.out x (C.val x)) m bs fs q [] fun m bs fs q us => match bs with
    | [] => match anyB fs us || !newOk rg m || !allLt 1984 m with | true => False | false => AskL q True
    | _ :: _ => False

def bodyC (fn : Func) : Code := match fn.body with | some c => c | none => .skip

def keysLt (n : Nat) : En → Bool
  | [] => true
  | (j, _) :: l => match Nat.blt j n with | true => keysLt n l | false => false

noncomputable def fnVC (P : Program) (G : Nat → Option Ctr) (An : List Nat → Nat → Option AN) (fn : Func) (C : Ctr) (x : C.X) : Prop := match keysLt 1000 (C.rw x) with
  | true => match Nat.ble (C.args x).length fn.ntmps with
    | true => vc P G An (bodyC fn) [] (rgOf (C.rw x)) 0 2000 (numT 0 (C.args x)) (C.rw x) fun e _ T M => match e with
      | .normal => endV P T M fn.results.toList fun v => postB C x (rgOf (C.rw x)) M v
      | .ret => endV P T M fn.results.toList fun v => postB C x (rgOf (C.rw x)) M v
      | _ => False
    | false => False
  | false => False

end Go.Eng
