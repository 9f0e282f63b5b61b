/- Parts of the proof, one behind the other (EngA, EngZ, EngB, EngC, EngD). -/
import Derived.RangeFuncIn
import Derived.KernelRfl
import Derived.Below
import Derived.OrdersIn
set_option linter.unusedVariables false
set_option linter.unusedSimpArgs false
set_option linter.unusedSectionVars false
/-! The engine, part A: data types, symbolic values, symbolic memory, and what they mean in a world. No program in sight. -/
set_option linter.unusedVariables false
namespace Go.Eng
open Go.RowKit (Below)

/-- Is it asked that no draw is taken back? (A caller may need it: a sort's comparison.) -/
class DM : Type where
  p : Prop

/-- Codes of plain data. -/
inductive Ty where
  | int (k : IntKind)
  | bool
  | str
  | unit
  | sl (t : Ty)
  | pair (a b : Ty)
  | arr (n : Nat) (t : Ty)

@[reducible] def Ty.den : Ty → Type
  | .int _ => Int
  | .bool => Bool
  | .str => ByteArray
  | .unit => Unit
  | .sl t => List t.den
  | .pair a b => a.den × b.den
  | .arr n t => Fin n → t.den

def Ty.size : Ty → Nat
  | .unit => 0
  | .pair a b => a.size + b.size
  | .arr n t => n * t.size
  | _ => 1

/-- Symbolic values. -/
inductive SV : Type where
  | v (x : Value)
  | any
  | ptr (id off : Nat)
  | elp (id sz : Nat) (i : Int) (off : Nat)
  | rop (b : Bool) (cells : List SV) (off : Nat)
  | sl (id : Nat)
  | slc (id off len cap : Nat)
  | slv (id sz : Nat) (lo n : Int)
  | ro (b : Bool) (t : Ty) (xs : List t.den)
  | agg (l : List SV)
  | tuple (l : List SV)
  | func (fn : Fn) (first cap : List SV)
  | unkB (p : Bool → Prop)

def idx : (n : Nat) → List (Fin n)
  | 0 => []
  | n + 1 => 0 :: (idx n).map Fin.succ

def flatF {α : Type} (f : α → List SV) : List α → List SV
  | [] => []
  | a :: l => f a ++ flatF f l

/-- The cells that a datum fills. -/
def enc : (t : Ty) → t.den → List SV
  | .int k, n => [.v (.int k n)]
  | .bool, b => [.v (.bool b)]
  | .str, s => [.v (.string s)]
  | .unit, _ => []
  | .sl t, xs => [.ro false t xs]
  | .pair a b, x => enc a x.1 ++ enc b x.2
  | .arr n t, f => flatF (fun i => enc t (f i)) (idx n)

/-- Entries of symbolic memory. 'res': whatever else owns blocks: a predicate on its blocks and the world; F: the blocks beyond its own that it leans on. -/
inductive Ent : Type where
  | gone
  | cells (t : TypeId) (cs : List SV)
  | row (te : TypeId) (t : Ty) (xs : List t.den)
  | siter (s : ByteArray) (pos : Nat)
  | res (F : Nat → Prop) (A : (Nat → Prop) → (Nat → Prop) → World → Prop)

abbrev Tm := List (Nat × SV)
abbrev En := List (Nat × Ent)

def look : Tm → Nat → SV
  | [], _ => .any
  | (j, x) :: l, i => match Nat.beq j i with | true => x | false => look l i

def find : En → Nat → Ent
  | [], _ => .gone
  | (j, x) :: l, i => match Nat.beq j i with | true => x | false => find l i

theorem idx_length : ∀ n, (idx n).length = n
  | 0 => rfl
  | n + 1 => by simp [idx, idx_length n]

theorem flatF_length {α : Type} (f : α → List SV) (k : Nat) (h : ∀ a, (f a).length = k) : ∀ l : List α, (flatF f l).length = l.length * k
  | [] => by simp [flatF]
  | a :: l => by simp [flatF, h a, flatF_length f k h l, Nat.add_mul, Nat.add_comm]

theorem enc_length : ∀ (t : Ty) (x : t.den), (enc t x).length = t.size
  | .int _, _ => rfl
  | .bool, _ => rfl
  | .str, _ => rfl
  | .unit, _ => rfl
  | .sl _, _ => rfl
  | .pair a b, x => by simp [enc, Ty.size, enc_length a, enc_length b]
  | .arr n t, f => by
    simp only [enc, Ty.size]
    rw [flatF_length _ t.size (fun i => enc_length t (f i)), idx_length]

/-! ### What they mean -/

structure Slot where
  blk : Nat
  a : Option Addr
  n : Nat
  c : Nat

def Slot.val (s : Slot) : Value := .slice s.a s.n s.c

structure Env where
  slot : Nat → Option Slot
  I : Nat → Prop
  B : Nat → Prop

/-- Names of nil slices. -/
def nilB (i : Nat) : Bool := match Nat.ble 1984 i with | true => Nat.blt i 2000 | false => false
def nilSlot : Slot := ⟨0, none, 0, 0⟩
def NilOk (E : Env) : Prop := ∀ i, nilB i = true → E.slot i = some nilSlot
theorem nilB_lt {i : Nat} (h : i < 1984) : nilB i = false := by
  unfold nilB
  split
  · rename_i hb; have := Nat.le_of_ble_eq_true hb; omega
  · rfl
theorem nilB_ge {i : Nat} (h : 2000 ≤ i) : nilB i = false := by
  unfold nilB
  split
  · cases hb : Nat.blt i 2000 with
    | false => rfl
    | true => have := Nat.le_of_ble_eq_true hb; omega
  · rfl
theorem nilB_range {i : Nat} (h : nilB i = true) : 1984 ≤ i ∧ i < 2000 := by
  unfold nilB at h
  split at h
  · rename_i hb; exact ⟨Nat.le_of_ble_eq_true hb, Nat.le_of_ble_eq_true h⟩
  · cases h

def Env.ok (E : Env) (b : Bool) (k : Nat) : Prop := E.I k ∨ (b = true ∧ E.B k)

inductive Sat (E : Env) (w : World) : SV → Value → Prop where
  | v (x : Value) : Sat E w (.v x) x
  | any (x : Value) : Sat E w .any x
  | ptr (id off : Nat) (s : Slot) (h : E.slot id = some s) : Sat E w (.ptr id off) (.pointer (some ⟨s.blk, off, none⟩))
  | elp (id sz : Nat) (i : Int) (off : Nat) (s : Slot) (h : E.slot id = some s) (o n c : Nat) (hv : s.val = .slice (some ⟨s.blk, o, none⟩) n c) :
      Sat E w (.elp id sz i off) (.pointer (some ⟨s.blk, o + i.toNat * sz + off, none⟩))
  | rop (b : Bool) (cs : List SV) (off k o : Nat) (u : Nat → Value) (hb : E.ok b k) (hc : ∀ j, j < cs.length → w.cell? ⟨k, o + j, none⟩ = some (u j))
      (hs : ∀ j sv, cs[j]? = some sv → Sat E w sv (u j)) : Sat E w (.rop b cs off) (.pointer (some ⟨k, o + off, none⟩))
  | sl (id : Nat) (s : Slot) (h : E.slot id = some s) : Sat E w (.sl id) s.val
  | slc (id off len cap : Nat) (s : Slot) (h : E.slot id = some s) : Sat E w (.slc id off len cap) (.slice (some ⟨s.blk, off, none⟩) len cap)
  | slv (id sz : Nat) (lo n : Int) (s : Slot) (h : E.slot id = some s) (o m c c' : Nat) (A : Option Addr) (hv : s.val = .slice (some ⟨s.blk, o, none⟩) m c) (hlo : 0 ≤ lo) (hn : 0 ≤ n) (hm : lo + n ≤ m)
      (hA : n = 0 ∨ A = some ⟨s.blk, o + lo.toNat * sz, none⟩) : Sat E w (.slv id sz lo n) (.slice A n.toNat c')
  | nil (b : Bool) (t : Ty) (A : Option Addr) (c : Nat) : Sat E w (.ro b t []) (.slice A 0 c)
  | ro (b : Bool) (t : Ty) (xs : List t.den) (k o c : Nat) (u : Nat → Value) (hb : E.ok b k) (hle : xs.length ≤ c)
      (hc : ∀ m, m < xs.length * t.size → w.cell? ⟨k, o + m, none⟩ = some (u m))
      (hs : ∀ i x j sv, xs[i]? = some x → (enc t x)[j]? = some sv → Sat E w sv (u (i * t.size + j))) :
      Sat E w (.ro b t xs) (.slice (some ⟨k, o, none⟩) xs.length c)
  | agg (l : List SV) (vs : Array Value) (u : Nat → Value) (hl : vs.size = l.length) (hu : ∀ j, j < l.length → vs[j]? = some (u j))
      (hs : ∀ j sv, l[j]? = some sv → Sat E w sv (u j)) : Sat E w (.agg l) (.agg vs)
  | tuple (l : List SV) (vs : Array Value) (u : Nat → Value) (hl : vs.size = l.length) (hu : ∀ j, j < l.length → vs[j]? = some (u j))
      (hs : ∀ j sv, l[j]? = some sv → Sat E w sv (u j)) : Sat E w (.tuple l) (.tuple vs)
  | func (fn : Fn) (f c : List SV) (vf vc : Array Value) (uf uc : Nat → Value) (hf : vf.size = f.length) (hc : vc.size = c.length)
      (huf : ∀ j, j < f.length → vf[j]? = some (uf j)) (huc : ∀ j, j < c.length → vc[j]? = some (uc j))
      (hsf : ∀ j sv, f[j]? = some sv → Sat E w sv (uf j)) (hsc : ∀ j sv, c[j]? = some sv → Sat E w sv (uc j)) :
      Sat E w (.func fn f c) (.func fn vf vc)
  | unkB (p : Bool → Prop) (b : Bool) (h : p b) : Sat E w (.unkB p) (.bool b)

/-- E' knows all that E knows. -/
structure Env.le (E E' : Env) : Prop where
  slot : ∀ id s, E.slot id = some s → E'.slot id = some s
  I : ∀ k, E.I k → E'.I k
  B : ∀ k, E.B k → E'.B k

theorem NilOk.mono {E E' : Env} (h : NilOk E) (k : E.le E') : NilOk E' := fun i hi => k.slot i _ (h i hi)

theorem Env.le.refl (E : Env) : E.le E := ⟨fun _ _ h => h, fun _ h => h, fun _ h => h⟩
theorem Env.le.trans {E E' E'' : Env} (h : E.le E') (k : E'.le E'') : E.le E'' :=
  ⟨fun id s e => k.slot id s (h.slot id s e), fun i e => k.I i (h.I i e), fun i e => k.B i (h.B i e)⟩
theorem Env.le.ok {E E' : Env} (h : E.le E') {b : Bool} {k : Nat} (hk : E.ok b k) : E'.ok b k := hk.imp (h.I k) (fun ⟨a, c⟩ => ⟨a, h.B k c⟩)

/-- What is read only lies as it lay. -/
def Stays (E : Env) (w w' : World) : Prop := ∀ k, E.I k ∨ E.B k → k < w.heap.size → w'.heap[k]? = w.heap[k]?

theorem Env.ok.or {E : Env} {b : Bool} {k : Nat} (h : E.ok b k) : E.I k ∨ E.B k := h.imp id And.right

theorem cell_lt {w : World} {a : Addr} {v : Value} (h : w.cell? a = some v) : a.block < w.heap.size := by
  unfold World.cell? at h
  split at h
  · rename_i e
    exact (Array.getElem?_eq_some_iff.1 e).1
  · cases h

theorem cell_same {w w' : World} {a : Addr} (h : w'.heap[a.block]? = w.heap[a.block]?) : w'.cell? a = w.cell? a := by
  unfold World.cell?; rw [h]

theorem Stays.cell {E : Env} {w w' : World} (h : Stays E w w') {b : Bool} {k o : Nat} {v : Value} (hb : E.ok b k) (hc : w.cell? ⟨k, o, none⟩ = some v) :
    w'.cell? ⟨k, o, none⟩ = some v := by
  rw [cell_same (w := w) (h k hb.or (cell_lt hc))]; exact hc

theorem Sat.mono {E E' : Env} {w w' : World} (hE : E.le E') (hw : Stays E w w') {sv : SV} {v : Value} (h : Sat E w sv v) : Sat E' w' sv v := by
  induction h with
  | v x => exact .v x
  | any x => exact .any x
  | ptr id off s h => exact .ptr id off s (hE.slot _ _ h)
  | elp id sz i off s h o n c hv => exact .elp id sz i off s (hE.slot _ _ h) o n c hv
  | rop b cs off k o u hb hc hs ih => exact .rop b cs off k o u (hE.ok hb) (fun j hj => hw.cell hb (hc j hj)) ih
  | sl id s h => exact .sl id s (hE.slot _ _ h)
  | slc id off len cap s h => exact .slc id off len cap s (hE.slot _ _ h)
  | slv id sz lo n s h o m c c' A hv hlo hn hm hA => exact .slv id sz lo n s (hE.slot _ _ h) o m c c' A hv hlo hn hm hA
  | nil b t A c => exact .nil b t A c
  | ro b t xs k o c u hb hle hc hs ih => exact .ro b t xs k o c u (hE.ok hb) hle (fun m hm => hw.cell hb (hc m hm)) ih
  | agg l vs u hl hu hs ih => exact .agg l vs u hl hu ih
  | tuple l vs u hl hu hs ih => exact .tuple l vs u hl hu ih
  | func fn f c vf vc uf uc hf hc huf huc hsf hsc ihf ihc => exact .func fn f c vf vc uf uc hf hc huf huc ihf ihc
  | unkB p b h => exact .unkB p b h

end Go.Eng

/-! The package-level variables of the library that the row lists, and what their memory holds. -/
set_option linter.unusedVariables false
namespace Go.Eng

/-- The numbers of the variables, each with what is known of its cells. -/
def gtab : List (Nat × (Array Value → Prop)) :=
  (3, fun a => a = ((List.range 20).map fun i => Value.int .u64 ((10 ^ i : Nat) : Int)).toArray) ::
  (1, fun a => ∃ te pe, a = #[.iface te pe]) ::
  (2, fun a => ∃ te pe, a = #[.iface te pe]) ::
  (0, fun a => ∃ m, a = #[.int .i64 m]) ::
  []

end Go.Eng

/-! The engine, part B: what entries mean, what a step keeps, and the frame rule. -/
set_option linter.unusedVariables false
namespace Go.Eng
variable [DM]
set_option linter.unusedSectionVars false

def unfrozen (fz : Nat × Nat) (n : Nat) : Prop := fz.1 = fz.2 ∨ n ≤ fz.1
theorem unfrozen.at {fz : Nat × Nat} {n : Nat} (h : unfrozen fz n) (o : Nat) (ho : o < n) : ¬ (fz.1 ≤ o ∧ o < fz.2) := by unfold unfrozen at h; omega

def EntSat (E : Env) (w : World) (fp : Nat → Prop) (id : Nat) : Ent → Prop
  | .gone => ∀ b, ¬ fp b
  | .cells t cs => ∃ (s : Slot) (arr : Array Value) (fz : Nat × Nat), E.slot id = some s ∧ (∀ b, fp b ↔ b = s.blk) ∧ w.heap[s.blk]? = some (.cells arr t fz) ∧ unfrozen fz arr.size ∧
      arr.size = cs.length ∧ ∀ (j : Nat) (sv : SV), cs[j]? = some sv → ∃ u, arr[j]? = some u ∧ Sat E w sv u
  | .row te t xs => ∃ (s : Slot), E.slot id = some s ∧ ((s.val = .slice none 0 0 ∧ xs = [] ∧ ∀ b, ¬ fp b) ∨
      ∃ (o c : Nat) (arr : Array Value) (fz : Nat × Nat), s.val = .slice (some ⟨s.blk, o, none⟩) xs.length c ∧ (∀ b, fp b ↔ b = s.blk) ∧ w.heap[s.blk]? = some (.cells arr te fz) ∧ unfrozen fz arr.size ∧
        xs.length ≤ c ∧ o + c * t.size = arr.size ∧
        ∀ (i : Nat) (x : t.den) (j : Nat) (sv : SV), xs[i]? = some x → (enc t x)[j]? = some sv → ∃ u, arr[o + i * t.size + j]? = some u ∧ Sat E w sv u)
  | .siter s pos => ∃ (sl : Slot), E.slot id = some sl ∧ (∀ b, fp b ↔ b = sl.blk) ∧ w.heap[sl.blk]? = some (.stringIter s pos)
  | .res F A => (∀ b, F b → (E.I b ∨ E.B b) ∧ b < w.heap.size) ∧ ∃ J : Nat → Prop, (∀ b, J b → E.I b ∧ b < w.heap.size) ∧ A J fp w ∧
      ∀ w', w.heap.size ≤ w'.heap.size → (∀ b, fp b ∨ F b ∨ J b → w'.heap[b]? = w.heap[b]?) → A J fp w'

theorem EntSat.mono {E E' : Env} {w w' : World} {fp : Nat → Prop} {id : Nat} {e : Ent} (hE : E.le E') (hs : Stays E w w') (hz : w.heap.size ≤ w'.heap.size)
    (hb : ∀ b, fp b → w'.heap[b]? = w.heap[b]?) (h : EntSat E w fp id e) : EntSat E' w' fp id e := by
  cases e with
  | gone => exact h
  | cells t cs =>
    obtain ⟨s, arr, fz, h1, h2, h3, h4, h5, h6⟩ := h
    exact ⟨s, arr, fz, hE.slot _ _ h1, h2, (hb _ ((h2 _).2 rfl)).trans h3, h4, h5, fun j sv hj => let ⟨u, hu, hsat⟩ := h6 j sv hj; ⟨u, hu, hsat.mono hE hs⟩⟩
  | row te t xs =>
    obtain ⟨s, h1, h2⟩ := h
    refine ⟨s, hE.slot _ _ h1, ?_⟩
    rcases h2 with h2 | ⟨o, c, arr, fz, g1, g2, g3, g4, g5, g6, g7⟩
    · exact .inl h2
    · exact .inr ⟨o, c, arr, fz, g1, g2, (hb _ ((g2 _).2 rfl)).trans g3, g4, g5, g6, fun i x j sv hi hj => let ⟨u, hu, hsat⟩ := g7 i x j sv hi hj; ⟨u, hu, hsat.mono hE hs⟩⟩
  | siter s pos =>
    obtain ⟨sl, h1, h2, h3⟩ := h
    exact ⟨sl, hE.slot _ _ h1, h2, (hb _ ((h2 _).2 rfl)).trans h3⟩
  | res F A =>
    obtain ⟨hF, J, hJ, hA, hst⟩ := h
    have hsame : ∀ b, fp b ∨ F b ∨ J b → w'.heap[b]? = w.heap[b]? := fun b h => by
      rcases h with h | h | h
      · exact hb b h
      · exact hs b (hF b h).1 (hF b h).2
      · exact hs b (.inl (hJ b h).1) (hJ b h).2
    exact ⟨fun b hf => ⟨(hF b hf).1.imp (hE.I b) (hE.B b), Nat.lt_of_lt_of_le (hF b hf).2 hz⟩, J, fun b h => ⟨hE.I b (hJ b h).1, Nat.lt_of_lt_of_le (hJ b h).2 hz⟩, hst w' hz hsame,
      fun w'' hz' hb' => hst w'' (Nat.le_trans hz hz') (fun b hf => (hb' b hf).trans (hsame b hf))⟩

/-- The package-level variables that are known. -/
def GlobOk (E : Env) (w : World) : Prop := ∀ g p, (g, p) ∈ gtab → E.I g ∧ ∃ (a : Array Value) (t : TypeId) (fz : Nat × Nat), w.heap[g]? = some (.cells a t fz) ∧ p a
theorem GlobOk.mono {E E' : Env} {w w' : World} (h : GlobOk E w) (hI : ∀ b, E.I b → E'.I b) (hw : ∀ b, E.I b → w'.heap[b]? = w.heap[b]?) : GlobOk E' w' := fun g p hp => by
  obtain ⟨h1, a, t, fz, h2, h3⟩ := h g p hp
  exact ⟨hI g h1, a, t, fz, (hw g h1).trans h2, h3⟩

structure EntsSat (E : Env) (w : World) (fp : Nat → Nat → Prop) (M : En) : Prop where
  sat : ∀ id, EntSat E w (fp id) id (find M id)
  lt : ∀ id b, fp id b → b < w.heap.size
  I : ∀ id b, fp id b → ¬ E.I b
  B : ∀ id b, fp id b → ¬ E.B b
  apart : ∀ i j b, i ≠ j → fp i b → fp j b → False
  Ilt : ∀ b, E.I b ∨ E.B b → b < w.heap.size
  nil : NilOk E
  gl : GlobOk E w

def own (fp : Nat → Nat → Prop) (b : Nat) : Prop := ∃ id, fp id b

/-- The tape stands. -/
structure TF (w w' : World) : Prop where
  tape : w'.tape = w.tape
  drawn : DM.p → w.drawn ≤ w'.drawn
theorem TF.refl (w : World) : TF w w := ⟨rfl, fun _ => Nat.le_refl _⟩
theorem TF.trans {w w1 w2 : World} (h : TF w1 w2) (k : TF w w1) : TF w w2 := ⟨h.tape.trans k.tape, fun hd => Nat.le_trans (k.drawn hd) (h.drawn hd)⟩
theorem TF.same {w w' : World} (h : w'.tape = w.tape) (k : w'.drawn = w.drawn) : TF w w' := ⟨h, fun _ => Nat.le_of_eq k.symm⟩

structure Keep (own : Nat → Prop) (w w' : World) : Prop where
  os : w'.os = w.os
  tape : TF w w'
  output : w'.output = w.output
  size : w.heap.size ≤ w'.heap.size
  same : ∀ b, b < w.heap.size → ¬ own b → w'.heap[b]? = w.heap[b]?

theorem Keep.refl (o : Nat → Prop) (w : World) : Keep o w w := ⟨rfl, .refl w, rfl, Nat.le_refl _, fun _ _ _ => rfl⟩
theorem Keep.mono {o o' : Nat → Prop} {w w' : World} (h : Keep o w w') (ho : ∀ b, o b → o' b) : Keep o' w w' :=
  ⟨h.os, h.tape, h.output, h.size, fun b hb hn => h.same b hb (fun x => hn (ho b x))⟩

structure Adv (E : Env) (fp : Nat → Nat → Prop) (w : World) (E' : Env) (fp' : Nat → Nat → Prop) (w' : World) : Prop where
  keep : Keep (own fp) w w'
  le : E.le E'
  Inew : ∀ b, E'.I b → E.I b ∨ own fp b ∨ w.heap.size ≤ b
  Beq : ∀ b, E'.B b → E.B b
  onew : ∀ id b, fp' id b → own fp b ∨ w.heap.size ≤ b

theorem Adv.refl (E : Env) (fp : Nat → Nat → Prop) (w : World) : Adv E fp w E fp w :=
  ⟨.refl _ _, .refl _, fun _ h => .inl h, fun _ h => h, fun id _ h => .inl ⟨id, h⟩⟩

theorem Adv.trans {E E1 E2 : Env} {fp fp1 fp2 : Nat → Nat → Prop} {w w1 w2 : World} (h : Adv E fp w E1 fp1 w1) (k : Adv E1 fp1 w1 E2 fp2 w2) : Adv E fp w E2 fp2 w2 := by
  have onew : ∀ b, own fp1 b → own fp b ∨ w.heap.size ≤ b := fun b ⟨id, hb⟩ => h.onew id b hb
  refine ⟨⟨k.keep.os.trans h.keep.os, k.keep.tape.trans h.keep.tape, k.keep.output.trans h.keep.output, Nat.le_trans h.keep.size k.keep.size, fun b hb hn => ?_⟩, h.le.trans k.le, fun b hb => ?_, fun b hb => h.Beq b (k.Beq b hb), fun id b hb => ?_⟩
  · rw [k.keep.same b (Nat.lt_of_lt_of_le hb h.keep.size) (fun ho => ?_), h.keep.same b hb hn]
    rcases onew b ho with h1 | h1
    · exact hn h1
    · omega
  · rcases k.Inew b hb with h1 | h1 | h1
    · exact h.Inew b h1
    · exact .inr (onew b h1)
    · have := h.keep.size; exact .inr (.inr (by omega))
  · rcases k.onew id b hb with h1 | h1
    · exact onew b h1
    · have := h.keep.size; exact .inr (by omega)

theorem EntsSat.stays {E : Env} {w w' : World} {fp : Nat → Nat → Prop} {M : En} (h : EntsSat E w fp M) (k : Keep (own fp) w w') : Stays E w w' := by
  intro b hb hlt
  refine k.same b hlt ?_
  rintro ⟨id, hf⟩
  rcases hb with hb | hb
  · exact h.I id b hf hb
  · exact h.B id b hf hb

theorem EntsSat.glob {E E' : Env} {w w' : World} {fp : Nat → Nat → Prop} {M : En} (h : EntsSat E w fp M) (hst : Stays E w w') (hI : ∀ b, E.I b → E'.I b) : GlobOk E' w' :=
  h.gl.mono hI fun b hb => hst b (.inl hb) (h.Ilt b (.inl hb))

/-! ### Parts of memory -/

def sub (M : En) (S : List Nat) : En := S.map fun id => (id, find M id)
def gones (ci : List Nat) : En := ci.map fun id => (id, .gone)
def upd (eo : En) (ci : List Nat) (M : En) : En := eo ++ (gones ci ++ M)
def keys (M : En) : List Nat := M.map (·.1)

theorem find_append (A B : En) (id : Nat) : find (A ++ B) id = if id ∈ keys A then find A id else find B id := by
  induction A with
  | nil => simp [keys]
  | cons p A ih =>
    obtain ⟨j, x⟩ := p
    by_cases h : j = id
    · subst h; simp [find, keys]
    · have hb : Nat.beq j id = false := by rw [← Bool.not_eq_true, Nat.beq_eq]; exact h
      have h' : ¬ id = j := fun e => h e.symm
      simp only [List.cons_append, find, hb, ih, keys, List.map_cons, List.mem_cons, h', false_or]
      rfl

theorem find_gones (ci : List Nat) (id : Nat) : find (gones ci) id = .gone := by
  induction ci with
  | nil => rfl
  | cons j l ih =>
    simp only [gones, List.map_cons, find]
    split
    · rfl
    · exact ih

theorem find_sub (M : En) (S : List Nat) (id : Nat) : find (sub M S) id = if id ∈ S then find M id else .gone := by
  induction S with
  | nil => simp [sub, find]
  | cons j l ih =>
    by_cases h : j = id
    · subst h; simp [sub, find]
    · have hb : Nat.beq j id = false := by rw [← Bool.not_eq_true, Nat.beq_eq]; exact h
      have h' : ¬ id = j := fun e => h e.symm
      have e : find (sub M (j :: l)) id = find (sub M l) id := by simp only [sub, List.map_cons, find, hb]
      rw [e, ih]
      simp [h']

theorem keys_gones (ci : List Nat) : keys (gones ci) = ci := by simp [keys, gones, Function.comp_def]

theorem find_upd (eo : En) (ci : List Nat) (M : En) (id : Nat) :
    find (upd eo ci M) id = if id ∈ keys eo then find eo id else if id ∈ ci then .gone else find M id := by
  unfold upd
  rw [find_append, find_append, keys_gones, find_gones]

open Classical in
/-- The footprints of a part. -/
noncomputable def only (S : List Nat) (fp : Nat → Nat → Prop) : Nat → Nat → Prop := fun id => if id ∈ S then fp id else fun _ => False
open Classical in
noncomputable def both (S : List Nat) (fp fp' : Nat → Nat → Prop) : Nat → Nat → Prop := fun id => if id ∈ S then fp' id else fp id

theorem own_only {S : List Nat} {fp : Nat → Nat → Prop} {b : Nat} (h : own (only S fp) b) : ∃ id, id ∈ S ∧ fp id b := by
  obtain ⟨id, h⟩ := h
  unfold only at h
  split at h
  · exact ⟨id, ‹_›, h⟩
  · exact h.elim

theorem EntsSat.part {E : Env} {w : World} {fp : Nat → Nat → Prop} {M : En} (h : EntsSat E w fp M) (S : List Nat) : EntsSat E w (only S fp) (sub M S) := by
  have hsub : ∀ id b, only S fp id b → fp id b := fun id b hb => by unfold only at hb; split at hb; exact hb; exact hb.elim
  refine ⟨fun id => ?_, fun id b hb => h.lt id b (hsub id b hb), fun id b hb => h.I id b (hsub id b hb), fun id b hb => h.B id b (hsub id b hb), fun i j b hij hi hj => h.apart i j b hij (hsub i b hi) (hsub j b hj), h.Ilt, h.nil, h.gl⟩
  rw [find_sub]
  unfold only
  split
  · exact h.sat id
  · exact fun _ hb => hb

/-- THE FRAME RULE: a step on a part is a step on the whole. -/
theorem EntsSat.frame {E E' : Env} {w w' : World} {fp fp1 : Nat → Nat → Prop} {M eo : En} {S ci : List Nat} (h : EntsSat E w fp M)
    (hl : EntsSat E' w' fp1 (upd eo ci (sub M S))) (ha : Adv E (only S fp) w E' fp1 w') (hci : ∀ id, id ∈ ci → id ∈ S) :
    EntsSat E' w' (both (S ++ keys eo) fp fp1) (upd eo ci M) ∧ Adv E fp w E' (both (S ++ keys eo) fp fp1) w' := by
  have hown : ∀ b, own (only S fp) b → own fp b := fun b hb => let ⟨id, _, hf⟩ := own_only hb; ⟨id, hf⟩
  have hkeep : ∀ id b, id ∉ S → fp id b → w'.heap[b]? = w.heap[b]? := fun id b hid hf =>
    ha.keep.same b (h.lt id b hf) (fun ho => by
      obtain ⟨j, hj, hfj⟩ := own_only ho
      exact h.apart id j b (fun e => hid (e ▸ hj)) hf hfj)
  have hst : Stays E w w' := h.stays (ha.keep.mono hown)
  have hin : ∀ {id}, id ∈ S ++ keys eo → both (S ++ keys eo) fp fp1 id = fp1 id := fun hid => by unfold both; rw [if_pos hid]
  have hout : ∀ {id}, id ∉ S ++ keys eo → both (S ++ keys eo) fp fp1 id = fp id := fun hid => by unfold both; rw [if_neg hid]
  have newI : ∀ id b, id ∉ S → fp id b → ¬ E'.I b := fun id b hid hf hI => by
    rcases ha.Inew b hI with h1 | h1 | h1
    · exact h.I id b hf h1
    · obtain ⟨j, hj, hfj⟩ := own_only h1
      exact h.apart id j b (fun e => hid (e ▸ hj)) hf hfj
    · have := h.lt id b hf; omega
  have cross : ∀ i j b, i ∉ S ++ keys eo → fp i b → fp1 j b → False := fun i j b hi hf hf1 => by
    have hiS : i ∉ S := fun e => hi (List.mem_append_left _ e)
    rcases ha.onew j b hf1 with h1 | h1
    · obtain ⟨k, hk, hfk⟩ := own_only h1
      exact h.apart i k b (fun e => hiS (e ▸ hk)) hf hfk
    · have := h.lt i b hf; omega
  refine ⟨⟨fun id => ?_, fun id b hb => ?_, fun id b hb => ?_, fun id b hb => ?_, fun i j b hij hi hj => ?_, ?_, hl.nil, hl.gl⟩, ⟨ha.keep.mono hown, ha.le, fun b hb => ?_, ha.Beq, fun id b hb => ?_⟩⟩
  · by_cases hid : id ∈ S ++ keys eo
    · rw [hin hid]
      have := hl.sat id
      rw [find_upd, find_sub] at this
      rw [find_upd]
      by_cases hk : id ∈ keys eo
      · simpa only [hk, if_true] using this
      · have hS : id ∈ S := (List.mem_append.1 hid).resolve_right hk
        simpa only [hk, if_false, hS, if_true] using this
    · rw [hout hid, find_upd]
      have hk : id ∉ keys eo := fun e => hid (List.mem_append_right _ e)
      have hS : id ∉ S := fun e => hid (List.mem_append_left _ e)
      rw [if_neg hk, if_neg (fun e => hS (hci id e))]
      exact (h.sat id).mono ha.le hst ha.keep.size (fun b hf => hkeep id b hS hf)
  · by_cases hid : id ∈ S ++ keys eo
    · rw [hin hid] at hb; exact hl.lt id b hb
    · rw [hout hid] at hb; exact Nat.lt_of_lt_of_le (h.lt id b hb) ha.keep.size
  · by_cases hid : id ∈ S ++ keys eo
    · rw [hin hid] at hb; exact hl.I id b hb
    · rw [hout hid] at hb; exact newI id b (fun e => hid (List.mem_append_left _ e)) hb
  · by_cases hid : id ∈ S ++ keys eo
    · rw [hin hid] at hb; exact hl.B id b hb
    · rw [hout hid] at hb; exact fun hB => h.B id b hb (ha.Beq b hB)
  · by_cases h1 : i ∈ S ++ keys eo <;> by_cases h2 : j ∈ S ++ keys eo
    · rw [hin h1] at hi; rw [hin h2] at hj; exact hl.apart i j b hij hi hj
    · rw [hin h1] at hi; rw [hout h2] at hj; exact cross j i b h2 hj hi
    · rw [hout h1] at hi; rw [hin h2] at hj; exact cross i j b h1 hi hj
    · rw [hout h1] at hi; rw [hout h2] at hj; exact h.apart i j b hij hi hj
  · exact hl.Ilt
  · exact (ha.Inew b hb).imp id (Or.imp (hown b) id)
  · by_cases hid : id ∈ S ++ keys eo
    · rw [hin hid] at hb; exact (ha.onew id b hb).imp (hown b) (fun h => h)
    · rw [hout hid] at hb; exact .inl ⟨id, hb⟩

end Go.Eng

/-! The engine, part C: one operation; a region's operations, in whatever order the region allows. -/
set_option linter.unusedVariables false
namespace Go.Eng
variable [DM]
set_option linter.unusedSectionVars false

def fence (r : Option Nat) : Fence := { Fence.wide with round := r }
theorem fence_fn (r : Option Nat) (f : FuncId) : (fence r).fn f := trivial
theorem fence_depth (r : Option Nat) : (fence r).depth = none := rfl

def OpRun (r : Option Nat) (P : Program) (o : Oper) (a : Act) (w : World) (R : Value → World → Prop) : Prop :=
  o.wpIn (fence r) 0 P a w (fun a' w' => ∃ v, a' = a.put o.dst v ∧ R v w') (fun _ _ _ => False)

theorem OpRun.value {r : Option Nat} {P : Program} {o : Oper} {a : Act} {w w' : World} {R : Value → World → Prop} {v : Value} (hd : ∀ c, o.op ≠ .defer c)
    (h : (execOp a.eval o).run P w = .ok (.value v) w') (hR : R v w') : OpRun r P o a w R := by
  refine ⟨fun _ _ => fence_fn _ _, ?_⟩
  rw [Oper.semAt_eq _ _ _ hd, h]
  exact ⟨v, rfl, hR⟩

theorem OpRun.skip {r : Option Nat} {P : Program} {o : Oper} {a : Act} {w w' : World} {R : Value → World → Prop} (hd : ∀ c, o.op ≠ .defer c)
    (h : (execOp a.eval o).run P w = .ok .skip w') (hR : R undef w') : OpRun r P o a w R := by
  refine ⟨fun _ _ => fence_fn _ _, ?_⟩
  rw [Oper.semAt_eq _ _ _ hd, h]
  exact ⟨undef, rfl, hR⟩

theorem OpRun.enter {r : Option Nat} {P : Program} {o : Oper} {a : Act} {w w' : World} {R : Value → World → Prop} {f : FuncId} {args : Array Value} (hd : ∀ c, o.op ≠ .defer c)
    (h : (execOp a.eval o).run P w = .ok (.enter f args) w') (hR : CallsIn (fence none) 0 P f args w' fun e w'' => ∃ v, e = .returned v ∧ R v w'') : OpRun r P o a w R := by
  refine ⟨fun _ _ => fence_fn _ _, ?_⟩
  rw [Oper.semAt_eq _ _ _ hd, h]
  refine ⟨fun h => by simp [fence, Fence.wide] at h, ?_⟩
  have hR' : CallsIn (fence r) 0 P f args w' fun e w'' => ∃ v, e = .returned v ∧ R v w'' := hR
  exact CallsIn.mono hR' (fun e w'' he => by obtain ⟨v, rfl, hv⟩ := he; exact ⟨v, rfl, hv⟩)

theorem OpRun.round {r : Option Nat} {P : Program} {o : Oper} {a : Act} {w w' : World} {R : Value → World → Prop} {l : Nat} {f : FuncId} {tmps : Array Value} {as body : Code} (hd : ∀ c, o.op ≠ .defer c)
    (h : (execOp a.eval o).run P w = .ok (.round l f tmps as body) w') (hR : RoundIn (fence none) 0 P l f tmps as body w' fun e w'' => ∃ v, e = .returned v ∧ R v w'') : OpRun r P o a w R := by
  refine ⟨fun _ _ => fence_fn _ _, ?_⟩
  rw [Oper.semAt_eq _ _ _ hd, h]
  refine ⟨fun h => by simp [fence, Fence.wide] at h, ?_⟩
  have hR' : RoundIn (fence r) 0 P l f tmps as body w' fun e w'' => ∃ v, e = .returned v ∧ R v w'' := hR
  exact RoundIn.mono hR' (fun e w'' he => by obtain ⟨v, rfl, hv⟩ := he; exact ⟨v, rfl, hv⟩)

theorem OpRun.mono {r : Option Nat} {P : Program} {o : Oper} {a : Act} {w : World} {R R' : Value → World → Prop} (h : OpRun r P o a w R) (hR : ∀ v w', R v w' → R' v w') : OpRun r P o a w R' :=
  Oper.wpIn_mono (fun a' w' ⟨v, e, hv⟩ => ⟨v, e, hR v w' hv⟩) h

theorem OpRun.to {r : Option Nat} {P : Program} {o : Oper} {a : Act} {w : World} {R : Value → World → Prop} {K : Act → World → Prop} {Q : Exit → Act → World → Prop}
    (h : OpRun r P o a w R) (hK : ∀ v w', R v w' → K (a.put o.dst v) w') : o.wpIn (fence r) 0 P a w K Q := by
  unfold OpRun Oper.wpIn at *
  refine ⟨h.1, ?_⟩
  have hh := h.2
  generalize (o.semAt (fence r).round a.eval).run P w = q at *
  have go : ∀ a' w', (∃ v, a' = a.put o.dst v ∧ R v w') → K a' w' := fun a' w' ⟨v, e, hv⟩ => e ▸ hK v w' hv
  cases q with
  | ok x w' =>
    cases x <;> simp only [Oper.uponIn] at hh ⊢ <;>
      first
        | exact go _ _ hh
        | exact ⟨hh.1, CallsIn.mono hh.2 (fun e w'' he => by cases e <;> first | exact go _ _ he | exact he.elim | (obtain ⟨_, _, he⟩ := he; exact he.elim))⟩
        | exact ⟨hh.1, RowsIn.mono hh.2 (fun _ _ he => go _ _ he)⟩
        | exact ⟨hh.1, RoundIn.mono hh.2 (fun e w'' he => by cases e <;> first | exact go _ _ he | exact he.elim | (obtain ⟨_, _, he⟩ := he; exact he.elim))⟩
  | halt x w' => cases x <;> simp only [Oper.uponIn] at hh ⊢

/-- One operation, or its being passed over. -/
def OpStep (r : Option Nat) (P : Program) (ops : Array Oper) (o : Oper) (a : Act) (w : World) (R : Value → World → Prop) : Prop :=
  if Region.wanted o (yielded ops a.tmps) = true then OpRun r P o a w R else R undef w

theorem OpStep.mono {r : Option Nat} {P : Program} {ops : Array Oper} {o : Oper} {a : Act} {w : World} {R R' : Value → World → Prop} (h : OpStep r P ops o a w R)
    (hR : ∀ v w', R v w' → R' v w') : OpStep r P ops o a w R' := by
  unfold OpStep at *
  split
  · rename_i hw; rw [if_pos hw] at h; exact h.mono hR
  · rename_i hw; rw [if_neg hw] at h; exact hR _ _ h

theorem OpStep.to {r : Option Nat} {P : Program} {ops : Array Oper} {i : Nat} {o : Oper} (ho : ops[i]? = some o) {a : Act} {w : World} {R : Value → World → Prop} {K : Act → World → Prop} {Q : Exit → Act → World → Prop}
    (h : OpStep r P ops o a w R) (hK : ∀ v w', R v w' → K (a.put o.dst v) w') : wpOpIn (fence r) 0 P ops Q i K a w := by
  unfold OpStep at h
  unfold wpOpIn
  simp only [ho]
  split
  · rename_i hw; rw [if_pos hw] at h; exact h.to hK
  · rename_i hw; rw [if_neg hw] at h; exact ⟨fun _ _ => fence_fn _ _, hK _ _ h⟩

/-- What an operation did, in symbols. -/
structure Eff where
  rd : List Nat
  out : SV
  S : List Nat
  ci : List Nat
  eo : En

instance : Inhabited Eff := ⟨⟨[], .any, [], [], []⟩⟩

def putT (d : Option Nat) (x : SV) (T : Tm) : Tm := match d with | some t => (t, x) :: T | none => T

def LocOk (r : Option Nat) (P : Program) (ops : Array Oper) (o : Oper) (T : Tm) (M : En) (lo hi : Nat) (f : Eff) : Prop :=
  (∀ id, id ∈ f.ci → id ∈ f.S) ∧
  ∀ (E : Env) (fp : Nat → Nat → Prop) (a : Act) (w : World), (∀ t, t ∈ f.rd → Sat E w (look T t) (a.tmps.getD t undef)) → EntsSat E w fp (sub M f.S) →
    (∀ id, lo ≤ id → id < hi → E.slot id = none) →
    OpStep r P ops o a w fun v w' => ∃ E' fp', Sat E' w' f.out v ∧ EntsSat E' w' fp' (upd f.eo f.ci (sub M f.S)) ∧ Adv E fp w E' fp' w' ∧
      ∀ id, E'.slot id = E.slot id ∨ (lo ≤ id ∧ id < hi)

structure StSat (E : Env) (w : World) (fp : Nat → Nat → Prop) (a : Act) (nt : Nat) (T : Tm) (M : En) : Prop where
  sz : a.tmps.size = nt
  tm : ∀ t, Sat E w (look T t) (a.tmps.getD t undef)
  en : EntsSat E w fp M

theorem EntsSat.congr {E : Env} {w : World} {fp : Nat → Nat → Prop} {M M' : En} (h : EntsSat E w fp M) (he : ∀ id, find M' id = find M id) : EntsSat E w fp M' :=
  ⟨fun id => by rw [he]; exact h.sat id, h.lt, h.I, h.B, h.apart, h.Ilt, h.nil, h.gl⟩

theorem StSat.congr {E : Env} {w : World} {fp : Nat → Nat → Prop} {a : Act} {nt : Nat} {T T' : Tm} {M M' : En} (h : StSat E w fp a nt T M)
    (ht : ∀ t, look T' t = look T t) (he : ∀ id, find M' id = find M id) : StSat E w fp a nt T' M' :=
  ⟨h.sz, fun t => by rw [ht]; exact h.tm t, h.en.congr he⟩

theorem look_putT (d : Option Nat) (x : SV) (T : Tm) (t : Nat) : look (putT d x T) t = if d = some t then x else look T t := by
  cases d with
  | none => simp [putT]
  | some j =>
    by_cases h : j = t
    · subst h; simp [putT, look]
    · have hb : Nat.beq j t = false := by rw [← Bool.not_eq_true, Nat.beq_eq]; exact h
      simp [putT, look, hb, h]

theorem sub_congr {M M' : En} {S : List Nat} (h : ∀ id, id ∈ S → find M' id = find M id) : sub M' S = sub M S :=
  List.map_congr_left fun id hid => by rw [h id hid]

theorem put_getD (a : Act) (d : Option Nat) (v : Value) (t : Nat) (hd : ∀ j, d = some j → j < a.tmps.size) :
    (a.put d v).tmps.getD t undef = if d = some t then v else a.tmps.getD t undef := by
  cases d with
  | none => simp [Act.put]
  | some j =>
    have hj := hd j rfl
    by_cases h : j = t
    · subst h; simp [Act.put, hj]
    · simp [Act.put, Array.getElem?_setIfInBounds_ne h, h]

theorem put_size (a : Act) (d : Option Nat) (v : Value) : (a.put d v).tmps.size = a.tmps.size := by cases d <;> simp [Act.put]

/-- A step of one operation on the whole state. -/
theorem StSat.step {r : Option Nat} {P : Program} {ops : Array Oper} {o : Oper} {T Ti : Tm} {M Mi : En} {lo hi nt : Nat} {f : Eff} (hl : LocOk r P ops o Ti Mi lo hi f)
    {E : Env} {w : World} {fp : Nat → Nat → Prop} {a : Act} (h : StSat E w fp a nt T M) (ht : ∀ t, t ∈ f.rd → look T t = look Ti t) (hm : ∀ id, id ∈ f.S → find M id = find Mi id)
    (hdst : ∀ d, o.dst = some d → d < nt) (hfr : ∀ id, lo ≤ id → id < hi → E.slot id = none) :
    OpStep r P ops o a w fun v w' => ∃ E' fp', StSat E' w' fp' (a.put o.dst v) nt (putT o.dst f.out T) (upd f.eo f.ci M) ∧ Adv E fp w E' fp' w' ∧
      ∀ id, E'.slot id = E.slot id ∨ (lo ≤ id ∧ id < hi) := by
  have hsub : sub M f.S = sub Mi f.S := sub_congr hm
  refine (hl.2 E (only f.S fp) a w (fun t hr => by rw [← ht t hr]; exact h.tm t) (by rw [← hsub]; exact h.en.part f.S) hfr).mono ?_
  rintro v w' ⟨E', fp', hout, hents, hadv, hslot⟩
  rw [← hsub] at hents
  obtain ⟨g1, g2⟩ := h.en.frame hents hadv hl.1
  have hst : Stays E w w' := h.en.stays (g2.keep)
  refine ⟨E', _, ⟨by rw [put_size]; exact h.sz, fun t => ?_, g1⟩, g2, hslot⟩
  rw [look_putT, put_getD _ _ _ _ (fun j hj => by rw [h.sz]; exact hdst j hj)]
  split
  · exact hout
  · exact (h.tm t).mono g2.le hst

/-! ### Any order -/
section order
variable (dst : Nat → Option Nat) (ef : Nat → Eff) (T0 : Tm) (M0 : En)

/-- The state when those of D have been carried out. -/
def stD (D : Nat → Bool) : Nat → Tm × En
  | 0 => (T0, M0)
  | i + 1 => match D i with
    | true => (putT (dst i) (ef i).out (stD D i).1, upd (ef i).eo (ef i).ci (stD D i).2)
    | false => stD D i

def wrE (i : Nat) : List Nat := (ef i).ci ++ keys (ef i).eo

def Confl (i j : Nat) : Prop :=
  (∃ t, dst i = some t ∧ (t ∈ (ef j).rd ∨ dst j = some t)) ∨ (∃ t, dst j = some t ∧ t ∈ (ef i).rd) ∨
  (∃ id, id ∈ wrE ef i ∧ (id ∈ (ef j).S ∨ id ∈ wrE ef j)) ∨ (∃ id, id ∈ wrE ef j ∧ id ∈ (ef i).S)

variable {dst ef T0 M0}

theorem stD_look {D D' : Nat → Bool} {t : Nat} : ∀ (m : Nat), (∀ j, j < m → dst j = some t → D j = D' j) → look (stD dst ef T0 M0 D m).1 t = look (stD dst ef T0 M0 D' m).1 t
  | 0, _ => rfl
  | m + 1, h => by
    have ih := stD_look m (fun j hj => h j (by omega))
    have h1 := h m (by omega)
    simp only [stD]
    cases hD : D m <;> cases hD' : D' m <;> simp only [look_putT, ih]
    · split
      · rename_i e; rw [h1 e, hD'] at hD; cases hD
      · rfl
    · split
      · rename_i e; rw [h1 e, hD'] at hD; cases hD
      · rfl

theorem find_upd_other {eo : En} {ci : List Nat} {M : En} {id : Nat} (h : id ∉ ci ++ keys eo) : find (upd eo ci M) id = find M id := by
  rw [find_upd, if_neg (fun e => h (List.mem_append_right _ e)), if_neg (fun e => h (List.mem_append_left _ e))]

theorem find_upd_same {eo : En} {ci : List Nat} {M M' : En} {id : Nat} (h : id ∈ ci ++ keys eo) : find (upd eo ci M) id = find (upd eo ci M') id := by
  rw [find_upd, find_upd]
  by_cases h1 : id ∈ keys eo
  · simp [h1]
  · have h2 : id ∈ ci := (List.mem_append.1 h).resolve_right h1
    simp [h1, h2]

theorem stD_find {D D' : Nat → Bool} {id : Nat} : ∀ (m : Nat), (∀ j, j < m → id ∈ wrE ef j → D j = D' j) → find (stD dst ef T0 M0 D m).2 id = find (stD dst ef T0 M0 D' m).2 id
  | 0, _ => rfl
  | m + 1, h => by
    have ih := stD_find m (fun j hj => h j (by omega))
    have h1 := h m (by omega)
    simp only [stD]
    by_cases hw : id ∈ wrE ef m
    · have := h1 hw
      cases hD : D m
      · rw [hD] at this; rw [← this]; exact ih
      · rw [hD] at this; rw [← this]; exact find_upd_same hw
    · cases hD : D m <;> cases hD' : D' m <;> simp only [find_upd_other hw, ih]

theorem stD_look_ext {D : Nat → Bool} {t : Nat} (i : Nat) : ∀ (m : Nat), i ≤ m → (∀ j, i ≤ j → j < m → dst j = some t → D j = false) →
    look (stD dst ef T0 M0 D m).1 t = look (stD dst ef T0 M0 D i).1 t
  | 0, hm, _ => by obtain rfl : i = 0 := by omega
                   rfl
  | m + 1, hm, h => by
    rcases Nat.lt_or_ge m i with hlt | hge
    · obtain rfl : i = m + 1 := by omega
      rfl
    · have ih := stD_look_ext i m hge (fun j h1 h2 => h j h1 (by omega))
      have h1 := h m hge (by omega)
      rw [← ih]
      simp only [stD]
      cases hD : D m <;> simp only [look_putT]
      split
      · rename_i e; rw [h1 e] at hD; cases hD
      · rfl

theorem stD_find_ext {D : Nat → Bool} {id : Nat} (i : Nat) : ∀ (m : Nat), i ≤ m → (∀ j, i ≤ j → j < m → id ∈ wrE ef j → D j = false) →
    find (stD dst ef T0 M0 D m).2 id = find (stD dst ef T0 M0 D i).2 id
  | 0, hm, _ => by obtain rfl : i = 0 := by omega
                   rfl
  | m + 1, hm, h => by
    rcases Nat.lt_or_ge m i with hlt | hge
    · obtain rfl : i = m + 1 := by omega
      rfl
    · have ih := stD_find_ext i m hge (fun j h1 h2 => h j h1 (by omega))
      have h1 := h m hge (by omega)
      rw [← ih]
      simp only [stD]
      cases hD : D m
      · rfl
      · by_cases hw : id ∈ wrE ef m
        · rw [h1 hw] at hD; cases hD
        · exact find_upd_other hw

def ins (D : Nat → Bool) (i : Nat) : Nat → Bool := fun j => D j || j == i

theorem ins_same (D : Nat → Bool) (i : Nat) : ins D i i = true := by simp [ins]
theorem ins_ne (D : Nat → Bool) {i j : Nat} (h : j ≠ i) : ins D i j = D j := by simp [ins, h]

/-- What the ways to a state have in common: nothing that conflicts with i is out of its place. -/
def Placed (dst : Nat → Option Nat) (ef : Nat → Eff) (n : Nat) (D : Nat → Bool) (i : Nat) : Prop :=
  ∀ j, j < n → j ≠ i → Confl dst ef i j → (j < i → D j = true) ∧ (i < j → D j = false)

theorem look_ins {D : Nat → Bool} {n i : Nat} (hi : i < n) (hD : D i = false) (hp : Placed dst ef n D i) (t : Nat) :
    look (stD dst ef T0 M0 (ins D i) n).1 t = look (putT (dst i) (ef i).out (stD dst ef T0 M0 D n).1) t := by
  rw [look_putT]
  by_cases h : dst i = some t
  · rw [if_pos h]
    have e1 : look (stD dst ef T0 M0 (ins D i) n).1 t = look (stD dst ef T0 M0 (ins D i) (i + 1)).1 t :=
      stD_look_ext (i + 1) n hi (fun j h1 h2 h3 => by
        rw [ins_ne _ (by omega)]
        exact (hp j h2 (by omega) (.inl ⟨t, h, .inr h3⟩)).2 (by omega))
    rw [e1]
    simp only [stD, ins_same, look_putT, h, if_true]
  · rw [if_neg h]
    exact stD_look n (fun j _ hj => ins_ne _ (fun e => h (e ▸ hj)))

theorem find_ins {D : Nat → Bool} {n i : Nat} (hi : i < n) (hD : D i = false) (hp : Placed dst ef n D i) (id : Nat) :
    find (stD dst ef T0 M0 (ins D i) n).2 id = find (upd (ef i).eo (ef i).ci (stD dst ef T0 M0 D n).2) id := by
  by_cases h : id ∈ wrE ef i
  · have e1 : find (stD dst ef T0 M0 (ins D i) n).2 id = find (stD dst ef T0 M0 (ins D i) (i + 1)).2 id :=
      stD_find_ext (i + 1) n hi (fun j h1 h2 h3 => by
        rw [ins_ne _ (by omega)]
        exact (hp j h2 (by omega) (.inr (.inr (.inl ⟨id, h, .inr h3⟩)))).2 (by omega))
    rw [e1]
    simp only [stD, ins_same]
    exact find_upd_same h
  · rw [find_upd_other h]
    exact stD_find n (fun j _ hj => ins_ne _ (fun e => h (e ▸ hj)))

theorem look_at {D : Nat → Bool} {n i : Nat} (hi : i < n) (hD : D i = false) (hp : Placed dst ef n D i) {t : Nat} (ht : t ∈ (ef i).rd) :
    look (stD dst ef T0 M0 D n).1 t = look (stD dst ef T0 M0 (fun _ => true) i).1 t := by
  rw [stD_look_ext i n (by omega) (fun j h1 h2 h3 => by
    by_cases e : j = i
    · rw [e]; exact hD
    · exact (hp j h2 e (.inr (.inl ⟨t, h3, ht⟩))).2 (by omega))]
  exact stD_look i (fun j hj h3 => (hp j (by omega) (by omega) (.inr (.inl ⟨t, h3, ht⟩))).1 hj)

theorem find_at {D : Nat → Bool} {n i : Nat} (hi : i < n) (hD : D i = false) (hp : Placed dst ef n D i) {id : Nat} (ht : id ∈ (ef i).S) :
    find (stD dst ef T0 M0 D n).2 id = find (stD dst ef T0 M0 (fun _ => true) i).2 id := by
  rw [stD_find_ext i n (by omega) (fun j h1 h2 h3 => by
    by_cases e : j = i
    · rw [e]; exact hD
    · exact (hp j h2 e (.inr (.inr (.inr ⟨id, h3, ht⟩)))).2 (by omega))]
  exact stD_find i (fun j hj h3 => (hp j (by omega) (by omega) (.inr (.inr (.inr ⟨id, h3, ht⟩)))).1 hj)

end order

def dstOf (ops : Array Oper) (j : Nat) : Option Nat := (ops[j]?).bind (·.dst)

/-- A region's operations, each with what it does in the order of the text. -/
structure Traced (r : Option Nat) (P : Program) (ops : Array Oper) (nt base : Nat) (T0 : Tm) (M0 : En) (ef : Nat → Eff) : Prop where
  loc : ∀ (i : Nat) (o : Oper), ops[i]? = some o → LocOk r P ops o (stD (dstOf ops) ef T0 M0 (fun _ => true) i).1 (stD (dstOf ops) ef T0 M0 (fun _ => true) i).2
    (base + 16 * i) (base + 16 * i + 16) (ef i)
  dst : ∀ (i : Nat) (o : Oper) (d : Nat), ops[i]? = some o → o.dst = some d → d < nt

/-- The state that goes with D. -/
def AtD (ops : Array Oper) (nt base : Nat) (T0 : Tm) (M0 : En) (ef : Nat → Eff) (D : Nat → Bool) (E : Env) (fp : Nat → Nat → Prop) (a : Act) (w : World) : Prop :=
  StSat E w fp a nt (stD (dstOf ops) ef T0 M0 D ops.size).1 (stD (dstOf ops) ef T0 M0 D ops.size).2 ∧
  ∀ id, E.slot id ≠ none → id < base ∨ ∃ i, D i = true ∧ base + 16 * i ≤ id ∧ id < base + 16 * i + 16

theorem AtD.step {r : Option Nat} {P : Program} {ops : Array Oper} {nt base : Nat} {T0 : Tm} {M0 : En} {ef : Nat → Eff} (ht : Traced r P ops nt base T0 M0 ef)
    {D : Nat → Bool} {E : Env} {fp : Nat → Nat → Prop} {a : Act} {w : World} (h : AtD ops nt base T0 M0 ef D E fp a w) {i : Nat} {o : Oper} (ho : ops[i]? = some o) (hD : D i = false)
    (hp : Placed (dstOf ops) ef ops.size D i) :
    OpStep r P ops o a w fun v w' => ∃ E' fp', AtD ops nt base T0 M0 ef (ins D i) E' fp' (a.put o.dst v) w' ∧ Adv E fp w E' fp' w' ∧ ∀ id, id < base → E'.slot id = E.slot id := by
  have hi : i < ops.size := (Array.getElem?_eq_some_iff.1 ho).1
  have hdst : dstOf ops i = o.dst := by simp [dstOf, ho]
  refine (StSat.step (ht.loc i o ho) h.1 (fun t hr => look_at hi hD hp hr) (fun id hr => find_at hi hD hp hr) (fun d hd => ht.dst i o d ho hd) ?_).mono ?_
  · intro id h1 h2
    refine Classical.byContradiction fun hne => ?_
    rcases h.2 id hne with h3 | ⟨j, hj, h3, h4⟩
    · omega
    · obtain rfl : j = i := by omega
      rw [hD] at hj; cases hj
  · rintro v w' ⟨E', fp', hs, hadv, hslot⟩
    refine ⟨E', fp', ⟨hs.congr (fun t => ?_) (fun id => find_ins hi hD hp id), fun id hne => ?_⟩, hadv, fun id hlt => (hslot id).resolve_right (fun h => by omega)⟩
    · rw [look_ins hi hD hp t, hdst]
    · rcases hslot id with e | e
      · rw [e] at hne
        rcases h.2 id hne with h3 | ⟨j, hj, h3⟩
        · exact .inl h3
        · exact .inr ⟨j, by simp [ins, hj], h3⟩
      · exact .inr ⟨i, ins_same _ _, e⟩

/-- In the order of the text. -/
theorem run_text {r : Option Nat} {P : Program} {ops : Array Oper} {nt base : Nat} {T0 : Tm} {M0 : En} {ef : Nat → Eff} (ht : Traced r P ops nt base T0 M0 ef)
    {Q : Exit → Act → World → Prop} : ∀ (k : Nat) (i : Nat), i + k = ops.size → ∀ (E : Env) (fp : Nat → Nat → Prop) (a : Act) (w : World),
      AtD ops nt base T0 M0 ef (fun j => decide (j < i)) E fp a w →
      (∀ E' fp' a' w', AtD ops nt base T0 M0 ef (fun j => decide (j < ops.size)) E' fp' a' w' → Adv E fp w E' fp' w' → (∀ id, id < base → E'.slot id = E.slot id) → a'.defers = a.defers → Q .normal a' w') →
      wpOpsIn (fence r) 0 P ops Q (List.range' i k) a w
  | 0, i, hk, E, fp, a, w, h, hQ => by
    obtain rfl : i = ops.size := by omega
    exact hQ E fp a w h (.refl _ _ _) (fun _ _ => rfl) rfl
  | k + 1, i, hk, E, fp, a, w, h, hQ => by
    have hi : i < ops.size := by omega
    have ho : ops[i]? = some ops[i] := by simp [hi]
    have hins : ins (fun j => decide (j < i)) i = fun j => decide (j < i + 1) := by
      funext j
      by_cases e : j = i
      · subst e; simp [ins]
      · rw [ins_ne _ e]
        by_cases hj : j < i
        · simp [hj]; omega
        · simp [hj]; omega
    rw [List.range'_succ, wpOpsIn_cons]
    refine (AtD.step ht h ho (by simp) ?_).to ho ?_
    · intro j hj hne _
      exact ⟨fun h1 => by simp [h1], fun h1 => by simp; omega⟩
    · rintro v w' ⟨E', fp', hs, hadv, hsl⟩
      rw [hins] at hs
      refine run_text ht k (i + 1) (by omega) E' fp' _ w' hs (fun E2 fp2 a2 w2 h2 hadv2 hsl2 hdf => hQ E2 fp2 a2 w2 h2 (hadv.trans hadv2) (fun id hid => (hsl2 id hid).trans (hsl id hid)) ?_)
      rw [hdf]; cases (ops[i]).dst <;> rfl

/-! ### The check: whatever conflicts is in order -/

def edgesOk : Nat → List Oper → Bool
  | _, [] => true
  | n, o :: l => o.after.toList.all (fun e => !Region.binds .any e || Nat.blt e.on n) && edgesOk (n + 1) l

def maskOf (acc : List Nat) : List Edge → Nat
  | [] => 0
  | e :: l => match Region.binds .any e with
    | true => Nat.lor (Nat.lor (Nat.shiftLeft 1 e.on) (acc.getD e.on 0)) (maskOf acc l)
    | false => maskOf acc l

def masks : List Nat → List Oper → List Nat
  | acc, [] => acc
  | acc, o :: l => masks (acc ++ [maskOf acc o.after.toList]) l

/-- What an operation touched. -/
structure Tch where
  rd : List Nat
  wr : Option Nat
  S : List Nat
  W : List Nat

def memB (i : Nat) : List Nat → Bool
  | [] => false
  | j :: l => match Nat.beq j i with | true => true | false => memB i l
def anyB (l m : List Nat) : Bool := match l with | [] => false | i :: l => match memB i m with | true => true | false => anyB l m
def dstB (d : Option Nat) (l : List Nat) : Bool := match d with | none => false | some t => memB t l
def sameB (d e : Option Nat) : Bool := match d, e with | some t, some s => Nat.beq t s | _, _ => false
def conflB (p q : Tch) : Bool := dstB p.wr q.rd || sameB p.wr q.wr || dstB q.wr p.rd || anyB p.W q.S || anyB p.W q.W || anyB q.W p.S

def raceRow (m : Nat) (q : Tch) : Nat → List Tch → Bool
  | _, [] => true
  | k, p :: l => (match conflB p q with | true => Nat.testBit m k | false => true) && raceRow m q (k + 1) l

/-- prev: those ahead, in order. -/
def raceGo : List Tch → List Tch → List Nat → Bool
  | prev, q :: l, m :: ms => raceRow m q 0 prev && raceGo (prev ++ [q]) l ms
  | _, [], _ => true
  | _, _ :: _, [] => false

def raceOk (ops : List Oper) (tr : List Tch) : Bool := edgesOk 0 ops && raceGo [] tr (masks [] ops)

theorem memB_iff {i : Nat} {l : List Nat} : memB i l = true ↔ i ∈ l := by
  induction l with
  | nil => simp [memB]
  | cons j l ih =>
    simp only [memB, List.mem_cons]
    by_cases h : j = i
    · subst h; simp
    · have hb : Nat.beq j i = false := by rw [← Bool.not_eq_true, Nat.beq_eq]; exact h
      have h' : ¬ i = j := fun e => h e.symm
      simp [hb, ih, h']
theorem anyB_iff {l m : List Nat} : anyB l m = true ↔ ∃ i, i ∈ l ∧ i ∈ m := by
  induction l with
  | nil => simp [anyB]
  | cons j l ih =>
    simp only [anyB]
    cases h : memB j m
    · have : j ∉ m := fun e => by rw [memB_iff.2 e] at h; cases h
      simp [ih, this]
    · simp [memB_iff.1 h]

theorem raceRow_spec {m : Nat} {q : Tch} : ∀ (k : Nat) (l : List Tch), raceRow m q k l = true → ∀ i p, l[i]? = some p → conflB p q = true → Nat.testBit m (k + i) = true
  | k, [], _, i, p, hi, _ => by simp at hi
  | k, p0 :: l, h, i, p, hi, hc => by
    simp only [raceRow, Bool.and_eq_true] at h
    cases i with
    | zero =>
      obtain rfl : p0 = p := by simpa using hi
      have h1 := h.1; rw [hc] at h1; exact h1
    | succ i =>
      have := raceRow_spec (k + 1) l h.2 i p (by simpa using hi) hc
      rw [show k + (i + 1) = k + 1 + i by omega]; exact this

theorem raceGo_spec : ∀ (l prev : List Tch) (ms : List Nat), raceGo prev l ms = true → ∀ j q, l[j]? = some q → ∀ i p, (prev ++ l)[i]? = some p → i < prev.length + j → conflB p q = true →
    ∃ m, ms[j]? = some m ∧ Nat.testBit m i = true
  | [], prev, ms, _, j, q, hj, _, _, _, _, _ => by simp at hj
  | q0 :: l, prev, [], h, _, _, _, _, _, _, _, _ => by simp [raceGo] at h
  | q0 :: l, prev, m :: ms, h, j, q, hj, i, p, hi, hlt, hc => by
    simp only [raceGo, Bool.and_eq_true] at h
    cases j with
    | zero =>
      obtain rfl : q0 = q := by simpa using hj
      have hi' : prev[i]? = some p := by rw [List.getElem?_append_left (by simpa using hlt)] at hi; exact hi
      have := raceRow_spec 0 prev h.1 i p hi' hc
      exact ⟨m, by simp, by simpa using this⟩
    | succ j =>
      have hi' : ((prev ++ [q0]) ++ l)[i]? = some p := by simpa using hi
      obtain ⟨m', h1, h2⟩ := raceGo_spec l (prev ++ [q0]) ms h.2 j q (by simpa using hj) i p hi' (by simp; omega) hc
      exact ⟨m', by simpa using h1, h2⟩

theorem edgesOk_spec : ∀ (l : List Oper) (n : Nat), edgesOk n l = true → ∀ i o, l[i]? = some o → ∀ e ∈ o.after, Region.binds .any e = true → e.on < n + i
  | [], n, _, i, o, hi, _, _, _ => by simp at hi
  | o0 :: l, n, h, i, o, hi, e, he, hb => by
    simp only [edgesOk, Bool.and_eq_true] at h
    cases i with
    | zero =>
      obtain rfl : o0 = o := by simpa using hi
      have := List.all_eq_true.1 h.1 e (by simpa using he)
      rw [hb] at this
      simp [Nat.blt] at this
      omega
    | succ i =>
      have := edgesOk_spec l (n + 1) h.2 i o (by simpa using hi) e he hb
      omega

theorem maskOf_spec {acc : List Nat} {i : Nat} : ∀ (l : List Edge), Nat.testBit (maskOf acc l) i = true → ∃ e ∈ l, Region.binds .any e = true ∧ (e.on = i ∨ Nat.testBit (acc.getD e.on 0) i = true)
  | [], h => by simp [maskOf] at h
  | e :: l, h => by
    simp only [maskOf] at h
    cases hb : Region.binds .any e with
    | false =>
      rw [hb] at h
      obtain ⟨e', h1, h2⟩ := maskOf_spec l h
      exact ⟨e', List.mem_cons_of_mem _ h1, h2⟩
    | true =>
      rw [hb] at h
      simp only at h
      change Nat.testBit (((1 <<< e.on) ||| acc.getD e.on 0) ||| maskOf acc l) i = true at h
      rw [Nat.testBit_or, Nat.testBit_or, Bool.or_eq_true, Bool.or_eq_true] at h
      rcases h with (h | h) | h
      · refine ⟨e, List.mem_cons_self .., hb, .inl ?_⟩
        rw [Nat.testBit_shiftLeft] at h
        simp only [Bool.and_eq_true, decide_eq_true_eq] at h
        have h2 := h.2
        have : i - e.on = 0 := by
          cases hz : i - e.on with
          | zero => rfl
          | succ z => rw [hz] at h2; simp [Nat.testBit_succ] at h2
        omega
      · exact ⟨e, List.mem_cons_self .., hb, .inr h⟩
      · obtain ⟨e', h1, h2⟩ := maskOf_spec l h
        exact ⟨e', List.mem_cons_of_mem _ h1, h2⟩

theorem masks_spec : ∀ (l : List Oper) (acc : List Nat), (∀ j, j < acc.length → (masks acc l)[j]? = acc[j]?) ∧
    ∀ i o, l[i]? = some o → ∃ acc', (masks acc l)[acc.length + i]? = some (maskOf acc' o.after.toList) ∧ ∀ j, j < acc.length + i → acc'[j]? = (masks acc l)[j]? ∧ acc'.length = acc.length + i
  | [], acc => ⟨fun _ _ => rfl, fun i o hi => by simp at hi⟩
  | o0 :: l, acc => by
    obtain ⟨h1, h2⟩ := masks_spec l (acc ++ [maskOf acc o0.after.toList])
    refine ⟨fun j hj => ?_, fun i o hi => ?_⟩
    · simp only [masks]
      rw [h1 j (by simp; omega), List.getElem?_append_left hj]
    · simp only [masks]
      cases i with
      | zero =>
        obtain rfl : o0 = o := by simpa using hi
        refine ⟨acc, ?_, fun j hj => ⟨?_, rfl⟩⟩
        · rw [Nat.add_zero, h1 acc.length (by simp)]; simp
        · rw [h1 j (by simp; omega), List.getElem?_append_left (by omega)]
      | succ i =>
        obtain ⟨acc', h3, h4⟩ := h2 i o (by simpa using hi)
        have e : (acc ++ [maskOf acc o0.after.toList]).length + i = acc.length + (i + 1) := by simp; omega
        rw [e] at h3 h4
        exact ⟨acc', h3, h4⟩

/-- What has been carried out holds all that it waits for, at whatever remove. -/
theorem closed_mask {ops : Array Oper} {D : Nat → Bool} (he : edgesOk 0 ops.toList = true) (hc : ∀ j o, ops[j]? = some o → D j = true → ∀ e ∈ o.after, Region.binds .any e = true → D e.on = true) :
    ∀ (j : Nat) (o : Oper) (m : Nat) (i : Nat), ops[j]? = some o → (∀ e ∈ o.after, Region.binds .any e = true → D e.on = true) → (masks [] ops.toList)[j]? = some m → Nat.testBit m i = true → D i = true := by
  intro j
  induction j using Nat.strongRecOn with
  | _ j ih =>
    intro o m i ho hdep hm hbit
    have hol : ops.toList[j]? = some o := by simpa using ho
    obtain ⟨acc', h1, h2⟩ := (masks_spec ops.toList []).2 j o hol
    simp only [List.length_nil, Nat.zero_add] at h1 h2
    rw [h1] at hm
    obtain rfl := Option.some.inj hm
    obtain ⟨e, hem, hb, hor⟩ := maskOf_spec _ hbit
    have hem' : e ∈ o.after := by simpa using hem
    have hlt := edgesOk_spec ops.toList 0 he j o hol e hem' hb
    have hDe := hdep e hem' hb
    rcases hor with rfl | hor
    · exact hDe
    · obtain ⟨h3, h4⟩ := h2 e.on (by omega)
      have hlen : e.on < ops.size := by
        have := (Array.getElem?_eq_some_iff.1 ho).1; omega
      have hoe : ops[e.on]? = some ops[e.on] := by simp [hlen]
      cases hacc : acc'[e.on]? with
      | none => rw [List.getElem?_eq_none_iff] at hacc; omega
      | some m' =>
        have hg : acc'.getD e.on 0 = m' := by simp [List.getD, hacc]
        rw [hg] at hor
        exact ih e.on (by omega) ops[e.on] m' i hoe (hc _ _ hoe hDe) (by rw [← h3]; exact hacc) hor

/-- The touches of a trace. -/
def tchOf (o : Oper) (f : Eff) : Tch := ⟨f.rd, o.dst, f.S, f.ci ++ keys f.eo⟩

theorem conflB_of {dst : Nat → Option Nat} {ef : Nat → Eff} {i j : Nat} {oi oj : Oper} (hi : dst i = oi.dst) (hj : dst j = oj.dst) (h : Confl dst ef i j) :
    conflB (tchOf oi (ef i)) (tchOf oj (ef j)) = true ∧ conflB (tchOf oj (ef j)) (tchOf oi (ef i)) = true := by
  unfold conflB tchOf
  unfold Confl wrE at h
  rcases h with ⟨t, h1, h2 | h2⟩ | ⟨t, h1, h2⟩ | ⟨id, h1, h2 | h2⟩ | ⟨id, h1, h2⟩
  · rw [hi] at h1; simp [dstB, h1, memB_iff.2 h2]
  · rw [hi] at h1; rw [hj] at h2; simp [sameB, h1, h2]
  · rw [hj] at h1; simp [dstB, h1, memB_iff.2 h2]
  · simp [anyB_iff.2 ⟨id, h1, h2⟩]
  · simp [anyB_iff.2 ⟨id, h1, h2⟩, anyB_iff.2 ⟨id, h2, h1⟩]
  · simp [anyB_iff.2 ⟨id, h1, h2⟩]

theorem confl_symm {dst : Nat → Option Nat} {ef : Nat → Eff} {i j : Nat} (h : Confl dst ef i j) : Confl dst ef j i := by
  rcases h with ⟨t, h1, h2 | h2⟩ | ⟨t, h1, h2⟩ | ⟨id, h1, h2 | h2⟩ | ⟨id, h1, h2⟩
  · exact .inr (.inl ⟨t, h1, h2⟩)
  · exact .inl ⟨t, h2, .inr h1⟩
  · exact .inl ⟨t, h1, .inl h2⟩
  · exact .inr (.inr (.inr ⟨id, h1, h2⟩))
  · exact .inr (.inr (.inl ⟨id, h2, .inr h1⟩))
  · exact .inr (.inr (.inl ⟨id, h1, .inl h2⟩))

theorem placed_of {ops : Array Oper} {ef : Nat → Eff} {tr : List Tch} (htr : ∀ i o, ops[i]? = some o → tr[i]? = some (tchOf o (ef i))) (hr : raceOk ops.toList tr = true)
    {D : Nat → Bool} (hc : ∀ j o, ops[j]? = some o → D j = true → ∀ e ∈ o.after, Region.binds .any e = true → D e.on = true)
    {i : Nat} {o : Oper} (ho : ops[i]? = some o) (hD : D i = false) (hdep : ∀ e ∈ o.after, Region.binds .any e = true → D e.on = true) : Placed (dstOf ops) ef ops.size D i := by
  simp only [raceOk, Bool.and_eq_true] at hr
  intro j hj hne hcf
  have hoj : ops[j]? = some ops[j] := by simp [hj]
  have hdi : dstOf ops i = o.dst := by simp [dstOf, ho]
  have hdj : dstOf ops j = (ops[j]).dst := by simp [dstOf, hoj]
  obtain ⟨hb1, hb2⟩ := conflB_of hdi hdj hcf
  refine ⟨fun hlt => ?_, fun hlt => ?_⟩
  · obtain ⟨m, h1, h2⟩ := raceGo_spec tr [] _ hr.2 i _ (htr i o ho) j _ (by simpa using htr j _ hoj) (by simpa using hlt) hb2
    exact closed_mask hr.1 hc i o m j ho hdep h1 h2
  · obtain ⟨m, h1, h2⟩ := raceGo_spec tr [] _ hr.2 j _ (htr j _ hoj) i _ (by simpa using htr i o ho) (by simpa using hlt) hb1
    cases hDj : D j with
    | false => rfl
    | true =>
      have := closed_mask hr.1 hc j _ m i hoj (hc j _ hoj hDj) h1 h2
      rw [hD] at this; cases this

theorem countFalse_set {l : List Bool} {i : Nat} (h : l[i]? = some false) : (l.set i true).countP (fun b => !b) + 1 = l.countP (fun b => !b) := by
  induction l generalizing i with
  | nil => simp at h
  | cons b l ih =>
    cases i with
    | zero => obtain rfl : b = false := by simpa using h
              simp
    | succ i =>
      have := ih (i := i) (by simpa using h)
      simp only [List.set_cons_succ, List.countP_cons]
      omega

/-- In whatever order the region allows. -/
theorem run_any {r : Option Nat} {P : Program} {ops : Array Oper} {nt base : Nat} {T0 : Tm} {M0 : En} {ef : Nat → Eff} (ht : Traced r P ops nt base T0 M0 ef) {tr : List Tch}
    (htr : ∀ i o, ops[i]? = some o → tr[i]? = some (tchOf o (ef i))) (hr : raceOk ops.toList tr = true)
    {Q : Exit → Act → World → Prop} : ∀ (k : Nat) (listed : Array Bool), listed.size = ops.size → listed.toList.countP (fun b => !b) = k →
      (∀ j o, ops[j]? = some o → listed.getD j false = true → ∀ e ∈ o.after, Region.binds .any e = true → listed.getD e.on false = true) →
      ∀ (E : Env) (fp : Nat → Nat → Prop) (a : Act) (w : World), AtD ops nt base T0 M0 ef (fun j => listed.getD j false) E fp a w →
      (∀ E' fp' a' w' D, (∀ j, j < ops.size → D j = true) → (∀ j, ops.size ≤ j → D j = false) → AtD ops nt base T0 M0 ef D E' fp' a' w' → Adv E fp w E' fp' w' → (∀ id, id < base → E'.slot id = E.slot id) → a'.defers = a.defers → Q .normal a' w') →
      wpAnyIn (fence r) 0 P .any ops Q k listed a w := by
  have hedge : edgesOk 0 ops.toList = true := by simp only [raceOk, Bool.and_eq_true] at hr; exact hr.1
  intro k
  induction k with
  | zero =>
    intro listed hsz hcount hc E fp a w h hQ
    have hall : ∀ j, j < ops.size → listed.getD j false = true := fun j hj => by
      have h0 := List.countP_eq_zero.1 hcount (listed.getD j false) (by
        have : j < listed.size := by omega
        simp [this])
      simpa using h0
    refine ⟨?_, hQ E fp a w _ hall (fun j hj => by simp [Array.getD]; omega) h (.refl _ _ _) (fun _ _ => rfl) rfl⟩
    rw [List.eq_nil_iff_forall_not_mem]
    intro i hi
    obtain ⟨h1, o, h2, _⟩ := mem_ready.1 hi
    have hlt := (Array.getElem?_eq_some_iff.1 h2).1
    have h3 := hall i hlt
    have : i < listed.size := by omega
    simp [this] at h1 h3
    rw [h3] at h1; cases h1
  | succ k ih =>
    intro listed hsz hcount hc E fp a w h hQ
    refine ⟨fun hnil => ?_, fun i hi => ?_⟩
    · exfalso
      -- the first one that is not listed is ready
      have : ∃ j, j < ops.size ∧ listed.getD j false = false := by
        refine Classical.byContradiction fun hn => ?_
        have : listed.toList.countP (fun b => !b) = 0 := by
          rw [List.countP_eq_zero]
          intro b hb
          obtain ⟨j, hj, rfl⟩ := List.mem_iff_getElem.1 hb
          have hj' : j < listed.size := by simpa using hj
          have h2 : ¬ (listed.getD j false = false) := fun e => hn ⟨j, by omega, e⟩
          simp [hj'] at h2
          simpa using h2
        omega
      obtain ⟨j, hj⟩ := this
      have key : ∀ j, j < ops.size ∧ listed.getD j false = false → False := by
        intro j
        induction j using Nat.strongRecOn with
        | _ j ih2 =>
          intro ⟨hj, hl⟩
          have hoj : ops[j]? = some ops[j] := by simp [hj]
          have hmem : j ∈ Region.ready .any ops listed := mem_ready.2 ⟨by
            have hj' : j < listed.size := by omega
            simp [hj'] at hl ⊢; exact hl, ops[j], hoj, fun e he hb => by
            have hlt := edgesOk_spec ops.toList 0 hedge j ops[j] (by simp [hj]) e he hb
            cases hle : listed.getD e.on false with
            | true => rfl
            | false => exact (ih2 e.on (by omega) ⟨by omega, hle⟩).elim⟩
          rw [hnil] at hmem; cases hmem
      exact key j hj
    · obtain ⟨hun, o, ho, hdep⟩ := mem_ready.1 hi
      have hlt := (Array.getElem?_eq_some_iff.1 ho).1
      have hlt' : i < listed.size := by omega
      have hun' : listed.getD i false = false := by simp [hlt'] at hun ⊢; exact hun
      have hins : ins (fun j => listed.getD j false) i = fun j => (listed.setIfInBounds i true).getD j false := by
        funext j
        by_cases e : j = i
        · subst e; simp [ins, hlt']
        · rw [ins_ne _ e]; simp [Array.getElem?_setIfInBounds_ne (Ne.symm e)]
      refine (AtD.step ht h ho hun' (placed_of htr hr hc ho hun' hdep)).to ho ?_
      rintro v w' ⟨E', fp', hs, hadv, hsl⟩
      rw [hins] at hs
      refine ih (listed.setIfInBounds i true) (by simpa using hsz) ?_ ?_ E' fp' _ w' hs ?_
      · have := countFalse_set (l := listed.toList) (i := i) (by simp [hlt'] at hun' ⊢; exact hun')
        simp only [Array.toList_setIfInBounds]
        omega
      · intro j oj hoj hl e he hb
        by_cases h1 : e.on = i
        · rw [h1]; simp [hlt']
        · have h2 : (listed.setIfInBounds i true).getD e.on false = listed.getD e.on false := by simp [Array.getElem?_setIfInBounds_ne (Ne.symm h1)]
          rw [h2]
          by_cases h3 : j = i
          · subst h3
            obtain rfl : o = oj := Option.some.inj (ho.symm.trans hoj)
            exact hdep e he hb
          · have h4 : (listed.setIfInBounds i true).getD j false = listed.getD j false := by simp [Array.getElem?_setIfInBounds_ne (Ne.symm h3)]
            rw [h4] at hl
            exact hc j oj hoj hl e he hb
      · intro E2 fp2 a2 w2 D hD hD2 h2 hadv2 hsl2 hdf
        refine hQ E2 fp2 a2 w2 D hD hD2 h2 (hadv.trans hadv2) (fun id hid => (hsl2 id hid).trans (hsl id hid)) ?_
        rw [hdf]; cases o.dst <;> rfl

end Go.Eng

/-! The engine, part D: what single steps of the model come to: loads, stores, new blocks, steps without memory. -/
set_option linter.unusedVariables false
namespace Go.Eng
open Go.RowKit (Below)
variable [DM]
set_option linter.unusedSectionVars false

/-! ### Steps without memory -/

def pureP {α : Type} (P : Program) : Sem α → Option α
  | .pure a => some a
  | .program k => pureP P (k P)
  | .mark _ k => pureP P k
  | _ => none

theorem pureP_run {α : Type} {P : Program} {w : World} : ∀ (s : Sem α) (a : α), pureP P s = some a → s.run P w = .ok a w
  | .pure b, a, h => by simp only [pureP, Option.some.injEq] at h; subst h; rfl
  | .program k, a, h => pureP_run (k P) a h
  | .mark _ k, a, h => pureP_run k a h
  | .load .., _, h => by simp [pureP] at h
  | .store .., _, h => by simp [pureP] at h
  | .new .., _, h => by simp [pureP] at h
  | .shape .., _, h => by simp [pureP] at h
  | .freeze .., _, h => by simp [pureP] at h
  | .frozen .., _, h => by simp [pureP] at h
  | .getObj .., _, h => by simp [pureP] at h
  | .setObj .., _, h => by simp [pureP] at h
  | .choose .., _, h => by simp [pureP] at h
  | .sys .., _, h => by simp [pureP] at h
  | .halt .., _, h => by simp [pureP] at h

theorem run_then {α β : Type} {P : Program} {w w' : World} {s : Sem α} {f : α → Sem β} {a : α} (h : s.run P w = .ok a w') : (s >>= f).run P w = (f a).run P w' := by
  rw [Sem.run_bind, h]; rfl

/-! ### What the tables say of a type -/

def szOf (P : Program) (t : TypeId) : Option Nat := match P.info? t with | some i => some i.size | none => none
def aggOf (P : Program) (t : TypeId) : Option Bool := match P.underlying t with
  | some (.struct _) => some true
  | some (.array _ _) => some true
  | some _ => some false
  | none => none
def fldOf (P : Program) (t : TypeId) (f : Nat) : Option Field := match P.underlying t with
  | some (.struct fs) => fs.toList[f]?
  | _ => none
def cellsOfV : Value → List Value
  | .agg cs => cs.toList
  | v => [v]
def zeroOf (P : Program) (t : TypeId) : Option (List Value) := match P.info? t with
  | some i => match i.zero with | some v => some (cellsOfV v) | none => none
  | none => none

theorem cellsOfV_eq (v : Value) : cellsOfV v = v.cells.toList := by cases v <;> rfl

theorem run_sizeOf {P : Program} {t : TypeId} {n : Nat} (h : szOf P t = some n) (w : World) : (sizeOf t).run P w = .ok n w := by
  refine pureP_run _ _ ?_
  unfold szOf at h
  split at h
  · rename_i i hi
    simp only [Option.some.injEq] at h
    subst h
    simp only [sizeOf, typeInfo, program, bind, Sem.bind, pureP, hi]
    rfl
  · cases h

theorem run_isAgg {P : Program} {t : TypeId} {b : Bool} (h : aggOf P t = some b) (w : World) : (isAgg t).run P w = .ok b w := by
  refine pureP_run _ _ ?_
  unfold aggOf at h
  cases hu : P.underlying t with
  | none => rw [hu] at h; cases h
  | some d =>
    rw [hu] at h
    simp only [isAgg, underlying, program, bind, Sem.bind, pureP, hu]
    cases d <;> simp only [Option.some.injEq] at h <;> subst h <;> rfl

theorem run_zeroValue {P : Program} {t : TypeId} {l : List Value} (h : zeroOf P t = some l) (w : World) : ∃ v, (zeroValue t).run P w = .ok v w ∧ v.cells.toList = l := by
  unfold zeroOf at h
  split at h
  · rename_i i hi
    split at h
    · rename_i v hz
      simp only [Option.some.injEq] at h
      subst h
      refine ⟨v, pureP_run _ _ ?_, (cellsOfV_eq v).symm⟩
      simp only [zeroValue, typeInfo, program, bind, Sem.bind, pureP, hi]
      show pureP P (match i.zero with | some v => Sem.pure v | none => unsupported (Unsupported.resourceLimit "a value of more than 2^22 cells")) = some v
      rw [hz]; rfl
    · cases h
  · cases h

theorem run_underlying' {P : Program} {t : TypeId} {d : TypeDesc} (h : P.underlying t = some d) (w : World) : (underlying t).run P w = .ok d w := by
  refine pureP_run _ _ ?_
  simp only [underlying, program, bind, Sem.bind, pureP, h]
  rfl

/-! ### Loads -/

theorem add_none (k o j : Nat) : (⟨k, o, none⟩ : Addr).add j = ⟨k, o + j, none⟩ := by
  unfold Addr.add
  split
  · rename_i h; simp [h]
  · rfl

theorem run_load {P : Program} {a : Addr} {v : Value} {w : World} (h : w.cell? a = some v) : (load a).run P w = .ok v w := by
  simp [load, Sem.run, h]

theorem run_loadCellsFrom {P : Program} {k o : Nat} {u : Nat → Value} {w : World} : ∀ (n i : Nat) (acc : Array Value), (∀ j, j < n → w.cell? ⟨k, o + (i + j), none⟩ = some (u (i + j))) →
    ∃ vs, (loadCellsFrom ⟨k, o, none⟩ i n acc).run P w = .ok vs w ∧ vs.size = acc.size + n ∧ (∀ j, j < acc.size → vs[j]? = acc[j]?) ∧ ∀ j, j < n → vs[acc.size + j]? = some (u (i + j))
  | 0, i, acc, _ => ⟨acc, rfl, rfl, fun _ _ => rfl, fun j hj => by omega⟩
  | n + 1, i, acc, h => by
    obtain ⟨vs, h1, h2, h3, h4⟩ := run_loadCellsFrom n (i + 1) (acc.push (u i)) (fun j hj => by
      have := h (j + 1) (by omega)
      rw [show i + (j + 1) = i + 1 + j by omega] at this; exact this)
    refine ⟨vs, ?_, by simp at h2; omega, fun j hj => ?_, fun j hj => ?_⟩
    · have h0 := h 0 (by omega)
      simp only [loadCellsFrom, add_none]
      rw [run_then (run_load (by simpa using h0))]
      exact h1
    · rw [h3 j (by simp; omega)]; simp [Array.getElem?_push, Nat.ne_of_lt hj]
    · cases j with
      | zero =>
        rw [Nat.add_zero, h3 acc.size (by simp)]; simp
      | succ j =>
        have := h4 j (by omega)
        simp only [Array.size_push] at this
        rw [show acc.size + (j + 1) = acc.size + 1 + j by omega, this, show i + 1 + j = i + (j + 1) by omega]

/-- A load: of one cell, or of a struct or an array whole. -/
theorem run_loadVar_scalar {P : Program} {t : TypeId} (h : aggOf P t = some false) {a : Addr} {v : Value} {w : World} (hc : w.cell? a = some v) : (loadVar t a).run P w = .ok v w := by
  unfold loadVar
  rw [run_then (run_isAgg h w)]
  simpa using run_load hc

theorem run_loadVar_agg {P : Program} {t : TypeId} {n : Nat} (h : aggOf P t = some true) (hn : szOf P t = some n) {k o : Nat} {u : Nat → Value} {w : World}
    (hc : ∀ j, j < n → w.cell? ⟨k, o + j, none⟩ = some (u j)) : ∃ vs : Array Value, (loadVar t ⟨k, o, none⟩).run P w = .ok (.agg vs) w ∧ vs.size = n ∧ ∀ j, j < n → vs[j]? = some (u j) := by
  obtain ⟨vs, h1, h2, _, h4⟩ := run_loadCellsFrom (P := P) (w := w) (k := k) (o := o) (u := u) n 0 #[] (fun j hj => by simpa using hc j hj)
  refine ⟨vs, ?_, by simpa using h2, fun j hj => by simpa using h4 j hj⟩
  unfold loadVar
  rw [run_then (run_isAgg h w)]
  simp only [if_true]
  rw [run_then (run_sizeOf hn w)]
  rw [run_then (show (loadCells ⟨k, o, none⟩ n).run P w = .ok vs w from h1)]
  rfl

/-! ### Stores -/

theorem run_store {P : Program} {k o : Nat} {v : Value} {w : World} {arr : Array Value} {t : TypeId} {fz : Nat × Nat} (hb : w.heap[k]? = some (.cells arr t fz)) (ho : o < arr.size) (hu : unfrozen fz arr.size)
    (hv : ∀ cs, v ≠ .agg cs) (hv' : ∀ cs, v ≠ .tuple cs) : (store ⟨k, o, none⟩ v).run P w = .ok () (w.setCell ⟨k, o, none⟩ v) := by
  have hc : w.cell? ⟨k, o, none⟩ = some arr[o] := by simp [World.cell?, hb, ho]
  have hf : w.frozen? ⟨k, o, none⟩ = false := by
    have := hu.at o ho
    simp only [World.frozen?, hb]
    simpa using this
  unfold store
  cases v <;> simp_all [Sem.run]

theorem setCell_heap {w : World} {k o : Nat} {v : Value} {arr : Array Value} {t : TypeId} {fz : Nat × Nat} (hb : w.heap[k]? = some (.cells arr t fz)) :
    (w.setCell ⟨k, o, none⟩ v).heap[k]? = some (.cells (arr.setIfInBounds o v) t fz) := by
  simp [World.setCell, Array.getElem?_modify, hb]

theorem setCell_other {w : World} {k o b : Nat} {v : Value} (h : b ≠ k) : (w.setCell ⟨k, o, none⟩ v).heap[b]? = w.heap[b]? := by
  simp only [World.setCell, Array.getElem?_modify]
  rw [if_neg (fun e => h e.symm)]

theorem setCell_keep (own : Nat → Prop) {w : World} {k o : Nat} {v : Value} (h : own k) : Keep own w (w.setCell ⟨k, o, none⟩ v) :=
  ⟨rfl, .same rfl rfl, rfl, by simp [World.setCell], fun b _ hn => setCell_other (fun e => hn (e ▸ h))⟩

/-- The array behind so many stores from a place on. -/
def putAll (arr : Array Value) (o : Nat) : List Value → Array Value
  | [] => arr
  | v :: l => putAll (arr.setIfInBounds o v) (o + 1) l

theorem putAll_size (o : Nat) : ∀ (l : List Value) (arr : Array Value), (putAll arr o l).size = arr.size := by
  intro l
  induction l generalizing o with
  | nil => intro arr; rfl
  | cons v l ih => intro arr; simp [putAll, ih]

theorem putAll_get {arr : Array Value} {o : Nat} {l : List Value} (h : o + l.length ≤ arr.size) (j : Nat) :
    (putAll arr o l)[j]? = if o ≤ j ∧ j < o + l.length then l[j - o]? else arr[j]? := by
  induction l generalizing arr o with
  | nil => simp only [putAll, List.length_nil, Nat.add_zero]; rw [if_neg (by omega)]
  | cons v l ih =>
    simp only [List.length_cons] at h
    simp only [putAll]
    rw [ih (by simp; omega)]
    simp only [List.length_cons]
    by_cases h1 : j = o
    · subst h1
      rw [if_neg (by omega), if_pos (by omega)]
      have : j < arr.size := by omega
      simp [this]
    · by_cases h2 : o + 1 ≤ j ∧ j < o + 1 + l.length
      · rw [if_pos h2, if_pos (by omega), show j - o = (j - (o + 1)) + 1 by omega]; simp
      · rw [if_neg h2, if_neg (by omega), Array.getElem?_setIfInBounds_ne (fun e => h1 e.symm)]

def plainV (v : Value) : Prop := (∀ cs, v ≠ .agg cs) ∧ ∀ cs, v ≠ .tuple cs

theorem run_storeCells {P : Program} {k o : Nat} {t : TypeId} {fz : Nat × Nat} : ∀ (l : List Value) (i : Nat) (w : World) (arr : Array Value), w.heap[k]? = some (.cells arr t fz) →
    o + i + l.length ≤ arr.size → unfrozen fz arr.size → (∀ v, v ∈ l → plainV v) →
    ∃ w', (storeCells ⟨k, o, none⟩ l i).run P w = .ok () w' ∧ w'.heap[k]? = some (.cells (putAll arr (o + i) l) t fz) ∧ Keep (fun b => b = k) w w'
  | [], i, w, arr, hb, _, _, _ => ⟨w, rfl, hb, .refl _ _⟩
  | v :: l, i, w, arr, hb, hl, hu, hp => by
    simp only [List.length_cons] at hl
    have hv := hp v (List.mem_cons_self ..)
    have h1 := run_store (P := P) (v := v) hb (o := o + i) (by omega) hu hv.1 hv.2
    obtain ⟨w', h2, h3, h4⟩ := run_storeCells (P := P) (o := o) l (i + 1) (w.setCell ⟨k, o + i, none⟩ v) (arr.setIfInBounds (o + i) v) (setCell_heap (o := o + i) (v := v) hb) (by rw [Array.size_setIfInBounds]; omega) (by rw [Array.size_setIfInBounds]; exact hu)
      (fun u hu => hp u (List.mem_cons_of_mem _ hu))
    refine ⟨w', ?_, ?_, ?_⟩
    · simp only [storeCells, add_none]
      rw [run_then h1]; exact h2
    · rw [h3]; rfl
    · have k1 : Keep (fun b => b = k) w (w.setCell ⟨k, o + i, none⟩ v) := setCell_keep _ rfl
      exact ⟨h4.os.trans k1.os, h4.tape.trans k1.tape, h4.output.trans k1.output, Nat.le_trans k1.size h4.size, fun b hb hn => by
        rw [h4.same b (Nat.lt_of_lt_of_le hb k1.size) hn, k1.same b hb hn]⟩

/-! ### New blocks -/

def wnew (w : World) (o : Obj) : World := { w with heap := w.heap.push o }

theorem wnew_same (w : World) (o : Obj) {b : Nat} (h : b < w.heap.size) : (wnew w o).heap[b]? = w.heap[b]? := by
  simp only [wnew, Array.getElem?_push]; rw [if_neg (by omega)]
theorem wnew_new (w : World) (o : Obj) : (wnew w o).heap[w.heap.size]? = some o := by
  show (w.heap.push o)[w.heap.size]? = some o
  simp
theorem wnew_keep (own : Nat → Prop) (w : World) (cs : Array Value) (t : TypeId) : Keep own w (wnew w (.cells cs t)) := ⟨rfl, .same rfl rfl, rfl, by simp [wnew], fun b hb _ => wnew_same w _ hb⟩

theorem run_newRow {P : Program} (t : TypeId) (cs : Array Value) (w : World) : (newRow t cs).run P w = .ok ⟨w.heap.size, 0, none⟩ (wnew w (.cells cs t)) := by
  unfold newRow
  rw [run_then (show (newObj (.cells cs t)).run P w = .ok w.heap.size (wnew w (.cells cs t)) from rfl)]
  rfl

/-- The environment with one more name. -/
def Env.with (E : Env) (id : Nat) (s : Slot) : Env := { E with slot := fun j => if j = id then some s else E.slot j }

theorem Env.le_with {E : Env} {id : Nat} {s : Slot} (h : E.slot id = none) : E.le (E.with id s) :=
  ⟨fun j t hj => by simp only [Env.with]; rw [if_neg (fun e => by subst e; rw [h] at hj; cases hj)]; exact hj, fun _ h => h, fun _ h => h⟩
theorem Env.with_self (E : Env) (id : Nat) (s : Slot) : (E.with id s).slot id = some s := by simp [Env.with]
theorem Env.with_other {E : Env} {id j : Nat} {s : Slot} (h : j ≠ id) : (E.with id s).slot j = E.slot j := by simp [Env.with, h]

open Classical in
noncomputable def fpWith (fp : Nat → Nat → Prop) (id b : Nat) : Nat → Nat → Prop := fun j => if j = id then fun x => x = b else fp j

/-- A new block under a new name. -/
theorem EntsSat.fresh {E : Env} {w w' : World} {fp : Nat → Nat → Prop} {M : En} {id : Nat} {s : Slot} {e : Ent} (h : EntsSat E w fp M) (hid : E.slot id = none) (hs : s.blk = w.heap.size)
    (hk : Keep (fun _ => False) w w') (hz : w.heap.size < w'.heap.size) (he : EntSat (E.with id s) w' (fun b => b = w.heap.size) id e) :
    EntsSat (E.with id s) w' (fpWith fp id w.heap.size) ((id, e) :: M) ∧ Adv E fp w (E.with id s) (fpWith fp id w.heap.size) w' := by
  have hkeep : Keep (own fp) w w' := hk.mono (fun _ h => h.elim)
  have hst := h.stays hkeep
  have hsame : fpWith fp id w.heap.size id = fun x => x = w.heap.size := by simp [fpWith]
  have hother : ∀ {j}, j ≠ id → fpWith fp id w.heap.size j = fp j := fun hj => by simp [fpWith, hj]
  refine ⟨⟨fun j => ?_, fun j b hb => ?_, fun j b hb => ?_, fun j b hb => ?_, fun i j b hij hi hj => ?_, fun b hb => ?_, h.nil.mono (Env.le_with hid), h.glob hst (fun _ h => h)⟩, ⟨hkeep, Env.le_with hid, fun b hb => .inl hb, fun b hb => hb, fun j b hb => ?_⟩⟩
  · by_cases hj : j = id
    · subst hj; rw [hsame]; simpa [find] using he
    · rw [hother hj]
      have hf : find ((id, e) :: M) j = find M j := by
        have hb : Nat.beq id j = false := by rw [← Bool.not_eq_true, Nat.beq_eq]; exact fun e => hj e.symm
        simp [find, hb]
      rw [hf]
      exact (h.sat j).mono (Env.le_with hid) hst hk.size (fun b hb => hk.same b (h.lt j b hb) (fun h => h))
  · by_cases hj : j = id
    · subst hj; rw [hsame] at hb; omega
    · rw [hother hj] at hb; have := h.lt j b hb; omega
  · by_cases hj : j = id
    · subst hj; rw [hsame] at hb; intro hI; have := h.Ilt b (.inl hI); omega
    · rw [hother hj] at hb; exact h.I j b hb
  · by_cases hj : j = id
    · subst hj; rw [hsame] at hb; intro hI; have := h.Ilt b (.inr hI); omega
    · rw [hother hj] at hb; exact h.B j b hb
  · by_cases h1 : i = id <;> by_cases h2 : j = id
    · exact hij (h1.trans h2.symm)
    · subst h1; rw [hsame] at hi; rw [hother h2] at hj; have := h.lt j b hj; omega
    · subst h2; rw [hsame] at hj; rw [hother h1] at hi; have := h.lt i b hi; omega
    · rw [hother h1] at hi; rw [hother h2] at hj; exact h.apart i j b hij hi hj
  · have := h.Ilt b hb; omega
  · by_cases hj : j = id
    · subst hj; rw [hsame] at hb; exact .inr (by omega)
    · rw [hother hj] at hb; exact .inl ⟨j, hb⟩

end Go.Eng
