/- The engine, part A: data types, symbolic values, symbolic memory, and what they mean in a world. No program in sight. -/
import Derived.RangeFuncIn
import Derived.KernelRfl
import Derived.Below
set_option linter.unusedVariables false
namespace Go.Eng
open Go.RowKit (Below)

/-- Codes of plain data. -/
inductive Ty where
  | int (k : IntKind)
  | bool
  | str
  | unit
  | sl (t : Ty)
  | pair (a b : Ty)
  | arr (n : Nat) (t : Ty)

@[reducible] def Ty.den : Ty → Type
  | .int _ => Int
  | .bool => Bool
  | .str => ByteArray
  | .unit => Unit
  | .sl t => List t.den
  | .pair a b => a.den × b.den
  | .arr n t => Fin n → t.den

def Ty.size : Ty → Nat
  | .unit => 0
  | .pair a b => a.size + b.size
  | .arr n t => n * t.size
  | _ => 1

/-- Symbolic values. -/
inductive SV : Type where
  | v (x : Value)
  | any
  | ptr (id off : Nat)
  | elp (id sz : Nat) (i : Int) (off : Nat)
  | rop (b : Bool) (cells : List SV) (off : Nat)
  | sl (id : Nat)
  | slc (id off len cap : Nat)
  | ro (b : Bool) (t : Ty) (xs : List t.den)
  | agg (l : List SV)
  | tuple (l : List SV)
  | func (fn : Fn) (first cap : List SV)
  | unkB (p : Bool → Prop)

def idx : (n : Nat) → List (Fin n)
  | 0 => []
  | n + 1 => 0 :: (idx n).map Fin.succ

def flatF {α : Type} (f : α → List SV) : List α → List SV
  | [] => []
  | a :: l => f a ++ flatF f l

/-- The cells that a datum fills. -/
def enc : (t : Ty) → t.den → List SV
  | .int k, n => [.v (.int k n)]
  | .bool, b => [.v (.bool b)]
  | .str, s => [.v (.string s)]
  | .unit, _ => []
  | .sl t, xs => [.ro false t xs]
  | .pair a b, x => enc a x.1 ++ enc b x.2
  | .arr n t, f => flatF (fun i => enc t (f i)) (idx n)

/-- Entries of symbolic memory. 'res': whatever else owns blocks: a predicate on its blocks and the world; F: the blocks beyond its own that it leans on. -/
inductive Ent : Type where
  | gone
  | cells (t : TypeId) (cs : List SV)
  | row (te : TypeId) (t : Ty) (xs : List t.den)
  | res (F : Nat → Prop) (A : (Nat → Prop) → (Nat → Prop) → World → Prop)

abbrev Tm := List (Nat × SV)
abbrev En := List (Nat × Ent)

def look : Tm → Nat → SV
  | [], _ => .any
  | (j, x) :: l, i => match Nat.beq j i with | true => x | false => look l i

def find : En → Nat → Ent
  | [], _ => .gone
  | (j, x) :: l, i => match Nat.beq j i with | true => x | false => find l i

theorem idx_length : ∀ n, (idx n).length = n
  | 0 => rfl
  | n + 1 => by simp [idx, idx_length n]

theorem flatF_length {α : Type} (f : α → List SV) (k : Nat) (h : ∀ a, (f a).length = k) : ∀ l : List α, (flatF f l).length = l.length * k
  | [] => by simp [flatF]
  | a :: l => by simp [flatF, h a, flatF_length f k h l, Nat.add_mul, Nat.add_comm]

theorem enc_length : ∀ (t : Ty) (x : t.den), (enc t x).length = t.size
  | .int _, _ => rfl
  | .bool, _ => rfl
  | .str, _ => rfl
  | .unit, _ => rfl
  | .sl _, _ => rfl
  | .pair a b, x => by simp [enc, Ty.size, enc_length a, enc_length b]
  | .arr n t, f => by
    simp only [enc, Ty.size]
    rw [flatF_length _ t.size (fun i => enc_length t (f i)), idx_length]

/-! ### What they mean -/

structure Slot where
  blk : Nat
  a : Option Addr
  n : Nat
  c : Nat

def Slot.val (s : Slot) : Value := .slice s.a s.n s.c

structure Env where
  slot : Nat → Option Slot
  I : Nat → Prop
  B : Nat → Prop

/-- Names of nil slices. -/
def nilB (i : Nat) : Bool := match Nat.ble 1984 i with | true => Nat.blt i 2000 | false => false
def nilSlot : Slot := ⟨0, none, 0, 0⟩
def NilOk (E : Env) : Prop := ∀ i, nilB i = true → E.slot i = some nilSlot
theorem nilB_lt {i : Nat} (h : i < 1984) : nilB i = false := by
  unfold nilB
  split
  · rename_i hb; have := Nat.le_of_ble_eq_true hb; omega
  · rfl
theorem nilB_ge {i : Nat} (h : 2000 ≤ i) : nilB i = false := by
  unfold nilB
  split
  · cases hb : Nat.blt i 2000 with
    | false => rfl
    | true => have := Nat.le_of_ble_eq_true hb; omega
  · rfl
theorem nilB_range {i : Nat} (h : nilB i = true) : 1984 ≤ i ∧ i < 2000 := by
  unfold nilB at h
  split at h
  · rename_i hb; exact ⟨Nat.le_of_ble_eq_true hb, Nat.le_of_ble_eq_true h⟩
  · cases h

def Env.ok (E : Env) (b : Bool) (k : Nat) : Prop := E.I k ∨ (b = true ∧ E.B k)

inductive Sat (E : Env) (w : World) : SV → Value → Prop where
  | v (x : Value) : Sat E w (.v x) x
  | any (x : Value) : Sat E w .any x
  | ptr (id off : Nat) (s : Slot) (h : E.slot id = some s) : Sat E w (.ptr id off) (.pointer (some ⟨s.blk, off, none⟩))
  | elp (id sz : Nat) (i : Int) (off : Nat) (s : Slot) (h : E.slot id = some s) (o n c : Nat) (hv : s.val = .slice (some ⟨s.blk, o, none⟩) n c) :
      Sat E w (.elp id sz i off) (.pointer (some ⟨s.blk, o + i.toNat * sz + off, none⟩))
  | rop (b : Bool) (cs : List SV) (off k o : Nat) (u : Nat → Value) (hb : E.ok b k) (hc : ∀ j, j < cs.length → w.cell? ⟨k, o + j, none⟩ = some (u j))
      (hs : ∀ j sv, cs[j]? = some sv → Sat E w sv (u j)) : Sat E w (.rop b cs off) (.pointer (some ⟨k, o + off, none⟩))
  | sl (id : Nat) (s : Slot) (h : E.slot id = some s) : Sat E w (.sl id) s.val
  | slc (id off len cap : Nat) (s : Slot) (h : E.slot id = some s) : Sat E w (.slc id off len cap) (.slice (some ⟨s.blk, off, none⟩) len cap)
  | nil (b : Bool) (t : Ty) (A : Option Addr) (c : Nat) : Sat E w (.ro b t []) (.slice A 0 c)
  | ro (b : Bool) (t : Ty) (xs : List t.den) (k o c : Nat) (u : Nat → Value) (hb : E.ok b k) (hle : xs.length ≤ c)
      (hc : ∀ m, m < xs.length * t.size → w.cell? ⟨k, o + m, none⟩ = some (u m))
      (hs : ∀ i x j sv, xs[i]? = some x → (enc t x)[j]? = some sv → Sat E w sv (u (i * t.size + j))) :
      Sat E w (.ro b t xs) (.slice (some ⟨k, o, none⟩) xs.length c)
  | agg (l : List SV) (vs : Array Value) (u : Nat → Value) (hl : vs.size = l.length) (hu : ∀ j, j < l.length → vs[j]? = some (u j))
      (hs : ∀ j sv, l[j]? = some sv → Sat E w sv (u j)) : Sat E w (.agg l) (.agg vs)
  | tuple (l : List SV) (vs : Array Value) (u : Nat → Value) (hl : vs.size = l.length) (hu : ∀ j, j < l.length → vs[j]? = some (u j))
      (hs : ∀ j sv, l[j]? = some sv → Sat E w sv (u j)) : Sat E w (.tuple l) (.tuple vs)
  | func (fn : Fn) (f c : List SV) (vf vc : Array Value) (uf uc : Nat → Value) (hf : vf.size = f.length) (hc : vc.size = c.length)
      (huf : ∀ j, j < f.length → vf[j]? = some (uf j)) (huc : ∀ j, j < c.length → vc[j]? = some (uc j))
      (hsf : ∀ j sv, f[j]? = some sv → Sat E w sv (uf j)) (hsc : ∀ j sv, c[j]? = some sv → Sat E w sv (uc j)) :
      Sat E w (.func fn f c) (.func fn vf vc)
  | unkB (p : Bool → Prop) (b : Bool) (h : p b) : Sat E w (.unkB p) (.bool b)

/-- E' knows all that E knows. -/
structure Env.le (E E' : Env) : Prop where
  slot : ∀ id s, E.slot id = some s → E'.slot id = some s
  I : ∀ k, E.I k → E'.I k
  B : ∀ k, E.B k → E'.B k

theorem NilOk.mono {E E' : Env} (h : NilOk E) (k : E.le E') : NilOk E' := fun i hi => k.slot i _ (h i hi)

theorem Env.le.refl (E : Env) : E.le E := ⟨fun _ _ h => h, fun _ h => h, fun _ h => h⟩
theorem Env.le.trans {E E' E'' : Env} (h : E.le E') (k : E'.le E'') : E.le E'' :=
  ⟨fun id s e => k.slot id s (h.slot id s e), fun i e => k.I i (h.I i e), fun i e => k.B i (h.B i e)⟩
theorem Env.le.ok {E E' : Env} (h : E.le E') {b : Bool} {k : Nat} (hk : E.ok b k) : E'.ok b k := hk.imp (h.I k) (fun ⟨a, c⟩ => ⟨a, h.B k c⟩)

/-- What is read only lies as it lay. -/
def Stays (E : Env) (w w' : World) : Prop := ∀ k, E.I k ∨ E.B k → k < w.heap.size → w'.heap[k]? = w.heap[k]?

theorem Env.ok.or {E : Env} {b : Bool} {k : Nat} (h : E.ok b k) : E.I k ∨ E.B k := h.imp id And.right

theorem cell_lt {w : World} {a : Addr} {v : Value} (h : w.cell? a = some v) : a.block < w.heap.size := by
  unfold World.cell? at h
  split at h
  · rename_i e
    exact (Array.getElem?_eq_some_iff.1 e).1
  · cases h

theorem cell_same {w w' : World} {a : Addr} (h : w'.heap[a.block]? = w.heap[a.block]?) : w'.cell? a = w.cell? a := by
  unfold World.cell?; rw [h]

theorem Stays.cell {E : Env} {w w' : World} (h : Stays E w w') {b : Bool} {k o : Nat} {v : Value} (hb : E.ok b k) (hc : w.cell? ⟨k, o, none⟩ = some v) :
    w'.cell? ⟨k, o, none⟩ = some v := by
  rw [cell_same (w := w) (h k hb.or (cell_lt hc))]; exact hc

theorem Sat.mono {E E' : Env} {w w' : World} (hE : E.le E') (hw : Stays E w w') {sv : SV} {v : Value} (h : Sat E w sv v) : Sat E' w' sv v := by
  induction h with
  | v x => exact .v x
  | any x => exact .any x
  | ptr id off s h => exact .ptr id off s (hE.slot _ _ h)
  | elp id sz i off s h o n c hv => exact .elp id sz i off s (hE.slot _ _ h) o n c hv
  | rop b cs off k o u hb hc hs ih => exact .rop b cs off k o u (hE.ok hb) (fun j hj => hw.cell hb (hc j hj)) ih
  | sl id s h => exact .sl id s (hE.slot _ _ h)
  | slc id off len cap s h => exact .slc id off len cap s (hE.slot _ _ h)
  | nil b t A c => exact .nil b t A c
  | ro b t xs k o c u hb hle hc hs ih => exact .ro b t xs k o c u (hE.ok hb) hle (fun m hm => hw.cell hb (hc m hm)) ih
  | agg l vs u hl hu hs ih => exact .agg l vs u hl hu ih
  | tuple l vs u hl hu hs ih => exact .tuple l vs u hl hu ih
  | func fn f c vf vc uf uc hf hc huf huc hsf hsc ihf ihc => exact .func fn f c vf vc uf uc hf hc huf huc ihf ihc
  | unkB p b h => exact .unkB p b h

end Go.Eng
