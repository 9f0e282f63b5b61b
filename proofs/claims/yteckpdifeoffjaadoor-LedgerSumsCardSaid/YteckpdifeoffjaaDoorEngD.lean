/- The engine, part D: what single steps of the model come to: loads, stores, new blocks, steps without memory. -/
import Derived.Test.YteckpdifeoffjaaDoorEngC
set_option linter.unusedVariables false
namespace Go.Eng
open Go.RowKit (Below)

/-! ### Steps without memory -/

def pureP {α : Type} (P : Program) : Sem α → Option α
  | .pure a => some a
  | .program k => pureP P (k P)
  | .mark _ k => pureP P k
  | _ => none

theorem pureP_run {α : Type} {P : Program} {w : World} : ∀ (s : Sem α) (a : α), pureP P s = some a → s.run P w = .ok a w
  | .pure b, a, h => by simp only [pureP, Option.some.injEq] at h; subst h; rfl
  | .program k, a, h => pureP_run (k P) a h
  | .mark _ k, a, h => pureP_run k a h
  | .load .., _, h => by simp [pureP] at h
  | .store .., _, h => by simp [pureP] at h
  | .new .., _, h => by simp [pureP] at h
  | .shape .., _, h => by simp [pureP] at h
  | .freeze .., _, h => by simp [pureP] at h
  | .frozen .., _, h => by simp [pureP] at h
  | .getObj .., _, h => by simp [pureP] at h
  | .setObj .., _, h => by simp [pureP] at h
  | .choose .., _, h => by simp [pureP] at h
  | .sys .., _, h => by simp [pureP] at h
  | .halt .., _, h => by simp [pureP] at h

theorem run_then {α β : Type} {P : Program} {w w' : World} {s : Sem α} {f : α → Sem β} {a : α} (h : s.run P w = .ok a w') : (s >>= f).run P w = (f a).run P w' := by
  rw [Sem.run_bind, h]; rfl

/-! ### What the tables say of a type -/

def szOf (P : Program) (t : TypeId) : Option Nat := match P.info? t with | some i => some i.size | none => none
def aggOf (P : Program) (t : TypeId) : Option Bool := match P.underlying t with
  | some (.struct _) => some true
  | some (.array _ _) => some true
  | some _ => some false
  | none => none
def fldOf (P : Program) (t : TypeId) (f : Nat) : Option Field := match P.underlying t with
  | some (.struct fs) => fs.toList[f]?
  | _ => none
def cellsOfV : Value → List Value
  | .agg cs => cs.toList
  | v => [v]
def zeroOf (P : Program) (t : TypeId) : Option (List Value) := match P.info? t with
  | some i => match i.zero with | some v => some (cellsOfV v) | none => none
  | none => none

theorem cellsOfV_eq (v : Value) : cellsOfV v = v.cells.toList := by cases v <;> rfl

theorem run_sizeOf {P : Program} {t : TypeId} {n : Nat} (h : szOf P t = some n) (w : World) : (sizeOf t).run P w = .ok n w := by
  refine pureP_run _ _ ?_
  unfold szOf at h
  split at h
  · rename_i i hi
    simp only [Option.some.injEq] at h
    subst h
    simp only [sizeOf, typeInfo, program, bind, Sem.bind, pureP, hi]
    rfl
  · cases h

theorem run_isAgg {P : Program} {t : TypeId} {b : Bool} (h : aggOf P t = some b) (w : World) : (isAgg t).run P w = .ok b w := by
  refine pureP_run _ _ ?_
  unfold aggOf at h
  cases hu : P.underlying t with
  | none => rw [hu] at h; cases h
  | some d =>
    rw [hu] at h
    simp only [isAgg, underlying, program, bind, Sem.bind, pureP, hu]
    cases d <;> simp only [Option.some.injEq] at h <;> subst h <;> rfl

theorem run_zeroValue {P : Program} {t : TypeId} {l : List Value} (h : zeroOf P t = some l) (w : World) : ∃ v, (zeroValue t).run P w = .ok v w ∧ v.cells.toList = l := by
  unfold zeroOf at h
  split at h
  · rename_i i hi
    split at h
    · rename_i v hz
      simp only [Option.some.injEq] at h
      subst h
      refine ⟨v, pureP_run _ _ ?_, (cellsOfV_eq v).symm⟩
      simp only [zeroValue, typeInfo, program, bind, Sem.bind, pureP, hi]
      show pureP P (match i.zero with | some v => Sem.pure v | none => unsupported (Unsupported.resourceLimit "a value of more than 2^22 cells")) = some v
      rw [hz]; rfl
    · cases h
  · cases h

theorem run_underlying' {P : Program} {t : TypeId} {d : TypeDesc} (h : P.underlying t = some d) (w : World) : (underlying t).run P w = .ok d w := by
  refine pureP_run _ _ ?_
  simp only [underlying, program, bind, Sem.bind, pureP, h]
  rfl

/-! ### Loads -/

theorem add_none (k o j : Nat) : (⟨k, o, none⟩ : Addr).add j = ⟨k, o + j, none⟩ := by
  unfold Addr.add
  split
  · rename_i h; simp [h]
  · rfl

theorem run_load {P : Program} {a : Addr} {v : Value} {w : World} (h : w.cell? a = some v) : (load a).run P w = .ok v w := by
  simp [load, Sem.run, h]

theorem run_loadCellsFrom {P : Program} {k o : Nat} {u : Nat → Value} {w : World} : ∀ (n i : Nat) (acc : Array Value), (∀ j, j < n → w.cell? ⟨k, o + (i + j), none⟩ = some (u (i + j))) →
    ∃ vs, (loadCellsFrom ⟨k, o, none⟩ i n acc).run P w = .ok vs w ∧ vs.size = acc.size + n ∧ (∀ j, j < acc.size → vs[j]? = acc[j]?) ∧ ∀ j, j < n → vs[acc.size + j]? = some (u (i + j))
  | 0, i, acc, _ => ⟨acc, rfl, rfl, fun _ _ => rfl, fun j hj => by omega⟩
  | n + 1, i, acc, h => by
    obtain ⟨vs, h1, h2, h3, h4⟩ := run_loadCellsFrom n (i + 1) (acc.push (u i)) (fun j hj => by
      have := h (j + 1) (by omega)
      rw [show i + (j + 1) = i + 1 + j by omega] at this; exact this)
    refine ⟨vs, ?_, by simp at h2; omega, fun j hj => ?_, fun j hj => ?_⟩
    · have h0 := h 0 (by omega)
      simp only [loadCellsFrom, add_none]
      rw [run_then (run_load (by simpa using h0))]
      exact h1
    · rw [h3 j (by simp; omega)]; simp [Array.getElem?_push, Nat.ne_of_lt hj]
    · cases j with
      | zero =>
        rw [Nat.add_zero, h3 acc.size (by simp)]; simp
      | succ j =>
        have := h4 j (by omega)
        simp only [Array.size_push] at this
        rw [show acc.size + (j + 1) = acc.size + 1 + j by omega, this, show i + 1 + j = i + (j + 1) by omega]

/-- A load: of one cell, or of a struct or an array whole. -/
theorem run_loadVar_scalar {P : Program} {t : TypeId} (h : aggOf P t = some false) {a : Addr} {v : Value} {w : World} (hc : w.cell? a = some v) : (loadVar t a).run P w = .ok v w := by
  unfold loadVar
  rw [run_then (run_isAgg h w)]
  simpa using run_load hc

theorem run_loadVar_agg {P : Program} {t : TypeId} {n : Nat} (h : aggOf P t = some true) (hn : szOf P t = some n) {k o : Nat} {u : Nat → Value} {w : World}
    (hc : ∀ j, j < n → w.cell? ⟨k, o + j, none⟩ = some (u j)) : ∃ vs : Array Value, (loadVar t ⟨k, o, none⟩).run P w = .ok (.agg vs) w ∧ vs.size = n ∧ ∀ j, j < n → vs[j]? = some (u j) := by
  obtain ⟨vs, h1, h2, _, h4⟩ := run_loadCellsFrom (P := P) (w := w) (k := k) (o := o) (u := u) n 0 #[] (fun j hj => by simpa using hc j hj)
  refine ⟨vs, ?_, by simpa using h2, fun j hj => by simpa using h4 j hj⟩
  unfold loadVar
  rw [run_then (run_isAgg h w)]
  simp only [if_true]
  rw [run_then (run_sizeOf hn w)]
  rw [run_then (show (loadCells ⟨k, o, none⟩ n).run P w = .ok vs w from h1)]
  rfl

/-! ### Stores -/

theorem run_store {P : Program} {k o : Nat} {v : Value} {w : World} {arr : Array Value} {t : TypeId} {fz : Nat × Nat} (hb : w.heap[k]? = some (.cells arr t fz)) (ho : o < arr.size) (hu : unfrozen fz arr.size)
    (hv : ∀ cs, v ≠ .agg cs) (hv' : ∀ cs, v ≠ .tuple cs) : (store ⟨k, o, none⟩ v).run P w = .ok () (w.setCell ⟨k, o, none⟩ v) := by
  have hc : w.cell? ⟨k, o, none⟩ = some arr[o] := by simp [World.cell?, hb, ho]
  have hf : w.frozen? ⟨k, o, none⟩ = false := by
    have := hu o ho
    simp only [World.frozen?, hb]
    simpa using this
  unfold store
  cases v <;> simp_all [Sem.run]

theorem setCell_heap {w : World} {k o : Nat} {v : Value} {arr : Array Value} {t : TypeId} {fz : Nat × Nat} (hb : w.heap[k]? = some (.cells arr t fz)) :
    (w.setCell ⟨k, o, none⟩ v).heap[k]? = some (.cells (arr.setIfInBounds o v) t fz) := by
  simp [World.setCell, Array.getElem?_modify, hb]

theorem setCell_other {w : World} {k o b : Nat} {v : Value} (h : b ≠ k) : (w.setCell ⟨k, o, none⟩ v).heap[b]? = w.heap[b]? := by
  simp only [World.setCell, Array.getElem?_modify]
  rw [if_neg (fun e => h e.symm)]

theorem setCell_keep (own : Nat → Prop) {w : World} {k o : Nat} {v : Value} (h : own k) : Keep own w (w.setCell ⟨k, o, none⟩ v) :=
  ⟨rfl, ⟨rfl⟩, rfl, by simp [World.setCell], fun b _ hn => setCell_other (fun e => hn (e ▸ h))⟩

/-- The array behind so many stores from a place on. -/
def putAll (arr : Array Value) (o : Nat) : List Value → Array Value
  | [] => arr
  | v :: l => putAll (arr.setIfInBounds o v) (o + 1) l

theorem putAll_size (o : Nat) : ∀ (l : List Value) (arr : Array Value), (putAll arr o l).size = arr.size := by
  intro l
  induction l generalizing o with
  | nil => intro arr; rfl
  | cons v l ih => intro arr; simp [putAll, ih]

theorem putAll_get {arr : Array Value} {o : Nat} {l : List Value} (h : o + l.length ≤ arr.size) (j : Nat) :
    (putAll arr o l)[j]? = if o ≤ j ∧ j < o + l.length then l[j - o]? else arr[j]? := by
  induction l generalizing arr o with
  | nil => simp only [putAll, List.length_nil, Nat.add_zero]; rw [if_neg (by omega)]
  | cons v l ih =>
    simp only [List.length_cons] at h
    simp only [putAll]
    rw [ih (by simp; omega)]
    simp only [List.length_cons]
    by_cases h1 : j = o
    · subst h1
      rw [if_neg (by omega), if_pos (by omega)]
      have : j < arr.size := by omega
      simp [this]
    · by_cases h2 : o + 1 ≤ j ∧ j < o + 1 + l.length
      · rw [if_pos h2, if_pos (by omega), show j - o = (j - (o + 1)) + 1 by omega]; simp
      · rw [if_neg h2, if_neg (by omega), Array.getElem?_setIfInBounds_ne (fun e => h1 e.symm)]

def plainV (v : Value) : Prop := (∀ cs, v ≠ .agg cs) ∧ ∀ cs, v ≠ .tuple cs

theorem run_storeCells {P : Program} {k o : Nat} {t : TypeId} {fz : Nat × Nat} : ∀ (l : List Value) (i : Nat) (w : World) (arr : Array Value), w.heap[k]? = some (.cells arr t fz) →
    o + i + l.length ≤ arr.size → unfrozen fz arr.size → (∀ v, v ∈ l → plainV v) →
    ∃ w', (storeCells ⟨k, o, none⟩ l i).run P w = .ok () w' ∧ w'.heap[k]? = some (.cells (putAll arr (o + i) l) t fz) ∧ Keep (fun b => b = k) w w'
  | [], i, w, arr, hb, _, _, _ => ⟨w, rfl, hb, .refl _ _⟩
  | v :: l, i, w, arr, hb, hl, hu, hp => by
    simp only [List.length_cons] at hl
    have hv := hp v (List.mem_cons_self ..)
    have h1 := run_store (P := P) (v := v) hb (o := o + i) (by omega) hu hv.1 hv.2
    obtain ⟨w', h2, h3, h4⟩ := run_storeCells (P := P) (o := o) l (i + 1) (w.setCell ⟨k, o + i, none⟩ v) (arr.setIfInBounds (o + i) v) (setCell_heap (o := o + i) (v := v) hb) (by rw [Array.size_setIfInBounds]; omega) (by rw [Array.size_setIfInBounds]; exact hu)
      (fun u hu => hp u (List.mem_cons_of_mem _ hu))
    refine ⟨w', ?_, ?_, ?_⟩
    · simp only [storeCells, add_none]
      rw [run_then h1]; exact h2
    · rw [h3]; rfl
    · have k1 : Keep (fun b => b = k) w (w.setCell ⟨k, o + i, none⟩ v) := setCell_keep _ rfl
      exact ⟨h4.os.trans k1.os, h4.tape.trans k1.tape, h4.output.trans k1.output, Nat.le_trans k1.size h4.size, fun b hb hn => by
        rw [h4.same b (Nat.lt_of_lt_of_le hb k1.size) hn, k1.same b hb hn]⟩

/-! ### New blocks -/

def wnew (w : World) (o : Obj) : World := { w with heap := w.heap.push o }

theorem wnew_same (w : World) (o : Obj) {b : Nat} (h : b < w.heap.size) : (wnew w o).heap[b]? = w.heap[b]? := by
  simp only [wnew, Array.getElem?_push]; rw [if_neg (by omega)]
theorem wnew_new (w : World) (o : Obj) : (wnew w o).heap[w.heap.size]? = some o := by
  show (w.heap.push o)[w.heap.size]? = some o
  simp
theorem wnew_keep (own : Nat → Prop) (w : World) (cs : Array Value) (t : TypeId) : Keep own w (wnew w (.cells cs t)) := ⟨rfl, ⟨rfl⟩, rfl, by simp [wnew], fun b hb _ => wnew_same w _ hb⟩

theorem run_newRow {P : Program} (t : TypeId) (cs : Array Value) (w : World) : (newRow t cs).run P w = .ok ⟨w.heap.size, 0, none⟩ (wnew w (.cells cs t)) := by
  unfold newRow
  rw [run_then (show (newObj (.cells cs t)).run P w = .ok w.heap.size (wnew w (.cells cs t)) from rfl)]
  rfl

/-- The environment with one more name. -/
def Env.with (E : Env) (id : Nat) (s : Slot) : Env := { E with slot := fun j => if j = id then some s else E.slot j }

theorem Env.le_with {E : Env} {id : Nat} {s : Slot} (h : E.slot id = none) : E.le (E.with id s) :=
  ⟨fun j t hj => by simp only [Env.with]; rw [if_neg (fun e => by subst e; rw [h] at hj; cases hj)]; exact hj, fun _ h => h, fun _ h => h⟩
theorem Env.with_self (E : Env) (id : Nat) (s : Slot) : (E.with id s).slot id = some s := by simp [Env.with]
theorem Env.with_other {E : Env} {id j : Nat} {s : Slot} (h : j ≠ id) : (E.with id s).slot j = E.slot j := by simp [Env.with, h]

open Classical in
noncomputable def fpWith (fp : Nat → Nat → Prop) (id b : Nat) : Nat → Nat → Prop := fun j => if j = id then fun x => x = b else fp j

/-- A new block under a new name. -/
theorem EntsSat.fresh {E : Env} {w w' : World} {fp : Nat → Nat → Prop} {M : En} {id : Nat} {s : Slot} {e : Ent} (h : EntsSat E w fp M) (hid : E.slot id = none) (hs : s.blk = w.heap.size)
    (hk : Keep (fun _ => False) w w') (hz : w.heap.size < w'.heap.size) (he : EntSat (E.with id s) w' (fun b => b = w.heap.size) id e) :
    EntsSat (E.with id s) w' (fpWith fp id w.heap.size) ((id, e) :: M) ∧ Adv E fp w (E.with id s) (fpWith fp id w.heap.size) w' := by
  have hkeep : Keep (own fp) w w' := hk.mono (fun _ h => h.elim)
  have hst := h.stays hkeep
  have hsame : fpWith fp id w.heap.size id = fun x => x = w.heap.size := by simp [fpWith]
  have hother : ∀ {j}, j ≠ id → fpWith fp id w.heap.size j = fp j := fun hj => by simp [fpWith, hj]
  refine ⟨⟨fun j => ?_, fun j b hb => ?_, fun j b hb => ?_, fun j b hb => ?_, fun i j b hij hi hj => ?_, fun b hb => ?_, h.nil.mono (Env.le_with hid), h.glob hst (fun _ h => h)⟩, ⟨hkeep, Env.le_with hid, fun b hb => .inl hb, fun b hb => hb, fun j b hb => ?_⟩⟩
  · by_cases hj : j = id
    · subst hj; rw [hsame]; simpa [find] using he
    · rw [hother hj]
      have hf : find ((id, e) :: M) j = find M j := by
        have hb : Nat.beq id j = false := by rw [← Bool.not_eq_true, Nat.beq_eq]; exact fun e => hj e.symm
        simp [find, hb]
      rw [hf]
      exact (h.sat j).mono (Env.le_with hid) hst hk.size (fun b hb => hk.same b (h.lt j b hb) (fun h => h))
  · by_cases hj : j = id
    · subst hj; rw [hsame] at hb; omega
    · rw [hother hj] at hb; have := h.lt j b hb; omega
  · by_cases hj : j = id
    · subst hj; rw [hsame] at hb; intro hI; have := h.Ilt b (.inl hI); omega
    · rw [hother hj] at hb; exact h.I j b hb
  · by_cases hj : j = id
    · subst hj; rw [hsame] at hb; intro hI; have := h.Ilt b (.inr hI); omega
    · rw [hother hj] at hb; exact h.B j b hb
  · by_cases h1 : i = id <;> by_cases h2 : j = id
    · exact hij (h1.trans h2.symm)
    · subst h1; rw [hsame] at hi; rw [hother h2] at hj; have := h.lt j b hj; omega
    · subst h2; rw [hsame] at hj; rw [hother h1] at hi; have := h.lt i b hi; omega
    · rw [hother h1] at hi; rw [hother h2] at hj; exact h.apart i j b hij hi hj
  · have := h.Ilt b hb; omega
  · by_cases hj : j = id
    · subst hj; rw [hsame] at hb; exact .inr (by omega)
    · rw [hother hj] at hb; exact .inl ⟨j, hb⟩

end Go.Eng
