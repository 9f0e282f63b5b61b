/- Timer: what needs no iterator. -/
import Derived.Test.YtdgemajcplbllaaBase
import Derived.Test.YtdgemajcplbllaaRows
set_option linter.unusedVariables false
set_option linter.unusedSimpArgs false
set_option maxRecDepth 100000
namespace Go.Proofs.Ytdgemajcplbllaa
open Go.Eng


@[reducible] def fitsC : Ctr := {
  X := Int × Int
  Y := Bool
  args := fun x => [.v (.int .i64 x.1), .v (.int .i64 x.2)]
  rw := fun _ => []
  side := fun _ => True
  val := fun x => decide (1 ≤ x.1 ∧ x.1 ≤ 1000 ∧ 0 ≤ x.2 ∧ x.2 ≤ 10)
  ens := fun _ _ => True
  res := fun _ y => .v (.bool y)
  out := fun _ _ => [] }

theorem fits_ok : fitsC.ok Try.prog 38 := by
  refine ok_of_vc (An := fun _ => anOf []) (known_nil _) mo Try.func38 (by kernel_rfl) (by kernel_rfl) (fun _ _ => trivial) (fun x hs => ?_)
  obtain ⟨e, t⟩ := x
  ((repeat' ((conv => whnf) <;> first | exact True.intro | refine F1 ?_ | refine F2 ?_ | refine F3 (fun h => ?_) fun h => ?_ | refine F4 (fun h => ?_) fun h => ?_ | refine R1 ?_ | refine A1 ?_ | refine A2 ?_ | refine L1 ?_ | refine K1 ?_ | (refine Y2 fun y he he' hy => ?_; (try dsimp only at he he' hy)) | (refine Y1 fun y he hy => ?_; (try with_reducible conv at he => (rhs; whnf)); (try dsimp only at he hy)) | (refine All'.mk ?_; intro y hy) | refine Q1 ?_ | fail)); all_goals (conv => whnf))

theorem refFits_ok : fitsC.ok Try.prog 11 := by
  refine ok_of_vc (An := fun _ => anOf []) (known_nil _) mo Try.func11 (by kernel_rfl) (by kernel_rfl) (fun _ _ => trivial) (fun x hs => ?_)
  obtain ⟨e, t⟩ := x
  ((repeat' ((conv => whnf) <;> first | exact True.intro | refine F1 ?_ | refine F2 ?_ | refine F3 (fun h => ?_) fun h => ?_ | refine F4 (fun h => ?_) fun h => ?_ | refine R1 ?_ | refine A1 ?_ | refine A2 ?_ | refine L1 ?_ | refine K1 ?_ | (refine Y2 fun y he he' hy => ?_; (try dsimp only at he he' hy)) | (refine Y1 fun y he hy => ?_; (try with_reducible conv at he => (rhs; whnf)); (try dsimp only at he hy)) | (refine All'.mk ?_; intro y hy) | refine Q1 ?_ | fail)); all_goals (conv => whnf))

@[reducible] def heldC : Ctr := {
  X := Int
  Y := Int
  args := fun x => [.v (.int .i64 x)]
  rw := fun _ => []
  side := fun _ => True
  val := fun x => max 0 (min x 1152921504606846976)
  ens := fun _ _ => True
  res := fun _ y => .v (.int .i64 y)
  out := fun _ _ => [] }
theorem held_ok : heldC.ok Try.prog 39 := by
  refine ok_of_vc (An := fun _ => anOf []) (known_nil _) mo Try.func39 (by kernel_rfl) (by kernel_rfl) (fun _ _ => trivial) (fun x hs => ?_)
  ((repeat' ((conv => whnf) <;> first | exact True.intro | refine F1 ?_ | refine F2 ?_ | refine F3 (fun h => ?_) fun h => ?_ | refine F4 (fun h => ?_) fun h => ?_ | refine R1 ?_ | refine A1 ?_ | refine A2 ?_ | refine L1 ?_ | refine K1 ?_ | (refine Y2 fun y he he' hy => ?_; (try dsimp only at he he' hy)) | (refine Y1 fun y he hy => ?_; (try with_reducible conv at he => (rhs; whnf)); (try dsimp only at he hy)) | (refine All'.mk ?_; intro y hy) | refine Q1 ?_ | fail)); all_goals (conv => whnf))
theorem refHeld_ok : heldC.ok Try.prog 20 := by
  refine ok_of_vc (An := fun _ => anOf []) (known_nil _) mo Try.func20 (by kernel_rfl) (by kernel_rfl) (fun _ _ => trivial) (fun x hs => ?_)
  ((repeat' ((conv => whnf) <;> first | exact True.intro | refine F1 ?_ | refine F2 ?_ | refine F3 (fun h => ?_) fun h => ?_ | refine F4 (fun h => ?_) fun h => ?_ | refine R1 ?_ | refine A1 ?_ | refine A2 ?_ | refine L1 ?_ | refine K1 ?_ | (refine Y2 fun y he he' hy => ?_; (try dsimp only at he he' hy)) | (refine Y1 fun y he hy => ?_; (try with_reducible conv at he => (rhs; whnf)); (try dsimp only at he hy)) | (refine All'.mk ?_; intro y hy) | refine Q1 ?_ | fail)); all_goals (conv => whnf))

def waitN (e f : Int) : Int := e * 2 ^ (min f 3).toNat
theorem waitN_le {e f : Int} (h0 : 0 ≤ e) (h1 : e ≤ 1000) : 0 ≤ waitN e f ∧ waitN e f ≤ 8000 := by
  have hk : (min f 3).toNat = 0 ∨ (min f 3).toNat = 1 ∨ (min f 3).toNat = 2 ∨ (min f 3).toNat = 3 := by omega
  unfold waitN
  rcases hk with h | h | h | h <;> rw [h] <;> simp <;> omega
theorem waitN_0 (e f : Int) (h : f = 0) : waitN e f = e := by
  have : (min f 3).toNat = 0 := by omega
  unfold waitN; rw [this]; omega
theorem waitN_1 (e f : Int) (h : f = 1) : waitN e f = 2 * e := by
  have : (min f 3).toNat = 1 := by omega
  unfold waitN; rw [this]; omega
theorem waitN_2 (e f : Int) (h : f = 2) : waitN e f = 4 * e := by
  have : (min f 3).toNat = 2 := by omega
  unfold waitN; rw [this]; omega
theorem waitN_3 (e f : Int) (h : 3 ≤ f) : waitN e f = 8 * e := by
  have : (min f 3).toNat = 3 := by omega
  unfold waitN; rw [this]; omega
theorem waitN_zero (e : Int) : waitN e 0 = e := waitN_0 e 0 rfl

@[reducible] def waitC : Ctr := {
  X := Int × Int
  Y := Int
  args := fun x => [.v (.int .i64 x.1), .v (.int .i64 x.2)]
  rw := fun _ => []
  side := fun x => 0 ≤ x.1 ∧ x.1 ≤ 1000 ∧ 0 ≤ x.2
  val := fun x => waitN x.1 x.2
  ens := fun _ _ => True
  res := fun _ y => .v (.int .i64 y)
  out := fun _ _ => [] }
theorem waitN_min (e f : Int) : e * 2 ^ min (min f 3).toNat IntKind.i64.bits = waitN e f := by
  have : min (min f 3).toNat IntKind.i64.bits = (min f 3).toNat := by
    show min (min f 3).toNat 64 = (min f 3).toNat
    omega
  rw [this]; rfl
theorem wait_ok : waitC.ok Try.prog 40 := by
  refine ok_of_vc (An := fun _ => anOf []) (known_nil _) mo Try.func40 (by kernel_rfl) (by kernel_rfl) (fun _ _ => trivial) (fun x hs => ?_)
  obtain ⟨e, f⟩ := x
  have hs' : 0 ≤ e ∧ e ≤ 1000 ∧ 0 ≤ f := hs
  obtain ⟨h0, h1, h2⟩ := hs'
  have hw := waitN_le (f := f) h0 h1
  have hm := waitN_min e f
  ((repeat' ((conv => whnf) <;> first | exact True.intro | refine F1 ?_ | refine F2 ?_ | refine F3 (fun h => ?_) fun h => ?_ | refine F4 (fun h => ?_) fun h => ?_ | refine R1 ?_ | refine A1 ?_ | refine A2 ?_ | refine L1 ?_ | refine K1 ?_ | (refine Y2 fun y he he' hy => ?_; (try dsimp only at he he' hy)) | (refine Y1 fun y he hy => ?_; (try with_reducible conv at he => (rhs; whnf)); (try dsimp only at he hy)) | (refine All'.mk ?_; intro y hy) | refine Q1 ?_ | fail)); all_goals (conv => whnf))

theorem refWait_ok : waitC.ok Try.prog 13 := by
  refine ok_of_vc (An := fun _ => anOf []) (known_nil _) mo Try.func13 (by kernel_rfl) (by kernel_rfl) (fun _ _ => trivial) (fun x hs => ?_)
  obtain ⟨e, f⟩ := x
  have hs' : 0 ≤ e ∧ e ≤ 1000 ∧ 0 ≤ f := hs
  obtain ⟨h0, h1, h2⟩ := hs'
  have hw := waitN_le (f := f) h0 h1
  have hm := waitN_min e f
  have h3 : f = 0 → waitN e f = e := waitN_0 e f
  have h4 : f = 1 → waitN e f = 2 * e := waitN_1 e f
  have h5 : f = 2 → waitN e f = 4 * e := waitN_2 e f
  have h6 : 3 ≤ f → waitN e f = 8 * e := waitN_3 e f
  ((repeat' ((conv => whnf) <;> first | exact True.intro | refine F1 ?_ | refine F2 ?_ | refine F3 (fun h => ?_) fun h => ?_ | refine F4 (fun h => ?_) fun h => ?_ | refine R1 ?_ | refine A1 ?_ | refine A2 ?_ | refine L1 ?_ | refine K1 ?_ | (refine Y2 fun y he he' hy => ?_; (try dsimp only at he he' hy)) | (refine Y1 fun y he hy => ?_; (try with_reducible conv at he => (rhs; whnf)); (try dsimp only at he hy)) | (refine All'.mk ?_; intro y hy) | refine Q1 ?_ | fail)); all_goals (conv => whnf))

/-- A timer. -/
structure Tmr where
  every : Int
  tries : Int
  fired : Int
  due : Int
  runs : Bool

@[reducible] def tmr (t : Tmr) : Ent := .cells 65 [.v (.int .i64 t.every), .v (.int .i64 t.tries), .v (.int .i64 t.fired), .v (.int .i64 t.due), .v (.bool t.runs)]
@[reducible] def tmrA (t : Option Tmr) : SV := match t with | some _ => .ptr 0 0 | none => .v (.pointer none)
@[reducible] def tmrM (t : Option Tmr) : En := match t with | some t => [(0, tmr t)] | none => []

theorem known0 : Known Try.prog (gOf [(38, fitsC), (39, heldC), (40, waitC)]) :=
  known_cons ⟨fits_ok, Try.call38⟩ (known_cons ⟨held_ok, Try.call39⟩ (known_cons ⟨wait_ok, Try.call40⟩ (known_nil _)))

@[reducible] def firedC : Ctr := {
  X := Option Tmr
  Y := Int
  args := fun x => [tmrA x]
  rw := fun x => tmrM x
  side := fun _ => True
  val := fun x => match x with | some t => t.fired | none => 0
  ens := fun _ _ => True
  res := fun _ y => .v (.int .i64 y)
  out := fun x _ => tmrM x }
theorem fired_ok : firedC.ok Try.prog 17 := by
  refine ok_of_vc (An := fun _ => anOf []) (known0) mo Try.func17 (by kernel_rfl) (by kernel_rfl) (fun _ _ => trivial) (fun x hs => ?_)
  cases x
  · ((repeat' ((conv => whnf) <;> first | exact True.intro | refine F1 ?_ | refine F2 ?_ | refine F3 (fun h => ?_) fun h => ?_ | refine F4 (fun h => ?_) fun h => ?_ | refine R1 ?_ | refine A1 ?_ | refine A2 ?_ | refine L1 ?_ | refine K1 ?_ | (refine Y2 fun y he he' hy => ?_; (try dsimp only at he he' hy)) | (refine Y1 fun y he hy => ?_; (try with_reducible conv at he => (rhs; whnf)); (try dsimp only at he hy)) | (refine All'.mk ?_; intro y hy) | refine Q1 ?_ | fail)); all_goals (conv => whnf))
  · ((repeat' ((conv => whnf) <;> first | exact True.intro | refine F1 ?_ | refine F2 ?_ | refine F3 (fun h => ?_) fun h => ?_ | refine F4 (fun h => ?_) fun h => ?_ | refine R1 ?_ | refine A1 ?_ | refine A2 ?_ | refine L1 ?_ | refine K1 ?_ | (refine Y2 fun y he he' hy => ?_; (try dsimp only at he he' hy)) | (refine Y1 fun y he hy => ?_; (try with_reducible conv at he => (rhs; whnf)); (try dsimp only at he hy)) | (refine All'.mk ?_; intro y hy) | refine Q1 ?_ | fail)); all_goals (conv => whnf))

@[reducible] def stopC : Ctr := {
  X := Option Tmr
  Y := Unit
  args := fun x => [tmrA x]
  rw := fun x => tmrM x
  side := fun _ => True
  val := fun x => ()
  ens := fun _ _ => True
  res := fun _ y => .tuple []
  out := fun x _ => tmrM (match x with | some t => some { t with runs := false } | none => none) }
theorem stop_ok : stopC.ok Try.prog 18 := by
  refine ok_of_vc (An := fun _ => anOf []) (known0) mo Try.func18 (by kernel_rfl) (by kernel_rfl) (fun _ _ => trivial) (fun x hs => ?_)
  cases x
  · ((repeat' ((conv => whnf) <;> first | exact True.intro | refine F1 ?_ | refine F2 ?_ | refine F3 (fun h => ?_) fun h => ?_ | refine F4 (fun h => ?_) fun h => ?_ | refine R1 ?_ | refine A1 ?_ | refine A2 ?_ | refine L1 ?_ | refine K1 ?_ | (refine Y2 fun y he he' hy => ?_; (try dsimp only at he he' hy)) | (refine Y1 fun y he hy => ?_; (try with_reducible conv at he => (rhs; whnf)); (try dsimp only at he hy)) | (refine All'.mk ?_; intro y hy) | refine Q1 ?_ | fail)); all_goals (conv => whnf))
  · ((repeat' ((conv => whnf) <;> first | exact True.intro | refine F1 ?_ | refine F2 ?_ | refine F3 (fun h => ?_) fun h => ?_ | refine F4 (fun h => ?_) fun h => ?_ | refine R1 ?_ | refine A1 ?_ | refine A2 ?_ | refine L1 ?_ | refine K1 ?_ | (refine Y2 fun y he he' hy => ?_; (try dsimp only at he he' hy)) | (refine Y1 fun y he hy => ?_; (try with_reducible conv at he => (rhs; whnf)); (try dsimp only at he hy)) | (refine All'.mk ?_; intro y hy) | refine Q1 ?_ | fail)); all_goals (conv => whnf))

@[reducible] def dueC : Ctr := {
  X := Option Tmr
  Y := Int × Bool
  args := fun x => [tmrA x]
  rw := fun x => tmrM x
  side := fun _ => True
  val := fun x => match x with | some t => (if t.runs then t.due else 0, t.runs) | none => (0, false)
  ens := fun _ _ => True
  res := fun _ y => .tuple [.v (.int .i64 y.1), .v (.bool y.2)]
  out := fun x _ => tmrM x }
theorem due_ok : dueC.ok Try.prog 19 := by
  refine ok_of_vc (An := fun _ => anOf []) (known0) mo Try.func19 (by kernel_rfl) (by kernel_rfl) (fun _ _ => trivial) (fun x hs => ?_)
  cases x
  · ((repeat' ((conv => whnf) <;> first | exact True.intro | refine F1 ?_ | refine F2 ?_ | refine F3 (fun h => ?_) fun h => ?_ | refine F4 (fun h => ?_) fun h => ?_ | refine R1 ?_ | refine A1 ?_ | refine A2 ?_ | refine L1 ?_ | refine K1 ?_ | (refine Y2 fun y he he' hy => ?_; (try dsimp only at he he' hy)) | (refine Y1 fun y he hy => ?_; (try with_reducible conv at he => (rhs; whnf)); (try dsimp only at he hy)) | (refine All'.mk ?_; intro y hy) | refine Q1 ?_ | fail)); all_goals (conv => whnf))
  · ((repeat' ((conv => whnf) <;> first | exact True.intro | refine F1 ?_ | refine F2 ?_ | refine F3 (fun h => ?_) fun h => ?_ | refine F4 (fun h => ?_) fun h => ?_ | refine R1 ?_ | refine A1 ?_ | refine A2 ?_ | refine L1 ?_ | refine K1 ?_ | (refine Y2 fun y he he' hy => ?_; (try dsimp only at he he' hy)) | (refine Y1 fun y he hy => ?_; (try with_reducible conv at he => (rhs; whnf)); (try dsimp only at he hy)) | (refine All'.mk ?_; intro y hy) | refine Q1 ?_ | fail)); all_goals (conv => whnf))

@[reducible] def startC : Ctr := {
  X := Option Tmr × Int
  Y := Unit
  args := fun x => [tmrA x.1, .v (.int .i64 x.2)]
  rw := fun x => tmrM x.1
  side := fun x => ∀ t, x.1 = some t → 0 ≤ t.every ∧ t.every ≤ 1000
  val := fun x => ()
  ens := fun _ _ => True
  res := fun _ y => .tuple []
  out := fun x _ => tmrM (match x.1 with | some t => some { t with runs := true, fired := 0, due := max 0 (min x.2 1152921504606846976) + t.every } | none => none) }
theorem start_ok : startC.ok Try.prog 15 := by
  refine ok_of_vc (An := fun _ => anOf []) (known0) mo Try.func15 (by kernel_rfl) (by kernel_rfl) (fun _ _ => trivial) (fun x hs => ?_)
  obtain ⟨t, now⟩ := x
  cases t
  · ((repeat' ((conv => whnf) <;> first | exact True.intro | refine F1 ?_ | refine F2 ?_ | refine F3 (fun h => ?_) fun h => ?_ | refine F4 (fun h => ?_) fun h => ?_ | refine R1 ?_ | refine A1 ?_ | refine A2 ?_ | refine L1 ?_ | refine K1 ?_ | (refine Y2 fun y he he' hy => ?_; (try dsimp only at he he' hy)) | (refine Y1 fun y he hy => ?_; (try with_reducible conv at he => (rhs; whnf)); (try dsimp only at he hy)) | (refine All'.mk ?_; intro y hy) | refine Q1 ?_ | fail)); all_goals (conv => whnf))
  · rename_i t
    have ht := hs t rfl
    have hz := waitN_zero t.every
    ((repeat' ((conv => whnf) <;> first | exact True.intro | refine F1 ?_ | refine F2 ?_ | refine F3 (fun h => ?_) fun h => ?_ | refine F4 (fun h => ?_) fun h => ?_ | refine R1 ?_ | refine A1 ?_ | refine A2 ?_ | refine L1 ?_ | refine K1 ?_ | (refine Y2 fun y he he' hy => ?_; (try dsimp only at he he' hy)) | (refine Y1 fun y he hy => ?_; (try with_reducible conv at he => (rhs; whnf)); (try dsimp only at he hy)) | (refine All'.mk ?_; intro y hy) | refine Q1 ?_ | fail)); all_goals (conv => whnf))
    refine CallP.mk (C := heldC) (now : Int) ?_
    ((repeat' ((conv => whnf) <;> first | exact True.intro | refine F1 ?_ | refine F2 ?_ | refine F3 (fun h => ?_) fun h => ?_ | refine F4 (fun h => ?_) fun h => ?_ | refine R1 ?_ | refine A1 ?_ | refine A2 ?_ | refine L1 ?_ | refine K1 ?_ | (refine Y2 fun y he he' hy => ?_; (try dsimp only at he he' hy)) | (refine Y1 fun y he hy => ?_; (try with_reducible conv at he => (rhs; whnf)); (try dsimp only at he hy)) | (refine All'.mk ?_; intro y hy) | refine Q1 ?_ | fail)); all_goals (conv => whnf))
    refine CallP.mk (C := waitC) (t.every, (0 : Int)) ?_
    ((repeat' ((conv => whnf) <;> first | exact True.intro | refine F1 ?_ | refine F2 ?_ | refine F3 (fun h => ?_) fun h => ?_ | refine F4 (fun h => ?_) fun h => ?_ | refine R1 ?_ | refine A1 ?_ | refine A2 ?_ | refine L1 ?_ | refine K1 ?_ | (refine Y2 fun y he he' hy => ?_; (try dsimp only at he he' hy)) | (refine Y1 fun y he hy => ?_; (try with_reducible conv at he => (rhs; whnf)); (try dsimp only at he hy)) | (refine All'.mk ?_; intro y hy) | refine Q1 ?_ | fail)); all_goals (conv => whnf))

/-- What a tick does. -/
def tick (t : Tmr) (now : Int) : Tmr × Int :=
  if t.runs = false ∨ max 0 (min now 1152921504606846976) < t.due then (t, 0)
  else if t.fired = t.tries then ({ t with runs := false }, 2)
  else ({ t with fired := t.fired + 1, due := max 0 (min now 1152921504606846976) + waitN t.every (t.fired + 1) }, 1)

@[reducible] def tickC : Ctr := {
  X := Option Tmr × Int
  Y := Int
  args := fun x => [tmrA x.1, .v (.int .i64 x.2)]
  rw := fun x => tmrM x.1
  side := fun x => ∀ t, x.1 = some t → 0 ≤ t.every ∧ t.every ≤ 1000 ∧ 0 ≤ t.fired ∧ t.fired ≤ t.tries ∧ t.tries ≤ 10
  val := fun x => match x.1 with | some t => (tick t x.2).2 | none => 0
  ens := fun _ _ => True
  res := fun _ y => .v (.int .i64 y)
  out := fun x _ => match x.1 with | some t => [(0, tmr (tick t x.2).1)] | none => [] }
theorem tick_ok : tickC.ok Try.prog 16 := by
  refine ok_of_vc (An := fun _ => anOf []) (known0) mo Try.func16 (by kernel_rfl) (by kernel_rfl) (fun _ _ => trivial) (fun x hs => ?_)
  obtain ⟨t, now⟩ := x
  cases t
  · ((repeat' ((conv => whnf) <;> first | exact True.intro | refine F1 ?_ | refine F2 ?_ | refine F3 (fun h => ?_) fun h => ?_ | refine F4 (fun h => ?_) fun h => ?_ | refine R1 ?_ | refine A1 ?_ | refine A2 ?_ | refine L1 ?_ | refine K1 ?_ | (refine Y2 fun y he he' hy => ?_; (try dsimp only at he he' hy)) | (refine Y1 fun y he hy => ?_; (try with_reducible conv at he => (rhs; whnf)); (try dsimp only at he hy)) | (refine All'.mk ?_; intro y hy) | refine Q1 ?_ | fail)); all_goals (conv => whnf))
  · rename_i t
    have ht := hs t rfl
    have hw := waitN_le (e := t.every) (f := t.fired + 1) ht.1 ht.2.1
    ((repeat' ((conv => whnf) <;> first | exact True.intro | refine F1 ?_ | refine F2 ?_ | refine F3 (fun h => ?_) fun h => ?_ | refine F4 (fun h => ?_) fun h => ?_ | refine R1 ?_ | refine A1 ?_ | refine A2 ?_ | refine L1 ?_ | refine K1 ?_ | (refine Y2 fun y he he' hy => ?_; (try dsimp only at he he' hy)) | (refine Y1 fun y he hy => ?_; (try with_reducible conv at he => (rhs; whnf)); (try dsimp only at he hy)) | (refine All'.mk ?_; intro y hy) | refine Q1 ?_ | fail)); all_goals (conv => whnf))
    · (refine AskL.mk ?_ trivial; simp only [conj, tick]; (repeat' split) <;> simp_all <;> omega)
    · refine CallP.mk (C := heldC) (now : Int) ?_
      ((repeat' ((conv => whnf) <;> first | exact True.intro | refine F1 ?_ | refine F2 ?_ | refine F3 (fun h => ?_) fun h => ?_ | refine F4 (fun h => ?_) fun h => ?_ | refine R1 ?_ | refine A1 ?_ | refine A2 ?_ | refine L1 ?_ | refine K1 ?_ | (refine Y2 fun y he he' hy => ?_; (try dsimp only at he he' hy)) | (refine Y1 fun y he hy => ?_; (try with_reducible conv at he => (rhs; whnf)); (try dsimp only at he hy)) | (refine All'.mk ?_; intro y hy) | refine Q1 ?_ | fail)); all_goals (conv => whnf))
      · (refine AskL.mk ?_ trivial; simp only [conj, tick]; (repeat' split) <;> simp_all <;> omega)
      · (refine AskL.mk ?_ trivial; simp only [conj, tick]; (repeat' split) <;> simp_all <;> omega)
      · refine CallP.mk (C := heldC) (now : Int) ?_
        ((repeat' ((conv => whnf) <;> first | exact True.intro | refine F1 ?_ | refine F2 ?_ | refine F3 (fun h => ?_) fun h => ?_ | refine F4 (fun h => ?_) fun h => ?_ | refine R1 ?_ | refine A1 ?_ | refine A2 ?_ | refine L1 ?_ | refine K1 ?_ | (refine Y2 fun y he he' hy => ?_; (try dsimp only at he he' hy)) | (refine Y1 fun y he hy => ?_; (try with_reducible conv at he => (rhs; whnf)); (try dsimp only at he hy)) | (refine All'.mk ?_; intro y hy) | refine Q1 ?_ | fail)); all_goals (conv => whnf))
        refine CallP.mk (C := waitC) (t.every, t.fired + 1) ?_
        ((repeat' ((conv => whnf) <;> first | exact True.intro | refine F1 ?_ | refine F2 ?_ | refine F3 (fun h => ?_) fun h => ?_ | refine F4 (fun h => ?_) fun h => ?_ | refine R1 ?_ | refine A1 ?_ | refine A2 ?_ | refine L1 ?_ | refine K1 ?_ | (refine Y2 fun y he he' hy => ?_; (try dsimp only at he he' hy)) | (refine Y1 fun y he hy => ?_; (try with_reducible conv at he => (rhs; whnf)); (try dsimp only at he hy)) | (refine All'.mk ?_; intro y hy) | refine Q1 ?_ | fail)); all_goals (conv => whnf))
        (refine AskL.mk ?_ trivial; simp only [conj, tick]; (repeat' split) <;> simp_all <;> omega)

@[reducible] def newC : Ctr := {
  X := Int × Int × Bool
  Y := Unit
  args := fun x => [.v (.int .i64 x.1), .v (.int .i64 x.2.1)]
  rw := fun x => []
  side := fun x => x.2.2 = decide (1 ≤ x.1 ∧ x.1 ≤ 1000 ∧ 0 ≤ x.2.1 ∧ x.2.1 ≤ 10)
  val := fun _ => ()
  ens := fun _ _ => True
  res := fun x _ => match x.2.2 with | true => .tuple [.ptr 1000 0, .v (.int .i64 0)] | false => .tuple [.v (.pointer none), .v (.int .i64 2)]
  out := fun x _ => match x.2.2 with | true => [(1000, tmr ⟨x.1, x.2.1, 0, 0, false⟩)] | false => [] }
theorem new_ok : newC.ok Try.prog 14 := by
  refine ok_of_vc (An := fun _ => anOf []) (known0) mo Try.func14 (by kernel_rfl) (by kernel_rfl) (fun _ _ => trivial) (fun x hs => ?_)
  obtain ⟨e, t, b⟩ := x
  have hb : b = decide (1 ≤ e ∧ e ≤ 1000 ∧ 0 ≤ t ∧ t ≤ 10) := hs
  cases b
  · have hb := hb.symm
    ((repeat' ((conv => whnf) <;> first | exact True.intro | refine F1 ?_ | refine F2 ?_ | refine F3 (fun h => ?_) fun h => ?_ | refine F4 (fun h => ?_) fun h => ?_ | refine R1 ?_ | refine A1 ?_ | refine A2 ?_ | refine L1 ?_ | refine K1 ?_ | (refine Y2 fun y he he' hy => ?_; (try dsimp only at he he' hy)) | (refine Y1 fun y he hy => ?_; (try with_reducible conv at he => (rhs; whnf)); (try dsimp only at he hy)) | (refine All'.mk ?_; intro y hy) | refine Q1 ?_ | fail)); all_goals (conv => whnf))
    refine CallP.mk (C := fitsC) (e, t) ?_
    ((repeat' ((conv => whnf) <;> first | exact True.intro | refine F1 ?_ | refine F2 ?_ | refine F3 (fun h => ?_) fun h => ?_ | refine F4 (fun h => ?_) fun h => ?_ | refine R1 ?_ | refine A1 ?_ | refine A2 ?_ | refine L1 ?_ | refine K1 ?_ | (refine Y2 fun y he he' hy => ?_; (try dsimp only at he he' hy)) | (refine Y1 fun y he hy => ?_; (try with_reducible conv at he => (rhs; whnf)); (try dsimp only at he hy)) | (refine All'.mk ?_; intro y hy) | refine Q1 ?_ | fail)); all_goals (conv => whnf))
  · have hb := hb.symm
    ((repeat' ((conv => whnf) <;> first | exact True.intro | refine F1 ?_ | refine F2 ?_ | refine F3 (fun h => ?_) fun h => ?_ | refine F4 (fun h => ?_) fun h => ?_ | refine R1 ?_ | refine A1 ?_ | refine A2 ?_ | refine L1 ?_ | refine K1 ?_ | (refine Y2 fun y he he' hy => ?_; (try dsimp only at he he' hy)) | (refine Y1 fun y he hy => ?_; (try with_reducible conv at he => (rhs; whnf)); (try dsimp only at he hy)) | (refine All'.mk ?_; intro y hy) | refine Q1 ?_ | fail)); all_goals (conv => whnf))
    refine CallP.mk (C := fitsC) (e, t) ?_
    ((repeat' ((conv => whnf) <;> first | exact True.intro | refine F1 ?_ | refine F2 ?_ | refine F3 (fun h => ?_) fun h => ?_ | refine F4 (fun h => ?_) fun h => ?_ | refine R1 ?_ | refine A1 ?_ | refine A2 ?_ | refine L1 ?_ | refine K1 ?_ | (refine Y2 fun y he he' hy => ?_; (try dsimp only at he he' hy)) | (refine Y1 fun y he hy => ?_; (try with_reducible conv at he => (rhs; whnf)); (try dsimp only at he hy)) | (refine All'.mk ?_; intro y hy) | refine Q1 ?_ | fail)); all_goals (conv => whnf))

/-- The reference's timer. -/
@[reducible] def rtmr (t : Tmr) : Ent := .cells 42 [.v (.int .i64 t.every), .v (.int .i64 t.tries), .v (.int .i64 t.fired), .v (.int .i64 t.due), .v (.bool t.runs)]
theorem known1 : Known Try.prog (gOf [(13, waitC), (20, heldC)]) :=
  known_cons ⟨refWait_ok, Try.call13⟩ (known_cons ⟨refHeld_ok, Try.call20⟩ (known_nil _))
@[reducible] def rtickC : Ctr := {
  X := Tmr × Int
  Y := Int
  args := fun x => [.ptr 0 0, .v (.int .i64 x.2)]
  rw := fun x => [(0, rtmr x.1)]
  side := fun x => 0 ≤ x.1.every ∧ x.1.every ≤ 1000 ∧ 0 ≤ x.1.fired ∧ x.1.fired ≤ x.1.tries ∧ x.1.tries ≤ 10
  val := fun x => (tick x.1 x.2).2
  ens := fun _ _ => True
  res := fun _ y => .v (.int .i64 y)
  out := fun x _ => [(0, rtmr (tick x.1 x.2).1)] }
theorem rtick_ok : rtickC.ok Try.prog 21 := by
  refine ok_of_vc (An := fun _ => anOf []) (known1) mo Try.func21 (by kernel_rfl) (by kernel_rfl) (fun _ _ => trivial) (fun x hs => ?_)
  obtain ⟨t, now⟩ := x
  have ht : 0 ≤ t.every ∧ t.every ≤ 1000 ∧ 0 ≤ t.fired ∧ t.fired ≤ t.tries ∧ t.tries ≤ 10 := hs
  have hw := waitN_le (e := t.every) (f := t.fired + 1) ht.1 ht.2.1
  ((repeat' ((conv => whnf) <;> first | exact True.intro | refine F1 ?_ | refine F2 ?_ | refine F3 (fun h => ?_) fun h => ?_ | refine F4 (fun h => ?_) fun h => ?_ | refine R1 ?_ | refine A1 ?_ | refine A2 ?_ | refine L1 ?_ | refine K1 ?_ | (refine Y2 fun y he he' hy => ?_; (try dsimp only at he he' hy)) | (refine Y1 fun y he hy => ?_; (try with_reducible conv at he => (rhs; whnf)); (try dsimp only at he hy)) | (refine All'.mk ?_; intro y hy) | refine Q1 ?_ | fail)); all_goals (conv => whnf))
  refine CallP.mk (C := heldC) (now : Int) ?_
  ((repeat' ((conv => whnf) <;> first | exact True.intro | refine F1 ?_ | refine F2 ?_ | refine F3 (fun h => ?_) fun h => ?_ | refine F4 (fun h => ?_) fun h => ?_ | refine R1 ?_ | refine A1 ?_ | refine A2 ?_ | refine L1 ?_ | refine K1 ?_ | (refine Y2 fun y he he' hy => ?_; (try dsimp only at he he' hy)) | (refine Y1 fun y he hy => ?_; (try with_reducible conv at he => (rhs; whnf)); (try dsimp only at he hy)) | (refine All'.mk ?_; intro y hy) | refine Q1 ?_ | fail)); all_goals (conv => whnf))
  · (refine AskL.mk ?_ trivial; simp only [conj, tick]; (repeat' split) <;> simp_all <;> omega)
  · (refine AskL.mk ?_ trivial; simp only [conj, tick]; (repeat' split) <;> simp_all <;> omega)
  · (refine AskL.mk ?_ trivial; simp only [conj, tick]; (repeat' split) <;> simp_all <;> omega)
  · refine CallP.mk (C := waitC) (t.every, t.fired + 1) ?_
    ((repeat' ((conv => whnf) <;> first | exact True.intro | refine F1 ?_ | refine F2 ?_ | refine F3 (fun h => ?_) fun h => ?_ | refine F4 (fun h => ?_) fun h => ?_ | refine R1 ?_ | refine A1 ?_ | refine A2 ?_ | refine L1 ?_ | refine K1 ?_ | (refine Y2 fun y he he' hy => ?_; (try dsimp only at he he' hy)) | (refine Y1 fun y he hy => ?_; (try with_reducible conv at he => (rhs; whnf)); (try dsimp only at he hy)) | (refine All'.mk ?_; intro y hy) | refine Q1 ?_ | fail)); all_goals (conv => whnf))
    (refine AskL.mk ?_ trivial; simp only [conj, tick]; (repeat' split) <;> simp_all <;> omega)
end Go.Proofs.Ytdgemajcplbllaa
