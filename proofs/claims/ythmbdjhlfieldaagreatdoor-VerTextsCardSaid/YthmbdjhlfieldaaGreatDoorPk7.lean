/- Parts of the proof, one behind the other (Frz, EyeB, Shelf, EngV, LibA, LibB, LibJ, TxtA, EyeC, DotA, DotB). -/
import Derived.Test.YthmbdjhlfieldaaGreatDoorPk6
import Derived.Shelf.Strings.Builder1
import Derived.Shelf.Strings.Builder2
import Derived.Shelf.Strings.OnBuilder
import Derived.Shelf.Small.Strs
import Derived.Shelf.Strconv.Atoi
import Derived.Shelf.Strconv.Itoa0
import Derived.Shelf.Strconv.Itoa1
import Derived.Shelf.LaysM
import Derived.Shelf.Strconv.Itoa2
import Derived.Shelf.Strconv.Itoa3
import Derived.Shelf.Strconv.AtoiErrFast
import Derived.Shelf.Strconv.ParseIntEmpty
import Derived.Shelf.Strconv.AtoiFail
import Derived.Shelf.Strconv.Clone
import Derived.Shelf.Strconv.SyntaxError
import Derived.Shelf.LaysC
import Derived.Shelf.Strconv.ToError
import Derived.Shelf.Strconv.Lower
import Derived.Shelf.Strconv.ParseUint10
import Derived.Shelf.Strconv.ParseUint10Empty
import Derived.Shelf.Strconv.ParseUint10Any
import Derived.Shelf.Strconv.ParseInt10
import Derived.Shelf.Strconv.AtoiLong
import Derived.Shelf.Strconv.AtoiInnerAll
import Derived.Shelf.Strconv.RangeError
import Derived.Shelf.Strconv.ToErrorRange
import Derived.Shelf.Strconv.AtoiAll
import Derived.Shelf.Strings.Search1
import Derived.Shelf.Strings.Search2
import Derived.Shelf.Strings.Search3
import Derived.Shelf.Strings.Cut
import Derived.Shelf.Strings.Count
import Derived.Shelf.Strings.Shaped
import Derived.Shelf.Strings.Split
import Derived.Shelf.Strings.SplitShaped
import Derived.Shelf.Unicode.DecodeSlow
import Derived.Test.YthmbdjhlfieldaaGreatDoorChecked
import Derived.Lib.LaidTab
import Derived.RowKit3
import Derived.Below
import Derived.Sort.Grow
import Derived.Deep.Draws
import Derived.Lib.ItoaMem
import Derived.WalkKit
import Derived.BigCall
import Derived.BigGuard
import Derived.Shelf.Strings.Prefix
import Derived.Lib.AtoiErrMem
import Derived.Lib.SplitLaws
import Derived.RangeFuncRecord
set_option linter.unusedVariables false
set_option linter.unusedSimpArgs false
set_option linter.unusedSectionVars false
set_option linter.unusedVariables false
set_option linter.unusedSimpArgs false
set_option linter.unusedSectionVars false
namespace Go.Proofs.YthmbdjhlfieldaaGreatDoor
open Go.Eng
variable [DM]
theorem row_ro {E : Env} {w : World} {fp : Nat → Prop} {id : Nat} {te : TypeId} {t : Ty} {xs : List t.den} {s : Slot} {E' : Env} (hle : E.le E')
    (h : EntSat E w fp id (.row te t xs)) (hs : E.slot id = some s) (hI : ∀ b, fp b → E'.I b) : Sat E' w (.ro false t xs) s.val := by
  obtain ⟨s', h1, h2⟩ := h
  obtain rfl : s' = s := Option.some.inj (h1.symm.trans hs)
  rcases h2 with ⟨h2, rfl, -⟩ | ⟨o, c, arr, fz, g1, g2, g3, g4, g5, g6, g7⟩
  · rw [h2]; exact .nil _ _ _ _
  · rw [g1]
    have hin : ∀ m, m < xs.length * t.size → o + m < arr.size := fun m hm => by
      have : xs.length * t.size ≤ c * t.size := Nat.mul_le_mul_right _ g5
      omega
    refine .ro false t xs s'.blk o c (fun m => arr.getD (o + m) undef) (.inl (hI _ ((g2 _).2 rfl))) g5 (fun m hm => ?_) (fun i x j sv hi hj => ?_)
    · have := hin m hm
      simp [World.cell?, g3, Array.getD, this]
    · obtain ⟨u, hu, hsat⟩ := g7 i x j sv hi hj
      have e : o + (i * t.size + j) = o + i * t.size + j := by omega
      have h9 : arr.getD (o + (i * t.size + j)) undef = u := by
        rw [e]
        have h8 := (Array.getElem?_eq_some_iff.1 hu)
        obtain ⟨h8, h9⟩ := h8
        simp [Array.getD, h8, h9]
      rw [h9]
      exact hsat.mono hle (fun _ _ _ => rfl)

theorem ctr_freeze {P : Program} {f : FuncId} {C : Ctr} {te : TypeId} {ty : Ty} {xs : C.X → List ty.den} (hr : ∀ x, C.res x (C.val x) = .sl 1000) (ho : ∀ x, C.out x (C.val x) = [(1000, .row te ty (xs x))])
    (h : C.ok P f) : ({ C with res := fun x _ => .ro false ty (xs x), out := fun _ _ => [] } : Ctr).ok P f := by
  intro x hs
  obtain ⟨he, H⟩ := h x hs
  refine ⟨he, fun E fp vals w h1 h2 h3 h4 => CallsIn.mono (H E fp vals w h1 h2 h3 h4) ?_⟩
  rintro e w' ⟨v, E', fp', rfl, hv, hents, hadv, hn⟩
  rw [hr] at hv
  rw [ho] at hents
  have hrow : EntSat E' w' (fp' 1000) 1000 (.row te ty (xs x)) := hents.sat 1000
  let E2 : Env := { E' with I := fun b => E'.I b ∨ fp' 1000 b }
  have hle : E'.le E2 := ⟨fun _ _ h => h, fun _ h => .inl h, fun _ h => h⟩
  refine ⟨v, E2, fun _ _ => False, rfl, ?_, ⟨fun id => fun b h => h, fun _ _ h => h.elim, fun _ _ h => h.elim, fun _ _ h => h.elim, fun _ _ _ _ h => h.elim, fun b hb => ?_, hents.nil.mono hle, hents.gl.mono (fun b hb => .inl hb) (fun _ _ => rfl)⟩, ⟨hadv.keep, hadv.le.trans hle, fun b hb => ?_, hadv.Beq, fun _ _ h => h.elim⟩, hn⟩
  · cases hv with
    | sl _ s hs => exact row_ro hle hrow hs (fun b hb => .inr hb)
  · rcases hb with (hb | hb) | hb
    · exact hents.Ilt b (.inl hb)
    · exact hents.lt _ b hb
    · exact hents.Ilt b (.inr hb)
  · rcases hb with hb | hb
    · exact hadv.Inew b hb
    · exact .inr (hadv.onew _ b hb)
end Go.Proofs.YthmbdjhlfieldaaGreatDoor

set_option linter.unusedVariables false
set_option linter.unusedSimpArgs false
set_option maxRecDepth 100000
set_option maxHeartbeats 4000000
namespace Go.Proofs.YthmbdjhlfieldaaGreatDoor
open Go.Eng
variable [DM]
set_option linter.unusedSectionVars false
@[reducible] def cloneFC : Ctr := { cloneBC with res := fun x _ => .ro false (.int .u8) x, out := fun _ _ => [] }
theorem cloneF_ok : cloneFC.ok Tryz.prog 63 := ctr_freeze (C := cloneBC) (fun _ => rfl) (fun _ => rfl) cloneB_ok
/-- An eye's memory: the bytes that are left, the error. -/
@[reducible] def eyeE (j : Nat) (l : List Int) (e : Int) : En := [(j, .cells 103 [.ro false (.int .u8) l, .v (.int .i64 e)])]
@[reducible] def readC : Ctr := {
  X := List Int
  Y := Unit
  args := fun x => [.ro true (.int .u8) x]
  rw := fun _ => []
  side := fun x => x.length ≤ 274877906944
  val := fun _ => ()
  ens := fun _ _ => True
  res := fun _ _ => .ptr 1000 0
  out := fun x _ => eyeE 1000 x 0 }
theorem knownY1 : Known Tryz.prog (gOf [(63, cloneFC)]) := known_cons ⟨cloneF_ok, Tryz.call63⟩ (known_nil _)
theorem read_ok : readC.ok Tryz.prog 30 := by
  refine ok_of_vc (An := fun _ => anOf []) knownY1 mo Tryz.func30 (by kernel_rfl) (by kernel_rfl) (fun _ _ => trivial) (fun (x : List Int) hs => ?_)
  have hs : x.length ≤ 274877906944 := hs
  have ck : Hc cloneFC x True := .mk trivial
  exact G1

structure EyX where
  l : List Int
  e : Int
@[reducible] def errC : Ctr := {
  X := EyX
  Y := Unit
  args := fun x => [.ptr 0 0]
  rw := fun x => eyeE 0 x.l x.e
  side := fun _ => True
  val := fun _ => ()
  ens := fun _ _ => True
  res := fun x _ => .v (.int .i64 x.e)
  out := fun x _ => eyeE 0 x.l x.e }
theorem err_ok : errC.ok Tryz.prog 35 := by
  refine ok_of_vc (An := fun _ => anOf []) (known_nil _) mo Tryz.func35 (by kernel_rfl) (by kernel_rfl) (fun _ _ => trivial) (fun (x : EyX) hs => ?_)
  exact G1
/-- After a fault. -/
def failL (x : EyX) (f : Int) : List Int := if x.e = 0 ∧ f ≠ 0 then [] else x.l
def failE (x : EyX) (f : Int) : Int := if x.e = 0 ∧ f ≠ 0 then f else x.e
@[reducible] def failC : Ctr := {
  X := EyX × Int
  Y := Unit
  args := fun x => [.ptr 0 0, .v (.int .i64 x.2)]
  rw := fun x => eyeE 0 x.1.l x.1.e
  side := fun _ => True
  val := fun _ => ()
  ens := fun _ _ => True
  res := fun x _ => .tuple []
  out := fun x _ => eyeE 0 (failL x.1 x.2) (failE x.1 x.2) }
theorem fail_ok : failC.ok Tryz.prog 77 := by
  refine ok_of_vc (An := fun _ => anOf []) (known_nil _) mo Tryz.func77 (by kernel_rfl) (by kernel_rfl) (fun _ _ => trivial) (fun (x : EyX × Int) hs => ?_)
  obtain ⟨⟨l, e⟩, f⟩ := x
  by_cases h1 : e = 0
  · by_cases h2 : f = 0
    · have k1 : failL ⟨l, e⟩ f = l := if_neg (by simp [h2])
      have k2 : failE ⟨l, e⟩ f = e := if_neg (by simp [h2])
      have lm := And.intro k1 k2
      exact G1
    · have k1 : failL ⟨l, e⟩ f = [] := if_pos ⟨h1, h2⟩
      have k2 : failE ⟨l, e⟩ f = f := if_pos ⟨h1, h2⟩
      have lm := And.intro k1 k2
      exact G1
  · have k1 : failL ⟨l, e⟩ f = l := if_neg (by simp [h1])
    have k2 : failE ⟨l, e⟩ f = e := if_neg (by simp [h1])
    have lm := And.intro k1 k2
    exact G1
@[reducible] def takeC : Ctr := {
  X := EyX × Int
  Y := Unit
  args := fun x => [.ptr 0 0, .v (.int .i64 x.2)]
  rw := fun x => eyeE 0 x.1.l x.1.e
  side := fun x => 0 ≤ x.2 ∧ x.2 ≤ (x.1.l.length : Nat) ∧ x.1.l.length ≤ 274877906944
  val := fun _ => ()
  ens := fun _ _ => True
  res := fun x _ => .ro false (.int .u8) (x.1.l.take x.2.toNat)
  out := fun x _ => eyeE 0 (x.1.l.drop x.2.toNat) x.1.e }
theorem take_ok : takeC.ok Tryz.prog 108 := by
  refine ok_of_vc (An := fun _ => anOf []) (known_nil _) mo Tryz.func108 (by kernel_rfl) (by kernel_rfl) (fun _ _ => trivial) (fun (x : EyX × Int) hs => ?_)
  obtain ⟨⟨l, e⟩, n⟩ := x
  have hs : 0 ≤ n ∧ n ≤ (l.length : Nat) ∧ l.length ≤ 274877906944 := hs
  have h1 : l.take ((l.length : Nat) : Int).toNat = l := by rw [Int.toNat_natCast, List.take_length]
  (refine Zn ?_; repeat' (first | exact .intro | ((first | refine B1 (fun h => ?_) fun h => ?_ | refine B2 fun y he he' hy => ?_ | refine B3 fun y he hy => ?_ | refine B4 fun y hy => ?_ | refine B5 fun ck => ?_ | fail) <;> refine Zn ?_)))
  refine AskL.mk ?_ trivial
  dsimp only [conj]
  rw [h1]
  exact ⟨⟨rfl, rfl⟩, rfl⟩

def numF (l : List Int) (m : Int) : Int := if (numS l).2.2 = 0 ∧ m < (numS l).1 then 12 else (numS l).2.2
/-- What Number answers, and what is left. -/
def eyS (x : EyX) (m : Int) : Int × EyX := if x.e = 0 then (if numF x.l m = 0 then ((numS x.l).1, ⟨x.l.drop (numS x.l).2.1.toNat, 0⟩) else (0, ⟨[], numF x.l m⟩)) else (0, x)
@[reducible] def eyNumC : Ctr := {
  X := EyX × Int
  Y := Unit
  args := fun x => [.ptr 0 0, .v (.int .u64 x.2)]
  rw := fun x => eyeE 0 x.1.l x.1.e
  side := fun x => okY x.1.l ∧ x.1.l.length ≤ 274877906944
  val := fun _ => ()
  ens := fun _ _ => True
  res := fun x _ => .v (.int .u64 (eyS x.1 x.2).1)
  out := fun x _ => eyeE 0 (eyS x.1 x.2).2.l (eyS x.1 x.2).2.e }
theorem knownY2 : Known Tryz.prog (gOf [(107, numberC), (77, failC), (108, takeC)]) :=
  known_cons ⟨number_ok, Tryz.call107⟩ (known_cons ⟨fail_ok, Tryz.call77⟩ (known_cons ⟨take_ok, Tryz.call108⟩ (known_nil _)))
theorem eyNum_ok : eyNumC.ok Tryz.prog 75 := by
  refine ok_of_vc (An := fun _ => anOf []) knownY2 mo Tryz.func75 (by kernel_rfl) (by kernel_rfl) (fun _ _ => trivial) (fun (x : EyX × Int) hs => ?_)
  obtain ⟨⟨l, e⟩, m⟩ := x
  obtain ⟨hl, hlen⟩ := hs
  have hl : okY l := hl
  have hlen : l.length ≤ 274877906944 := hlen
  by_cases h1 : e = 0
  · subst h1
    have hok : okY l ∧ l.length ≤ 9223372036854775807 := ⟨hl, by omega⟩
    have hrg : (numS l).2.2 = 0 → 1 ≤ (numS l).2.1 ∧ (numS l).2.1 ≤ l.length ∧ 0 ≤ (numS l).1 ∧ (numS l).1 < 18446744073709551616 := numS_rng hl
    by_cases h2 : (numS l).2.2 = 0
    · have hrg := hrg h2
      by_cases h3 : m < (numS l).1
      · have k0 : numF l m = 12 := if_pos ⟨h2, h3⟩
        have k1 : eyS ⟨l, 0⟩ m = (0, ⟨[], 12⟩) := by unfold eyS; rw [if_pos rfl, if_neg (by rw [k0]; decide), k0]
        have k2 : failL ⟨l, 0⟩ 12 = [] := if_pos ⟨rfl, by decide⟩
        have k3 : failE ⟨l, 0⟩ 12 = 12 := if_pos ⟨rfl, by decide⟩
        have lm := And.intro k1 (And.intro k2 k3)
        have ck : Hc numberC l (Hc failC (⟨l, 0⟩, 12) True) := .mk (.mk trivial)
        exact G1
      · have k0 : numF l m = 0 := by unfold numF; rw [if_neg (by omega), h2]
        have k1 : eyS ⟨l, 0⟩ m = ((numS l).1, ⟨l.drop (numS l).2.1.toNat, 0⟩) := by unfold eyS; rw [if_pos rfl, if_pos k0]
        have lm := k1
        have ck : Hc numberC l True := .mk trivial
        (refine Z ?_; repeat' (first | exact .intro | ((first | refine B1 (fun h => ?_) fun h => ?_ | refine B2 fun y he he' hy => ?_ | refine B3 fun y he hy => ?_ | refine B4 fun y hy => ?_ | refine B5 fun ck => ?_ | fail) <;> refine Z ?_)))
        have ht : 0 ≤ (numS l).2.1 ∧ (numS l).2.1 ≤ (l.length : Nat) ∧ l.length ≤ 274877906944 := ⟨by omega, hrg.2.1, hlen⟩
        refine CallP.mk (C := takeC) (⟨l, 0⟩, (numS l).2.1) ?_
        exact G1
    · have k0 : numF l m = (numS l).2.2 := by unfold numF; rw [if_neg (by omega)]
      have k1 : eyS ⟨l, 0⟩ m = (0, ⟨[], (numS l).2.2⟩) := by unfold eyS; rw [if_pos rfl, if_neg (by rw [k0]; exact h2), k0]
      have k2 : failL ⟨l, 0⟩ (numS l).2.2 = [] := if_pos ⟨rfl, h2⟩
      have k3 : failE ⟨l, 0⟩ (numS l).2.2 = (numS l).2.2 := if_pos ⟨rfl, h2⟩
      have lm := And.intro k1 (And.intro k2 k3)
      have ck : Hc numberC l (Hc failC (⟨l, 0⟩, (numS l).2.2) True) := .mk (.mk trivial)
      exact G1
  · have k1 : eyS ⟨l, e⟩ m = (0, ⟨l, e⟩) := if_neg h1
    have lm := k1
    exact G1
def enS (x : EyX) : EyX := if x.l = [] then x else ⟨failL x 13, failE x 13⟩
@[reducible] def endC : Ctr := {
  X := EyX
  Y := Unit
  args := fun x => [.ptr 0 0]
  rw := fun x => eyeE 0 x.l x.e
  side := fun x => x.l.length ≤ 274877906944
  val := fun _ => ()
  ens := fun _ _ => True
  res := fun x _ => .v (.int .i64 (enS x).e)
  out := fun x _ => eyeE 0 (enS x).l (enS x).e }
theorem knownY3 : Known Tryz.prog (gOf [(77, failC), (35, errC)]) :=
  known_cons ⟨fail_ok, Tryz.call77⟩ (known_cons ⟨err_ok, Tryz.call35⟩ (known_nil _))
theorem end_ok : endC.ok Tryz.prog 53 := by
  refine ok_of_vc (An := fun _ => anOf []) knownY3 mo Tryz.func53 (by kernel_rfl) (by kernel_rfl) (fun _ _ => trivial) (fun (x : EyX) hs => ?_)
  obtain ⟨l, e⟩ := x
  have hs : l.length ≤ 274877906944 := hs
  cases l with
  | nil =>
    have k1 : enS ⟨[], e⟩ = ⟨[], e⟩ := if_pos rfl
    have hln : ([] : List Int).length = 0 := rfl
    have lm := k1
    have ck : Hc errC ⟨[], e⟩ True := .mk trivial
    exact G1
  | cons c l =>
    have k1 : enS ⟨c :: l, e⟩ = ⟨failL ⟨c :: l, e⟩ 13, failE ⟨c :: l, e⟩ 13⟩ := if_neg (List.cons_ne_nil _ _)
    have hln : (c :: l).length = l.length + 1 := rfl
    have lm := k1
    have ck : Hc failC (⟨c :: l, e⟩, 13) (Hc errC ⟨failL ⟨c :: l, e⟩ 13, failE ⟨c :: l, e⟩ 13⟩ True) := .mk (.mk trivial)
    exact G1
end Go.Proofs.YthmbdjhlfieldaaGreatDoor

/-! DERIVED: THE SHELF's CONTRACTS AT THIS DUMP, IN PLAIN WORDS (tools/lay-plain.mjs out of 'TryzShelf.lean', which tools/lay-shelf.mjs wrote): THE SAME DECLARATIONS UNDER THE SAME NAMES: 'import', 'namespace', 'open', 'def', 'theorem' AND NOTHING ELSE: no command of the shelf's: FOR A HAND-IN. Each laying: the table of numbers ('.._ren') and one theorem, a field a fact of the dump's own or the kernel's comparison; each contract: ONE APPLICATION. -/
namespace Go.Proofs
open Go.Shelf
def Tryz.lays156_ren : Go.Shelf.Ren := ⟨fun | 156 => 44 | 165 => 88 | 166 => 89 | 169 => 90 | 240 => 114 | 241 => 115 | 276 => 133 | 277 => 134 | n => n, fun | 31 => 75 | 9 => 9 | 3 => 3 | 4 => 4 | 0 => 0 | 20 => 20 | 72 => 119 | 76 => 122 | 70 => 117 | 37 => 26 | 75 => 121 | 127 => 138 | 164 => 148 | 5 => 5 | 80 => 124 | n => n, fun | n => n⟩
theorem Tryz.lays156 : Go.Proofs.Lays.n156 Tryz.prog Tryz.lays156_ren := {
  mixed := by kernel_rfl
  f156 := Tryz.func44.trans (congrArg some (by kernel_rfl))
  f165 := Tryz.func88.trans (congrArg some (by kernel_rfl))
  f166 := Tryz.func89.trans (congrArg some (by kernel_rfl))
  f169 := Tryz.func90.trans (congrArg some (by kernel_rfl))
  f240 := Tryz.func114.trans (congrArg some (by kernel_rfl))
  f241 := Tryz.func115.trans (congrArg some (by kernel_rfl))
  f276 := Tryz.func133.trans (congrArg some (by kernel_rfl))
  f277 := Tryz.func134.trans (congrArg some (by kernel_rfl))
  t0 := Tryz.underlying0
  a0 := Tryz.isAgg0
  z0 := Tryz.sizeOf0
  v0 := Tryz.zeroValue0
  t3 := Tryz.underlying3
  a3 := Tryz.isAgg3
  z3 := Tryz.sizeOf3
  v3 := Tryz.zeroValue3
  t4 := Tryz.underlying4
  a4 := Tryz.isAgg4
  z4 := Tryz.sizeOf4
  v4 := Tryz.zeroValue4
  t9 := Tryz.underlying9
  a9 := Tryz.isAgg9
  z9 := Tryz.sizeOf9
  v9 := Tryz.zeroValue9
  t20 := Tryz.underlying20
  a20 := Tryz.isAgg20
  z20 := Tryz.sizeOf20
  v20 := Tryz.zeroValue20
  t31 := Tryz.underlying75
  a31 := Tryz.isAgg75
  z31 := Tryz.sizeOf75
  v31 := Tryz.zeroValue75
  t37 := Tryz.underlying26
  a37 := Tryz.isAgg26
  z37 := Tryz.sizeOf26
  v37 := Tryz.zeroValue26
  t70 := Tryz.underlying117
  a70 := Tryz.isAgg117
  z70 := Tryz.sizeOf117
  v70 := Tryz.zeroValue117
  t72 := Tryz.underlying119
  a72 := Tryz.isAgg119
  z72 := Tryz.sizeOf119
  v72 := Tryz.zeroValue119
  t75 := Tryz.underlying121
  a75 := Tryz.isAgg121
  z75 := Tryz.sizeOf121
  v75 := Tryz.zeroValue121
  t76 := Tryz.underlying122
  a76 := Tryz.isAgg122
  z76 := Tryz.sizeOf122
  v76 := Tryz.zeroValue122
  t127 := Tryz.underlying138
  a127 := Tryz.isAgg138
  z127 := Tryz.sizeOf138
  v127 := Tryz.zeroValue138
  t164 := Tryz.underlying148
  a164 := Tryz.isAgg148
  z164 := Tryz.sizeOf148
  v164 := Tryz.zeroValue148 }
theorem Tryz.Builder_Extra_156 : Builder.Extra Tryz.prog Tryz.lays156_ren := {
  sizeBuilder := by kernel_rfl
  liesBuilder := by kernel_rfl
  t5 := Tryz.underlying5
  a5 := Tryz.isAgg5
  z5 := Tryz.sizeOf5
  v5 := Tryz.zeroValue5
  infoByte := by kernel_rfl
  cellsByte := by kernel_rfl
  sizeByte := by kernel_rfl
  neB5 := by decide }
open Go.RowKit in
theorem Tryz.strings_Join_none (a : Option Addr) (c : Nat) (sep : ByteArray) (w : World) :
    Calls Tryz.prog 44 #[.slice a 0 c, .string sep] w fun e w' => e = .returned (.string ⟨#[]⟩) ∧ w' = w := Any.strings_Join_none Tryz.lays156 Tryz.Builder_Extra_156 a c sep w
open Go.RowKit in
theorem Tryz.strings_Join (bk o c : Nat) (xs : List ByteArray) (sep : ByteArray) (w : World) (hcells : ∀ (j : Nat) x, xs[j]? = some x → w.cell? ⟨bk, o + j, none⟩ = some (.string x)) (hbk : bk < w.heap.size) (hN : xs.length ≤ 140737488355328) (hcap : xs.length ≤ c) (hlen : (Lib.join (xs.map (·.data.toList)) sep.data.toList).length ≤ 140737488355328) :
    Calls Tryz.prog 44 #[.slice (some ⟨bk, o, none⟩) xs.length c, .string sep] w fun e w' => e = .returned (.string ⟨(Lib.join (xs.map (·.data.toList)) sep.data.toList).toArray⟩) ∧ Below w.heap.size w w' := Any.strings_Join Tryz.lays156 Tryz.Builder_Extra_156 bk o c xs sep w hcells hbk hN hcap hlen
def Tryz.lays106_ren : Go.Shelf.Ren := ⟨fun | 106 => 56 | 213 => 96 | 265 => 119 | n => n, fun | 9 => 9 | 3 => 3 | n => n, fun | n => n⟩
theorem Tryz.lays106 : Go.Proofs.Lays.n106 Tryz.prog Tryz.lays106_ren := {
  mixed := by kernel_rfl
  f106 := Tryz.func56.trans (congrArg some (by kernel_rfl))
  f213 := Tryz.func96.trans (congrArg some (by kernel_rfl))
  f265 := Tryz.func119.trans (congrArg some (by kernel_rfl))
  t3 := Tryz.underlying3
  a3 := Tryz.isAgg3
  z3 := Tryz.sizeOf3
  v3 := Tryz.zeroValue3
  t9 := Tryz.underlying9
  a9 := Tryz.isAgg9
  z9 := Tryz.sizeOf9
  v9 := Tryz.zeroValue9 }
open Go.RowKit in
theorem Tryz.strings_Compare (a b : ByteArray) (w : World) :
    Calls Tryz.prog 56 #[.string a, .string b] w fun e w' => e = .returned (.int .i64 (Lib.compareBytes a.data.toList b.data.toList)) ∧ w' = w := Any.strings_Compare Tryz.lays106 a b w
def Tryz.lays137_ren : Go.Shelf.Ren := ⟨fun | 137 => 86 | 217 => 113 | 266 => 132 | n => n, fun | 9 => 9 | 5 => 5 | 3 => 3 | n => n, fun | n => n⟩
theorem Tryz.lays137 : Go.Proofs.Lays.n137 Tryz.prog Tryz.lays137_ren := {
  mixed := by kernel_rfl
  f137 := Tryz.func86.trans (congrArg some (by kernel_rfl))
  f217 := Tryz.func113.trans (congrArg some (by kernel_rfl))
  f266 := Tryz.func132.trans (congrArg some (by kernel_rfl))
  t3 := Tryz.underlying3
  a3 := Tryz.isAgg3
  z3 := Tryz.sizeOf3
  v3 := Tryz.zeroValue3
  t5 := Tryz.underlying5
  a5 := Tryz.isAgg5
  z5 := Tryz.sizeOf5
  v5 := Tryz.zeroValue5
  t9 := Tryz.underlying9
  a9 := Tryz.isAgg9
  z9 := Tryz.sizeOf9
  v9 := Tryz.zeroValue9 }
open Go.RowKit in
theorem Tryz.strings_IndexByte (s : ByteArray) (c : Int) (w : World) :
    Calls Tryz.prog 86 #[.string s, .int .u8 c] w fun e w' => e = .returned (.int .i64 (Lib.indexByte s.data.toList c.toNat.toUInt8)) ∧ w' = w := Any.strings_IndexByte Tryz.lays137 s c w
def Tryz.laysM171_ren : Go.Shelf.Ren := ⟨fun | 171 => 91 | 243 => 116 | 246 => 135 | 283 => 149 | 284 => 150 | 285 => 151 | 286 => 152 | 129 => 159 | 317 => 158 | 318 => 160 | 319 => 161 | 320 => 162 | 337 => 165 | 338 => 166 | n => n, fun | 3 => 3 | 9 => 9 | 2 => 2 | 4 => 4 | 171 => 168 | 0 => 0 | 53 => 99 | 37 => 26 | 5 => 5 | 173 => 170 | 212 => 179 | 51 => 157 | 20 => 20 | 213 => 180 | 46 => 114 | 232 => 192 | 233 => 193 | n => n, fun | 17 => 3 | 18 => 6 | 19 => 7 | n => n⟩
theorem Tryz.laysM171 : Go.Proofs.LaysM.n171 Tryz.prog Tryz.laysM171_ren := {
  mixed := by kernel_rfl
  f129 := Tryz.func159.trans (congrArg some (by kernel_rfl))
  f171 := Tryz.func91.trans (congrArg some (by kernel_rfl))
  f243 := Tryz.func116.trans (congrArg some (by kernel_rfl))
  f246 := Tryz.func135.trans (congrArg some (by kernel_rfl))
  f283 := Tryz.func149.trans (congrArg some (by kernel_rfl))
  f284 := Tryz.func150.trans (congrArg some (by kernel_rfl))
  f285 := Tryz.func151.trans (congrArg some (by kernel_rfl))
  f286 := Tryz.func152.trans (congrArg some (by kernel_rfl))
  f317 := Tryz.func158.trans (congrArg some (by kernel_rfl))
  f318 := Tryz.func160.trans (congrArg some (by kernel_rfl))
  f319 := Tryz.func161.trans (congrArg some (by kernel_rfl))
  f320 := Tryz.func162.trans (congrArg some (by kernel_rfl))
  f337 := Tryz.func165.trans (congrArg some (by kernel_rfl))
  f338 := Tryz.func166.trans (congrArg some (by kernel_rfl))
  t0 := Tryz.underlying0
  a0 := Tryz.isAgg0
  z0 := Tryz.sizeOf0
  v0 := Tryz.zeroValue0
  t2 := Tryz.underlying2
  a2 := Tryz.isAgg2
  z2 := Tryz.sizeOf2
  v2 := Tryz.zeroValue2
  t3 := Tryz.underlying3
  a3 := Tryz.isAgg3
  z3 := Tryz.sizeOf3
  v3 := Tryz.zeroValue3
  t4 := Tryz.underlying4
  a4 := Tryz.isAgg4
  z4 := Tryz.sizeOf4
  v4 := Tryz.zeroValue4
  t5 := Tryz.underlying5
  a5 := Tryz.isAgg5
  z5 := Tryz.sizeOf5
  v5 := Tryz.zeroValue5
  t9 := Tryz.underlying9
  a9 := Tryz.isAgg9
  z9 := Tryz.sizeOf9
  v9 := Tryz.zeroValue9
  t20 := Tryz.underlying20
  a20 := Tryz.isAgg20
  z20 := Tryz.sizeOf20
  v20 := Tryz.zeroValue20
  t37 := Tryz.underlying26
  a37 := Tryz.isAgg26
  z37 := Tryz.sizeOf26
  v37 := Tryz.zeroValue26
  t46 := Tryz.underlying114
  a46 := Tryz.isAgg114
  z46 := Tryz.sizeOf114
  v46 := Tryz.zeroValue114
  t51 := Tryz.underlying157
  a51 := Tryz.isAgg157
  z51 := Tryz.sizeOf157
  v51 := Tryz.zeroValue157
  t53 := Tryz.underlying99
  a53 := Tryz.isAgg99
  z53 := Tryz.sizeOf99
  v53 := Tryz.zeroValue99
  t171 := Tryz.underlying168
  a171 := Tryz.isAgg168
  z171 := Tryz.sizeOf168
  v171 := Tryz.zeroValue168
  t173 := Tryz.underlying170
  a173 := Tryz.isAgg170
  z173 := Tryz.sizeOf170
  v173 := Tryz.zeroValue170
  t212 := Tryz.underlying179
  a212 := Tryz.isAgg179
  z212 := Tryz.sizeOf179
  v212 := Tryz.zeroValue179
  t213 := Tryz.underlying180
  a213 := Tryz.isAgg180
  z213 := Tryz.sizeOf180
  t232 := Tryz.underlying192
  a232 := Tryz.isAgg192
  z232 := Tryz.sizeOf192
  v232 := Tryz.zeroValue192
  t233 := Tryz.underlying193
  a233 := Tryz.isAgg193
  z233 := Tryz.sizeOf193
  v233 := Tryz.zeroValue193
  g17 := by kernel_rfl
  g18 := by kernel_rfl
  g19 := by kernel_rfl
  i0 := by kernel_rfl
  i2 := by kernel_rfl
  i3 := by kernel_rfl
  i4 := by kernel_rfl
  i5 := by kernel_rfl
  i9 := by kernel_rfl
  i20 := by kernel_rfl
  i37 := by kernel_rfl
  i46 := by kernel_rfl
  i51 := by kernel_rfl
  i53 := by kernel_rfl
  i171 := by kernel_rfl
  i173 := by kernel_rfl
  i212 := by kernel_rfl
  i232 := by kernel_rfl
  i233 := by kernel_rfl
  m17 := by kernel_rfl
  m18 := by kernel_rfl
  m19 := by kernel_rfl }
open Go.RowKit Go.Sort Go.Lib in
theorem Tryz.strconv_Itoa (n : Int) (h0 : -9223372036854775808 ≤ n) (h1 : n ≤ 9223372036854775807) (w : World) (htab : Lib.TabIs Tryz.prog w "internal/strconv.uint64pow10" .u64 Lib.pow10Tab) :
    Calls Tryz.prog 91 #[.int .i64 n] w fun e w' => e = .returned (.string ⟨(Lib.itoa n).toArray⟩) ∧ ∃ k os, w' = grow (w.drewN k) os := Any.strconv_Itoa Tryz.laysM171 n h0 h1 w htab
def Tryz.laysC172_ren : Go.Shelf.Ren := ⟨fun | 172 => 112 | 244 => 130 | 245 => 131 | 247 => 144 | 279 => 145 | 280 => 146 | 281 => 147 | 282 => 148 | 287 => 155 | 316 => 156 | 171 => 91 | 205 => 157 | 321 => 163 | 322 => 164 | 243 => 116 | 246 => 135 | 283 => 149 | 284 => 150 | 285 => 151 | 286 => 152 | 129 => 159 | 317 => 158 | 318 => 160 | 319 => 161 | 320 => 162 | 337 => 165 | 338 => 166 | n => n, fun | 9 => 9 | 3 => 3 | 75 => 121 | 76 => 122 | 4 => 4 | 5 => 5 | 167 => 162 | 37 => 26 | 0 => 0 | 85 => 163 | 2 => 2 | 168 => 165 | 53 => 99 | 175 => 173 | 46 => 114 | 210 => 176 | 127 => 138 | 145 => 190 | 143 => 188 | 21 => 21 | 171 => 168 | 173 => 170 | 212 => 179 | 51 => 157 | 20 => 20 | 213 => 180 | 232 => 192 | 233 => 193 | 80 => 124 | n => n, fun | 15 => 1 | 16 => 2 | 17 => 3 | 18 => 6 | 19 => 7 | n => n⟩
theorem Tryz.laysC172 : Go.Proofs.LaysC.n172 Tryz.prog Tryz.laysC172_ren := {
  mixed := by kernel_rfl
  f129 := Tryz.func159.trans (congrArg some (by kernel_rfl))
  f171 := Tryz.func91.trans (congrArg some (by kernel_rfl))
  f172 := Tryz.func112.trans (congrArg some (by kernel_rfl))
  f205 := Tryz.func157.trans (congrArg some (by kernel_rfl))
  f243 := Tryz.func116.trans (congrArg some (by kernel_rfl))
  f244 := Tryz.func130.trans (congrArg some (by kernel_rfl))
  f245 := Tryz.func131.trans (congrArg some (by kernel_rfl))
  f246 := Tryz.func135.trans (congrArg some (by kernel_rfl))
  f247 := Tryz.func144.trans (congrArg some (by kernel_rfl))
  f279 := Tryz.func145.trans (congrArg some (by kernel_rfl))
  f280 := Tryz.func146.trans (congrArg some (by kernel_rfl))
  f281 := Tryz.func147.trans (congrArg some (by kernel_rfl))
  f282 := Tryz.func148.trans (congrArg some (by kernel_rfl))
  f283 := Tryz.func149.trans (congrArg some (by kernel_rfl))
  f284 := Tryz.func150.trans (congrArg some (by kernel_rfl))
  f285 := Tryz.func151.trans (congrArg some (by kernel_rfl))
  f286 := Tryz.func152.trans (congrArg some (by kernel_rfl))
  f287 := Tryz.func155.trans (congrArg some (by kernel_rfl))
  f316 := Tryz.func156.trans (congrArg some (by kernel_rfl))
  f317 := Tryz.func158.trans (congrArg some (by kernel_rfl))
  f318 := Tryz.func160.trans (congrArg some (by kernel_rfl))
  f319 := Tryz.func161.trans (congrArg some (by kernel_rfl))
  f320 := Tryz.func162.trans (congrArg some (by kernel_rfl))
  f321 := Tryz.func163.trans (congrArg some (by kernel_rfl))
  f322 := Tryz.func164.trans (congrArg some (by kernel_rfl))
  f337 := Tryz.func165.trans (congrArg some (by kernel_rfl))
  f338 := Tryz.func166.trans (congrArg some (by kernel_rfl))
  t0 := Tryz.underlying0
  a0 := Tryz.isAgg0
  z0 := Tryz.sizeOf0
  v0 := Tryz.zeroValue0
  t2 := Tryz.underlying2
  a2 := Tryz.isAgg2
  z2 := Tryz.sizeOf2
  v2 := Tryz.zeroValue2
  t3 := Tryz.underlying3
  a3 := Tryz.isAgg3
  z3 := Tryz.sizeOf3
  v3 := Tryz.zeroValue3
  t4 := Tryz.underlying4
  a4 := Tryz.isAgg4
  z4 := Tryz.sizeOf4
  v4 := Tryz.zeroValue4
  t5 := Tryz.underlying5
  a5 := Tryz.isAgg5
  z5 := Tryz.sizeOf5
  v5 := Tryz.zeroValue5
  t9 := Tryz.underlying9
  a9 := Tryz.isAgg9
  z9 := Tryz.sizeOf9
  v9 := Tryz.zeroValue9
  t20 := Tryz.underlying20
  a20 := Tryz.isAgg20
  z20 := Tryz.sizeOf20
  v20 := Tryz.zeroValue20
  t21 := Tryz.underlying21
  a21 := Tryz.isAgg21
  z21 := Tryz.sizeOf21
  v21 := Tryz.zeroValue21
  t37 := Tryz.underlying26
  a37 := Tryz.isAgg26
  z37 := Tryz.sizeOf26
  v37 := Tryz.zeroValue26
  t46 := Tryz.underlying114
  a46 := Tryz.isAgg114
  z46 := Tryz.sizeOf114
  v46 := Tryz.zeroValue114
  t51 := Tryz.underlying157
  a51 := Tryz.isAgg157
  z51 := Tryz.sizeOf157
  v51 := Tryz.zeroValue157
  t53 := Tryz.underlying99
  a53 := Tryz.isAgg99
  z53 := Tryz.sizeOf99
  v53 := Tryz.zeroValue99
  t75 := Tryz.underlying121
  a75 := Tryz.isAgg121
  z75 := Tryz.sizeOf121
  v75 := Tryz.zeroValue121
  t76 := Tryz.underlying122
  a76 := Tryz.isAgg122
  z76 := Tryz.sizeOf122
  v76 := Tryz.zeroValue122
  t85 := Tryz.underlying163
  a85 := Tryz.isAgg163
  z85 := Tryz.sizeOf163
  v85 := Tryz.zeroValue163
  t127 := Tryz.underlying138
  a127 := Tryz.isAgg138
  z127 := Tryz.sizeOf138
  v127 := Tryz.zeroValue138
  t143 := Tryz.underlying188
  a143 := Tryz.isAgg188
  z143 := Tryz.sizeOf188
  v143 := Tryz.zeroValue188
  t145 := Tryz.underlying190
  a145 := Tryz.isAgg190
  z145 := Tryz.sizeOf190
  v145 := Tryz.zeroValue190
  t167 := Tryz.underlying162
  a167 := Tryz.isAgg162
  z167 := Tryz.sizeOf162
  v167 := Tryz.zeroValue162
  t168 := Tryz.underlying165
  a168 := Tryz.isAgg165
  z168 := Tryz.sizeOf165
  v168 := Tryz.zeroValue165
  t171 := Tryz.underlying168
  a171 := Tryz.isAgg168
  z171 := Tryz.sizeOf168
  v171 := Tryz.zeroValue168
  t173 := Tryz.underlying170
  a173 := Tryz.isAgg170
  z173 := Tryz.sizeOf170
  v173 := Tryz.zeroValue170
  t175 := Tryz.underlying173
  a175 := Tryz.isAgg173
  z175 := Tryz.sizeOf173
  v175 := Tryz.zeroValue173
  t210 := Tryz.underlying176
  a210 := Tryz.isAgg176
  z210 := Tryz.sizeOf176
  v210 := Tryz.zeroValue176
  t212 := Tryz.underlying179
  a212 := Tryz.isAgg179
  z212 := Tryz.sizeOf179
  v212 := Tryz.zeroValue179
  t213 := Tryz.underlying180
  a213 := Tryz.isAgg180
  z213 := Tryz.sizeOf180
  t232 := Tryz.underlying192
  a232 := Tryz.isAgg192
  z232 := Tryz.sizeOf192
  v232 := Tryz.zeroValue192
  t233 := Tryz.underlying193
  a233 := Tryz.isAgg193
  z233 := Tryz.sizeOf193
  v233 := Tryz.zeroValue193
  g15 := by kernel_rfl
  g16 := by kernel_rfl
  g17 := by kernel_rfl
  g18 := by kernel_rfl
  g19 := by kernel_rfl
  t80 := Tryz.underlying124
  a80 := Tryz.isAgg124
  z80 := Tryz.sizeOf124
  v80 := Tryz.zeroValue124
  i0 := by kernel_rfl
  i2 := by kernel_rfl
  i3 := by kernel_rfl
  i4 := by kernel_rfl
  i5 := by kernel_rfl
  i9 := by kernel_rfl
  i20 := by kernel_rfl
  i21 := by kernel_rfl
  i37 := by kernel_rfl
  i46 := by kernel_rfl
  i51 := by kernel_rfl
  i53 := by kernel_rfl
  i75 := by kernel_rfl
  i76 := by kernel_rfl
  i80 := by kernel_rfl
  i85 := by kernel_rfl
  i127 := by kernel_rfl
  i143 := by kernel_rfl
  i145 := by kernel_rfl
  i167 := by kernel_rfl
  i168 := by kernel_rfl
  i171 := by kernel_rfl
  i173 := by kernel_rfl
  i175 := by kernel_rfl
  i210 := by kernel_rfl
  i212 := by kernel_rfl
  i232 := by kernel_rfl
  i233 := by kernel_rfl
  m15 := by kernel_rfl
  m16 := by kernel_rfl
  m17 := by kernel_rfl
  m18 := by kernel_rfl
  m19 := by kernel_rfl
  c0 := by kernel_rfl
  c2 := by kernel_rfl
  c3 := by kernel_rfl
  c4 := by kernel_rfl
  c5 := by kernel_rfl
  c9 := by kernel_rfl
  c20 := by kernel_rfl
  c21 := by kernel_rfl
  c37 := by kernel_rfl
  c46 := by kernel_rfl
  c51 := by kernel_rfl
  c53 := by kernel_rfl
  c75 := by kernel_rfl
  c76 := by kernel_rfl
  c80 := by kernel_rfl
  c85 := by kernel_rfl
  c127 := by kernel_rfl
  c143 := by kernel_rfl
  c145 := by kernel_rfl
  c167 := by kernel_rfl
  c168 := by kernel_rfl
  c171 := by kernel_rfl
  c173 := by kernel_rfl
  c175 := by kernel_rfl
  c210 := by kernel_rfl
  c212 := by kernel_rfl
  c213 := by kernel_rfl
  c232 := by kernel_rfl
  c233 := by kernel_rfl }
open Go.RowKit in
theorem Tryz.strconv_Atoi_ok (s : ByteArray) (hmax : s.size ≤ 9223372036854775806) (v : Int) (h : Lib.atoiAll s.data.toList = .ok v) (w : World) :
    Calls Tryz.prog 112 #[.string s] w fun e w' => e = .returned (.tuple #[.int .i64 v, .nilIface]) ∧ (w' = w ∨ ∃ t, w' = Lib.bytesWorld w 5 t) := Any.strconv_Atoi_ok Tryz.laysC172 s hmax v h w
open Go.RowKit in
theorem Tryz.strconv_Atoi_syntax (s : ByteArray) (hlim : s.size ≤ 281474976710656) (h : Lib.atoiAll s.data.toList = Lib.atoiAll []) (ev : Value) (w : World) (hv : w.cell? ⟨1, 0, none⟩ = some ev) (hev : ev = .nilIface ∨ ∃ te pe, ev = .iface te pe) :
    Calls Tryz.prog 112 #[.string s] w fun e w' => ∃ N, e = .returned (.tuple #[.int .i64 (0), .iface 165 (.pointer (some ⟨N, 0, none⟩))]) ∧ w.heap.size ≤ N ∧ w'.heap[N]? = some (.cells #[.string ⟨#[65, 116, 111, 105]⟩, .string s, ev] 176 (0, 0)) ∧ Below w.heap.size w w' := Any.strconv_Atoi_syntax Tryz.laysC172 s hlim h ev w hv hev
open Go.RowKit in
theorem Tryz.strconv_Atoi_range (s : ByteArray) (hlim : s.size ≤ 281474976710656) (h : Lib.atoiAll s.data.toList = .range) (ev : Value) (w : World) (hv : w.cell? ⟨2, 0, none⟩ = some ev) (hev : ev = .nilIface ∨ ∃ te pe, ev = .iface te pe) :
    Calls Tryz.prog 112 #[.string s] w fun e w' => ∃ N, e = .returned (.tuple #[.int .i64 (Lib.atoiSat s.data.toList), .iface 165 (.pointer (some ⟨N, 0, none⟩))]) ∧ w.heap.size ≤ N ∧ w'.heap[N]? = some (.cells #[.string ⟨#[65, 116, 111, 105]⟩, .string s, ev] 176 (0, 0)) ∧ Below w.heap.size w w' := Any.strconv_Atoi_range Tryz.laysC172 s hlim h ev w hv hev
def Tryz.lays145_ren : Go.Shelf.Ren := ⟨fun | 145 => 37 | 220 => 83 | 219 => 110 | 217 => 113 | 225 => 124 | 224 => 125 | 267 => 126 | 266 => 132 | 314 => 140 | n => n, fun | 9 => 9 | 4 => 4 | 59 => 70 | 3 => 3 | 5 => 5 | 46 => 114 | 146 => 158 | 51 => 157 | n => n, fun | 1 => 0 | n => n⟩
theorem Tryz.lays145 : Go.Proofs.Lays.n145 Tryz.prog Tryz.lays145_ren := {
  mixed := by kernel_rfl
  f145 := Tryz.func37.trans (congrArg some (by kernel_rfl))
  f217 := Tryz.func113.trans (congrArg some (by kernel_rfl))
  f219 := Tryz.func110.trans (congrArg some (by kernel_rfl))
  f220 := Tryz.func83.trans (congrArg some (by kernel_rfl))
  f224 := Tryz.func125.trans (congrArg some (by kernel_rfl))
  f225 := Tryz.func124.trans (congrArg some (by kernel_rfl))
  f266 := Tryz.func132.trans (congrArg some (by kernel_rfl))
  f267 := Tryz.func126.trans (congrArg some (by kernel_rfl))
  f314 := Tryz.func140.trans (congrArg some (by kernel_rfl))
  t3 := Tryz.underlying3
  a3 := Tryz.isAgg3
  z3 := Tryz.sizeOf3
  v3 := Tryz.zeroValue3
  t4 := Tryz.underlying4
  a4 := Tryz.isAgg4
  z4 := Tryz.sizeOf4
  v4 := Tryz.zeroValue4
  t5 := Tryz.underlying5
  a5 := Tryz.isAgg5
  z5 := Tryz.sizeOf5
  v5 := Tryz.zeroValue5
  t9 := Tryz.underlying9
  a9 := Tryz.isAgg9
  z9 := Tryz.sizeOf9
  v9 := Tryz.zeroValue9
  t46 := Tryz.underlying114
  a46 := Tryz.isAgg114
  z46 := Tryz.sizeOf114
  v46 := Tryz.zeroValue114
  t51 := Tryz.underlying157
  a51 := Tryz.isAgg157
  z51 := Tryz.sizeOf157
  v51 := Tryz.zeroValue157
  t59 := Tryz.underlying70
  a59 := Tryz.isAgg70
  z59 := Tryz.sizeOf70
  v59 := Tryz.zeroValue70
  t146 := Tryz.underlying158
  a146 := Tryz.isAgg158
  z146 := Tryz.sizeOf158
  v146 := Tryz.zeroValue158
  g1 := by kernel_rfl }
open Go.RowKit Go.Lib in
theorem Tryz.strings_Cut (s sep : ByteArray) (m : Int) (w : World) (hs : s.size < 4294967281) (hm : w.cell? ⟨0, 0, none⟩ = some (.int .i64 m)) :
    Calls Tryz.prog 37 #[.string s, .string sep] w fun e w' => e = .returned (.tuple #[.string ⟨(Lib.cut s.data.toList sep.data.toList).1.toArray⟩, .string ⟨(Lib.cut s.data.toList sep.data.toList).2.1.toArray⟩, .bool (Lib.cut s.data.toList sep.data.toList).2.2]) ∧ ∃ n, w' = w.drewN n := Any.strings_Cut Tryz.lays145 s sep m w hs hm
def Tryz.lays146_ren : Go.Shelf.Ren := ⟨fun | 146 => 84 | 221 => 111 | 268 => 127 | 138 => 128 | 143 => 129 | 195 => 141 | 197 => 142 | 218 => 143 | 219 => 110 | 260 => 154 | 217 => 113 | 225 => 124 | 224 => 125 | 267 => 126 | 266 => 132 | 314 => 140 | n => n, fun | 9 => 9 | 31 => 75 | 3 => 3 | 4 => 4 | 0 => 0 | 105 => 160 | 21 => 21 | 5 => 5 | 46 => 114 | 119 => 182 | 139 => 185 | 138 => 184 | 146 => 158 | 51 => 157 | n => n, fun | 1 => 0 | 3 => 4 | 4 => 5 | n => n⟩
theorem Tryz.lays146 : Go.Proofs.Lays.n146 Tryz.prog Tryz.lays146_ren := {
  mixed := by kernel_rfl
  f138 := Tryz.func128.trans (congrArg some (by kernel_rfl))
  f143 := Tryz.func129.trans (congrArg some (by kernel_rfl))
  f146 := Tryz.func84.trans (congrArg some (by kernel_rfl))
  f195 := Tryz.func141.trans (congrArg some (by kernel_rfl))
  f197 := Tryz.func142.trans (congrArg some (by kernel_rfl))
  f217 := Tryz.func113.trans (congrArg some (by kernel_rfl))
  f218 := Tryz.func143.trans (congrArg some (by kernel_rfl))
  f219 := Tryz.func110.trans (congrArg some (by kernel_rfl))
  f221 := Tryz.func111.trans (congrArg some (by kernel_rfl))
  f224 := Tryz.func125.trans (congrArg some (by kernel_rfl))
  f225 := Tryz.func124.trans (congrArg some (by kernel_rfl))
  f260 := Tryz.func154.trans (congrArg some (by kernel_rfl))
  f266 := Tryz.func132.trans (congrArg some (by kernel_rfl))
  f267 := Tryz.func126.trans (congrArg some (by kernel_rfl))
  f268 := Tryz.func127.trans (congrArg some (by kernel_rfl))
  f314 := Tryz.func140.trans (congrArg some (by kernel_rfl))
  t0 := Tryz.underlying0
  a0 := Tryz.isAgg0
  z0 := Tryz.sizeOf0
  v0 := Tryz.zeroValue0
  t3 := Tryz.underlying3
  a3 := Tryz.isAgg3
  z3 := Tryz.sizeOf3
  v3 := Tryz.zeroValue3
  t4 := Tryz.underlying4
  a4 := Tryz.isAgg4
  z4 := Tryz.sizeOf4
  v4 := Tryz.zeroValue4
  t5 := Tryz.underlying5
  a5 := Tryz.isAgg5
  z5 := Tryz.sizeOf5
  v5 := Tryz.zeroValue5
  t9 := Tryz.underlying9
  a9 := Tryz.isAgg9
  z9 := Tryz.sizeOf9
  v9 := Tryz.zeroValue9
  t21 := Tryz.underlying21
  a21 := Tryz.isAgg21
  z21 := Tryz.sizeOf21
  v21 := Tryz.zeroValue21
  t31 := Tryz.underlying75
  a31 := Tryz.isAgg75
  z31 := Tryz.sizeOf75
  v31 := Tryz.zeroValue75
  t46 := Tryz.underlying114
  a46 := Tryz.isAgg114
  z46 := Tryz.sizeOf114
  v46 := Tryz.zeroValue114
  t51 := Tryz.underlying157
  a51 := Tryz.isAgg157
  z51 := Tryz.sizeOf157
  v51 := Tryz.zeroValue157
  t105 := Tryz.underlying160
  a105 := Tryz.isAgg160
  z105 := Tryz.sizeOf160
  v105 := Tryz.zeroValue160
  t119 := Tryz.underlying182
  a119 := Tryz.isAgg182
  z119 := Tryz.sizeOf182
  t138 := Tryz.underlying184
  a138 := Tryz.isAgg184
  z138 := Tryz.sizeOf184
  v138 := Tryz.zeroValue184
  t139 := Tryz.underlying185
  a139 := Tryz.isAgg185
  z139 := Tryz.sizeOf185
  v139 := Tryz.zeroValue185
  t146 := Tryz.underlying158
  a146 := Tryz.isAgg158
  z146 := Tryz.sizeOf158
  v146 := Tryz.zeroValue158
  g1 := by kernel_rfl
  g3 := by kernel_rfl
  g4 := by kernel_rfl }
open Go.RowKit Go.Lib in
theorem Tryz.strings_Split (s sep : ByteArray) (m : Int) (w : World) (hs : s.size < 4294967281) (hm : w.cell? ⟨0, 0, none⟩ = some (.int .i64 m)) (h1 : 1 ≤ sep.size) :
    Calls Tryz.prog 84 #[.string s, .string sep] w fun e w' =>
      e = .returned (.slice (some ⟨w.heap.size, 0, none⟩) (Lib.countB s sep + 1) (Lib.countB s sep + 1)) ∧ w' = w.alloc (.cells ((Lib.splitB sep 0 (Lib.countB s sep) s).map Value.string).toArray 9) := Any.strings_Split Tryz.lays146 (by kernel_rfl) s sep m w hs hm h1
end Go.Proofs

/-! The engine, part V: contracts out of walks (of the kit's or one's own). -/
set_option linter.unusedVariables false
set_option linter.unusedSimpArgs false
namespace Go.Eng
open Go.RowKit (Below)
variable [DM]
set_option linter.unusedSectionVars false

/-- The world behind: what lay there lies there. -/
theorem below_grow (w : World) (k : Nat) (os : Array Obj) : Below w.heap.size w (Go.Sort.grow (w.drewN k) os) :=
  ⟨rfl, rfl, rfl, by simp [Go.Sort.grow], fun j hj => by simp only [Go.Sort.grow, World.heap_drewN]; rw [Array.getElem?_append_left hj]⟩

/-- A function that lays nothing for its caller. -/
theorem ok_of_walk {C : Ctr} {P : Program} {f : FuncId} (hrw : ∀ x, C.rw x = []) (hout : ∀ x, C.out x (C.val x) = [])
    (h : ∀ x, C.side x → C.ens x (C.val x) ∧ ∀ (E : Env) (w : World) (vals : Array Value), vals.size = (C.args x).length →
      (∀ (j : Nat) (s : SV), (C.args x)[j]? = some s → Sat E w s (vals.getD j undef)) → GlobOk E w → (∀ b, E.I b ∨ E.B b → b < w.heap.size) →
      Calls P f vals w fun e w' => ∃ v, e = .returned v ∧ Sat E w' (C.res x (C.val x)) v ∧ Below w.heap.size w w' ∧ (DM.p → w.drawn ≤ w'.drawn)) : C.ok P f := by
  intro x hside
  obtain ⟨he, hw⟩ := h x hside
  refine ⟨he, fun E fp vals w hsz hv hents hnames => ?_⟩
  refine callsIn_wide.2 (Calls.mono (hw E w vals hsz hv hents.gl hents.Ilt) ?_)
  rintro e w' ⟨v, rfl, hsat, hb, hdr⟩
  have hfp : ∀ id b, ¬ fp id b := fun id b hf => by
    have := hents.sat id
    rw [hrw x] at this
    exact this b hf
  have hst : Stays E w w' := fun b _ hlt => hb.block b hlt
  refine ⟨v, E, fp, rfl, hsat, ?_, ⟨⟨hb.os, ⟨hb.tape, hdr⟩, hb.output, hb.size, fun b hlt _ => hb.block b hlt⟩, .refl _, fun b h => .inl h, fun b h => h, fun id b h => .inl ⟨id, h⟩⟩, fun _ _ => rfl⟩
  rw [hout x]
  exact ⟨fun id b hf => hfp id b hf, fun id b hf => (hfp id b hf).elim, fun id b hf => (hfp id b hf).elim, fun id b hf => (hfp id b hf).elim, fun i j b _ hf => (hfp i b hf).elim,
    fun b hI => Nat.lt_of_lt_of_le (hents.Ilt b hI) hb.size, hents.nil, hents.glob hst (fun _ h => h)⟩

/-- What was laid since is only read from now on. -/
def Env.plus (E : Env) (w w' : World) : Env := { E with I := fun b => E.I b ∨ (w.heap.size ≤ b ∧ b < w'.heap.size) }
theorem Env.le_plus (E : Env) (w w' : World) : E.le (E.plus w w') := ⟨fun _ _ h => h, fun _ h => .inl h, fun _ h => h⟩

/-- A function that lays what is only read. -/
theorem ok_of_walk_new {C : Ctr} {P : Program} {f : FuncId} (hrw : ∀ x, C.rw x = []) (hout : ∀ x, C.out x (C.val x) = [])
    (h : ∀ x, C.side x → C.ens x (C.val x) ∧ ∀ (E : Env) (w : World) (vals : Array Value), vals.size = (C.args x).length →
      (∀ (j : Nat) (s : SV), (C.args x)[j]? = some s → Sat E w s (vals.getD j undef)) → GlobOk E w → (∀ b, E.I b ∨ E.B b → b < w.heap.size) →
      Calls P f vals w fun e w' => ∃ v, e = .returned v ∧ Sat (E.plus w w') w' (C.res x (C.val x)) v ∧ Below w.heap.size w w' ∧ (DM.p → w.drawn ≤ w'.drawn)) : C.ok P f := by
  intro x hside
  obtain ⟨he, hw⟩ := h x hside
  refine ⟨he, fun E fp vals w hsz hv hents hnames => ?_⟩
  refine callsIn_wide.2 (Calls.mono (hw E w vals hsz hv hents.gl hents.Ilt) ?_)
  rintro e w' ⟨v, rfl, hsat, hb, hdr⟩
  have hfp : ∀ id b, ¬ fp id b := fun id b hf => by
    have := hents.sat id
    rw [hrw x] at this
    exact this b hf
  have hst : Stays E w w' := fun b _ hlt => hb.block b hlt
  refine ⟨v, E.plus w w', fp, rfl, hsat, ?_, ⟨⟨hb.os, ⟨hb.tape, hdr⟩, hb.output, hb.size, fun b hlt _ => hb.block b hlt⟩, E.le_plus w w', fun b h => h.imp id (fun h => .inr h.1), fun b h => h, fun id b h => .inl ⟨id, h⟩⟩, fun _ _ => rfl⟩
  rw [hout x]
  refine ⟨fun id b hf => hfp id b hf, fun id b hf => (hfp id b hf).elim, fun id b hf => (hfp id b hf).elim, fun id b hf => (hfp id b hf).elim, fun i j b _ hf => (hfp i b hf).elim,
    fun b hI => ?_, hents.nil, hents.glob hst (fun _ h => .inl h)⟩
  rcases hI with (hI | hI) | hI
  · exact Nat.lt_of_lt_of_le (hents.Ilt b (.inl hI)) hb.size
  · exact hI.2
  · exact Nat.lt_of_lt_of_le (hents.Ilt b (.inr hI)) hb.size

/-- A new list of strings. -/
theorem strs_new {E : Env} {w w' : World} {te : TypeId} {xs : List ByteArray} {fz : Nat × Nat} {c : Nat} (hb : w'.heap[w.heap.size]? = some (.cells (xs.map Value.string).toArray te fz)) (hc : xs.length ≤ c) :
    Sat (E.plus w w') w' (.ro false .str xs) (.slice (some ⟨w.heap.size, 0, none⟩) xs.length c) := by
  have hlt := (Array.getElem?_eq_some_iff.1 hb).1
  refine .ro false .str xs w.heap.size 0 c (fun m => .string (xs.getD m default)) (.inl (.inr ⟨Nat.le_refl _, hlt⟩)) hc (fun m hm => ?_) (fun i x j sv hi hj => ?_)
  · have hm : m < xs.length := by simpa [Ty.size] using hm
    simp [World.cell?, hb, hm]
  · simp only [enc] at hj
    cases j with
    | zero =>
      obtain rfl : SV.v (.string x) = sv := by simpa using hj
      have : (xs.getD (i * 1 + 0) default) = x := by simp [hi]
      show Sat _ _ _ (Value.string (xs.getD (i * 1 + 0) default))
      rw [this]; exact .v _
    | succ j => simp at hj

/-- A variable's cell. -/
theorem glob_cell {E : Env} {w : World} {g : Nat} {p : Array Value → Prop} {v : Value} (h : GlobOk E w) (hm : (g, p) ∈ gtab) (hp : ∀ a, p a → a = #[v]) : w.cell? ⟨g, 0, none⟩ = some v := by
  obtain ⟨_, a, t, fz, h1, h2⟩ := h g p hm
  rw [hp a h2] at h1
  simp [World.cell?, h1]
theorem glob_some {E : Env} {w : World} {g : Nat} {p : Array Value → Prop} (h : GlobOk E w) (hm : (g, p) ∈ gtab) : ∃ a, p a ∧ ∀ v, a = #[v] → w.cell? ⟨g, 0, none⟩ = some v := by
  obtain ⟨_, a, t, fz, h1, h2⟩ := h g p hm
  exact ⟨a, h2, fun v hv => by subst hv; simp [World.cell?, h1]⟩

/-- A function without a body. -/
theorem okV_of_run {C : Ctr} {P : Program} {f : FuncId} (hrw : ∀ x, C.rw x = []) (hout : ∀ x, C.out x (C.val x) = [])
    (h : ∀ x, C.side x → C.ens x (C.val x) ∧ ∀ (E : Env) (w : World) (vals : Array Value), vals.size = (C.args x).length →
      (∀ (j : Nat) (s : SV), (C.args x)[j]? = some s → Sat E w s (vals.getD j undef)) → ∃ v, (callFunc f vals).run P w = .ok (.value v) w ∧ Sat E w (C.res x (C.val x)) v) : C.okV P f := by
  intro x hside
  obtain ⟨he, hw⟩ := h x hside
  refine ⟨he, fun E fp vals w hsz hv hents hnames => ?_⟩
  obtain ⟨v, h1, h2⟩ := hw E w vals hsz hv
  refine ⟨v, h1, v, E, fp, rfl, h2, ?_, .refl _ _ _, fun _ _ => rfl⟩
  rw [hout x]
  rw [hrw x] at hents
  exact hents

/-! ### Arguments -/

theorem sat_v {E : Env} {w : World} {a v : Value} (h : Sat E w (.v a) v) : v = a := by cases h; rfl

theorem vals_nil {vals : Array Value} (h : vals.size = 0) : vals = #[] := by simpa using h
theorem vals_one {vals : Array Value} (h : vals.size = 1) : vals = #[vals.getD 0 undef] := by
  match vals, h with
  | ⟨[a]⟩, _ => rfl
theorem vals_two {vals : Array Value} (h : vals.size = 2) : vals = #[vals.getD 0 undef, vals.getD 1 undef] := by
  match vals, h with
  | ⟨[a, b]⟩, _ => rfl
theorem vals_three {vals : Array Value} (h : vals.size = 3) : vals = #[vals.getD 0 undef, vals.getD 1 undef, vals.getD 2 undef] := by
  match vals, h with
  | ⟨[a, b, c]⟩, _ => rfl

/-- A slice of data: nil, or cells of memory. -/
theorem sat_ro {E : Env} {w : World} {b : Bool} {t : Ty} {xs : List t.den} {v : Value} (h : Sat E w (.ro b t xs) v) :
    (xs = [] ∧ ∃ A c, v = .slice A 0 c) ∨ ∃ k o c, v = .slice (some ⟨k, o, none⟩) xs.length c ∧ E.ok b k ∧ xs.length ≤ c ∧
      ∀ i x j sv, xs[i]? = some x → (enc t x)[j]? = some sv → ∃ u, w.cell? ⟨k, o + (i * t.size + j), none⟩ = some u ∧ Sat E w sv u := by
  cases h with
  | nil _ _ A c => exact .inl ⟨rfl, A, c, rfl⟩
  | ro _ _ _ k o c u hb hle hc hs =>
    refine .inr ⟨k, o, c, rfl, hb, hle, fun i x j sv hi hj => ⟨u (i * t.size + j), hc _ ?_, hs i x j sv hi hj⟩⟩
    have h1 := (List.getElem?_eq_some_iff.1 hi).1
    have h2 := (List.getElem?_eq_some_iff.1 hj).1
    rw [enc_length] at h2
    calc i * t.size + j < i * t.size + t.size := by omega
      _ = (i + 1) * t.size := by rw [Nat.add_mul, Nat.one_mul]
      _ ≤ xs.length * t.size := Nat.mul_le_mul_right _ h1

/-- A list of strings. -/
theorem sat_strs {E : Env} {w : World} {b : Bool} {xs : List ByteArray} {v : Value} (h : Sat E w (.ro b .str xs) v) :
    (xs = [] ∧ ∃ A c, v = .slice A 0 c) ∨ ∃ k o c, v = .slice (some ⟨k, o, none⟩) xs.length c ∧ E.ok b k ∧ xs.length ≤ c ∧
      ∀ (j : Nat) x, xs[j]? = some x → w.cell? ⟨k, o + j, none⟩ = some (.string x) := by
  rcases sat_ro h with h | ⟨k, o, c, h1, h2, h3, h4⟩
  · exact .inl h
  · refine .inr ⟨k, o, c, h1, h2, h3, fun j x hj => ?_⟩
    obtain ⟨u, hu, hs⟩ := h4 j x 0 (.v (.string x)) hj rfl
    rw [sat_v hs] at hu
    simpa [Ty.size] using hu

theorem env_ok_lt {E : Env} {w : World} {b : Bool} {k : Nat} (hI : ∀ b, E.I b ∨ E.B b → b < w.heap.size) (h : E.ok b k) : k < w.heap.size := hI k h.or

/-- The library's tables. -/
theorem glob_tab {E : Env} {w : World} {P : Program} {name : String} {k : IntKind} {zs : List Int} {g : Nat} {p : Array Value → Prop} (h : GlobOk E w) (hg : P.globalNamed name = some g)
    (hm : (g, p) ∈ gtab) (hp : ∀ a, p a → a = (zs.map fun z => Value.int k z).toArray) : Go.Lib.TabIs P w name k zs := by
  obtain ⟨_, a, t, fz, h1, h2⟩ := h g p hm
  unfold Go.Lib.TabIs World.var?
  rw [hg]
  simp only [Option.bind_eq_bind, Option.bind_some, h1, hp a h2]

end Go.Eng

namespace Go.Proofs.YthmbdjhlfieldaaGreatDoor
open Go.Shelf Go.RowKit Go.Sort Go.Lib Go.Eng
set_option linter.unusedVariables false
set_option linter.unusedSimpArgs false
def itoaS (n : Int) : ByteArray := ⟨(Lib.itoa n).toArray⟩
def decS (n : Nat) : ByteArray := ⟨(Lib.decDigits n).toArray⟩
theorem itoaS_nat (n : Nat) : itoaS (n : Int) = decS n := by unfold itoaS decS; rw [Lib.itoa_nonneg]

theorem tabPow {E : Env} {w : World} (h : GlobOk E w) : Lib.TabIs Tryz.prog w "internal/strconv.uint64pow10" .u64 Lib.pow10Tab :=
  glob_tab (g := 3) h (by kernel_rfl) (List.mem_cons_self ..) (fun a ha => by rw [ha]; simp [Lib.pow10Tab, Function.comp_def])

@[reducible] def itoaC : Ctr := {
  X := Int
  Y := Unit
  args := fun n => [.v (.int .i64 n)]
  rw := fun _ => []
  side := fun n => -9223372036854775808 ≤ n ∧ n ≤ 9223372036854775807
  val := fun _ => ()
  ens := fun _ _ => True
  res := fun n _ => .v (.string (itoaS n))
  out := fun _ _ => [] }
theorem itoa_ok : itoaC.ok Tryz.prog 91 := by
  refine ok_of_walk (fun _ => rfl) (fun _ => rfl) (fun n hs => ⟨trivial, fun E w vals hsz hv hg hI => ?_⟩)
  rw [vals_one hsz, sat_v (hv 0 _ rfl)]
  refine (Tryz.strconv_Itoa n hs.1 hs.2 w (tabPow hg)).mono ?_
  rintro e w' ⟨rfl, k, os, rfl⟩
  exact ⟨_, rfl, .v _, below_grow w k os, fun h => h.elim⟩
end Go.Proofs.YthmbdjhlfieldaaGreatDoor

namespace Go.Proofs.YthmbdjhlfieldaaGreatDoor
open Go.Shelf Go.RowKit Go.Sort Go.Lib Go.Eng
set_option linter.unusedVariables false
set_option linter.unusedSimpArgs false
structure StrX where
  s : ByteArray
  t : ByteArray
def splitS (s sep : ByteArray) : List ByteArray := Lib.splitB sep 0 (Lib.countB s sep) s
@[reducible] def splitC : Ctr := {
  X := StrX
  Y := Unit
  args := fun x => [.v (.string x.s), .v (.string x.t)]
  rw := fun _ => []
  side := fun x => x.s.size < 4294967281 ∧ 1 ≤ x.t.size
  val := fun _ => ()
  ens := fun _ _ => True
  res := fun x _ => .ro false .str (splitS x.s x.t)
  out := fun _ _ => [] }
theorem split_ok : splitC.ok Tryz.prog 84 := by
  refine ok_of_walk_new (fun _ => rfl) (fun _ => rfl) (fun x hs => ⟨trivial, fun E w vals hsz hv hg hI => ?_⟩)
  obtain ⟨s, t⟩ := x
  obtain ⟨h1, h2⟩ := hs
  dsimp only at h1 h2
  rw [vals_two hsz, sat_v (hv 0 _ rfl), sat_v (hv 1 _ rfl)]
  obtain ⟨a, ⟨m, ha⟩, hm⟩ := glob_some (g := 0) hg (List.mem_cons_of_mem _ (List.mem_cons_of_mem _ (List.mem_cons_of_mem _ (List.mem_cons_self ..))))
  refine (Tryz.strings_Split s t m w h1 (hm _ ha) h2).mono ?_
  rintro e w' ⟨rfl, rfl⟩
  have hl : (splitS s t).length = Lib.countB s t + 1 := Lib.splitB_all _ h2 _ _ _ rfl
  refine ⟨_, rfl, ?_, Below.alloc (.refl _ _) (Nat.le_refl _) _, fun h => h.elim⟩
  rw [← hl]
  exact strs_new (te := 9) (fz := (0, 0)) (World.alloc_heap_new w _) (Nat.le_refl _)

structure ByteX where
  s : ByteArray
  c : UInt8
@[reducible] def indexByteC : Ctr := {
  X := ByteX
  Y := Unit
  args := fun x => [.v (.string x.s), .v (.int .u8 (x.c.toNat : Int))]
  rw := fun _ => []
  side := fun _ => True
  val := fun _ => ()
  ens := fun _ _ => True
  res := fun x _ => .v (.int .i64 (Lib.indexByte x.s.data.toList x.c))
  out := fun _ _ => [] }
theorem indexByte_ok : indexByteC.ok Tryz.prog 86 := by
  refine ok_of_walk (fun _ => rfl) (fun _ => rfl) (fun x hs => ⟨trivial, fun E w vals hsz hv hg hI => ?_⟩)
  obtain ⟨s, c⟩ := x
  rw [vals_two hsz, sat_v (hv 0 _ rfl), sat_v (hv 1 _ rfl)]
  refine (Tryz.strings_IndexByte s _ w).mono ?_
  rintro e w' ⟨rfl, rfl⟩
  refine ⟨_, rfl, ?_, .refl _ _, fun h => h.elim⟩
  have e : ((c.toNat : Int).toNat).toUInt8 = c := by simp
  rw [e]
  exact .v _

def atoiN (s : ByteArray) : Int :=
  match Lib.atoiAll s.data.toList with
  | .ok v => v
  | .range => Lib.atoiSat s.data.toList
  | _ => 0
theorem sat_any2 (E : Env) (w : World) (a b : Value) : Sat E w (.tuple [.v a, .any]) (.tuple #[a, b]) :=
  .tuple _ _ (fun j => (#[a, b] : Array Value).getD j undef) rfl (fun j hj => by
    match j, hj with
    | 0, _ => rfl
    | 1, _ => rfl) (fun j sv hj => by
    match j, hj with
    | 0, hj => obtain rfl : SV.v a = sv := by simpa using hj
               exact .v _
    | 1, hj => obtain rfl : SV.any = sv := by simpa using hj
               exact .any _
    | j + 2, hj => simp at hj)
@[reducible] def atoiC : Ctr := {
  X := ByteArray
  Y := Unit
  args := fun x => [.v (.string x)]
  rw := fun _ => []
  side := fun x => x.size ≤ 281474976710656
  val := fun _ => ()
  ens := fun _ _ => True
  res := fun x _ => .tuple [.v (.int .i64 (atoiN x)), .any]
  out := fun _ _ => [] }
theorem atoi_ok : atoiC.ok Tryz.prog 112 := by
  refine ok_of_walk (fun _ => rfl) (fun _ => rfl) (fun s hs => ⟨trivial, fun E w vals hsz hv hg hI => ?_⟩)
  dsimp only at hs
  rw [vals_one hsz, sat_v (hv 0 _ rfl)]
  obtain ⟨a, ⟨te, pe, ha⟩, hm⟩ := glob_some (g := 1) hg (List.mem_cons_of_mem _ (List.mem_cons_self ..))
  obtain ⟨a', ⟨te', pe', ha'⟩, hm'⟩ := glob_some (g := 2) hg (List.mem_cons_of_mem _ (List.mem_cons_of_mem _ (List.mem_cons_self ..)))
  cases h : Lib.atoiAll s.data.toList with
  | ok v =>
    have e : atoiN s = v := by simp [atoiN, h]
    refine (Tryz.strconv_Atoi_ok s (by omega) v h w).mono ?_
    rintro ex w' ⟨rfl, hw⟩
    refine ⟨_, rfl, ?_, ?_, fun h => h.elim⟩
    · show Sat E w' (.tuple [.v (.int .i64 (atoiN s)), .any]) _
      rw [e]; exact sat_any2 ..
    · rcases hw with rfl | ⟨t, rfl⟩
      · exact .refl _ _
      · exact Lib.bytesWorld_below _ _ _
  | range =>
    have e : atoiN s = Lib.atoiSat s.data.toList := by simp [atoiN, h]
    refine (Tryz.strconv_Atoi_range s hs h _ w (hm' _ ha') (.inr ⟨_, _, rfl⟩)).mono ?_
    rintro ex w' ⟨N, rfl, -, -, hw⟩
    exact ⟨_, rfl, by show Sat E w' (.tuple [.v (.int .i64 (atoiN s)), .any]) _; rw [e]; exact sat_any2 .., hw, fun h => h.elim⟩
  | _ =>
    have e : atoiN s = 0 := by simp [atoiN, h]
    refine (Tryz.strconv_Atoi_syntax s hs h _ w (hm _ ha) (.inr ⟨_, _, rfl⟩)).mono ?_
    rintro ex w' ⟨N, rfl, -, -, hw⟩
    exact ⟨_, rfl, by show Sat E w' (.tuple [.v (.int .i64 (atoiN s)), .any]) _; rw [e]; exact sat_any2 .., hw, fun h => h.elim⟩
end Go.Proofs.YthmbdjhlfieldaaGreatDoor

namespace Go.Proofs.YthmbdjhlfieldaaGreatDoor
open Go.Shelf Go.RowKit Go.Sort Go.Lib Go.Eng
set_option linter.unusedVariables false
set_option linter.unusedSimpArgs false
def joinS (l : List ByteArray) (sep : ByteArray) : ByteArray := ⟨(Lib.join (l.map (·.data.toList)) sep.data.toList).toArray⟩
structure JoinX where
  l : List ByteArray
  sep : ByteArray
@[reducible] def joinC : Ctr := {
  X := JoinX
  Y := Unit
  args := fun x => [.ro true .str x.l, .v (.string x.sep)]
  rw := fun _ => []
  side := fun x => x.l.length ≤ 140737488355328 ∧ (joinS x.l x.sep).size ≤ 140737488355328
  val := fun _ => ()
  ens := fun _ _ => True
  res := fun x _ => .v (.string (joinS x.l x.sep))
  out := fun _ _ => [] }
theorem sjoin_ok : joinC.ok Tryz.prog 44 := by
  refine ok_of_walk (fun _ => rfl) (fun _ => rfl) (fun x hs => ⟨trivial, fun E w vals hsz hv hg hI => ?_⟩)
  obtain ⟨l, sep⟩ := x
  obtain ⟨h1, h2⟩ := hs
  dsimp only at h1 h2
  have h2 : (Lib.join (l.map (·.data.toList)) sep.data.toList).length ≤ 140737488355328 := by
    have e : (joinS l sep).size = (Lib.join (l.map (·.data.toList)) sep.data.toList).length := by
      show (Array.size _) = _
      simp [joinS]
    omega
  rw [vals_two hsz, sat_v (hv 1 _ rfl)]
  rcases sat_strs (hv 0 _ rfl) with ⟨rfl, A, c, e⟩ | ⟨k, o, c, e, hk, hc, hcells⟩
  · rw [e]
    refine (Tryz.strings_Join_none A c sep w).mono ?_
    rintro e w' ⟨rfl, rfl⟩
    exact ⟨_, rfl, .v _, Below.refl _ _, fun h => h.elim⟩
  · rw [e]
    refine (Tryz.strings_Join k o c l sep w hcells (env_ok_lt hI hk) h1 hc h2).mono ?_
    rintro e w' ⟨rfl, hb⟩
    exact ⟨_, rfl, .v _, hb, fun h => h.elim⟩
end Go.Proofs.YthmbdjhlfieldaaGreatDoor

set_option linter.unusedVariables false
set_option linter.unusedSimpArgs false
set_option maxRecDepth 100000
set_option maxHeartbeats 4000000
namespace Go.Proofs.YthmbdjhlfieldaaGreatDoor
open Go.Eng
theorem byteAt_some {s : ByteArray} {i : Nat} (h : i < s.size) : (bytesL s)[i]? = some (byteAt s i) := by
  have h' : i < s.data.size := h
  unfold bytesL byteAt
  rw [List.getElem?_map, Array.getElem?_toList]
  have e : s[i]? = s.data[i]? := by
    rw [getElem?_pos s i h, getElem?_pos s.data i h']; rfl
  rw [e, getElem?_pos s.data i h']
  rfl
theorem byteAt_rng (s : ByteArray) (i : Nat) : 0 ≤ byteAt s i ∧ byteAt s i < 256 := by
  unfold byteAt
  split
  · rename_i b _
    have := b.toNat_lt
    omega
  · omega
def okB (l : List Int) : Prop := ∀ c, c ∈ l → 0 ≤ c ∧ c < 256
theorem bytesL_ok (s : ByteArray) : okB (bytesL s) := fun c hc => by
  obtain ⟨b, _, rfl⟩ := List.mem_map.1 hc
  have := b.toNat_lt
  omega
theorem bytes_str : ∀ {l : List Int}, okB l → bytesL (strOfNums l) = l := fun {l} h => by
  unfold bytesL
  rw [strOfNums_data, List.map_map]
  conv => rhs; rw [← List.map_id l]
  refine List.map_congr_left fun c hc => ?_
  obtain ⟨h1, h2⟩ := h c hc
  have : ((UInt8.ofNat c.toNat).toNat : Int) = c := by
    rw [UInt8.toNat_ofNat', Nat.mod_eq_of_lt (by omega)]; omega
  exact this
theorem bytes_inj {a b : ByteArray} (h : bytesL a = bytesL b) : a = b := by rw [← str_bytesL a, h, str_bytesL]
theorem okB_app {a b : List Int} (h : okB a) (h' : okB b) : okB (a ++ b) := fun c hc => (List.mem_append.1 hc).elim (h c) (h' c)
theorem okB_cons {c : Int} {l : List Int} (h : 0 ≤ c ∧ c < 256) (h' : okB l) : okB (c :: l) := fun x hx => by
  rcases List.mem_cons.1 hx with rfl | hx
  · exact h
  · exact h' x hx
theorem okB_tail {c : Int} {l : List Int} (h : okB (c :: l)) : okB l := fun x hx => h x (List.mem_cons_of_mem _ hx)
theorem take_get {α : Type} {l : List α} {i : Nat} {c : α} (h : l[i]? = some c) : l.take (i + 1) = l.take i ++ [c] := by
  rw [List.take_add_one, h]; rfl


/-- A number's digits. -/
def decL (n : Nat) : List Int := if h : n < 10 then [48 + (n : Int)] else decL (n / 10) ++ [48 + ((n % 10 : Nat) : Int)]
termination_by n
decreasing_by omega
theorem decL_small {n : Nat} (h : n < 10) : decL n = [48 + (n : Int)] := by rw [decL, dif_pos h]
theorem decL_great {n : Nat} (h : ¬ n < 10) : decL n = decL (n / 10) ++ [48 + ((n % 10 : Nat) : Int)] := by rw [decL, dif_neg h]
theorem decL_dec (n : Nat) : (Lib.decDigits n).map (fun b => (b.toNat : Int)) = decL n := by
  induction n using Nat.strongRecOn with
  | _ n ih =>
    by_cases h : n < 10
    · rw [decL_small h, Lib.decDigits, dif_pos h]
      simp only [List.map_cons, List.map_nil, UInt8.toNat_ofNat']
      congr 1; omega
    · rw [decL_great h, Lib.decDigits, dif_neg h, List.map_append, ih (n / 10) (by omega)]
      simp only [List.map_cons, List.map_nil, UInt8.toNat_ofNat']
      congr 2; omega
theorem itoa_dec {n : Int} (h : 0 ≤ n) : itoaS n = strOfNums (decL n.toNat) := by
  obtain ⟨k, rfl⟩ := Int.eq_ofNat_of_zero_le h
  rw [itoaS_nat, ← str_bytesL (decS k)]
  show _ = strOfNums (decL k)
  rw [← decL_dec]; rfl
theorem decL_len : ∀ (k n : Nat), n < 10 ^ (k + 1) → (decL n).length ≤ k + 1
  | 0, n, h => by rw [decL_small (by omega)]; simp
  | k + 1, n, h => by
    by_cases h10 : n < 10
    · rw [decL_small h10]; simp
    · have := decL_len k (n / 10) (by rw [Nat.pow_succ] at h; omega)
      rw [decL_great h10, List.length_append, List.length_singleton]; omega

@[reducible] def digitsC : Ctr := {
  X := Int
  Y := Unit
  args := fun n => [.v (.int .i64 n)]
  rw := fun _ => []
  side := fun n => 0 ≤ n ∧ n ≤ 1099511627776
  val := fun _ => ()
  ens := fun _ _ => True
  res := fun n _ => .v (.string (strOfNums (decL n.toNat)))
  out := fun _ _ => [] }
structure DigS where
  m : Nat
  r : List Int
@[reducible] def digitsL (n : Int) : LA := {
  X := DigS
  pre := fun s => decL s.m ++ s.r = decL n.toNat ∧ s.m ≤ 1099511627776
  mu := fun s => s.m
  T := fun s => [(0, .v (.int .i64 (s.m : Nat))), (3, .v (.string (strOfNums s.r)))]
  M := fun _ => [] }
theorem digits_ok : digitsC.ok Tryz.prog 92 := by
  refine ok_of_vc (An := fun (n : Int) => anOf [(0, .loop (digitsL n))]) (known_nil _) mo Tryz.func92 (by kernel_rfl) (by kernel_rfl) (fun _ _ => trivial) (fun (n : Int) hs => ?_)
  obtain ⟨h0, h1⟩ : 0 ≤ n ∧ n ≤ 1099511627776 := hs
  have hlen := decL_len 12 n.toNat (by omega)
  (refine Z ?_; repeat' (first | exact .intro | ((first | refine B1 (fun h => ?_) fun h => ?_ | refine B2 fun y he he' hy => ?_ | refine B3 fun y he hy => ?_ | refine B4 fun y hy => ?_ | refine B5 fun ck => ?_ | fail) <;> refine Z ?_)))
  refine Some'.mk ⟨n.toNat, []⟩ ?_
  (refine Z ?_; repeat' (first | exact .intro | ((first | refine B1 (fun h => ?_) fun h => ?_ | refine B2 fun y he he' hy => ?_ | refine B3 fun y he hy => ?_ | refine B4 fun y hy => ?_ | refine B5 fun ck => ?_ | fail) <;> refine Z ?_)))
  refine Ask.mk ⟨List.append_nil _, by dsimp only; omega⟩ ?_
  (refine Z ?_; repeat' (first | exact .intro | ((first | refine B1 (fun h => ?_) fun h => ?_ | refine B2 fun y he he' hy => ?_ | refine B3 fun y he hy => ?_ | refine B4 fun y hy => ?_ | refine B5 fun ck => ?_ | fail) <;> refine Z ?_)))
  refine AllI.mk ?_
  rintro ⟨m, r⟩ ⟨hm, hb⟩
  dsimp only at hm hb
  have hrl : r.length ≤ 13 := by
    have := congrArg List.length hm
    rw [List.length_append] at this; omega
  have htm : ((m : Nat) : Int).tmod 10 = ((m % 10 : Nat) : Int) := (Int.ofNat_tmod m 10).symm
  have htd : ((m : Nat) : Int).tdiv 10 = ((m / 10 : Nat) : Int) := (Int.ofNat_tdiv m 10).symm
  by_cases h10 : m < 10
  · have e := decL_small h10
    have hw : IntKind.u8.wrap (48 + ((m : Nat) : Int)) = 48 + ((m : Nat) : Int) := wrap_u8 (by omega) (by omega)
    (refine Z ?_; repeat' (first | exact .intro | ((first | refine B1 (fun h => ?_) fun h => ?_ | refine B2 fun y he he' hy => ?_ | refine B3 fun y he hy => ?_ | refine B4 fun y hy => ?_ | refine B5 fun ck => ?_ | fail) <;> refine Z ?_)))
    refine Ask.mk (by simp only [str_size, List.length_cons, List.length_nil]; omega) ?_
    (refine Zn ?_; repeat' (first | exact .intro | ((first | refine B1 (fun h => ?_) fun h => ?_ | refine B2 fun y he he' hy => ?_ | refine B3 fun y he hy => ?_ | refine B4 fun y hy => ?_ | refine B5 fun ck => ?_ | fail) <;> refine Zn ?_)))
    refine AskL.mk ?_ trivial
    simp only [conj, str_cat, hw]
    rw [← hm, e]
  · have e := decL_great h10
    have hw : IntKind.u8.wrap (48 + ((m % 10 : Nat) : Int)) = 48 + ((m % 10 : Nat) : Int) := wrap_u8 (by omega) (by omega)
    have lm := And.intro htm (And.intro htd hw)
    (refine Z ?_; repeat' (first | exact .intro | ((first | refine B1 (fun h => ?_) fun h => ?_ | refine B2 fun y he he' hy => ?_ | refine B3 fun y he hy => ?_ | refine B4 fun y hy => ?_ | refine B5 fun ck => ?_ | fail) <;> refine Z ?_)))
    refine Ask.mk (by simp only [str_size, List.length_cons, List.length_nil]; omega) ?_
    (refine Z ?_; repeat' (first | exact .intro | ((first | refine B1 (fun h => ?_) fun h => ?_ | refine B2 fun y he he' hy => ?_ | refine B3 fun y he hy => ?_ | refine B4 fun y hy => ?_ | refine B5 fun ck => ?_ | fail) <;> refine Z ?_)))
    refine Some'.mk ⟨m / 10, (48 + ((m % 10 : Nat) : Int)) :: r⟩ ?_
    (refine Zn ?_; repeat' (first | exact .intro | ((first | refine B1 (fun h => ?_) fun h => ?_ | refine B2 fun y he he' hy => ?_ | refine B3 fun y he hy => ?_ | refine B4 fun y hy => ?_ | refine B5 fun ck => ?_ | fail) <;> refine Zn ?_)))
    refine AskL.mk ?_ ?_
    · simp only [conj, str_cat, htm, htd, hw]
      (repeat' apply And.intro) <;> first | rfl | trivial
    (refine Z ?_; repeat' (first | exact .intro | ((first | refine B1 (fun h => ?_) fun h => ?_ | refine B2 fun y he he' hy => ?_ | refine B3 fun y he hy => ?_ | refine B4 fun y hy => ?_ | refine B5 fun ck => ?_ | fail) <;> refine Z ?_)))
    refine Ask.mk ⟨by show decL (m / 10) ++ _ :: r = _; rw [← hm, e, List.append_assoc]; rfl, by dsimp only; omega⟩ ?_
    exact G1

def isD (c : Int) : Bool := decide (48 ≤ c ∧ c ≤ 57)
def numV (l : List Int) : Int := l.foldl (fun n c => n * 10 + (c - 48)) 0
theorem numV_snoc (l : List Int) (c : Int) : numV (l ++ [c]) = numV l * 10 + (c - 48) := by simp [numV]
def numOk (l : List Int) : Bool := decide (1 ≤ l.length ∧ l.length ≤ 18 ∧ ¬ (1 < l.length ∧ l[0]? = some 48)) && l.all isD
theorem numV_rng : ∀ (k : Nat) (l : List Int), l.length = k → l.all isD = true → 0 ≤ numV l ∧ numV l < 10 ^ k
  | 0, [], _, _ => by simp [numV]
  | k + 1, l, h, ha => by
    have hne : l ≠ [] := fun e => by rw [e] at h; simp at h
    have e := List.dropLast_concat_getLast hne
    rw [← e] at ha ⊢
    rw [List.all_append, Bool.and_eq_true] at ha
    have := numV_rng k l.dropLast (by rw [List.length_dropLast]; omega) ha.1
    have hc : isD (l.getLast hne) = true := by simpa using ha.2
    unfold isD at hc
    have hc := of_decide_eq_true hc
    rw [numV_snoc, Int.pow_succ]
    omega
  | 0, _ :: _, h, _ => by simp at h
@[reducible] def rNumTC : Ctr := {
  X := ByteArray
  Y := Unit
  args := fun s => [.v (.string s)]
  rw := fun _ => []
  side := fun s => s.size ≤ 100000000000
  val := fun _ => ()
  ens := fun _ _ => True
  res := fun s _ => .tuple [.v (.int .i64 (if numOk (bytesL s) then numV (bytesL s) else 0)), .v (.bool (numOk (bytesL s)))]
  out := fun _ _ => [] }
@[reducible] def rNumTL (s : ByteArray) : LA := {
  X := Nat
  pre := fun i => i ≤ s.size ∧ ((bytesL s).take i).all isD = true
  mu := fun i => s.size - i
  T := fun i => [(0, .v (.string s)), (4, .v (.int .i64 (numV ((bytesL s).take i)))), (5, .v (.int .i64 (i : Nat)))]
  M := fun _ => [] }
theorem num_not {l : List Int} (h : ¬ (1 ≤ l.length ∧ l.length ≤ 18 ∧ ¬ (1 < l.length ∧ l[0]? = some 48))) : numOk l = false := by
  unfold numOk; rw [decide_eq_false h, Bool.false_and]
theorem num_not2 {l : List Int} {i : Nat} {c : Int} (h : l[i]? = some c) (hc : isD c = false) : numOk l = false := by
  unfold numOk
  have : l.all isD = false := List.all_eq_false.2 ⟨c, List.mem_of_getElem? h, by simp [hc]⟩
  rw [this, Bool.and_false]
theorem pow_le18 {i : Nat} (h : i ≤ 17) : (10 : Int) ^ i ≤ 100000000000000000 := by
  have : (10 : Nat) ^ i ≤ 10 ^ 17 := Nat.pow_le_pow_right (by omega) h
  have e : ((10 ^ i : Nat) : Int) = (10 : Int) ^ i := by norm_cast
  omega
theorem rNumT_ok : rNumTC.ok Tryz.prog 87 := by
  refine ok_of_vc (An := fun (s : ByteArray) => anOf [(0, .loop (rNumTL s))]) (known_nil _) mo Tryz.func87 (by kernel_rfl) (by kernel_rfl) (fun _ _ => trivial) (fun (s : ByteArray) hs => ?_)
  have hs : s.size ≤ 100000000000 := hs
  have hbl := bytesL_length s
  by_cases hg : 1 ≤ (bytesL s).length ∧ (bytesL s).length ≤ 18 ∧ ¬ (1 < (bytesL s).length ∧ (bytesL s)[0]? = some 48)
  · rw [hbl] at hg
    have hb0 := byteAt_some (s := s) (i := 0) (by omega)
    rw [hb0] at hg
    have hg' : ¬ (1 < s.size ∧ byteAt s (Int.toNat 0) = 48) := fun hh => hg.2.2 ⟨hh.1, congrArg some hh.2⟩
    obtain ⟨hg1, hg2, -⟩ := hg
    (refine Z ?_; repeat' (first | exact .intro | ((first | refine B1 (fun h => ?_) fun h => ?_ | refine B2 fun y he he' hy => ?_ | refine B3 fun y he hy => ?_ | refine B4 fun y hy => ?_ | refine B5 fun ck => ?_ | fail) <;> refine Z ?_)))
    all_goals
      refine Some'.mk (0 : Nat) ?_
      (refine Z ?_; repeat' (first | exact .intro | ((first | refine B1 (fun h => ?_) fun h => ?_ | refine B2 fun y he he' hy => ?_ | refine B3 fun y he hy => ?_ | refine B4 fun y hy => ?_ | refine B5 fun ck => ?_ | fail) <;> refine Z ?_)))
      refine Ask.mk ⟨Nat.zero_le _, rfl⟩ ?_
      (refine Z ?_; repeat' (first | exact .intro | ((first | refine B1 (fun h => ?_) fun h => ?_ | refine B2 fun y he he' hy => ?_ | refine B3 fun y he hy => ?_ | refine B4 fun y hy => ?_ | refine B5 fun ck => ?_ | fail) <;> refine Z ?_)))
      refine AllI.mk ?_
      rintro (i : Nat) ⟨hi, hal⟩
      have hi : i ≤ s.size := hi
      have hal : ((bytesL s).take i).all isD = true := hal
      by_cases e : i = s.size
      · subst e
        have ht : (bytesL s).take s.size = bytesL s := by rw [← hbl]; exact List.take_length
        rw [ht] at hal
        have hok : numOk (bytesL s) = true := by
          unfold numOk
          rw [hal, Bool.and_true]
          refine decide_eq_true ⟨by omega, by omega, fun hh => hg' ⟨by omega, ?_⟩⟩
          have := hh.2
          rw [hb0] at this
          exact Option.some.inj this
        exact G1
      · have hc := byteAt_some (s := s) (i := i) (by omega)
        obtain ⟨c0, c1⟩ := byteAt_rng s i
        have hbi : byteAt s ((i : Nat) : Int).toNat = byteAt s i := rfl
        have hr := numV_rng i ((bytesL s).take i) (by rw [List.length_take]; omega) hal
        have hp := pow_le18 (i := i) (by omega)
        have ht := take_get hc
        by_cases hd : isD (byteAt s i) = true
        · have hd' : 48 ≤ byteAt s i ∧ byteAt s i ≤ 57 := of_decide_eq_true hd
          have hal' : ((bytesL s).take (i + 1)).all isD = true := by rw [ht, List.all_append, hal]; simpa using hd
          have hv := numV_snoc ((bytesL s).take i) (byteAt s i)
          rw [← ht] at hv
          have hw : IntKind.i64.wrap (byteAt s ((i : Nat) : Int).toNat - 48) = byteAt s i - 48 := wrap_i64 (by omega) (by omega)
          have lm := hw
          (refine Z ?_; repeat' (first | exact .intro | ((first | refine B1 (fun h => ?_) fun h => ?_ | refine B2 fun y he he' hy => ?_ | refine B3 fun y he hy => ?_ | refine B4 fun y hy => ?_ | refine B5 fun ck => ?_ | fail) <;> refine Z ?_)))
          refine Some'.mk (i + 1) ?_
          (refine Z ?_; repeat' (first | exact .intro | ((first | refine B1 (fun h => ?_) fun h => ?_ | refine B2 fun y he he' hy => ?_ | refine B3 fun y he hy => ?_ | refine B4 fun y hy => ?_ | refine B5 fun ck => ?_ | fail) <;> refine Z ?_)))
          refine Ask.mk ⟨by dsimp only; omega, hal'⟩ ?_
          exact G1
        · have hf : isD (byteAt s i) = false := by simpa using hd
          have hd' : ¬ (48 ≤ byteAt s i ∧ byteAt s i ≤ 57) := of_decide_eq_false hf
          have hno := num_not2 hc hf
          exact G1
  · have hno := num_not hg
    (refine Z ?_; repeat' (first | exact .intro | ((first | refine B1 (fun h => ?_) fun h => ?_ | refine B2 fun y he he' hy => ?_ | refine B3 fun y he hy => ?_ | refine B4 fun y hy => ?_ | refine B5 fun ck => ?_ | fail) <;> refine Z ?_)))
    exfalso
    refine hg ⟨by omega, by omega, fun hh => ?_⟩
    have h0 := byteAt_some (s := s) (i := 0) (by omega)
    rw [h0] at hh
    have h2 : byteAt s (Int.toNat 0) = 48 := Option.some.inj hh.2
    omega

/-- A list cut at each c. -/
def splitL (c : Int) : List Int → List (List Int)
  | [] => [[]]
  | b :: l => if b = c then [] :: splitL c l else match splitL c l with
    | [] => [[b]]
    | w :: ws => (b :: w) :: ws
theorem splitL_ne (c : Int) : ∀ l, splitL c l ≠ []
  | [] => by simp [splitL]
  | b :: l => by
    unfold splitL
    split
    · simp
    · split <;> simp
theorem splitL_len (c : Int) (l : List Int) : 0 < (splitL c l).length := List.length_pos_iff.2 (splitL_ne c l)
theorem splitL_le (c : Int) : ∀ l, (splitL c l).length ≤ l.length + 1
  | [] => by simp [splitL]
  | b :: l => by
    have := splitL_le c l
    unfold splitL
    split
    · simp only [List.length_cons]; omega
    · split
      · simp
      · rename_i h; rw [h] at this; simp only [List.length_cons] at this ⊢; omega
theorem splitL_mem (c : Int) : ∀ (l w : List Int), w ∈ splitL c l → w.length ≤ l.length ∧ ∀ x, x ∈ w → x ∈ l ∧ x ≠ c
  | [], w, h => by
    obtain rfl : w = [] := by simpa [splitL] using h
    exact ⟨Nat.le_refl _, fun x hx => by cases hx⟩
  | b :: l, w, h => by
    unfold splitL at h
    split at h
    · rcases List.mem_cons.1 h with rfl | h
      · exact ⟨Nat.zero_le _, fun x hx => by cases hx⟩
      · obtain ⟨h1, h2⟩ := splitL_mem c l w h
        exact ⟨by simp only [List.length_cons]; omega, fun x hx => ⟨List.mem_cons_of_mem _ (h2 x hx).1, (h2 x hx).2⟩⟩
    · rename_i hb
      split at h
      · rename_i he; exact absurd he (splitL_ne c l)
      · rename_i v vs he
        have ih := splitL_mem c l
        rw [he] at ih
        rcases List.mem_cons.1 h with rfl | h
        · obtain ⟨h1, h2⟩ := ih v (List.mem_cons_self ..)
          refine ⟨by simp only [List.length_cons]; omega, fun x hx => ?_⟩
          rcases List.mem_cons.1 hx with rfl | hx
          · exact ⟨List.mem_cons_self .., hb⟩
          · exact ⟨List.mem_cons_of_mem _ (h2 x hx).1, (h2 x hx).2⟩
        · obtain ⟨h1, h2⟩ := ih w (List.mem_cons_of_mem _ h)
          exact ⟨by simp only [List.length_cons]; omega, fun x hx => ⟨List.mem_cons_of_mem _ (h2 x hx).1, (h2 x hx).2⟩⟩
theorem splitL_cons_ne {c b : Int} {l w : List Int} {ws : List (List Int)} (hb : ¬ b = c) (h : splitL c l = w :: ws) : splitL c (b :: l) = (b :: w) :: ws := by
  rw [splitL, if_neg hb, h]
theorem splitL_free {c : Int} : ∀ {l : List Int}, c ∉ l → splitL c l = [l]
  | [], _ => rfl
  | b :: l, h => by
    have h1 : ¬ b = c := fun e => h (by rw [e]; exact List.mem_cons_self ..)
    exact splitL_cons_ne h1 (splitL_free (fun hc => h (List.mem_cons_of_mem _ hc)))
theorem splitL_sep (c : Int) : ∀ l, splitL c (l ++ [c]) = splitL c l ++ [[]]
  | [] => by simp [splitL]
  | b :: l => by
    have ih := splitL_sep c l
    by_cases hb : b = c
    · simp only [List.cons_append, splitL, if_pos hb, ih]
    · cases h : splitL c l with
      | nil => exact absurd h (splitL_ne c l)
      | cons w ws =>
        rw [h] at ih
        rw [List.cons_append, splitL_cons_ne hb h, splitL_cons_ne hb (ws := ws ++ [[]]) ih]
        rfl
theorem splitL_snoc {c x : Int} (hx : ¬ x = c) : ∀ (l : List Int) (w : List Int), (splitL c l)[(splitL c l).length - 1]? = some w → splitL c (l ++ [x]) = (splitL c l).set ((splitL c l).length - 1) (w ++ [x])
  | [], w, h => by
    obtain rfl : [] = w := by simpa [splitL] using h
    simp [splitL, hx]
  | b :: l, w, h => by
    by_cases hb : b = c
    · have e : splitL c (b :: l) = [] :: splitL c l := by rw [splitL, if_pos hb]
      have hp := splitL_len c l
      rw [e] at h ⊢
      rw [List.length_cons] at h ⊢
      obtain ⟨k, hk⟩ : ∃ k, (splitL c l).length = k + 1 := ⟨_, (Nat.succ_pred_eq_of_pos hp).symm⟩
      rw [hk] at h ⊢
      have ih := splitL_snoc hx l w (by rw [hk]; simpa using h)
      rw [hk] at ih
      rw [List.cons_append, splitL, if_pos hb, ih]
      rfl
    · cases hl : splitL c l with
      | nil => exact absurd hl (splitL_ne c l)
      | cons v ws =>
        have e := splitL_cons_ne hb hl
        rw [e] at h ⊢
        cases ws with
        | nil =>
          obtain rfl : b :: v = w := by simpa using h
          have ih := splitL_snoc hx l v (by rw [hl]; rfl)
          rw [hl] at ih
          rw [List.cons_append, splitL_cons_ne hb (w := v ++ [x]) (ws := []) (by rw [ih]; rfl)]
          rfl
        | cons u us =>
          have ih := splitL_snoc hx l w (by rw [hl]; simpa using h)
          rw [hl] at ih
          have ih' : splitL c (l ++ [x]) = v :: (u :: us).set us.length (w ++ [x]) := by rw [ih]; rfl
          rw [List.cons_append, splitL_cons_ne hb ih']
          rfl

structure SplX where
  s : ByteArray
  c : Int
@[reducible] def rSplitC : Ctr := {
  X := SplX
  Y := Unit
  args := fun x => [.v (.string x.s), .v (.int .u8 x.c)]
  rw := fun _ => []
  side := fun x => x.s.size ≤ 100000000000
  val := fun _ => ()
  ens := fun _ _ => True
  res := fun x _ => .ro false .str ((splitL x.c (bytesL x.s)).map strOfNums)
  out := fun _ _ => [] }
structure SplS where
  b : Bool
  i : Nat
@[reducible] def rSplitL (x : SplX) : LA := {
  X := SplS
  pre := fun s => s.i ≤ x.s.size ∧ (s.b = true ↔ x.c ∈ (bytesL x.s).take s.i)
  mu := fun s => x.s.size - s.i
  T := fun s => [(0, .v (.string x.s)), (1, .v (.int .u8 x.c)), (5, match s.b with | true => .sl 2 | false => .slc 2 0 1 1), (6, .v (.int .i64 (s.i : Nat)))]
  M := fun s => [(2, match s.b with | true => .row 9 .str ((splitL x.c ((bytesL x.s).take s.i)).map strOfNums) | false => .cells 9 [.v (.string (strOfNums ((bytesL x.s).take s.i)))])] }
theorem extract_at {s : ByteArray} {i : Nat} (h : i < s.size) : s.extract i (i + 1) = strOfNums [byteAt s i] := by
  apply bytes_inj
  obtain ⟨c0, c1⟩ := byteAt_rng s i
  rw [bytes_str (okB_cons ⟨c0, c1⟩ (fun _ h => by cases h))]
  have h' : i < s.data.toList.length := h
  have e : (s.extract i (i + 1)).data.toList = [s.data.toList[i]] := by
    simp only [ByteArray.data_extract, Array.toList_extract, List.extract_eq_take_drop]
    rw [show i + 1 - i = 1 by omega, List.drop_eq_getElem_cons h']; rfl
  have hc := byteAt_some h
  unfold bytesL at hc ⊢
  rw [e]
  rw [List.getElem?_map, List.getElem?_eq_getElem h'] at hc
  simpa using hc
theorem rSplit_ok : rSplitC.ok Tryz.prog 40 := by
  refine ok_of_vc (An := fun (x : SplX) => anOf [(0, .loop (rSplitL x))]) (known_nil _) mo Tryz.func40 (by kernel_rfl) (by kernel_rfl) (fun _ _ => trivial) (fun x hs => ?_)
  obtain ⟨s, c⟩ := x
  have hs : s.size ≤ 100000000000 := hs
  have hbl := bytesL_length s
  (refine Z ?_; repeat' (first | exact .intro | ((first | refine B1 (fun h => ?_) fun h => ?_ | refine B2 fun y he he' hy => ?_ | refine B3 fun y he hy => ?_ | refine B4 fun y hy => ?_ | refine B5 fun ck => ?_ | fail) <;> refine Z ?_)))
  refine Some'.mk ⟨false, 0⟩ ?_
  (refine Z ?_; repeat' (first | exact .intro | ((first | refine B1 (fun h => ?_) fun h => ?_ | refine B2 fun y he he' hy => ?_ | refine B3 fun y he hy => ?_ | refine B4 fun y hy => ?_ | refine B5 fun ck => ?_ | fail) <;> refine Z ?_)))
  refine Ask.mk ⟨Nat.zero_le _, by simp⟩ ?_
  (refine Z ?_; repeat' (first | exact .intro | ((first | refine B1 (fun h => ?_) fun h => ?_ | refine B2 fun y he he' hy => ?_ | refine B3 fun y he hy => ?_ | refine B4 fun y hy => ?_ | refine B5 fun ck => ?_ | fail) <;> refine Z ?_)))
  refine AllI.mk ?_
  rintro ⟨b, i⟩ ⟨hi, hmem⟩
  have hi : i ≤ s.size := hi
  have hmem : b = true ↔ c ∈ (bytesL s).take i := hmem
  by_cases e : i = s.size
  · subst e
    have ht : (bytesL s).take s.size = bytesL s := by rw [← hbl]; exact List.take_length
    cases b with
    | true =>
      exact G1
    | false =>
      have hfree : c ∉ bytesL s := fun hc => by
        rw [ht] at hmem
        exact absurd (hmem.2 hc) (by decide)
      have hsp := splitL_free hfree
      (refine Z ?_; repeat' (first | exact .intro | ((first | refine B1 (fun h => ?_) fun h => ?_ | refine B2 fun y he he' hy => ?_ | refine B3 fun y he hy => ?_ | refine B4 fun y hy => ?_ | refine B5 fun ck => ?_ | fail) <;> refine Z ?_)))
      rw [hsp]
      exact G1
  · have hc := byteAt_some (s := s) (i := i) (by omega)
    have hbi : byteAt s ((i : Nat) : Int).toNat = byteAt s i := rfl
    have ht := take_get hc
    have hle := splitL_le c ((bytesL s).take i)
    have hpos := splitL_len c ((bytesL s).take i)
    have hti : ((bytesL s).take i).length ≤ s.size := by rw [List.length_take]; omega
    have hml : (((splitL c ((bytesL s).take i)).map strOfNums).length : Int) = (splitL c ((bytesL s).take i)).length := by rw [List.length_map]
    have hx := extract_at (s := s) (i := i) (by omega)
    have hx' : s.extract ((i : Nat) : Int).toNat (((i : Nat) : Int) + 1).toNat = strOfNums [byteAt s i] := by rw [← hx]; rfl
    cases b with
    | true =>
      have hin := hmem.1 rfl
      (refine Zm ?_; repeat' (first | exact .intro | ((first | refine B1 (fun h => ?_) fun h => ?_ | refine B2 fun y he he' hy => ?_ | refine B3 fun y he hy => ?_ | refine B4 fun y hy => ?_ | refine B5 fun ck => ?_ | fail) <;> refine Zm ?_)))
      · refine Some'.mk ⟨true, i + 1⟩ ?_
        (refine Zn ?_; repeat' (first | exact .intro | ((first | refine B1 (fun h => ?_) fun h => ?_ | refine B2 fun y he he' hy => ?_ | refine B3 fun y he hy => ?_ | refine B4 fun y hy => ?_ | refine B5 fun ck => ?_ | fail) <;> refine Zn ?_)))
        have hc' : byteAt s i = c := h
        refine AskL.mk ?_ ?_
        · simp only [conj]
          rw [ht, hc', splitL_sep, List.map_append]
          (repeat' apply And.intro) <;> first | rfl | trivial | omega
        (refine Z ?_; repeat' (first | exact .intro | ((first | refine B1 (fun h => ?_) fun h => ?_ | refine B2 fun y he he' hy => ?_ | refine B3 fun y he hy => ?_ | refine B4 fun y hy => ?_ | refine B5 fun ck => ?_ | fail) <;> refine Z ?_)))
        refine Ask.mk ⟨by dsimp only; omega, fun _ => ?_, fun _ => rfl⟩ ?_
        · show c ∈ (bytesL s).take (i + 1)
          rw [ht]; exact List.mem_append_left _ hin
        exact G1
      · refine All'.mk ?_; rintro (y : ByteArray) hy
        have hy : ((splitL c ((bytesL s).take i)).map strOfNums)[(splitL c ((bytesL s).take i)).length - 1]? = some y := by
          rw [← hy]; congr 1
          show _ = ((((splitL c ((bytesL s).take i)).map strOfNums).length : Int) - 1).toNat
          rw [List.length_map]; omega
        obtain ⟨w, hw, rfl⟩ : ∃ w, (splitL c ((bytesL s).take i))[(splitL c ((bytesL s).take i)).length - 1]? = some w ∧ strOfNums w = y := by
          rw [List.getElem?_map] at hy
          obtain ⟨w, h1, h2⟩ := Option.map_eq_some_iff.1 hy
          exact ⟨w, h1, h2⟩
        have hwl := (splitL_mem c _ w (List.mem_of_getElem? hw)).1
        (refine Z ?_; repeat' (first | exact .intro | ((first | refine B1 (fun h => ?_) fun h => ?_ | refine B2 fun y he he' hy => ?_ | refine B3 fun y he hy => ?_ | refine B4 fun y hy => ?_ | refine B5 fun ck => ?_ | fail) <;> refine Z ?_)))
        refine Ask.mk ?_ ?_
        · rw [hx']; simp only [str_size, List.length_cons, List.length_nil]; omega
        (refine Z ?_; repeat' (first | exact .intro | ((first | refine B1 (fun h => ?_) fun h => ?_ | refine B2 fun y he he' hy => ?_ | refine B3 fun y he hy => ?_ | refine B4 fun y hy => ?_ | refine B5 fun ck => ?_ | fail) <;> refine Z ?_)))
        refine Some'.mk (strOfNums (w ++ [byteAt s i])) ?_
        have hcat : strOfNums w ++ s.extract ((i : Nat) : Int).toNat (((i : Nat) : Int) + 1).toNat = strOfNums (w ++ [byteAt s i]) := by rw [hx', str_cat]
        refine Eqn.mk (by show some [SV.v (.string (strOfNums w ++ s.extract ((i : Nat) : Int).toNat (((i : Nat) : Int) + 1).toNat))] = _; rw [hcat]; rfl) ?_
        (refine Z ?_; repeat' (first | exact .intro | ((first | refine B1 (fun h => ?_) fun h => ?_ | refine B2 fun y he he' hy => ?_ | refine B3 fun y he hy => ?_ | refine B4 fun y hy => ?_ | refine B5 fun ck => ?_ | fail) <;> refine Z ?_)))
        refine Some'.mk ⟨true, i + 1⟩ ?_
        have hc' : ¬ byteAt s i = c := h
        have hsn := splitL_snoc hc' _ w hw
        (refine Zn ?_; repeat' (first | exact .intro | ((first | refine B1 (fun h => ?_) fun h => ?_ | refine B2 fun y he he' hy => ?_ | refine B3 fun y he hy => ?_ | refine B4 fun y hy => ?_ | refine B5 fun ck => ?_ | fail) <;> refine Zn ?_)))
        refine AskL.mk ?_ ?_
        · have hrow : ((splitL c ((bytesL s).take i)).map strOfNums).set (((((splitL c ((bytesL s).take i)).map strOfNums).length : Nat) : Int) - 1).toNat (strOfNums (w ++ [byteAt s i])) = (splitL c ((bytesL s).take (i + 1))).map strOfNums := by
            rw [ht, hsn, List.map_set]
            congr 1
            rw [List.length_map]; omega
          exact ⟨⟨⟨rfl, rfl⟩, by show ((i : Nat) : Int) + 1 = ((i + 1 : Nat) : Int); omega⟩, congrArg (SV.ro true Ty.str) hrow⟩
        (refine Z ?_; repeat' (first | exact .intro | ((first | refine B1 (fun h => ?_) fun h => ?_ | refine B2 fun y he he' hy => ?_ | refine B3 fun y he hy => ?_ | refine B4 fun y hy => ?_ | refine B5 fun ck => ?_ | fail) <;> refine Z ?_)))
        refine Ask.mk ⟨by dsimp only; omega, fun _ => ?_, fun _ => rfl⟩ ?_
        · show c ∈ (bytesL s).take (i + 1)
          rw [ht]; exact List.mem_append_left _ hin
        exact G1
    | false =>
      have hfree : c ∉ (bytesL s).take i := fun hc => absurd (hmem.2 hc) (by decide)
      have hsp := splitL_free hfree
      (refine Z ?_; repeat' (first | exact .intro | ((first | refine B1 (fun h => ?_) fun h => ?_ | refine B2 fun y he he' hy => ?_ | refine B3 fun y he hy => ?_ | refine B4 fun y hy => ?_ | refine B5 fun ck => ?_ | fail) <;> refine Z ?_)))
      · refine Some'.mk ⟨true, i + 1⟩ ?_
        (refine Zn ?_; repeat' (first | exact .intro | ((first | refine B1 (fun h => ?_) fun h => ?_ | refine B2 fun y he he' hy => ?_ | refine B3 fun y he hy => ?_ | refine B4 fun y hy => ?_ | refine B5 fun ck => ?_ | fail) <;> refine Zn ?_)))
        have hc' : byteAt s i = c := h
        refine AskL.mk ?_ ?_
        · simp only [conj]
          rw [ht, hc', splitL_sep, hsp]
          (repeat' apply And.intro) <;> first | rfl | trivial | omega
        (refine Z ?_; repeat' (first | exact .intro | ((first | refine B1 (fun h => ?_) fun h => ?_ | refine B2 fun y he he' hy => ?_ | refine B3 fun y he hy => ?_ | refine B4 fun y hy => ?_ | refine B5 fun ck => ?_ | fail) <;> refine Z ?_)))
        refine Ask.mk ⟨by dsimp only; omega, fun _ => ?_, fun _ => rfl⟩ ?_
        · show c ∈ (bytesL s).take (i + 1)
          rw [ht, hc']; exact List.mem_append_right _ (List.mem_cons_self ..)
        exact G1
      · rw [hx']
        refine Ask.mk ?_ ?_
        · simp only [str_size, List.length_cons, List.length_nil]; omega
        (refine Z ?_; repeat' (first | exact .intro | ((first | refine B1 (fun h => ?_) fun h => ?_ | refine B2 fun y he he' hy => ?_ | refine B3 fun y he hy => ?_ | refine B4 fun y hy => ?_ | refine B5 fun ck => ?_ | fail) <;> refine Z ?_)))
        refine Some'.mk ⟨false, i + 1⟩ ?_
        (refine Zn ?_; repeat' (first | exact .intro | ((first | refine B1 (fun h => ?_) fun h => ?_ | refine B2 fun y he he' hy => ?_ | refine B3 fun y he hy => ?_ | refine B4 fun y hy => ?_ | refine B5 fun ck => ?_ | fail) <;> refine Zn ?_)))
        refine AskL.mk ?_ ?_
        · simp only [conj]
          rw [ht, str_cat]
          (repeat' apply And.intro) <;> first | rfl | trivial | omega
        (refine Z ?_; repeat' (first | exact .intro | ((first | refine B1 (fun h => ?_) fun h => ?_ | refine B2 fun y he he' hy => ?_ | refine B3 fun y he hy => ?_ | refine B4 fun y hy => ?_ | refine B5 fun ck => ?_ | fail) <;> refine Z ?_)))
        have hc' : ¬ byteAt s i = c := h
        refine Ask.mk ⟨by dsimp only; omega, fun hh => Bool.noConfusion hh, fun hh => ?_⟩ ?_
        · have hh : c ∈ (bytesL s).take (i + 1) := hh
          rw [ht] at hh
          rcases List.mem_append.1 hh with hh | hh
          · exact absurd hh hfree
          · exact absurd (List.mem_singleton.1 hh).symm hc'
        exact G1

abbrev toI (l : List UInt8) : List Int := l.map fun b => (b.toNat : Int)
theorem toI_inj {b c : UInt8} : ((b.toNat : Int) = (c.toNat : Int)) ↔ b = c := ⟨fun h => UInt8.toNat_inj.1 (by omega), fun h => by rw [h]⟩
theorem splitK_L (c : UInt8) : ∀ l : List UInt8, (Lib.splitK [c] 0 (Lib.count l [c]) l).map toI = splitL (c.toNat : Int) (toI l)
  | [] => by
    rw [Lib.count_miss (by simp [Lib.index])]
    rfl
  | b :: l => by
    have ih := splitK_L c l
    by_cases h : b = c
    · subst h
      rw [Lib.count_cons_eq, Nat.add_comm, Lib.splitK]
      have hix : Lib.index (b :: l) [b] = 0 := by rw [Lib.index]; simp [List.isPrefixOf]
      rw [hix]
      simp only [toI, List.map_cons]
      rw [splitL, if_pos rfl, ← ih]
      rfl
    · have hp : ([c] : List UInt8).isPrefixOf (b :: l) = false := by simp [List.isPrefixOf, Ne.symm h]
      have hix : Lib.index (b :: l) [c] = if Lib.index l [c] == -1 then -1 else Lib.index l [c] + 1 := by rw [Lib.index, hp]; simp
      have hb : ¬ ((b.toNat : Int) = (c.toNat : Int)) := fun e => h (toI_inj.1 e)
      rw [Lib.count_cons_ne _ _ _ h]
      simp only [toI, List.map_cons]
      cases hk : Lib.count l [c] with
      | zero =>
        rw [hk] at ih
        rw [splitL_cons_ne hb (w := toI l) (ws := []) ih.symm]
        rfl
      | succ k =>
        rw [hk] at ih
        rw [Lib.splitK] at ih ⊢
        by_cases hm : Lib.index l [c] = -1
        · rw [hm] at ih hix
          rw [hix]
          rw [splitL_cons_ne hb (w := toI l) (ws := []) ih.symm]
          rfl
        · have hge := Lib.index_ge l [c]
          obtain ⟨j, hj⟩ : ∃ j : Nat, Lib.index l [c] = j := ⟨(Lib.index l [c]).toNat, by omega⟩
          have hnb : (Lib.index l [c] == -1) = false := by simpa using hm
          rw [hnb] at ih hix
          rw [hix]
          have h2 : ((if false = true then (-1 : Int) else Lib.index l [c] + 1) == -1) = false := by simp; omega
          rw [h2]
          simp only [Bool.false_eq_true, if_false] at ih ⊢
          rw [hj] at ih ⊢
          have e1 : ((j : Int) + 1).toNat = j + 1 := by omega
          have e2 : ((j : Int)).toNat = j := by omega
          rw [e1]
          rw [e2] at ih
          rw [List.map_cons] at ih
          rw [splitL_cons_ne hb ih.symm, List.map_cons]
          simp only [List.length_singleton, Nat.add_zero, List.take_succ_cons, List.drop_succ_cons, List.map_cons, toI]
theorem map_strs : ∀ (l : List ByteArray), l = ((l.map (·.data.toList)).map toI).map strOfNums
  | [] => rfl
  | s :: l => by
    rw [List.map_cons, List.map_cons, List.map_cons, ← map_strs l]
    congr 1
    exact (str_bytesL s).symm
theorem splitS_L (c : UInt8) (s : ByteArray) : splitS s ⟨#[c]⟩ = (splitL (c.toNat : Int) (bytesL s)).map strOfNums := by
  rw [map_strs (splitS s ⟨#[c]⟩)]
  unfold splitS
  rw [Lib.splitB_data]
  have : Lib.countB s ⟨#[c]⟩ = Lib.count s.data.toList [c] := rfl
  rw [this]
  exact congrArg (List.map strOfNums) (splitK_L c s.data.toList)
end Go.Proofs.YthmbdjhlfieldaaGreatDoor

set_option linter.unusedVariables false
set_option linter.unusedSimpArgs false
set_option maxRecDepth 100000
set_option maxHeartbeats 4000000
namespace Go.Proofs.YthmbdjhlfieldaaGreatDoor
open Go.Eng
theorem str_extract (l : List Int) (a b : Nat) : (strOfNums l).extract a b = strOfNums ((l.take b).drop a) := by
  have e : ∀ l : List Int, (strOfNums l).data.toList = l.map fun n => UInt8.ofNat n.toNat := fun l => strOfNums_data l
  refine ByteArray.ext (Array.toList_inj.1 ?_)
  rw [e, ByteArray.data_extract, Array.toList_extract, e]
  simp [List.extract_eq_take_drop, List.map_take, List.map_drop, List.drop_take]
theorem byteAt_of {l : List Int} (hl : okB l) {i : Nat} {c : Int} (h : l[i]? = some c) : byteAt (strOfNums l) i = c := by
  have hi := (List.getElem?_eq_some_iff.1 h).1
  have := byteAt_some (s := strOfNums l) (i := i) (by rw [str_size]; exact hi)
  rw [bytes_str hl, h] at this
  exact (Option.some.inj this).symm
theorem beL_ok : ∀ u : Nat, okB (beL u) := fun u => by
  induction u using Nat.strongRecOn with
  | _ u ih =>
    rcases Nat.eq_zero_or_pos u with rfl | hp
    · rw [beL_zero]; intro c hc; cases hc
    · rw [beL_pos hp]
      refine okB_app (ih (u / 256) (by omega)) (fun c hc => ?_)
      rcases List.mem_singleton.1 hc with rfl; omega
theorem numL_okB (u : Nat) (h : u < 18446744073709551616) : okB (numL u) := by
  unfold numL
  split
  · intro c hc; rcases List.mem_singleton.1 hc with rfl; omega
  · have := beL_lt 8 u (by omega)
    exact okB_cons (by omega) (beL_ok u)
end Go.Proofs.YthmbdjhlfieldaaGreatDoor

set_option linter.unusedVariables false
set_option linter.unusedSimpArgs false
set_option maxRecDepth 100000
namespace Go.Proofs.YthmbdjhlfieldaaGreatDoor
open Go.Eng
variable [DM]
set_option linter.unusedSectionVars false
theorem get_ex {α : Type} {l : List α} {i : Nat} (h : i < l.length) : ∃ r, l[i]? = some r := ⟨l[i], List.getElem?_eq_getElem h⟩
abbrev runT : Ty := .pair (.int .i64) (.pair (.int .i64) (.int .i64))
abbrev Run := Int × Int × Int

def goodB (d : Int × Int) : Bool := decide (0 ≤ d.1 ∧ d.1 ≤ 7 ∧ 1 ≤ d.2 ∧ d.2 ≤ 1099511627776)
@[reducible] def dgoodC : Ctr := {
  X := Int × Int
  Y := Bool
  args := fun d => [.agg [.v (.int .i64 d.1), .v (.int .i64 d.2)]]
  rw := fun _ => []
  side := fun _ => True
  val := fun d => goodB d
  ens := fun _ _ => True
  res := fun _ y => .v (.bool y)
  out := fun _ _ => [] }
theorem dgood_ok : dgoodC.ok Tryz.prog 50 := by
  refine ok_of_vc (An := fun _ => anOf []) (known_nil _) mo Tryz.func50 (by kernel_rfl) (by kernel_rfl) (fun _ _ => trivial) (fun x hs => ?_)
  obtain ⟨n, k⟩ := x
  ((repeat' ((conv => whnf) <;> first | exact True.intro | (guard_target =~ Fork _ _ _; first | refine F1 ?_ | refine F2 ?_ | (refine Fork.pos ?_ ?_; · (simp only [goodB, Bool.not_true, Bool.not_false, decide_eq_true_eq, beq_iff_eq, bne_iff_ne, ne_eq] <;> omega)) | (refine Fork.neg ?_ ?_; · (simp only [goodB, Bool.not_true, Bool.not_false, decide_eq_false_iff_not, beq_eq_false_iff_ne] <;> omega)) | refine F3 (fun h => ?_) fun h => ?_) | (guard_target =~ Ar _ _ _; first | refine A1 ?_ | refine A2 ?_ | refine A3 ?_ | (refine Ar.fit (wrap_i64 ?_ ?_) ?_; · ((try dsimp only) <;> simp only [goodB] <;> omega); · ((try dsimp only) <;> simp only [goodB] <;> omega)) | (refine Ar.fit (wrap_u64 ?_ ?_) ?_; · ((try dsimp only) <;> simp only [goodB] <;> omega); · ((try dsimp only) <;> simp only [goodB] <;> omega))) | (guard_target =~ AskL _ _; first | (refine AskL.mk ?_ ?_; · ((simp only [conj]; repeat' apply And.intro) <;> first | rfl | trivial | omega | (simp only [goodB]; done) | (simp only [goodB] <;> omega) | (simp only [goodB]; refine Bool.eq_iff_iff.2 ?_; simp only [decide_eq_true_eq, Bool.false_eq_true, true_iff, iff_true, false_iff, iff_false, eq_self]; omega) | (simp only [*, goodB]; done))) | refine L1 ?_) | (guard_target =~ Go.Eng.Ask _ _; first | refine K1 ?_ | (refine Ask.mk ?_ ?_; · ((try dsimp only) <;> simp only [goodB] <;> omega))) | (guard_target =~ CallP _ _ _ _ _; first | refine H1 ck fun ck => ?_ | refine H2 ck fun ck => ?_) | (guard_target =~ All' _ _; first | (refine Y2 fun y he he' hy => ?_; (try dsimp only at he he' hy)) | (refine Y1 fun y he hy => ?_; (try with_reducible conv at he => (rhs; whnf)); (try dsimp only at he hy)) | (refine All'.mk ?_; intro y hy)) | refine F4 (fun h => ?_) fun h => ?_ | refine R1 ?_ | refine Q1 ?_ | fail)); all_goals (conv => whnf))
theorem rgood_ok : dgoodC.ok Tryz.prog 59 := by
  refine ok_of_vc (An := fun _ => anOf []) (known_nil _) mo Tryz.func59 (by kernel_rfl) (by kernel_rfl) (fun _ _ => trivial) (fun x hs => ?_)
  obtain ⟨n, k⟩ := x
  ((repeat' ((conv => whnf) <;> first | exact True.intro | (guard_target =~ Fork _ _ _; first | refine F1 ?_ | refine F2 ?_ | (refine Fork.pos ?_ ?_; · (simp only [goodB, Bool.not_true, Bool.not_false, decide_eq_true_eq, beq_iff_eq, bne_iff_ne, ne_eq] <;> omega)) | (refine Fork.neg ?_ ?_; · (simp only [goodB, Bool.not_true, Bool.not_false, decide_eq_false_iff_not, beq_eq_false_iff_ne] <;> omega)) | refine F3 (fun h => ?_) fun h => ?_) | (guard_target =~ Ar _ _ _; first | refine A1 ?_ | refine A2 ?_ | refine A3 ?_ | (refine Ar.fit (wrap_i64 ?_ ?_) ?_; · ((try dsimp only) <;> simp only [goodB] <;> omega); · ((try dsimp only) <;> simp only [goodB] <;> omega)) | (refine Ar.fit (wrap_u64 ?_ ?_) ?_; · ((try dsimp only) <;> simp only [goodB] <;> omega); · ((try dsimp only) <;> simp only [goodB] <;> omega))) | (guard_target =~ AskL _ _; first | (refine AskL.mk ?_ ?_; · ((simp only [conj]; repeat' apply And.intro) <;> first | rfl | trivial | omega | (simp only [goodB]; done) | (simp only [goodB] <;> omega) | (simp only [goodB]; refine Bool.eq_iff_iff.2 ?_; simp only [decide_eq_true_eq, Bool.false_eq_true, true_iff, iff_true, false_iff, iff_false, eq_self]; omega) | (simp only [*, goodB]; done))) | refine L1 ?_) | (guard_target =~ Go.Eng.Ask _ _; first | refine K1 ?_ | (refine Ask.mk ?_ ?_; · ((try dsimp only) <;> simp only [goodB] <;> omega))) | (guard_target =~ CallP _ _ _ _ _; first | refine H1 ck fun ck => ?_ | refine H2 ck fun ck => ?_) | (guard_target =~ All' _ _; first | (refine Y2 fun y he he' hy => ?_; (try dsimp only at he he' hy)) | (refine Y1 fun y he hy => ?_; (try with_reducible conv at he => (rhs; whnf)); (try dsimp only at he hy)) | (refine All'.mk ?_; intro y hy)) | refine F4 (fun h => ?_) fun h => ?_ | refine R1 ?_ | refine Q1 ?_ | fail)); all_goals (conv => whnf))

@[reducible] def runP (r : Run) : Prop := 0 ≤ r.1 ∧ r.1 ≤ 7 ∧ 1 ≤ r.2.1 ∧ r.2.1 ≤ r.2.2 ∧ r.2.2 ≤ 1099511627776
@[reducible] def nextP (p r : Run) : Prop := ¬ (r.1 < p.1 ∨ p.1 = r.1 ∧ r.2.1 - 1 ≤ p.2.2)
def runB (r : Run) : Bool := decide (runP r)
@[reducible] def dfitsC : Ctr := {
  X := Run
  Y := Bool
  args := fun r => [.agg [.v (.int .i64 r.1), .v (.int .i64 r.2.1), .v (.int .i64 r.2.2)]]
  rw := fun _ => []
  side := fun _ => True
  val := fun r => runB r
  ens := fun _ _ => True
  res := fun _ y => .v (.bool y)
  out := fun _ _ => [] }
theorem knownD0 : Known Tryz.prog (gOf [(50, dgoodC)]) := known_cons ⟨dgood_ok, Tryz.call50⟩ (known_nil _)
theorem dfits_ok : dfitsC.ok Tryz.prog 94 := by
  refine ok_of_vc (An := fun _ => anOf []) knownD0 mo Tryz.func94 (by kernel_rfl) (by kernel_rfl) (fun _ _ => trivial) (fun x hs => ?_)
  obtain ⟨n, f, t⟩ := x
  have ck : Hc dgoodC (n, f) True := .mk trivial
  (refine Z ?_; repeat' (first | exact .intro | ((first | refine B1 (fun h => ?_) fun h => ?_ | refine B2 fun y he he' hy => ?_ | refine B3 fun y he hy => ?_ | refine B4 fun y hy => ?_ | refine B5 fun ck => ?_ | fail) <;> refine Z ?_)))
  all_goals
    have he := he.symm.trans (by assumption)
    simp only [goodB, decide_eq_true_eq, decide_eq_false_iff_not] at he
    refine AskL.mk ?_ trivial
    show _ = decide (0 ≤ n ∧ n ≤ 7 ∧ 1 ≤ f ∧ f ≤ t ∧ t ≤ 1099511627776)
    first
      | exact decide_eq_decide.2 (by (try dsimp only); omega)
      | exact (decide_eq_false (by (try dsimp only); omega)).symm

def prv (c : List Run) : Nat → Option Run
  | 0 => none
  | i + 1 => c[i]?
def rightFrom : Option Run → List Run → Bool
  | _, [] => true
  | p, r :: l => runB r && (match p with | none => true | some q => decide (nextP q r)) && rightFrom (some r) l
def rightB (c : List Run) : Bool := rightFrom none c
theorem right_start (c : List Run) : rightB c = rightFrom (prv c 0) (c.drop 0) := rfl
theorem right_step {c : List Run} {i : Nat} {r : Run} (h : c[i]? = some r) :
    rightFrom (prv c i) (c.drop i) = (runB r && (match prv c i with | none => true | some q => decide (nextP q r)) && rightFrom (prv c (i + 1)) (c.drop (i + 1))) := by
  obtain ⟨hi, rfl⟩ := List.getElem?_eq_some_iff.1 h
  rw [List.drop_eq_getElem_cons hi]
  show (_ && _ && _) = _
  simp only [prv, h]
theorem right_end {c : List Run} {i : Nat} (h : c.length ≤ i) : rightFrom (prv c i) (c.drop i) = true := by
  rw [List.drop_eq_nil_of_le h]; rfl

@[reducible] def drightC : Ctr := {
  X := List Run
  Y := Bool
  args := fun c => [.ro true runT c]
  rw := fun _ => []
  side := fun c => c.length ≤ 9223372036854775807
  val := fun c => rightB c
  ens := fun _ _ => True
  res := fun _ y => .v (.bool y)
  out := fun _ _ => [] }
@[reducible] def drightL (c : List Run) : LA := {
  X := Nat
  pre := fun i => i ≤ c.length ∧ rightB c = rightFrom (prv c i) (c.drop i)
  mu := fun i => c.length - i
  T := fun i => [(0, .ro true runT c), (5, .ro true runT c), (6, .v (.int .i64 c.length)), (7, .v (.int .i64 i))]
  M := fun _ => [] }
theorem knownD1 : Known Tryz.prog (gOf [(94, dfitsC)]) := known_cons ⟨dfits_ok, Tryz.call94⟩ (known_nil _)
theorem dright_ok : drightC.ok Tryz.prog 51 := by
  refine ok_of_vc (An := fun (c : List Run) => anOf [(0, .loop (drightL c))]) knownD1 mo Tryz.func51 (by kernel_rfl) (by kernel_rfl) (fun _ _ => trivial) (fun (c : List Run) hs => ?_)
  have hs : c.length ≤ 9223372036854775807 := hs
  (refine Z ?_; repeat' (first | exact .intro | ((first | refine B1 (fun h => ?_) fun h => ?_ | refine B2 fun y he he' hy => ?_ | refine B3 fun y he hy => ?_ | refine B4 fun y hy => ?_ | refine B5 fun ck => ?_ | fail) <;> refine Z ?_)))
  refine Some'.mk 0 ?_
  (refine Z ?_; repeat' (first | exact .intro | ((first | refine B1 (fun h => ?_) fun h => ?_ | refine B2 fun y he he' hy => ?_ | refine B3 fun y he hy => ?_ | refine B4 fun y hy => ?_ | refine B5 fun ck => ?_ | fail) <;> refine Z ?_)))
  refine Ask.mk ⟨Nat.zero_le _, right_start c⟩ ?_
  (refine Z ?_; repeat' (first | exact .intro | ((first | refine B1 (fun h => ?_) fun h => ?_ | refine B2 fun y he he' hy => ?_ | refine B3 fun y he hy => ?_ | refine B4 fun y hy => ?_ | refine B5 fun ck => ?_ | fail) <;> refine Z ?_)))
  refine AllI.mk ?_
  rintro (i : Nat) ⟨h1, h2⟩
  rcases Nat.lt_or_ge i c.length with hlt | hge
  · obtain ⟨r, hr⟩ := get_ex hlt
    have hst := right_step hr
    obtain ⟨n, f, t⟩ := r
    rw [hst] at h2
    clear hst
    cases hok : runB (n, f, t) with
    | false =>
      rw [hok, Bool.false_and, Bool.false_and] at h2
      (refine Zm ?_; repeat' (first | exact .intro | ((first | refine B1 (fun h => ?_) fun h => ?_ | refine B2 fun y he he' hy => ?_ | refine B3 fun y he hy => ?_ | refine B4 fun y hy => ?_ | refine B5 fun ck => ?_ | fail) <;> refine Zm ?_)))
      refine All'.mk ?_
      rintro (y : Run) hy
      obtain rfl : (n, f, t) = y := Option.some.inj (hr.symm.trans hy)
      clear hy
      (refine Zm ?_; repeat' (first | exact .intro | ((first | refine B1 (fun h => ?_) fun h => ?_ | refine B2 fun y he he' hy => ?_ | refine B3 fun y he hy => ?_ | refine B4 fun y hy => ?_ | refine B5 fun ck => ?_ | fail) <;> refine Zm ?_)))
      refine CallP.mk (C := dfitsC) (n, f, t) ?_
      (refine Zm ?_; repeat' (first | exact .intro | ((first | refine B1 (fun h => ?_) fun h => ?_ | refine B2 fun y he he' hy => ?_ | refine B3 fun y he hy => ?_ | refine B4 fun y hy => ?_ | refine B5 fun ck => ?_ | fail) <;> refine Zm ?_)))
    | true =>
      have hrp : 0 ≤ n ∧ n ≤ 7 ∧ 1 ≤ f ∧ f ≤ t ∧ t ≤ 1099511627776 := of_decide_eq_true hok
      cases i with
      | zero =>
        rw [hok, Bool.true_and] at h2
        replace h2 : rightB c = rightFrom (prv c (0 + 1)) (c.drop (0 + 1)) := h2
        (refine Zm ?_; repeat' (first | exact .intro | ((first | refine B1 (fun h => ?_) fun h => ?_ | refine B2 fun y he he' hy => ?_ | refine B3 fun y he hy => ?_ | refine B4 fun y hy => ?_ | refine B5 fun ck => ?_ | fail) <;> refine Zm ?_)))
        refine All'.mk ?_
        rintro (y : Run) hy
        obtain rfl : (n, f, t) = y := Option.some.inj (hr.symm.trans hy)
        clear hy
        (refine Zm ?_; repeat' (first | exact .intro | ((first | refine B1 (fun h => ?_) fun h => ?_ | refine B2 fun y he he' hy => ?_ | refine B3 fun y he hy => ?_ | refine B4 fun y hy => ?_ | refine B5 fun ck => ?_ | fail) <;> refine Zm ?_)))
        refine CallP.mk (C := dfitsC) (n, f, t) ?_
        (refine Zm ?_; repeat' (first | exact .intro | ((first | refine B1 (fun h => ?_) fun h => ?_ | refine B2 fun y he he' hy => ?_ | refine B3 fun y he hy => ?_ | refine B4 fun y hy => ?_ | refine B5 fun ck => ?_ | fail) <;> refine Zm ?_)))
        refine Some'.mk (1) ?_
        exact G1
      | succ i =>
        obtain ⟨⟨pn, pf, pt⟩, hp⟩ := get_ex (show i < c.length by omega)
        have hi1 : (((i + 1 : Nat) : Int) - 1).toNat = i := by omega
        have hpv : prv c (i + 1) = some (pn, pf, pt) := hp
        rw [hok, hpv, Bool.true_and] at h2
        clear hpv
        by_cases hn : nextP (pn, pf, pt) (n, f, t)
        · replace h2 : rightB c = (decide (nextP (pn, pf, pt) (n, f, t)) && rightFrom (prv c (i + 1 + 1)) (c.drop (i + 1 + 1))) := h2
          rw [decide_eq_true hn, Bool.true_and] at h2
          replace hn : ¬ (n < pn ∨ pn = n ∧ f - 1 ≤ pt) := hn
          (refine Zm ?_; repeat' (first | exact .intro | ((first | refine B1 (fun h => ?_) fun h => ?_ | refine B2 fun y he he' hy => ?_ | refine B3 fun y he hy => ?_ | refine B4 fun y hy => ?_ | refine B5 fun ck => ?_ | fail) <;> refine Zm ?_)))
          refine All'.mk ?_
          rintro (y : Run) hy
          obtain rfl : (n, f, t) = y := Option.some.inj (hr.symm.trans hy)
          clear hy
          (refine Zm ?_; repeat' (first | exact .intro | ((first | refine B1 (fun h => ?_) fun h => ?_ | refine B2 fun y he he' hy => ?_ | refine B3 fun y he hy => ?_ | refine B4 fun y hy => ?_ | refine B5 fun ck => ?_ | fail) <;> refine Zm ?_)))
          refine CallP.mk (C := dfitsC) (n, f, t) ?_
          (refine Zm ?_; repeat' (first | exact .intro | ((first | refine B1 (fun h => ?_) fun h => ?_ | refine B2 fun y he he' hy => ?_ | refine B3 fun y he hy => ?_ | refine B4 fun y hy => ?_ | refine B5 fun ck => ?_ | fail) <;> refine Zm ?_)))
          all_goals
            try
              refine All'.mk ?_
              rintro (y : Run) hy
              rw [hi1] at hy
              obtain rfl : (pn, pf, pt) = y := Option.some.inj (hp.symm.trans hy)
              clear hy
              (refine Zm ?_; repeat' (first | exact .intro | ((first | refine B1 (fun h => ?_) fun h => ?_ | refine B2 fun y he he' hy => ?_ | refine B3 fun y he hy => ?_ | refine B4 fun y hy => ?_ | refine B5 fun ck => ?_ | fail) <;> refine Zm ?_)))
          all_goals
            try
              refine All'.mk ?_
              rintro (y : Run) hy
              rw [hi1] at hy
              obtain rfl : (pn, pf, pt) = y := Option.some.inj (hp.symm.trans hy)
              clear hy
              (refine Zm ?_; repeat' (first | exact .intro | ((first | refine B1 (fun h => ?_) fun h => ?_ | refine B2 fun y he he' hy => ?_ | refine B3 fun y he hy => ?_ | refine B4 fun y hy => ?_ | refine B5 fun ck => ?_ | fail) <;> refine Zm ?_)))
          all_goals
            try
              refine All'.mk ?_
              rintro (y : Run) hy
              rw [hi1] at hy
              obtain rfl : (pn, pf, pt) = y := Option.some.inj (hp.symm.trans hy)
              clear hy
              (refine Zm ?_; repeat' (first | exact .intro | ((first | refine B1 (fun h => ?_) fun h => ?_ | refine B2 fun y he he' hy => ?_ | refine B3 fun y he hy => ?_ | refine B4 fun y hy => ?_ | refine B5 fun ck => ?_ | fail) <;> refine Zm ?_)))
          all_goals
            refine Some'.mk (i + 1 + 1) ?_
            (refine Z ?_; repeat' (first | exact .intro | ((first | refine B1 (fun h => ?_) fun h => ?_ | refine B2 fun y he he' hy => ?_ | refine B3 fun y he hy => ?_ | refine B4 fun y hy => ?_ | refine B5 fun ck => ?_ | fail) <;> refine Z ?_)))
        · replace h2 : rightB c = (decide (nextP (pn, pf, pt) (n, f, t)) && rightFrom (prv c (i + 1 + 1)) (c.drop (i + 1 + 1))) := h2
          rw [decide_eq_false hn, Bool.false_and] at h2
          replace hn : ¬ ¬ (n < pn ∨ pn = n ∧ f - 1 ≤ pt) := hn
          (refine Zm ?_; repeat' (first | exact .intro | ((first | refine B1 (fun h => ?_) fun h => ?_ | refine B2 fun y he he' hy => ?_ | refine B3 fun y he hy => ?_ | refine B4 fun y hy => ?_ | refine B5 fun ck => ?_ | fail) <;> refine Zm ?_)))
          refine All'.mk ?_
          rintro (y : Run) hy
          obtain rfl : (n, f, t) = y := Option.some.inj (hr.symm.trans hy)
          clear hy
          (refine Zm ?_; repeat' (first | exact .intro | ((first | refine B1 (fun h => ?_) fun h => ?_ | refine B2 fun y he he' hy => ?_ | refine B3 fun y he hy => ?_ | refine B4 fun y hy => ?_ | refine B5 fun ck => ?_ | fail) <;> refine Zm ?_)))
          refine CallP.mk (C := dfitsC) (n, f, t) ?_
          (refine Zm ?_; repeat' (first | exact .intro | ((first | refine B1 (fun h => ?_) fun h => ?_ | refine B2 fun y he he' hy => ?_ | refine B3 fun y he hy => ?_ | refine B4 fun y hy => ?_ | refine B5 fun ck => ?_ | fail) <;> refine Zm ?_)))
          all_goals
            try
              refine All'.mk ?_
              rintro (y : Run) hy
              rw [hi1] at hy
              obtain rfl : (pn, pf, pt) = y := Option.some.inj (hp.symm.trans hy)
              clear hy
              (refine Zm ?_; repeat' (first | exact .intro | ((first | refine B1 (fun h => ?_) fun h => ?_ | refine B2 fun y he he' hy => ?_ | refine B3 fun y he hy => ?_ | refine B4 fun y hy => ?_ | refine B5 fun ck => ?_ | fail) <;> refine Zm ?_)))
          all_goals
            try
              refine All'.mk ?_
              rintro (y : Run) hy
              rw [hi1] at hy
              obtain rfl : (pn, pf, pt) = y := Option.some.inj (hp.symm.trans hy)
              clear hy
              (refine Zm ?_; repeat' (first | exact .intro | ((first | refine B1 (fun h => ?_) fun h => ?_ | refine B2 fun y he he' hy => ?_ | refine B3 fun y he hy => ?_ | refine B4 fun y hy => ?_ | refine B5 fun ck => ?_ | fail) <;> refine Zm ?_)))
          all_goals
            try
              refine All'.mk ?_
              rintro (y : Run) hy
              rw [hi1] at hy
              obtain rfl : (pn, pf, pt) = y := Option.some.inj (hp.symm.trans hy)
              clear hy
              (refine Zm ?_; repeat' (first | exact .intro | ((first | refine B1 (fun h => ?_) fun h => ?_ | refine B2 fun y he he' hy => ?_ | refine B3 fun y he hy => ?_ | refine B4 fun y hy => ?_ | refine B5 fun ck => ?_ | fail) <;> refine Zm ?_)))
  · have hh := right_end hge
    rw [hh] at h2
    exact G1
@[reducible] def rdrightL (c : List Run) : LA := {
  X := Nat
  pre := fun i => i ≤ c.length ∧ rightB c = rightFrom (prv c i) (c.drop i) ∧ ∀ q, prv c i = some q → runB q = true
  mu := fun i => c.length - i
  T := fun i => [(0, .ro true runT c), (5, .ro true runT c), (6, .v (.int .i64 c.length)), (7, .v (.int .i64 i))]
  M := fun _ => [] }
theorem rdright_ok : drightC.ok Tryz.prog 60 := by
  refine ok_of_vc (An := fun (c : List Run) => anOf [(0, .loop (rdrightL c))]) (known_nil _) mo Tryz.func60 (by kernel_rfl) (by kernel_rfl) (fun _ _ => trivial) (fun (c : List Run) hs => ?_)
  have hs : c.length ≤ 9223372036854775807 := hs
  (refine Z ?_; repeat' (first | exact .intro | ((first | refine B1 (fun h => ?_) fun h => ?_ | refine B2 fun y he he' hy => ?_ | refine B3 fun y he hy => ?_ | refine B4 fun y hy => ?_ | refine B5 fun ck => ?_ | fail) <;> refine Z ?_)))
  refine Some'.mk 0 ?_
  (refine Z ?_; repeat' (first | exact .intro | ((first | refine B1 (fun h => ?_) fun h => ?_ | refine B2 fun y he he' hy => ?_ | refine B3 fun y he hy => ?_ | refine B4 fun y hy => ?_ | refine B5 fun ck => ?_ | fail) <;> refine Z ?_)))
  refine Ask.mk ⟨Nat.zero_le _, right_start c, fun q hq => by cases hq⟩ ?_
  (refine Z ?_; repeat' (first | exact .intro | ((first | refine B1 (fun h => ?_) fun h => ?_ | refine B2 fun y he he' hy => ?_ | refine B3 fun y he hy => ?_ | refine B4 fun y hy => ?_ | refine B5 fun ck => ?_ | fail) <;> refine Z ?_)))
  refine AllI.mk ?_
  rintro (i : Nat) ⟨h1, h2, h3⟩
  rcases Nat.lt_or_ge i c.length with hlt | hge
  · obtain ⟨⟨n, f, t⟩, hr⟩ := get_ex hlt
    have hst := right_step hr
    rw [hst] at h2
    clear hst
    cases hok : runB (n, f, t) with
    | false =>
      rw [hok, Bool.false_and, Bool.false_and] at h2
      have hrp : ¬ (0 ≤ n ∧ n ≤ 7 ∧ 1 ≤ f ∧ f ≤ t ∧ t ≤ 1099511627776) := of_decide_eq_false hok
      clear hok
      (refine Zm ?_; repeat' (first | exact .intro | ((first | refine B1 (fun h => ?_) fun h => ?_ | refine B2 fun y he he' hy => ?_ | refine B3 fun y he hy => ?_ | refine B4 fun y hy => ?_ | refine B5 fun ck => ?_ | fail) <;> refine Zm ?_)))
      refine All'.mk ?_
      rintro (y : Run) hy
      obtain rfl : (n, f, t) = y := Option.some.inj (hr.symm.trans hy)
      clear hy
      (refine Zm ?_; repeat' (first | exact .intro | ((first | refine B1 (fun h => ?_) fun h => ?_ | refine B2 fun y he he' hy => ?_ | refine B3 fun y he hy => ?_ | refine B4 fun y hy => ?_ | refine B5 fun ck => ?_ | fail) <;> refine Zm ?_)))
    | true =>
      have hrp : 0 ≤ n ∧ n ≤ 7 ∧ 1 ≤ f ∧ f ≤ t ∧ t ≤ 1099511627776 := of_decide_eq_true hok
      cases i with
      | zero =>
        rw [hok, Bool.true_and] at h2
        replace h2 : rightB c = rightFrom (prv c (0 + 1)) (c.drop (0 + 1)) := h2
        clear hok
        (refine Zm ?_; repeat' (first | exact .intro | ((first | refine B1 (fun h => ?_) fun h => ?_ | refine B2 fun y he he' hy => ?_ | refine B3 fun y he hy => ?_ | refine B4 fun y hy => ?_ | refine B5 fun ck => ?_ | fail) <;> refine Zm ?_)))
        refine All'.mk ?_
        rintro (y : Run) hy
        obtain rfl : (n, f, t) = y := Option.some.inj (hr.symm.trans hy)
        clear hy
        (refine Zm ?_; repeat' (first | exact .intro | ((first | refine B1 (fun h => ?_) fun h => ?_ | refine B2 fun y he he' hy => ?_ | refine B3 fun y he hy => ?_ | refine B4 fun y hy => ?_ | refine B5 fun ck => ?_ | fail) <;> refine Zm ?_)))
        refine Some'.mk 1 ?_
        (refine Z ?_; repeat' (first | exact .intro | ((first | refine B1 (fun h => ?_) fun h => ?_ | refine B2 fun y he he' hy => ?_ | refine B3 fun y he hy => ?_ | refine B4 fun y hy => ?_ | refine B5 fun ck => ?_ | fail) <;> refine Z ?_)))
        refine Ask.mk ⟨by omega, h2, fun q hq => by obtain rfl := Option.some.inj (hr.symm.trans hq); exact decide_eq_true hrp⟩ ?_
        exact G1
      | succ i =>
        obtain ⟨⟨pn, pf, pt⟩, hp⟩ := get_ex (show i < c.length by omega)
        have hi1 : (((i + 1 : Nat) : Int) - 1).toNat = i := by omega
        have hpv : prv c (i + 1) = some (pn, pf, pt) := hp
        have hpp : 0 ≤ pn ∧ pn ≤ 7 ∧ 1 ≤ pf ∧ pf ≤ pt ∧ pt ≤ 1099511627776 := of_decide_eq_true (h3 _ hpv)
        clear h3
        rw [hok, hpv, Bool.true_and] at h2
        clear hpv
        by_cases hn : nextP (pn, pf, pt) (n, f, t)
        · replace h2 : rightB c = (decide (nextP (pn, pf, pt) (n, f, t)) && rightFrom (prv c (i + 1 + 1)) (c.drop (i + 1 + 1))) := h2
          rw [decide_eq_true hn, Bool.true_and] at h2
          replace hn : ¬ (n < pn ∨ pn = n ∧ f - 1 ≤ pt) := hn
          clear hok
          (refine Zm ?_; repeat' (first | exact .intro | ((first | refine B1 (fun h => ?_) fun h => ?_ | refine B2 fun y he he' hy => ?_ | refine B3 fun y he hy => ?_ | refine B4 fun y hy => ?_ | refine B5 fun ck => ?_ | fail) <;> refine Zm ?_)))
          refine All'.mk ?_
          rintro (y : Run) hy
          obtain rfl : (n, f, t) = y := Option.some.inj (hr.symm.trans hy)
          clear hy
          (refine Zm ?_; repeat' (first | exact .intro | ((first | refine B1 (fun h => ?_) fun h => ?_ | refine B2 fun y he he' hy => ?_ | refine B3 fun y he hy => ?_ | refine B4 fun y hy => ?_ | refine B5 fun ck => ?_ | fail) <;> refine Zm ?_)))
          all_goals
            try
              refine All'.mk ?_
              rintro (y : Run) hy
              rw [hi1] at hy
              obtain rfl : (pn, pf, pt) = y := Option.some.inj (hp.symm.trans hy)
              clear hy
              (refine Zm ?_; repeat' (first | exact .intro | ((first | refine B1 (fun h => ?_) fun h => ?_ | refine B2 fun y he he' hy => ?_ | refine B3 fun y he hy => ?_ | refine B4 fun y hy => ?_ | refine B5 fun ck => ?_ | fail) <;> refine Zm ?_)))
          all_goals
            try
              refine All'.mk ?_
              rintro (y : Run) hy
              rw [hi1] at hy
              obtain rfl : (pn, pf, pt) = y := Option.some.inj (hp.symm.trans hy)
              clear hy
              (refine Zm ?_; repeat' (first | exact .intro | ((first | refine B1 (fun h => ?_) fun h => ?_ | refine B2 fun y he he' hy => ?_ | refine B3 fun y he hy => ?_ | refine B4 fun y hy => ?_ | refine B5 fun ck => ?_ | fail) <;> refine Zm ?_)))
          all_goals
            try
              refine All'.mk ?_
              rintro (y : Run) hy
              rw [hi1] at hy
              obtain rfl : (pn, pf, pt) = y := Option.some.inj (hp.symm.trans hy)
              clear hy
              (refine Zm ?_; repeat' (first | exact .intro | ((first | refine B1 (fun h => ?_) fun h => ?_ | refine B2 fun y he he' hy => ?_ | refine B3 fun y he hy => ?_ | refine B4 fun y hy => ?_ | refine B5 fun ck => ?_ | fail) <;> refine Zm ?_)))
          all_goals
            refine Some'.mk (i + 1 + 1) ?_
            (refine Z ?_; repeat' (first | exact .intro | ((first | refine B1 (fun h => ?_) fun h => ?_ | refine B2 fun y he he' hy => ?_ | refine B3 fun y he hy => ?_ | refine B4 fun y hy => ?_ | refine B5 fun ck => ?_ | fail) <;> refine Z ?_)))
            refine Ask.mk ⟨by omega, h2, fun q hq => by obtain rfl := Option.some.inj (hr.symm.trans hq); exact decide_eq_true hrp⟩ ?_
            (refine Z ?_; repeat' (first | exact .intro | ((first | refine B1 (fun h => ?_) fun h => ?_ | refine B2 fun y he he' hy => ?_ | refine B3 fun y he hy => ?_ | refine B4 fun y hy => ?_ | refine B5 fun ck => ?_ | fail) <;> refine Z ?_)))
        · replace h2 : rightB c = (decide (nextP (pn, pf, pt) (n, f, t)) && rightFrom (prv c (i + 1 + 1)) (c.drop (i + 1 + 1))) := h2
          rw [decide_eq_false hn, Bool.false_and] at h2
          replace hn : ¬ ¬ (n < pn ∨ pn = n ∧ f - 1 ≤ pt) := hn
          clear hok
          (refine Zm ?_; repeat' (first | exact .intro | ((first | refine B1 (fun h => ?_) fun h => ?_ | refine B2 fun y he he' hy => ?_ | refine B3 fun y he hy => ?_ | refine B4 fun y hy => ?_ | refine B5 fun ck => ?_ | fail) <;> refine Zm ?_)))
          refine All'.mk ?_
          rintro (y : Run) hy
          obtain rfl : (n, f, t) = y := Option.some.inj (hr.symm.trans hy)
          clear hy
          (refine Zm ?_; repeat' (first | exact .intro | ((first | refine B1 (fun h => ?_) fun h => ?_ | refine B2 fun y he he' hy => ?_ | refine B3 fun y he hy => ?_ | refine B4 fun y hy => ?_ | refine B5 fun ck => ?_ | fail) <;> refine Zm ?_)))
          all_goals
            try
              refine All'.mk ?_
              rintro (y : Run) hy
              rw [hi1] at hy
              obtain rfl : (pn, pf, pt) = y := Option.some.inj (hp.symm.trans hy)
              clear hy
              (refine Zm ?_; repeat' (first | exact .intro | ((first | refine B1 (fun h => ?_) fun h => ?_ | refine B2 fun y he he' hy => ?_ | refine B3 fun y he hy => ?_ | refine B4 fun y hy => ?_ | refine B5 fun ck => ?_ | fail) <;> refine Zm ?_)))
          all_goals
            try
              refine All'.mk ?_
              rintro (y : Run) hy
              rw [hi1] at hy
              obtain rfl : (pn, pf, pt) = y := Option.some.inj (hp.symm.trans hy)
              clear hy
              (refine Zm ?_; repeat' (first | exact .intro | ((first | refine B1 (fun h => ?_) fun h => ?_ | refine B2 fun y he he' hy => ?_ | refine B3 fun y he hy => ?_ | refine B4 fun y hy => ?_ | refine B5 fun ck => ?_ | fail) <;> refine Zm ?_)))
          all_goals
            try
              refine All'.mk ?_
              rintro (y : Run) hy
              rw [hi1] at hy
              obtain rfl : (pn, pf, pt) = y := Option.some.inj (hp.symm.trans hy)
              clear hy
              (refine Zm ?_; repeat' (first | exact .intro | ((first | refine B1 (fun h => ?_) fun h => ?_ | refine B2 fun y he he' hy => ?_ | refine B3 fun y he hy => ?_ | refine B4 fun y hy => ?_ | refine B5 fun ck => ?_ | fail) <;> refine Zm ?_)))
  · have hh := right_end hge
    rw [hh] at h2
    exact G1
end Go.Proofs.YthmbdjhlfieldaaGreatDoor

set_option linter.unusedVariables false
set_option linter.unusedSimpArgs false
set_option maxRecDepth 100000
namespace Go.Proofs.YthmbdjhlfieldaaGreatDoor
open Go.Eng
variable [DM]
set_option linter.unusedSectionVars false
def topF (node : Int) : Int → List Run → Int
  | n, [] => n
  | n, r :: l => topF node (if r.1 = node then r.2.2 else n) l
def topG (node : Int) : Int → List Run → Int
  | n, [] => n
  | n, r :: l => topG node (if r.1 = node ∧ n < r.2.2 then r.2.2 else n) l
theorem top_same (node : Int) : ∀ (l : List Run) (p : Option Run) (n : Int), rightFrom p l = true → 0 ≤ n →
    (match p with | none => n = 0 | some q => (q.1 = node → n = q.2.2) ∧ (q.1 < node → n = 0)) → topG node n l = topF node n l
  | [], _, _, _, _, _ => rfl
  | r :: l, p, n, hr, h0, hp => by
    simp only [rightFrom, Bool.and_eq_true] at hr
    obtain ⟨⟨h1, h2⟩, h3⟩ := hr
    have h1 : 0 ≤ r.1 ∧ r.1 ≤ 7 ∧ 1 ≤ r.2.1 ∧ r.2.1 ≤ r.2.2 ∧ r.2.2 ≤ 1099511627776 := of_decide_eq_true h1
    have hlt : r.1 = node → n < r.2.2 := by
      intro hn
      cases p with
      | none => dsimp only at hp; omega
      | some q =>
        have h2 : ¬ (r.1 < q.1 ∨ q.1 = r.1 ∧ r.2.1 - 1 ≤ q.2.2) := of_decide_eq_true h2
        dsimp only at hp
        by_cases hq : q.1 = node
        · have := hp.1 hq; omega
        · have := hp.2 (by omega); omega
    have he : (if r.1 = node ∧ n < r.2.2 then r.2.2 else n) = (if r.1 = node then r.2.2 else n) := by
      by_cases hn : r.1 = node
      · rw [if_pos ⟨hn, hlt hn⟩, if_pos hn]
      · rw [if_neg (fun h => hn h.1), if_neg hn]
    show topG node _ l = topF node _ l
    rw [he]
    refine top_same node l (some r) _ h3 (by split <;> omega) ?_
    dsimp only
    constructor
    · intro hn; rw [if_pos hn]
    · intro hn
      rw [if_neg (by omega)]
      cases p with
      | none => exact hp
      | some q =>
        have h2 : ¬ (r.1 < q.1 ∨ q.1 = r.1 ∧ r.2.1 - 1 ≤ q.2.2) := of_decide_eq_true h2
        dsimp only at hp
        exact hp.2 (by omega)

def topN (c : List Run) (node : Int) : Int := if rightB c = true then topF node 0 c else 0
theorem topN_right {c : List Run} (h : rightB c = true) (node : Int) : topN c node = topF node 0 c := if_pos h
theorem topN_wrong {c : List Run} (h : rightB c = false) (node : Int) : topN c node = 0 := by
  unfold topN; rw [h]; rfl
theorem topN_ref {c : List Run} (h : rightB c = true) (node : Int) : topN c node = topG node 0 c := by
  rw [topN_right h, top_same node c none 0 h (Int.le_refl 0) rfl]
theorem topF_step {node n : Int} {c : List Run} {i : Nat} {r : Run} (h : c[i]? = some r) : topF node n (c.drop i) = topF node (if r.1 = node then r.2.2 else n) (c.drop (i + 1)) := by
  obtain ⟨hi, rfl⟩ := List.getElem?_eq_some_iff.1 h
  rw [List.drop_eq_getElem_cons hi]; rfl
theorem topG_step {node n : Int} {c : List Run} {i : Nat} {r : Run} (h : c[i]? = some r) : topG node n (c.drop i) = topG node (if r.1 = node ∧ n < r.2.2 then r.2.2 else n) (c.drop (i + 1)) := by
  obtain ⟨hi, rfl⟩ := List.getElem?_eq_some_iff.1 h
  rw [List.drop_eq_getElem_cons hi]; rfl

@[reducible] def dtopC : Ctr := {
  X := List Run × Int
  Y := Int
  args := fun x => [.ro true runT x.1, .v (.int .i64 x.2)]
  rw := fun _ => []
  side := fun x => x.1.length ≤ 9223372036854775807
  val := fun x => topN x.1 x.2
  ens := fun _ _ => True
  res := fun _ y => .v (.int .i64 y)
  out := fun _ _ => [] }
structure TopS where
  i : Nat
  n : Int
@[reducible] def dtopL (c : List Run) (node : Int) : LA := {
  X := TopS
  pre := fun s => s.i ≤ c.length ∧ topN c node = topF node s.n (c.drop s.i)
  mu := fun s => c.length - s.i
  T := fun s => [(1, .v (.int .i64 node)), (5, .v (.int .i64 s.n)), (12, .ro true runT c), (13, .v (.int .i64 c.length)), (14, .v (.int .i64 s.i))]
  M := fun _ => [] }
theorem knownD2 : Known Tryz.prog (gOf [(51, drightC), (60, drightC)]) := known_cons ⟨dright_ok, Tryz.call51⟩ (known_cons ⟨rdright_ok, Tryz.call60⟩ (known_nil _))
theorem dtop_ok : dtopC.ok Tryz.prog 52 := by
  refine ok_of_vc (An := fun (x : List Run × Int) => anOf [(0, .loop (dtopL x.1 x.2))]) knownD2 mo Tryz.func52 (by kernel_rfl) (by kernel_rfl) (fun _ _ => trivial) (fun x hs => ?_)
  obtain ⟨c, node⟩ := x
  have hs : c.length ≤ 9223372036854775807 := hs
  cases hb : rightB c with
  | false =>
    have ht := topN_wrong hb node
    have ck : Hc drightC c True := .mk trivial
    exact G1
  | true =>
    have ht := topN_right hb node
    have ck : Hc drightC c True := .mk trivial
    (refine Z ?_; repeat' (first | exact .intro | ((first | refine B1 (fun h => ?_) fun h => ?_ | refine B2 fun y he he' hy => ?_ | refine B3 fun y he hy => ?_ | refine B4 fun y hy => ?_ | refine B5 fun ck => ?_ | fail) <;> refine Z ?_)))
    clear he
    refine Some'.mk ⟨0, 0⟩ ?_
    (refine Z ?_; repeat' (first | exact .intro | ((first | refine B1 (fun h => ?_) fun h => ?_ | refine B2 fun y he he' hy => ?_ | refine B3 fun y he hy => ?_ | refine B4 fun y hy => ?_ | refine B5 fun ck => ?_ | fail) <;> refine Z ?_)))
    refine Ask.mk ⟨Nat.zero_le _, ht⟩ ?_
    (refine Z ?_; repeat' (first | exact .intro | ((first | refine B1 (fun h => ?_) fun h => ?_ | refine B2 fun y he he' hy => ?_ | refine B3 fun y he hy => ?_ | refine B4 fun y hy => ?_ | refine B5 fun ck => ?_ | fail) <;> refine Z ?_)))
    refine AllI.mk ?_
    rintro ⟨i, n⟩ ⟨h1, h2⟩
    dsimp only at h1 h2
    clear ht
    rcases Nat.lt_or_ge i c.length with hlt | hge
    · obtain ⟨⟨m, f, t⟩, hr⟩ := get_ex hlt
      rw [topF_step hr] at h2
      dsimp only at h2
      by_cases hm : m = node
      · rw [if_pos hm] at h2
        (refine Zm ?_; repeat' (first | exact .intro | ((first | refine B1 (fun h => ?_) fun h => ?_ | refine B2 fun y he he' hy => ?_ | refine B3 fun y he hy => ?_ | refine B4 fun y hy => ?_ | refine B5 fun ck => ?_ | fail) <;> refine Zm ?_)))
        refine All'.mk ?_
        rintro (y : Run) hy
        obtain rfl : (m, f, t) = y := Option.some.inj (hr.symm.trans hy)
        clear hy
        (refine Zm ?_; repeat' (first | exact .intro | ((first | refine B1 (fun h => ?_) fun h => ?_ | refine B2 fun y he he' hy => ?_ | refine B3 fun y he hy => ?_ | refine B4 fun y hy => ?_ | refine B5 fun ck => ?_ | fail) <;> refine Zm ?_)))
        refine Some'.mk ⟨i + 1, t⟩ ?_
        exact G1
      · rw [if_neg hm] at h2
        (refine Zm ?_; repeat' (first | exact .intro | ((first | refine B1 (fun h => ?_) fun h => ?_ | refine B2 fun y he he' hy => ?_ | refine B3 fun y he hy => ?_ | refine B4 fun y hy => ?_ | refine B5 fun ck => ?_ | fail) <;> refine Zm ?_)))
        refine All'.mk ?_
        rintro (y : Run) hy
        obtain rfl : (m, f, t) = y := Option.some.inj (hr.symm.trans hy)
        clear hy
        (refine Zm ?_; repeat' (first | exact .intro | ((first | refine B1 (fun h => ?_) fun h => ?_ | refine B2 fun y he he' hy => ?_ | refine B3 fun y he hy => ?_ | refine B4 fun y hy => ?_ | refine B5 fun ck => ?_ | fail) <;> refine Zm ?_)))
        refine Some'.mk ⟨i + 1, n⟩ ?_
        exact G1
    · have hh : topF node n (c.drop i) = n := by rw [List.drop_eq_nil_of_le hge]; rfl
      rw [hh] at h2
      exact G1
@[reducible] def rdtopL (c : List Run) (node : Int) : LA := {
  X := TopS
  pre := fun s => s.i ≤ c.length ∧ if rightB c = true then topN c node = topG node s.n (c.drop s.i) else s.n = 0
  mu := fun s => c.length - s.i
  T := fun s => [(0, .ro true runT c), (1, .v (.int .i64 node)), (5, .v (.int .i64 s.n)), (8, .ro true runT c), (9, .v (.int .i64 c.length)), (10, .v (.int .i64 s.i))]
  M := fun _ => [] }
theorem rdtop_ok : dtopC.ok Tryz.prog 61 := by
  refine ok_of_vc (An := fun (x : List Run × Int) => anOf [(0, .loop (rdtopL x.1 x.2))]) knownD2 mo Tryz.func61 (by kernel_rfl) (by kernel_rfl) (fun _ _ => trivial) (fun x hs => ?_)
  obtain ⟨c, node⟩ := x
  have hs : c.length ≤ 9223372036854775807 := hs
  cases hb : rightB c with
  | false =>
    have ht := topN_wrong hb node
    have hp0 : if rightB c = true then topN c node = topG node 0 (c.drop 0) else (0 : Int) = 0 := by rw [hb]; rfl
    (refine Z ?_; repeat' (first | exact .intro | ((first | refine B1 (fun h => ?_) fun h => ?_ | refine B2 fun y he he' hy => ?_ | refine B3 fun y he hy => ?_ | refine B4 fun y hy => ?_ | refine B5 fun ck => ?_ | fail) <;> refine Z ?_)))
    refine Some'.mk ⟨0, 0⟩ ?_
    (refine Z ?_; repeat' (first | exact .intro | ((first | refine B1 (fun h => ?_) fun h => ?_ | refine B2 fun y he he' hy => ?_ | refine B3 fun y he hy => ?_ | refine B4 fun y hy => ?_ | refine B5 fun ck => ?_ | fail) <;> refine Z ?_)))
    refine Ask.mk ⟨Nat.zero_le _, hp0⟩ ?_
    (refine Z ?_; repeat' (first | exact .intro | ((first | refine B1 (fun h => ?_) fun h => ?_ | refine B2 fun y he he' hy => ?_ | refine B3 fun y he hy => ?_ | refine B4 fun y hy => ?_ | refine B5 fun ck => ?_ | fail) <;> refine Z ?_)))
    refine AllI.mk ?_
    rintro ⟨i, n⟩ ⟨h1, h2⟩
    dsimp only at h1 h2
    rw [hb] at h2
    obtain rfl : n = 0 := h2
    rcases Nat.lt_or_ge i c.length with hlt | hge
    · obtain ⟨⟨m, f, t⟩, hr⟩ := get_ex hlt
      (refine Zm ?_; repeat' (first | exact .intro | ((first | refine B1 (fun h => ?_) fun h => ?_ | refine B2 fun y he he' hy => ?_ | refine B3 fun y he hy => ?_ | refine B4 fun y hy => ?_ | refine B5 fun ck => ?_ | fail) <;> refine Zm ?_)))
      refine All'.mk ?_
      rintro (y : Run) hy
      obtain rfl : (m, f, t) = y := Option.some.inj (hr.symm.trans hy)
      clear hy
      (refine Zm ?_; repeat' (first | exact .intro | ((first | refine B1 (fun h => ?_) fun h => ?_ | refine B2 fun y he he' hy => ?_ | refine B3 fun y he hy => ?_ | refine B4 fun y hy => ?_ | refine B5 fun ck => ?_ | fail) <;> refine Zm ?_)))
      all_goals
        try
          refine CallP.mk (C := drightC) c ?_
          (refine Z ?_; repeat' (first | exact .intro | ((first | refine B1 (fun h => ?_) fun h => ?_ | refine B2 fun y he he' hy => ?_ | refine B3 fun y he hy => ?_ | refine B4 fun y hy => ?_ | refine B5 fun ck => ?_ | fail) <;> refine Z ?_)))
      all_goals
        refine Some'.mk ⟨i + 1, 0⟩ ?_
        (refine Z ?_; repeat' (first | exact .intro | ((first | refine B1 (fun h => ?_) fun h => ?_ | refine B2 fun y he he' hy => ?_ | refine B3 fun y he hy => ?_ | refine B4 fun y hy => ?_ | refine B5 fun ck => ?_ | fail) <;> refine Z ?_)))
        refine Ask.mk ⟨hlt, by rw [if_neg (by rw [hb]; exact Bool.false_ne_true)]⟩ ?_
        (refine Z ?_; repeat' (first | exact .intro | ((first | refine B1 (fun h => ?_) fun h => ?_ | refine B2 fun y he he' hy => ?_ | refine B3 fun y he hy => ?_ | refine B4 fun y hy => ?_ | refine B5 fun ck => ?_ | fail) <;> refine Z ?_)))
    · exact G1
  | true =>
    have ht := topN_ref hb node
    have hp0 : if rightB c = true then topN c node = topG node 0 (c.drop 0) else (0 : Int) = 0 := by rw [if_pos hb]; exact ht
    (refine Z ?_; repeat' (first | exact .intro | ((first | refine B1 (fun h => ?_) fun h => ?_ | refine B2 fun y he he' hy => ?_ | refine B3 fun y he hy => ?_ | refine B4 fun y hy => ?_ | refine B5 fun ck => ?_ | fail) <;> refine Z ?_)))
    refine Some'.mk ⟨0, 0⟩ ?_
    (refine Z ?_; repeat' (first | exact .intro | ((first | refine B1 (fun h => ?_) fun h => ?_ | refine B2 fun y he he' hy => ?_ | refine B3 fun y he hy => ?_ | refine B4 fun y hy => ?_ | refine B5 fun ck => ?_ | fail) <;> refine Z ?_)))
    refine Ask.mk ⟨Nat.zero_le _, hp0⟩ ?_
    (refine Z ?_; repeat' (first | exact .intro | ((first | refine B1 (fun h => ?_) fun h => ?_ | refine B2 fun y he he' hy => ?_ | refine B3 fun y he hy => ?_ | refine B4 fun y hy => ?_ | refine B5 fun ck => ?_ | fail) <;> refine Z ?_)))
    refine AllI.mk ?_
    rintro ⟨i, n⟩ ⟨h1, h2⟩
    dsimp only at h1 h2
    rw [if_pos hb] at h2
    clear ht hp0
    rcases Nat.lt_or_ge i c.length with hlt | hge
    · obtain ⟨⟨m, f, t⟩, hr⟩ := get_ex hlt
      rw [topG_step hr] at h2
      dsimp only at h2
      by_cases hm : m = node ∧ n < t
      · rw [if_pos hm] at h2
        have hp1 : if rightB c = true then topN c node = topG node t (c.drop (i + 1)) else t = 0 := by rw [if_pos hb]; exact h2
        obtain ⟨hm1, hm2⟩ := hm
        (refine Zm ?_; repeat' (first | exact .intro | ((first | refine B1 (fun h => ?_) fun h => ?_ | refine B2 fun y he he' hy => ?_ | refine B3 fun y he hy => ?_ | refine B4 fun y hy => ?_ | refine B5 fun ck => ?_ | fail) <;> refine Zm ?_)))
        refine All'.mk ?_
        rintro (y : Run) hy
        obtain rfl : (m, f, t) = y := Option.some.inj (hr.symm.trans hy)
        clear hy
        (refine Zm ?_; repeat' (first | exact .intro | ((first | refine B1 (fun h => ?_) fun h => ?_ | refine B2 fun y he he' hy => ?_ | refine B3 fun y he hy => ?_ | refine B4 fun y hy => ?_ | refine B5 fun ck => ?_ | fail) <;> refine Zm ?_)))
        refine CallP.mk (C := drightC) c ?_
        (refine Z ?_; repeat' (first | exact .intro | ((first | refine B1 (fun h => ?_) fun h => ?_ | refine B2 fun y he he' hy => ?_ | refine B3 fun y he hy => ?_ | refine B4 fun y hy => ?_ | refine B5 fun ck => ?_ | fail) <;> refine Z ?_)))
        refine Some'.mk ⟨i + 1, t⟩ ?_
        exact G1
      · rw [if_neg hm] at h2
        have hp1 : if rightB c = true then topN c node = topG node n (c.drop (i + 1)) else n = 0 := by rw [if_pos hb]; exact h2
        (refine Zm ?_; repeat' (first | exact .intro | ((first | refine B1 (fun h => ?_) fun h => ?_ | refine B2 fun y he he' hy => ?_ | refine B3 fun y he hy => ?_ | refine B4 fun y hy => ?_ | refine B5 fun ck => ?_ | fail) <;> refine Zm ?_)))
        refine All'.mk ?_
        rintro (y : Run) hy
        obtain rfl : (m, f, t) = y := Option.some.inj (hr.symm.trans hy)
        clear hy
        (refine Zm ?_; repeat' (first | exact .intro | ((first | refine B1 (fun h => ?_) fun h => ?_ | refine B2 fun y he he' hy => ?_ | refine B3 fun y he hy => ?_ | refine B4 fun y hy => ?_ | refine B5 fun ck => ?_ | fail) <;> refine Zm ?_)))
        all_goals
          refine Some'.mk ⟨i + 1, n⟩ ?_
          (refine Z ?_; repeat' (first | exact .intro | ((first | refine B1 (fun h => ?_) fun h => ?_ | refine B2 fun y he he' hy => ?_ | refine B3 fun y he hy => ?_ | refine B4 fun y hy => ?_ | refine B5 fun ck => ?_ | fail) <;> refine Z ?_)))
    · have hh : topG node n (c.drop i) = n := by rw [List.drop_eq_nil_of_le hge]; rfl
      rw [hh] at h2
      exact G1
end Go.Proofs.YthmbdjhlfieldaaGreatDoor
