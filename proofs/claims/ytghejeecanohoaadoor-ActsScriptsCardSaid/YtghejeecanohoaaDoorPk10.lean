/- Parts of the proof, one behind the other (ActR, ActS, LibC, ActT, ActU, ActV, ActW). -/
import Derived.Test.YtghejeecanohoaaDoorPk9
import Derived.Test.YtghejeecanohoaaDoorChecked
import Derived.Lib.Builder
import Derived.Lib.UnsafeStr
import Derived.WalkKit
import Derived.BigCall
import Derived.BigGuard
/-! Texts as lines that are some, with their numbers; the law's first ones. -/
set_option linter.unusedVariables false
set_option linter.unusedSimpArgs false
set_option maxRecDepth 100000
set_option maxHeartbeats 4000000
namespace Go.Proofs.YtghejeecanohoaaDoor
open Go.Eng

@[reducible] def linesC : Ctr := {
  X := ByteArray
  Y := Unit
  args := fun s => [.v (.string s)]
  rw := fun _ => []
  side := fun _ => True
  val := fun _ => ()
  ens := fun _ _ => True
  res := fun _ _ => .func (.func 48) [] [.ptr 1000 0]
  out := fun s _ => [(1000, .cells 9 [.v (.string s)])] }
theorem lines_ok : linesC.ok Tryd.prog 36 := by
  refine ok_of_vc (An := fun _ => anOf []) (known_nil _) mo Tryd.func36 (by kernel_rfl) (by kernel_rfl) (fun _ _ => trivial) (fun (s : ByteArray) hs => ?_)
  exact G1

/-- The line of the c-th that is some; its place. -/
def kW (s : ByteArray) (c : Nat) : Nat := (ksW (lnP s) 0).getD c 0
def tW (s : ByteArray) (c : Nat) : List Int := (lnP s).getD (kW s c) []
abbrev nW (s : ByteArray) : Nat := (ksW (lnP s) 0).length
@[reducible] def wArgs (s : ByteArray) (c : Nat) : List SV := [.v (.int .i64 ((kW s c + 1 : Nat) : Int)), .v (.string (strOfNums (tW s c)))]
theorem nW_le (s : ByteArray) : nW s ≤ s.size + 1 := Nat.le_trans (ksW_len _ _) (lines_bound s)
theorem kW_lt {s : ByteArray} {c : Nat} (h : c < nW s) : kW s c < (lnP s).length := by
  have e : (ksW (lnP s) 0)[c]? = some (kW s c) := by
    unfold kW; rw [List.getD_eq_getElem?_getD, List.getElem?_eq_getElem h]; rfl
  have := (ksW_mem (lnP s) 0 _ (List.mem_of_getElem? e)).2
  omega
theorem tW_at {s : ByteArray} {c : Nat} (h : c < nW s) : (lnP s)[kW s c]? = some (tW s c) := by
  have := kW_lt h
  unfold tW; rw [List.getD_eq_getElem?_getD, List.getElem?_eq_getElem this]; rfl
theorem tW_ok {s : ByteArray} {c : Nat} (h : c < nW s) : okB (tW s c) ∧ (tW s c).length ≤ s.size := ln_ok (List.mem_of_getElem? (tW_at h))
theorem sideW {s : ByteArray} {g : Nat → Bool} : ∀ Y : Yld, (Y.args = wArgs s) → Y.goes = g → Y.live = liveB (nW s) g →
      ∀ (c k : Nat) t, (ksW (lnP s) 0)[c]? = some k → (lnP s)[k]? = some t → Y.args c = [.v (.int .i64 ((k + 1 : Nat) : Int)), .v (.string (strOfNums t))] ∧ ((∀ j, j < c → Y.goes j = true) → Y.live c = true) := fun Y h1 h2 h3 c k t hk ht => by
  have hc := (List.getElem?_eq_some_iff.1 hk).1
  have e : kW s c = k := by unfold kW; rw [List.getD_eq_getElem?_getD, hk]; rfl
  have e2 : tW s c = t := Option.some.inj ((tW_at hc).symm.trans (by rw [e]; exact ht))
  refine ⟨by rw [h1]; simp only [wArgs, e, e2], fun hg => ?_⟩
  rw [h3, liveB_iff]
  exact ⟨hc, fun j hj => by rw [← h2]; exact hg j hj⟩
theorem made_min {g : Nat → Bool} {m : Int} (hg : ∀ k, g k = decide ((k : Int) < m)) (n : Nat) : min (made g n 0) m.toNat = min n m.toNat := by
  by_cases h : n ≤ m.toNat
  · rw [made_all g n 0 (fun j _ hj => by rw [hg]; exact decide_eq_true (by omega))]
    omega
  · rw [made_at g n 0 m.toNat (Nat.zero_le _) (by omega) (fun j _ hj => by rw [hg]; exact decide_eq_true (by omega)) (by rw [hg]; exact decide_eq_false (by omega))]
    omega

def isW' (s : ByteArray) (n : Nat) : List Int := (List.range n).map fun c => ((kW s c + 1 : Nat) : Int)
def lsW (s : ByteArray) (n : Nat) : List ByteArray := (List.range n).map fun c => strOfNums (tW s c)
theorem isW_succ (s : ByteArray) (n : Nat) : isW' s (n + 1) = isW' s n ++ [((kW s n + 1 : Nat) : Int)] := by simp [isW', List.range_succ]
theorem lsW_succ (s : ByteArray) (n : Nat) : lsW s (n + 1) = lsW s n ++ [strOfNums (tW s n)] := by simp [lsW, List.range_succ]
theorem isW_len (s : ByteArray) (n : Nat) : (isW' s n).length = n := by simp [isW']
theorem lsW_len (s : ByteArray) (n : Nat) : (lsW s n).length = n := by simp [lsW]

structure LnX where
  s : ByteArray
  m : Int
@[reducible] def cntW (x : LnX) : Nat := min (nW x.s) x.m.toNat
@[reducible] def lnC : Ctr := {
  X := LnX
  Y := Unit
  args := fun x => [.v (.string x.s), .v (.int .i64 x.m)]
  rw := fun _ => []
  side := fun x => x.s.size ≤ 100000
  val := fun _ => ()
  ens := fun _ _ => True
  res := fun x _ => .tuple [.ro false (.int .i64) (isW' x.s (cntW x)), .ro false .str (lsW x.s (cntW x))]
  out := fun _ _ => [] }
@[reducible] def lnR (x : LnX) : RA := {
  X := Unit
  T := fun _ => [(3, .ptr 6 0), (6, .ptr 7 0), (7, .ptr 8 0), (15, .func (.func 48) [] [.ptr 2 0])]
  M := fun _ k => [(7, .cells 35 [.sl 4]), (8, .cells 33 [.sl 5]), (4, .row 3 (.int .i64) (isW' x.s (min k x.m.toNat))), (5, .row 9 .str (lsW x.s (min k x.m.toNat))), (6, .cells 3 [.v (.int .i64 x.m)])]
  R := fun _ => [(2, .cells 9 [.v (.string x.s)])]
  rg := [2, 6, 7, 8]
  n := fun _ => nW x.s
  args := fun _ => wArgs x.s
  goes := fun _ k => decide ((k : Int) < x.m)
  jump := fun _ _ => .exit 0 }
theorem knownW : Known Tryd.prog (gOf [(36, linesC), (48, itC)]) := known_cons ⟨lines_ok, Tryd.call36⟩ (known_cons ⟨it_ok, Tryd.call48⟩ (known_nil _))
theorem ln_law_ok : lnC.ok Tryd.prog 16 := by
  refine ok_of_vc (An := fun (x : LnX) => anOf [(0, .range (lnR x))]) knownW mo Tryd.func16 (by kernel_rfl) (by kernel_rfl) (fun _ _ => trivial) (fun x hs => ?_)
  obtain ⟨s, m⟩ := x
  have hs : s.size ≤ 100000 := hs
  have hn := nW_le s
  have hi0 : isW' s (min 0 m.toNat) = [] := by rw [Nat.zero_min]; rfl
  have hw0 : lsW s (min 0 m.toNat) = [] := by rw [Nat.zero_min]; rfl
  ((repeat' ((conv => whnf) <;> first | exact True.intro | (guard_target =~ Fork _ _ _; first | refine F1 ?_ | refine F2 ?_ | refine F3 (fun h => ?_) fun h => ?_) | (guard_target =~ Ar _ _ _; first | refine A1 ?_ | refine A2 ?_ | refine A3 ?_) | (guard_target =~ AskL _ _; first | refine L1 ?_) | (guard_target =~ Go.Eng.Ask _ _; first | refine K1 ?_) | (guard_target =~ All' _ _; first | (refine Y2 fun y he he' hy => ?_; (try dsimp only at he he' hy)) | (refine Y1 fun y he hy => ?_; (try with_reducible conv at he => (rhs; whnf)); (try dsimp only at he hy)) | (refine All'.mk ?_; intro y hy)) | refine F4 (fun h => ?_) fun h => ?_ | refine R1 ?_ | refine Q1 ?_ | fail)); all_goals (conv => whnf))
  refine CallP.mk (C := linesC) s ?_
  ((repeat' ((conv => whnf) <;> first | exact True.intro | (guard_target =~ Fork _ _ _; first | refine F1 ?_ | refine F2 ?_ | refine F3 (fun h => ?_) fun h => ?_) | (guard_target =~ Ar _ _ _; first | refine A1 ?_ | refine A2 ?_ | refine A3 ?_) | (guard_target =~ AskL _ _; first | refine L1 ?_) | (guard_target =~ Go.Eng.Ask _ _; first | refine K1 ?_) | (guard_target =~ All' _ _; first | (refine Y2 fun y he he' hy => ?_; (try dsimp only at he he' hy)) | (refine Y1 fun y he hy => ?_; (try with_reducible conv at he => (rhs; whnf)); (try dsimp only at he hy)) | (refine All'.mk ?_; intro y hy)) | refine F4 (fun h => ?_) fun h => ?_ | refine R1 ?_ | refine Q1 ?_ | fail)); all_goals (conv => whnf))
  refine Some'.mk () ?_
  ((repeat' ((conv => whnf) <;> first | exact True.intro | (guard_target =~ Fork _ _ _; first | refine F1 ?_ | refine F2 ?_ | refine F3 (fun h => ?_) fun h => ?_) | (guard_target =~ Ar _ _ _; first | refine A1 ?_ | refine A2 ?_ | refine A3 ?_) | (guard_target =~ AskL _ _; first | refine L1 ?_) | (guard_target =~ Go.Eng.Ask _ _; first | refine K1 ?_) | (guard_target =~ All' _ _; first | (refine Y2 fun y he he' hy => ?_; (try dsimp only at he he' hy)) | (refine Y1 fun y he hy => ?_; (try with_reducible conv at he => (rhs; whnf)); (try dsimp only at he hy)) | (refine All'.mk ?_; intro y hy)) | refine F4 (fun h => ?_) fun h => ?_ | refine R1 ?_ | refine Q1 ?_ | fail)); all_goals (conv => whnf))
  refine Two.mk ?_ ?_
  · refine AllI.mk ?_
    intro k hk
    have hg := liveB_iff.1 hk
    have hk := hg.1
    dsimp only at hk
    have hkn : ∀ j, j < k → (j : Int) < m := fun j hj => of_decide_eq_true (hg.2 j hj)
    have hl1 := isW_len s (min k m.toNat)
    have hl2 := lsW_len s (min k m.toNat)
    ((repeat' ((conv => whnf) <;> first | exact True.intro | (guard_target =~ Fork _ _ _; first | refine F1 ?_ | refine F2 ?_ | refine F3 (fun h => ?_) fun h => ?_) | (guard_target =~ Ar _ _ _; first | refine A1 ?_ | refine A2 ?_ | refine A3 ?_) | (guard_target =~ AskL _ _; first | refine L1 ?_) | (guard_target =~ Go.Eng.Ask _ _; first | refine K1 ?_) | (guard_target =~ All' _ _; first | (refine Y2 fun y he he' hy => ?_; (try dsimp only at he he' hy)) | (refine Y1 fun y he hy => ?_; (try with_reducible conv at he => (rhs; whnf)); (try dsimp only at he hy)) | (refine All'.mk ?_; intro y hy)) | refine F4 (fun h => ?_) fun h => ?_ | refine R1 ?_ | refine Q1 ?_ | fail)); all_goals (conv => whnf))
    · have hm : min (k + 1) m.toNat = min k m.toNat := by omega
      refine Ask.mk ⟨decide_eq_false (by dsimp only; omega), rfl⟩ ?_
      exact G1
    · have hm : min k m.toNat = k := by omega
      have hm' : min (k + 1) m.toNat = k + 1 := by omega
      have hi := isW_succ s k
      have hw := lsW_succ s k
      ((repeat' ((conv => whnf) <;> first | exact True.intro | (guard_target =~ Fork _ _ _; first | refine F1 ?_ | refine F2 ?_ | refine F3 (fun h => ?_) fun h => ?_) | (guard_target =~ Ar _ _ _; first | refine A1 ?_ | refine A2 ?_ | refine A3 ?_) | (guard_target =~ AskL _ _; first | refine L1 ?_) | (guard_target =~ Go.Eng.Ask _ _; first | refine K1 ?_) | (guard_target =~ All' _ _; first | (refine Y2 fun y he he' hy => ?_; (try dsimp only at he he' hy)) | (refine Y1 fun y he hy => ?_; (try with_reducible conv at he => (rhs; whnf)); (try dsimp only at he hy)) | (refine All'.mk ?_; intro y hy)) | refine F4 (fun h => ?_) fun h => ?_ | refine R1 ?_ | refine Q1 ?_ | fail)); all_goals (conv => whnf))
      refine Ask.mk (decide_eq_true (by dsimp only; omega)) ?_
      exact G1
  · refine AllI.mk ?_
    rintro ⟨l, Y⟩ ⟨h1, h2, h3, h4⟩
    dsimp only at h1 h2 h3 h4
    ((repeat' ((conv => whnf) <;> first | exact True.intro | (guard_target =~ Fork _ _ _; first | refine F1 ?_ | refine F2 ?_ | refine F3 (fun h => ?_) fun h => ?_) | (guard_target =~ Ar _ _ _; first | refine A1 ?_ | refine A2 ?_ | refine A3 ?_) | (guard_target =~ AskL _ _; first | refine L1 ?_) | (guard_target =~ Go.Eng.Ask _ _; first | refine K1 ?_) | (guard_target =~ All' _ _; first | (refine Y2 fun y he he' hy => ?_; (try dsimp only at he he' hy)) | (refine Y1 fun y he hy => ?_; (try with_reducible conv at he => (rhs; whnf)); (try dsimp only at he hy)) | (refine All'.mk ?_; intro y hy)) | refine F4 (fun h => ?_) fun h => ?_ | refine R1 ?_ | refine Q1 ?_ | fail)); all_goals (conv => whnf))
    refine CallP.mk (C := itC) ⟨Y, l, s⟩ ?_
    ((repeat' ((conv => whnf) <;> first | exact True.intro | (guard_target =~ Fork _ _ _; first | refine F1 ?_ | refine F2 ?_ | refine F3 (fun h => ?_) fun h => ?_) | (guard_target =~ Ar _ _ _; first | refine A1 ?_ | refine A2 ?_ | refine A3 ?_) | (guard_target =~ AskL _ _; first | refine L1 ?_) | (guard_target =~ Go.Eng.Ask _ _; first | refine K1 ?_) | (guard_target =~ All' _ _; first | (refine Y2 fun y he he' hy => ?_; (try dsimp only at he he' hy)) | (refine Y1 fun y he hy => ?_; (try with_reducible conv at he => (rhs; whnf)); (try dsimp only at he hy)) | (refine All'.mk ?_; intro y hy)) | refine F4 (fun h => ?_) fun h => ?_ | refine R1 ?_ | refine Q1 ?_ | fail)); all_goals (conv => whnf))
    refine Ask.mk ⟨hs, h4, sideW Y h1 h2 h3⟩ ?_
    ((repeat' ((conv => whnf) <;> first | exact True.intro | (guard_target =~ Fork _ _ _; first | refine F1 ?_ | refine F2 ?_ | refine F3 (fun h => ?_) fun h => ?_) | (guard_target =~ Ar _ _ _; first | refine A1 ?_ | refine A2 ?_ | refine A3 ?_) | (guard_target =~ AskL _ _; first | refine L1 ?_) | (guard_target =~ Go.Eng.Ask _ _; first | refine K1 ?_) | (guard_target =~ All' _ _; first | (refine Y2 fun y he he' hy => ?_; (try dsimp only at he he' hy)) | (refine Y1 fun y he hy => ?_; (try with_reducible conv at he => (rhs; whnf)); (try dsimp only at he hy)) | (refine All'.mk ?_; intro y hy)) | refine F4 (fun h => ?_) fun h => ?_ | refine R1 ?_ | refine Q1 ?_ | fail)); all_goals (conv => whnf))
    have hn : min (made Y.goes (nW s) 0) m.toNat = min (nW s) m.toNat := made_min (fun k => by rw [h2]) _
    refine Some'.mk (made Y.goes (nW s) 0) ?_
    conv => whnf
    refine Eqn.mk rfl ?_
    ((repeat' ((conv => whnf) <;> first | exact True.intro | (guard_target =~ Fork _ _ _; first | refine F1 ?_ | refine F2 ?_ | refine F3 (fun h => ?_) fun h => ?_) | (guard_target =~ Ar _ _ _; first | refine A1 ?_ | refine A2 ?_ | refine A3 ?_) | (guard_target =~ AskL _ _; first | refine L1 ?_) | (guard_target =~ Go.Eng.Ask _ _; first | refine K1 ?_) | (guard_target =~ All' _ _; first | (refine Y2 fun y he he' hy => ?_; (try dsimp only at he he' hy)) | (refine Y1 fun y he hy => ?_; (try with_reducible conv at he => (rhs; whnf)); (try dsimp only at he hy)) | (refine All'.mk ?_; intro y hy)) | refine F4 (fun h => ?_) fun h => ?_ | refine R1 ?_ | refine Q1 ?_ | fail)); all_goals (conv => whnf))
    all_goals (refine AskL.mk ?_ trivial; simp only [conj, hn, cntW, and_self])
end Go.Proofs.YtghejeecanohoaaDoor

/-! A script read. -/
set_option linter.unusedVariables false
set_option linter.unusedSimpArgs false
set_option maxRecDepth 100000
set_option maxHeartbeats 4000000
namespace Go.Proofs.YtghejeecanohoaaDoor
open Go.Eng

noncomputable def gW (s : ByteArray) (c : Nat) : Bool := parseB (strOfNums (tW s c))
noncomputable def esW (s : ByteArray) (n : Nat) : List Ev := (List.range n).map fun c => parseE (strOfNums (tW s c))
theorem esW_succ (s : ByteArray) (n : Nat) : esW s (n + 1) = esW s n ++ [parseE (strOfNums (tW s n))] := by simp [esW, List.range_succ]
theorem esW_len (s : ByteArray) (n : Nat) : (esW s n).length = n := by simp [esW]
/-- The first line that is no event's. -/
noncomputable def badW (s : ByteArray) : Option Nat := (List.range (nW s)).find? fun c => !gW s c
theorem badW_some {s : ByteArray} {b : Nat} : badW s = some b ↔ b < nW s ∧ gW s b = false ∧ ∀ j, j < b → gW s j = true := by
  unfold badW
  rw [List.find?_range_eq_some]
  simp
  constructor
  · rintro ⟨h1, h2, h3⟩; exact ⟨h2, h1, h3⟩
  · rintro ⟨h1, h2, h3⟩; exact ⟨h2, h1, h3⟩
theorem badW_none {s : ByteArray} : badW s = none ↔ ∀ j, j < nW s → gW s j = true := by
  unfold badW
  rw [List.find?_range_eq_none]
  simp
noncomputable def readE (s : ByteArray) : List Ev := if 1000 < (lnP s).length then [] else match badW s with | some _ => [] | none => esW s (nW s)
noncomputable def readN (s : ByteArray) : Int := if 1000 < (lnP s).length then 0 else match badW s with | some b => ((kW s b + 1 : Nat) : Int) | none => 0
noncomputable def readF (s : ByteArray) : Int := if 1000 < (lnP s).length then 12 else match badW s with | some b => 11 | none => 0
@[reducible] noncomputable def readC : Ctr := {
  X := ByteArray
  Y := Unit
  args := fun s => [.v (.string s)]
  rw := fun _ => []
  side := fun s => s.size ≤ 100000
  val := fun _ => ()
  ens := fun _ _ => True
  res := fun s _ => .tuple [.ro false evT (readE s), .v (.int .i64 (readN s)), .v (.int .i64 (readF s))]
  out := fun _ _ => [] }
@[irreducible] noncomputable def allW (s : ByteArray) (k : Nat) : Bool := goesB (gW s) k
theorem allW_eq (s : ByteArray) (k : Nat) : allW s k = goesB (gW s) k := by unfold allW; rfl
@[reducible] noncomputable def readM (s : ByteArray) (k : Nat) : En := match allW s k with
  | true => [(12, .cells 32 [.v (.slice none 0 0)]), (13, .cells 3 [.v (.int .i64 0)]), (14, .cells 39 [.v (.int .i64 0)]), (15, .cells 32 [.sl 4]), (4, .row 24 evT (esW s k))]
  | false => [(12, .cells 32 [.v (.slice none 0 0)]), (13, .cells 3 [.v (.int .i64 ((kW s (k - 1) + 1 : Nat) : Int))]), (14, .cells 39 [.v (.int .i64 11)]), (15, .cells 32 [.sl 4]), (4, .row 24 evT (esW s (k - 1)))]
@[reducible] noncomputable def readRA (s : ByteArray) : RA := {
  X := Unit
  T := fun _ => [(2, .ptr 12 0), (3, .ptr 13 0), (4, .ptr 14 0), (5, .ptr 15 0), (15, .func (.func 48) [] [.ptr 2 0])]
  M := fun _ k => readM s k
  R := fun _ => [(2, .cells 9 [.v (.string s)])]
  rg := [2, 12, 13, 14, 15]
  n := fun _ => nW s
  args := fun _ => wArgs s
  goes := fun _ => gW s
  jump := fun _ _ => .ret }
theorem knownS : Known Tryd.prog (gOf [(36, linesC), (48, itC), (37, aSplitC), (9, parseC)]) :=
  known_cons ⟨lines_ok, Tryd.call36⟩ (known_cons ⟨it_ok, Tryd.call48⟩ (known_cons ⟨aSplit_ok, Tryd.call37⟩ (known_cons ⟨parse_ok, Tryd.call9⟩ (known_nil _))))
theorem read_ok : readC.ok Tryd.prog 18 := by
  refine ok_of_vc (An := fun (s : ByteArray) => anOf [(0, .range (readRA s))]) knownS mo Tryd.func18 (by kernel_rfl) (by kernel_rfl) (fun _ _ => trivial) (fun (s : ByteArray) hs => ?_)
  have hs : s.size ≤ 100000 := hs
  have hn := nW_le s
  have hlm : ((linesP (bytesL s)).map strOfNums).length = (lnP s).length := List.length_map ..
  by_cases hb : 1000 < (lnP s).length
  · have e1 : readE s = [] := if_pos hb
    have e2 : readN s = 0 := if_pos hb
    have e3 : readF s = 12 := if_pos hb
    ((repeat' ((conv => whnf) <;> first | exact True.intro | (guard_target =~ Fork _ _ _; first | refine F1 ?_ | refine F2 ?_ | refine F3 (fun h => ?_) fun h => ?_) | (guard_target =~ Ar _ _ _; first | refine A1 ?_ | refine A2 ?_ | refine A3 ?_) | (guard_target =~ AskL _ _; first | refine L1 ?_) | (guard_target =~ Go.Eng.Ask _ _; first | refine K1 ?_) | (guard_target =~ All' _ _; first | (refine Y2 fun y he he' hy => ?_; (try dsimp only at he he' hy)) | (refine Y1 fun y he hy => ?_; (try with_reducible conv at he => (rhs; whnf)); (try dsimp only at he hy)) | (refine All'.mk ?_; intro y hy)) | refine F4 (fun h => ?_) fun h => ?_ | refine R1 ?_ | refine Q1 ?_ | fail)); all_goals (conv => whnf))
    refine CallP.mk (C := aSplitC) s ?_
    exact G1
  · have h0 : allW s 0 = true := allW_eq s 0
    have e0 : esW s 0 = [] := rfl
    ((repeat' ((conv => whnf) <;> first | exact True.intro | (guard_target =~ Fork _ _ _; first | refine F1 ?_ | refine F2 ?_ | refine F3 (fun h => ?_) fun h => ?_) | (guard_target =~ Ar _ _ _; first | refine A1 ?_ | refine A2 ?_ | refine A3 ?_) | (guard_target =~ AskL _ _; first | refine L1 ?_) | (guard_target =~ Go.Eng.Ask _ _; first | refine K1 ?_) | (guard_target =~ All' _ _; first | (refine Y2 fun y he he' hy => ?_; (try dsimp only at he he' hy)) | (refine Y1 fun y he hy => ?_; (try with_reducible conv at he => (rhs; whnf)); (try dsimp only at he hy)) | (refine All'.mk ?_; intro y hy)) | refine F4 (fun h => ?_) fun h => ?_ | refine R1 ?_ | refine Q1 ?_ | fail)); all_goals (conv => whnf))
    refine CallP.mk (C := aSplitC) s ?_
    ((repeat' ((conv => whnf) <;> first | exact True.intro | (guard_target =~ Fork _ _ _; first | refine F1 ?_ | refine F2 ?_ | refine F3 (fun h => ?_) fun h => ?_) | (guard_target =~ Ar _ _ _; first | refine A1 ?_ | refine A2 ?_ | refine A3 ?_) | (guard_target =~ AskL _ _; first | refine L1 ?_) | (guard_target =~ Go.Eng.Ask _ _; first | refine K1 ?_) | (guard_target =~ All' _ _; first | (refine Y2 fun y he he' hy => ?_; (try dsimp only at he he' hy)) | (refine Y1 fun y he hy => ?_; (try with_reducible conv at he => (rhs; whnf)); (try dsimp only at he hy)) | (refine All'.mk ?_; intro y hy)) | refine F4 (fun h => ?_) fun h => ?_ | refine R1 ?_ | refine Q1 ?_ | fail)); all_goals (conv => whnf))
    refine CallP.mk (C := linesC) s ?_
    ((repeat' ((conv => whnf) <;> first | exact True.intro | (guard_target =~ Fork _ _ _; first | refine F1 ?_ | refine F2 ?_ | refine F3 (fun h => ?_) fun h => ?_) | (guard_target =~ Ar _ _ _; first | refine A1 ?_ | refine A2 ?_ | refine A3 ?_) | (guard_target =~ AskL _ _; first | refine L1 ?_) | (guard_target =~ Go.Eng.Ask _ _; first | refine K1 ?_) | (guard_target =~ All' _ _; first | (refine Y2 fun y he he' hy => ?_; (try dsimp only at he he' hy)) | (refine Y1 fun y he hy => ?_; (try with_reducible conv at he => (rhs; whnf)); (try dsimp only at he hy)) | (refine All'.mk ?_; intro y hy)) | refine F4 (fun h => ?_) fun h => ?_ | refine R1 ?_ | refine Q1 ?_ | fail)); all_goals (conv => whnf))
    refine Some'.mk () ?_
    dsimp only [readRA, readM]
    rw [h0, e0]
    ((repeat' ((conv => whnf) <;> first | exact True.intro | (guard_target =~ Fork _ _ _; first | refine F1 ?_ | refine F2 ?_ | refine F3 (fun h => ?_) fun h => ?_) | (guard_target =~ Ar _ _ _; first | refine A1 ?_ | refine A2 ?_ | refine A3 ?_) | (guard_target =~ AskL _ _; first | refine L1 ?_) | (guard_target =~ Go.Eng.Ask _ _; first | refine K1 ?_) | (guard_target =~ All' _ _; first | (refine Y2 fun y he he' hy => ?_; (try dsimp only at he he' hy)) | (refine Y1 fun y he hy => ?_; (try with_reducible conv at he => (rhs; whnf)); (try dsimp only at he hy)) | (refine All'.mk ?_; intro y hy)) | refine F4 (fun h => ?_) fun h => ?_ | refine R1 ?_ | refine Q1 ?_ | fail)); all_goals (conv => whnf))
    refine Two.mk ?_ ?_
    · refine AllI.mk ?_
      intro k hk
      obtain ⟨hk, hg⟩ := liveB_iff.1 hk
      have hk : k < nW s := hk
      have hg : ∀ j, j < k → gW s j = true := hg
      have hgk : allW s k = true := (allW_eq s k).trans (goesB_iff.2 hg)
      have hl := esW_len s k
      obtain ⟨hto, htl⟩ := tW_ok hk
      have hts := str_size (tW s k)
      rw [hgk]
      by_cases hgo : gW s k = true
      · have k1 : parseB (strOfNums (tW s k)) = true := hgo
        have hg1 : allW s (k + 1) = true := (allW_eq s _).trans <| goesB_iff.2 (fun j hj => by
          rcases Nat.lt_or_ge j k with h | h
          · exact hg j h
          · obtain rfl : j = k := by omega
            exact hgo)
        have hsn := esW_succ s k
        ((repeat' ((conv => whnf) <;> first | exact True.intro | (guard_target =~ Fork _ _ _; first | refine F1 ?_ | refine F2 ?_ | refine F3 (fun h => ?_) fun h => ?_) | (guard_target =~ Ar _ _ _; first | refine A1 ?_ | refine A2 ?_ | refine A3 ?_) | (guard_target =~ AskL _ _; first | refine L1 ?_) | (guard_target =~ Go.Eng.Ask _ _; first | refine K1 ?_) | (guard_target =~ All' _ _; first | (refine Y2 fun y he he' hy => ?_; (try dsimp only at he he' hy)) | (refine Y1 fun y he hy => ?_; (try with_reducible conv at he => (rhs; whnf)); (try dsimp only at he hy)) | (refine All'.mk ?_; intro y hy)) | refine F4 (fun h => ?_) fun h => ?_ | refine R1 ?_ | refine Q1 ?_ | fail)); all_goals (conv => whnf))
        refine CallP.mk (C := parseC) (strOfNums (tW s k)) ?_
        have lm := k1
        ((repeat' ((conv => whnf) <;> first | exact True.intro | (guard_target =~ Fork _ _ _; first | refine F1 ?_ | refine F2 ?_ | refine F3 (fun h => ?_) fun h => ?_) | (guard_target =~ Ar _ _ _; first | refine A1 ?_ | refine A2 ?_ | refine A3 ?_) | (guard_target =~ AskL _ _; first | refine L1 ?_) | (guard_target =~ Go.Eng.Ask _ _; first | refine K1 ?_) | (guard_target =~ All' _ _; first | (refine Y2 fun y he he' hy => ?_; (try dsimp only at he he' hy)) | (refine Y1 fun y he hy => ?_; (try with_reducible conv at he => (rhs; whnf)); (try dsimp only at he hy)) | (refine All'.mk ?_; intro y hy)) | refine F4 (fun h => ?_) fun h => ?_ | refine R1 ?_ | refine Q1 ?_ | fail)); all_goals (conv => whnf))
        dsimp only
        rw [hg1, hsn]
        exact G1
      · have hgo : gW s k = false := by simpa using hgo
        have k1 : parseB (strOfNums (tW s k)) = false := hgo
        have hg1 : allW s (k + 1) = false := by
          rw [allW_eq]
          cases h : goesB (gW s) (k + 1) with
          | false => rfl
          | true => rw [goesB_iff.1 h k (by omega)] at hgo; cases hgo
        ((repeat' ((conv => whnf) <;> first | exact True.intro | (guard_target =~ Fork _ _ _; first | refine F1 ?_ | refine F2 ?_ | refine F3 (fun h => ?_) fun h => ?_) | (guard_target =~ Ar _ _ _; first | refine A1 ?_ | refine A2 ?_ | refine A3 ?_) | (guard_target =~ AskL _ _; first | refine L1 ?_) | (guard_target =~ Go.Eng.Ask _ _; first | refine K1 ?_) | (guard_target =~ All' _ _; first | (refine Y2 fun y he he' hy => ?_; (try dsimp only at he he' hy)) | (refine Y1 fun y he hy => ?_; (try with_reducible conv at he => (rhs; whnf)); (try dsimp only at he hy)) | (refine All'.mk ?_; intro y hy)) | refine F4 (fun h => ?_) fun h => ?_ | refine R1 ?_ | refine Q1 ?_ | fail)); all_goals (conv => whnf))
        refine CallP.mk (C := parseC) (strOfNums (tW s k)) ?_
        have lm := k1
        ((repeat' ((conv => whnf) <;> first | exact True.intro | (guard_target =~ Fork _ _ _; first | refine F1 ?_ | refine F2 ?_ | refine F3 (fun h => ?_) fun h => ?_) | (guard_target =~ Ar _ _ _; first | refine A1 ?_ | refine A2 ?_ | refine A3 ?_) | (guard_target =~ AskL _ _; first | refine L1 ?_) | (guard_target =~ Go.Eng.Ask _ _; first | refine K1 ?_) | (guard_target =~ All' _ _; first | (refine Y2 fun y he he' hy => ?_; (try dsimp only at he he' hy)) | (refine Y1 fun y he hy => ?_; (try with_reducible conv at he => (rhs; whnf)); (try dsimp only at he hy)) | (refine All'.mk ?_; intro y hy)) | refine F4 (fun h => ?_) fun h => ?_ | refine R1 ?_ | refine Q1 ?_ | fail)); all_goals (conv => whnf))
        dsimp only
        rw [hg1, show k + 1 - 1 = k by omega]
        exact G1
    · refine AllI.mk ?_
      rintro ⟨l, Y⟩ ⟨h1, h2, h3, h4⟩
      dsimp only at h1 h2 h3 h4
      ((repeat' ((conv => whnf) <;> first | exact True.intro | (guard_target =~ Fork _ _ _; first | refine F1 ?_ | refine F2 ?_ | refine F3 (fun h => ?_) fun h => ?_) | (guard_target =~ Ar _ _ _; first | refine A1 ?_ | refine A2 ?_ | refine A3 ?_) | (guard_target =~ AskL _ _; first | refine L1 ?_) | (guard_target =~ Go.Eng.Ask _ _; first | refine K1 ?_) | (guard_target =~ All' _ _; first | (refine Y2 fun y he he' hy => ?_; (try dsimp only at he he' hy)) | (refine Y1 fun y he hy => ?_; (try with_reducible conv at he => (rhs; whnf)); (try dsimp only at he hy)) | (refine All'.mk ?_; intro y hy)) | refine F4 (fun h => ?_) fun h => ?_ | refine R1 ?_ | refine Q1 ?_ | fail)); all_goals (conv => whnf))
      refine CallP.mk (C := itC) ⟨Y, l, s⟩ ?_
      ((repeat' ((conv => whnf) <;> first | exact True.intro | (guard_target =~ Fork _ _ _; first | refine F1 ?_ | refine F2 ?_ | refine F3 (fun h => ?_) fun h => ?_) | (guard_target =~ Ar _ _ _; first | refine A1 ?_ | refine A2 ?_ | refine A3 ?_) | (guard_target =~ AskL _ _; first | refine L1 ?_) | (guard_target =~ Go.Eng.Ask _ _; first | refine K1 ?_) | (guard_target =~ All' _ _; first | (refine Y2 fun y he he' hy => ?_; (try dsimp only at he he' hy)) | (refine Y1 fun y he hy => ?_; (try with_reducible conv at he => (rhs; whnf)); (try dsimp only at he hy)) | (refine All'.mk ?_; intro y hy)) | refine F4 (fun h => ?_) fun h => ?_ | refine R1 ?_ | refine Q1 ?_ | fail)); all_goals (conv => whnf))
      refine Ask.mk ⟨hs, h4, sideW Y h1 h2 h3⟩ ?_
      ((repeat' ((conv => whnf) <;> first | exact True.intro | (guard_target =~ Fork _ _ _; first | refine F1 ?_ | refine F2 ?_ | refine F3 (fun h => ?_) fun h => ?_) | (guard_target =~ Ar _ _ _; first | refine A1 ?_ | refine A2 ?_ | refine A3 ?_) | (guard_target =~ AskL _ _; first | refine L1 ?_) | (guard_target =~ Go.Eng.Ask _ _; first | refine K1 ?_) | (guard_target =~ All' _ _; first | (refine Y2 fun y he he' hy => ?_; (try dsimp only at he he' hy)) | (refine Y1 fun y he hy => ?_; (try with_reducible conv at he => (rhs; whnf)); (try dsimp only at he hy)) | (refine All'.mk ?_; intro y hy)) | refine F4 (fun h => ?_) fun h => ?_ | refine R1 ?_ | refine Q1 ?_ | fail)); all_goals (conv => whnf))
      refine Some'.mk (made Y.goes (nW s) 0) ?_
      rw [h2]
      cases hbad : badW s with
      | none =>
        have hall := badW_none.1 hbad
        have hm : made (gW s) (nW s) 0 = nW s := by rw [made_all _ _ 0 (fun j _ hj => hall j (by omega))]; omega
        have hgb : goesB (gW s) (nW s) = true := goesB_iff.2 hall
        have hgn : allW s (nW s) = true := (allW_eq s _).trans hgb
        have e1 : readE s = esW s (nW s) := by unfold readE; rw [if_neg hb, hbad]
        have e2 : readN s = 0 := by unfold readN; rw [if_neg hb, hbad]
        have e3 : readF s = 0 := by unfold readF; rw [if_neg hb, hbad]
        rw [hm]
        conv => whnf
        refine Eqn.mk rfl ?_
        dsimp only [readRA, readM]
        rw [hgn]
        exact G1
      | some b =>
        obtain ⟨hb1, hb2, hb3⟩ := badW_some.1 hbad
        have hm : made (gW s) (nW s) 0 = b + 1 := made_at _ _ 0 b (Nat.zero_le _) (by omega) (fun j _ hj => hb3 j hj) hb2
        have hgb : goesB (gW s) (b + 1) = false := by
          cases h : goesB (gW s) (b + 1) with
          | false => rfl
          | true => rw [goesB_iff.1 h b (by omega)] at hb2; cases hb2
        have hgn : allW s (b + 1) = false := (allW_eq s _).trans hgb
        have e1 : readE s = [] := by unfold readE; rw [if_neg hb, hbad]
        have e2 : readN s = ((kW s b + 1 : Nat) : Int) := by unfold readN; rw [if_neg hb, hbad]
        have e3 : readF s = 11 := by unfold readF; rw [if_neg hb, hbad]
        rw [hm]
        conv => whnf
        refine Eqn.mk rfl ?_
        dsimp only [readRA, readM]
        rw [hgn, show b + 1 - 1 = b by omega]
        exact G1
end Go.Proofs.YtghejeecanohoaaDoor

/-! strings.Builder by contract: copyCheck and String, walked at this seat. -/
namespace Go.Proofs.YtghejeecanohoaaDoor
open Go.Shelf Go.RowKit Go.Lib Go.Eng
set_option linter.unusedVariables false
set_option linter.unusedSimpArgs false

set_option maxHeartbeats 6400000 in
set_option maxRecDepth 100000 in
theorem copy_used (b : Nat) (w : World) (h0 : w.cell? ⟨b, 0, none⟩ = some (.pointer (some ⟨b, 0, none⟩))) :
    Calls Tryd.prog 51 #[.pointer (some ⟨b, 0, none⟩)] w fun e w' => e = .returned (.tuple #[]) ∧ w' = w := by
  have hp : Tryd.prog.underlying 70 = some (.pointer 72) := by kernel_rfl
  obtain ⟨j, hj, hjs⟩ := Option.map_eq_some_iff.1 (show (Tryd.prog.info? 72).map (·.size) = some 2 by kernel_rfl)
  have hne : ∀ W : World, (binOp .neq 70 (.pointer (some ⟨b, 0, none⟩)) (.pointer (some ⟨b, 0, none⟩))).run Tryd.prog W = .ok (.bool false) W := fun W => Lib.run_neq_ptr_same W _ hp hj
  go_enter Tryd.func51, Tryd.ntmps51
  go_wp2
  go_end0
  exact ⟨rfl, rfl⟩
set_option maxHeartbeats 6400000 in
set_option maxRecDepth 100000 in
theorem copy_fresh (b : Nat) (w : World) (h0 : w.cell? ⟨b, 0, none⟩ = some (.pointer none)) (hsh : w.shape? b = some (72, 2)) (hfz : w.frozen? ⟨b, 0, none⟩ = false) :
    Calls Tryd.prog 51 #[.pointer (some ⟨b, 0, none⟩)] w fun e w' => e = .returned (.tuple #[]) ∧ w' = w.setCell ⟨b, 0, none⟩ (.pointer (some ⟨b, 0, none⟩)) := by
  obtain ⟨j, hj, hjs⟩ := Option.map_eq_some_iff.1 (show (Tryd.prog.info? 72).map (·.size) = some 2 by kernel_rfl)
  have hto : (convert 70 92 (.pointer (some ⟨b, 0, none⟩))).run Tryd.prog w = .ok (.pointer (some ⟨b, 0, none⟩)) w :=
    Lib.run_to_unsafe w ⟨b, 0, none⟩ (by kernel_rfl) (by kernel_rfl) hj (by rw [hjs]; decide) hsh (Nat.zero_lt_succ 1)
  have hfrom : (convert 92 70 (.pointer (some ⟨b, 0, none⟩))).run Tryd.prog w = .ok (.pointer (some ⟨b, 0, none⟩)) w :=
    Lib.run_from_unsafe w ⟨b, 0, none⟩ (by kernel_rfl) (by kernel_rfl) hj hsh (by kernel_rfl)
  have hesc : (callFunc 63 #[.pointer (some ⟨b, 0, none⟩)]).run Tryd.prog w = .ok (.value (.pointer (some ⟨b, 0, none⟩))) w := by kernel_rfl
  go_enter Tryd.func51, Tryd.ntmps51
  go_wp2
  go_end0
  exact ⟨rfl, rfl⟩

@[reducible] def addrS (u : Bool) : SV := match u with | true => .ptr 0 0 | false => .v (.pointer none)
@[reducible] def copyC : Ctr := {
  X := Bool
  Y := Unit
  args := fun _ => [.ptr 0 0]
  rw := fun u => [(0, .cells 72 [addrS u, .sl 1])]
  side := fun _ => True
  val := fun _ => ()
  ens := fun _ _ => True
  res := fun _ _ => .tuple []
  out := fun _ _ => [(0, .cells 72 [.ptr 0 0, .sl 1])] }
theorem sat_tuple0 (E : Env) (w : World) : Sat E w (.tuple []) (.tuple #[]) := .tuple [] #[] (fun _ => undef) rfl (fun j hj => absurd hj (Nat.not_lt_zero _)) (fun j sv hj => by simp at hj)
theorem copy_ok : copyC.ok Tryd.prog 51 := by
  intro u _
  refine ⟨trivial, fun E fp vals w hsz hv hents hnames => ?_⟩
  have hv0 := hv 0 _ rfl
  rw [vals_one hsz]
  generalize vals.getD 0 undef = v at hv0
  have hent := hents.sat 0
  obtain ⟨s, arr, fz, e1, e2, e3, e4, e5, e6⟩ : EntSat E w (fp 0) 0 (.cells 72 [addrS u, .sl 1]) := hent
  have e5 : arr.size = 2 := e5
  cases hv0 with
  | ptr _ _ s' hs' =>
    obtain rfl := Option.some.inj (hs'.symm.trans e1)
    obtain ⟨x0, hx0, hsat0⟩ := e6 0 _ rfl
    obtain ⟨x1, hx1, hsat1⟩ := e6 1 _ rfl
    have hcell : w.cell? ⟨s'.blk, 0, none⟩ = some x0 := by simp [World.cell?, e3, hx0]
    cases u with
    | true =>
      have hx : x0 = .pointer (some ⟨s'.blk, 0, none⟩) := by
        have hsat0 : Sat E w (.ptr 0 0) x0 := hsat0
        cases hsat0 with
        | ptr _ _ s2 hs2 => obtain rfl := Option.some.inj (hs2.symm.trans hs'); rfl
      subst hx
      refine callsIn_wide.2 (Calls.mono (copy_used s'.blk w hcell) ?_)
      rintro e w' ⟨rfl, rfl⟩
      exact ⟨_, E, fp, rfl, sat_tuple0 _ _, hents, .refl _ _ _, fun _ _ => rfl⟩
    | false =>
      have hx : x0 = .pointer none := sat_v hsat0
      subst hx
      have hsh : w.shape? s'.blk = some (72, 2) := by simp [World.shape?, e3, e5]
      have hfz : w.frozen? ⟨s'.blk, 0, none⟩ = false := by
        have := e4.at 0 (by omega)
        simp only [World.frozen?, e3]
        simpa using this
      refine callsIn_wide.2 (Calls.mono (copy_fresh s'.blk w hcell hsh hfz) ?_)
      rintro e w' ⟨rfl, rfl⟩
      have hb : (w.setCell ⟨s'.blk, 0, none⟩ (.pointer (some ⟨s'.blk, 0, none⟩))).heap[s'.blk]? = some (.cells (arr.setIfInBounds 0 (.pointer (some ⟨s'.blk, 0, none⟩))) 72 fz) := by
        simp [World.setCell, Array.getElem?_modify, e3]
      have hk : Keep (fun b => b = s'.blk) w (w.setCell ⟨s'.blk, 0, none⟩ (.pointer (some ⟨s'.blk, 0, none⟩))) :=
        ⟨rfl, ⟨rfl⟩, rfl, by simp [World.setCell], fun b _ hn => by simp only [World.setCell, Array.getElem?_modify]; rw [if_neg (fun e => hn e.symm)]⟩
      have hsub : EntsSat E w fp (sub (copyC.rw false) [0]) := hents.congr (fun id => by
        rw [find_sub]
        by_cases h0 : id = 0
        · rw [if_pos (by simp [h0])]
        · rw [if_neg (by simp [h0])]
          have : Nat.beq 0 id = false := by
            cases h : Nat.beq 0 id with
            | false => rfl
            | true => exact absurd (Nat.eq_of_beq_eq_true h).symm h0
          simp [find, this])
      obtain ⟨q1, q2⟩ := hsub.write (e := .cells 72 [.ptr 0 0, .sl 1]) e2 hk ⟨s', _, fz, hs', e2, hb, by simpa using e4, by simpa using e5, fun j sv hj => by
        match j, hj with
        | 0, hj =>
          obtain rfl : SV.ptr 0 0 = sv := by simpa using hj
          exact ⟨.pointer (some ⟨s'.blk, 0, none⟩), by simp [e5], .ptr 0 0 s' hs'⟩
        | 1, hj =>
          obtain rfl : SV.sl 1 = sv := by simpa using hj
          refine ⟨x1, by rw [Array.getElem?_setIfInBounds_ne (by decide)]; exact hx1, ?_⟩
          cases hsat1 with
          | sl _ s2 hs2 => exact .sl 1 s2 hs2
        | j + 2, hj => simp at hj⟩
      refine ⟨_, E, fp, rfl, sat_tuple0 _ _, q1.congr (fun id => ?_), q2, fun _ _ => rfl⟩
      rw [find_upd]
      by_cases h0 : id = 0
      · rw [if_pos (by simp [keys, h0])]
      · have : Nat.beq 0 id = false := by
          cases h : Nat.beq 0 id with
          | false => rfl
          | true => exact absurd (Nat.eq_of_beq_eq_true h).symm h0
        rw [if_neg (by simp [keys, h0]), if_neg (by simp [h0]), find_sub, if_neg (by simp [h0])]
        simp [find, this]

/-! ### String -/
theorem liesAt_bytes_at {P : Program} {e : TypeId} (hc : P.cellsOf e = 1) (count o n : Nat) (hn : o + n ≤ count) : liesAt P P.depth e count o e n = true := by
  have hd : P.depth = (2 * (P.types.size + Made.depth) + 1) + 1 := rfl
  rw [hd]
  simp only [liesAt, Bool.or_eq_true]
  left
  rw [hd]
  simp [rowAt, hc, hn, sameLayout, Nat.mod_one]
theorem unsafeString_at {P : Program} (w : World) (pt it ty e : TypeId) (hp : P.underlying pt = some (.pointer e)) (hc : P.cellsOf e = 1) (g o cells : Nat) (hsh : w.shape? g = some (e, cells)) (l : List UInt8) (h0 : l ≠ []) (hn : o + l.length ≤ cells) (h63 : l.length ≤ 9223372036854775807)
    (hcell : ∀ j x, l[j]? = some x → w.cell? ((⟨g, o, none⟩ : Addr).add j) = some (.int .u8 x.toNat)) :
    (Builtin.unsafeString_ #[pt, it] ty #[.pointer (some ⟨g, o, none⟩), .int .i64 l.length]).run P w = .ok (.string ⟨l.toArray⟩) (w.freeze ⟨g, o, none⟩ l.length) := by
  have hl : l.length ≠ 0 := by simpa using h0
  have hlb := run_loadBytes (P := P) w l ⟨g, o, none⟩ .empty hcell
  have hlies := liesAt_bytes_at (P := P) hc (cells / P.cellsOf e) o l.length (by rw [hc]; simpa using hn)
  have h63' : ¬ (9223372036854775807 : Int) < (l.length : Int) := by omega
  have hmax : IntKind.i64.max = 9223372036854775807 := rfl
  have hneg : ¬ (l.length : Int) < 0 := by omega
  show Sem.run P (asInt (.int .i64 (l.length : Int)) >>= _) w = _
  simp [asInt, asIntOf, hmax, h63', hneg, hl, variablesAt, hsh, elemOf, run_underlying hp, hlies, hlb]

set_option maxHeartbeats 6400000 in
set_option maxRecDepth 100000 in
theorem string_nil (b : Nat) (p : Value) (w : World) (hb : w.cell? ⟨b, 1, none⟩ = some (.slice none 0 0)) :
    Calls Tryd.prog 42 #[.pointer (some ⟨b, 0, none⟩)] w fun e w' => e = .returned (.string ⟨#[]⟩) ∧ w' = w.drew := by
  have hUS := fun W : World => Lib.run_unsafeString_none (P := Tryd.prog) W 82 3 9 none
  have hb' : w.drew.cell? ⟨b, 1, none⟩ = some (.slice none 0 0) := hb
  have hSD := Lib.run_unsafeSliceData_nil (P := Tryd.prog) w.drew #[22] 82 0 0
  go_enter Tryd.func42, Tryd.ntmps42
  go_wp2
  go_region
  all_goals (go_wp2; go_ret; exact ⟨rfl, rfl⟩)
set_option maxHeartbeats 6400000 in
set_option maxRecDepth 100000 in
theorem string_row (b g o c cells : Nat) (l : List UInt8) (w : World) (hb : w.cell? ⟨b, 1, none⟩ = some (.slice (some ⟨g, o, none⟩) l.length c)) (hc : c ≠ 0) (hsh : w.shape? g = some (5, cells)) (h0 : l ≠ []) (hn : o + l.length ≤ cells) (h63 : l.length ≤ 9223372036854775807)
    (hcell : ∀ j x, l[j]? = some x → w.cell? ((⟨g, o, none⟩ : Addr).add j) = some (.int .u8 x.toNat)) :
    Calls Tryd.prog 42 #[.pointer (some ⟨b, 0, none⟩)] w fun e w' => e = .returned (.string ⟨l.toArray⟩) ∧ w' = w.drew.freeze ⟨g, o, none⟩ l.length := by
  have hSD := Lib.run_unsafeSliceData_row (P := Tryd.prog) w.drew #[22] 82 ⟨g, o, none⟩ l.length c hc
  have hUS := unsafeString_at (P := Tryd.prog) w.drew 82 3 9 5 (by kernel_rfl) (by kernel_rfl) g o cells hsh l h0 hn h63 hcell
  have hb' : w.drew.cell? ⟨b, 1, none⟩ = some (.slice (some ⟨g, o, none⟩) l.length c) := hb
  go_enter Tryd.func42, Tryd.ntmps42
  go_wp2
  go_region
  all_goals (go_wp2; go_ret; exact ⟨rfl, rfl⟩)

theorem okB_u8 : ∀ {l : List Int}, (∀ c, c ∈ l → 0 ≤ c ∧ c < 256) → (l.map fun n => UInt8.ofNat n.toNat).map (fun b => (b.toNat : Int)) = l := fun {l} h => by
  rw [List.map_map]
  conv => rhs; rw [← List.map_id l]
  refine List.map_congr_left fun c hc => ?_
  obtain ⟨h1, h2⟩ := h c hc
  have : ((UInt8.ofNat c.toNat).toNat : Int) = c := by
    rw [UInt8.toNat_ofNat', Nat.mod_eq_of_lt (by omega)]; omega
  exact this
/-- What a builder holds: nothing that was ever laid; a row. -/
@[reducible] def bufE (x : Option (List Int)) : En := match x with
  | none => [(0, .cells 72 [.any, .v (.slice none 0 0)])]
  | some xs => [(0, .cells 72 [.any, .sl 1]), (1, .row 5 (.int .u8) xs)]
@[reducible] def bufV (x : Option (List Int)) : List Int := match x with | none => [] | some xs => xs
@[reducible] def bstrC : Ctr := {
  X := Option (List Int)
  Y := Unit
  args := fun _ => [.ptr 0 0]
  rw := bufE
  side := fun x => (∀ c, c ∈ bufV x → 0 ≤ c ∧ c < 256) ∧ (bufV x).length ≤ 274877906944 ∧ x ≠ some []
  val := fun _ => ()
  ens := fun _ _ => True
  res := fun x _ => .v (.string (strOfNums (bufV x)))
  out := fun _ _ => [] }
theorem bstr_ok : bstrC.ok Tryd.prog 42 := by
  intro x hs
  obtain ⟨hs1, hs2, hs3⟩ := hs
  refine ⟨trivial, fun E fp vals w hsz hv hents hnames => ?_⟩
  have hv0 := hv 0 _ rfl
  rw [vals_one hsz]
  generalize vals.getD 0 undef = v at hv0
  have fin : ∀ w', Keep (own fp) w w' → EntsSat E w' (fun _ _ => False) [] ∧ Adv E fp w E (fun _ _ => False) w' := fun w' hk =>
    ⟨⟨fun id b h => h, fun _ b h => h.elim, fun _ b h => h.elim, fun _ b h => h.elim, fun i j b _ h => h.elim, fun b hb => Nat.lt_of_lt_of_le (hents.Ilt b hb) hk.size, hents.nil, hents.glob (hents.stays hk) (fun _ h => h)⟩,
      ⟨hk, .refl _, fun b hb => .inl hb, fun b hb => hb, fun id b h => h.elim⟩⟩
  cases hv0 with
  | ptr _ _ s' hs' =>
    cases x with
    | none =>
      obtain ⟨s, arr, fz, e1, e2, e3, e4, e5, e6⟩ : EntSat E w (fp 0) 0 (.cells 72 [.any, .v (.slice none 0 0)]) := hents.sat 0
      obtain rfl := Option.some.inj (hs'.symm.trans e1)
      obtain ⟨x1, hx1, hsat1⟩ := e6 1 _ rfl
      obtain rfl := sat_v hsat1
      have hcell : w.cell? ⟨s'.blk, 1, none⟩ = some (.slice none 0 0) := by simp [World.cell?, e3, hx1]
      refine callsIn_wide.2 (Calls.mono (string_nil s'.blk undef w hcell) ?_)
      rintro e w' ⟨rfl, rfl⟩
      obtain ⟨f1, f2⟩ := fin w.drew ⟨rfl, ⟨rfl⟩, rfl, Nat.le_refl _, fun _ _ _ => rfl⟩
      exact ⟨_, E, _, rfl, .v _, f1, f2, fun _ _ => rfl⟩
    | some xs =>
      have hs1 : ∀ c, c ∈ xs → 0 ≤ c ∧ c < 256 := hs1
      have hs2 : xs.length ≤ 274877906944 := hs2
      have hne : xs ≠ [] := fun h => hs3 (by rw [h])
      obtain ⟨s, arr, fz, e1, e2, e3, e4, e5, e6⟩ : EntSat E w (fp 0) 0 (.cells 72 [.any, .sl 1]) := hents.sat 0
      obtain rfl := Option.some.inj (hs'.symm.trans e1)
      obtain ⟨x1, hx1, hsat1⟩ := e6 1 _ rfl
      obtain ⟨s1, r1, hrow⟩ : EntSat E w (fp 1) 1 (.row 5 (.int .u8) xs) := hents.sat 1
      rcases hrow with ⟨_, h0, _⟩ | ⟨o, c, cur, fz', g1, g2, g3, g4, g5, g6, g7⟩
      · exact absurd h0 hne
      have hx : x1 = s1.val := by
        have hsat1 : Sat E w (.sl 1) x1 := hsat1
        cases hsat1 with
        | sl _ s2 hs2 => obtain rfl := Option.some.inj (hs2.symm.trans r1); rfl
      subst hx
      have hl := okB_u8 hs1
      have hll : (xs.map fun n => UInt8.ofNat n.toNat).length = xs.length := List.length_map ..
      have hcell : w.cell? ⟨s'.blk, 1, none⟩ = some (.slice (some ⟨s1.blk, o, none⟩) (xs.map fun n => UInt8.ofNat n.toNat).length c) := by
        rw [hll, ← g1]; simp [World.cell?, e3, hx1]
      have hp := List.length_pos_iff.2 hne
      have hsz1 : Ty.size (.int .u8) = 1 := rfl
      rw [hsz1] at g6
      refine callsIn_wide.2 (Calls.mono (string_row s'.blk s1.blk o c cur.size (xs.map fun n => UInt8.ofNat n.toNat) w hcell (by omega) (by simp [World.shape?, g3]) (by simpa using hne) (by omega) (by omega) (fun j x hj => ?_)) ?_)
      · rw [List.getElem?_map, Option.map_eq_some_iff] at hj
        obtain ⟨n, hn, rfl⟩ := hj
        obtain ⟨u, hu, hsu⟩ := g7 j n 0 (.v (.int .u8 n)) hn rfl
        obtain rfl := sat_v hsu
        obtain ⟨n0, n1⟩ := hs1 n (List.mem_of_getElem? hn)
        have : ((UInt8.ofNat n.toNat).toNat : Int) = n := by
          rw [UInt8.toNat_ofNat', Nat.mod_eq_of_lt (by omega)]; omega
        rw [this, Lib.add_plain]
        rw [hsz1] at hu
        have hu : cur[o + j]? = some (.int .u8 n) := by simpa using hu
        simp [World.cell?, g3, hu]
      · rintro e w' ⟨rfl, rfl⟩
        have hk : Keep (own fp) w (w.drew.freeze ⟨s1.blk, o, none⟩ (xs.map fun n => UInt8.ofNat n.toNat).length) := by
          unfold World.freeze
          rw [if_neg (by omega)]
          refine ⟨rfl, ⟨rfl⟩, rfl, Nat.le_of_eq Array.size_modify.symm, fun b _ hn => ?_⟩
          simp only [Array.getElem?_modify]
          rw [if_neg (fun e => hn ⟨1, (g2 b).2 e.symm⟩)]
          rfl
        obtain ⟨f1, f2⟩ := fin _ hk
        exact ⟨_, E, _, rfl, .v _, f1, f2, fun _ _ => rfl⟩
end Go.Proofs.YtghejeecanohoaaDoor

/-! A script told. -/
set_option linter.unusedVariables false
set_option linter.unusedSimpArgs false
set_option maxRecDepth 100000
set_option maxHeartbeats 4000000
namespace Go.Proofs.YtghejeecanohoaaDoor
open Go.Eng

theorem knownT1 : Known Tryd.prog (gOf [(11, rightC)]) := known_cons ⟨right_ok, Tryd.call11⟩ (known_nil _)
@[reducible] noncomputable def wrongC : Ctr := {
  X := Ev
  Y := Unit
  args := fun e => [.agg (evS true e)]
  rw := fun _ => []
  side := fun e => okEv e
  val := fun _ => ()
  ens := fun _ _ => True
  res := fun e _ => .v (.bool (!rightB e))
  out := fun _ _ => [] }
theorem wrong_ok : wrongC.ok Tryd.prog 39 := by
  refine ok_of_vc (An := fun _ => anOf []) knownT1 mo Tryd.func39 (by kernel_rfl) (by kernel_rfl) (fun _ _ => trivial) (fun (e : Ev) hs => ?_)
  have hs : okEv e := hs
  ((repeat' ((conv => whnf) <;> first | exact True.intro | (guard_target =~ Fork _ _ _; first | refine F1 ?_ | refine F2 ?_ | refine F3 (fun h => ?_) fun h => ?_) | (guard_target =~ Ar _ _ _; first | refine A1 ?_ | refine A2 ?_ | refine A3 ?_) | (guard_target =~ AskL _ _; first | refine L1 ?_) | (guard_target =~ Go.Eng.Ask _ _; first | refine K1 ?_) | (guard_target =~ All' _ _; first | (refine Y2 fun y he he' hy => ?_; (try dsimp only at he he' hy)) | (refine Y1 fun y he hy => ?_; (try with_reducible conv at he => (rhs; whnf)); (try dsimp only at he hy)) | (refine All'.mk ?_; intro y hy)) | refine F4 (fun h => ?_) fun h => ?_ | refine R1 ?_ | refine Q1 ?_ | fail)); all_goals (conv => whnf))
  refine CallP.mk (C := rightC) e ?_
  exact G1

noncomputable def idxW (l : List Ev) : Int := match (List.range l.length).find? (fun i => !rightB (l.getD i (evZ 0))) with | some i => (i : Int) | none => -1
theorem knownT2 : Known Tryd.prog (gOf [(39, wrongC)]) := known_cons ⟨wrong_ok, Tryd.call39⟩ (known_nil _)
@[reducible] noncomputable def idxC : Ctr := {
  X := List Ev
  Y := Unit
  args := fun l => [.ro true evT l, .func (.func 39) [] []]
  rw := fun _ => []
  side := fun l => (∀ e, e ∈ l → okEv e) ∧ l.length ≤ 100000000000
  val := fun _ => ()
  ens := fun _ _ => True
  res := fun l _ => .v (.int .i64 (idxW l))
  out := fun _ _ => [] }
@[reducible] def idxL (l : List Ev) : LA := {
  X := Nat
  pre := fun i => i ≤ l.length ∧ ∀ j, j < i → rightB (l.getD j (evZ 0)) = true
  mu := fun i => l.length - i
  T := fun i => [(0, .ro true evT l), (1, .func (.func 39) [] []), (7, .v (.int .i64 l.length)), (8, .v (.int .i64 (i : Nat)))]
  M := fun _ => [] }
theorem idx_ok : idxC.ok Tryd.prog 50 := by
  refine ok_of_vc (An := fun (l : List Ev) => anOf [(0, .loop (idxL l))]) knownT2 mo Tryd.func50 (by kernel_rfl) (by kernel_rfl) (fun _ _ => trivial) (fun (l : List Ev) hs => ?_)
  obtain ⟨hok, hlen⟩ := hs
  have hlen : l.length ≤ 100000000000 := hlen
  ((repeat' ((conv => whnf) <;> first | exact True.intro | (guard_target =~ Fork _ _ _; first | refine F1 ?_ | refine F2 ?_ | refine F3 (fun h => ?_) fun h => ?_) | (guard_target =~ Ar _ _ _; first | refine A1 ?_ | refine A2 ?_ | refine A3 ?_) | (guard_target =~ AskL _ _; first | refine L1 ?_) | (guard_target =~ Go.Eng.Ask _ _; first | refine K1 ?_) | (guard_target =~ All' _ _; first | (refine Y2 fun y he he' hy => ?_; (try dsimp only at he he' hy)) | (refine Y1 fun y he hy => ?_; (try with_reducible conv at he => (rhs; whnf)); (try dsimp only at he hy)) | (refine All'.mk ?_; intro y hy)) | refine F4 (fun h => ?_) fun h => ?_ | refine R1 ?_ | refine Q1 ?_ | fail)); all_goals (conv => whnf))
  refine Some'.mk (0 : Nat) ?_
  ((repeat' ((conv => whnf) <;> first | exact True.intro | (guard_target =~ Fork _ _ _; first | refine F1 ?_ | refine F2 ?_ | refine F3 (fun h => ?_) fun h => ?_) | (guard_target =~ Ar _ _ _; first | refine A1 ?_ | refine A2 ?_ | refine A3 ?_) | (guard_target =~ AskL _ _; first | refine L1 ?_) | (guard_target =~ Go.Eng.Ask _ _; first | refine K1 ?_) | (guard_target =~ All' _ _; first | (refine Y2 fun y he he' hy => ?_; (try dsimp only at he he' hy)) | (refine Y1 fun y he hy => ?_; (try with_reducible conv at he => (rhs; whnf)); (try dsimp only at he hy)) | (refine All'.mk ?_; intro y hy)) | refine F4 (fun h => ?_) fun h => ?_ | refine R1 ?_ | refine Q1 ?_ | fail)); all_goals (conv => whnf))
  refine Ask.mk ⟨Nat.zero_le _, fun j hj => absurd hj (Nat.not_lt_zero _)⟩ ?_
  ((repeat' ((conv => whnf) <;> first | exact True.intro | (guard_target =~ Fork _ _ _; first | refine F1 ?_ | refine F2 ?_ | refine F3 (fun h => ?_) fun h => ?_) | (guard_target =~ Ar _ _ _; first | refine A1 ?_ | refine A2 ?_ | refine A3 ?_) | (guard_target =~ AskL _ _; first | refine L1 ?_) | (guard_target =~ Go.Eng.Ask _ _; first | refine K1 ?_) | (guard_target =~ All' _ _; first | (refine Y2 fun y he he' hy => ?_; (try dsimp only at he he' hy)) | (refine Y1 fun y he hy => ?_; (try with_reducible conv at he => (rhs; whnf)); (try dsimp only at he hy)) | (refine All'.mk ?_; intro y hy)) | refine F4 (fun h => ?_) fun h => ?_ | refine R1 ?_ | refine Q1 ?_ | fail)); all_goals (conv => whnf))
  refine AllI.mk ?_
  rintro (i : Nat) ⟨h1, h2⟩
  have h1 : i ≤ l.length := h1
  by_cases hi : i = l.length
  · subst hi
    have hno : (List.range l.length).find? (fun i => !rightB (l.getD i (evZ 0))) = none := by
      rw [List.find?_range_eq_none]
      intro j hj
      rw [h2 j hj]; rfl
    have e : idxW l = -1 := by unfold idxW; rw [hno]
    exact G1
  · obtain ⟨e, he⟩ : ∃ e, l[i]? = some e := ⟨_, List.getElem?_eq_getElem (by omega)⟩
    have hde : l.getD i (evZ 0) = e := by rw [List.getD_eq_getElem?_getD, he]; rfl
    have hoe := hok e (List.mem_of_getElem? he)
    ((repeat' ((conv => whnf) <;> first | exact True.intro | (guard_target =~ Fork _ _ _; first | refine F1 ?_ | refine F2 ?_ | refine F3 (fun h => ?_) fun h => ?_) | (guard_target =~ Ar _ _ _; first | refine A1 ?_ | refine A2 ?_ | refine A3 ?_) | (guard_target =~ AskL _ _; first | refine L1 ?_) | (guard_target =~ Go.Eng.Ask _ _; first | refine K1 ?_) | (guard_target =~ All' _ _; first | (refine Y2 fun y he he' hy => ?_; (try dsimp only at he he' hy)) | (refine Y1 fun y he hy => ?_; (try with_reducible conv at he => (rhs; whnf)); (try dsimp only at he hy))) | refine F4 (fun h => ?_) fun h => ?_ | refine R1 ?_ | refine Q1 ?_ | fail)); all_goals (conv => whnf))
    refine All'.mk ?_; rintro (e' : Ev) he'
    obtain rfl : e = e' := Option.some.inj (he.symm.trans he')
    by_cases hr : rightB e = true
    · have k1 := hr
      ((repeat' ((conv => whnf) <;> first | exact True.intro | (guard_target =~ Fork _ _ _; first | refine F1 ?_ | refine F2 ?_ | refine F3 (fun h => ?_) fun h => ?_) | (guard_target =~ Ar _ _ _; first | refine A1 ?_ | refine A2 ?_ | refine A3 ?_) | (guard_target =~ AskL _ _; first | refine L1 ?_) | (guard_target =~ Go.Eng.Ask _ _; first | refine K1 ?_) | (guard_target =~ All' _ _; first | (refine Y2 fun y he he' hy => ?_; (try dsimp only at he he' hy)) | (refine Y1 fun y he hy => ?_; (try with_reducible conv at he => (rhs; whnf)); (try dsimp only at he hy)) | (refine All'.mk ?_; intro y hy)) | refine F4 (fun h => ?_) fun h => ?_ | refine R1 ?_ | refine Q1 ?_ | fail)); all_goals (conv => whnf))
      refine CallP.mk (C := wrongC) e ?_
      have lm := k1
      ((repeat' ((conv => whnf) <;> first | exact True.intro | (guard_target =~ Fork _ _ _; first | refine F1 ?_ | refine F2 ?_ | refine F3 (fun h => ?_) fun h => ?_) | (guard_target =~ Ar _ _ _; first | refine A1 ?_ | refine A2 ?_ | refine A3 ?_) | (guard_target =~ AskL _ _; first | refine L1 ?_) | (guard_target =~ Go.Eng.Ask _ _; first | refine K1 ?_) | (guard_target =~ All' _ _; first | (refine Y2 fun y he he' hy => ?_; (try dsimp only at he he' hy)) | (refine Y1 fun y he hy => ?_; (try with_reducible conv at he => (rhs; whnf)); (try dsimp only at he hy)) | (refine All'.mk ?_; intro y hy)) | refine F4 (fun h => ?_) fun h => ?_ | refine R1 ?_ | refine Q1 ?_ | fail)); all_goals (conv => whnf))
      refine Some'.mk (i + 1) ?_
      ((repeat' ((conv => whnf) <;> first | exact True.intro | (guard_target =~ Fork _ _ _; first | refine F1 ?_ | refine F2 ?_ | refine F3 (fun h => ?_) fun h => ?_) | (guard_target =~ Ar _ _ _; first | refine A1 ?_ | refine A2 ?_ | refine A3 ?_) | (guard_target =~ AskL _ _; first | refine L1 ?_) | (guard_target =~ Go.Eng.Ask _ _; first | refine K1 ?_) | (guard_target =~ All' _ _; first | (refine Y2 fun y he he' hy => ?_; (try dsimp only at he he' hy)) | (refine Y1 fun y he hy => ?_; (try with_reducible conv at he => (rhs; whnf)); (try dsimp only at he hy)) | (refine All'.mk ?_; intro y hy)) | refine F4 (fun h => ?_) fun h => ?_ | refine R1 ?_ | refine Q1 ?_ | fail)); all_goals (conv => whnf))
      refine Ask.mk ⟨by dsimp only; omega, fun j hj => ?_⟩ ?_
      · rcases Nat.lt_or_ge j i with h | h
        · exact h2 j h
        · obtain rfl : j = i := by dsimp only at hj; omega
          rw [hde]; exact hr
      exact G1
    · have k1 : rightB e = false := by simpa using hr
      have hso : (List.range l.length).find? (fun i => !rightB (l.getD i (evZ 0))) = some i := by
        rw [List.find?_range_eq_some]
        refine ⟨by rw [hde, k1]; rfl, by simp; omega, fun j hj => by rw [h2 j hj]; rfl⟩
      have ei : idxW l = i := by unfold idxW; rw [hso]
      ((repeat' ((conv => whnf) <;> first | exact True.intro | (guard_target =~ Fork _ _ _; first | refine F1 ?_ | refine F2 ?_ | refine F3 (fun h => ?_) fun h => ?_) | (guard_target =~ Ar _ _ _; first | refine A1 ?_ | refine A2 ?_ | refine A3 ?_) | (guard_target =~ AskL _ _; first | refine L1 ?_) | (guard_target =~ Go.Eng.Ask _ _; first | refine K1 ?_) | (guard_target =~ All' _ _; first | (refine Y2 fun y he he' hy => ?_; (try dsimp only at he he' hy)) | (refine Y1 fun y he hy => ?_; (try with_reducible conv at he => (rhs; whnf)); (try dsimp only at he hy)) | (refine All'.mk ?_; intro y hy)) | refine F4 (fun h => ?_) fun h => ?_ | refine R1 ?_ | refine Q1 ?_ | fail)); all_goals (conv => whnf))
      refine CallP.mk (C := wrongC) e ?_
      have lm := k1
      exact G1
theorem knownT3 : Known Tryd.prog (gOf [(50, idxC)]) := known_cons ⟨idx_ok, Tryd.call50⟩ (known_nil _)
@[reducible] noncomputable def anyC : Ctr := {
  X := List Ev
  Y := Unit
  args := fun l => [.ro true evT l, .func (.func 39) [] []]
  rw := fun _ => []
  side := fun l => (∀ e, e ∈ l → okEv e) ∧ l.length ≤ 100000000000
  val := fun _ => ()
  ens := fun _ _ => True
  res := fun l _ => .v (.bool (decide (0 ≤ idxW l)))
  out := fun _ _ => [] }
theorem any_ok : anyC.ok Tryd.prog 38 := by
  refine ok_of_vc (An := fun _ => anOf []) knownT3 mo Tryd.func38 (by kernel_rfl) (by kernel_rfl) (fun _ _ => trivial) (fun (l : List Ev) hs => ?_)
  obtain ⟨hok, hlen⟩ := hs
  have hlen : l.length ≤ 100000000000 := hlen
  ((repeat' ((conv => whnf) <;> first | exact True.intro | (guard_target =~ Fork _ _ _; first | refine F1 ?_ | refine F2 ?_ | refine F3 (fun h => ?_) fun h => ?_) | (guard_target =~ Ar _ _ _; first | refine A1 ?_ | refine A2 ?_ | refine A3 ?_) | (guard_target =~ AskL _ _; first | refine L1 ?_) | (guard_target =~ Go.Eng.Ask _ _; first | refine K1 ?_) | (guard_target =~ All' _ _; first | (refine Y2 fun y he he' hy => ?_; (try dsimp only at he he' hy)) | (refine Y1 fun y he hy => ?_; (try with_reducible conv at he => (rhs; whnf)); (try dsimp only at he hy)) | (refine All'.mk ?_; intro y hy)) | refine F4 (fun h => ?_) fun h => ?_ | refine R1 ?_ | refine Q1 ?_ | fail)); all_goals (conv => whnf))
  refine CallP.mk (C := idxC) l ?_
  exact G1

/-! ### The builder's writing methods -/
theorem knownT4 : Known Tryd.prog (gOf [(51, copyC)]) := known_cons ⟨copy_ok, Tryd.call51⟩ (known_nil _)
structure BwX where
  u : Bool
  xs : List Int
  s : ByteArray
@[reducible] def bwC : Ctr := {
  X := BwX
  Y := Unit
  args := fun x => [.ptr 0 0, .v (.string x.s)]
  rw := fun x => [(0, .cells 72 [addrS x.u, .sl 1]), (1, .row 5 (.int .u8) x.xs)]
  side := fun x => x.xs.length + x.s.size ≤ 274877906944
  val := fun _ => ()
  ens := fun _ _ => True
  res := fun x _ => .tuple [.v (.int .i64 x.s.size), .any]
  out := fun x _ => [(0, .cells 72 [.ptr 0 0, .sl 1000]), (1000, .row 5 (.int .u8) (x.xs ++ bytesL x.s))] }
theorem bw_ok : bwC.ok Tryd.prog 40 := by
  refine ok_of_vc (An := fun _ => anOf []) knownT4 mo Tryd.func40 (by kernel_rfl) (by kernel_rfl) (fun _ _ => trivial) (fun x hs => ?_)
  obtain ⟨u, xs, s⟩ := x
  have hs : xs.length + s.size ≤ 274877906944 := hs
  have hbl := bytesL_length s
  cases u
  · ((repeat' ((conv => whnf) <;> first | exact True.intro | (guard_target =~ Fork _ _ _; first | refine F1 ?_ | refine F2 ?_ | refine F3 (fun h => ?_) fun h => ?_) | (guard_target =~ Ar _ _ _; first | refine A1 ?_ | refine A2 ?_ | refine A3 ?_) | (guard_target =~ AskL _ _; first | refine L1 ?_) | (guard_target =~ Go.Eng.Ask _ _; first | refine K1 ?_) | (guard_target =~ All' _ _; first | (refine Y2 fun y he he' hy => ?_; (try dsimp only at he he' hy)) | (refine Y1 fun y he hy => ?_; (try with_reducible conv at he => (rhs; whnf)); (try dsimp only at he hy)) | (refine All'.mk ?_; intro y hy)) | refine F4 (fun h => ?_) fun h => ?_ | refine R1 ?_ | refine Q1 ?_ | fail)); all_goals (conv => whnf))
    refine CallP.mk (C := copyC) false ?_
    ((repeat' ((conv => whnf) <;> first | exact True.intro | (guard_target =~ Fork _ _ _; first | refine F1 ?_ | refine F2 ?_ | refine F3 (fun h => ?_) fun h => ?_) | (guard_target =~ Ar _ _ _; first | refine A1 ?_ | refine A2 ?_ | refine A3 ?_) | (guard_target =~ AskL _ _; first | refine L1 ?_) | (guard_target =~ Go.Eng.Ask _ _; first | refine K1 ?_) | (guard_target =~ All' _ _; first | (refine Y2 fun y he he' hy => ?_; (try dsimp only at he he' hy)) | (refine Y1 fun y he hy => ?_; (try with_reducible conv at he => (rhs; whnf)); (try dsimp only at he hy)) | (refine All'.mk ?_; intro y hy)) | refine F4 (fun h => ?_) fun h => ?_ | refine R1 ?_ | refine Q1 ?_ | fail)); all_goals (conv => whnf))
    refine Ask.mk (by show xs.length + (bytesL s).length ≤ _; omega) ?_
    exact G1
  · ((repeat' ((conv => whnf) <;> first | exact True.intro | (guard_target =~ Fork _ _ _; first | refine F1 ?_ | refine F2 ?_ | refine F3 (fun h => ?_) fun h => ?_) | (guard_target =~ Ar _ _ _; first | refine A1 ?_ | refine A2 ?_ | refine A3 ?_) | (guard_target =~ AskL _ _; first | refine L1 ?_) | (guard_target =~ Go.Eng.Ask _ _; first | refine K1 ?_) | (guard_target =~ All' _ _; first | (refine Y2 fun y he he' hy => ?_; (try dsimp only at he he' hy)) | (refine Y1 fun y he hy => ?_; (try with_reducible conv at he => (rhs; whnf)); (try dsimp only at he hy)) | (refine All'.mk ?_; intro y hy)) | refine F4 (fun h => ?_) fun h => ?_ | refine R1 ?_ | refine Q1 ?_ | fail)); all_goals (conv => whnf))
    refine CallP.mk (C := copyC) true ?_
    ((repeat' ((conv => whnf) <;> first | exact True.intro | (guard_target =~ Fork _ _ _; first | refine F1 ?_ | refine F2 ?_ | refine F3 (fun h => ?_) fun h => ?_) | (guard_target =~ Ar _ _ _; first | refine A1 ?_ | refine A2 ?_ | refine A3 ?_) | (guard_target =~ AskL _ _; first | refine L1 ?_) | (guard_target =~ Go.Eng.Ask _ _; first | refine K1 ?_) | (guard_target =~ All' _ _; first | (refine Y2 fun y he he' hy => ?_; (try dsimp only at he he' hy)) | (refine Y1 fun y he hy => ?_; (try with_reducible conv at he => (rhs; whnf)); (try dsimp only at he hy)) | (refine All'.mk ?_; intro y hy)) | refine F4 (fun h => ?_) fun h => ?_ | refine R1 ?_ | refine Q1 ?_ | fail)); all_goals (conv => whnf))
    refine Ask.mk (by show xs.length + (bytesL s).length ≤ _; omega) ?_
    exact G1
structure BbX where
  u : Bool
  xs : List Int
  c : Int
@[reducible] def bbC : Ctr := {
  X := BbX
  Y := Unit
  args := fun x => [.ptr 0 0, .v (.int .u8 x.c)]
  rw := fun x => [(0, .cells 72 [addrS x.u, .sl 1]), (1, .row 5 (.int .u8) x.xs)]
  side := fun x => x.xs.length ≤ 274877906000
  val := fun _ => ()
  ens := fun _ _ => True
  res := fun x _ => .any
  out := fun x _ => [(0, .cells 72 [.ptr 0 0, .sl 1000]), (1000, .row 5 (.int .u8) (x.xs ++ [x.c]))] }
theorem bb_ok : bbC.ok Tryd.prog 41 := by
  refine ok_of_vc (An := fun _ => anOf []) knownT4 mo Tryd.func41 (by kernel_rfl) (by kernel_rfl) (fun _ _ => trivial) (fun x hs => ?_)
  obtain ⟨u, xs, c⟩ := x
  have hs : xs.length ≤ 274877906000 := hs
  cases u
  · ((repeat' ((conv => whnf) <;> first | exact True.intro | (guard_target =~ Fork _ _ _; first | refine F1 ?_ | refine F2 ?_ | refine F3 (fun h => ?_) fun h => ?_) | (guard_target =~ Ar _ _ _; first | refine A1 ?_ | refine A2 ?_ | refine A3 ?_) | (guard_target =~ AskL _ _; first | refine L1 ?_) | (guard_target =~ Go.Eng.Ask _ _; first | refine K1 ?_) | (guard_target =~ All' _ _; first | (refine Y2 fun y he he' hy => ?_; (try dsimp only at he he' hy)) | (refine Y1 fun y he hy => ?_; (try with_reducible conv at he => (rhs; whnf)); (try dsimp only at he hy)) | (refine All'.mk ?_; intro y hy)) | refine F4 (fun h => ?_) fun h => ?_ | refine R1 ?_ | refine Q1 ?_ | fail)); all_goals (conv => whnf))
    refine CallP.mk (C := copyC) false ?_
    exact G1
  · ((repeat' ((conv => whnf) <;> first | exact True.intro | (guard_target =~ Fork _ _ _; first | refine F1 ?_ | refine F2 ?_ | refine F3 (fun h => ?_) fun h => ?_) | (guard_target =~ Ar _ _ _; first | refine A1 ?_ | refine A2 ?_ | refine A3 ?_) | (guard_target =~ AskL _ _; first | refine L1 ?_) | (guard_target =~ Go.Eng.Ask _ _; first | refine K1 ?_) | (guard_target =~ All' _ _; first | (refine Y2 fun y he he' hy => ?_; (try dsimp only at he he' hy)) | (refine Y1 fun y he hy => ?_; (try with_reducible conv at he => (rhs; whnf)); (try dsimp only at he hy)) | (refine All'.mk ?_; intro y hy)) | refine F4 (fun h => ?_) fun h => ?_ | refine R1 ?_ | refine Q1 ?_ | fail)); all_goals (conv => whnf))
    refine CallP.mk (C := copyC) true ?_
    exact G1



end Go.Proofs.YtghejeecanohoaaDoor

/-! A script told: the whole. -/
set_option linter.unusedVariables false
set_option linter.unusedSimpArgs false
set_option maxRecDepth 100000
set_option maxHeartbeats 4000000
namespace Go.Proofs.YtghejeecanohoaaDoor
open Go.Eng

def scrL : List Ev → List Int
  | [] => []
  | e :: l => lineL e ++ 10 :: scrL l
theorem scrL_snoc (e : Ev) : ∀ l : List Ev, scrL (l ++ [e]) = scrL l ++ lineL e ++ [10]
  | [] => by simp [scrL]
  | x :: l => by simp [scrL, scrL_snoc e l]
theorem lineL_len {e : Ev} (h : rightP e) : (lineL e).length ≤ 600 := by
  have h1 := lineFrom_len h (nameF e.1).2 (bytesL (nameF e.1).1)
  have h2 := name_len e.1
  have h3 := words_len e.1
  show (lineFrom e (nameF e.1).2 (bytesL (nameF e.1).1)).length ≤ _
  omega
theorem scrL_len : ∀ l : List Ev, (∀ e, e ∈ l → rightP e) → (scrL l).length ≤ 601 * l.length
  | [], _ => Nat.le_refl _
  | e :: l, h => by
    have h1 := lineL_len (h e (List.mem_cons_self ..))
    have h2 := scrL_len l (fun x hx => h x (List.mem_cons_of_mem _ hx))
    simp only [scrL, List.length_append, List.length_cons]; omega
theorem scrL_ok : ∀ l : List Ev, (∀ e, e ∈ l → okEv e) → okB (scrL l)
  | [], _ => fun c hc => nomatch hc
  | e :: l, h => okB_app (line_okB (h e (List.mem_cons_self ..))) (okB_cons (by omega) (scrL_ok l (fun x hx => h x (List.mem_cons_of_mem _ hx))))
open Classical in
noncomputable def scriptF (l : List Ev) : List Int := if l.length ≤ 1000 ∧ ∀ e, e ∈ l → rightP e then scrL l else []
theorem idx_all {l : List Ev} (h : ∀ e, e ∈ l → rightP e) : idxW l = -1 := by
  have : (List.range l.length).find? (fun i => !rightB (l.getD i (evZ 0))) = none := by
    rw [List.find?_range_eq_none]
    intro j hj
    have : l.getD j (evZ 0) = l[j] := by rw [List.getD_eq_getElem?_getD, List.getElem?_eq_getElem hj]; rfl
    rw [this, rightB_true (h _ (List.getElem_mem hj))]; rfl
  unfold idxW; rw [this]
theorem idx_not {l : List Ev} (h : ¬ ∀ e, e ∈ l → rightP e) : 0 ≤ idxW l := by
  cases hf : (List.range l.length).find? (fun i => !rightB (l.getD i (evZ 0))) with
  | none =>
    exfalso
    refine h (fun e he => ?_)
    obtain ⟨j, hj, rfl⟩ := List.mem_iff_getElem.1 he
    rw [List.find?_range_eq_none] at hf
    have h2 := hf j hj
    have : l.getD j (evZ 0) = l[j] := by rw [List.getD_eq_getElem?_getD, List.getElem?_eq_getElem hj]; rfl
    rw [this] at h2
    exact rightB_iff.1 (by simpa using h2)
  | some i => unfold idxW; rw [hf]; exact Int.natCast_nonneg i
theorem knownU : Known Tryd.prog (gOf [(38, anyC), (14, lineC), (40, bwC), (41, bbC), (42, bstrC)]) :=
  known_cons ⟨any_ok, Tryd.call38⟩ (known_cons ⟨line_ok, Tryd.call14⟩ (known_cons ⟨bw_ok, Tryd.call40⟩ (known_cons ⟨bb_ok, Tryd.call41⟩ (known_cons ⟨bstr_ok, Tryd.call42⟩ (known_nil _)))))
@[reducible] noncomputable def scriptC : Ctr := {
  X := List Ev
  Y := Unit
  args := fun l => [.ro true evT l]
  rw := fun _ => []
  side := fun l => (∀ e, e ∈ l → okEv e) ∧ l.length ≤ 100000000000
  val := fun _ => ()
  ens := fun _ _ => True
  res := fun l _ => .v (.string (strOfNums (scriptF l)))
  out := fun _ _ => [] }
@[reducible] def scrM (l : List Ev) (i : Nat) : En := match i with
  | 0 => [(3, .cells 72 [.v (.pointer none), .v (.slice none 0 0)])]
  | i + 1 => [(3, .cells 72 [.ptr 3 0, .sl 4]), (4, .row 5 (.int .u8) (scrL (l.take (i + 1))))]
@[reducible] def scrLp (l : List Ev) : LA := {
  X := Nat
  pre := fun i => i ≤ l.length
  mu := fun i => l.length - i
  T := fun i => [(3, .ptr 3 0), (13, .ro true evT l), (14, .v (.int .i64 l.length)), (15, .v (.int .i64 (i : Nat)))]
  M := fun i => scrM l i }
theorem script_ok : scriptC.ok Tryd.prog 19 := by
  refine ok_of_vc (An := fun (l : List Ev) => anOf [(0, .loop (scrLp l))]) knownU mo Tryd.func19 (by kernel_rfl) (by kernel_rfl) (fun _ _ => trivial) (fun (l : List Ev) hs => ?_)
  obtain ⟨hok, hlen⟩ := hs
  have hlen : l.length ≤ 100000000000 := hlen
  by_cases hl : l.length ≤ 1000
  · by_cases hr : ∀ e, e ∈ l → rightP e
    · have hix := idx_all hr
      have hF : scriptF l = scrL l := if_pos ⟨hl, hr⟩
      ((repeat' ((conv => whnf) <;> first | exact True.intro | (guard_target =~ Fork _ _ _; first | refine F1 ?_ | refine F2 ?_ | refine F3 (fun h => ?_) fun h => ?_) | (guard_target =~ Ar _ _ _; first | refine A1 ?_ | refine A2 ?_ | refine A3 ?_) | (guard_target =~ AskL _ _; first | refine L1 ?_) | (guard_target =~ Go.Eng.Ask _ _; first | refine K1 ?_) | (guard_target =~ All' _ _; first | (refine Y2 fun y he he' hy => ?_; (try dsimp only at he he' hy)) | (refine Y1 fun y he hy => ?_; (try with_reducible conv at he => (rhs; whnf)); (try dsimp only at he hy)) | (refine All'.mk ?_; intro y hy)) | refine F4 (fun h => ?_) fun h => ?_ | refine R1 ?_ | refine Q1 ?_ | fail)); all_goals (conv => whnf))
      refine CallP.mk (C := anyC) l ?_
      ((repeat' ((conv => whnf) <;> first | exact True.intro | (guard_target =~ Fork _ _ _; first | refine F1 ?_ | refine F2 ?_ | refine F3 (fun h => ?_) fun h => ?_) | (guard_target =~ Ar _ _ _; first | refine A1 ?_ | refine A2 ?_ | refine A3 ?_) | (guard_target =~ AskL _ _; first | refine L1 ?_) | (guard_target =~ Go.Eng.Ask _ _; first | refine K1 ?_) | (guard_target =~ All' _ _; first | (refine Y2 fun y he he' hy => ?_; (try dsimp only at he he' hy)) | (refine Y1 fun y he hy => ?_; (try with_reducible conv at he => (rhs; whnf)); (try dsimp only at he hy)) | (refine All'.mk ?_; intro y hy)) | refine F4 (fun h => ?_) fun h => ?_ | refine R1 ?_ | refine Q1 ?_ | fail)); all_goals (conv => whnf))
      refine Some'.mk (0 : Nat) ?_
      ((repeat' ((conv => whnf) <;> first | exact True.intro | (guard_target =~ Fork _ _ _; first | refine F1 ?_ | refine F2 ?_ | refine F3 (fun h => ?_) fun h => ?_) | (guard_target =~ Ar _ _ _; first | refine A1 ?_ | refine A2 ?_ | refine A3 ?_) | (guard_target =~ AskL _ _; first | refine L1 ?_) | (guard_target =~ Go.Eng.Ask _ _; first | refine K1 ?_) | (guard_target =~ All' _ _; first | (refine Y2 fun y he he' hy => ?_; (try dsimp only at he he' hy)) | (refine Y1 fun y he hy => ?_; (try with_reducible conv at he => (rhs; whnf)); (try dsimp only at he hy)) | (refine All'.mk ?_; intro y hy)) | refine F4 (fun h => ?_) fun h => ?_ | refine R1 ?_ | refine Q1 ?_ | fail)); all_goals (conv => whnf))
      refine AllI.mk ?_
      rintro (i : Nat) hi
      have hi : i ≤ l.length := hi
      by_cases hie : i = l.length
      · subst hie
        have ht : l.take l.length = l := List.take_length
        cases l with
        | nil =>
          ((repeat' ((conv => whnf) <;> first | exact True.intro | (guard_target =~ Fork _ _ _; first | refine F1 ?_ | refine F2 ?_ | refine F3 (fun h => ?_) fun h => ?_) | (guard_target =~ Ar _ _ _; first | refine A1 ?_ | refine A2 ?_ | refine A3 ?_) | (guard_target =~ AskL _ _; first | refine L1 ?_) | (guard_target =~ Go.Eng.Ask _ _; first | refine K1 ?_) | (guard_target =~ All' _ _; first | (refine Y2 fun y he he' hy => ?_; (try dsimp only at he he' hy)) | (refine Y1 fun y he hy => ?_; (try with_reducible conv at he => (rhs; whnf)); (try dsimp only at he hy)) | (refine All'.mk ?_; intro y hy)) | refine F4 (fun h => ?_) fun h => ?_ | refine R1 ?_ | refine Q1 ?_ | fail)); all_goals (conv => whnf))
          refine CallP.mk (C := bstrC) none ?_
          exact G1
        | cons a l =>
          ((repeat' ((conv => whnf) <;> first | exact True.intro | (guard_target =~ Fork _ _ _; first | refine F1 ?_ | refine F2 ?_ | refine F3 (fun h => ?_) fun h => ?_) | (guard_target =~ Ar _ _ _; first | refine A1 ?_ | refine A2 ?_ | refine A3 ?_) | (guard_target =~ AskL _ _; first | refine L1 ?_) | (guard_target =~ Go.Eng.Ask _ _; first | refine K1 ?_) | (guard_target =~ All' _ _; first | (refine Y2 fun y he he' hy => ?_; (try dsimp only at he he' hy)) | (refine Y1 fun y he hy => ?_; (try with_reducible conv at he => (rhs; whnf)); (try dsimp only at he hy)) | (refine All'.mk ?_; intro y hy)) | refine F4 (fun h => ?_) fun h => ?_ | refine R1 ?_ | refine Q1 ?_ | fail)); all_goals (conv => whnf))
          refine CallP.mk (C := bstrC) (some (scrL (a :: l))) ?_
          ((repeat' ((conv => whnf) <;> first | exact True.intro | (guard_target =~ Fork _ _ _; first | refine F1 ?_ | refine F2 ?_ | refine F3 (fun h => ?_) fun h => ?_) | (guard_target =~ Ar _ _ _; first | refine A1 ?_ | refine A2 ?_ | refine A3 ?_) | (guard_target =~ Go.Eng.Ask _ _; first | refine K1 ?_) | (guard_target =~ All' _ _; first | (refine Y2 fun y he he' hy => ?_; (try dsimp only at he he' hy)) | (refine Y1 fun y he hy => ?_; (try with_reducible conv at he => (rhs; whnf)); (try dsimp only at he hy)) | (refine All'.mk ?_; intro y hy)) | refine F4 (fun h => ?_) fun h => ?_ | refine R1 ?_ | refine Q1 ?_ | fail)); all_goals (conv => whnf))
          refine AskL.mk ?_ ?_
          · show SV.ro true (Ty.int .u8) (scrL ((a :: l).take (a :: l).length)) = _
            rw [ht]
          have hsl := scrL_len (a :: l) hr
          refine Ask.mk ⟨scrL_ok _ hok, by show (scrL (a :: l)).length ≤ _; omega, fun h => by
            have := congrArg List.length (Option.some.inj h)
            simp [scrL] at this⟩ ?_
          exact G1
      · obtain ⟨e, he⟩ : ∃ e, l[i]? = some e := ⟨_, List.getElem?_eq_getElem (by omega)⟩
        have hoe := hok e (List.mem_of_getElem? he)
        have hre := hr e (List.mem_of_getElem? he)
        have ht := take_get he
        have hsn := scrL_snoc e (l.take i)
        rw [← ht] at hsn
        have hal : actLine e = lineL e := if_pos (rightB_true hre)
        have hll := lineL_len hre
        have hsl := scrL_len (l.take i) (fun x hx => hr x (List.mem_of_mem_take hx))
        have htl : (l.take i).length ≤ 1000 := by rw [List.length_take]; omega
        have hbs : bytesL (strOfNums (actLine e)) = lineL e := by rw [hal]; exact bytes_str (line_okB hoe)
        have hsz : (strOfNums (actLine e)).size = (lineL e).length := by rw [hal]; exact str_size (lineL e)
        cases i with
        | zero =>
          ((repeat' ((conv => whnf) <;> first | exact True.intro | (guard_target =~ Fork _ _ _; first | refine F1 ?_ | refine F2 ?_ | refine F3 (fun h => ?_) fun h => ?_) | (guard_target =~ Ar _ _ _; first | refine A1 ?_ | refine A2 ?_ | refine A3 ?_) | (guard_target =~ AskL _ _; first | refine L1 ?_) | (guard_target =~ Go.Eng.Ask _ _; first | refine K1 ?_) | (guard_target =~ All' _ _; first | (refine Y2 fun y he he' hy => ?_; (try dsimp only at he he' hy)) | (refine Y1 fun y he hy => ?_; (try with_reducible conv at he => (rhs; whnf)); (try dsimp only at he hy))) | refine F4 (fun h => ?_) fun h => ?_ | refine R1 ?_ | refine Q1 ?_ | fail)); all_goals (conv => whnf))
          refine All'.mk ?_; rintro (e' : Ev) he'
          obtain rfl : e = e' := Option.some.inj (he.symm.trans he')
          ((repeat' ((conv => whnf) <;> first | exact True.intro | (guard_target =~ Fork _ _ _; first | refine F1 ?_ | refine F2 ?_ | refine F3 (fun h => ?_) fun h => ?_) | (guard_target =~ Ar _ _ _; first | refine A1 ?_ | refine A2 ?_ | refine A3 ?_) | (guard_target =~ AskL _ _; first | refine L1 ?_) | (guard_target =~ Go.Eng.Ask _ _; first | refine K1 ?_) | (guard_target =~ All' _ _; first | (refine Y2 fun y he he' hy => ?_; (try dsimp only at he he' hy)) | (refine Y1 fun y he hy => ?_; (try with_reducible conv at he => (rhs; whnf)); (try dsimp only at he hy)) | (refine All'.mk ?_; intro y hy)) | refine F4 (fun h => ?_) fun h => ?_ | refine R1 ?_ | refine Q1 ?_ | fail)); all_goals (conv => whnf))
          refine CallP.mk (C := lineC) e ?_
          ((repeat' ((conv => whnf) <;> first | exact True.intro | (guard_target =~ Fork _ _ _; first | refine F1 ?_ | refine F2 ?_ | refine F3 (fun h => ?_) fun h => ?_) | (guard_target =~ Ar _ _ _; first | refine A1 ?_ | refine A2 ?_ | refine A3 ?_) | (guard_target =~ AskL _ _; first | refine L1 ?_) | (guard_target =~ Go.Eng.Ask _ _; first | refine K1 ?_) | (guard_target =~ All' _ _; first | (refine Y2 fun y he he' hy => ?_; (try dsimp only at he he' hy)) | (refine Y1 fun y he hy => ?_; (try with_reducible conv at he => (rhs; whnf)); (try dsimp only at he hy)) | (refine All'.mk ?_; intro y hy)) | refine F4 (fun h => ?_) fun h => ?_ | refine R1 ?_ | refine Q1 ?_ | fail)); all_goals (conv => whnf))
          refine CallP.mk (C := bwC) ⟨false, [], strOfNums (actLine e)⟩ ?_
          ((repeat' ((conv => whnf) <;> first | exact True.intro | (guard_target =~ Fork _ _ _; first | refine F1 ?_ | refine F2 ?_ | refine F3 (fun h => ?_) fun h => ?_) | (guard_target =~ Ar _ _ _; first | refine A1 ?_ | refine A2 ?_ | refine A3 ?_) | (guard_target =~ AskL _ _; first | refine L1 ?_) | (guard_target =~ Go.Eng.Ask _ _; first | refine K1 ?_) | (guard_target =~ All' _ _; first | (refine Y2 fun y he he' hy => ?_; (try dsimp only at he he' hy)) | (refine Y1 fun y he hy => ?_; (try with_reducible conv at he => (rhs; whnf)); (try dsimp only at he hy)) | (refine All'.mk ?_; intro y hy)) | refine F4 (fun h => ?_) fun h => ?_ | refine R1 ?_ | refine Q1 ?_ | fail)); all_goals (conv => whnf))
          refine CallP.mk (C := bbC) ⟨true, [] ++ bytesL (strOfNums (actLine e)), 10⟩ ?_
          have hln : ([] ++ bytesL (strOfNums (actLine e))).length ≤ 1000000 := by rw [hbs, List.length_append]; simp only [List.length_nil]; omega
          ((repeat' ((conv => whnf) <;> first | exact True.intro | (guard_target =~ Fork _ _ _; first | refine F1 ?_ | refine F2 ?_ | refine F3 (fun h => ?_) fun h => ?_) | (guard_target =~ Ar _ _ _; first | refine A1 ?_ | refine A2 ?_ | refine A3 ?_) | (guard_target =~ AskL _ _; first | refine L1 ?_) | (guard_target =~ Go.Eng.Ask _ _; first | refine K1 ?_) | (guard_target =~ All' _ _; first | (refine Y2 fun y he he' hy => ?_; (try dsimp only at he he' hy)) | (refine Y1 fun y he hy => ?_; (try with_reducible conv at he => (rhs; whnf)); (try dsimp only at he hy)) | (refine All'.mk ?_; intro y hy)) | refine F4 (fun h => ?_) fun h => ?_ | refine R1 ?_ | refine Q1 ?_ | fail)); all_goals (conv => whnf))
          refine Some'.mk (1 : Nat) ?_
          ((repeat' ((conv => whnf) <;> first | exact True.intro | (guard_target =~ Fork _ _ _; first | refine F1 ?_ | refine F2 ?_ | refine F3 (fun h => ?_) fun h => ?_) | (guard_target =~ Ar _ _ _; first | refine A1 ?_ | refine A2 ?_ | refine A3 ?_) | (guard_target =~ Go.Eng.Ask _ _; first | refine K1 ?_) | (guard_target =~ All' _ _; first | (refine Y2 fun y he he' hy => ?_; (try dsimp only at he he' hy)) | (refine Y1 fun y he hy => ?_; (try with_reducible conv at he => (rhs; whnf)); (try dsimp only at he hy)) | (refine All'.mk ?_; intro y hy)) | refine F4 (fun h => ?_) fun h => ?_ | refine R1 ?_ | refine Q1 ?_ | fail)); all_goals (conv => whnf))
          refine AskL.mk ?_ ?_
          · rw [hbs]
            (dsimp only [conj]; repeat' apply And.intro) <;> first | rfl | omega | (exact congrArg (SV.ro true (Ty.int .u8)) hsn.symm)
          exact G1
        | succ i =>
          ((repeat' ((conv => whnf) <;> first | exact True.intro | (guard_target =~ Fork _ _ _; first | refine F1 ?_ | refine F2 ?_ | refine F3 (fun h => ?_) fun h => ?_) | (guard_target =~ Ar _ _ _; first | refine A1 ?_ | refine A2 ?_ | refine A3 ?_) | (guard_target =~ AskL _ _; first | refine L1 ?_) | (guard_target =~ Go.Eng.Ask _ _; first | refine K1 ?_) | (guard_target =~ All' _ _; first | (refine Y2 fun y he he' hy => ?_; (try dsimp only at he he' hy)) | (refine Y1 fun y he hy => ?_; (try with_reducible conv at he => (rhs; whnf)); (try dsimp only at he hy))) | refine F4 (fun h => ?_) fun h => ?_ | refine R1 ?_ | refine Q1 ?_ | fail)); all_goals (conv => whnf))
          refine All'.mk ?_; rintro (e' : Ev) he'
          obtain rfl : e = e' := Option.some.inj (he.symm.trans he')
          ((repeat' ((conv => whnf) <;> first | exact True.intro | (guard_target =~ Fork _ _ _; first | refine F1 ?_ | refine F2 ?_ | refine F3 (fun h => ?_) fun h => ?_) | (guard_target =~ Ar _ _ _; first | refine A1 ?_ | refine A2 ?_ | refine A3 ?_) | (guard_target =~ AskL _ _; first | refine L1 ?_) | (guard_target =~ Go.Eng.Ask _ _; first | refine K1 ?_) | (guard_target =~ All' _ _; first | (refine Y2 fun y he he' hy => ?_; (try dsimp only at he he' hy)) | (refine Y1 fun y he hy => ?_; (try with_reducible conv at he => (rhs; whnf)); (try dsimp only at he hy)) | (refine All'.mk ?_; intro y hy)) | refine F4 (fun h => ?_) fun h => ?_ | refine R1 ?_ | refine Q1 ?_ | fail)); all_goals (conv => whnf))
          refine CallP.mk (C := lineC) e ?_
          ((repeat' ((conv => whnf) <;> first | exact True.intro | (guard_target =~ Fork _ _ _; first | refine F1 ?_ | refine F2 ?_ | refine F3 (fun h => ?_) fun h => ?_) | (guard_target =~ Ar _ _ _; first | refine A1 ?_ | refine A2 ?_ | refine A3 ?_) | (guard_target =~ AskL _ _; first | refine L1 ?_) | (guard_target =~ Go.Eng.Ask _ _; first | refine K1 ?_) | (guard_target =~ All' _ _; first | (refine Y2 fun y he he' hy => ?_; (try dsimp only at he he' hy)) | (refine Y1 fun y he hy => ?_; (try with_reducible conv at he => (rhs; whnf)); (try dsimp only at he hy)) | (refine All'.mk ?_; intro y hy)) | refine F4 (fun h => ?_) fun h => ?_ | refine R1 ?_ | refine Q1 ?_ | fail)); all_goals (conv => whnf))
          refine CallP.mk (C := bwC) ⟨true, (scrL (l.take (i + 1))), strOfNums (actLine e)⟩ ?_
          ((repeat' ((conv => whnf) <;> first | exact True.intro | (guard_target =~ Fork _ _ _; first | refine F1 ?_ | refine F2 ?_ | refine F3 (fun h => ?_) fun h => ?_) | (guard_target =~ Ar _ _ _; first | refine A1 ?_ | refine A2 ?_ | refine A3 ?_) | (guard_target =~ AskL _ _; first | refine L1 ?_) | (guard_target =~ Go.Eng.Ask _ _; first | refine K1 ?_) | (guard_target =~ All' _ _; first | (refine Y2 fun y he he' hy => ?_; (try dsimp only at he he' hy)) | (refine Y1 fun y he hy => ?_; (try with_reducible conv at he => (rhs; whnf)); (try dsimp only at he hy)) | (refine All'.mk ?_; intro y hy)) | refine F4 (fun h => ?_) fun h => ?_ | refine R1 ?_ | refine Q1 ?_ | fail)); all_goals (conv => whnf))
          refine CallP.mk (C := bbC) ⟨true, (scrL (l.take (i + 1))) ++ bytesL (strOfNums (actLine e)), 10⟩ ?_
          have hln : ((scrL (l.take (i + 1))) ++ bytesL (strOfNums (actLine e))).length ≤ 1000000 := by rw [hbs, List.length_append]; omega
          ((repeat' ((conv => whnf) <;> first | exact True.intro | (guard_target =~ Fork _ _ _; first | refine F1 ?_ | refine F2 ?_ | refine F3 (fun h => ?_) fun h => ?_) | (guard_target =~ Ar _ _ _; first | refine A1 ?_ | refine A2 ?_ | refine A3 ?_) | (guard_target =~ AskL _ _; first | refine L1 ?_) | (guard_target =~ Go.Eng.Ask _ _; first | refine K1 ?_) | (guard_target =~ All' _ _; first | (refine Y2 fun y he he' hy => ?_; (try dsimp only at he he' hy)) | (refine Y1 fun y he hy => ?_; (try with_reducible conv at he => (rhs; whnf)); (try dsimp only at he hy)) | (refine All'.mk ?_; intro y hy)) | refine F4 (fun h => ?_) fun h => ?_ | refine R1 ?_ | refine Q1 ?_ | fail)); all_goals (conv => whnf))
          refine Some'.mk (i + 1 + 1 : Nat) ?_
          ((repeat' ((conv => whnf) <;> first | exact True.intro | (guard_target =~ Fork _ _ _; first | refine F1 ?_ | refine F2 ?_ | refine F3 (fun h => ?_) fun h => ?_) | (guard_target =~ Ar _ _ _; first | refine A1 ?_ | refine A2 ?_ | refine A3 ?_) | (guard_target =~ Go.Eng.Ask _ _; first | refine K1 ?_) | (guard_target =~ All' _ _; first | (refine Y2 fun y he he' hy => ?_; (try dsimp only at he he' hy)) | (refine Y1 fun y he hy => ?_; (try with_reducible conv at he => (rhs; whnf)); (try dsimp only at he hy)) | (refine All'.mk ?_; intro y hy)) | refine F4 (fun h => ?_) fun h => ?_ | refine R1 ?_ | refine Q1 ?_ | fail)); all_goals (conv => whnf))
          refine AskL.mk ?_ ?_
          · rw [hbs]
            (dsimp only [conj]; repeat' apply And.intro) <;> first | rfl | omega | (exact congrArg (SV.ro true (Ty.int .u8)) hsn.symm)
          exact G1
    · have hix := idx_not hr
      have hF : scriptF l = [] := if_neg (fun hh => hr hh.2)
      ((repeat' ((conv => whnf) <;> first | exact True.intro | (guard_target =~ Fork _ _ _; first | refine F1 ?_ | refine F2 ?_ | refine F3 (fun h => ?_) fun h => ?_) | (guard_target =~ Ar _ _ _; first | refine A1 ?_ | refine A2 ?_ | refine A3 ?_) | (guard_target =~ AskL _ _; first | refine L1 ?_) | (guard_target =~ Go.Eng.Ask _ _; first | refine K1 ?_) | (guard_target =~ All' _ _; first | (refine Y2 fun y he he' hy => ?_; (try dsimp only at he he' hy)) | (refine Y1 fun y he hy => ?_; (try with_reducible conv at he => (rhs; whnf)); (try dsimp only at he hy)) | (refine All'.mk ?_; intro y hy)) | refine F4 (fun h => ?_) fun h => ?_ | refine R1 ?_ | refine Q1 ?_ | fail)); all_goals (conv => whnf))
      refine CallP.mk (C := anyC) l ?_
      ((repeat' ((conv => whnf) <;> first | exact True.intro | (guard_target =~ Fork _ _ _; first | refine F1 ?_ | refine F2 ?_ | refine F3 (fun h => ?_) fun h => ?_) | (guard_target =~ Ar _ _ _; first | refine A1 ?_ | refine A2 ?_ | refine A3 ?_) | (guard_target =~ AskL _ _; first | refine L1 ?_) | (guard_target =~ Go.Eng.Ask _ _; first | refine K1 ?_) | (guard_target =~ All' _ _; first | (refine Y2 fun y he he' hy => ?_; (try dsimp only at he he' hy)) | (refine Y1 fun y he hy => ?_; (try with_reducible conv at he => (rhs; whnf)); (try dsimp only at he hy)) | (refine All'.mk ?_; intro y hy)) | refine F4 (fun h => ?_) fun h => ?_ | refine R1 ?_ | refine Q1 ?_ | fail)); all_goals (conv => whnf))
      refine AskL.mk ?_ trivial
      dsimp only [conj]
      rw [hF]; rfl
  · have hF : scriptF l = [] := if_neg (fun hh => hl hh.1)
    ((repeat' ((conv => whnf) <;> first | exact True.intro | (guard_target =~ Fork _ _ _; first | refine F1 ?_ | refine F2 ?_ | refine F3 (fun h => ?_) fun h => ?_) | (guard_target =~ Ar _ _ _; first | refine A1 ?_ | refine A2 ?_ | refine A3 ?_) | (guard_target =~ AskL _ _; first | refine L1 ?_) | (guard_target =~ Go.Eng.Ask _ _; first | refine K1 ?_) | (guard_target =~ All' _ _; first | (refine Y2 fun y he he' hy => ?_; (try dsimp only at he he' hy)) | (refine Y1 fun y he hy => ?_; (try with_reducible conv at he => (rhs; whnf)); (try dsimp only at he hy)) | (refine All'.mk ?_; intro y hy)) | refine F4 (fun h => ?_) fun h => ?_ | refine R1 ?_ | refine Q1 ?_ | fail)); all_goals (conv => whnf))
    refine AskL.mk ?_ trivial
    dsimp only [conj]
    rw [hF]; rfl
end Go.Proofs.YtghejeecanohoaaDoor

/-! The law's first examples. -/
set_option linter.unusedVariables false
set_option linter.unusedSimpArgs false
set_option maxRecDepth 100000
set_option maxHeartbeats 4000000
namespace Go.Proofs.YtghejeecanohoaaDoor
open Go.Eng

def e0 : Ev := (0, 0, 0, 0, ⟨#[107]⟩, [118], 0)
def e1 : Ev := (2, 1, 0, 0, ⟨#[]⟩, [], 0)
def e2 : Ev := (9, 0, 0, 1, ⟨#[]⟩, [], 0)
def s0 : ByteArray := ⟨#[112, 117, 116, 32, 48, 32, 54, 98, 32, 55, 54, 32, 48]⟩
def s1 : ByteArray := ⟨#[103, 101, 116, 32, 49, 32, 46]⟩
def s2 : ByteArray := ⟨#[116, 105, 99, 107, 32, 49]⟩
def s3 : ByteArray := ⟨#[110, 111, 110, 101]⟩
theorem okB_nil : okB [] := fun c hc => nomatch hc
theorem ok_e0 : okEv e0 := ⟨by decide, fun c hc => by rcases List.mem_singleton.1 hc with rfl; omega, by decide, by decide, by decide⟩
theorem ok_e1 : okEv e1 := ⟨by decide, okB_nil, by decide, by decide, by decide⟩
theorem ok_e2 : okEv e2 := ⟨by decide, okB_nil, by decide, by decide, by decide⟩
theorem right_e0 : rightP e0 := ⟨by decide, ⟨by decide, by decide⟩, ⟨by decide, by decide⟩, ⟨by decide, by decide⟩, by decide, by decide, rfl⟩
theorem right_e1 : rightP e1 := ⟨by decide, ⟨by decide, by decide⟩, ⟨by decide, by decide⟩, ⟨by decide, by decide⟩, by decide, by decide, rfl⟩
theorem right_e2 : rightP e2 := ⟨by decide, ⟨by decide, by decide⟩, ⟨by decide, by decide⟩, ⟨by decide, by decide⟩, by decide, by decide, rfl⟩
theorem dec0 : decL 0 = [48] := decL_small (by omega)
theorem dec1 : decL 1 = [49] := decL_small (by omega)
theorem line_e0 : lineL e0 = bytesL s0 := by
  have h : lineL e0 = bytesL ⟨#[112, 117, 116]⟩ ++ 32 :: decL 0 ++ 32 :: [54, 98] ++ 32 :: [55, 54] ++ 32 :: decL 0 := rfl
  rw [h, dec0]; decide
theorem line_e1 : lineL e1 = bytesL s1 := by
  have h : lineL e1 = bytesL ⟨#[103, 101, 116]⟩ ++ 32 :: decL 1 ++ 32 :: [46] := rfl
  rw [h, dec1]; decide
theorem line_e2 : lineL e2 = bytesL s2 := by
  have h : lineL e2 = bytesL ⟨#[116, 105, 99, 107]⟩ ++ 32 :: decL 1 := rfl
  rw [h, dec1]; decide
theorem p_s0 : parseE s0 = e0 ∧ parseB s0 = true := parse_some ⟨ok_e0, right_e0, line_e0⟩
theorem p_s1 : parseE s1 = e1 ∧ parseB s1 = true := parse_some ⟨ok_e1, right_e1, line_e1⟩
theorem p_s2 : parseE s2 = e2 ∧ parseB s2 = true := parse_some ⟨ok_e2, right_e2, line_e2⟩
theorem p_s3 : parseB s3 = false := (parse_none (s := s3) (fun e he => by
  have hs : splitL 32 (bytesL s3) = [bytesL s3] := by decide
  obtain ⟨_, h2⟩ := line_words he hs
  exact he.2.1.1 (List.map_eq_nil_iff.1 h2.symm))).2

def t2 : ByteArray := ⟨#[35, 32, 97, 10, 10, 103, 101, 116, 32, 49, 32, 46, 10, 112, 117, 116, 32, 48, 32, 54, 98, 32, 55, 54, 32, 48]⟩
def t3 : ByteArray := ⟨#[116, 105, 99, 107, 32, 49, 10, 110, 111, 110, 101]⟩
def t4 : ByteArray := ⟨#[97, 10, 10, 35, 98, 10, 99, 10]⟩
theorem ln_t2 : lnP t2 = [bytesL ⟨#[35, 32, 97]⟩, [], bytesL s1, bytesL s0] := by decide
theorem ln_t3 : lnP t3 = [bytesL s2, bytesL s3] := by decide
theorem ln_t4 : lnP t4 = [[97], [], [35, 98], [99]] := by decide
theorem ks_t2 : ksW (lnP t2) 0 = [2, 3] := by rw [ln_t2]; decide
theorem ks_t3 : ksW (lnP t3) 0 = [0, 1] := by rw [ln_t3]; decide
theorem ks_t4 : ksW (lnP t4) 0 = [0, 3] := by rw [ln_t4]; decide
theorem tW_t2 : tW t2 0 = bytesL s1 ∧ tW t2 1 = bytesL s0 := by unfold tW kW; rw [ks_t2, ln_t2]; exact ⟨rfl, rfl⟩
theorem tW_t3 : tW t3 0 = bytesL s2 ∧ tW t3 1 = bytesL s3 := by unfold tW kW; rw [ks_t3, ln_t3]; exact ⟨rfl, rfl⟩
theorem r_t2 : readE t2 = [e1, e0] ∧ readN t2 = 0 ∧ readF t2 = 0 := by
  have hn : nW t2 = 2 := by show (ksW (lnP t2) 0).length = 2; rw [ks_t2]; rfl
  have hb : badW t2 = none := badW_none.2 (fun j hj => by
    rw [hn] at hj
    have : j = 0 ∨ j = 1 := by omega
    unfold gW
    rcases this with rfl | rfl
    · rw [tW_t2.1, str_bytesL]; exact p_s1.2
    · rw [tW_t2.2, str_bytesL]; exact p_s0.2)
  have hl : ¬ 1000 < (lnP t2).length := by rw [ln_t2]; decide
  unfold readE readN readF
  rw [if_neg hl, if_neg hl, if_neg hl, hb, hn]
  refine ⟨?_, rfl, rfl⟩
  show esW t2 2 = _
  rw [esW_succ, esW_succ, tW_t2.1, tW_t2.2, str_bytesL, str_bytesL, p_s1.1, p_s0.1]; rfl
theorem r_t3 : readE t3 = [] ∧ readN t3 = 2 ∧ readF t3 = 11 := by
  have hn : nW t3 = 2 := by show (ksW (lnP t3) 0).length = 2; rw [ks_t3]; rfl
  have hb : badW t3 = some 1 := badW_some.2 ⟨by omega, by unfold gW; rw [tW_t3.2, str_bytesL]; exact p_s3, fun j hj => by
    obtain rfl : j = 0 := by omega
    unfold gW; rw [tW_t3.1, str_bytesL]; exact p_s2.2⟩
  have hl : ¬ 1000 < (lnP t3).length := by rw [ln_t3]; decide
  unfold readE readN readF
  rw [if_neg hl, if_neg hl, if_neg hl, hb]
  refine ⟨rfl, ?_, rfl⟩
  show ((kW t3 1 + 1 : Nat) : Int) = 2
  unfold kW; rw [ks_t3]; rfl
theorem l_t4 : isW' t4 (cntW ⟨t4, 9⟩) = [1, 4] ∧ lsW t4 (cntW ⟨t4, 9⟩) = [⟨#[97]⟩, ⟨#[99]⟩] := by
  have hn : cntW ⟨t4, 9⟩ = 2 := by show min (ksW (lnP t4) 0).length _ = 2; rw [ks_t4]; rfl
  rw [hn]
  unfold isW' lsW tW kW
  rw [ks_t4, ln_t4]
  exact ⟨rfl, rfl⟩
theorem sc_e0 : scriptF [e0] = bytesL ⟨#[112, 117, 116, 32, 48, 32, 54, 98, 32, 55, 54, 32, 48, 10]⟩ := by
  have : scriptF [e0] = scrL [e0] := if_pos ⟨by decide, fun e he => by rcases List.mem_singleton.1 he with rfl; exact right_e0⟩
  rw [this]
  show lineL e0 ++ [10] = _
  rw [line_e0]; decide
theorem al_e0 : actLine e0 = bytesL s0 := (if_pos (rightB_true right_e0)).trans line_e0

theorem knownV : Known Tryd.prog (gOf [(9, parseC), (18, readC), (16, lnC), (14, lineC), (12, sameC), (19, scriptC), (11, rightC)]) :=
  known_cons ⟨parse_ok, Tryd.call9⟩ (known_cons ⟨read_ok, Tryd.call18⟩ (known_cons ⟨ln_law_ok, Tryd.call16⟩ (known_cons ⟨line_ok, Tryd.call14⟩ (known_cons ⟨same_ok, Tryd.call12⟩ (known_cons ⟨script_ok, Tryd.call19⟩ (known_cons ⟨right_ok, Tryd.call11⟩ (known_nil _)))))))
@[reducible] def firstC : Ctr := {
  X := Unit
  Y := Unit
  args := fun _ => []
  rw := fun _ => []
  side := fun _ => True
  val := fun _ => ()
  ens := fun _ _ => True
  res := fun _ _ => .v (.bool true)
  out := fun _ _ => [] }
theorem first_ok : firstC.ok Tryd.prog 6 := by
  refine ok_of_vc (An := fun _ => anOf []) knownV mo Tryd.func6 (by kernel_rfl) (by kernel_rfl) (fun _ _ => trivial) (fun _ hs => ?_)
  ((repeat' ((conv => whnf) <;> first | exact True.intro | (guard_target =~ Fork _ _ _; first | refine F1 ?_ | refine F2 ?_ | refine F3 (fun h => ?_) fun h => ?_) | (guard_target =~ Ar _ _ _; first | refine A1 ?_ | refine A2 ?_ | refine A3 ?_) | (guard_target =~ AskL _ _; first | refine L1 ?_) | (guard_target =~ Go.Eng.Ask _ _; first | refine K1 ?_) | (guard_target =~ All' _ _; first | (refine Y2 fun y he he' hy => ?_; (try dsimp only at he he' hy)) | (refine Y1 fun y he hy => ?_; (try with_reducible conv at he => (rhs; whnf)); (try dsimp only at he hy)) | (refine All'.mk ?_; intro y hy)) | refine F4 (fun h => ?_) fun h => ?_ | refine R1 ?_ | refine Q1 ?_ | fail)); all_goals (conv => whnf))
  refine CallP.mk (C := parseC) s0 ?_
  ((repeat' ((conv => whnf) <;> first | exact True.intro | (guard_target =~ Fork _ _ _; first | refine F1 ?_ | refine F2 ?_ | refine F3 (fun h => ?_) fun h => ?_) | (guard_target =~ Ar _ _ _; first | refine A1 ?_ | refine A2 ?_ | refine A3 ?_) | (guard_target =~ AskL _ _; first | refine L1 ?_) | (guard_target =~ Go.Eng.Ask _ _; first | refine K1 ?_) | (guard_target =~ All' _ _; first | (refine Y2 fun y he he' hy => ?_; (try dsimp only at he he' hy)) | (refine Y1 fun y he hy => ?_; (try with_reducible conv at he => (rhs; whnf)); (try dsimp only at he hy)) | (refine All'.mk ?_; intro y hy)) | refine F4 (fun h => ?_) fun h => ?_ | refine R1 ?_ | refine Q1 ?_ | fail)); all_goals (conv => whnf))
  refine CallP.mk (C := readC) t2 ?_
  ((repeat' ((conv => whnf) <;> first | exact True.intro | (guard_target =~ Fork _ _ _; first | refine F1 ?_ | refine F2 ?_ | refine F3 (fun h => ?_) fun h => ?_) | (guard_target =~ Ar _ _ _; first | refine A1 ?_ | refine A2 ?_ | refine A3 ?_) | (guard_target =~ AskL _ _; first | refine L1 ?_) | (guard_target =~ Go.Eng.Ask _ _; first | refine K1 ?_) | (guard_target =~ All' _ _; first | (refine Y2 fun y he he' hy => ?_; (try dsimp only at he he' hy)) | (refine Y1 fun y he hy => ?_; (try with_reducible conv at he => (rhs; whnf)); (try dsimp only at he hy)) | (refine All'.mk ?_; intro y hy)) | refine F4 (fun h => ?_) fun h => ?_ | refine R1 ?_ | refine Q1 ?_ | fail)); all_goals (conv => whnf))
  refine CallP.mk (C := readC) t3 ?_
  ((repeat' ((conv => whnf) <;> first | exact True.intro | (guard_target =~ Fork _ _ _; first | refine F1 ?_ | refine F2 ?_ | refine F3 (fun h => ?_) fun h => ?_) | (guard_target =~ Ar _ _ _; first | refine A1 ?_ | refine A2 ?_ | refine A3 ?_) | (guard_target =~ AskL _ _; first | refine L1 ?_) | (guard_target =~ Go.Eng.Ask _ _; first | refine K1 ?_) | (guard_target =~ All' _ _; first | (refine Y2 fun y he he' hy => ?_; (try dsimp only at he he' hy)) | (refine Y1 fun y he hy => ?_; (try with_reducible conv at he => (rhs; whnf)); (try dsimp only at he hy)) | (refine All'.mk ?_; intro y hy)) | refine F4 (fun h => ?_) fun h => ?_ | refine R1 ?_ | refine Q1 ?_ | fail)); all_goals (conv => whnf))
  refine CallP.mk (C := lnC) ⟨t4, 9⟩ ?_
  ((repeat' ((conv => whnf) <;> first | exact True.intro | (guard_target =~ Fork _ _ _; first | refine F1 ?_ | refine F2 ?_ | refine F3 (fun h => ?_) fun h => ?_) | (guard_target =~ Ar _ _ _; first | refine A1 ?_ | refine A2 ?_ | refine A3 ?_) | (guard_target =~ AskL _ _; first | refine L1 ?_) | (guard_target =~ Go.Eng.Ask _ _; first | refine K1 ?_) | (guard_target =~ All' _ _; first | (refine Y2 fun y he he' hy => ?_; (try dsimp only at he he' hy)) | (refine Y1 fun y he hy => ?_; (try with_reducible conv at he => (rhs; whnf)); (try dsimp only at he hy)) | (refine All'.mk ?_; intro y hy)) | refine F4 (fun h => ?_) fun h => ?_ | refine R1 ?_ | refine Q1 ?_ | fail)); all_goals (conv => whnf))
  refine CallP.mk (C := lineC) e0 ?_
  ((repeat' ((conv => whnf) <;> first | exact True.intro | (guard_target =~ Fork _ _ _; first | refine F1 ?_ | refine F2 ?_ | refine F3 (fun h => ?_) fun h => ?_) | (guard_target =~ Ar _ _ _; first | refine A1 ?_ | refine A2 ?_ | refine A3 ?_) | (guard_target =~ Go.Eng.Ask _ _; first | refine K1 ?_) | (guard_target =~ All' _ _; first | (refine Y2 fun y he he' hy => ?_; (try dsimp only at he he' hy)) | (refine Y1 fun y he hy => ?_; (try with_reducible conv at he => (rhs; whnf)); (try dsimp only at he hy)) | (refine All'.mk ?_; intro y hy)) | refine F4 (fun h => ?_) fun h => ?_ | refine R1 ?_ | refine Q1 ?_ | fail)); all_goals (conv => whnf))
  refine AskL.mk ?_ ?_
  · (dsimp only [conj]; repeat' apply And.intro) <;> rfl
  refine Ask.mk ok_e0 ?_
  have k1 : ((strOfNums (actLine e0)).toList == (⟨#[112, 117, 116, 32, 48, 32, 54, 98, 32, 55, 54, 32, 48]⟩ : ByteArray).toList) = true := by rw [al_e0, str_bytesL]; exact beq_self_eq_true _
  have k2 := p_s0.2
  have k3 : sameB (parseE s0) e0 = true := sameB_true p_s0.1
  have k4 : ((readE t2).length : Int) = 2 := by rw [r_t2.1]; rfl
  have k5 := r_t2.2.1
  have k6 := r_t2.2.2
  have k7 := r_t3.2.1
  have k8 := r_t3.2.2
  have k9 : ((isW' t4 (cntW ⟨t4, 9⟩)).length : Int) = 2 := by rw [l_t4.1]; rfl
  have lm := And.intro k1 (And.intro k2 (And.intro k3 (And.intro k4 (And.intro k5 (And.intro k6 (And.intro k7 (And.intro k8 k9)))))))
  ((repeat' ((conv => whnf) <;> first | exact True.intro | (guard_target =~ Fork _ _ _; first | refine F1 ?_ | refine F2 ?_ | refine F3 (fun h => ?_) fun h => ?_) | (guard_target =~ Ar _ _ _; first | refine A1 ?_ | refine A2 ?_ | refine A3 ?_) | (guard_target =~ AskL _ _; first | refine L1 ?_) | (guard_target =~ Go.Eng.Ask _ _; first | refine K1 ?_) | (guard_target =~ All' _ _; first | (refine Y2 fun y he he' hy => ?_; (try dsimp only at he he' hy)) | (refine Y1 fun y he hy => ?_; (try with_reducible conv at he => (rhs; whnf)); (try dsimp only at he hy)) | (refine All'.mk ?_; intro y hy)) | refine F4 (fun h => ?_) fun h => ?_ | refine R1 ?_ | refine Q1 ?_ | fail)); all_goals (conv => whnf))
  refine CallP.mk (C := sameC) ⟨parseE s0, e0⟩ ?_
  ((repeat' ((conv => whnf) <;> first | exact True.intro | (guard_target =~ Fork _ _ _; first | refine F1 ?_ | refine F2 ?_ | refine F3 (fun h => ?_) fun h => ?_) | (guard_target =~ Ar _ _ _; first | refine A1 ?_ | refine A2 ?_ | refine A3 ?_) | (guard_target =~ Go.Eng.Ask _ _; first | refine K1 ?_) | (guard_target =~ All' _ _; first | (refine Y2 fun y he he' hy => ?_; (try dsimp only at he he' hy)) | (refine Y1 fun y he hy => ?_; (try with_reducible conv at he => (rhs; whnf)); (try dsimp only at he hy)) | (refine All'.mk ?_; intro y hy)) | refine F4 (fun h => ?_) fun h => ?_ | refine R1 ?_ | refine Q1 ?_ | fail)); all_goals (conv => whnf))
  refine AskL.mk ?_ ?_
  · (dsimp only [conj]; repeat' apply And.intro) <;> rfl
  refine Ask.mk ⟨by rw [p_s0.1]; exact ok_e0, ok_e0⟩ ?_
  have lm := And.intro k1 (And.intro k2 (And.intro k3 (And.intro k4 (And.intro k5 (And.intro k6 (And.intro k7 (And.intro k8 k9)))))))
  ((repeat' ((conv => whnf) <;> first | exact True.intro | (guard_target =~ Fork _ _ _; first | refine F1 ?_ | refine F2 ?_ | refine F3 (fun h => ?_) fun h => ?_) | (guard_target =~ Ar _ _ _; first | refine A1 ?_ | refine A2 ?_ | refine A3 ?_) | (guard_target =~ AskL _ _; first | refine L1 ?_) | (guard_target =~ Go.Eng.Ask _ _; first | refine K1 ?_) | (guard_target =~ All' _ _; first | (refine Y2 fun y he he' hy => ?_; (try dsimp only at he he' hy)) | (refine Y1 fun y he hy => ?_; (try with_reducible conv at he => (rhs; whnf)); (try dsimp only at he hy))) | refine F4 (fun h => ?_) fun h => ?_ | refine R1 ?_ | refine Q1 ?_ | fail)); all_goals (conv => whnf))
  refine All'.mk ?_; rintro (y : Int) hy
  obtain rfl : 4 = y := by
    rw [l_t4.1] at hy
    exact Option.some.inj hy
  ((repeat' ((conv => whnf) <;> first | exact True.intro | (guard_target =~ Fork _ _ _; first | refine F1 ?_ | refine F2 ?_ | refine F3 (fun h => ?_) fun h => ?_) | (guard_target =~ Ar _ _ _; first | refine A1 ?_ | refine A2 ?_ | refine A3 ?_) | (guard_target =~ AskL _ _; first | refine L1 ?_) | (guard_target =~ Go.Eng.Ask _ _; first | refine K1 ?_) | (guard_target =~ All' _ _; first | (refine Y2 fun y he he' hy => ?_; (try dsimp only at he he' hy)) | (refine Y1 fun y he hy => ?_; (try with_reducible conv at he => (rhs; whnf)); (try dsimp only at he hy))) | refine F4 (fun h => ?_) fun h => ?_ | refine R1 ?_ | refine Q1 ?_ | fail)); all_goals (conv => whnf))
  refine All'.mk ?_; rintro (y : ByteArray) hy
  obtain rfl : (⟨#[99]⟩ : ByteArray) = y := by
    rw [l_t4.2] at hy
    exact Option.some.inj hy
  ((repeat' ((conv => whnf) <;> first | exact True.intro | (guard_target =~ Fork _ _ _; first | refine F1 ?_ | refine F2 ?_ | refine F3 (fun h => ?_) fun h => ?_) | (guard_target =~ Ar _ _ _; first | refine A1 ?_ | refine A2 ?_ | refine A3 ?_) | (guard_target =~ AskL _ _; first | refine L1 ?_) | (guard_target =~ Go.Eng.Ask _ _; first | refine K1 ?_) | (guard_target =~ All' _ _; first | (refine Y2 fun y he he' hy => ?_; (try dsimp only at he he' hy)) | (refine Y1 fun y he hy => ?_; (try with_reducible conv at he => (rhs; whnf)); (try dsimp only at he hy))) | refine F4 (fun h => ?_) fun h => ?_ | refine R1 ?_ | refine Q1 ?_ | fail)); all_goals (conv => whnf))
  refine CallP.mk (C := scriptC) [e0] ?_
  ((repeat' ((conv => whnf) <;> first | exact True.intro | (guard_target =~ Fork _ _ _; first | refine F1 ?_ | refine F2 ?_ | refine F3 (fun h => ?_) fun h => ?_) | (guard_target =~ Ar _ _ _; first | refine A1 ?_ | refine A2 ?_ | refine A3 ?_) | (guard_target =~ Go.Eng.Ask _ _; first | refine K1 ?_) | (guard_target =~ All' _ _; first | (refine Y2 fun y he he' hy => ?_; (try dsimp only at he he' hy)) | (refine Y1 fun y he hy => ?_; (try with_reducible conv at he => (rhs; whnf)); (try dsimp only at he hy)) | (refine All'.mk ?_; intro y hy)) | refine F4 (fun h => ?_) fun h => ?_ | refine R1 ?_ | refine Q1 ?_ | fail)); all_goals (conv => whnf))
  refine AskL.mk ?_ ?_
  · (dsimp only [conj]; repeat' apply And.intro) <;> rfl
  refine Ask.mk ⟨fun e he => by rcases List.mem_singleton.1 he with rfl; exact ok_e0, by show (1 : Nat) ≤ _; omega⟩ ?_
  have k10 : ((strOfNums (scriptF [e0])).toList == (⟨#[112, 117, 116, 32, 48, 32, 54, 98, 32, 55, 54, 32, 48, 10]⟩ : ByteArray).toList) = true := by rw [sc_e0, str_bytesL]; exact beq_self_eq_true _
  have k11 := rightB_true right_e0
  have lm := And.intro k1 (And.intro k2 (And.intro k3 (And.intro k4 (And.intro k5 (And.intro k6 (And.intro k7 (And.intro k8 (And.intro k9 (And.intro k10 k11)))))))))
  ((repeat' ((conv => whnf) <;> first | exact True.intro | (guard_target =~ Fork _ _ _; first | refine F1 ?_ | refine F2 ?_ | refine F3 (fun h => ?_) fun h => ?_) | (guard_target =~ Ar _ _ _; first | refine A1 ?_ | refine A2 ?_ | refine A3 ?_) | (guard_target =~ AskL _ _; first | refine L1 ?_) | (guard_target =~ Go.Eng.Ask _ _; first | refine K1 ?_) | (guard_target =~ All' _ _; first | (refine Y2 fun y he he' hy => ?_; (try dsimp only at he he' hy)) | (refine Y1 fun y he hy => ?_; (try with_reducible conv at he => (rhs; whnf)); (try dsimp only at he hy))) | refine F4 (fun h => ?_) fun h => ?_ | refine R1 ?_ | refine Q1 ?_ | fail)); all_goals (conv => whnf))
  refine CallP.mk (C := rightC) e0 ?_
  ((repeat' ((conv => whnf) <;> first | exact True.intro | (guard_target =~ Fork _ _ _; first | refine F1 ?_ | refine F2 ?_ | refine F3 (fun h => ?_) fun h => ?_) | (guard_target =~ Ar _ _ _; first | refine A1 ?_ | refine A2 ?_ | refine A3 ?_) | (guard_target =~ Go.Eng.Ask _ _; first | refine K1 ?_) | (guard_target =~ All' _ _; first | (refine Y2 fun y he he' hy => ?_; (try dsimp only at he he' hy)) | (refine Y1 fun y he hy => ?_; (try with_reducible conv at he => (rhs; whnf)); (try dsimp only at he hy)) | (refine All'.mk ?_; intro y hy)) | refine F4 (fun h => ?_) fun h => ?_ | refine R1 ?_ | refine Q1 ?_ | fail)); all_goals (conv => whnf))
  refine AskL.mk ?_ ?_
  · (dsimp only [conj]; repeat' apply And.intro) <;> rfl
  refine Ask.mk ok_e0 ?_
  have lm := k11
  exact G1
end Go.Proofs.YtghejeecanohoaaDoor

/-! The function of ActsLines. -/
set_option linter.unusedVariables false
set_option linter.unusedSimpArgs false
set_option maxRecDepth 100000
set_option maxHeartbeats 4000000
namespace Go.Proofs.YtghejeecanohoaaDoor
open Go.Eng

theorem knownX : Known Tryd.prog (gOf [(6, firstC), (9, parseC), (10, parseC), (14, lineC), (8, rLineC), (12, sameC), (13, sameC), (11, rightC), (7, rightC)]) :=
  known_cons ⟨first_ok, Tryd.call6⟩ (known_cons ⟨parse_ok, Tryd.call9⟩ (known_cons ⟨rParse_ok, Tryd.call10⟩ (known_cons ⟨line_ok, Tryd.call14⟩ (known_cons ⟨rLine_ok, Tryd.call8⟩ (known_cons ⟨same_ok, Tryd.call12⟩ (known_cons ⟨rsame_ok, Tryd.call13⟩ (known_cons ⟨right_ok, Tryd.call11⟩ (known_cons ⟨rRight_ok, Tryd.call7⟩ (known_nil _)))))))))
theorem parse_okE (s : ByteArray) : okEv (parseE s) := by
  cases h : parseO (bytesL s) with
  | some e => have := parseO_line h; unfold parseE; rw [h]; exact this.1
  | none => unfold parseE; rw [h]; exact okEv_zero (by omega)
structure AlX where
  a : Ev
  b : Ev
  s : ByteArray
@[reducible] def alC : Ctr := {
  X := AlX
  Y := Unit
  args := fun x => [.agg (evS false x.a), .agg (evS false x.b), .v (.string x.s)]
  rw := fun _ => []
  side := fun x => okEv x.a ∧ okEv x.b
  val := fun _ => ()
  ens := fun _ _ => True
  res := fun _ _ => .v (.bool true)
  out := fun _ _ => [] }
theorem al_ok : alC.ok Tryd.prog 3 := by
  refine ok_of_vc (An := fun _ => anOf []) knownX mo Tryd.func3 (by kernel_rfl) (by kernel_rfl) (fun _ _ => trivial) (fun x hs => ?_)
  obtain ⟨a, b, s⟩ := x
  obtain ⟨ha, hb⟩ := hs
  ((repeat' ((conv => whnf) <;> first | exact True.intro | (guard_target =~ Fork _ _ _; first | refine F1 ?_ | refine F2 ?_ | refine F3 (fun h => ?_) fun h => ?_) | (guard_target =~ Ar _ _ _; first | refine A1 ?_ | refine A2 ?_ | refine A3 ?_) | (guard_target =~ AskL _ _; first | refine L1 ?_) | (guard_target =~ Go.Eng.Ask _ _; first | refine K1 ?_) | (guard_target =~ All' _ _; first | (refine Y2 fun y he he' hy => ?_; (try dsimp only at he he' hy)) | (refine Y1 fun y he hy => ?_; (try with_reducible conv at he => (rhs; whnf)); (try dsimp only at he hy)) | (refine All'.mk ?_; intro y hy)) | refine F4 (fun h => ?_) fun h => ?_ | refine R1 ?_ | refine Q1 ?_ | fail)); all_goals (conv => whnf))
  refine CallP.mk (C := firstC) () ?_
  ((repeat' ((conv => whnf) <;> first | exact True.intro | (guard_target =~ Fork _ _ _; first | refine F1 ?_ | refine F2 ?_ | refine F3 (fun h => ?_) fun h => ?_) | (guard_target =~ Ar _ _ _; first | refine A1 ?_ | refine A2 ?_ | refine A3 ?_) | (guard_target =~ AskL _ _; first | refine L1 ?_) | (guard_target =~ Go.Eng.Ask _ _; first | refine K1 ?_) | (guard_target =~ All' _ _; first | (refine Y2 fun y he he' hy => ?_; (try dsimp only at he he' hy)) | (refine Y1 fun y he hy => ?_; (try with_reducible conv at he => (rhs; whnf)); (try dsimp only at he hy)) | (refine All'.mk ?_; intro y hy)) | refine F4 (fun h => ?_) fun h => ?_ | refine R1 ?_ | refine Q1 ?_ | fail)); all_goals (conv => whnf))
  refine CallP.mk (C := rightC) a ?_
  have hps := parse_okE s
  by_cases hr : rightP a
  · have k1 := rightB_true hr
    have hal : actLine a = lineL a := if_pos k1
    have lm := k1
    ((repeat' ((conv => whnf) <;> first | exact True.intro | (guard_target =~ Fork _ _ _; first | refine F1 ?_ | refine F2 ?_ | refine F3 (fun h => ?_) fun h => ?_) | (guard_target =~ Ar _ _ _; first | refine A1 ?_ | refine A2 ?_ | refine A3 ?_) | (guard_target =~ AskL _ _; first | refine L1 ?_) | (guard_target =~ Go.Eng.Ask _ _; first | refine K1 ?_) | (guard_target =~ All' _ _; first | (refine Y2 fun y he he' hy => ?_; (try dsimp only at he he' hy)) | (refine Y1 fun y he hy => ?_; (try with_reducible conv at he => (rhs; whnf)); (try dsimp only at he hy)) | (refine All'.mk ?_; intro y hy)) | refine F4 (fun h => ?_) fun h => ?_ | refine R1 ?_ | refine Q1 ?_ | fail)); all_goals (conv => whnf))
    refine CallP.mk (C := rLineC) a ?_
    ((repeat' ((conv => whnf) <;> first | exact True.intro | (guard_target =~ Fork _ _ _; first | refine F1 ?_ | refine F2 ?_ | refine F3 (fun h => ?_) fun h => ?_) | (guard_target =~ Ar _ _ _; first | refine A1 ?_ | refine A2 ?_ | refine A3 ?_) | (guard_target =~ AskL _ _; first | refine L1 ?_) | (guard_target =~ Go.Eng.Ask _ _; first | refine K1 ?_) | (guard_target =~ All' _ _; first | (refine Y2 fun y he he' hy => ?_; (try dsimp only at he he' hy)) | (refine Y1 fun y he hy => ?_; (try with_reducible conv at he => (rhs; whnf)); (try dsimp only at he hy)) | (refine All'.mk ?_; intro y hy)) | refine F4 (fun h => ?_) fun h => ?_ | refine R1 ?_ | refine Q1 ?_ | fail)); all_goals (conv => whnf))
    refine CallP.mk (C := parseC) s ?_
    ((repeat' ((conv => whnf) <;> first | exact True.intro | (guard_target =~ Fork _ _ _; first | refine F1 ?_ | refine F2 ?_ | refine F3 (fun h => ?_) fun h => ?_) | (guard_target =~ Ar _ _ _; first | refine A1 ?_ | refine A2 ?_ | refine A3 ?_) | (guard_target =~ AskL _ _; first | refine L1 ?_) | (guard_target =~ Go.Eng.Ask _ _; first | refine K1 ?_) | (guard_target =~ All' _ _; first | (refine Y2 fun y he he' hy => ?_; (try dsimp only at he he' hy)) | (refine Y1 fun y he hy => ?_; (try with_reducible conv at he => (rhs; whnf)); (try dsimp only at he hy)) | (refine All'.mk ?_; intro y hy)) | refine F4 (fun h => ?_) fun h => ?_ | refine R1 ?_ | refine Q1 ?_ | fail)); all_goals (conv => whnf))
    refine CallP.mk (C := parseC) s ?_
    ((repeat' ((conv => whnf) <;> first | exact True.intro | (guard_target =~ Fork _ _ _; first | refine F1 ?_ | refine F2 ?_ | refine F3 (fun h => ?_) fun h => ?_) | (guard_target =~ Ar _ _ _; first | refine A1 ?_ | refine A2 ?_ | refine A3 ?_) | (guard_target =~ AskL _ _; first | refine L1 ?_) | (guard_target =~ Go.Eng.Ask _ _; first | refine K1 ?_) | (guard_target =~ All' _ _; first | (refine Y2 fun y he he' hy => ?_; (try dsimp only at he he' hy)) | (refine Y1 fun y he hy => ?_; (try with_reducible conv at he => (rhs; whnf)); (try dsimp only at he hy)) | (refine All'.mk ?_; intro y hy)) | refine F4 (fun h => ?_) fun h => ?_ | refine R1 ?_ | refine Q1 ?_ | fail)); all_goals (conv => whnf))
    refine CallP.mk (C := rightC) a ?_
    ((repeat' ((conv => whnf) <;> first | exact True.intro | (guard_target =~ Fork _ _ _; first | refine F1 ?_ | refine F2 ?_ | refine F3 (fun h => ?_) fun h => ?_) | (guard_target =~ Ar _ _ _; first | refine A1 ?_ | refine A2 ?_ | refine A3 ?_) | (guard_target =~ AskL _ _; first | refine L1 ?_) | (guard_target =~ Go.Eng.Ask _ _; first | refine K1 ?_) | (guard_target =~ All' _ _; first | (refine Y2 fun y he he' hy => ?_; (try dsimp only at he he' hy)) | (refine Y1 fun y he hy => ?_; (try with_reducible conv at he => (rhs; whnf)); (try dsimp only at he hy)) | (refine All'.mk ?_; intro y hy)) | refine F4 (fun h => ?_) fun h => ?_ | refine R1 ?_ | refine Q1 ?_ | fail)); all_goals (conv => whnf))
    refine CallP.mk (C := rightC) a ?_
    have k2 : (rightB a == rightB a) = true := beq_self_eq_true _
    have k3 : (sameB a b == sameB a b) = true := beq_self_eq_true _
    have k4 : (parseB s == parseB s) = true := beq_self_eq_true _
    have k5 : ((strOfNums (actLine a)).toList == (strOfNums (lineL a)).toList) = true := by rw [hal]; exact beq_self_eq_true _
    have k6 := sameB_true (rfl : parseE s = parseE s)
    have lm := And.intro k2 (And.intro k3 (And.intro k4 (And.intro k5 k6)))
    ((repeat' ((conv => whnf) <;> first | exact True.intro | (guard_target =~ Fork _ _ _; first | refine F1 ?_ | refine F2 ?_ | refine F3 (fun h => ?_) fun h => ?_) | (guard_target =~ Ar _ _ _; first | refine A1 ?_ | refine A2 ?_ | refine A3 ?_) | (guard_target =~ AskL _ _; first | refine L1 ?_) | (guard_target =~ Go.Eng.Ask _ _; first | refine K1 ?_) | (guard_target =~ All' _ _; first | (refine Y2 fun y he he' hy => ?_; (try dsimp only at he he' hy)) | (refine Y1 fun y he hy => ?_; (try with_reducible conv at he => (rhs; whnf)); (try dsimp only at he hy)) | (refine All'.mk ?_; intro y hy)) | refine F4 (fun h => ?_) fun h => ?_ | refine R1 ?_ | refine Q1 ?_ | fail)); all_goals (conv => whnf))
    refine CallP.mk (C := sameC) ⟨a, b⟩ ?_
    ((repeat' ((conv => whnf) <;> first | exact True.intro | (guard_target =~ Fork _ _ _; first | refine F1 ?_ | refine F2 ?_ | refine F3 (fun h => ?_) fun h => ?_) | (guard_target =~ Ar _ _ _; first | refine A1 ?_ | refine A2 ?_ | refine A3 ?_) | (guard_target =~ AskL _ _; first | refine L1 ?_) | (guard_target =~ Go.Eng.Ask _ _; first | refine K1 ?_) | (guard_target =~ All' _ _; first | (refine Y2 fun y he he' hy => ?_; (try dsimp only at he he' hy)) | (refine Y1 fun y he hy => ?_; (try with_reducible conv at he => (rhs; whnf)); (try dsimp only at he hy)) | (refine All'.mk ?_; intro y hy)) | refine F4 (fun h => ?_) fun h => ?_ | refine R1 ?_ | refine Q1 ?_ | fail)); all_goals (conv => whnf))
    refine CallP.mk (C := sameC) ⟨a, b⟩ ?_
    ((repeat' ((conv => whnf) <;> first | exact True.intro | (guard_target =~ Fork _ _ _; first | refine F1 ?_ | refine F2 ?_ | refine F3 (fun h => ?_) fun h => ?_) | (guard_target =~ Ar _ _ _; first | refine A1 ?_ | refine A2 ?_ | refine A3 ?_) | (guard_target =~ AskL _ _; first | refine L1 ?_) | (guard_target =~ Go.Eng.Ask _ _; first | refine K1 ?_) | (guard_target =~ All' _ _; first | (refine Y2 fun y he he' hy => ?_; (try dsimp only at he he' hy)) | (refine Y1 fun y he hy => ?_; (try with_reducible conv at he => (rhs; whnf)); (try dsimp only at he hy)) | (refine All'.mk ?_; intro y hy)) | refine F4 (fun h => ?_) fun h => ?_ | refine R1 ?_ | refine Q1 ?_ | fail)); all_goals (conv => whnf))
    refine CallP.mk (C := lineC) a ?_
    ((repeat' ((conv => whnf) <;> first | exact True.intro | (guard_target =~ Fork _ _ _; first | refine F1 ?_ | refine F2 ?_ | refine F3 (fun h => ?_) fun h => ?_) | (guard_target =~ Ar _ _ _; first | refine A1 ?_ | refine A2 ?_ | refine A3 ?_) | (guard_target =~ AskL _ _; first | refine L1 ?_) | (guard_target =~ Go.Eng.Ask _ _; first | refine K1 ?_) | (guard_target =~ All' _ _; first | (refine Y2 fun y he he' hy => ?_; (try dsimp only at he he' hy)) | (refine Y1 fun y he hy => ?_; (try with_reducible conv at he => (rhs; whnf)); (try dsimp only at he hy)) | (refine All'.mk ?_; intro y hy)) | refine F4 (fun h => ?_) fun h => ?_ | refine R1 ?_ | refine Q1 ?_ | fail)); all_goals (conv => whnf))
    refine CallP.mk (C := sameC) ⟨parseE s, parseE s⟩ ?_
    exact G1
  · have k1 := rightB_false hr
    have hal : actLine a = [] := if_neg (by rw [k1]; simp)
    have lm := k1
    ((repeat' ((conv => whnf) <;> first | exact True.intro | (guard_target =~ Fork _ _ _; first | refine F1 ?_ | refine F2 ?_ | refine F3 (fun h => ?_) fun h => ?_) | (guard_target =~ Ar _ _ _; first | refine A1 ?_ | refine A2 ?_ | refine A3 ?_) | (guard_target =~ AskL _ _; first | refine L1 ?_) | (guard_target =~ Go.Eng.Ask _ _; first | refine K1 ?_) | (guard_target =~ All' _ _; first | (refine Y2 fun y he he' hy => ?_; (try dsimp only at he he' hy)) | (refine Y1 fun y he hy => ?_; (try with_reducible conv at he => (rhs; whnf)); (try dsimp only at he hy)) | (refine All'.mk ?_; intro y hy)) | refine F4 (fun h => ?_) fun h => ?_ | refine R1 ?_ | refine Q1 ?_ | fail)); all_goals (conv => whnf))
    refine CallP.mk (C := parseC) s ?_
    ((repeat' ((conv => whnf) <;> first | exact True.intro | (guard_target =~ Fork _ _ _; first | refine F1 ?_ | refine F2 ?_ | refine F3 (fun h => ?_) fun h => ?_) | (guard_target =~ Ar _ _ _; first | refine A1 ?_ | refine A2 ?_ | refine A3 ?_) | (guard_target =~ AskL _ _; first | refine L1 ?_) | (guard_target =~ Go.Eng.Ask _ _; first | refine K1 ?_) | (guard_target =~ All' _ _; first | (refine Y2 fun y he he' hy => ?_; (try dsimp only at he he' hy)) | (refine Y1 fun y he hy => ?_; (try with_reducible conv at he => (rhs; whnf)); (try dsimp only at he hy)) | (refine All'.mk ?_; intro y hy)) | refine F4 (fun h => ?_) fun h => ?_ | refine R1 ?_ | refine Q1 ?_ | fail)); all_goals (conv => whnf))
    refine CallP.mk (C := parseC) s ?_
    ((repeat' ((conv => whnf) <;> first | exact True.intro | (guard_target =~ Fork _ _ _; first | refine F1 ?_ | refine F2 ?_ | refine F3 (fun h => ?_) fun h => ?_) | (guard_target =~ Ar _ _ _; first | refine A1 ?_ | refine A2 ?_ | refine A3 ?_) | (guard_target =~ AskL _ _; first | refine L1 ?_) | (guard_target =~ Go.Eng.Ask _ _; first | refine K1 ?_) | (guard_target =~ All' _ _; first | (refine Y2 fun y he he' hy => ?_; (try dsimp only at he he' hy)) | (refine Y1 fun y he hy => ?_; (try with_reducible conv at he => (rhs; whnf)); (try dsimp only at he hy)) | (refine All'.mk ?_; intro y hy)) | refine F4 (fun h => ?_) fun h => ?_ | refine R1 ?_ | refine Q1 ?_ | fail)); all_goals (conv => whnf))
    refine CallP.mk (C := rightC) a ?_
    ((repeat' ((conv => whnf) <;> first | exact True.intro | (guard_target =~ Fork _ _ _; first | refine F1 ?_ | refine F2 ?_ | refine F3 (fun h => ?_) fun h => ?_) | (guard_target =~ Ar _ _ _; first | refine A1 ?_ | refine A2 ?_ | refine A3 ?_) | (guard_target =~ AskL _ _; first | refine L1 ?_) | (guard_target =~ Go.Eng.Ask _ _; first | refine K1 ?_) | (guard_target =~ All' _ _; first | (refine Y2 fun y he he' hy => ?_; (try dsimp only at he he' hy)) | (refine Y1 fun y he hy => ?_; (try with_reducible conv at he => (rhs; whnf)); (try dsimp only at he hy)) | (refine All'.mk ?_; intro y hy)) | refine F4 (fun h => ?_) fun h => ?_ | refine R1 ?_ | refine Q1 ?_ | fail)); all_goals (conv => whnf))
    refine CallP.mk (C := rightC) a ?_
    have k2 : (rightB a == rightB a) = true := beq_self_eq_true _
    have k3 : (sameB a b == sameB a b) = true := beq_self_eq_true _
    have k4 : (parseB s == parseB s) = true := beq_self_eq_true _
    have k5 : ((strOfNums (actLine a)).toList == (⟨#[]⟩ : ByteArray).toList) = true := by rw [hal]; exact beq_self_eq_true _
    have k6 := sameB_true (rfl : parseE s = parseE s)
    have lm := And.intro k2 (And.intro k3 (And.intro k4 (And.intro k5 k6)))
    ((repeat' ((conv => whnf) <;> first | exact True.intro | (guard_target =~ Fork _ _ _; first | refine F1 ?_ | refine F2 ?_ | refine F3 (fun h => ?_) fun h => ?_) | (guard_target =~ Ar _ _ _; first | refine A1 ?_ | refine A2 ?_ | refine A3 ?_) | (guard_target =~ AskL _ _; first | refine L1 ?_) | (guard_target =~ Go.Eng.Ask _ _; first | refine K1 ?_) | (guard_target =~ All' _ _; first | (refine Y2 fun y he he' hy => ?_; (try dsimp only at he he' hy)) | (refine Y1 fun y he hy => ?_; (try with_reducible conv at he => (rhs; whnf)); (try dsimp only at he hy)) | (refine All'.mk ?_; intro y hy)) | refine F4 (fun h => ?_) fun h => ?_ | refine R1 ?_ | refine Q1 ?_ | fail)); all_goals (conv => whnf))
    refine CallP.mk (C := sameC) ⟨a, b⟩ ?_
    ((repeat' ((conv => whnf) <;> first | exact True.intro | (guard_target =~ Fork _ _ _; first | refine F1 ?_ | refine F2 ?_ | refine F3 (fun h => ?_) fun h => ?_) | (guard_target =~ Ar _ _ _; first | refine A1 ?_ | refine A2 ?_ | refine A3 ?_) | (guard_target =~ AskL _ _; first | refine L1 ?_) | (guard_target =~ Go.Eng.Ask _ _; first | refine K1 ?_) | (guard_target =~ All' _ _; first | (refine Y2 fun y he he' hy => ?_; (try dsimp only at he he' hy)) | (refine Y1 fun y he hy => ?_; (try with_reducible conv at he => (rhs; whnf)); (try dsimp only at he hy)) | (refine All'.mk ?_; intro y hy)) | refine F4 (fun h => ?_) fun h => ?_ | refine R1 ?_ | refine Q1 ?_ | fail)); all_goals (conv => whnf))
    refine CallP.mk (C := sameC) ⟨a, b⟩ ?_
    ((repeat' ((conv => whnf) <;> first | exact True.intro | (guard_target =~ Fork _ _ _; first | refine F1 ?_ | refine F2 ?_ | refine F3 (fun h => ?_) fun h => ?_) | (guard_target =~ Ar _ _ _; first | refine A1 ?_ | refine A2 ?_ | refine A3 ?_) | (guard_target =~ AskL _ _; first | refine L1 ?_) | (guard_target =~ Go.Eng.Ask _ _; first | refine K1 ?_) | (guard_target =~ All' _ _; first | (refine Y2 fun y he he' hy => ?_; (try dsimp only at he he' hy)) | (refine Y1 fun y he hy => ?_; (try with_reducible conv at he => (rhs; whnf)); (try dsimp only at he hy)) | (refine All'.mk ?_; intro y hy)) | refine F4 (fun h => ?_) fun h => ?_ | refine R1 ?_ | refine Q1 ?_ | fail)); all_goals (conv => whnf))
    refine CallP.mk (C := lineC) a ?_
    ((repeat' ((conv => whnf) <;> first | exact True.intro | (guard_target =~ Fork _ _ _; first | refine F1 ?_ | refine F2 ?_ | refine F3 (fun h => ?_) fun h => ?_) | (guard_target =~ Ar _ _ _; first | refine A1 ?_ | refine A2 ?_ | refine A3 ?_) | (guard_target =~ AskL _ _; first | refine L1 ?_) | (guard_target =~ Go.Eng.Ask _ _; first | refine K1 ?_) | (guard_target =~ All' _ _; first | (refine Y2 fun y he he' hy => ?_; (try dsimp only at he he' hy)) | (refine Y1 fun y he hy => ?_; (try with_reducible conv at he => (rhs; whnf)); (try dsimp only at he hy)) | (refine All'.mk ?_; intro y hy)) | refine F4 (fun h => ?_) fun h => ?_ | refine R1 ?_ | refine Q1 ?_ | fail)); all_goals (conv => whnf))
    refine CallP.mk (C := sameC) ⟨parseE s, parseE s⟩ ?_
    exact G1
end Go.Proofs.YtghejeecanohoaaDoor
