/- Parts of the proof, one behind the other (ActX, EngW, EngX, ActY, EngY). -/
import Derived.Test.YtghejeecanohoaaDoorPk10
import Derived.RowKit3
import Derived.Below
import Derived.Carry
import Derived.OpenShut
import Derived.LaidMore
import Derived.HandedShaped
import Derived.Lib.LaidTab
/-! Lines told and read again; the function of ActsScripts. -/
set_option linter.unusedVariables false
set_option linter.unusedSimpArgs false
set_option maxRecDepth 100000
set_option maxHeartbeats 4000000
namespace Go.Proofs.YtghejeecanohoaaDoor
open Go.Eng

/-- The first bad line among the first ones: its number; nought: there is none. -/
noncomputable def badN (s : ByteArray) (c : Nat) : Int := match (List.range c).find? fun j => !gW s j with
  | some b => ((kW s b + 1 : Nat) : Int)
  | none => 0
theorem badN_zero (s : ByteArray) : badN s 0 = 0 := rfl
theorem badN_good {s : ByteArray} {c : Nat} (h : gW s c = true) : badN s (c + 1) = badN s c := by
  unfold badN
  rw [List.range_succ, List.find?_append]
  cases (List.range c).find? fun j => !gW s j with
  | some b => rfl
  | none => simp [h]
theorem badN_pos {s : ByteArray} {c : Nat} (h : badN s c ≠ 0) : badN s (c + 1) = badN s c := by
  unfold badN at h ⊢
  rw [List.range_succ, List.find?_append]
  cases hf : (List.range c).find? fun j => !gW s j with
  | some b => rfl
  | none => rw [hf] at h; exact absurd rfl h
theorem badN_new {s : ByteArray} {c : Nat} (h : badN s c = 0) (hg : gW s c = false) : badN s (c + 1) = ((kW s c + 1 : Nat) : Int) := by
  unfold badN at h ⊢
  rw [List.range_succ, List.find?_append]
  cases hf : (List.range c).find? fun j => !gW s j with
  | some b => rw [hf] at h; dsimp only at h; omega
  | none => simp [hg]
theorem badN_all {s : ByteArray} : (badN s (nW s) = 0 ∧ badW s = none) ∨ (∃ b, badW s = some b ∧ badN s (nW s) = ((kW s b + 1 : Nat) : Int)) := by
  unfold badN badW
  cases (List.range (nW s)).find? fun j => !gW s j with
  | some b => exact .inr ⟨b, rfl, rfl⟩
  | none => exact .inl ⟨rfl, rfl⟩

theorem readE_ok {s : ByteArray} {e : Ev} (h : e ∈ readE s) : okEv e := by
  unfold readE at h
  split at h
  · cases h
  · split at h
    · cases h
    · unfold esW at h
      obtain ⟨c, _, rfl⟩ := List.mem_map.1 h
      exact parse_okE _
theorem readE_len (s : ByteArray) : (readE s).length ≤ nW s := by
  unfold readE
  split
  · exact Nat.zero_le _
  · split
    · exact Nat.zero_le _
    · rw [esW_len]; exact Nat.le_refl _
structure SsX where
  s : ByteArray
  l : List Ev
  m : Int
@[reducible] def ssC : Ctr := {
  X := SsX
  Y := Unit
  args := fun x => [.v (.string x.s), .ro false evT x.l, .v (.int .i64 x.m)]
  rw := fun _ => []
  side := fun x => (∀ e, e ∈ x.l → okEv e)
  val := fun _ => ()
  ens := fun _ _ => True
  res := fun _ _ => .v (.bool true)
  out := fun _ _ => [] }
structure SsS where
  i : Nat
  c : Nat
@[reducible] noncomputable def ssL0 (x : SsX) : LA := {
  X := SsS
  pre := fun t => t.i ≤ (lnP x.s).length ∧ t.c ≤ nW x.s ∧ (ksW (lnP x.s) 0).drop t.c = ksW ((lnP x.s).drop t.i) t.i
  mu := fun t => (lnP x.s).length - t.i
  T := fun t => [(0, .v (.string x.s)), (1, .ro true evT x.l), (7, .ro false .str ((lnP x.s).map strOfNums)), (8, .v (.int .i64 ((max 0 (min x.m 6000))))), (9, .ro false (.int .i64) (isW' x.s (cntW ⟨x.s, max 0 (min x.m 6000)⟩))), (10, .ro false .str (lsW x.s (cntW ⟨x.s, max 0 (min x.m 6000)⟩))),
    (11, .v (.int .i64 (min t.c ((max 0 (min x.m 6000))).toNat : Nat))), (12, .v (.int .i64 (badN x.s t.c))), (13, .sl 4), (47, .ro false .str ((lnP x.s).map strOfNums)), (48, .v (.int .i64 ((lnP x.s).map strOfNums).length)), (49, .v (.int .i64 (t.i : Nat)))]
  M := fun t => [(4, .row 24 evT (esW x.s t.c))] }
@[reducible] noncomputable def ssL2 (x : SsX) : LA := {
  X := Nat
  pre := fun j => j ≤ (readE x.s).length
  mu := fun j => (readE x.s).length - j
  T := fun j => [(1, .ro true evT x.l), (13, .sl 4), (18, .ro false evT (readE x.s)), (134, .v (.int .i64 (readE x.s).length)), (135, .v (.int .i64 (j : Nat)))]
  M := fun j => [(4, .row 24 evT (readE x.s))] }
@[reducible] noncomputable def ssL4 (x : SsX) : LA := {
  X := Nat
  pre := fun j => j ≤ x.l.length ∧ ∀ e, e ∈ x.l.take j → rightP e
  mu := fun j => x.l.length - j
  T := fun j => [(1, .ro true evT x.l), (23, .v (.string (strOfNums (scrL (x.l.take j))))), (149, .ro true evT x.l), (150, .v (.int .i64 x.l.length)), (151, .v (.int .i64 (j : Nat)))]
  M := fun j => [] }
theorem knownX2 : Known Tryd.prog (gOf [(6, firstC), (15, aSplitC), (16, lnC), (17, someC), (10, parseC), (18, readC), (13, sameC), (7, rightC), (19, scriptC), (8, rLineC)]) :=
  known_cons ⟨first_ok, Tryd.call6⟩ (known_cons ⟨rLines_ok, Tryd.call15⟩ (known_cons ⟨ln_law_ok, Tryd.call16⟩ (known_cons ⟨some_ok, Tryd.call17⟩ (known_cons ⟨rParse_ok, Tryd.call10⟩ (known_cons ⟨read_ok, Tryd.call18⟩ (known_cons ⟨rsame_ok, Tryd.call13⟩ (known_cons ⟨rRight_ok, Tryd.call7⟩ (known_cons ⟨script_ok, Tryd.call19⟩ (known_cons ⟨rLine_ok, Tryd.call8⟩ (known_nil _))))))))))
theorem ss_ok : ssC.ok Tryd.prog 4 := by
  refine ok_of_vc (An := fun (x : SsX) => anOf [(0, .loop (ssL0 x)), (2, .loop (ssL2 x)), (4, .loop (ssL4 x))]) knownX2 mo Tryd.func4 (by kernel_rfl) (by kernel_rfl) (fun _ _ => trivial) (fun x hs => ?_)
  obtain ⟨s, l, m⟩ := x
  have hok : ∀ e, e ∈ l → okEv e := hs
  clear hs
  ((repeat' ((conv => whnf) <;> first | exact True.intro | (guard_target =~ Fork _ _ _; first | refine F1 ?_ | refine F2 ?_ | refine F3 (fun h => ?_) fun h => ?_) | (guard_target =~ Ar _ _ _; first | refine A1 ?_ | refine A2 ?_ | refine A3 ?_) | (guard_target =~ AskL _ _; first | refine L1 ?_) | (guard_target =~ Go.Eng.Ask _ _; first | refine K1 ?_) | (guard_target =~ All' _ _; first | (refine Y2 fun y he he' hy => ?_; (try dsimp only at he he' hy)) | (refine Y1 fun y he hy => ?_; (try with_reducible conv at he => (rhs; whnf)); (try dsimp only at he hy)) | (refine All'.mk ?_; intro y hy)) | refine F4 (fun h => ?_) fun h => ?_ | refine R1 ?_ | refine Q1 ?_ | fail)); all_goals (conv => whnf))
  refine CallP.mk (C := firstC) () ?_
  ((repeat' ((conv => whnf) <;> first | exact True.intro | (guard_target =~ Fork _ _ _; first | refine F1 ?_ | refine F2 ?_ | refine F3 (fun h => ?_) fun h => ?_) | (guard_target =~ Ar _ _ _; first | refine A1 ?_ | refine A2 ?_ | refine A3 ?_) | (guard_target =~ AskL _ _; first | refine L1 ?_) | (guard_target =~ Go.Eng.Ask _ _; first | refine K1 ?_) | (guard_target =~ All' _ _; first | (refine Y2 fun y he he' hy => ?_; (try dsimp only at he he' hy)) | (refine Y1 fun y he hy => ?_; (try with_reducible conv at he => (rhs; whnf)); (try dsimp only at he hy)) | (refine All'.mk ?_; intro y hy)) | refine F4 (fun h => ?_) fun h => ?_ | refine R1 ?_ | refine Q1 ?_ | fail)); all_goals (conv => whnf))
  refine CallP.mk (C := aSplitC) s ?_
  ((repeat' ((conv => whnf) <;> first | exact True.intro | (guard_target =~ Fork _ _ _; first | refine F1 ?_ | refine F2 ?_ | refine F3 (fun h => ?_) fun h => ?_) | (guard_target =~ Ar _ _ _; first | refine A1 ?_ | refine A2 ?_ | refine A3 ?_) | (guard_target =~ AskL _ _; first | refine L1 ?_) | (guard_target =~ Go.Eng.Ask _ _; first | refine K1 ?_) | (guard_target =~ All' _ _; first | (refine Y2 fun y he he' hy => ?_; (try dsimp only at he he' hy)) | (refine Y1 fun y he hy => ?_; (try with_reducible conv at he => (rhs; whnf)); (try dsimp only at he hy)) | (refine All'.mk ?_; intro y hy)) | refine F4 (fun h => ?_) fun h => ?_ | refine R1 ?_ | refine Q1 ?_ | fail)); all_goals (conv => whnf))
  refine CallP.mk (C := lnC) ⟨s, max 0 (min m 6000)⟩ ?_
  ((repeat' ((conv => whnf) <;> first | exact True.intro | (guard_target =~ Fork _ _ _; first | refine F1 ?_ | refine F2 ?_ | refine F3 (fun h => ?_) fun h => ?_) | (guard_target =~ Ar _ _ _; first | refine A1 ?_ | refine A2 ?_ | refine A3 ?_) | (guard_target =~ AskL _ _; first | refine L1 ?_) | (guard_target =~ Go.Eng.Ask _ _; first | refine K1 ?_) | (guard_target =~ All' _ _; first | (refine Y2 fun y he he' hy => ?_; (try dsimp only at he he' hy)) | (refine Y1 fun y he hy => ?_; (try with_reducible conv at he => (rhs; whnf)); (try dsimp only at he hy)) | (refine All'.mk ?_; intro y hy)) | refine F4 (fun h => ?_) fun h => ?_ | refine R1 ?_ | refine Q1 ?_ | fail)); all_goals (conv => whnf))
  have hlm : ((lnP s).map strOfNums).length = (lnP s).length := List.length_map ..
  have hlb := lines_bound s
  have hnw := nW_le s
  have hl1 : (isW' s (cntW ⟨s, max 0 (min m 6000)⟩)).length = min (nW s) (max 0 (min m 6000)).toNat := isW_len ..
  have hl2 : (lsW s (cntW ⟨s, max 0 (min m 6000)⟩)).length = min (nW s) (max 0 (min m 6000)).toNat := lsW_len ..
  refine Some'.mk ⟨0, 0⟩ ?_
  ((repeat' ((conv => whnf) <;> first | exact True.intro | (guard_target =~ Fork _ _ _; first | refine F1 ?_ | refine F2 ?_ | refine F3 (fun h => ?_) fun h => ?_) | (guard_target =~ Ar _ _ _; first | refine A1 ?_ | refine A2 ?_ | refine A3 ?_) | (guard_target =~ AskL _ _; first | refine L1 ?_) | (guard_target =~ Go.Eng.Ask _ _; first | refine K1 ?_) | (guard_target =~ All' _ _; first | (refine Y2 fun y he he' hy => ?_; (try dsimp only at he he' hy)) | (refine Y1 fun y he hy => ?_; (try with_reducible conv at he => (rhs; whnf)); (try dsimp only at he hy)) | (refine All'.mk ?_; intro y hy)) | refine F4 (fun h => ?_) fun h => ?_ | refine R1 ?_ | refine Q1 ?_ | fail)); all_goals (conv => whnf))
  refine Ask.mk ⟨Nat.zero_le _, Nat.zero_le _, rfl⟩ ?_
  refine AllI.mk ?_
  rintro ⟨i, c⟩ ⟨h1, h2, h3⟩
  have h1 : i ≤ (lnP s).length := h1
  dsimp only at h2 h3
  by_cases hi : i = (lnP s).length
  · subst hi
    rw [List.drop_length] at h3
    obtain rfl : c = nW s := Nat.le_antisymm h2 (List.drop_eq_nil_iff.1 h3)
    clear h1 h2 h3
    have hrd : (1000 < (lnP s).length ∧ readE s = [] ∧ readN s = 0 ∧ readF s = 12) ∨ (¬ 1000 < (lnP s).length ∧ readE s = [] ∧ readN s = badN s (nW s) ∧ readF s = 11 ∧ 0 < badN s (nW s)) ∨ (¬ 1000 < (lnP s).length ∧ readE s = esW s (nW s) ∧ readN s = 0 ∧ readF s = 0 ∧ badN s (nW s) = 0) := by
      unfold readE readN readF
      by_cases hb : 1000 < (lnP s).length
      · rw [if_pos hb, if_pos hb, if_pos hb]; exact .inl ⟨hb, rfl, rfl, rfl⟩
      · rw [if_neg hb, if_neg hb, if_neg hb]
        rcases badN_all (s := s) with ⟨e1, e2⟩ | ⟨b, e1, e2⟩
        · rw [e2]; exact .inr (.inr ⟨hb, rfl, rfl, rfl, e1⟩)
        · rw [e1]; exact .inr (.inl ⟨hb, rfl, e2.symm, rfl, by rw [e2]; omega⟩)
    have hel := esW_len s (nW s)
    ((repeat' ((conv => whnf) <;> first | exact True.intro | (guard_target =~ Fork _ _ _; first | refine F1 ?_ | refine F2 ?_ | refine F3 (fun h => ?_) fun h => ?_) | (guard_target =~ Ar _ _ _; first | refine A1 ?_ | refine A2 ?_ | refine A3 ?_) | (guard_target =~ AskL _ _; first | refine L1 ?_) | (guard_target =~ Go.Eng.Ask _ _; first | refine K1 ?_) | (guard_target =~ All' _ _; first | (refine Y2 fun y he he' hy => ?_; (try dsimp only at he he' hy)) | (refine Y1 fun y he hy => ?_; (try with_reducible conv at he => (rhs; whnf)); (try dsimp only at he hy)) | (refine All'.mk ?_; intro y hy)) | refine F4 (fun h => ?_) fun h => ?_ | refine R1 ?_ | refine Q1 ?_ | fail)); all_goals (conv => whnf))
    refine CallP.mk (C := readC) s ?_
    have hr6 : (1000 < (lnP s).length ∧ (readE s).length = 0) ∨ (¬ 1000 < (lnP s).length ∧ 0 < badN s (nW s) ∧ (readE s).length = 0) ∨ (¬ 1000 < (lnP s).length ∧ badN s (nW s) = 0 ∧ (readE s).length = nW s) := by
      rcases hrd with ⟨k1, k2, k3, k4⟩ | ⟨k1, k2, k3, k4, k5⟩ | ⟨k1, k2, k3, k4, k5⟩
      · exact .inl ⟨k1, by rw [k2]; rfl⟩
      · exact .inr (.inl ⟨k1, k5, by rw [k2]; rfl⟩)
      · exact .inr (.inr ⟨k1, k5, by rw [k2]; exact hel⟩)
    rcases hrd with ⟨k1, k2, k3, k4⟩ | ⟨k1, k2, k3, k4, k5⟩ | ⟨k1, k2, k3, k4, k5⟩
    all_goals
      have lm := And.intro k3 k4
      ((repeat' ((conv => whnf) <;> first | exact True.intro | (guard_target =~ Fork _ _ _; first | refine F1 ?_ | refine F2 ?_ | refine F3 (fun h => ?_) fun h => ?_) | (guard_target =~ Ar _ _ _; first | refine A1 ?_ | refine A2 ?_ | refine A3 ?_) | (guard_target =~ AskL _ _; first | refine L1 ?_) | (guard_target =~ Go.Eng.Ask _ _; first | refine K1 ?_) | (guard_target =~ All' _ _; first | (refine Y2 fun y he he' hy => ?_; (try dsimp only at he he' hy)) | (refine Y1 fun y he hy => ?_; (try with_reducible conv at he => (rhs; whnf)); (try dsimp only at he hy)) | (refine All'.mk ?_; intro y hy)) | refine F4 (fun h => ?_) fun h => ?_ | refine R1 ?_ | refine Q1 ?_ | fail)); all_goals (conv => whnf))
      refine Some'.mk (0 : Nat) ?_
      ((repeat' ((conv => whnf) <;> first | exact True.intro | (guard_target =~ Fork _ _ _; first | refine F1 ?_ | refine F2 ?_ | refine F3 (fun h => ?_) fun h => ?_) | (guard_target =~ Ar _ _ _; first | refine A1 ?_ | refine A2 ?_ | refine A3 ?_) | (guard_target =~ AskL _ _; first | refine L1 ?_) | (guard_target =~ Go.Eng.Ask _ _; first | refine K1 ?_) | (guard_target =~ All' _ _; first | (refine Y2 fun y he he' hy => ?_; (try dsimp only at he he' hy)) | (refine Y1 fun y he hy => ?_; (try with_reducible conv at he => (rhs; whnf)); (try dsimp only at he hy)) | (refine All'.mk ?_; intro y hy)) | refine F4 (fun h => ?_) fun h => ?_ | refine R1 ?_ | refine Q1 ?_ | fail)); all_goals (conv => whnf))
      refine AllI.mk ?_
      rintro (j : Nat) hj
      have hj : j ≤ (readE s).length := hj
      clear hr6 k2 k3 k4 hl1 hl2 hlm hel
      by_cases hje : j = (readE s).length
      · subst hje
        ((repeat' ((conv => whnf) <;> first | exact True.intro | (guard_target =~ Fork _ _ _; first | refine F1 ?_ | refine F2 ?_ | refine F3 (fun h => ?_) fun h => ?_) | (guard_target =~ Ar _ _ _; first | refine A1 ?_ | refine A2 ?_ | refine A3 ?_) | (guard_target =~ AskL _ _; first | refine L1 ?_) | (guard_target =~ Go.Eng.Ask _ _; first | refine K1 ?_) | (guard_target =~ All' _ _; first | (refine Y2 fun y he he' hy => ?_; (try dsimp only at he he' hy)) | (refine Y1 fun y he hy => ?_; (try with_reducible conv at he => (rhs; whnf)); (try dsimp only at he hy)) | (refine All'.mk ?_; intro y hy)) | refine F4 (fun h => ?_) fun h => ?_ | refine R1 ?_ | refine Q1 ?_ | fail)); all_goals (conv => whnf))
        refine Some'.mk (0 : Nat) ?_
        ((repeat' ((conv => whnf) <;> first | exact True.intro | (guard_target =~ Fork _ _ _; first | refine F1 ?_ | refine F2 ?_ | refine F3 (fun h => ?_) fun h => ?_) | (guard_target =~ Ar _ _ _; first | refine A1 ?_ | refine A2 ?_ | refine A3 ?_) | (guard_target =~ AskL _ _; first | refine L1 ?_) | (guard_target =~ Go.Eng.Ask _ _; first | refine K1 ?_) | (guard_target =~ All' _ _; first | (refine Y2 fun y he he' hy => ?_; (try dsimp only at he he' hy)) | (refine Y1 fun y he hy => ?_; (try with_reducible conv at he => (rhs; whnf)); (try dsimp only at he hy)) | (refine All'.mk ?_; intro y hy)) | refine F4 (fun h => ?_) fun h => ?_ | refine R1 ?_ | refine Q1 ?_ | fail)); all_goals (conv => whnf))
        refine Ask.mk ⟨Nat.zero_le _, fun e he => nomatch he⟩ ?_
        refine AllI.mk ?_
        rintro (j : Nat) ⟨hj, hr⟩
        have hj : j ≤ l.length := hj
        have hr : ∀ e, e ∈ l.take j → rightP e := hr
        have hl60 : l.length ≤ 60 := by omega
        by_cases hjl : j = l.length
        · subst hjl
          have htk : l.take l.length = l := List.take_length
          rw [htk] at hr
          have hF : scriptF l = scrL l := if_pos ⟨by omega, hr⟩
          ((repeat' ((conv => whnf) <;> first | exact True.intro | (guard_target =~ Fork _ _ _; first | refine F1 ?_ | refine F2 ?_ | refine F3 (fun h => ?_) fun h => ?_) | (guard_target =~ Ar _ _ _; first | refine A1 ?_ | refine A2 ?_ | refine A3 ?_) | (guard_target =~ AskL _ _; first | refine L1 ?_) | (guard_target =~ Go.Eng.Ask _ _; first | refine K1 ?_) | (guard_target =~ All' _ _; first | (refine Y2 fun y he he' hy => ?_; (try dsimp only at he he' hy)) | (refine Y1 fun y he hy => ?_; (try with_reducible conv at he => (rhs; whnf)); (try dsimp only at he hy)) | (refine All'.mk ?_; intro y hy)) | refine F4 (fun h => ?_) fun h => ?_ | refine R1 ?_ | refine Q1 ?_ | fail)); all_goals (conv => whnf))
          refine CallP.mk (C := scriptC) l ?_
          ((repeat' ((conv => whnf) <;> first | exact True.intro | (guard_target =~ Fork _ _ _; first | refine F1 ?_ | refine F2 ?_ | refine F3 (fun h => ?_) fun h => ?_) | (guard_target =~ Ar _ _ _; first | refine A1 ?_ | refine A2 ?_ | refine A3 ?_) | (guard_target =~ AskL _ _; first | refine L1 ?_) | (guard_target =~ Go.Eng.Ask _ _; first | refine K1 ?_) | (guard_target =~ All' _ _; first | (refine Y2 fun y he he' hy => ?_; (try dsimp only at he he' hy)) | (refine Y1 fun y he hy => ?_; (try with_reducible conv at he => (rhs; whnf)); (try dsimp only at he hy)) | (refine All'.mk ?_; intro y hy)) | refine F4 (fun h => ?_) fun h => ?_ | refine R1 ?_ | refine Q1 ?_ | fail)); all_goals (conv => whnf))
          refine Ask.mk ⟨hok, by show l.length ≤ _; omega⟩ ?_
          have k6 : ((strOfNums (scriptF l)).toList == (strOfNums (scrL (l.take l.length))).toList) = true := by rw [hF, htk]; exact beq_self_eq_true _
          have lm := k6
          ((repeat' ((conv => whnf) <;> first | exact True.intro | (guard_target =~ Fork _ _ _; first | refine F1 ?_ | refine F2 ?_ | refine F3 (fun h => ?_) fun h => ?_) | (guard_target =~ Ar _ _ _; first | refine A1 ?_ | refine A2 ?_ | refine A3 ?_) | (guard_target =~ AskL _ _; first | refine L1 ?_) | (guard_target =~ Go.Eng.Ask _ _; first | refine K1 ?_) | (guard_target =~ All' _ _; first | (refine Y2 fun y he he' hy => ?_; (try dsimp only at he he' hy)) | (refine Y1 fun y he hy => ?_; (try with_reducible conv at he => (rhs; whnf)); (try dsimp only at he hy)) | (refine All'.mk ?_; intro y hy)) | refine F4 (fun h => ?_) fun h => ?_ | refine R1 ?_ | refine Q1 ?_ | fail)); all_goals (conv => whnf))
          all_goals (refine AskL.mk ?_ trivial; exact k6)
        · obtain ⟨e, hle⟩ : ∃ e, l[j]? = some e := ⟨_, List.getElem?_eq_getElem (by omega)⟩
          have hoe := hok e (List.mem_of_getElem? hle)
          have hsl := scrL_len (l.take j) hr
          have htl : (l.take j).length = j := by rw [List.length_take]; omega
          have hss := str_size (scrL (l.take j))
          by_cases hre : rightP e
          · have k1 := rightB_true hre
            have hll := lineL_len hre
            have hss2 := str_size (lineL e)
            have htk := take_get hle
            have hsn := scrL_snoc e (l.take j)
            rw [← htk] at hsn
            ((repeat' ((conv => whnf) <;> first | exact True.intro | (guard_target =~ Fork _ _ _; first | refine F1 ?_ | refine F2 ?_ | refine F3 (fun h => ?_) fun h => ?_) | (guard_target =~ Ar _ _ _; first | refine A1 ?_ | refine A2 ?_ | refine A3 ?_) | (guard_target =~ AskL _ _; first | refine L1 ?_) | (guard_target =~ Go.Eng.Ask _ _; first | refine K1 ?_) | (guard_target =~ All' _ _; first | (refine Y2 fun y he he' hy => ?_; (try dsimp only at he he' hy)) | (refine Y1 fun y he hy => ?_; (try with_reducible conv at he => (rhs; whnf)); (try dsimp only at he hy))) | refine F4 (fun h => ?_) fun h => ?_ | refine R1 ?_ | refine Q1 ?_ | fail)); all_goals (conv => whnf))
            refine All'.mk ?_; rintro (e' : Ev) he'
            obtain rfl : e = e' := Option.some.inj (hle.symm.trans he')
            ((repeat' ((conv => whnf) <;> first | exact True.intro | (guard_target =~ Fork _ _ _; first | refine F1 ?_ | refine F2 ?_ | refine F3 (fun h => ?_) fun h => ?_) | (guard_target =~ Ar _ _ _; first | refine A1 ?_ | refine A2 ?_ | refine A3 ?_) | (guard_target =~ AskL _ _; first | refine L1 ?_) | (guard_target =~ Go.Eng.Ask _ _; first | refine K1 ?_) | (guard_target =~ All' _ _; first | (refine Y2 fun y he he' hy => ?_; (try dsimp only at he he' hy)) | (refine Y1 fun y he hy => ?_; (try with_reducible conv at he => (rhs; whnf)); (try dsimp only at he hy)) | (refine All'.mk ?_; intro y hy)) | refine F4 (fun h => ?_) fun h => ?_ | refine R1 ?_ | refine Q1 ?_ | fail)); all_goals (conv => whnf))
            refine CallP.mk (C := rightC) e ?_
            have lm := k1
            ((repeat' ((conv => whnf) <;> first | exact True.intro | (guard_target =~ Fork _ _ _; first | refine F1 ?_ | refine F2 ?_ | refine F3 (fun h => ?_) fun h => ?_) | (guard_target =~ Ar _ _ _; first | refine A1 ?_ | refine A2 ?_ | refine A3 ?_) | (guard_target =~ AskL _ _; first | refine L1 ?_) | (guard_target =~ Go.Eng.Ask _ _; first | refine K1 ?_) | (guard_target =~ All' _ _; first | (refine Y2 fun y he he' hy => ?_; (try dsimp only at he he' hy)) | (refine Y1 fun y he hy => ?_; (try with_reducible conv at he => (rhs; whnf)); (try dsimp only at he hy)) | (refine All'.mk ?_; intro y hy)) | refine F4 (fun h => ?_) fun h => ?_ | refine R1 ?_ | refine Q1 ?_ | fail)); all_goals (conv => whnf))
            refine CallP.mk (C := rLineC) e ?_
            ((repeat' ((conv => whnf) <;> first | exact True.intro | (guard_target =~ Fork _ _ _; first | refine F1 ?_ | refine F2 ?_ | refine F3 (fun h => ?_) fun h => ?_) | (guard_target =~ Ar _ _ _; first | refine A1 ?_ | refine A2 ?_ | refine A3 ?_) | (guard_target =~ AskL _ _; first | refine L1 ?_) | (guard_target =~ Go.Eng.Ask _ _; first | refine K1 ?_) | (guard_target =~ All' _ _; first | (refine Y2 fun y he he' hy => ?_; (try dsimp only at he he' hy)) | (refine Y1 fun y he hy => ?_; (try with_reducible conv at he => (rhs; whnf)); (try dsimp only at he hy)) | (refine All'.mk ?_; intro y hy)) | refine F4 (fun h => ?_) fun h => ?_ | refine R1 ?_ | refine Q1 ?_ | fail)); all_goals (conv => whnf))
            refine Ask.mk (by show (strOfNums (lineL e)).size + 1 ≤ _; omega) ?_
            ((repeat' ((conv => whnf) <;> first | exact True.intro | (guard_target =~ Fork _ _ _; first | refine F1 ?_ | refine F2 ?_ | refine F3 (fun h => ?_) fun h => ?_) | (guard_target =~ Ar _ _ _; first | refine A1 ?_ | refine A2 ?_ | refine A3 ?_) | (guard_target =~ AskL _ _; first | refine L1 ?_) | (guard_target =~ Go.Eng.Ask _ _; first | refine K1 ?_) | (guard_target =~ All' _ _; first | (refine Y2 fun y he he' hy => ?_; (try dsimp only at he he' hy)) | (refine Y1 fun y he hy => ?_; (try with_reducible conv at he => (rhs; whnf)); (try dsimp only at he hy)) | (refine All'.mk ?_; intro y hy)) | refine F4 (fun h => ?_) fun h => ?_ | refine R1 ?_ | refine Q1 ?_ | fail)); all_goals (conv => whnf))
            refine Ask.mk (by
              rw [ByteArray.size_append]
              show (strOfNums (scrL (l.take j))).size + ((strOfNums (lineL e)).size + 1) ≤ _; omega) ?_
            have hcat : strOfNums (scrL (l.take j)) ++ (strOfNums (lineL e) ++ ⟨#[10]⟩) = strOfNums (scrL (l.take (j + 1))) := by
              rw [hsn, ← str_cat, ← str_cat]
              exact (ByteArray.append_assoc ..).symm
            ((repeat' ((conv => whnf) <;> first | exact True.intro | (guard_target =~ Fork _ _ _; first | refine F1 ?_ | refine F2 ?_ | refine F3 (fun h => ?_) fun h => ?_) | (guard_target =~ Ar _ _ _; first | refine A1 ?_ | refine A2 ?_ | refine A3 ?_) | (guard_target =~ AskL _ _; first | refine L1 ?_) | (guard_target =~ Go.Eng.Ask _ _; first | refine K1 ?_) | (guard_target =~ All' _ _; first | (refine Y2 fun y he he' hy => ?_; (try dsimp only at he he' hy)) | (refine Y1 fun y he hy => ?_; (try with_reducible conv at he => (rhs; whnf)); (try dsimp only at he hy)) | (refine All'.mk ?_; intro y hy)) | refine F4 (fun h => ?_) fun h => ?_ | refine R1 ?_ | refine Q1 ?_ | fail)); all_goals (conv => whnf))
            refine Some'.mk (j + 1 : Nat) ?_
            ((repeat' ((conv => whnf) <;> first | exact True.intro | (guard_target =~ Fork _ _ _; first | refine F1 ?_ | refine F2 ?_ | refine F3 (fun h => ?_) fun h => ?_) | (guard_target =~ Ar _ _ _; first | refine A1 ?_ | refine A2 ?_ | refine A3 ?_) | (guard_target =~ Go.Eng.Ask _ _; first | refine K1 ?_) | (guard_target =~ All' _ _; first | (refine Y2 fun y he he' hy => ?_; (try dsimp only at he he' hy)) | (refine Y1 fun y he hy => ?_; (try with_reducible conv at he => (rhs; whnf)); (try dsimp only at he hy)) | (refine All'.mk ?_; intro y hy)) | refine F4 (fun h => ?_) fun h => ?_ | refine R1 ?_ | refine Q1 ?_ | fail)); all_goals (conv => whnf))
            refine AskL.mk ?_ ?_
            · (dsimp only [conj]; repeat' apply And.intro) <;> first | rfl | omega | exact hcat
            ((repeat' ((conv => whnf) <;> first | exact True.intro | (guard_target =~ Fork _ _ _; first | refine F1 ?_ | refine F2 ?_ | refine F3 (fun h => ?_) fun h => ?_) | (guard_target =~ Ar _ _ _; first | refine A1 ?_ | refine A2 ?_ | refine A3 ?_) | (guard_target =~ AskL _ _; first | refine L1 ?_) | (guard_target =~ Go.Eng.Ask _ _; first | refine K1 ?_) | (guard_target =~ All' _ _; first | (refine Y2 fun y he he' hy => ?_; (try dsimp only at he he' hy)) | (refine Y1 fun y he hy => ?_; (try with_reducible conv at he => (rhs; whnf)); (try dsimp only at he hy)) | (refine All'.mk ?_; intro y hy)) | refine F4 (fun h => ?_) fun h => ?_ | refine R1 ?_ | refine Q1 ?_ | fail)); all_goals (conv => whnf))
            refine Ask.mk ⟨by show j + 1 ≤ l.length; omega, fun x hx => by
              rw [htk] at hx
              rcases List.mem_append.1 hx with hx | hx
              · exact hr x hx
              · rcases List.mem_singleton.1 hx with rfl; exact hre⟩ ?_
            exact G1
          · have k1 := rightB_false hre
            have hF : scriptF l = [] := if_neg (fun hh => hre (hh.2 e (List.mem_of_getElem? hle)))
            ((repeat' ((conv => whnf) <;> first | exact True.intro | (guard_target =~ Fork _ _ _; first | refine F1 ?_ | refine F2 ?_ | refine F3 (fun h => ?_) fun h => ?_) | (guard_target =~ Ar _ _ _; first | refine A1 ?_ | refine A2 ?_ | refine A3 ?_) | (guard_target =~ AskL _ _; first | refine L1 ?_) | (guard_target =~ Go.Eng.Ask _ _; first | refine K1 ?_) | (guard_target =~ All' _ _; first | (refine Y2 fun y he he' hy => ?_; (try dsimp only at he he' hy)) | (refine Y1 fun y he hy => ?_; (try with_reducible conv at he => (rhs; whnf)); (try dsimp only at he hy))) | refine F4 (fun h => ?_) fun h => ?_ | refine R1 ?_ | refine Q1 ?_ | fail)); all_goals (conv => whnf))
            refine All'.mk ?_; rintro (e' : Ev) he'
            obtain rfl : e = e' := Option.some.inj (hle.symm.trans he')
            ((repeat' ((conv => whnf) <;> first | exact True.intro | (guard_target =~ Fork _ _ _; first | refine F1 ?_ | refine F2 ?_ | refine F3 (fun h => ?_) fun h => ?_) | (guard_target =~ Ar _ _ _; first | refine A1 ?_ | refine A2 ?_ | refine A3 ?_) | (guard_target =~ AskL _ _; first | refine L1 ?_) | (guard_target =~ Go.Eng.Ask _ _; first | refine K1 ?_) | (guard_target =~ All' _ _; first | (refine Y2 fun y he he' hy => ?_; (try dsimp only at he he' hy)) | (refine Y1 fun y he hy => ?_; (try with_reducible conv at he => (rhs; whnf)); (try dsimp only at he hy)) | (refine All'.mk ?_; intro y hy)) | refine F4 (fun h => ?_) fun h => ?_ | refine R1 ?_ | refine Q1 ?_ | fail)); all_goals (conv => whnf))
            refine CallP.mk (C := rightC) e ?_
            have lm := k1
            ((repeat' ((conv => whnf) <;> first | exact True.intro | (guard_target =~ Fork _ _ _; first | refine F1 ?_ | refine F2 ?_ | refine F3 (fun h => ?_) fun h => ?_) | (guard_target =~ Ar _ _ _; first | refine A1 ?_ | refine A2 ?_ | refine A3 ?_) | (guard_target =~ AskL _ _; first | refine L1 ?_) | (guard_target =~ Go.Eng.Ask _ _; first | refine K1 ?_) | (guard_target =~ All' _ _; first | (refine Y2 fun y he he' hy => ?_; (try dsimp only at he he' hy)) | (refine Y1 fun y he hy => ?_; (try with_reducible conv at he => (rhs; whnf)); (try dsimp only at he hy)) | (refine All'.mk ?_; intro y hy)) | refine F4 (fun h => ?_) fun h => ?_ | refine R1 ?_ | refine Q1 ?_ | fail)); all_goals (conv => whnf))
            refine CallP.mk (C := scriptC) l ?_
            ((repeat' ((conv => whnf) <;> first | exact True.intro | (guard_target =~ Fork _ _ _; first | refine F1 ?_ | refine F2 ?_ | refine F3 (fun h => ?_) fun h => ?_) | (guard_target =~ Ar _ _ _; first | refine A1 ?_ | refine A2 ?_ | refine A3 ?_) | (guard_target =~ AskL _ _; first | refine L1 ?_) | (guard_target =~ Go.Eng.Ask _ _; first | refine K1 ?_) | (guard_target =~ All' _ _; first | (refine Y2 fun y he he' hy => ?_; (try dsimp only at he he' hy)) | (refine Y1 fun y he hy => ?_; (try with_reducible conv at he => (rhs; whnf)); (try dsimp only at he hy)) | (refine All'.mk ?_; intro y hy)) | refine F4 (fun h => ?_) fun h => ?_ | refine R1 ?_ | refine Q1 ?_ | fail)); all_goals (conv => whnf))
            refine Ask.mk ⟨hok, by show l.length ≤ _; omega⟩ ?_
            have k6 : ((strOfNums (scriptF l)).toList == (⟨#[]⟩ : ByteArray).toList) = true := by rw [hF]; exact beq_self_eq_true _
            have lm := k6
            ((repeat' ((conv => whnf) <;> first | exact True.intro | (guard_target =~ Fork _ _ _; first | refine F1 ?_ | refine F2 ?_ | refine F3 (fun h => ?_) fun h => ?_) | (guard_target =~ Ar _ _ _; first | refine A1 ?_ | refine A2 ?_ | refine A3 ?_) | (guard_target =~ AskL _ _; first | refine L1 ?_) | (guard_target =~ Go.Eng.Ask _ _; first | refine K1 ?_) | (guard_target =~ All' _ _; first | (refine Y2 fun y he he' hy => ?_; (try dsimp only at he he' hy)) | (refine Y1 fun y he hy => ?_; (try with_reducible conv at he => (rhs; whnf)); (try dsimp only at he hy)) | (refine All'.mk ?_; intro y hy)) | refine F4 (fun h => ?_) fun h => ?_ | refine R1 ?_ | refine Q1 ?_ | fail)); all_goals (conv => whnf))
            all_goals (refine AskL.mk ?_ trivial; exact k6)
      · obtain ⟨e, hle⟩ : ∃ e, (readE s)[j]? = some e := ⟨_, List.getElem?_eq_getElem (by omega)⟩
        have hoe := readE_ok (List.mem_of_getElem? hle)
        ((repeat' ((conv => whnf) <;> first | exact True.intro | (guard_target =~ Fork _ _ _; first | refine F1 ?_ | refine F2 ?_ | refine F3 (fun h => ?_) fun h => ?_) | (guard_target =~ Ar _ _ _; first | refine A1 ?_ | refine A2 ?_ | refine A3 ?_) | (guard_target =~ AskL _ _; first | refine L1 ?_) | (guard_target =~ Go.Eng.Ask _ _; first | refine K1 ?_) | (guard_target =~ All' _ _; first | (refine Y2 fun y he he' hy => ?_; (try dsimp only at he he' hy)) | (refine Y1 fun y he hy => ?_; (try with_reducible conv at he => (rhs; whnf)); (try dsimp only at he hy))) | refine F4 (fun h => ?_) fun h => ?_ | refine R1 ?_ | refine Q1 ?_ | fail)); all_goals (conv => whnf))
        refine All'.mk ?_; rintro (e' : Ev) he'
        obtain rfl : e = e' := Option.some.inj (hle.symm.trans he')
        ((repeat' ((conv => whnf) <;> first | exact True.intro | (guard_target =~ Fork _ _ _; first | refine F1 ?_ | refine F2 ?_ | refine F3 (fun h => ?_) fun h => ?_) | (guard_target =~ Ar _ _ _; first | refine A1 ?_ | refine A2 ?_ | refine A3 ?_) | (guard_target =~ AskL _ _; first | refine L1 ?_) | (guard_target =~ Go.Eng.Ask _ _; first | refine K1 ?_) | (guard_target =~ All' _ _; first | (refine Y2 fun y he he' hy => ?_; (try dsimp only at he he' hy)) | (refine Y1 fun y he hy => ?_; (try with_reducible conv at he => (rhs; whnf)); (try dsimp only at he hy))) | refine F4 (fun h => ?_) fun h => ?_ | refine R1 ?_ | refine Q1 ?_ | fail)); all_goals (conv => whnf))
        refine All'.mk ?_; rintro (e' : Ev) he'
        obtain rfl : e = e' := Option.some.inj (hle.symm.trans he')
        ((repeat' ((conv => whnf) <;> first | exact True.intro | (guard_target =~ Fork _ _ _; first | refine F1 ?_ | refine F2 ?_ | refine F3 (fun h => ?_) fun h => ?_) | (guard_target =~ Ar _ _ _; first | refine A1 ?_ | refine A2 ?_ | refine A3 ?_) | (guard_target =~ AskL _ _; first | refine L1 ?_) | (guard_target =~ Go.Eng.Ask _ _; first | refine K1 ?_) | (guard_target =~ All' _ _; first | (refine Y2 fun y he he' hy => ?_; (try dsimp only at he he' hy)) | (refine Y1 fun y he hy => ?_; (try with_reducible conv at he => (rhs; whnf)); (try dsimp only at he hy))) | refine F4 (fun h => ?_) fun h => ?_ | refine R1 ?_ | refine Q1 ?_ | fail)); all_goals (conv => whnf))
        refine CallP.mk (C := sameC) ⟨e, e⟩ ?_
        have k6 : sameB e e = true := sameB_true rfl
        have hrl := readE_len s
        have lm := k6
        ((repeat' ((conv => whnf) <;> first | exact True.intro | (guard_target =~ Fork _ _ _; first | refine F1 ?_ | refine F2 ?_ | refine F3 (fun h => ?_) fun h => ?_) | (guard_target =~ Ar _ _ _; first | refine A1 ?_ | refine A2 ?_ | refine A3 ?_) | (guard_target =~ AskL _ _; first | refine L1 ?_) | (guard_target =~ Go.Eng.Ask _ _; first | refine K1 ?_) | (guard_target =~ All' _ _; first | (refine Y2 fun y he he' hy => ?_; (try dsimp only at he he' hy)) | (refine Y1 fun y he hy => ?_; (try with_reducible conv at he => (rhs; whnf)); (try dsimp only at he hy)) | (refine All'.mk ?_; intro y hy)) | refine F4 (fun h => ?_) fun h => ?_ | refine R1 ?_ | refine Q1 ?_ | fail)); all_goals (conv => whnf))
        refine Some'.mk (j + 1 : Nat) ?_
        exact G1
  · obtain ⟨t, ht⟩ : ∃ t, (lnP s)[i]? = some t := ⟨_, List.getElem?_eq_getElem (by omega)⟩
    obtain ⟨hot, htl⟩ := ln_ok (List.mem_of_getElem? ht)
    have hd : (lnP s).drop i = t :: (lnP s).drop (i + 1) := by
      obtain ⟨h5, h6⟩ := List.getElem?_eq_some_iff.1 ht
      rw [List.drop_eq_getElem_cons h5, h6]
    rw [hd] at h3
    have hbt := bytes_str hot
    ((repeat' ((conv => whnf) <;> first | exact True.intro | (guard_target =~ Fork _ _ _; first | refine F1 ?_ | refine F2 ?_ | refine F3 (fun h => ?_) fun h => ?_) | (guard_target =~ Ar _ _ _; first | refine A1 ?_ | refine A2 ?_ | refine A3 ?_) | (guard_target =~ AskL _ _; first | refine L1 ?_) | (guard_target =~ Go.Eng.Ask _ _; first | refine K1 ?_) | (guard_target =~ All' _ _; first | (refine Y2 fun y he he' hy => ?_; (try dsimp only at he he' hy)) | (refine Y1 fun y he hy => ?_; (try with_reducible conv at he => (rhs; whnf)); (try dsimp only at he hy))) | refine F4 (fun h => ?_) fun h => ?_ | refine R1 ?_ | refine Q1 ?_ | fail)); all_goals (conv => whnf))
    refine All'.mk ?_; rintro (y : ByteArray) hy
    obtain rfl : strOfNums t = y := by
      have hy : ((lnP s).map strOfNums)[i]? = some y := hy
      rw [List.getElem?_map, ht] at hy
      exact Option.some.inj hy
    by_cases hsome : someB t = true
    · have h3 : (ksW (lnP s) 0).drop c = i :: ksW ((lnP s).drop (i + 1)) (i + 1) := by rw [h3, ksW, if_pos hsome]
      have hck : (ksW (lnP s) 0)[c]? = some i := by
        have := congrArg (·[0]?) h3
        simpa using this
      have hcl : c < nW s := (List.getElem?_eq_some_iff.1 hck).1
      have h3 : (ksW (lnP s) 0).drop (c + 1) = ksW ((lnP s).drop (i + 1)) (i + 1) := by
        have := congrArg (·.drop 1) h3
        simpa [List.drop_drop] using this
      have hkc : kW s c = i := by unfold kW; rw [List.getD_eq_getElem?_getD, hck]; rfl
      have htc : tW s c = t := by unfold tW; rw [hkc, List.getD_eq_getElem?_getD, ht]; rfl
      have hsb : someB (bytesL (strOfNums t)) = true := by rw [hbt]; exact hsome
      have hsn := esW_succ s c
      rw [htc] at hsn
      have hgc : gW s c = parseB (strOfNums t) := by unfold gW; rw [htc]
      have hel := esW_len s c
      have hts := str_size t
      have hgs : (parseB (strOfNums t) = true ∧ badN s (c + 1) = badN s c) ∨ (parseB (strOfNums t) = false ∧ badN s c ≠ 0 ∧ badN s (c + 1) = badN s c) ∨ (parseB (strOfNums t) = false ∧ badN s c = 0 ∧ badN s (c + 1) = ((i + 1 : Nat) : Int)) := by
        rw [← hgc]
        by_cases hg : gW s c = true
        · exact .inl ⟨hg, badN_good hg⟩
        · have hg : gW s c = false := by simpa using hg
          by_cases hb : badN s c = 0
          · exact .inr (.inr ⟨hg, hb, by rw [badN_new hb hg, hkc]⟩)
          · exact .inr (.inl ⟨hg, hb, badN_pos hb⟩)
      by_cases hck' : (c : Int) < max 0 (min m 6000)
      · have hmin : min c (max 0 (min m 6000)).toNat = c := by omega
        have hmin' : min (c + 1) (max 0 (min m 6000)).toNat = c + 1 := by omega
        have hcc : c < cntW ⟨s, max 0 (min m 6000)⟩ := by show c < min (nW s) (max 0 (min m 6000)).toNat; omega
        dsimp only [ssL0]
        rw [hmin]
        ((repeat' ((conv => whnf) <;> first | exact True.intro | (guard_target =~ Fork _ _ _; first | refine F1 ?_ | refine F2 ?_ | refine F3 (fun h => ?_) fun h => ?_) | (guard_target =~ Ar _ _ _; first | refine A1 ?_ | refine A2 ?_ | refine A3 ?_) | (guard_target =~ AskL _ _; first | refine L1 ?_) | (guard_target =~ Go.Eng.Ask _ _; first | refine K1 ?_) | (guard_target =~ All' _ _; first | (refine Y2 fun y he he' hy => ?_; (try dsimp only at he he' hy)) | (refine Y1 fun y he hy => ?_; (try with_reducible conv at he => (rhs; whnf)); (try dsimp only at he hy))) | refine F4 (fun h => ?_) fun h => ?_ | refine R1 ?_ | refine Q1 ?_ | fail)); all_goals (conv => whnf))
        refine CallP.mk (C := someC) (strOfNums t) ?_
        ((repeat' ((conv => whnf) <;> first | exact True.intro | (guard_target =~ Fork _ _ _; first | refine F1 ?_ | refine F2 ?_ | refine F3 (fun h => ?_) fun h => ?_) | (guard_target =~ Ar _ _ _; first | refine A1 ?_ | refine A2 ?_ | refine A3 ?_) | (guard_target =~ AskL _ _; first | refine L1 ?_) | (guard_target =~ Go.Eng.Ask _ _; first | refine K1 ?_) | (guard_target =~ All' _ _; first | (refine Y2 fun y he he' hy => ?_; (try dsimp only at he he' hy)) | (refine Y1 fun y he hy => ?_; (try with_reducible conv at he => (rhs; whnf)); (try dsimp only at he hy))) | refine F4 (fun h => ?_) fun h => ?_ | refine R1 ?_ | refine Q1 ?_ | fail)); all_goals (conv => whnf))
        refine All'.mk ?_; rintro (y : Int) hy
        obtain rfl : ((i + 1 : Nat) : Int) = y := by
          have hy : (isW' s (cntW ⟨s, max 0 (min m 6000)⟩))[c]? = some y := hy
          unfold isW' at hy
          rw [List.getElem?_map, List.getElem?_range hcc, Option.map_some, hkc] at hy
          exact Option.some.inj hy
        ((repeat' ((conv => whnf) <;> first | exact True.intro | (guard_target =~ Fork _ _ _; first | refine F1 ?_ | refine F2 ?_ | refine F3 (fun h => ?_) fun h => ?_) | (guard_target =~ Ar _ _ _; first | refine A1 ?_ | refine A2 ?_ | refine A3 ?_) | (guard_target =~ AskL _ _; first | refine L1 ?_) | (guard_target =~ Go.Eng.Ask _ _; first | refine K1 ?_) | (guard_target =~ All' _ _; first | (refine Y2 fun y he he' hy => ?_; (try dsimp only at he he' hy)) | (refine Y1 fun y he hy => ?_; (try with_reducible conv at he => (rhs; whnf)); (try dsimp only at he hy))) | refine F4 (fun h => ?_) fun h => ?_ | refine R1 ?_ | refine Q1 ?_ | fail)); all_goals (conv => whnf))
        refine All'.mk ?_; rintro (y : ByteArray) hy
        obtain rfl : strOfNums t = y := by
          have hy : (lsW s (cntW ⟨s, max 0 (min m 6000)⟩))[c]? = some y := hy
          unfold lsW at hy
          rw [List.getElem?_map, List.getElem?_range hcc, Option.map_some, htc] at hy
          exact Option.some.inj hy
        have k1 : ((strOfNums t).toList == (strOfNums t).toList) = true := beq_self_eq_true _
        have lm := k1
        ((repeat' ((conv => whnf) <;> first | exact True.intro | (guard_target =~ Fork _ _ _; first | refine F1 ?_ | refine F2 ?_ | refine F3 (fun h => ?_) fun h => ?_) | (guard_target =~ Ar _ _ _; first | refine A1 ?_ | refine A2 ?_ | refine A3 ?_) | (guard_target =~ AskL _ _; first | refine L1 ?_) | (guard_target =~ Go.Eng.Ask _ _; first | refine K1 ?_) | (guard_target =~ All' _ _; first | (refine Y2 fun y he he' hy => ?_; (try dsimp only at he he' hy)) | (refine Y1 fun y he hy => ?_; (try with_reducible conv at he => (rhs; whnf)); (try dsimp only at he hy)) | (refine All'.mk ?_; intro y hy)) | refine F4 (fun h => ?_) fun h => ?_ | refine R1 ?_ | refine Q1 ?_ | fail)); all_goals (conv => whnf))
        refine CallP.mk (C := parseC) (strOfNums t) ?_
        rcases hgs with ⟨k2, hbn⟩ | ⟨k2, k3, hbn⟩ | ⟨k2, k3, hbn⟩
        all_goals
          have lm := k2
          ((repeat' ((conv => whnf) <;> first | exact True.intro | (guard_target =~ Fork _ _ _; first | refine F1 ?_ | refine F2 ?_ | refine F3 (fun h => ?_) fun h => ?_) | (guard_target =~ Ar _ _ _; first | refine A1 ?_ | refine A2 ?_ | refine A3 ?_) | (guard_target =~ AskL _ _; first | refine L1 ?_) | (guard_target =~ Go.Eng.Ask _ _; first | refine K1 ?_) | (guard_target =~ All' _ _; first | (refine Y2 fun y he he' hy => ?_; (try dsimp only at he he' hy)) | (refine Y1 fun y he hy => ?_; (try with_reducible conv at he => (rhs; whnf)); (try dsimp only at he hy)) | (refine All'.mk ?_; intro y hy)) | refine F4 (fun h => ?_) fun h => ?_ | refine R1 ?_ | refine Q1 ?_ | fail)); all_goals (conv => whnf))
          refine Some'.mk ⟨i + 1, c + 1⟩ ?_
          dsimp only [ssL0]
          rw [hmin', hbn, hsn]
          ((repeat' ((conv => whnf) <;> first | exact True.intro | (guard_target =~ Fork _ _ _; first | refine F1 ?_ | refine F2 ?_ | refine F3 (fun h => ?_) fun h => ?_) | (guard_target =~ Ar _ _ _; first | refine A1 ?_ | refine A2 ?_ | refine A3 ?_) | (guard_target =~ AskL _ _; first | refine L1 ?_) | (guard_target =~ Go.Eng.Ask _ _; first | refine K1 ?_) | (guard_target =~ All' _ _; first | (refine Y2 fun y he he' hy => ?_; (try dsimp only at he he' hy)) | (refine Y1 fun y he hy => ?_; (try with_reducible conv at he => (rhs; whnf)); (try dsimp only at he hy)) | (refine All'.mk ?_; intro y hy)) | refine F4 (fun h => ?_) fun h => ?_ | refine R1 ?_ | refine Q1 ?_ | fail)); all_goals (conv => whnf))
          refine Ask.mk ⟨by show i + 1 ≤ (lnP s).length; omega, by show c + 1 ≤ nW s; omega, h3⟩ ?_
          ((repeat' ((conv => whnf) <;> first | exact True.intro | (guard_target =~ Fork _ _ _; first | refine F1 ?_ | refine F2 ?_ | refine F3 (fun h => ?_) fun h => ?_) | (guard_target =~ Ar _ _ _; first | refine A1 ?_ | refine A2 ?_ | refine A3 ?_) | (guard_target =~ AskL _ _; first | refine L1 ?_) | (guard_target =~ Go.Eng.Ask _ _; first | refine K1 ?_) | (guard_target =~ All' _ _; first | (refine Y2 fun y he he' hy => ?_; (try dsimp only at he he' hy)) | (refine Y1 fun y he hy => ?_; (try with_reducible conv at he => (rhs; whnf)); (try dsimp only at he hy)) | (refine All'.mk ?_; intro y hy)) | refine F4 (fun h => ?_) fun h => ?_ | refine R1 ?_ | refine Q1 ?_ | fail)); all_goals (conv => whnf))
      · have hmin : min c (max 0 (min m 6000)).toNat = (max 0 (min m 6000)).toNat := by omega
        have hmin' : min (c + 1) (max 0 (min m 6000)).toNat = (max 0 (min m 6000)).toNat := by omega
        dsimp only [ssL0]
        rw [hmin]
        ((repeat' ((conv => whnf) <;> first | exact True.intro | (guard_target =~ Fork _ _ _; first | refine F1 ?_ | refine F2 ?_ | refine F3 (fun h => ?_) fun h => ?_) | (guard_target =~ Ar _ _ _; first | refine A1 ?_ | refine A2 ?_ | refine A3 ?_) | (guard_target =~ AskL _ _; first | refine L1 ?_) | (guard_target =~ Go.Eng.Ask _ _; first | refine K1 ?_) | (guard_target =~ All' _ _; first | (refine Y2 fun y he he' hy => ?_; (try dsimp only at he he' hy)) | (refine Y1 fun y he hy => ?_; (try with_reducible conv at he => (rhs; whnf)); (try dsimp only at he hy))) | refine F4 (fun h => ?_) fun h => ?_ | refine R1 ?_ | refine Q1 ?_ | fail)); all_goals (conv => whnf))
        refine CallP.mk (C := someC) (strOfNums t) ?_
        ((repeat' ((conv => whnf) <;> first | exact True.intro | (guard_target =~ Fork _ _ _; first | refine F1 ?_ | refine F2 ?_ | refine F3 (fun h => ?_) fun h => ?_) | (guard_target =~ Ar _ _ _; first | refine A1 ?_ | refine A2 ?_ | refine A3 ?_) | (guard_target =~ AskL _ _; first | refine L1 ?_) | (guard_target =~ Go.Eng.Ask _ _; first | refine K1 ?_) | (guard_target =~ All' _ _; first | (refine Y2 fun y he he' hy => ?_; (try dsimp only at he he' hy)) | (refine Y1 fun y he hy => ?_; (try with_reducible conv at he => (rhs; whnf)); (try dsimp only at he hy))) | refine F4 (fun h => ?_) fun h => ?_ | refine R1 ?_ | refine Q1 ?_ | fail)); all_goals (conv => whnf))
        refine CallP.mk (C := parseC) (strOfNums t) ?_
        rcases hgs with ⟨k2, hbn⟩ | ⟨k2, k3, hbn⟩ | ⟨k2, k3, hbn⟩
        all_goals
          have lm := k2
          ((repeat' ((conv => whnf) <;> first | exact True.intro | (guard_target =~ Fork _ _ _; first | refine F1 ?_ | refine F2 ?_ | refine F3 (fun h => ?_) fun h => ?_) | (guard_target =~ Ar _ _ _; first | refine A1 ?_ | refine A2 ?_ | refine A3 ?_) | (guard_target =~ AskL _ _; first | refine L1 ?_) | (guard_target =~ Go.Eng.Ask _ _; first | refine K1 ?_) | (guard_target =~ All' _ _; first | (refine Y2 fun y he he' hy => ?_; (try dsimp only at he he' hy)) | (refine Y1 fun y he hy => ?_; (try with_reducible conv at he => (rhs; whnf)); (try dsimp only at he hy)) | (refine All'.mk ?_; intro y hy)) | refine F4 (fun h => ?_) fun h => ?_ | refine R1 ?_ | refine Q1 ?_ | fail)); all_goals (conv => whnf))
          refine Some'.mk ⟨i + 1, c + 1⟩ ?_
          dsimp only [ssL0]
          rw [hmin', hbn, hsn]
          ((repeat' ((conv => whnf) <;> first | exact True.intro | (guard_target =~ Fork _ _ _; first | refine F1 ?_ | refine F2 ?_ | refine F3 (fun h => ?_) fun h => ?_) | (guard_target =~ Ar _ _ _; first | refine A1 ?_ | refine A2 ?_ | refine A3 ?_) | (guard_target =~ AskL _ _; first | refine L1 ?_) | (guard_target =~ Go.Eng.Ask _ _; first | refine K1 ?_) | (guard_target =~ All' _ _; first | (refine Y2 fun y he he' hy => ?_; (try dsimp only at he he' hy)) | (refine Y1 fun y he hy => ?_; (try with_reducible conv at he => (rhs; whnf)); (try dsimp only at he hy)) | (refine All'.mk ?_; intro y hy)) | refine F4 (fun h => ?_) fun h => ?_ | refine R1 ?_ | refine Q1 ?_ | fail)); all_goals (conv => whnf))
          refine Ask.mk ⟨by show i + 1 ≤ (lnP s).length; omega, by show c + 1 ≤ nW s; omega, h3⟩ ?_
          ((repeat' ((conv => whnf) <;> first | exact True.intro | (guard_target =~ Fork _ _ _; first | refine F1 ?_ | refine F2 ?_ | refine F3 (fun h => ?_) fun h => ?_) | (guard_target =~ Ar _ _ _; first | refine A1 ?_ | refine A2 ?_ | refine A3 ?_) | (guard_target =~ AskL _ _; first | refine L1 ?_) | (guard_target =~ Go.Eng.Ask _ _; first | refine K1 ?_) | (guard_target =~ All' _ _; first | (refine Y2 fun y he he' hy => ?_; (try dsimp only at he he' hy)) | (refine Y1 fun y he hy => ?_; (try with_reducible conv at he => (rhs; whnf)); (try dsimp only at he hy)) | (refine All'.mk ?_; intro y hy)) | refine F4 (fun h => ?_) fun h => ?_ | refine R1 ?_ | refine Q1 ?_ | fail)); all_goals (conv => whnf))
    · have hsome : someB t = false := by simpa using hsome
      have h3 : (ksW (lnP s) 0).drop c = ksW ((lnP s).drop (i + 1)) (i + 1) := by rw [h3, ksW, if_neg (by rw [hsome]; simp)]
      have hsb : someB (bytesL (strOfNums t)) = false := by rw [hbt]; exact hsome
      ((repeat' ((conv => whnf) <;> first | exact True.intro | (guard_target =~ Fork _ _ _; first | refine F1 ?_ | refine F2 ?_ | refine F3 (fun h => ?_) fun h => ?_) | (guard_target =~ Ar _ _ _; first | refine A1 ?_ | refine A2 ?_ | refine A3 ?_) | (guard_target =~ AskL _ _; first | refine L1 ?_) | (guard_target =~ Go.Eng.Ask _ _; first | refine K1 ?_) | (guard_target =~ All' _ _; first | (refine Y2 fun y he he' hy => ?_; (try dsimp only at he he' hy)) | (refine Y1 fun y he hy => ?_; (try with_reducible conv at he => (rhs; whnf)); (try dsimp only at he hy)) | (refine All'.mk ?_; intro y hy)) | refine F4 (fun h => ?_) fun h => ?_ | refine R1 ?_ | refine Q1 ?_ | fail)); all_goals (conv => whnf))
      refine CallP.mk (C := someC) (strOfNums t) ?_
      ((repeat' ((conv => whnf) <;> first | exact True.intro | (guard_target =~ Fork _ _ _; first | refine F1 ?_ | refine F2 ?_ | refine F3 (fun h => ?_) fun h => ?_) | (guard_target =~ Ar _ _ _; first | refine A1 ?_ | refine A2 ?_ | refine A3 ?_) | (guard_target =~ AskL _ _; first | refine L1 ?_) | (guard_target =~ Go.Eng.Ask _ _; first | refine K1 ?_) | (guard_target =~ All' _ _; first | (refine Y2 fun y he he' hy => ?_; (try dsimp only at he he' hy)) | (refine Y1 fun y he hy => ?_; (try with_reducible conv at he => (rhs; whnf)); (try dsimp only at he hy)) | (refine All'.mk ?_; intro y hy)) | refine F4 (fun h => ?_) fun h => ?_ | refine R1 ?_ | refine Q1 ?_ | fail)); all_goals (conv => whnf))
      refine Some'.mk ⟨i + 1, c⟩ ?_
      ((repeat' ((conv => whnf) <;> first | exact True.intro | (guard_target =~ Fork _ _ _; first | refine F1 ?_ | refine F2 ?_ | refine F3 (fun h => ?_) fun h => ?_) | (guard_target =~ Ar _ _ _; first | refine A1 ?_ | refine A2 ?_ | refine A3 ?_) | (guard_target =~ AskL _ _; first | refine L1 ?_) | (guard_target =~ Go.Eng.Ask _ _; first | refine K1 ?_) | (guard_target =~ All' _ _; first | (refine Y2 fun y he he' hy => ?_; (try dsimp only at he he' hy)) | (refine Y1 fun y he hy => ?_; (try with_reducible conv at he => (rhs; whnf)); (try dsimp only at he hy)) | (refine All'.mk ?_; intro y hy)) | refine F4 (fun h => ?_) fun h => ?_ | refine R1 ?_ | refine Q1 ?_ | fail)); all_goals (conv => whnf))
      refine Ask.mk ⟨by show i + 1 ≤ (lnP s).length; omega, h2, h3⟩ ?_
      exact G1
end Go.Proofs.YtghejeecanohoaaDoor

/-! The engine, part W: a law's walk out of its contract. -/
set_option linter.unusedVariables false
namespace Go.Eng
open Go.RowKit (Below)

/-- All that lies in memory at the start is only read. -/
def startE (w : World) : Env := ⟨fun j => match nilB j with | true => some nilSlot | false => none, fun b => b < w.heap.size, fun _ => False⟩

theorem startE_nil (w : World) : NilOk (startE w) := fun i hi => by simp [startE, hi]

theorem law_of {C : Ctr} {P : Program} {f : FuncId} (h : C.ok P f) (x : C.X) (hs : C.side x) (hrw : C.rw x = []) (hres : C.res x (C.val x) = .v (.bool true)) {vals : Array Value} {w : World}
    (hsz : vals.size = (C.args x).length) (hg : GlobOk (startE w) w) (hv : ∀ (j : Nat) (s : SV), (C.args x)[j]? = some s → Sat (startE w) w s (vals.getD j undef)) :
    Calls P f vals w fun e w' => e = .returned (.bool true) ∧ Below w.heap.size w w' := by
  obtain ⟨_, hc⟩ := h x hs
  have hE : EntsSat (startE w) w (fun _ _ => False) (C.rw x) := by
    rw [hrw]
    exact ⟨fun id b hb => hb, fun id b hb => hb.elim, fun id b hb => hb.elim, fun id b hb => hb.elim, fun i j b _ hb => hb.elim, fun b hb => hb.elim id (fun h => h.elim), startE_nil w, hg⟩
  have hcall := hc (startE w) (fun _ _ => False) vals w hsz hv hE (fun id hne => by
    cases hz : nilB id with
    | true => exact .inr rfl
    | false => exact absurd (by simp [startE, hz]) hne)
  refine Calls.mono (callsIn_wide.1 hcall) ?_
  rintro e w' ⟨v, E', fp', rfl, hsat, _, hadv, _⟩
  rw [hres] at hsat
  cases hsat
  have hkeep := hadv.keep
  have hsame : ∀ b, b < w.heap.size → w'.heap[b]? = w.heap[b]? := fun b hb => hkeep.same b hb (fun ⟨_, h⟩ => h)
  exact ⟨rfl, ⟨hkeep.os, hkeep.tape.tape, hkeep.output, hkeep.size, hsame⟩⟩

end Go.Eng

/-! The engine, part X: what an argument reads as is a datum of the engine's; behind a law's call it reads as it did. -/
set_option linter.unusedVariables false
namespace Go.Eng

/-- The bounds that a datum out of the world keeps. -/
def okT : (t : Ty) → t.den → Prop
  | .int k, n => k.min ≤ n ∧ n ≤ k.max
  | .str, s => s.size ≤ 9223372036854775807
  | .sl t, xs => xs.length ≤ 9223372036854775807 ∧ ∀ x, x ∈ xs → okT t x
  | .pair a b, x => okT a x.1 ∧ okT b x.2
  | .arr _ t, f => ∀ i, okT t (f i)
  | _, _ => True

def fsAt (f : TypeId → Ty → Bool) : Nat → List Field → Ty → Bool
  | _, [], .unit => true
  | off, [g], T => Nat.beq g.offset off && f g.type T
  | off, g :: h :: l, .pair a b => Nat.beq g.offset off && f g.type a && fsAt f (off + a.size) (h :: l) b
  | _, _, _ => false

/-- T is the code of the program's type t. -/
def tyAt (P : Program) : Nat → TypeId → Ty → Bool
  | 0, _, _ => false
  | n + 1, t, T => Nat.beq (P.cellsOf t) T.size && (match P.underlying t with
    | some (.int k) => (match T with | .int k' => decide (k = k') | _ => false)
    | some .bool => (match T with | .bool => true | _ => false)
    | some .string => (match T with | .str => true | _ => false)
    | some (.slice e) => (match T with | .sl a => tyAt P n e a && Nat.blt 0 a.size | _ => false)
    | some (.struct fs) => fsAt (tyAt P n) 0 fs.toList T
    | some (.array len e) => (match T with | .arr m a => Nat.beq m len && tyAt P n e a | _ => false)
    | _ => false)

section
variable {H : Type} {en : TypeId × Value → H} {P : Program} {W : World} {base : Nat} {sp : Nat → Bool} {held : Bool}

theorem add_add (A : Addr) (x y : Nat) : (A.add x).add y = A.add (x + y) := by
  unfold Addr.add
  by_cases hx : x = 0 <;> by_cases hy : y = 0 <;> simp [hx, hy, Nat.add_assoc]

def Reads (W : World) (T : Ty) (cs : List Value) (off : Nat) : Prop :=
  ∃ d : T.den, okT T d ∧ ∀ (j : Nat) (sv : SV), (enc T d)[j]? = some sv → ∃ u, cs[off + j]? = some u ∧ Sat (startE W) W sv u

theorem idx_get : ∀ (n : Nat) (i : Fin n), (idx n)[i.1]? = some i
  | 0, i => i.elim0
  | n + 1, ⟨0, _⟩ => rfl
  | n + 1, ⟨i + 1, h⟩ => by
    simp only [idx, List.getElem?_cons_succ, List.getElem?_map]
    rw [idx_get n ⟨i, by omega⟩]
    rfl

theorem reads_one {T : Ty} {cs : List Value} {d : T.den} {s : SV} {v : Value} (hd : okT T d) (he : enc T d = [s]) (hc : cs = [v]) (hs : Sat (startE W) W s v) : Reads W T cs 0 := by
  refine ⟨d, hd, fun j sv hj => ?_⟩
  rw [he] at hj
  cases j with
  | zero =>
    obtain rfl : s = sv := by simpa using hj
    exact ⟨v, by simp [hc], hs⟩
  | succ j => simp at hj

theorem fields_read {n fuel : Nat} (ih : ∀ (t : TypeId) (T : Ty), tyAt P n t T = true → ∀ (cs : List Value) x, DataW.trod en P W base sp held fuel t cs = some x → Reads W T cs 0 ∧ cs.length = T.size) :
    ∀ (fs : List Field) (off : Nat) (T : Ty) (cs : List Value), fsAt (tyAt P n) off fs T = true → (∀ g, g ∈ fs → ∃ y, DataW.trod en P W base sp held fuel g.type ((cs.drop g.offset).take (P.cellsOf g.type)) = some y) → Reads W T cs off := by
  have one : ∀ (g : Field) (off : Nat) (T : Ty) (cs : List Value), g.offset = off → tyAt P n g.type T = true → (∃ y, DataW.trod en P W base sp held fuel g.type ((cs.drop g.offset).take (P.cellsOf g.type)) = some y) → Reads W T cs off := by
    rintro g off T cs rfl ht ⟨y, hy⟩
    obtain ⟨⟨d, h1, h2⟩, _⟩ := ih _ _ ht _ _ hy
    refine ⟨d, h1, fun j sv hj => ?_⟩
    obtain ⟨u, hu, hs⟩ := h2 j sv hj
    refine ⟨u, ?_, hs⟩
    rw [Nat.zero_add, List.getElem?_take] at hu
    split at hu
    · rw [List.getElem?_drop] at hu; exact hu
    · cases hu
  intro fs
  induction fs with
  | nil =>
    intro off T cs h _
    cases T <;> simp [fsAt] at h
    exact ⟨(), trivial, fun j sv hj => by simp [enc] at hj⟩
  | cons g l ihl =>
    intro off T cs h hall
    cases l with
    | nil =>
      have h' : (Nat.beq g.offset off && tyAt P n g.type T) = true := by cases T <;> exact h
      simp only [Bool.and_eq_true, Nat.beq_eq] at h'
      exact one g off T cs h'.1 h'.2 (hall g (List.mem_cons_self ..))
    | cons h2 l =>
      cases T <;> simp only [fsAt, Bool.false_eq_true] at h
      rename_i a b
      simp only [Bool.and_eq_true, Nat.beq_eq] at h
      obtain ⟨⟨h3, h4⟩, h5⟩ := h
      obtain ⟨d1, k1, k2⟩ := one g off a cs h3 h4 (hall g (List.mem_cons_self ..))
      obtain ⟨d2, k3, k4⟩ := ihl (off + a.size) b cs h5 (fun g' hg' => hall g' (List.mem_cons_of_mem _ hg'))
      refine ⟨(d1, d2), ⟨k1, k3⟩, fun j sv hj => ?_⟩
      simp only [enc] at hj
      rw [List.getElem?_append, enc_length] at hj
      split at hj
      · exact k2 j sv hj
      · obtain ⟨u, hu, hs⟩ := k4 _ sv hj
        exact ⟨u, by rw [← hu]; congr 1; omega, hs⟩

theorem reads : ∀ (n fuel : Nat) (t : TypeId) (T : Ty), tyAt P n t T = true → ∀ (cs : List Value) x, DataW.trod en P W base sp held fuel t cs = some x → Reads W T cs 0 ∧ cs.length = T.size := by
  intro n
  induction n with
  | zero => intro fuel t T h; simp [tyAt] at h
  | succ n ih =>
    intro fuel t T h cs x hx
    unfold tyAt at h
    simp only [Bool.and_eq_true, Nat.beq_eq] at h
    obtain ⟨hsz, h⟩ := h
    split at h
    · rename_i k hu
      cases T <;> simp only [Bool.false_eq_true] at h
      obtain rfl := of_decide_eq_true h
      obtain ⟨m, rfl, _, hw⟩ := DataW.trod_int hu hx
      simp only [Lit.wf, Bool.and_eq_true, decide_eq_true_eq] at hw
      exact ⟨reads_one (T := .int k) (d := m) hw rfl rfl (.v _), rfl⟩
    · rename_i hu
      cases T <;> simp only [Bool.false_eq_true] at h
      obtain ⟨b, rfl, _⟩ := DataW.trod_bool hu hx
      exact ⟨reads_one (T := .bool) (d := b) trivial rfl rfl (.v _), rfl⟩
    · rename_i hu
      cases T <;> simp only [Bool.false_eq_true] at h
      obtain ⟨s, rfl, _, hw⟩ := DataW.trod_string hu hx
      exact ⟨reads_one (T := .str) (d := s) hw rfl rfl (.v _), rfl⟩
    · rename_i e hu
      cases T <;> simp only [Bool.false_eq_true, Bool.and_eq_true] at h
      rename_i a
      obtain ⟨h1, h2⟩ := h
      have h2 : 0 < a.size := Nat.le_of_ble_eq_true h2
      have hce : P.cellsOf e = a.size := by
        cases n with
        | zero => simp [tyAt] at h1
        | succ n => unfold tyAt at h1; simp only [Bool.and_eq_true, Nat.beq_eq] at h1; exact h1.1
      rcases DataW.trod_slice hu hx with ⟨rfl, _⟩ | ⟨A, len, cap, elems, rest, m, rfl, rfl, _, hb, hle, hcap, hlen, hel, _⟩
      · exact ⟨reads_one (T := .sl a) (d := []) ⟨by simp, fun x hx => by cases hx⟩ rfl rfl (.nil _ _ _ _), rfl⟩
      · have each : ∀ i : Fin len, ∃ d : a.den, okT a d ∧ (∀ j, j < a.size → ∃ u, W.cell? (A.add (i * a.size + j)) = some u) ∧
            ∀ (j : Nat) (sv : SV), (enc a d)[j]? = some sv → ∃ u, W.cell? (A.add (i * a.size + j)) = some u ∧ Sat (startE W) W sv u := by
          intro i
          have h3 := hel i i.2
          have h4 : elems[i.1]? = some (elems[i.1]'(by omega)) := by simp
          rw [h4, Option.bind_eq_some_iff] at h3
          obtain ⟨cs, h5, h6⟩ := h3
          obtain ⟨⟨d, k1, k2⟩, k3⟩ := ih m e a h1 cs _ h6
          obtain ⟨_, g1, g2⟩ := World.cells?_some h5
          have hcell : ∀ j, j < a.size → W.cell? (A.add (i * a.size + j)) = cs[j]? := fun j hj => by
            have := g2 j (by omega)
            rw [hce] at this
            rw [← this]
            congr 1
            show A.add (i * a.size + j) = (A.add (i * a.size)).add j
            exact (add_add A _ _).symm
          refine ⟨d, k1, fun j hj => ?_, fun j sv hj => ?_⟩
          · have hj' : j < cs.length := by omega
            exact ⟨cs[j], by rw [hcell j hj]; simp [hj']⟩
          · obtain ⟨u, hu, hs⟩ := k2 j sv hj
            have hj' : j < a.size := by
              have := (List.getElem?_eq_some_iff.1 hj).1
              rw [enc_length] at this; exact this
            rw [Nat.zero_add] at hu
            exact ⟨u, by rw [hcell j hj']; exact hu, hs⟩
        let D : Fin len → a.den := fun i => Classical.choose (each i)
        have hD := fun i => Classical.choose_spec (each i)
        have hxs : (List.ofFn D).length = len := List.length_ofFn
        have hok : okT (.sl a) (List.ofFn D) := ⟨by rw [hxs]; have : maxLen = 9223372036854775807 := rfl; omega, fun x hx => by
          obtain ⟨i, rfl⟩ := List.mem_ofFn.1 hx
          exact (hD i).1⟩
        refine ⟨reads_one (T := .sl a) (d := List.ofFn D) hok rfl rfl ?_, rfl⟩
        rcases Nat.eq_zero_or_pos len with hl0 | hl0
        · have hnil : List.ofFn D = [] := List.eq_nil_of_length_eq_zero (by rw [hxs]; exact hl0)
          rw [hnil, hl0]
          exact .nil _ _ _ _
        · obtain ⟨u0, hu0⟩ := (hD ⟨0, by omega⟩).2.1 0 h2
          obtain ⟨k, o, spot⟩ := A
          have hspot : spot = none := by
            cases spot with
            | none => rfl
            | some q =>
              unfold World.cell? at hu0
              split at hu0
              · simp [Addr.add] at hu0
              · cases hu0
          subst hspot
          rw [add_none] at hu0
          have hk : k < W.heap.size := cell_lt hu0
          have := Sat.ro (E := startE W) (w := W) false a (List.ofFn D) k o cap (fun m => (W.cell? ⟨k, o + m, none⟩).getD undef) (.inl hk) (by omega) (fun m hm => ?_) (fun i x j sv hi hj => ?_)
          · rw [hxs] at this; exact this
          · rw [hxs] at hm
            have hi : m / a.size < len := (Nat.div_lt_iff_lt_mul h2).2 hm
            obtain ⟨u, hu⟩ := (hD ⟨m / a.size, hi⟩).2.1 (m % a.size) (Nat.mod_lt _ h2)
            have e1 : m / a.size * a.size + m % a.size = m := by rw [Nat.mul_comm]; exact Nat.div_add_mod m a.size
            rw [show (Addr.add ⟨k, o, none⟩ ((⟨m / a.size, hi⟩ : Fin len).1 * a.size + m % a.size)) = ⟨k, o + m, none⟩ by rw [add_none, e1]] at hu
            rw [hu]; rfl
          · obtain ⟨hi', rfl⟩ := List.getElem?_eq_some_iff.1 hi
            rw [hxs] at hi'
            rw [List.getElem_ofFn] at hj
            obtain ⟨u, hu, hs⟩ := (hD ⟨i, hi'⟩).2.2 j sv hj
            rw [add_none] at hu
            simp only [hu, Option.getD_some]; exact hs
    · rename_i fs hu
      obtain ⟨xs, m, rfl, _, hl, hlen, hf⟩ := DataW.trod_struct hu hx
      refine ⟨fields_read (ih m) fs.toList 0 T cs h (fun g hg => ?_), by omega⟩
      obtain ⟨i, hi, rfl⟩ := List.mem_iff_getElem.1 hg
      have hi' : i < fs.size := by simpa using hi
      have := hf i fs[i] (by simp [hi'])
      have h4 : xs[i]? = some (xs[i]'(by omega)) := by simp
      exact ⟨_, by rw [h4] at this; simpa using this⟩
    · rename_i len e hu
      cases T <;> simp only [Bool.false_eq_true, Bool.and_eq_true, Nat.beq_eq] at h
      rename_i m a
      obtain ⟨rfl, h1⟩ := h
      have hce : P.cellsOf e = a.size := by
        cases n with
        | zero => simp [tyAt] at h1
        | succ n => unfold tyAt at h1; simp only [Bool.and_eq_true, Nat.beq_eq] at h1; exact h1.1
      obtain ⟨xs, mf, rfl, _, hl, hlen, hf⟩ := DataW.trod_array hu hx
      refine ⟨?_, by omega⟩
      have each : ∀ i : Fin m, ∃ d : a.den, okT a d ∧ ∀ (j : Nat) (sv : SV), (enc a d)[j]? = some sv → ∃ u, cs[i * a.size + j]? = some u ∧ Sat (startE W) W sv u := by
        intro i
        have h3 := hf i i.2
        have h4 : xs[i.1]? = some (xs[i.1]'(by omega)) := by simp
        rw [h4, hce] at h3
        obtain ⟨⟨d, k1, k2⟩, _⟩ := ih mf e a h1 _ _ h3
        refine ⟨d, k1, fun j sv hj => ?_⟩
        obtain ⟨u, hu, hs⟩ := k2 j sv hj
        rw [Nat.zero_add, List.getElem?_take] at hu
        split at hu
        · rw [List.getElem?_drop] at hu; exact ⟨u, hu, hs⟩
        · cases hu
      let D : Fin m → a.den := fun i => Classical.choose (each i)
      have hD := fun i => Classical.choose_spec (each i)
      refine ⟨D, fun i => (hD i).1, fun j sv hj => ?_⟩
      rw [Nat.zero_add]
      simp only [enc] at hj
      have hsz' : ∀ i : Fin m, (enc a (D i)).length = a.size := fun i => enc_length a _
      have hjl : j < m * a.size := by
        have := (List.getElem?_eq_some_iff.1 hj).1
        rw [flatF_length _ a.size hsz', idx_length] at this
        exact this
      have hpos : 0 < a.size := by
        rcases Nat.eq_zero_or_pos a.size with h0 | h0
        · rw [h0] at hjl; simp at hjl
        · exact h0
      have hi : j / a.size < m := (Nat.div_lt_iff_lt_mul hpos).2 hjl
      have e1 : j / a.size * a.size + j % a.size = j := by rw [Nat.mul_comm]; exact Nat.div_add_mod j a.size
      have hg := flatF_get (fun i => enc a (D i)) a.size hsz' (idx m) (j / a.size) (j % a.size) ⟨j / a.size, hi⟩ (idx_get m ⟨j / a.size, hi⟩) (Nat.mod_lt _ hpos)
      rw [e1, hj] at hg
      obtain ⟨u, hu, hs⟩ := (hD ⟨j / a.size, hi⟩).2 (j % a.size) sv hg.symm
      exact ⟨u, by rw [← e1]; exact hu, hs⟩
    · cases h

/-- An argument of one cell. -/
theorem arg_one {t : TypeId} {T : Ty} {v : Value} {d : DataW H} {ps : List MemPlace} (n : Nat) (ht : tyAt P n t T = true) (h1 : ∀ x, ∃ s, enc T x = [s]) (hv : v.cells.toList = [v]) (h : DataW.Trod en P W base sp held t v d ps) :
    ∃ x : T.den, okT T x ∧ ∀ s, enc T x = [s] → Sat (startE W) W s v := by
  obtain ⟨fuel, h⟩ := h
  obtain ⟨⟨x, k1, k2⟩, _⟩ := reads n fuel t T ht _ _ h
  refine ⟨x, k1, fun s hs => ?_⟩
  obtain ⟨u, hu, hsat⟩ := k2 0 s (by rw [hs]; rfl)
  rw [hv] at hu
  obtain rfl : v = u := by simpa using hu
  exact hsat

/-- An argument that is a struct. -/
theorem arg_agg {t : TypeId} {T : Ty} {cs : Array Value} {d : DataW H} {ps : List MemPlace} (n : Nat) (ht : tyAt P n t T = true) (h : DataW.Trod en P W base sp held t (.agg cs) d ps) :
    ∃ x : T.den, okT T x ∧ Sat (startE W) W (.agg (enc T x)) (.agg cs) := by
  obtain ⟨fuel, h⟩ := h
  obtain ⟨⟨x, k1, k2⟩, hl⟩ := reads n fuel t T ht _ _ h
  have hl : cs.size = T.size := by simpa [Value.cells] using hl
  refine ⟨x, k1, .agg _ cs (fun j => cs.getD j undef) (by rw [hl, enc_length]) (fun j hj => ?_) (fun j sv hj => ?_)⟩
  · rw [enc_length] at hj
    have : j < cs.size := by omega
    simp [this]
  · obtain ⟨u, hu, hs⟩ := k2 j sv hj
    have : cs[j]? = some u := by simpa [Value.cells] using hu
    have e : cs.getD j undef = u := by simp [this]
    rw [e]; exact hs

theorem arg_slice {t e : TypeId} {a : Ty} {v : Value} {d : DataW H} {ps : List MemPlace} {r : Reach} {b0 : Nat} (n : Nat) (hu : P.underlying t = some (.slice e)) (hval : Value.okWide P W r b0 t v) (ht : tyAt P n t (.sl a) = true) (h : DataW.Trod en P W base sp held t v d ps) :
    ∃ x : List a.den, okT (.sl a) x ∧ Sat (startE W) W (.ro false a x) v := by
  obtain ⟨_, _, _, rfl⟩ := Go.WideShapes.okWide_slice hu hval
  obtain ⟨x, h1, h2⟩ := arg_one n ht (fun x => ⟨_, rfl⟩) rfl h
  exact ⟨x, h1, h2 _ rfl⟩
theorem arg_str {t : TypeId} {v : Value} {d : DataW H} {ps : List MemPlace} {r : Reach} {b0 : Nat} (n : Nat) (hu : P.underlying t = some .string) (hval : Value.okWide P W r b0 t v) (ht : tyAt P n t .str = true) (h : DataW.Trod en P W base sp held t v d ps) :
    ∃ x : ByteArray, okT .str x ∧ v = .string x := by
  obtain ⟨_, rfl⟩ := Go.WideShapes.okWide_string hu hval
  obtain ⟨x, h1, h2⟩ := arg_one n ht (fun x => ⟨_, rfl⟩) rfl h
  have := h2 _ rfl
  cases this
  exact ⟨_, h1, rfl⟩
theorem arg_bool {t : TypeId} {v : Value} {d : DataW H} {ps : List MemPlace} {r : Reach} {b0 : Nat} (hu : P.underlying t = some .bool) (hval : Value.okWide P W r b0 t v) : ∃ x : Bool, v = .bool x :=
  Go.WideShapes.okWide_bool hu hval
theorem arg_int {t : TypeId} {k : IntKind} {v : Value} {d : DataW H} {ps : List MemPlace} {r : Reach} {b0 : Nat} (hu : P.underlying t = some (.int k)) (hval : Value.okWide P W r b0 t v) (h : DataW.Trod en P W base sp held t v d ps) :
    ∃ n : Int, (k.min ≤ n ∧ n ≤ k.max) ∧ v = .int k n := by
  obtain ⟨n, rfl, _, _, hw⟩ := Go.ChangeShapes.open_int hu hval h
  simp only [Lit.wf, Bool.and_eq_true, decide_eq_true_eq] at hw
  exact ⟨n, hw, rfl⟩
theorem arg_struct {t : TypeId} {fs : Array Field} {T : Ty} {v : Value} {d : DataW H} {ps : List MemPlace} {r : Reach} {b0 : Nat} (n : Nat) (hu : P.underlying t = some (.struct fs)) (hval : Value.okWide P W r b0 t v) (ht : tyAt P n t T = true) (h : DataW.Trod en P W base sp held t v d ps) :
    ∃ x : T.den, okT T x ∧ Sat (startE W) W (.agg (enc T x)) v := by
  obtain ⟨_, rfl, _⟩ := Go.WideShapes.okWide_struct hu hval
  exact arg_agg n ht h

end
end Go.Eng

/-! What is told is read again; the function of ActsBack. -/
set_option linter.unusedVariables false
set_option linter.unusedSimpArgs false
set_option maxRecDepth 100000
set_option maxHeartbeats 4000000
namespace Go.Proofs.YtghejeecanohoaaDoor
open Go.Eng

/-- All bytes of a line stand behind the blank, or are it. -/
def ge32 (l : List Int) : Prop := ∀ c, c ∈ l → 32 ≤ c
theorem ge_app {a b : List Int} (ha : ge32 a) (hb : ge32 b) : ge32 (a ++ b) := fun c hc => (List.mem_append.1 hc).elim (ha c) (hb c)
theorem ge_dec (n : Nat) : ge32 (decL n) := fun c hc => by
  have := List.all_eq_true.1 (decL_isD n) c hc
  simp only [isD, decide_eq_true_eq] at this
  omega
theorem dig_ge {c : Int} (h : 0 ≤ c) : 32 ≤ digI c := by
  unfold digI; split <;> omega
theorem ge_hex : ∀ {l : List Int}, okB l → ge32 (hexL l)
  | [], _ => fun c hc => nomatch hc
  | c :: l, h => by
    have hc := h c (List.mem_cons_self ..)
    have h3 := ge_hex (okB_tail h)
    intro x hx
    simp only [hexL, List.mem_cons] at hx
    rcases hx with rfl | rfl | hx
    · exact dig_ge (by omega)
    · exact dig_ge (by omega)
    · exact h3 x hx
theorem ge_hexP {l : List Int} (h : okB l) : ge32 (hexP l) := by
  unfold hexP
  split
  · intro c hc; rcases List.mem_singleton.1 hc with rfl; omega
  · exact ge_hex h
theorem ge_word {e : Ev} (h : okEv e) (w : Int) : ge32 (wordL e w) := by
  unfold wordL
  repeat' split
  · exact ge_dec _
  · exact ge_dec _
  · exact ge_dec _
  · exact ge_hexP (bytesL_ok _)
  · exact ge_hexP h.2.1
  · exact ge_hexP (okB_cons h.2.2.1 (fun _ h => nomatch h))
theorem ge_from {e : Ev} (h : okEv e) : ∀ (ws s : List Int), ge32 s → ge32 (lineFrom e ws s)
  | [], _, hs => hs
  | w :: ws, s, hs => ge_from h ws (addW e s w) (ge_app hs (fun c hc => by
    rcases List.mem_cons.1 hc with rfl | hc
    · omega
    · exact ge_word h w c hc))
theorem name_ge (k : Int) : ge32 (bytesL (nameF k).1) := by
  rcases kinds k with rfl | rfl | rfl | rfl | rfl | rfl | rfl | rfl | rfl | rfl | rfl | hk
  case inr.inr.inr.inr.inr.inr.inr.inr.inr.inr.inr => rw [nameF_none hk]; exact fun c hc => nomatch hc
  all_goals (unfold ge32; decide)
theorem line_ge {e : Ev} (h : okEv e) : ge32 (lineL e) := ge_from h _ _ (name_ge _)
theorem line_no10 {e : Ev} (h : okEv e) : 10 ∉ lineL e := fun hc => by have := line_ge h 10 hc; omega
theorem from_app (e : Ev) : ∀ (ws s : List Int), ∃ r, lineFrom e ws s = s ++ r
  | [], s => ⟨[], (List.append_nil s).symm⟩
  | w :: ws, s => by
    obtain ⟨r, hr⟩ := from_app e ws (addW e s w)
    exact ⟨32 :: wordL e w ++ r, by show lineFrom e ws (addW e s w) = _; rw [hr]; simp [addW]⟩
theorem line_some {e : Ev} (h : rightP e) : someB (lineL e) = true := by
  obtain ⟨r, hr⟩ := from_app e (nameF e.1).2 (bytesL (nameF e.1).1)
  show someB (lineFrom e (nameF e.1).2 (bytesL (nameF e.1).1)) = true
  rw [hr]
  have h1 := h.1
  clear hr h
  rcases kinds e.1 with k | k | k | k | k | k | k | k | k | k | k | hk
  case inr.inr.inr.inr.inr.inr.inr.inr.inr.inr.inr => rw [nameF_none hk] at h1; exact absurd rfl h1
  all_goals (rw [k]; rfl)
theorem scr_split : ∀ (l : List Ev), l ≠ [] → (∀ e, e ∈ l → okEv e) → linesP (scrL l) = l.map lineL
  | [], h, _ => absurd rfl h
  | [e], _, ho => by
    have h1 := line_no10 (ho e (List.mem_cons_self ..))
    have : trimL (scrL [e]) = lineL e := by unfold trimL; simp [scrL]
    show splitL 10 (trimL (scrL [e])) = _
    rw [this, splitL_free h1]; rfl
  | e :: e' :: l, _, ho => by
    have h1 := line_no10 (ho e (List.mem_cons_self ..))
    have ih := scr_split (e' :: l) (by simp) (fun x hx => ho x (List.mem_cons_of_mem _ hx))
    have hne : scrL (e' :: l) ≠ [] := by simp [scrL]
    have : trimL (scrL (e :: e' :: l)) = lineL e ++ 10 :: trimL (scrL (e' :: l)) := by
      have h2 : (scrL (e :: e' :: l)).getLast? = (scrL (e' :: l)).getLast? := by
        show (lineL e ++ 10 :: scrL (e' :: l)).getLast? = _
        rw [List.getLast?_append, List.getLast?_cons_of_ne_nil hne]
        cases hh : (scrL (e' :: l)).getLast? with
        | none => exact absurd (List.getLast?_eq_none_iff.1 hh) hne
        | some c => rfl
      unfold trimL
      rw [h2]
      split
      · show (lineL e ++ 10 :: scrL (e' :: l)).dropLast = _
        rw [List.dropLast_append_of_ne_nil (by simp), List.dropLast_cons_of_ne_nil hne]
      · rfl
    show splitL 10 (trimL (scrL (e :: e' :: l))) = _
    rw [this, splitL_app _ _ h1]
    show lineL e :: linesP (scrL (e' :: l)) = _
    rw [ih]; rfl
theorem ks_all : ∀ (ls : List (List Int)) (i : Nat), (∀ t, t ∈ ls → someB t = true) → ksW ls i = (List.range' i ls.length)
  | [], _, _ => rfl
  | t :: ls, i, h => by
    unfold ksW
    rw [if_pos (h t (List.mem_cons_self ..)), ks_all ls (i + 1) (fun x hx => h x (List.mem_cons_of_mem _ hx))]
    rfl
/-- A script is read again. -/
theorem read_back {l : List Ev} (ho : ∀ e, e ∈ l → okEv e) (hr : ∀ e, e ∈ l → rightP e) (hl : l.length ≤ 1000) :
    readE (strOfNums (scriptF l)) = l ∧ readN (strOfNums (scriptF l)) = 0 ∧ readF (strOfNums (scriptF l)) = 0 := by
  have hF : scriptF l = scrL l := if_pos ⟨hl, hr⟩
  rw [hF]
  have hb := bytes_str (scrL_ok l ho)
  by_cases hne : l = []
  · subst hne
    have hln : lnP (strOfNums (scrL [])) = [[]] := by show linesP (bytesL _) = _; rw [hb]; rfl
    have hn : nW (strOfNums (scrL [])) = 0 := by show (ksW (lnP _) 0).length = 0; rw [hln]; rfl
    have hbad : badW (strOfNums (scrL [])) = none := badW_none.2 (fun j hj => by omega)
    have hl : ¬ 1000 < (lnP (strOfNums (scrL []))).length := by rw [hln]; decide
    unfold readE readN readF
    rw [if_neg hl, if_neg hl, if_neg hl, hbad, hn]
    exact ⟨rfl, rfl, rfl⟩
  · have hln : lnP (strOfNums (scrL l)) = l.map lineL := by show linesP (bytesL _) = _; rw [hb]; exact scr_split l hne ho
    have hks : ksW (lnP (strOfNums (scrL l))) 0 = List.range' 0 l.length := by
      rw [hln, ks_all _ _ (fun t ht => by obtain ⟨e, he, rfl⟩ := List.mem_map.1 ht; exact line_some (hr e he)), List.length_map]
    have hn : nW (strOfNums (scrL l)) = l.length := by show (ksW (lnP _) 0).length = _; rw [hks, List.length_range']
    have hk : ∀ j, j < l.length → kW (strOfNums (scrL l)) j = j := fun j hj => by
      unfold kW
      rw [hks, List.getD_eq_getElem?_getD, List.getElem?_range' hj]; simp
    have ht : ∀ j (hj : j < l.length), tW (strOfNums (scrL l)) j = lineL l[j] := fun j hj => by
      unfold tW
      rw [hk j hj, hln, List.getD_eq_getElem?_getD, List.getElem?_map, List.getElem?_eq_getElem hj]; rfl
    have hp : ∀ j (hj : j < l.length), parseE (strOfNums (tW (strOfNums (scrL l)) j)) = l[j] ∧ parseB (strOfNums (tW (strOfNums (scrL l)) j)) = true := fun j hj => by
      have hm := List.getElem_mem hj
      rw [ht j hj]
      exact parse_some ⟨ho _ hm, hr _ hm, (bytes_str (line_okB (ho _ hm))).symm⟩
    have hbad : badW (strOfNums (scrL l)) = none := badW_none.2 (fun j hj => (hp j (by omega)).2)
    have hl : ¬ 1000 < (lnP (strOfNums (scrL l))).length := by rw [hln, List.length_map]; omega
    unfold readE readN readF
    rw [if_neg hl, if_neg hl, if_neg hl, hbad, hn]
    refine ⟨?_, rfl, rfl⟩
    refine List.ext_getElem (by show (esW _ _).length = _; rw [esW_len]) (fun j h1 h2 => ?_)
    have e1 : (esW (strOfNums (scrL l)) l.length)[j]? = some l[j] := by
      unfold esW
      rw [List.getElem?_map, List.getElem?_range h2, Option.map_some, (hp j h2).1]
    exact Option.some.inj ((List.getElem?_eq_getElem h1).symm.trans e1)
theorem line_parse {e : Ev} (ho : okEv e) (hr : rightP e) : parseE (strOfNums (actLine e)) = e ∧ parseB (strOfNums (actLine e)) = true := by
  have : actLine e = lineL e := if_pos (rightB_true hr)
  rw [this]
  exact parse_some ⟨ho, hr, (bytes_str (line_okB ho)).symm⟩
theorem line_none {e : Ev} (hr : ¬ rightP e) : parseB (strOfNums (actLine e)) = false := by
  have : actLine e = [] := if_neg (by rw [rightB_false hr]; simp)
  rw [this]
  refine (parse_none (fun x hx => ?_)).2
  have h1 := line_some hx.2.1
  rw [hx.2.2] at h1
  cases h1

@[reducible] noncomputable def abC : Ctr := {
  X := List Ev
  Y := Unit
  args := fun l => [.ro false evT l]
  rw := fun _ => []
  side := fun l => (∀ e, e ∈ l → okEv e)
  val := fun _ => ()
  ens := fun _ _ => True
  res := fun _ _ => .v (.bool true)
  out := fun _ _ => [] }
noncomputable def rightsL (l : List Ev) : List Ev := l.filter rightB
@[reducible] noncomputable def abL0 (l : List Ev) : LA := {
  X := Nat
  pre := fun j => j ≤ l.length
  mu := fun j => l.length - j
  T := fun j => [(3, .sl 4), (18, .ro true evT l), (19, .v (.int .i64 l.length)), (20, .v (.int .i64 (j : Nat)))]
  M := fun j => [(4, .row 24 evT (rightsL (l.take j)))] }
@[reducible] noncomputable def abL2 (l : List Ev) : LA := {
  X := Nat
  pre := fun j => j ≤ (rightsL l).length
  mu := fun j => (rightsL l).length - j
  T := fun j => [(3, .sl 4), (9, .ro false evT (rightsL l)), (81, .v (.int .i64 (rightsL l).length)), (82, .v (.int .i64 (j : Nat)))]
  M := fun j => [(4, .row 24 evT (rightsL l))] }
theorem knownX3 : Known Tryd.prog (gOf [(6, firstC), (14, lineC), (9, parseC), (11, rightC), (12, sameC), (19, scriptC), (18, readC)]) :=
  known_cons ⟨first_ok, Tryd.call6⟩ (known_cons ⟨line_ok, Tryd.call14⟩ (known_cons ⟨parse_ok, Tryd.call9⟩ (known_cons ⟨right_ok, Tryd.call11⟩ (known_cons ⟨same_ok, Tryd.call12⟩ (known_cons ⟨script_ok, Tryd.call19⟩ (known_cons ⟨read_ok, Tryd.call18⟩ (known_nil _)))))))
theorem rights_snoc (l : List Ev) (e : Ev) : rightsL (l ++ [e]) = if rightB e then rightsL l ++ [e] else rightsL l := by
  unfold rightsL
  rw [List.filter_append]
  cases h : rightB e <;> simp [h]
theorem rights_len (l : List Ev) : (rightsL l).length ≤ l.length := List.length_filter_le ..
theorem ab_ok : abC.ok Tryd.prog 5 := by
  refine ok_of_vc (An := fun (l : List Ev) => anOf [(0, .loop (abL0 l)), (2, .loop (abL2 l))]) knownX3 mo Tryd.func5 (by kernel_rfl) (by kernel_rfl) (fun _ _ => trivial) (fun (l : List Ev) hs => ?_)
  have hok : ∀ e, e ∈ l → okEv e := hs
  clear hs
  ((repeat' ((conv => whnf) <;> first | exact True.intro | (guard_target =~ Fork _ _ _; first | refine F1 ?_ | refine F2 ?_ | refine F3 (fun h => ?_) fun h => ?_) | (guard_target =~ Ar _ _ _; first | refine A1 ?_ | refine A2 ?_ | refine A3 ?_) | (guard_target =~ AskL _ _; first | refine L1 ?_) | (guard_target =~ Go.Eng.Ask _ _; first | refine K1 ?_) | (guard_target =~ All' _ _; first | (refine Y2 fun y he he' hy => ?_; (try dsimp only at he he' hy)) | (refine Y1 fun y he hy => ?_; (try with_reducible conv at he => (rhs; whnf)); (try dsimp only at he hy)) | (refine All'.mk ?_; intro y hy)) | refine F4 (fun h => ?_) fun h => ?_ | refine R1 ?_ | refine Q1 ?_ | fail)); all_goals (conv => whnf))
  refine CallP.mk (C := firstC) () ?_
  ((repeat' ((conv => whnf) <;> first | exact True.intro | (guard_target =~ Fork _ _ _; first | refine F1 ?_ | refine F2 ?_ | refine F3 (fun h => ?_) fun h => ?_) | (guard_target =~ Ar _ _ _; first | refine A1 ?_ | refine A2 ?_ | refine A3 ?_) | (guard_target =~ AskL _ _; first | refine L1 ?_) | (guard_target =~ Go.Eng.Ask _ _; first | refine K1 ?_) | (guard_target =~ All' _ _; first | (refine Y2 fun y he he' hy => ?_; (try dsimp only at he he' hy)) | (refine Y1 fun y he hy => ?_; (try with_reducible conv at he => (rhs; whnf)); (try dsimp only at he hy)) | (refine All'.mk ?_; intro y hy)) | refine F4 (fun h => ?_) fun h => ?_ | refine R1 ?_ | refine Q1 ?_ | fail)); all_goals (conv => whnf))
  refine Some'.mk (0 : Nat) ?_
  have hr0 : rightsL (l.take 0) = [] := rfl
  dsimp only [abL0]
  rw [hr0]
  ((repeat' ((conv => whnf) <;> first | exact True.intro | (guard_target =~ Fork _ _ _; first | refine F1 ?_ | refine F2 ?_ | refine F3 (fun h => ?_) fun h => ?_) | (guard_target =~ Ar _ _ _; first | refine A1 ?_ | refine A2 ?_ | refine A3 ?_) | (guard_target =~ AskL _ _; first | refine L1 ?_) | (guard_target =~ Go.Eng.Ask _ _; first | refine K1 ?_) | (guard_target =~ All' _ _; first | (refine Y2 fun y he he' hy => ?_; (try dsimp only at he he' hy)) | (refine Y1 fun y he hy => ?_; (try with_reducible conv at he => (rhs; whnf)); (try dsimp only at he hy)) | (refine All'.mk ?_; intro y hy)) | refine F4 (fun h => ?_) fun h => ?_ | refine R1 ?_ | refine Q1 ?_ | fail)); all_goals (conv => whnf))
  refine AllI.mk ?_
  rintro (j : Nat) hj
  have hj : j ≤ l.length := hj
  have hl60 : l.length ≤ 60 := by omega
  by_cases hjl : j = l.length
  · subst hjl
    have htk : l.take l.length = l := List.take_length
    have hrl := rights_len l
    have hro : ∀ e, e ∈ rightsL l → okEv e := fun e he => hok e (List.mem_filter.1 he).1
    have hrr : ∀ e, e ∈ rightsL l → rightP e := fun e he => rightB_iff.1 (List.mem_filter.1 he).2
    obtain ⟨k1, k2, k3⟩ := read_back hro hrr (by omega)
    have hsl := scrL_len (rightsL l) hrr
    have hss : (strOfNums (scriptF (rightsL l))).size ≤ 100000 := by
      rw [str_size, show scriptF (rightsL l) = scrL (rightsL l) from if_pos ⟨by omega, hrr⟩]
      omega
    rw [htk]
    ((repeat' ((conv => whnf) <;> first | exact True.intro | (guard_target =~ Fork _ _ _; first | refine F1 ?_ | refine F2 ?_ | refine F3 (fun h => ?_) fun h => ?_) | (guard_target =~ Ar _ _ _; first | refine A1 ?_ | refine A2 ?_ | refine A3 ?_) | (guard_target =~ AskL _ _; first | refine L1 ?_) | (guard_target =~ Go.Eng.Ask _ _; first | refine K1 ?_) | (guard_target =~ All' _ _; first | (refine Y2 fun y he he' hy => ?_; (try dsimp only at he he' hy)) | (refine Y1 fun y he hy => ?_; (try with_reducible conv at he => (rhs; whnf)); (try dsimp only at he hy)) | (refine All'.mk ?_; intro y hy)) | refine F4 (fun h => ?_) fun h => ?_ | refine R1 ?_ | refine Q1 ?_ | fail)); all_goals (conv => whnf))
    refine CallP.mk (C := scriptC) (rightsL l) ?_
    ((repeat' ((conv => whnf) <;> first | exact True.intro | (guard_target =~ Fork _ _ _; first | refine F1 ?_ | refine F2 ?_ | refine F3 (fun h => ?_) fun h => ?_) | (guard_target =~ Ar _ _ _; first | refine A1 ?_ | refine A2 ?_ | refine A3 ?_) | (guard_target =~ AskL _ _; first | refine L1 ?_) | (guard_target =~ Go.Eng.Ask _ _; first | refine K1 ?_) | (guard_target =~ All' _ _; first | (refine Y2 fun y he he' hy => ?_; (try dsimp only at he he' hy)) | (refine Y1 fun y he hy => ?_; (try with_reducible conv at he => (rhs; whnf)); (try dsimp only at he hy)) | (refine All'.mk ?_; intro y hy)) | refine F4 (fun h => ?_) fun h => ?_ | refine R1 ?_ | refine Q1 ?_ | fail)); all_goals (conv => whnf))
    refine Ask.mk ⟨hro, by show (rightsL l).length ≤ _; omega⟩ ?_
    ((repeat' ((conv => whnf) <;> first | exact True.intro | (guard_target =~ Fork _ _ _; first | refine F1 ?_ | refine F2 ?_ | refine F3 (fun h => ?_) fun h => ?_) | (guard_target =~ Ar _ _ _; first | refine A1 ?_ | refine A2 ?_ | refine A3 ?_) | (guard_target =~ AskL _ _; first | refine L1 ?_) | (guard_target =~ Go.Eng.Ask _ _; first | refine K1 ?_) | (guard_target =~ All' _ _; first | (refine Y2 fun y he he' hy => ?_; (try dsimp only at he he' hy)) | (refine Y1 fun y he hy => ?_; (try with_reducible conv at he => (rhs; whnf)); (try dsimp only at he hy)) | (refine All'.mk ?_; intro y hy)) | refine F4 (fun h => ?_) fun h => ?_ | refine R1 ?_ | refine Q1 ?_ | fail)); all_goals (conv => whnf))
    refine CallP.mk (C := readC) (strOfNums (scriptF (rightsL l))) ?_
    have k6 : (readE (strOfNums (scriptF (rightsL l)))).length = (rightsL l).length := by rw [k1]
    have lm := And.intro k2 k3
    ((repeat' ((conv => whnf) <;> first | exact True.intro | (guard_target =~ Fork _ _ _; first | refine F1 ?_ | refine F2 ?_ | refine F3 (fun h => ?_) fun h => ?_) | (guard_target =~ Ar _ _ _; first | refine A1 ?_ | refine A2 ?_ | refine A3 ?_) | (guard_target =~ AskL _ _; first | refine L1 ?_) | (guard_target =~ Go.Eng.Ask _ _; first | refine K1 ?_) | (guard_target =~ All' _ _; first | (refine Y2 fun y he he' hy => ?_; (try dsimp only at he he' hy)) | (refine Y1 fun y he hy => ?_; (try with_reducible conv at he => (rhs; whnf)); (try dsimp only at he hy)) | (refine All'.mk ?_; intro y hy)) | refine F4 (fun h => ?_) fun h => ?_ | refine R1 ?_ | refine Q1 ?_ | fail)); all_goals (conv => whnf))
    refine Some'.mk (0 : Nat) ?_
    ((repeat' ((conv => whnf) <;> first | exact True.intro | (guard_target =~ Fork _ _ _; first | refine F1 ?_ | refine F2 ?_ | refine F3 (fun h => ?_) fun h => ?_) | (guard_target =~ Ar _ _ _; first | refine A1 ?_ | refine A2 ?_ | refine A3 ?_) | (guard_target =~ AskL _ _; first | refine L1 ?_) | (guard_target =~ Go.Eng.Ask _ _; first | refine K1 ?_) | (guard_target =~ All' _ _; first | (refine Y2 fun y he he' hy => ?_; (try dsimp only at he he' hy)) | (refine Y1 fun y he hy => ?_; (try with_reducible conv at he => (rhs; whnf)); (try dsimp only at he hy)) | (refine All'.mk ?_; intro y hy)) | refine F4 (fun h => ?_) fun h => ?_ | refine R1 ?_ | refine Q1 ?_ | fail)); all_goals (conv => whnf))
    refine AllI.mk ?_
    rintro (j : Nat) hj
    have hj : j ≤ (rightsL l).length := hj
    by_cases hjl : j = (rightsL l).length
    · subst hjl
      exact G1
    · obtain ⟨e, hle⟩ : ∃ e, (rightsL l)[j]? = some e := ⟨_, List.getElem?_eq_getElem (by omega)⟩
      have hoe := hro e (List.mem_of_getElem? hle)
      have k7 := sameB_true (rfl : e = e)
      ((repeat' ((conv => whnf) <;> first | exact True.intro | (guard_target =~ Fork _ _ _; first | refine F1 ?_ | refine F2 ?_ | refine F3 (fun h => ?_) fun h => ?_) | (guard_target =~ Ar _ _ _; first | refine A1 ?_ | refine A2 ?_ | refine A3 ?_) | (guard_target =~ AskL _ _; first | refine L1 ?_) | (guard_target =~ Go.Eng.Ask _ _; first | refine K1 ?_) | (guard_target =~ All' _ _; first | (refine Y2 fun y he he' hy => ?_; (try dsimp only at he he' hy)) | (refine Y1 fun y he hy => ?_; (try with_reducible conv at he => (rhs; whnf)); (try dsimp only at he hy))) | refine F4 (fun h => ?_) fun h => ?_ | refine R1 ?_ | refine Q1 ?_ | fail)); all_goals (conv => whnf))
      refine All'.mk ?_; rintro (e' : Ev) he'
      obtain rfl : e = e' := Option.some.inj (hle.symm.trans he')
      ((repeat' ((conv => whnf) <;> first | exact True.intro | (guard_target =~ Fork _ _ _; first | refine F1 ?_ | refine F2 ?_ | refine F3 (fun h => ?_) fun h => ?_) | (guard_target =~ Ar _ _ _; first | refine A1 ?_ | refine A2 ?_ | refine A3 ?_) | (guard_target =~ AskL _ _; first | refine L1 ?_) | (guard_target =~ Go.Eng.Ask _ _; first | refine K1 ?_) | (guard_target =~ All' _ _; first | (refine Y2 fun y he he' hy => ?_; (try dsimp only at he he' hy)) | (refine Y1 fun y he hy => ?_; (try with_reducible conv at he => (rhs; whnf)); (try dsimp only at he hy))) | refine F4 (fun h => ?_) fun h => ?_ | refine R1 ?_ | refine Q1 ?_ | fail)); all_goals (conv => whnf))
      refine All'.mk ?_; rintro (e' : Ev) he'
      obtain rfl : e = e' := Option.some.inj (hle.symm.trans he')
      ((repeat' ((conv => whnf) <;> first | exact True.intro | (guard_target =~ Fork _ _ _; first | refine F1 ?_ | refine F2 ?_ | refine F3 (fun h => ?_) fun h => ?_) | (guard_target =~ Ar _ _ _; first | refine A1 ?_ | refine A2 ?_ | refine A3 ?_) | (guard_target =~ AskL _ _; first | refine L1 ?_) | (guard_target =~ Go.Eng.Ask _ _; first | refine K1 ?_) | (guard_target =~ All' _ _; first | (refine Y2 fun y he he' hy => ?_; (try dsimp only at he he' hy)) | (refine Y1 fun y he hy => ?_; (try with_reducible conv at he => (rhs; whnf)); (try dsimp only at he hy)) | (refine All'.mk ?_; intro y hy)) | refine F4 (fun h => ?_) fun h => ?_ | refine R1 ?_ | refine Q1 ?_ | fail)); all_goals (conv => whnf))
      refine CallP.mk (C := sameC) ⟨e, e⟩ ?_
      have lm := k7
      ((repeat' ((conv => whnf) <;> first | exact True.intro | (guard_target =~ Fork _ _ _; first | refine F1 ?_ | refine F2 ?_ | refine F3 (fun h => ?_) fun h => ?_) | (guard_target =~ Ar _ _ _; first | refine A1 ?_ | refine A2 ?_ | refine A3 ?_) | (guard_target =~ AskL _ _; first | refine L1 ?_) | (guard_target =~ Go.Eng.Ask _ _; first | refine K1 ?_) | (guard_target =~ All' _ _; first | (refine Y2 fun y he he' hy => ?_; (try dsimp only at he he' hy)) | (refine Y1 fun y he hy => ?_; (try with_reducible conv at he => (rhs; whnf)); (try dsimp only at he hy)) | (refine All'.mk ?_; intro y hy)) | refine F4 (fun h => ?_) fun h => ?_ | refine R1 ?_ | refine Q1 ?_ | fail)); all_goals (conv => whnf))
      refine Some'.mk (j + 1 : Nat) ?_
      exact G1
  · obtain ⟨e, hle⟩ : ∃ e, l[j]? = some e := ⟨_, List.getElem?_eq_getElem (by omega)⟩
    have hoe := hok e (List.mem_of_getElem? hle)
    have htk := take_get hle
    have hsn := rights_snoc (l.take j) e
    rw [← htk] at hsn
    clear htk
    have hrl := rights_len (l.take j)
    have htl : (l.take j).length = j := by rw [List.length_take]; omega
    by_cases hre : rightP e
    · have k1 := rightB_true hre
      obtain ⟨k2, k3⟩ := line_parse hoe hre
      rw [k1, if_pos rfl] at hsn
      ((repeat' ((conv => whnf) <;> first | exact True.intro | (guard_target =~ Fork _ _ _; first | refine F1 ?_ | refine F2 ?_ | refine F3 (fun h => ?_) fun h => ?_) | (guard_target =~ Ar _ _ _; first | refine A1 ?_ | refine A2 ?_ | refine A3 ?_) | (guard_target =~ AskL _ _; first | refine L1 ?_) | (guard_target =~ Go.Eng.Ask _ _; first | refine K1 ?_) | (guard_target =~ All' _ _; first | (refine Y2 fun y he he' hy => ?_; (try dsimp only at he he' hy)) | (refine Y1 fun y he hy => ?_; (try with_reducible conv at he => (rhs; whnf)); (try dsimp only at he hy))) | refine F4 (fun h => ?_) fun h => ?_ | refine R1 ?_ | refine Q1 ?_ | fail)); all_goals (conv => whnf))
      refine All'.mk ?_; rintro (e' : Ev) he'
      obtain rfl : e = e' := Option.some.inj (hle.symm.trans he')
      ((repeat' ((conv => whnf) <;> first | exact True.intro | (guard_target =~ Fork _ _ _; first | refine F1 ?_ | refine F2 ?_ | refine F3 (fun h => ?_) fun h => ?_) | (guard_target =~ Ar _ _ _; first | refine A1 ?_ | refine A2 ?_ | refine A3 ?_) | (guard_target =~ AskL _ _; first | refine L1 ?_) | (guard_target =~ Go.Eng.Ask _ _; first | refine K1 ?_) | (guard_target =~ All' _ _; first | (refine Y2 fun y he he' hy => ?_; (try dsimp only at he he' hy)) | (refine Y1 fun y he hy => ?_; (try with_reducible conv at he => (rhs; whnf)); (try dsimp only at he hy)) | (refine All'.mk ?_; intro y hy)) | refine F4 (fun h => ?_) fun h => ?_ | refine R1 ?_ | refine Q1 ?_ | fail)); all_goals (conv => whnf))
      refine CallP.mk (C := lineC) e ?_
      ((repeat' ((conv => whnf) <;> first | exact True.intro | (guard_target =~ Fork _ _ _; first | refine F1 ?_ | refine F2 ?_ | refine F3 (fun h => ?_) fun h => ?_) | (guard_target =~ Ar _ _ _; first | refine A1 ?_ | refine A2 ?_ | refine A3 ?_) | (guard_target =~ AskL _ _; first | refine L1 ?_) | (guard_target =~ Go.Eng.Ask _ _; first | refine K1 ?_) | (guard_target =~ All' _ _; first | (refine Y2 fun y he he' hy => ?_; (try dsimp only at he he' hy)) | (refine Y1 fun y he hy => ?_; (try with_reducible conv at he => (rhs; whnf)); (try dsimp only at he hy)) | (refine All'.mk ?_; intro y hy)) | refine F4 (fun h => ?_) fun h => ?_ | refine R1 ?_ | refine Q1 ?_ | fail)); all_goals (conv => whnf))
      have hal : actLine e = lineL e := if_pos (rightB_true hre)
      have hll := lineL_len hre
      have hss := str_size (actLine e)
      have hsl : (actLine e).length ≤ 600 := by rw [hal]; exact hll
      refine CallP.mk (C := parseC) (strOfNums (actLine e)) ?_
      ((repeat' ((conv => whnf) <;> first | exact True.intro | (guard_target =~ Fork _ _ _; first | refine F1 ?_ | refine F2 ?_ | refine F3 (fun h => ?_) fun h => ?_) | (guard_target =~ Ar _ _ _; first | refine A1 ?_ | refine A2 ?_ | refine A3 ?_) | (guard_target =~ AskL _ _; first | refine L1 ?_) | (guard_target =~ Go.Eng.Ask _ _; first | refine K1 ?_) | (guard_target =~ All' _ _; first | (refine Y2 fun y he he' hy => ?_; (try dsimp only at he he' hy)) | (refine Y1 fun y he hy => ?_; (try with_reducible conv at he => (rhs; whnf)); (try dsimp only at he hy)) | (refine All'.mk ?_; intro y hy)) | refine F4 (fun h => ?_) fun h => ?_ | refine R1 ?_ | refine Q1 ?_ | fail)); all_goals (conv => whnf))
      refine CallP.mk (C := rightC) e ?_
      have k4 : (true == rightB e) = true := by rw [k1]; rfl
      have lm := And.intro k3 k4
      ((repeat' ((conv => whnf) <;> first | exact True.intro | (guard_target =~ Fork _ _ _; first | refine F1 ?_ | refine F2 ?_ | refine F3 (fun h => ?_) fun h => ?_) | (guard_target =~ Ar _ _ _; first | refine A1 ?_ | refine A2 ?_ | refine A3 ?_) | (guard_target =~ AskL _ _; first | refine L1 ?_) | (guard_target =~ Go.Eng.Ask _ _; first | refine K1 ?_) | (guard_target =~ All' _ _; first | (refine Y2 fun y he he' hy => ?_; (try dsimp only at he he' hy)) | (refine Y1 fun y he hy => ?_; (try with_reducible conv at he => (rhs; whnf)); (try dsimp only at he hy)) | (refine All'.mk ?_; intro y hy)) | refine F4 (fun h => ?_) fun h => ?_ | refine R1 ?_ | refine Q1 ?_ | fail)); all_goals (conv => whnf))
      refine CallP.mk (C := sameC) ⟨parseE (strOfNums (actLine e)), e⟩ ?_
      have k5 := sameB_true k2
      ((repeat' ((conv => whnf) <;> first | exact True.intro | (guard_target =~ Fork _ _ _; first | refine F1 ?_ | refine F2 ?_ | refine F3 (fun h => ?_) fun h => ?_) | (guard_target =~ Ar _ _ _; first | refine A1 ?_ | refine A2 ?_ | refine A3 ?_) | (guard_target =~ AskL _ _; first | refine L1 ?_) | (guard_target =~ Go.Eng.Ask _ _; first | refine K1 ?_) | (guard_target =~ All' _ _; first | (refine Y2 fun y he he' hy => ?_; (try dsimp only at he he' hy)) | (refine Y1 fun y he hy => ?_; (try with_reducible conv at he => (rhs; whnf)); (try dsimp only at he hy)) | (refine All'.mk ?_; intro y hy)) | refine F4 (fun h => ?_) fun h => ?_ | refine R1 ?_ | refine Q1 ?_ | fail)); all_goals (conv => whnf))
      refine Ask.mk ⟨parse_okE _, hoe⟩ ?_
      have lm := And.intro k3 (And.intro k4 k5)
      ((repeat' ((conv => whnf) <;> first | exact True.intro | (guard_target =~ Fork _ _ _; first | refine F1 ?_ | refine F2 ?_ | refine F3 (fun h => ?_) fun h => ?_) | (guard_target =~ Ar _ _ _; first | refine A1 ?_ | refine A2 ?_ | refine A3 ?_) | (guard_target =~ AskL _ _; first | refine L1 ?_) | (guard_target =~ Go.Eng.Ask _ _; first | refine K1 ?_) | (guard_target =~ All' _ _; first | (refine Y2 fun y he he' hy => ?_; (try dsimp only at he he' hy)) | (refine Y1 fun y he hy => ?_; (try with_reducible conv at he => (rhs; whnf)); (try dsimp only at he hy)) | (refine All'.mk ?_; intro y hy)) | refine F4 (fun h => ?_) fun h => ?_ | refine R1 ?_ | refine Q1 ?_ | fail)); all_goals (conv => whnf))
      refine Some'.mk (j + 1 : Nat) ?_
      exact G1
    · have k1 := rightB_false hre
      have k2 := line_none hre
      rw [k1, if_neg (by simp)] at hsn
      ((repeat' ((conv => whnf) <;> first | exact True.intro | (guard_target =~ Fork _ _ _; first | refine F1 ?_ | refine F2 ?_ | refine F3 (fun h => ?_) fun h => ?_) | (guard_target =~ Ar _ _ _; first | refine A1 ?_ | refine A2 ?_ | refine A3 ?_) | (guard_target =~ AskL _ _; first | refine L1 ?_) | (guard_target =~ Go.Eng.Ask _ _; first | refine K1 ?_) | (guard_target =~ All' _ _; first | (refine Y2 fun y he he' hy => ?_; (try dsimp only at he he' hy)) | (refine Y1 fun y he hy => ?_; (try with_reducible conv at he => (rhs; whnf)); (try dsimp only at he hy))) | refine F4 (fun h => ?_) fun h => ?_ | refine R1 ?_ | refine Q1 ?_ | fail)); all_goals (conv => whnf))
      refine All'.mk ?_; rintro (e' : Ev) he'
      obtain rfl : e = e' := Option.some.inj (hle.symm.trans he')
      ((repeat' ((conv => whnf) <;> first | exact True.intro | (guard_target =~ Fork _ _ _; first | refine F1 ?_ | refine F2 ?_ | refine F3 (fun h => ?_) fun h => ?_) | (guard_target =~ Ar _ _ _; first | refine A1 ?_ | refine A2 ?_ | refine A3 ?_) | (guard_target =~ AskL _ _; first | refine L1 ?_) | (guard_target =~ Go.Eng.Ask _ _; first | refine K1 ?_) | (guard_target =~ All' _ _; first | (refine Y2 fun y he he' hy => ?_; (try dsimp only at he he' hy)) | (refine Y1 fun y he hy => ?_; (try with_reducible conv at he => (rhs; whnf)); (try dsimp only at he hy)) | (refine All'.mk ?_; intro y hy)) | refine F4 (fun h => ?_) fun h => ?_ | refine R1 ?_ | refine Q1 ?_ | fail)); all_goals (conv => whnf))
      refine CallP.mk (C := lineC) e ?_
      ((repeat' ((conv => whnf) <;> first | exact True.intro | (guard_target =~ Fork _ _ _; first | refine F1 ?_ | refine F2 ?_ | refine F3 (fun h => ?_) fun h => ?_) | (guard_target =~ Ar _ _ _; first | refine A1 ?_ | refine A2 ?_ | refine A3 ?_) | (guard_target =~ AskL _ _; first | refine L1 ?_) | (guard_target =~ Go.Eng.Ask _ _; first | refine K1 ?_) | (guard_target =~ All' _ _; first | (refine Y2 fun y he he' hy => ?_; (try dsimp only at he he' hy)) | (refine Y1 fun y he hy => ?_; (try with_reducible conv at he => (rhs; whnf)); (try dsimp only at he hy)) | (refine All'.mk ?_; intro y hy)) | refine F4 (fun h => ?_) fun h => ?_ | refine R1 ?_ | refine Q1 ?_ | fail)); all_goals (conv => whnf))
      have hal : actLine e = [] := if_neg (by rw [k1]; simp)
      have hss := str_size (actLine e)
      have hsl : (actLine e).length = 0 := by rw [hal]; rfl
      refine CallP.mk (C := parseC) (strOfNums (actLine e)) ?_
      ((repeat' ((conv => whnf) <;> first | exact True.intro | (guard_target =~ Fork _ _ _; first | refine F1 ?_ | refine F2 ?_ | refine F3 (fun h => ?_) fun h => ?_) | (guard_target =~ Ar _ _ _; first | refine A1 ?_ | refine A2 ?_ | refine A3 ?_) | (guard_target =~ AskL _ _; first | refine L1 ?_) | (guard_target =~ Go.Eng.Ask _ _; first | refine K1 ?_) | (guard_target =~ All' _ _; first | (refine Y2 fun y he he' hy => ?_; (try dsimp only at he he' hy)) | (refine Y1 fun y he hy => ?_; (try with_reducible conv at he => (rhs; whnf)); (try dsimp only at he hy)) | (refine All'.mk ?_; intro y hy)) | refine F4 (fun h => ?_) fun h => ?_ | refine R1 ?_ | refine Q1 ?_ | fail)); all_goals (conv => whnf))
      refine CallP.mk (C := rightC) e ?_
      have k4 : (false == rightB e) = true := by rw [k1]; rfl
      have lm := And.intro k2 k4
      ((repeat' ((conv => whnf) <;> first | exact True.intro | (guard_target =~ Fork _ _ _; first | refine F1 ?_ | refine F2 ?_ | refine F3 (fun h => ?_) fun h => ?_) | (guard_target =~ Ar _ _ _; first | refine A1 ?_ | refine A2 ?_ | refine A3 ?_) | (guard_target =~ AskL _ _; first | refine L1 ?_) | (guard_target =~ Go.Eng.Ask _ _; first | refine K1 ?_) | (guard_target =~ All' _ _; first | (refine Y2 fun y he he' hy => ?_; (try dsimp only at he he' hy)) | (refine Y1 fun y he hy => ?_; (try with_reducible conv at he => (rhs; whnf)); (try dsimp only at he hy)) | (refine All'.mk ?_; intro y hy)) | refine F4 (fun h => ?_) fun h => ?_ | refine R1 ?_ | refine Q1 ?_ | fail)); all_goals (conv => whnf))
      refine Some'.mk (j + 1 : Nat) ?_
      exact G1

/-- An event out of the world keeps the bounds. -/
theorem okEv_T {e : Ev} (h : okT evT e) : okEv e := by
  obtain ⟨h1, _, _, _, h5, ⟨h6, h7⟩, h8⟩ := h
  have e1 : IntKind.i64.min = -9223372036854775808 := by decide
  have e2 : IntKind.i64.max = 9223372036854775807 := by decide
  have e3 : IntKind.u8.min = 0 := by decide
  have e4 : IntKind.u8.max = 255 := by decide
  have k1 : IntKind.i64.min ≤ e.1 ∧ e.1 ≤ IntKind.i64.max := h1
  have k8 : IntKind.u8.min ≤ e.2.2.2.2.2.2 ∧ e.2.2.2.2.2.2 ≤ IntKind.u8.max := h8
  rw [e1, e2] at k1
  rw [e3, e4] at k8
  refine ⟨k1, fun c hc => ?_, by omega, h6, h5⟩
  have k7 : IntKind.u8.min ≤ c ∧ c ≤ IntKind.u8.max := h7 c hc
  rw [e3, e4] at k7
  omega
end Go.Proofs.YtghejeecanohoaaDoor

/-! The engine, part Y: what a row's list of package-level variables gives. -/
set_option linter.unusedVariables false
namespace Go.Eng

theorem laid_mem {P : Program} {W : World} {name : String} {d : DataW Unit} : ∀ {l : List (String × DataW Unit)} {ps : List MemPlace}, DataW.LaidVars P W l ps → (name, d) ∈ l →
    ∃ g t cs fuel p, P.globalNamed name = some g ∧ (P.globals[g]?).map (·.type) = some t ∧ W.var? P name = some cs ∧ DataW.trod (fun _ => ()) P W 0 (fun _ => true) false fuel t cs.toList = some (d, p)
  | [], _, _, h => by cases h
  | (n, e) :: l, ps, hl, h => by
    obtain ⟨g, t, cs, fuel, p, q, h1, h2, h3, h4, h5, _⟩ := hl
    rcases List.mem_cons.1 h with heq | h
    · obtain ⟨rfl, rfl⟩ := Prod.mk.inj heq
      exact ⟨g, t, cs, fuel, p, h1, h2, h3, h4⟩
    · exact laid_mem h5 h

theorem var_block {P : Program} {W : World} {name : String} {g : Nat} {cs : Array Value} (hg : P.globalNamed name = some g) (h : W.var? P name = some cs) :
    g < W.heap.size ∧ ∃ t fz, W.heap[g]? = some (.cells cs t fz) := by
  unfold World.var? at h
  rw [hg] at h
  simp only [Option.bind_some] at h
  split at h
  · rename_i cs' t fz hh
    obtain rfl := Option.some.inj h
    exact ⟨(Array.getElem?_eq_some_iff.1 hh).1, t, fz, hh⟩
  · cases h

/-- A table of numbers on the list. -/
theorem laid_tab {P : Program} {W : World} {l : List (String × DataW Unit)} {name : String} {k : IntKind} {zs : List Int} {g : Nat} {t e : TypeId} {n : Nat} {d : DataW Unit}
    (hp : (l.filter fun x => x.2.handleName?.isSome) = []) (hd : d = Go.Lib.tabData k zs)
    (hm : (name, d) ∈ l) (hg : P.globalNamed name = some g) (hty : (P.globals[g]?).map (·.type) = some t) (ht : P.underlying t = some (.array n e)) (he : P.underlying e = some (.int k)) (hce : P.cellsOf e = 1) (hct : P.cellsOf t = n)
    (h : laidMetH P l W) : (startE W).I g ∧ ∃ (a : Array Value) (t : TypeId) (fz : Nat × Nat), W.heap[g]? = some (.cells a t fz) ∧ a = (zs.map fun z => Value.int k z).toArray := by
  have h : laidMet P l W := by
    unfold laidMetH at h
    rw [hp] at h
    exact h
  obtain ⟨ps, hl, _⟩ := h
  obtain ⟨g', t', cs, fuel, p, hg', ht', hv, htr⟩ := laid_mem hl hm
  subst hd
  obtain rfl := Option.some.inj (hg.symm.trans hg')
  obtain rfl := Option.some.inj (hty.symm.trans ht')
  obtain ⟨h1, t2, fz, h2⟩ := var_block hg hv
  exact ⟨h1, cs, t2, fz, h2, by rw [← Go.Lib.cells_of_tab ht he hce hct htr]⟩

/-- A variable of an interface's type on the list. -/
theorem laid_iface {P : Program} {W : World} {l : List (String × DataW Unit)} {name nm : String} {g : Nat} {t : TypeId} {ms : Array (String × TypeId)} {d : DataW Unit}
    (hp : (l.filter fun x => x.2.handleName?.isSome) = []) (hm : (name, .iface nm d) ∈ l) (hg : P.globalNamed name = some g) (hty : (P.globals[g]?).map (·.type) = some t) (ht : P.underlying t = some (.interface ms))
    (h : laidMetH P l W) : (startE W).I g ∧ ∃ (a : Array Value) (t : TypeId) (fz : Nat × Nat), W.heap[g]? = some (.cells a t fz) ∧ ∃ te pe, a = #[.iface te pe] := by
  have h : laidMet P l W := by
    unfold laidMetH at h
    rw [hp] at h
    exact h
  obtain ⟨ps, hl, _⟩ := h
  obtain ⟨g', t', cs, fuel, p, hg', ht', hv, htr⟩ := laid_mem hl hm
  obtain rfl := Option.some.inj (hg.symm.trans hg')
  obtain rfl := Option.some.inj (hty.symm.trans ht')
  obtain ⟨h1, t2, fz, h2⟩ := var_block hg hv
  refine ⟨h1, cs, t2, fz, h2, ?_⟩
  obtain ⟨lc⟩ := cs
  cases fuel with
  | zero => simp [DataW.trod] at htr
  | succ fuel =>
    unfold DataW.trod at htr
    simp only [ht] at htr
    split at htr
    all_goals first
      | (cases htr; done)
      | (exact ⟨_, _, rfl⟩)
      | simp_all

/-- A variable that is some integer. -/
theorem shaped_int {P : Program} {W : World} {g : Nat} {t : TypeId} {zero : Array Value} {k : IntKind} (h : W.ShapedOpen P) (hg : g < P.globals.size)
    (h0 : ((begin P (fun _ _ => 0) default).world.heap[g]?).bind Obj.row? = some (zero, t)) (hz : zero.size = 1) (hb : P.buildable t = true) (hc : P.cellTypes P.depth t = some [t]) (hu : P.underlying t = some (.int k)) :
    (startE W).I g ∧ ∃ (a : Array Value) (t : TypeId) (fz : Nat × Nat), W.heap[g]? = some (.cells a t fz) ∧ ∃ m, a = #[.int k m] := by
  obtain ⟨cs, hh, hs, hr⟩ := h.1 g zero t hg h0
  obtain ⟨ts, hts, _, hall⟩ := hr hb
  rw [hc] at hts
  cases hts
  have h1 : 0 < cs.size := by omega
  obtain ⟨u, hu', hok⟩ := hall 0 cs[0] (by simp [h1])
  have : u = t := by simpa using hu'.symm
  subst this
  refine ⟨(Array.getElem?_eq_some_iff.1 hh).1, cs, _, _, hh, ?_⟩
  unfold Cell.ok at hok
  rw [hu] at hok
  cases hv : cs[0] <;> rw [hv] at hok <;> simp at hok
  case int k' n =>
    refine ⟨n, Array.ext (by simp; omega) (fun i hi hi' => ?_)⟩
    obtain rfl : i = 0 := by simp at hi'; exact hi'
    rw [hv, hok.1]; rfl

/-- The row's frame, with a list of variables and the form of the world. -/
theorem handed_both {H : Type} {enc : TypeId × Value → H} {a : Assume} {C : Checked} {os : Os} {f : FuncId} {fn : Func} {s : ChangeSpec} {conds : List PathCond} {apart fresh handsOn again : Bool} {X : World → Array Value → Prop}
    (hX : ∀ (w w' : World) (args : Array Value), w.heap = w'.heap → X w args → X w' args)
    (own : ownKnob C.prog.godebug = none) (started : os.Started) (noInit : C.prog.inits.idxOf? f = none) (hfn : C.prog.funcs[f]? = some fn)
    (witness : ∃ (w : World) (tape : Tape) (i : Input), w.os = os ∧ (w.forCall tape i).Shaped C.prog ∧ i.vars = [] ∧ Input.okWide C.prog (w.forCall tape i) .any w.heap.size f i ∧
      ((s.pre enc C.prog fn conds apart (w.forCall tape i).memory i.args ∧ X (w.forCall tape i).memory i.args) ∧ sizedMet enc C.prog fn (OpenSpec.ofChange s) apart (w.forCall tape i).memory i.args) ∧ a.holds C.prog (lone (Frame.enter C.prog f i.args .normal) [] (w.forCall tape i)))
    (contract : ∀ (W : World) (base : Nat) (args : Array Value) (ds gs : List (DataW H)) (before : List MemPlace),
      (∀ (j : Nat) t v, fn.params[j]? = some t → args[j]? = some v → Value.okWide C.prog W .any base t v) →
      DataW.Whole enc C.prog fn.params.toList s.vars apart W args.toList ds gs before → X W args → W.ShapedOpen C.prog →
      Calls C.prog f args W fun e W' => ∃ v, e = .returned v ∧ s.post enc C.prog fn apart fresh handsOn again W args v W') :
    ReturnsInHanded a C os f .any (fun w args => (s.pre enc C.prog fn conds apart w args ∧ X w args) ∧ sizedMet enc C.prog fn (OpenSpec.ofChange s) apart w args) (s.post enc C.prog fn apart fresh handsOn again) := by
  refine returnsInHanded_of_calls own started noInit witness ?_
  intro w tape i _ hsh _ hok hpre _
  obtain ⟨_, _, _, fn', hfn', _, _, _, _, hval⟩ := hok
  have e : fn' = fn := Option.some.inj (hfn'.symm.trans hfn)
  subst e
  obtain ⟨⟨⟨ds, gs, before, hw, _⟩, hx⟩, _⟩ := hpre
  refine (contract (w.forCall tape i) w.heap.size i.args ds gs before hval (DataW.Whole.of_heap (w' := w.forCall tape i) (by rfl) hw) (hX _ _ _ (by rfl) hx) hsh).mono fun e W' ⟨v, he, hp⟩ => ?_
  subst he
  exact ChangeSpec.post_blind hp

end Go.Eng
