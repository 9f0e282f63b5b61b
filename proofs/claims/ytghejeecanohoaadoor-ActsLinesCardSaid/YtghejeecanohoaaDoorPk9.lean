/- Parts of the proof, one behind the other (ActP, ActQ). -/
import Derived.Test.YtghejeecanohoaaDoorPk8
/-! Events: a line parsed, by the reference. -/
set_option linter.unusedVariables false
set_option linter.unusedSimpArgs false
set_option maxRecDepth 100000
set_option maxHeartbeats 4000000
namespace Go.Proofs.YtghejeecanohoaaDoor
open Go.Eng

@[reducible] def numberC2 : Ctr := {
  X := ByteArray
  Y := Int × Bool
  args := fun s => [.v (.string s)]
  rw := fun _ => []
  side := fun s => s.size ≤ 100000000000
  val := fun s => (if numOk (bytesL s) then numV (bytesL s) else 0, numOk (bytesL s))
  ens := fun _ _ => True
  res := fun s y => .tuple [.v (.int .i64 y.1), .v (.bool y.2)]
  out := fun _ _ => [] }
theorem number2_ok : numberC2.ok Tryd.prog 30 := number_ok
@[reducible] def rUnhexC2 : Ctr := {
  X := ByteArray
  Y := ByteArray × Bool
  args := fun x => [.v (.string x)]
  rw := fun _ => []
  side := fun x => x.size ≤ 100000000000
  val := fun x => (if unhexOk (bytesL x) then strOfNums (unhexL (bytesL x)) else ⟨#[]⟩, unhexOk (bytesL x))
  ens := fun _ _ => True
  res := fun x y => .tuple [.v (.string y.1), .v (.bool y.2)]
  out := fun _ _ => [] }
theorem rUnhex2_ok : rUnhexC2.ok Tryd.prog 31 := rUnhex_ok
theorem byteAt_head {l : List Int} (h : okB l) (hl : l.length = 1) : byteAt (strOfNums l) 0 = l.headD 0 := by
  obtain ⟨x, rfl⟩ := List.length_eq_one_iff.1 hl
  have h1 := byteAt_some (s := strOfNums [x]) (i := 0) (by rw [str_size]; exact Nat.one_pos)
  rw [bytes_str h] at h1
  exact (Option.some.inj h1).symm
theorem stepR_set {w : Int} (h : w ≠ 5) (p : Ev × Bool) (t : List Int) : stepR p w t = (setW (srcR t) p.1 w, p.2 && okR w t) := by
  unfold stepR; rw [if_neg (fun hh => h hh.1)]
theorem stepR_yes {p : Ev × Bool} {t : List Int} (h : (p.2 && okR 5 t) = true) : stepR p 5 t = (setW (srcR t) p.1 5, true) := by
  unfold stepR; rw [h, if_neg (fun hh => by cases hh.2)]
theorem stepR_no {p : Ev × Bool} {t : List Int} (h : (p.2 && okR 5 t) = false) : stepR p 5 t = (p.1, false) := by
  unfold stepR; rw [h, if_pos ⟨rfl, rfl⟩]
theorem okR_num {w : Int} (h : w = 0 ∨ w = 1 ∨ w = 2) (t : List Int) : okR w t = numOk t := by unfold okR; rw [if_pos h]
theorem okR_hex {w : Int} (h : w = 3 ∨ w = 4) (t : List Int) : okR w t = hexOkR t := by unfold okR; rw [if_neg (by omega), if_pos h]
theorem okR_x (t : List Int) : okR 5 t = (hexOkR t && decide ((hexR t).length = 1)) := rfl
theorem knownP : Known Tryd.prog (gOf [(20, formC), (7, rightC), (29, rSplitC), (30, numberC2), (31, rUnhexC2)]) :=
  known_cons ⟨form_ok, Tryd.call20⟩ (known_cons ⟨rRight_ok, Tryd.call7⟩ (known_cons ⟨rSplit_ok, Tryd.call29⟩ (known_cons ⟨number2_ok, Tryd.call30⟩ (known_cons ⟨rUnhex2_ok, Tryd.call31⟩ (known_nil _)))))
@[reducible] def rParL0 (s : ByteArray) : LA := {
  X := Nat
  pre := fun j => j ≤ 11 ∧ ∀ e, isLine (bytesL s) e → (j : Int) ≤ e.1
  mu := fun j => 11 - j
  T := fun j => [(2, .ptr 2 0), (4, .ro false .str ((wsP s).map strOfNums)), (5, .v (.int .i64 (j : Nat)))]
  M := fun j => [(2, .cells 24 (evS false (evZ 0)))] }
@[reducible] def rParL1 (s : ByteArray) (j : Nat) : LA := {
  X := Nat
  pre := fun i => i ≤ (nameF (j : Nat)).2.length
  mu := fun i => (nameF (j : Nat)).2.length - i
  T := fun i => [(2, .ptr 2 0), (4, .ro false .str ((wsP s).map strOfNums)), (5, .v (.int .i64 (j : Nat))), (7, .v (.string (formF (nameF (j : Nat)).2))), (8, .ptr 3 0), (9, .v (.bool (foldR ((zipP s j).take i) (evZ (j : Nat), true)).2)), (43, .ptr 4 0)]
  M := fun i => [(2, .cells 24 (evS false (evZ 0))), (3, .cells 24 (evS false (foldR ((zipP s j).take i) (evZ (j : Nat), true)).1)), (4, .siter (formF (nameF (j : Nat)).2) i)] }
theorem rParse_ok : parseC.ok Tryd.prog 10 := by
  refine ok_of_vc (An := fun (s : ByteArray) => anOfM fun ms => [(0, .loop (rParL0 s)), (2, .loop (rParL1 s (11 - ms.headD 0)))])
    knownP mo Tryd.func10 (by kernel_rfl) (by kernel_rfl) (fun _ _ => trivial) (fun (s : ByteArray) hs => ?_)
  have hs : s.size ≤ 100000 := hs
  have hsl := splitL_le 32 (bytesL s)
  rw [bytesL_length] at hsl
  ((repeat' ((conv => whnf) <;> first | exact True.intro | (guard_target =~ Fork _ _ _; first | refine F1 ?_ | refine F2 ?_ | refine F3 (fun h => ?_) fun h => ?_) | (guard_target =~ Ar _ _ _; first | refine A1 ?_ | refine A2 ?_ | refine A3 ?_) | (guard_target =~ AskL _ _; first | refine L1 ?_) | (guard_target =~ Go.Eng.Ask _ _; first | refine K1 ?_) | (guard_target =~ All' _ _; first | (refine Y2 fun y he he' hy => ?_; (try dsimp only at he he' hy)) | (refine Y1 fun y he hy => ?_; (try with_reducible conv at he => (rhs; whnf)); (try dsimp only at he hy)) | (refine All'.mk ?_; intro y hy)) | refine F4 (fun h => ?_) fun h => ?_ | refine R1 ?_ | refine Q1 ?_ | fail)); all_goals (conv => whnf))
  refine CallP.mk (C := rSplitC) ⟨s, 32⟩ ?_
  ((repeat' ((conv => whnf) <;> first | exact True.intro | (guard_target =~ Fork _ _ _; first | refine F1 ?_ | refine F2 ?_ | refine F3 (fun h => ?_) fun h => ?_) | (guard_target =~ Ar _ _ _; first | refine A1 ?_ | refine A2 ?_ | refine A3 ?_) | (guard_target =~ AskL _ _; first | refine L1 ?_) | (guard_target =~ Go.Eng.Ask _ _; first | refine K1 ?_) | (guard_target =~ All' _ _; first | (refine Y2 fun y he he' hy => ?_; (try dsimp only at he he' hy)) | (refine Y1 fun y he hy => ?_; (try with_reducible conv at he => (rhs; whnf)); (try dsimp only at he hy)) | (refine All'.mk ?_; intro y hy)) | refine F4 (fun h => ?_) fun h => ?_ | refine R1 ?_ | refine Q1 ?_ | fail)); all_goals (conv => whnf))
  refine Some'.mk (0 : Nat) ?_
  ((repeat' ((conv => whnf) <;> first | exact True.intro | (guard_target =~ Fork _ _ _; first | refine F1 ?_ | refine F2 ?_ | refine F3 (fun h => ?_) fun h => ?_) | (guard_target =~ Ar _ _ _; first | refine A1 ?_ | refine A2 ?_ | refine A3 ?_) | (guard_target =~ AskL _ _; first | refine L1 ?_) | (guard_target =~ Go.Eng.Ask _ _; first | refine K1 ?_) | (guard_target =~ All' _ _; first | (refine Y2 fun y he he' hy => ?_; (try dsimp only at he he' hy)) | (refine Y1 fun y he hy => ?_; (try with_reducible conv at he => (rhs; whnf)); (try dsimp only at he hy)) | (refine All'.mk ?_; intro y hy)) | refine F4 (fun h => ?_) fun h => ?_ | refine R1 ?_ | refine Q1 ?_ | fail)); all_goals (conv => whnf))
  refine Ask.mk ⟨by omega, fun e he => (line_kind he).1⟩ ?_
  ((repeat' ((conv => whnf) <;> first | exact True.intro | (guard_target =~ Fork _ _ _; first | refine F1 ?_ | refine F2 ?_ | refine F3 (fun h => ?_) fun h => ?_) | (guard_target =~ Ar _ _ _; first | refine A1 ?_ | refine A2 ?_ | refine A3 ?_) | (guard_target =~ AskL _ _; first | refine L1 ?_) | (guard_target =~ Go.Eng.Ask _ _; first | refine K1 ?_) | (guard_target =~ All' _ _; first | (refine Y2 fun y he he' hy => ?_; (try dsimp only at he he' hy)) | (refine Y1 fun y he hy => ?_; (try with_reducible conv at he => (rhs; whnf)); (try dsimp only at he hy)) | (refine All'.mk ?_; intro y hy)) | refine F4 (fun h => ?_) fun h => ?_ | refine R1 ?_ | refine Q1 ?_ | fail)); all_goals (conv => whnf))
  refine AllI.mk ?_
  rintro (j : Nat) ⟨hj, hno⟩
  have hj : j ≤ 11 := hj
  have hno : ∀ e, isLine (bytesL s) e → (j : Int) ≤ e.1 := hno
  by_cases h11 : j = 11
  · subst h11
    obtain ⟨p1, p2⟩ := parse_none (s := s) (fun e he => by
      have h1 := hno e he
      have h2 := (line_kind he).2
      omega)
    ((repeat' ((conv => whnf) <;> first | exact True.intro | (guard_target =~ Fork _ _ _; first | refine F1 ?_ | refine F2 ?_ | refine F3 (fun h => ?_) fun h => ?_) | (guard_target =~ Ar _ _ _; first | refine A1 ?_ | refine A2 ?_ | refine A3 ?_) | (guard_target =~ AskL _ _; first | refine L1 ?_) | (guard_target =~ Go.Eng.Ask _ _; first | refine K1 ?_) | (guard_target =~ All' _ _; first | (refine Y2 fun y he he' hy => ?_; (try dsimp only at he he' hy)) | (refine Y1 fun y he hy => ?_; (try with_reducible conv at he => (rhs; whnf)); (try dsimp only at he hy)) | (refine All'.mk ?_; intro y hy)) | refine F4 (fun h => ?_) fun h => ?_ | refine R1 ?_ | refine Q1 ?_ | fail)); all_goals (conv => whnf))
    refine AskL.mk ?_ trivial
    rw [p1, p2]
    (dsimp only [conj]; repeat' apply And.intro) <;> rfl
  · obtain ⟨nm, ts, hL⟩ : ∃ nm ts, wsP s = nm :: ts := by
      cases h : wsP s with
      | nil => exact absurd h (splitL_ne 32 _)
      | cons a b => exact ⟨a, b, rfl⟩
    have hwo := word_ok (s := s) (w := nm) (by rw [hL]; exact List.mem_cons_self ..)
    have hto : ∀ t, t ∈ ts → okB t ∧ t.length ≤ s.size := fun t ht => word_ok (by rw [hL]; exact List.mem_cons_of_mem _ ht)
    have hnext : ¬ (nm = bytesL (nameF (j : Nat)).1 ∧ (nameF (j : Nat)).2.length = ts.length) → ∀ e, isLine (bytesL s) e → ((j + 1 : Nat) : Int) ≤ e.1 := fun hn e he => by
      have h1 := hno e he
      by_cases hk : e.1 = (j : Int)
      · obtain ⟨g1, g2⟩ := line_words he hL
        rw [hk] at g1 g2
        exact absurd ⟨g1, by rw [g2, List.length_map]⟩ hn
      · omega
    dsimp only [rParL0]
    rw [hL, List.map_cons]
    have hwl := words_len (j : Nat)
    have hfs := formF_size (nameF (j : Nat)).2
    have hlc : (strOfNums nm :: ts.map strOfNums).length = ts.length + 1 := by rw [List.length_cons, List.length_map]
    by_cases hA1 : nm = bytesL (nameF (j : Nat)).1
    · have k1 : ((strOfNums nm).toList == (nameF (j : Nat)).1.toList) = true := by rw [hA1, str_bytesL]; exact beq_self_eq_true _
      by_cases hA2 : (nameF (j : Nat)).2.length = ts.length
      · ((repeat' ((conv => whnf) <;> first | exact True.intro | (guard_target =~ Fork _ _ _; first | refine F1 ?_ | refine F2 ?_ | refine F3 (fun h => ?_) fun h => ?_) | (guard_target =~ Ar _ _ _; first | refine A1 ?_ | refine A2 ?_ | refine A3 ?_) | (guard_target =~ AskL _ _; first | refine L1 ?_) | (guard_target =~ Go.Eng.Ask _ _; first | refine K1 ?_) | (guard_target =~ All' _ _; first | (refine Y2 fun y he he' hy => ?_; (try dsimp only at he he' hy)) | (refine Y1 fun y he hy => ?_; (try with_reducible conv at he => (rhs; whnf)); (try dsimp only at he hy)) | (refine All'.mk ?_; intro y hy)) | refine F4 (fun h => ?_) fun h => ?_ | refine R1 ?_ | refine Q1 ?_ | fail)); all_goals (conv => whnf))
        refine CallP.mk (C := formC) (j : Nat) ?_
        ((repeat' ((conv => whnf) <;> first | exact True.intro | (guard_target =~ Fork _ _ _; first | refine F1 ?_ | refine F2 ?_ | refine F3 (fun h => ?_) fun h => ?_) | (guard_target =~ Ar _ _ _; first | refine A1 ?_ | refine A2 ?_ | refine A3 ?_) | (guard_target =~ AskL _ _; first | refine L1 ?_) | (guard_target =~ Go.Eng.Ask _ _; first | refine K1 ?_) | (guard_target =~ All' _ _; first | (refine Y2 fun y he he' hy => ?_; (try dsimp only at he he' hy)) | (refine Y1 fun y he hy => ?_; (try with_reducible conv at he => (rhs; whnf)); (try dsimp only at he hy))) | refine F4 (fun h => ?_) fun h => ?_ | refine R1 ?_ | refine Q1 ?_ | fail)); all_goals (conv => whnf))
        refine All'.mk ?_; rintro (y : ByteArray) hy
        obtain rfl : strOfNums nm = y := Option.some.inj hy
        have lm := k1
        ((repeat' ((conv => whnf) <;> first | exact True.intro | (guard_target =~ Fork _ _ _; first | refine F1 ?_ | refine F2 ?_ | refine F3 (fun h => ?_) fun h => ?_) | (guard_target =~ Ar _ _ _; first | refine A1 ?_ | refine A2 ?_ | refine A3 ?_) | (guard_target =~ AskL _ _; first | refine L1 ?_) | (guard_target =~ Go.Eng.Ask _ _; first | refine K1 ?_) | (guard_target =~ All' _ _; first | (refine Y2 fun y he he' hy => ?_; (try dsimp only at he he' hy)) | (refine Y1 fun y he hy => ?_; (try with_reducible conv at he => (rhs; whnf)); (try dsimp only at he hy)) | (refine All'.mk ?_; intro y hy)) | refine F4 (fun h => ?_) fun h => ?_ | refine R1 ?_ | refine Q1 ?_ | fail)); all_goals (conv => whnf))
        have htl : (wsP s).tail = ts := by rw [hL]; rfl
        have hj11 : 11 - (11 - j) = j := by omega
        rw [show 11 - ([11 - j] : List Nat).headD 0 = j from hj11]
        refine Some'.mk (0 : Nat) ?_
        dsimp only [rParL1]
        rw [hL, List.map_cons]
        ((repeat' ((conv => whnf) <;> first | exact True.intro | (guard_target =~ Fork _ _ _; first | refine F1 ?_ | refine F2 ?_ | refine F3 (fun h => ?_) fun h => ?_) | (guard_target =~ Ar _ _ _; first | refine A1 ?_ | refine A2 ?_ | refine A3 ?_) | (guard_target =~ AskL _ _; first | refine L1 ?_) | (guard_target =~ Go.Eng.Ask _ _; first | refine K1 ?_) | (guard_target =~ All' _ _; first | (refine Y2 fun y he he' hy => ?_; (try dsimp only at he he' hy)) | (refine Y1 fun y he hy => ?_; (try with_reducible conv at he => (rhs; whnf)); (try dsimp only at he hy)) | (refine All'.mk ?_; intro y hy)) | refine F4 (fun h => ?_) fun h => ?_ | refine R1 ?_ | refine Q1 ?_ | fail)); all_goals (conv => whnf))
        refine AllI.mk ?_
        rintro (i : Nat) hi
        have hi : i ≤ (nameF (j : Nat)).2.length := hi
        by_cases hi2 : i = (nameF (j : Nat)).2.length
        · subst hi2
          have hzl : (zipP s j).length = (nameF (j : Nat)).2.length := by
            show ((nameF (j : Nat)).2.zip (wsP s).tail).length = _
            rw [htl, List.length_zip]; omega
          have hzt : (zipP s j).take (nameF (j : Nat)).2.length = zipP s j := by rw [← hzl]; exact List.take_length
          have hzp : zipP s j = (nameF (j : Nat)).2.zip ts := by show (nameF (j : Nat)).2.zip (wsP s).tail = _; rw [htl]
          rw [hzt]
          have hEo : okEv (foldR (zipP s j) (evZ (j : Nat), true)).1 := okEv_foldR _ (fun p hp => by
            rw [hzp] at hp
            have := (hto p.2 (List.of_mem_zip hp).2).2
            omega) (okEv_zero ⟨by omega, by omega⟩)
          have hEl : ∀ e, isLine (bytesL s) e → e.1 = (j : Int) → foldR (zipP s j) (evZ (j : Nat), true) = (e, true) := fun e he hk => by
            have h1 := lineR he.1 he.2.1
            rw [hk] at h1
            obtain ⟨_, g2⟩ := line_words he hL
            rw [hk] at g2
            rw [hzp, g2]; exact h1
          have hEb : ∀ E, foldR (zipP s j) (evZ (j : Nat), true) = (E, true) → E.1 = (j : Int) ∧ lineL E = bytesL s := fun E hE => by
            rw [hzp] at hE
            exact lineBack (by rw [show splitL 32 (bytesL s) = nm :: ts from hL, hA1]) hA2 hE
          generalize foldR (zipP s j) (evZ (j : Nat), true) = E at hEo hEl hEb
          obtain ⟨E, g⟩ := E
          dsimp only at hEo
          cases g with
          | false =>
            ((repeat' ((conv => whnf) <;> first | exact True.intro | (guard_target =~ Fork _ _ _; first | refine F1 ?_ | refine F2 ?_ | refine F3 (fun h => ?_) fun h => ?_) | (guard_target =~ Ar _ _ _; first | refine A1 ?_ | refine A2 ?_ | refine A3 ?_) | (guard_target =~ AskL _ _; first | refine L1 ?_) | (guard_target =~ Go.Eng.Ask _ _; first | refine K1 ?_) | (guard_target =~ All' _ _; first | (refine Y2 fun y he he' hy => ?_; (try dsimp only at he he' hy)) | (refine Y1 fun y he hy => ?_; (try with_reducible conv at he => (rhs; whnf)); (try dsimp only at he hy)) | (refine All'.mk ?_; intro y hy)) | refine F4 (fun h => ?_) fun h => ?_ | refine R1 ?_ | refine Q1 ?_ | fail)); all_goals (conv => whnf))
            refine Some'.mk (j + 1) ?_
            ((repeat' ((conv => whnf) <;> first | exact True.intro | (guard_target =~ Fork _ _ _; first | refine F1 ?_ | refine F2 ?_ | refine F3 (fun h => ?_) fun h => ?_) | (guard_target =~ Ar _ _ _; first | refine A1 ?_ | refine A2 ?_ | refine A3 ?_) | (guard_target =~ AskL _ _; first | refine L1 ?_) | (guard_target =~ Go.Eng.Ask _ _; first | refine K1 ?_) | (guard_target =~ All' _ _; first | (refine Y2 fun y he he' hy => ?_; (try dsimp only at he he' hy)) | (refine Y1 fun y he hy => ?_; (try with_reducible conv at he => (rhs; whnf)); (try dsimp only at he hy)) | (refine All'.mk ?_; intro y hy)) | refine F4 (fun h => ?_) fun h => ?_ | refine R1 ?_ | refine Q1 ?_ | fail)); all_goals (conv => whnf))
            refine Ask.mk ⟨by omega, fun e he => ?_⟩ ?_
            · have h1 := hno e he
              by_cases hk : e.1 = (j : Int)
              · exact absurd (congrArg Prod.snd (hEl e he hk)) Bool.false_ne_true
              · omega
            exact G1
          | true =>
            obtain ⟨hk1, hk2⟩ := hEb E rfl
            ((repeat' ((conv => whnf) <;> first | exact True.intro | (guard_target =~ Fork _ _ _; first | refine F1 ?_ | refine F2 ?_ | refine F3 (fun h => ?_) fun h => ?_) | (guard_target =~ Ar _ _ _; first | refine A1 ?_ | refine A2 ?_ | refine A3 ?_) | (guard_target =~ AskL _ _; first | refine L1 ?_) | (guard_target =~ Go.Eng.Ask _ _; first | refine K1 ?_) | (guard_target =~ All' _ _; first | (refine Y2 fun y he he' hy => ?_; (try dsimp only at he he' hy)) | (refine Y1 fun y he hy => ?_; (try with_reducible conv at he => (rhs; whnf)); (try dsimp only at he hy)) | (refine All'.mk ?_; intro y hy)) | refine F4 (fun h => ?_) fun h => ?_ | refine R1 ?_ | refine Q1 ?_ | fail)); all_goals (conv => whnf))
            refine CallP.mk (C := rightC) E ?_
            ((repeat' ((conv => whnf) <;> first | exact True.intro | (guard_target =~ Fork _ _ _; first | refine F1 ?_ | refine F2 ?_ | refine F3 (fun h => ?_) fun h => ?_) | (guard_target =~ Ar _ _ _; first | refine A1 ?_ | refine A2 ?_ | refine A3 ?_) | (guard_target =~ Go.Eng.Ask _ _; first | refine K1 ?_) | (guard_target =~ All' _ _; first | (refine Y2 fun y he he' hy => ?_; (try dsimp only at he he' hy)) | (refine Y1 fun y he hy => ?_; (try with_reducible conv at he => (rhs; whnf)); (try dsimp only at he hy)) | (refine All'.mk ?_; intro y hy)) | refine F4 (fun h => ?_) fun h => ?_ | refine R1 ?_ | refine Q1 ?_ | fail)); all_goals (conv => whnf))
            refine AskL.mk ?_ ?_
            · (dsimp only [conj]; repeat' apply And.intro) <;> rfl
            refine Ask.mk hEo ?_
            by_cases hr : rightP E
            · have k2 := rightB_true hr
              obtain ⟨p1, p2⟩ := parse_some (s := s) ⟨hEo, hr, hk2⟩
              have lm := k2
              ((repeat' ((conv => whnf) <;> first | exact True.intro | (guard_target =~ Fork _ _ _; first | refine F1 ?_ | refine F2 ?_ | refine F3 (fun h => ?_) fun h => ?_) | (guard_target =~ Ar _ _ _; first | refine A1 ?_ | refine A2 ?_ | refine A3 ?_) | (guard_target =~ Go.Eng.Ask _ _; first | refine K1 ?_) | (guard_target =~ All' _ _; first | (refine Y2 fun y he he' hy => ?_; (try dsimp only at he he' hy)) | (refine Y1 fun y he hy => ?_; (try with_reducible conv at he => (rhs; whnf)); (try dsimp only at he hy)) | (refine All'.mk ?_; intro y hy)) | refine F4 (fun h => ?_) fun h => ?_ | refine R1 ?_ | refine Q1 ?_ | fail)); all_goals (conv => whnf))
              refine AskL.mk ?_ trivial
              rw [p1, p2]
              (dsimp only [conj]; repeat' apply And.intro) <;> rfl
            · have k2 := rightB_false hr
              have lm := k2
              ((repeat' ((conv => whnf) <;> first | exact True.intro | (guard_target =~ Fork _ _ _; first | refine F1 ?_ | refine F2 ?_ | refine F3 (fun h => ?_) fun h => ?_) | (guard_target =~ Ar _ _ _; first | refine A1 ?_ | refine A2 ?_ | refine A3 ?_) | (guard_target =~ AskL _ _; first | refine L1 ?_) | (guard_target =~ Go.Eng.Ask _ _; first | refine K1 ?_) | (guard_target =~ All' _ _; first | (refine Y2 fun y he he' hy => ?_; (try dsimp only at he he' hy)) | (refine Y1 fun y he hy => ?_; (try with_reducible conv at he => (rhs; whnf)); (try dsimp only at he hy)) | (refine All'.mk ?_; intro y hy)) | refine F4 (fun h => ?_) fun h => ?_ | refine R1 ?_ | refine Q1 ?_ | fail)); all_goals (conv => whnf))
              refine Some'.mk (j + 1) ?_
              ((repeat' ((conv => whnf) <;> first | exact True.intro | (guard_target =~ Fork _ _ _; first | refine F1 ?_ | refine F2 ?_ | refine F3 (fun h => ?_) fun h => ?_) | (guard_target =~ Ar _ _ _; first | refine A1 ?_ | refine A2 ?_ | refine A3 ?_) | (guard_target =~ AskL _ _; first | refine L1 ?_) | (guard_target =~ Go.Eng.Ask _ _; first | refine K1 ?_) | (guard_target =~ All' _ _; first | (refine Y2 fun y he he' hy => ?_; (try dsimp only at he he' hy)) | (refine Y1 fun y he hy => ?_; (try with_reducible conv at he => (rhs; whnf)); (try dsimp only at he hy)) | (refine All'.mk ?_; intro y hy)) | refine F4 (fun h => ?_) fun h => ?_ | refine R1 ?_ | refine Q1 ?_ | fail)); all_goals (conv => whnf))
              refine Ask.mk ⟨by omega, fun e he => ?_⟩ ?_
              · have h1 := hno e he
                by_cases hk : e.1 = (j : Int)
                · have := congrArg Prod.fst (hEl e he hk)
                  dsimp only at this
                  subst this
                  exact absurd he.2.1 hr
                · omega
              exact G1
        · obtain ⟨w, hw⟩ : ∃ w, (nameF (j : Nat)).2[i]? = some w := ⟨_, List.getElem?_eq_getElem (by omega)⟩
          obtain ⟨t, ht⟩ : ∃ t, ts[i]? = some t := ⟨_, List.getElem?_eq_getElem (by omega)⟩
          have hz : (zipP s j)[i]? = some (w, t) := by
            show ((nameF (j : Nat)).2.zip (wsP s).tail)[i]? = _
            rw [htl, List.getElem?_zip_eq_some]
            exact ⟨hw, ht⟩
          have hzs := foldR_snoc ((zipP s j).take i) (w, t) (evZ (j : Nat), true)
          rw [← take_get hz] at hzs
          obtain ⟨hot, hlt⟩ := hto t (List.mem_of_getElem? ht)
          have hbt := bytes_str hot
          have hst := str_size t
          have hul := unhexL_len t.length t (by omega)
          have hat := formF_at hw
          have hrg := letF_rng w
          have hcut := formF_cut hw
          have hwr := words_rng j w (List.mem_of_getElem? hw)
          generalize foldR ((zipP s j).take i) (evZ (j : Nat), true) = a at hzs
          generalize formF (nameF (j : Nat)).2 = F at hat hcut hfs
          obtain ⟨⟨a1, a2, a3, a4, a5, a6, a7⟩, g⟩ := a
          have h0s : ((⟨#[]⟩ : ByteArray).size) = 0 := rfl
          have hzs : foldR ((zipP s j).take (i + 1)) (evZ (j : Nat), true) = stepR ((a1, a2, a3, a4, a5, a6, a7), g) w t := hzs
          ((repeat' ((conv => whnf) <;> first | exact True.intro | (guard_target =~ Fork _ _ _; first | refine F1 ?_ | refine F2 ?_ | refine F3 (fun h => ?_) fun h => ?_) | (guard_target =~ Ar _ _ _; first | refine A1 ?_ | refine A2 ?_ | refine A3 ?_) | (guard_target =~ AskL _ _; first | refine L1 ?_) | (guard_target =~ Go.Eng.Ask _ _; first | refine K1 ?_) | (guard_target =~ All' _ _; first | (refine Y2 fun y he he' hy => ?_; (try dsimp only at he he' hy)) | (refine Y1 fun y he hy => ?_; (try with_reducible conv at he => (rhs; whnf)); (try dsimp only at he hy))) | refine F4 (fun h => ?_) fun h => ?_ | refine R1 ?_ | refine Q1 ?_ | fail)); all_goals (conv => whnf))
          refine Ask.mk ?_ ?_
          · constructor <;> omega
          ((repeat' ((conv => whnf) <;> first | exact True.intro | (guard_target =~ Fork _ _ _; first | refine F1 ?_ | refine F2 ?_ | refine F3 (fun h => ?_) fun h => ?_) | (guard_target =~ Ar _ _ _; first | refine A1 ?_ | refine A2 ?_ | refine A3 ?_) | (guard_target =~ AskL _ _; first | refine L1 ?_) | (guard_target =~ Go.Eng.Ask _ _; first | refine K1 ?_) | (guard_target =~ All' _ _; first | (refine Y2 fun y he he' hy => ?_; (try dsimp only at he he' hy)) | (refine Y1 fun y he hy => ?_; (try with_reducible conv at he => (rhs; whnf)); (try dsimp only at he hy))) | refine F4 (fun h => ?_) fun h => ?_ | refine R1 ?_ | refine Q1 ?_ | fail)); all_goals (conv => whnf))
          refine All'.mk ?_; rintro (y : ByteArray) hy
          obtain rfl : strOfNums t = y := by
            have hy : (strOfNums nm :: ts.map strOfNums)[i + 1]? = some y := hy
            rw [List.getElem?_cons_succ, List.getElem?_map, ht] at hy
            exact Option.some.inj hy
          ((repeat' ((conv => whnf) <;> first | exact True.intro | (guard_target =~ Fork _ _ _; first | refine F1 ?_ | refine F2 ?_ | refine F3 (fun h => ?_) fun h => ?_) | (guard_target =~ Ar _ _ _; first | refine A1 ?_ | refine A2 ?_ | refine A3 ?_) | (guard_target =~ AskL _ _; first | refine L1 ?_) | (guard_target =~ Go.Eng.Ask _ _; first | refine K1 ?_) | (guard_target =~ All' _ _; first | (refine Y2 fun y he he' hy => ?_; (try dsimp only at he he' hy)) | (refine Y1 fun y he hy => ?_; (try with_reducible conv at he => (rhs; whnf)); (try dsimp only at he hy)) | (refine All'.mk ?_; intro y hy)) | refine F4 (fun h => ?_) fun h => ?_ | refine R1 ?_ | refine Q1 ?_ | fail)); all_goals (conv => whnf))
          refine CallP.mk (C := numberC2) (strOfNums t) ?_
          ((repeat' ((conv => whnf) <;> first | exact True.intro | (guard_target =~ Fork _ _ _; first | refine F1 ?_ | refine F2 ?_ | refine F3 (fun h => ?_) fun h => ?_) | (guard_target =~ Ar _ _ _; first | refine A1 ?_ | refine A2 ?_ | refine A3 ?_) | (guard_target =~ AskL _ _; first | refine L1 ?_) | (guard_target =~ Go.Eng.Ask _ _; first | refine K1 ?_) | (guard_target =~ All' _ _; first | (refine Y2 fun y he he' hy => ?_; (try dsimp only at he he' hy)) | (refine Y1 fun y he hy => ?_; (try with_reducible conv at he => (rhs; whnf)); (try dsimp only at he hy)) | (refine All'.mk ?_; intro y hy)) | refine F4 (fun h => ?_) fun h => ?_ | refine R1 ?_ | refine Q1 ?_ | fail)); all_goals (conv => whnf))
          have hn1 := he
          have hn2 := he'
          obtain ⟨n, okn⟩ := y
          dsimp only at hn1 hn2
          rw [hbt] at hn1 hn2
          have hn1 : n = numR t := hn1
          subst hn1
          subst hn2
          refine CallP.mk (C := rUnhexC2) (strOfNums t) ?_
          have hrs : (strOfNums (hexR t)).size = (hexR t).length := str_size _
          have hrb := bytes_str (hexR_okB t)
          by_cases d1 : t = [46]
          · have hR : hexR t = [] := if_pos d1
            have hO : hexOkR t = true := if_pos d1
            have kd : ((strOfNums t).toList == (⟨#[46]⟩ : ByteArray).toList) = true := by rw [d1]; exact beq_self_eq_true _
            rcases hwr with rfl | rfl | rfl | rfl | rfl | rfl
            · rw [show letF 0 = 97 from rfl] at hcut hrg hat
              have k0 : ((F.extract ((i : Nat) : Int).toNat (((i : Nat) : Int) + 1).toNat).toList == (⟨#[97]⟩ : ByteArray).toList) = true := by rw [hcut, str_beq]; decide
              have k1 : ((F.extract ((i : Nat) : Int).toNat (((i : Nat) : Int) + 1).toNat).toList == (⟨#[98]⟩ : ByteArray).toList) = false := by rw [hcut, str_beq]; decide
              have k2 : ((F.extract ((i : Nat) : Int).toNat (((i : Nat) : Int) + 1).toNat).toList == (⟨#[110]⟩ : ByteArray).toList) = false := by rw [hcut, str_beq]; decide
              have k3 : ((F.extract ((i : Nat) : Int).toNat (((i : Nat) : Int) + 1).toNat).toList == (⟨#[107]⟩ : ByteArray).toList) = false := by rw [hcut, str_beq]; decide
              have k4 : ((F.extract ((i : Nat) : Int).toNat (((i : Nat) : Int) + 1).toNat).toList == (⟨#[118]⟩ : ByteArray).toList) = false := by rw [hcut, str_beq]; decide
              have k5 : ((F.extract ((i : Nat) : Int).toNat (((i : Nat) : Int) + 1).toNat).toList == (⟨#[120]⟩ : ByteArray).toList) = false := by rw [hcut, str_beq]; decide
              have lm := And.intro kd (And.intro k0 (And.intro k1 (And.intro k2 (And.intro k3 (And.intro k4 k5)))))
              cases g
              all_goals
                ((repeat' ((conv => whnf) <;> first | exact True.intro | (guard_target =~ Fork _ _ _; first | refine F1 ?_ | refine F2 ?_ | refine F3 (fun h => ?_) fun h => ?_) | (guard_target =~ Ar _ _ _; first | refine A1 ?_ | refine A2 ?_ | refine A3 ?_) | (guard_target =~ AskL _ _; first | refine L1 ?_) | (guard_target =~ Go.Eng.Ask _ _; first | refine K1 ?_) | (guard_target =~ All' _ _; first | (refine Y2 fun y he he' hy => ?_; (try dsimp only at he he' hy)) | (refine Y1 fun y he hy => ?_; (try with_reducible conv at he => (rhs; whnf)); (try dsimp only at he hy)) | (refine All'.mk ?_; intro y hy)) | refine F4 (fun h => ?_) fun h => ?_ | refine R1 ?_ | refine Q1 ?_ | fail)); all_goals (conv => whnf))
              all_goals
                refine Some'.mk (i + 1) ?_
                rw [hzs, stepR_set (w := 0) (by decide), okR_num (w := 0) (by decide)]
                ((repeat' ((conv => whnf) <;> first | exact True.intro | (guard_target =~ Fork _ _ _; first | refine F1 ?_ | refine F2 ?_ | refine F3 (fun h => ?_) fun h => ?_) | (guard_target =~ Ar _ _ _; first | refine A1 ?_ | refine A2 ?_ | refine A3 ?_) | (guard_target =~ Go.Eng.Ask _ _; first | refine K1 ?_) | (guard_target =~ All' _ _; first | (refine Y2 fun y he he' hy => ?_; (try dsimp only at he he' hy)) | (refine Y1 fun y he hy => ?_; (try with_reducible conv at he => (rhs; whnf)); (try dsimp only at he hy)) | (refine All'.mk ?_; intro y hy)) | refine F4 (fun h => ?_) fun h => ?_ | refine R1 ?_ | refine Q1 ?_ | fail)); all_goals (conv => whnf))
                refine AskL.mk ?_ ?_
                · (dsimp only [conj]; repeat' apply And.intro) <;> first | rfl | omega
                ((repeat' ((conv => whnf) <;> first | exact True.intro | (guard_target =~ Fork _ _ _; first | refine F1 ?_ | refine F2 ?_ | refine F3 (fun h => ?_) fun h => ?_) | (guard_target =~ Ar _ _ _; first | refine A1 ?_ | refine A2 ?_ | refine A3 ?_) | (guard_target =~ AskL _ _; first | refine L1 ?_) | (guard_target =~ Go.Eng.Ask _ _; first | refine K1 ?_) | (guard_target =~ All' _ _; first | (refine Y2 fun y he he' hy => ?_; (try dsimp only at he he' hy)) | (refine Y1 fun y he hy => ?_; (try with_reducible conv at he => (rhs; whnf)); (try dsimp only at he hy)) | (refine All'.mk ?_; intro y hy)) | refine F4 (fun h => ?_) fun h => ?_ | refine R1 ?_ | refine Q1 ?_ | fail)); all_goals (conv => whnf))
            · rw [show letF 1 = 98 from rfl] at hcut hrg hat
              have k0 : ((F.extract ((i : Nat) : Int).toNat (((i : Nat) : Int) + 1).toNat).toList == (⟨#[97]⟩ : ByteArray).toList) = false := by rw [hcut, str_beq]; decide
              have k1 : ((F.extract ((i : Nat) : Int).toNat (((i : Nat) : Int) + 1).toNat).toList == (⟨#[98]⟩ : ByteArray).toList) = true := by rw [hcut, str_beq]; decide
              have k2 : ((F.extract ((i : Nat) : Int).toNat (((i : Nat) : Int) + 1).toNat).toList == (⟨#[110]⟩ : ByteArray).toList) = false := by rw [hcut, str_beq]; decide
              have k3 : ((F.extract ((i : Nat) : Int).toNat (((i : Nat) : Int) + 1).toNat).toList == (⟨#[107]⟩ : ByteArray).toList) = false := by rw [hcut, str_beq]; decide
              have k4 : ((F.extract ((i : Nat) : Int).toNat (((i : Nat) : Int) + 1).toNat).toList == (⟨#[118]⟩ : ByteArray).toList) = false := by rw [hcut, str_beq]; decide
              have k5 : ((F.extract ((i : Nat) : Int).toNat (((i : Nat) : Int) + 1).toNat).toList == (⟨#[120]⟩ : ByteArray).toList) = false := by rw [hcut, str_beq]; decide
              have lm := And.intro kd (And.intro k0 (And.intro k1 (And.intro k2 (And.intro k3 (And.intro k4 k5)))))
              cases g
              all_goals
                ((repeat' ((conv => whnf) <;> first | exact True.intro | (guard_target =~ Fork _ _ _; first | refine F1 ?_ | refine F2 ?_ | refine F3 (fun h => ?_) fun h => ?_) | (guard_target =~ Ar _ _ _; first | refine A1 ?_ | refine A2 ?_ | refine A3 ?_) | (guard_target =~ AskL _ _; first | refine L1 ?_) | (guard_target =~ Go.Eng.Ask _ _; first | refine K1 ?_) | (guard_target =~ All' _ _; first | (refine Y2 fun y he he' hy => ?_; (try dsimp only at he he' hy)) | (refine Y1 fun y he hy => ?_; (try with_reducible conv at he => (rhs; whnf)); (try dsimp only at he hy)) | (refine All'.mk ?_; intro y hy)) | refine F4 (fun h => ?_) fun h => ?_ | refine R1 ?_ | refine Q1 ?_ | fail)); all_goals (conv => whnf))
              all_goals
                refine Some'.mk (i + 1) ?_
                rw [hzs, stepR_set (w := 1) (by decide), okR_num (w := 1) (by decide)]
                ((repeat' ((conv => whnf) <;> first | exact True.intro | (guard_target =~ Fork _ _ _; first | refine F1 ?_ | refine F2 ?_ | refine F3 (fun h => ?_) fun h => ?_) | (guard_target =~ Ar _ _ _; first | refine A1 ?_ | refine A2 ?_ | refine A3 ?_) | (guard_target =~ Go.Eng.Ask _ _; first | refine K1 ?_) | (guard_target =~ All' _ _; first | (refine Y2 fun y he he' hy => ?_; (try dsimp only at he he' hy)) | (refine Y1 fun y he hy => ?_; (try with_reducible conv at he => (rhs; whnf)); (try dsimp only at he hy)) | (refine All'.mk ?_; intro y hy)) | refine F4 (fun h => ?_) fun h => ?_ | refine R1 ?_ | refine Q1 ?_ | fail)); all_goals (conv => whnf))
                refine AskL.mk ?_ ?_
                · (dsimp only [conj]; repeat' apply And.intro) <;> first | rfl | omega
                ((repeat' ((conv => whnf) <;> first | exact True.intro | (guard_target =~ Fork _ _ _; first | refine F1 ?_ | refine F2 ?_ | refine F3 (fun h => ?_) fun h => ?_) | (guard_target =~ Ar _ _ _; first | refine A1 ?_ | refine A2 ?_ | refine A3 ?_) | (guard_target =~ AskL _ _; first | refine L1 ?_) | (guard_target =~ Go.Eng.Ask _ _; first | refine K1 ?_) | (guard_target =~ All' _ _; first | (refine Y2 fun y he he' hy => ?_; (try dsimp only at he he' hy)) | (refine Y1 fun y he hy => ?_; (try with_reducible conv at he => (rhs; whnf)); (try dsimp only at he hy)) | (refine All'.mk ?_; intro y hy)) | refine F4 (fun h => ?_) fun h => ?_ | refine R1 ?_ | refine Q1 ?_ | fail)); all_goals (conv => whnf))
            · rw [show letF 2 = 110 from rfl] at hcut hrg hat
              have k0 : ((F.extract ((i : Nat) : Int).toNat (((i : Nat) : Int) + 1).toNat).toList == (⟨#[97]⟩ : ByteArray).toList) = false := by rw [hcut, str_beq]; decide
              have k1 : ((F.extract ((i : Nat) : Int).toNat (((i : Nat) : Int) + 1).toNat).toList == (⟨#[98]⟩ : ByteArray).toList) = false := by rw [hcut, str_beq]; decide
              have k2 : ((F.extract ((i : Nat) : Int).toNat (((i : Nat) : Int) + 1).toNat).toList == (⟨#[110]⟩ : ByteArray).toList) = true := by rw [hcut, str_beq]; decide
              have k3 : ((F.extract ((i : Nat) : Int).toNat (((i : Nat) : Int) + 1).toNat).toList == (⟨#[107]⟩ : ByteArray).toList) = false := by rw [hcut, str_beq]; decide
              have k4 : ((F.extract ((i : Nat) : Int).toNat (((i : Nat) : Int) + 1).toNat).toList == (⟨#[118]⟩ : ByteArray).toList) = false := by rw [hcut, str_beq]; decide
              have k5 : ((F.extract ((i : Nat) : Int).toNat (((i : Nat) : Int) + 1).toNat).toList == (⟨#[120]⟩ : ByteArray).toList) = false := by rw [hcut, str_beq]; decide
              have lm := And.intro kd (And.intro k0 (And.intro k1 (And.intro k2 (And.intro k3 (And.intro k4 k5)))))
              cases g
              all_goals
                ((repeat' ((conv => whnf) <;> first | exact True.intro | (guard_target =~ Fork _ _ _; first | refine F1 ?_ | refine F2 ?_ | refine F3 (fun h => ?_) fun h => ?_) | (guard_target =~ Ar _ _ _; first | refine A1 ?_ | refine A2 ?_ | refine A3 ?_) | (guard_target =~ AskL _ _; first | refine L1 ?_) | (guard_target =~ Go.Eng.Ask _ _; first | refine K1 ?_) | (guard_target =~ All' _ _; first | (refine Y2 fun y he he' hy => ?_; (try dsimp only at he he' hy)) | (refine Y1 fun y he hy => ?_; (try with_reducible conv at he => (rhs; whnf)); (try dsimp only at he hy)) | (refine All'.mk ?_; intro y hy)) | refine F4 (fun h => ?_) fun h => ?_ | refine R1 ?_ | refine Q1 ?_ | fail)); all_goals (conv => whnf))
              all_goals
                refine Some'.mk (i + 1) ?_
                rw [hzs, stepR_set (w := 2) (by decide), okR_num (w := 2) (by decide)]
                ((repeat' ((conv => whnf) <;> first | exact True.intro | (guard_target =~ Fork _ _ _; first | refine F1 ?_ | refine F2 ?_ | refine F3 (fun h => ?_) fun h => ?_) | (guard_target =~ Ar _ _ _; first | refine A1 ?_ | refine A2 ?_ | refine A3 ?_) | (guard_target =~ Go.Eng.Ask _ _; first | refine K1 ?_) | (guard_target =~ All' _ _; first | (refine Y2 fun y he he' hy => ?_; (try dsimp only at he he' hy)) | (refine Y1 fun y he hy => ?_; (try with_reducible conv at he => (rhs; whnf)); (try dsimp only at he hy)) | (refine All'.mk ?_; intro y hy)) | refine F4 (fun h => ?_) fun h => ?_ | refine R1 ?_ | refine Q1 ?_ | fail)); all_goals (conv => whnf))
                refine AskL.mk ?_ ?_
                · (dsimp only [conj]; repeat' apply And.intro) <;> first | rfl | omega
                ((repeat' ((conv => whnf) <;> first | exact True.intro | (guard_target =~ Fork _ _ _; first | refine F1 ?_ | refine F2 ?_ | refine F3 (fun h => ?_) fun h => ?_) | (guard_target =~ Ar _ _ _; first | refine A1 ?_ | refine A2 ?_ | refine A3 ?_) | (guard_target =~ AskL _ _; first | refine L1 ?_) | (guard_target =~ Go.Eng.Ask _ _; first | refine K1 ?_) | (guard_target =~ All' _ _; first | (refine Y2 fun y he he' hy => ?_; (try dsimp only at he he' hy)) | (refine Y1 fun y he hy => ?_; (try with_reducible conv at he => (rhs; whnf)); (try dsimp only at he hy)) | (refine All'.mk ?_; intro y hy)) | refine F4 (fun h => ?_) fun h => ?_ | refine R1 ?_ | refine Q1 ?_ | fail)); all_goals (conv => whnf))
            · rw [show letF 3 = 107 from rfl] at hcut hrg hat
              have k0 : ((F.extract ((i : Nat) : Int).toNat (((i : Nat) : Int) + 1).toNat).toList == (⟨#[97]⟩ : ByteArray).toList) = false := by rw [hcut, str_beq]; decide
              have k1 : ((F.extract ((i : Nat) : Int).toNat (((i : Nat) : Int) + 1).toNat).toList == (⟨#[98]⟩ : ByteArray).toList) = false := by rw [hcut, str_beq]; decide
              have k2 : ((F.extract ((i : Nat) : Int).toNat (((i : Nat) : Int) + 1).toNat).toList == (⟨#[110]⟩ : ByteArray).toList) = false := by rw [hcut, str_beq]; decide
              have k3 : ((F.extract ((i : Nat) : Int).toNat (((i : Nat) : Int) + 1).toNat).toList == (⟨#[107]⟩ : ByteArray).toList) = true := by rw [hcut, str_beq]; decide
              have k4 : ((F.extract ((i : Nat) : Int).toNat (((i : Nat) : Int) + 1).toNat).toList == (⟨#[118]⟩ : ByteArray).toList) = false := by rw [hcut, str_beq]; decide
              have k5 : ((F.extract ((i : Nat) : Int).toNat (((i : Nat) : Int) + 1).toNat).toList == (⟨#[120]⟩ : ByteArray).toList) = false := by rw [hcut, str_beq]; decide
              have lm := And.intro kd (And.intro k0 (And.intro k1 (And.intro k2 (And.intro k3 (And.intro k4 k5)))))
              cases g
              all_goals
                ((repeat' ((conv => whnf) <;> first | exact True.intro | (guard_target =~ Fork _ _ _; first | refine F1 ?_ | refine F2 ?_ | refine F3 (fun h => ?_) fun h => ?_) | (guard_target =~ Ar _ _ _; first | refine A1 ?_ | refine A2 ?_ | refine A3 ?_) | (guard_target =~ AskL _ _; first | refine L1 ?_) | (guard_target =~ Go.Eng.Ask _ _; first | refine K1 ?_) | (guard_target =~ All' _ _; first | (refine Y2 fun y he he' hy => ?_; (try dsimp only at he he' hy)) | (refine Y1 fun y he hy => ?_; (try with_reducible conv at he => (rhs; whnf)); (try dsimp only at he hy)) | (refine All'.mk ?_; intro y hy)) | refine F4 (fun h => ?_) fun h => ?_ | refine R1 ?_ | refine Q1 ?_ | fail)); all_goals (conv => whnf))
              all_goals
                refine Some'.mk (i + 1) ?_
                rw [hzs, stepR_set (w := 3) (by decide), okR_hex (w := 3) (by decide)]
                ((repeat' ((conv => whnf) <;> first | exact True.intro | (guard_target =~ Fork _ _ _; first | refine F1 ?_ | refine F2 ?_ | refine F3 (fun h => ?_) fun h => ?_) | (guard_target =~ Ar _ _ _; first | refine A1 ?_ | refine A2 ?_ | refine A3 ?_) | (guard_target =~ Go.Eng.Ask _ _; first | refine K1 ?_) | (guard_target =~ All' _ _; first | (refine Y2 fun y he he' hy => ?_; (try dsimp only at he he' hy)) | (refine Y1 fun y he hy => ?_; (try with_reducible conv at he => (rhs; whnf)); (try dsimp only at he hy)) | (refine All'.mk ?_; intro y hy)) | refine F4 (fun h => ?_) fun h => ?_ | refine R1 ?_ | refine Q1 ?_ | fail)); all_goals (conv => whnf))
                refine AskL.mk ?_ ?_
                · (dsimp only [conj]; repeat' apply And.intro) <;> first | rfl | omega | (rw [hO]; done) | (rw [hO]; rfl) | (show (⟨#[]⟩ : ByteArray) = strOfNums (hexR t); rw [hR]; rfl) | (exact congrArg (SV.ro true (Ty.int IntKind.u8)) (hR.symm))
                ((repeat' ((conv => whnf) <;> first | exact True.intro | (guard_target =~ Fork _ _ _; first | refine F1 ?_ | refine F2 ?_ | refine F3 (fun h => ?_) fun h => ?_) | (guard_target =~ Ar _ _ _; first | refine A1 ?_ | refine A2 ?_ | refine A3 ?_) | (guard_target =~ AskL _ _; first | refine L1 ?_) | (guard_target =~ Go.Eng.Ask _ _; first | refine K1 ?_) | (guard_target =~ All' _ _; first | (refine Y2 fun y he he' hy => ?_; (try dsimp only at he he' hy)) | (refine Y1 fun y he hy => ?_; (try with_reducible conv at he => (rhs; whnf)); (try dsimp only at he hy)) | (refine All'.mk ?_; intro y hy)) | refine F4 (fun h => ?_) fun h => ?_ | refine R1 ?_ | refine Q1 ?_ | fail)); all_goals (conv => whnf))
            · rw [show letF 4 = 118 from rfl] at hcut hrg hat
              have k0 : ((F.extract ((i : Nat) : Int).toNat (((i : Nat) : Int) + 1).toNat).toList == (⟨#[97]⟩ : ByteArray).toList) = false := by rw [hcut, str_beq]; decide
              have k1 : ((F.extract ((i : Nat) : Int).toNat (((i : Nat) : Int) + 1).toNat).toList == (⟨#[98]⟩ : ByteArray).toList) = false := by rw [hcut, str_beq]; decide
              have k2 : ((F.extract ((i : Nat) : Int).toNat (((i : Nat) : Int) + 1).toNat).toList == (⟨#[110]⟩ : ByteArray).toList) = false := by rw [hcut, str_beq]; decide
              have k3 : ((F.extract ((i : Nat) : Int).toNat (((i : Nat) : Int) + 1).toNat).toList == (⟨#[107]⟩ : ByteArray).toList) = false := by rw [hcut, str_beq]; decide
              have k4 : ((F.extract ((i : Nat) : Int).toNat (((i : Nat) : Int) + 1).toNat).toList == (⟨#[118]⟩ : ByteArray).toList) = true := by rw [hcut, str_beq]; decide
              have k5 : ((F.extract ((i : Nat) : Int).toNat (((i : Nat) : Int) + 1).toNat).toList == (⟨#[120]⟩ : ByteArray).toList) = false := by rw [hcut, str_beq]; decide
              have lm := And.intro kd (And.intro k0 (And.intro k1 (And.intro k2 (And.intro k3 (And.intro k4 k5)))))
              cases g
              all_goals
                ((repeat' ((conv => whnf) <;> first | exact True.intro | (guard_target =~ Fork _ _ _; first | refine F1 ?_ | refine F2 ?_ | refine F3 (fun h => ?_) fun h => ?_) | (guard_target =~ Ar _ _ _; first | refine A1 ?_ | refine A2 ?_ | refine A3 ?_) | (guard_target =~ AskL _ _; first | refine L1 ?_) | (guard_target =~ Go.Eng.Ask _ _; first | refine K1 ?_) | (guard_target =~ All' _ _; first | (refine Y2 fun y he he' hy => ?_; (try dsimp only at he he' hy)) | (refine Y1 fun y he hy => ?_; (try with_reducible conv at he => (rhs; whnf)); (try dsimp only at he hy)) | (refine All'.mk ?_; intro y hy)) | refine F4 (fun h => ?_) fun h => ?_ | refine R1 ?_ | refine Q1 ?_ | fail)); all_goals (conv => whnf))
              all_goals
                refine Some'.mk (i + 1) ?_
                rw [hzs, stepR_set (w := 4) (by decide), okR_hex (w := 4) (by decide)]
                ((repeat' ((conv => whnf) <;> first | exact True.intro | (guard_target =~ Fork _ _ _; first | refine F1 ?_ | refine F2 ?_ | refine F3 (fun h => ?_) fun h => ?_) | (guard_target =~ Ar _ _ _; first | refine A1 ?_ | refine A2 ?_ | refine A3 ?_) | (guard_target =~ Go.Eng.Ask _ _; first | refine K1 ?_) | (guard_target =~ All' _ _; first | (refine Y2 fun y he he' hy => ?_; (try dsimp only at he he' hy)) | (refine Y1 fun y he hy => ?_; (try with_reducible conv at he => (rhs; whnf)); (try dsimp only at he hy)) | (refine All'.mk ?_; intro y hy)) | refine F4 (fun h => ?_) fun h => ?_ | refine R1 ?_ | refine Q1 ?_ | fail)); all_goals (conv => whnf))
                refine AskL.mk ?_ ?_
                · (dsimp only [conj]; repeat' apply And.intro) <;> first | rfl | omega | (rw [hO]; done) | (rw [hO]; rfl) | (show (⟨#[]⟩ : ByteArray) = strOfNums (hexR t); rw [hR]; rfl) | (exact congrArg (SV.ro true (Ty.int IntKind.u8)) (hR.symm))
                ((repeat' ((conv => whnf) <;> first | exact True.intro | (guard_target =~ Fork _ _ _; first | refine F1 ?_ | refine F2 ?_ | refine F3 (fun h => ?_) fun h => ?_) | (guard_target =~ Ar _ _ _; first | refine A1 ?_ | refine A2 ?_ | refine A3 ?_) | (guard_target =~ AskL _ _; first | refine L1 ?_) | (guard_target =~ Go.Eng.Ask _ _; first | refine K1 ?_) | (guard_target =~ All' _ _; first | (refine Y2 fun y he he' hy => ?_; (try dsimp only at he he' hy)) | (refine Y1 fun y he hy => ?_; (try with_reducible conv at he => (rhs; whnf)); (try dsimp only at he hy)) | (refine All'.mk ?_; intro y hy)) | refine F4 (fun h => ?_) fun h => ?_ | refine R1 ?_ | refine Q1 ?_ | fail)); all_goals (conv => whnf))
            · rw [show letF 5 = 120 from rfl] at hcut hrg hat
              have k0 : ((F.extract ((i : Nat) : Int).toNat (((i : Nat) : Int) + 1).toNat).toList == (⟨#[97]⟩ : ByteArray).toList) = false := by rw [hcut, str_beq]; decide
              have k1 : ((F.extract ((i : Nat) : Int).toNat (((i : Nat) : Int) + 1).toNat).toList == (⟨#[98]⟩ : ByteArray).toList) = false := by rw [hcut, str_beq]; decide
              have k2 : ((F.extract ((i : Nat) : Int).toNat (((i : Nat) : Int) + 1).toNat).toList == (⟨#[110]⟩ : ByteArray).toList) = false := by rw [hcut, str_beq]; decide
              have k3 : ((F.extract ((i : Nat) : Int).toNat (((i : Nat) : Int) + 1).toNat).toList == (⟨#[107]⟩ : ByteArray).toList) = false := by rw [hcut, str_beq]; decide
              have k4 : ((F.extract ((i : Nat) : Int).toNat (((i : Nat) : Int) + 1).toNat).toList == (⟨#[118]⟩ : ByteArray).toList) = false := by rw [hcut, str_beq]; decide
              have k5 : ((F.extract ((i : Nat) : Int).toNat (((i : Nat) : Int) + 1).toNat).toList == (⟨#[120]⟩ : ByteArray).toList) = true := by rw [hcut, str_beq]; decide
              have lm := And.intro kd (And.intro k0 (And.intro k1 (And.intro k2 (And.intro k3 (And.intro k4 k5)))))
              cases g
              all_goals
                ((repeat' ((conv => whnf) <;> first | exact True.intro | (guard_target =~ Fork _ _ _; first | refine F1 ?_ | refine F2 ?_ | refine F3 (fun h => ?_) fun h => ?_) | (guard_target =~ Ar _ _ _; first | refine A1 ?_ | refine A2 ?_ | refine A3 ?_) | (guard_target =~ AskL _ _; first | refine L1 ?_) | (guard_target =~ Go.Eng.Ask _ _; first | refine K1 ?_) | (guard_target =~ All' _ _; first | (refine Y2 fun y he he' hy => ?_; (try dsimp only at he he' hy)) | (refine Y1 fun y he hy => ?_; (try with_reducible conv at he => (rhs; whnf)); (try dsimp only at he hy)) | (refine All'.mk ?_; intro y hy)) | refine F4 (fun h => ?_) fun h => ?_ | refine R1 ?_ | refine Q1 ?_ | fail)); all_goals (conv => whnf))
              all_goals
                refine Some'.mk (i + 1) ?_
                first
                | rw [hzs, stepR_no (show (false && okR 5 t) = false from rfl)]
                | rw [hzs, stepR_no (show (true && okR 5 t) = false by rw [okR_x, hO, hR]; rfl)]
                ((repeat' ((conv => whnf) <;> first | exact True.intro | (guard_target =~ Fork _ _ _; first | refine F1 ?_ | refine F2 ?_ | refine F3 (fun h => ?_) fun h => ?_) | (guard_target =~ Ar _ _ _; first | refine A1 ?_ | refine A2 ?_ | refine A3 ?_) | (guard_target =~ Go.Eng.Ask _ _; first | refine K1 ?_) | (guard_target =~ All' _ _; first | (refine Y2 fun y he he' hy => ?_; (try dsimp only at he he' hy)) | (refine Y1 fun y he hy => ?_; (try with_reducible conv at he => (rhs; whnf)); (try dsimp only at he hy)) | (refine All'.mk ?_; intro y hy)) | refine F4 (fun h => ?_) fun h => ?_ | refine R1 ?_ | refine Q1 ?_ | fail)); all_goals (conv => whnf))
                refine AskL.mk ?_ ?_
                · (dsimp only [conj]; repeat' apply And.intro) <;> first | rfl | omega
                ((repeat' ((conv => whnf) <;> first | exact True.intro | (guard_target =~ Fork _ _ _; first | refine F1 ?_ | refine F2 ?_ | refine F3 (fun h => ?_) fun h => ?_) | (guard_target =~ Ar _ _ _; first | refine A1 ?_ | refine A2 ?_ | refine A3 ?_) | (guard_target =~ AskL _ _; first | refine L1 ?_) | (guard_target =~ Go.Eng.Ask _ _; first | refine K1 ?_) | (guard_target =~ All' _ _; first | (refine Y2 fun y he he' hy => ?_; (try dsimp only at he he' hy)) | (refine Y1 fun y he hy => ?_; (try with_reducible conv at he => (rhs; whnf)); (try dsimp only at he hy)) | (refine All'.mk ?_; intro y hy)) | refine F4 (fun h => ?_) fun h => ?_ | refine R1 ?_ | refine Q1 ?_ | fail)); all_goals (conv => whnf))
          · have kd : ((strOfNums t).toList == (⟨#[46]⟩ : ByteArray).toList) = false := by
              rw [str_beq]
              exact decide_eq_false (fun hh => d1 (by rw [← hbt, hh]; rfl))
            by_cases d2 : t = []
            · have hR : hexR t = [] := by unfold hexR; rw [if_neg d1, d2]; rfl
              have hO : hexOkR t = false := by unfold hexOkR; rw [if_neg d1, if_pos d2]
              have ke : ((strOfNums t).toList == (⟨#[]⟩ : ByteArray).toList) = true := by rw [d2]; exact beq_self_eq_true _
              rcases hwr with rfl | rfl | rfl | rfl | rfl | rfl
              · rw [show letF 0 = 97 from rfl] at hcut hrg hat
                have k0 : ((F.extract ((i : Nat) : Int).toNat (((i : Nat) : Int) + 1).toNat).toList == (⟨#[97]⟩ : ByteArray).toList) = true := by rw [hcut, str_beq]; decide
                have k1 : ((F.extract ((i : Nat) : Int).toNat (((i : Nat) : Int) + 1).toNat).toList == (⟨#[98]⟩ : ByteArray).toList) = false := by rw [hcut, str_beq]; decide
                have k2 : ((F.extract ((i : Nat) : Int).toNat (((i : Nat) : Int) + 1).toNat).toList == (⟨#[110]⟩ : ByteArray).toList) = false := by rw [hcut, str_beq]; decide
                have k3 : ((F.extract ((i : Nat) : Int).toNat (((i : Nat) : Int) + 1).toNat).toList == (⟨#[107]⟩ : ByteArray).toList) = false := by rw [hcut, str_beq]; decide
                have k4 : ((F.extract ((i : Nat) : Int).toNat (((i : Nat) : Int) + 1).toNat).toList == (⟨#[118]⟩ : ByteArray).toList) = false := by rw [hcut, str_beq]; decide
                have k5 : ((F.extract ((i : Nat) : Int).toNat (((i : Nat) : Int) + 1).toNat).toList == (⟨#[120]⟩ : ByteArray).toList) = false := by rw [hcut, str_beq]; decide
                have lm := And.intro kd (And.intro ke (And.intro k0 (And.intro k1 (And.intro k2 (And.intro k3 (And.intro k4 k5))))))
                cases g
                all_goals
                  ((repeat' ((conv => whnf) <;> first | exact True.intro | (guard_target =~ Fork _ _ _; first | refine F1 ?_ | refine F2 ?_ | refine F3 (fun h => ?_) fun h => ?_) | (guard_target =~ Ar _ _ _; first | refine A1 ?_ | refine A2 ?_ | refine A3 ?_) | (guard_target =~ AskL _ _; first | refine L1 ?_) | (guard_target =~ Go.Eng.Ask _ _; first | refine K1 ?_) | (guard_target =~ All' _ _; first | (refine Y2 fun y he he' hy => ?_; (try dsimp only at he he' hy)) | (refine Y1 fun y he hy => ?_; (try with_reducible conv at he => (rhs; whnf)); (try dsimp only at he hy)) | (refine All'.mk ?_; intro y hy)) | refine F4 (fun h => ?_) fun h => ?_ | refine R1 ?_ | refine Q1 ?_ | fail)); all_goals (conv => whnf))
                all_goals
                  rw [hbt] at he he'
                  have hb : y.1 = strOfNums (hexR t) := he.trans (by unfold hexR; rw [if_neg d1]; split <;> rfl)
                  refine Some'.mk (i + 1) ?_
                  rw [hzs, stepR_set (w := 0) (by decide), okR_num (w := 0) (by decide)]
                  ((repeat' ((conv => whnf) <;> first | exact True.intro | (guard_target =~ Fork _ _ _; first | refine F1 ?_ | refine F2 ?_ | refine F3 (fun h => ?_) fun h => ?_) | (guard_target =~ Ar _ _ _; first | refine A1 ?_ | refine A2 ?_ | refine A3 ?_) | (guard_target =~ Go.Eng.Ask _ _; first | refine K1 ?_) | (guard_target =~ All' _ _; first | (refine Y2 fun y he he' hy => ?_; (try dsimp only at he he' hy)) | (refine Y1 fun y he hy => ?_; (try with_reducible conv at he => (rhs; whnf)); (try dsimp only at he hy)) | (refine All'.mk ?_; intro y hy)) | refine F4 (fun h => ?_) fun h => ?_ | refine R1 ?_ | refine Q1 ?_ | fail)); all_goals (conv => whnf))
                  refine AskL.mk ?_ ?_
                  · (dsimp only [conj]; repeat' apply And.intro) <;> first | rfl | omega
                  ((repeat' ((conv => whnf) <;> first | exact True.intro | (guard_target =~ Fork _ _ _; first | refine F1 ?_ | refine F2 ?_ | refine F3 (fun h => ?_) fun h => ?_) | (guard_target =~ Ar _ _ _; first | refine A1 ?_ | refine A2 ?_ | refine A3 ?_) | (guard_target =~ AskL _ _; first | refine L1 ?_) | (guard_target =~ Go.Eng.Ask _ _; first | refine K1 ?_) | (guard_target =~ All' _ _; first | (refine Y2 fun y he he' hy => ?_; (try dsimp only at he he' hy)) | (refine Y1 fun y he hy => ?_; (try with_reducible conv at he => (rhs; whnf)); (try dsimp only at he hy)) | (refine All'.mk ?_; intro y hy)) | refine F4 (fun h => ?_) fun h => ?_ | refine R1 ?_ | refine Q1 ?_ | fail)); all_goals (conv => whnf))
              · rw [show letF 1 = 98 from rfl] at hcut hrg hat
                have k0 : ((F.extract ((i : Nat) : Int).toNat (((i : Nat) : Int) + 1).toNat).toList == (⟨#[97]⟩ : ByteArray).toList) = false := by rw [hcut, str_beq]; decide
                have k1 : ((F.extract ((i : Nat) : Int).toNat (((i : Nat) : Int) + 1).toNat).toList == (⟨#[98]⟩ : ByteArray).toList) = true := by rw [hcut, str_beq]; decide
                have k2 : ((F.extract ((i : Nat) : Int).toNat (((i : Nat) : Int) + 1).toNat).toList == (⟨#[110]⟩ : ByteArray).toList) = false := by rw [hcut, str_beq]; decide
                have k3 : ((F.extract ((i : Nat) : Int).toNat (((i : Nat) : Int) + 1).toNat).toList == (⟨#[107]⟩ : ByteArray).toList) = false := by rw [hcut, str_beq]; decide
                have k4 : ((F.extract ((i : Nat) : Int).toNat (((i : Nat) : Int) + 1).toNat).toList == (⟨#[118]⟩ : ByteArray).toList) = false := by rw [hcut, str_beq]; decide
                have k5 : ((F.extract ((i : Nat) : Int).toNat (((i : Nat) : Int) + 1).toNat).toList == (⟨#[120]⟩ : ByteArray).toList) = false := by rw [hcut, str_beq]; decide
                have lm := And.intro kd (And.intro ke (And.intro k0 (And.intro k1 (And.intro k2 (And.intro k3 (And.intro k4 k5))))))
                cases g
                all_goals
                  ((repeat' ((conv => whnf) <;> first | exact True.intro | (guard_target =~ Fork _ _ _; first | refine F1 ?_ | refine F2 ?_ | refine F3 (fun h => ?_) fun h => ?_) | (guard_target =~ Ar _ _ _; first | refine A1 ?_ | refine A2 ?_ | refine A3 ?_) | (guard_target =~ AskL _ _; first | refine L1 ?_) | (guard_target =~ Go.Eng.Ask _ _; first | refine K1 ?_) | (guard_target =~ All' _ _; first | (refine Y2 fun y he he' hy => ?_; (try dsimp only at he he' hy)) | (refine Y1 fun y he hy => ?_; (try with_reducible conv at he => (rhs; whnf)); (try dsimp only at he hy)) | (refine All'.mk ?_; intro y hy)) | refine F4 (fun h => ?_) fun h => ?_ | refine R1 ?_ | refine Q1 ?_ | fail)); all_goals (conv => whnf))
                all_goals
                  rw [hbt] at he he'
                  have hb : y.1 = strOfNums (hexR t) := he.trans (by unfold hexR; rw [if_neg d1]; split <;> rfl)
                  refine Some'.mk (i + 1) ?_
                  rw [hzs, stepR_set (w := 1) (by decide), okR_num (w := 1) (by decide)]
                  ((repeat' ((conv => whnf) <;> first | exact True.intro | (guard_target =~ Fork _ _ _; first | refine F1 ?_ | refine F2 ?_ | refine F3 (fun h => ?_) fun h => ?_) | (guard_target =~ Ar _ _ _; first | refine A1 ?_ | refine A2 ?_ | refine A3 ?_) | (guard_target =~ Go.Eng.Ask _ _; first | refine K1 ?_) | (guard_target =~ All' _ _; first | (refine Y2 fun y he he' hy => ?_; (try dsimp only at he he' hy)) | (refine Y1 fun y he hy => ?_; (try with_reducible conv at he => (rhs; whnf)); (try dsimp only at he hy)) | (refine All'.mk ?_; intro y hy)) | refine F4 (fun h => ?_) fun h => ?_ | refine R1 ?_ | refine Q1 ?_ | fail)); all_goals (conv => whnf))
                  refine AskL.mk ?_ ?_
                  · (dsimp only [conj]; repeat' apply And.intro) <;> first | rfl | omega
                  ((repeat' ((conv => whnf) <;> first | exact True.intro | (guard_target =~ Fork _ _ _; first | refine F1 ?_ | refine F2 ?_ | refine F3 (fun h => ?_) fun h => ?_) | (guard_target =~ Ar _ _ _; first | refine A1 ?_ | refine A2 ?_ | refine A3 ?_) | (guard_target =~ AskL _ _; first | refine L1 ?_) | (guard_target =~ Go.Eng.Ask _ _; first | refine K1 ?_) | (guard_target =~ All' _ _; first | (refine Y2 fun y he he' hy => ?_; (try dsimp only at he he' hy)) | (refine Y1 fun y he hy => ?_; (try with_reducible conv at he => (rhs; whnf)); (try dsimp only at he hy)) | (refine All'.mk ?_; intro y hy)) | refine F4 (fun h => ?_) fun h => ?_ | refine R1 ?_ | refine Q1 ?_ | fail)); all_goals (conv => whnf))
              · rw [show letF 2 = 110 from rfl] at hcut hrg hat
                have k0 : ((F.extract ((i : Nat) : Int).toNat (((i : Nat) : Int) + 1).toNat).toList == (⟨#[97]⟩ : ByteArray).toList) = false := by rw [hcut, str_beq]; decide
                have k1 : ((F.extract ((i : Nat) : Int).toNat (((i : Nat) : Int) + 1).toNat).toList == (⟨#[98]⟩ : ByteArray).toList) = false := by rw [hcut, str_beq]; decide
                have k2 : ((F.extract ((i : Nat) : Int).toNat (((i : Nat) : Int) + 1).toNat).toList == (⟨#[110]⟩ : ByteArray).toList) = true := by rw [hcut, str_beq]; decide
                have k3 : ((F.extract ((i : Nat) : Int).toNat (((i : Nat) : Int) + 1).toNat).toList == (⟨#[107]⟩ : ByteArray).toList) = false := by rw [hcut, str_beq]; decide
                have k4 : ((F.extract ((i : Nat) : Int).toNat (((i : Nat) : Int) + 1).toNat).toList == (⟨#[118]⟩ : ByteArray).toList) = false := by rw [hcut, str_beq]; decide
                have k5 : ((F.extract ((i : Nat) : Int).toNat (((i : Nat) : Int) + 1).toNat).toList == (⟨#[120]⟩ : ByteArray).toList) = false := by rw [hcut, str_beq]; decide
                have lm := And.intro kd (And.intro ke (And.intro k0 (And.intro k1 (And.intro k2 (And.intro k3 (And.intro k4 k5))))))
                cases g
                all_goals
                  ((repeat' ((conv => whnf) <;> first | exact True.intro | (guard_target =~ Fork _ _ _; first | refine F1 ?_ | refine F2 ?_ | refine F3 (fun h => ?_) fun h => ?_) | (guard_target =~ Ar _ _ _; first | refine A1 ?_ | refine A2 ?_ | refine A3 ?_) | (guard_target =~ AskL _ _; first | refine L1 ?_) | (guard_target =~ Go.Eng.Ask _ _; first | refine K1 ?_) | (guard_target =~ All' _ _; first | (refine Y2 fun y he he' hy => ?_; (try dsimp only at he he' hy)) | (refine Y1 fun y he hy => ?_; (try with_reducible conv at he => (rhs; whnf)); (try dsimp only at he hy)) | (refine All'.mk ?_; intro y hy)) | refine F4 (fun h => ?_) fun h => ?_ | refine R1 ?_ | refine Q1 ?_ | fail)); all_goals (conv => whnf))
                all_goals
                  rw [hbt] at he he'
                  have hb : y.1 = strOfNums (hexR t) := he.trans (by unfold hexR; rw [if_neg d1]; split <;> rfl)
                  refine Some'.mk (i + 1) ?_
                  rw [hzs, stepR_set (w := 2) (by decide), okR_num (w := 2) (by decide)]
                  ((repeat' ((conv => whnf) <;> first | exact True.intro | (guard_target =~ Fork _ _ _; first | refine F1 ?_ | refine F2 ?_ | refine F3 (fun h => ?_) fun h => ?_) | (guard_target =~ Ar _ _ _; first | refine A1 ?_ | refine A2 ?_ | refine A3 ?_) | (guard_target =~ Go.Eng.Ask _ _; first | refine K1 ?_) | (guard_target =~ All' _ _; first | (refine Y2 fun y he he' hy => ?_; (try dsimp only at he he' hy)) | (refine Y1 fun y he hy => ?_; (try with_reducible conv at he => (rhs; whnf)); (try dsimp only at he hy)) | (refine All'.mk ?_; intro y hy)) | refine F4 (fun h => ?_) fun h => ?_ | refine R1 ?_ | refine Q1 ?_ | fail)); all_goals (conv => whnf))
                  refine AskL.mk ?_ ?_
                  · (dsimp only [conj]; repeat' apply And.intro) <;> first | rfl | omega
                  ((repeat' ((conv => whnf) <;> first | exact True.intro | (guard_target =~ Fork _ _ _; first | refine F1 ?_ | refine F2 ?_ | refine F3 (fun h => ?_) fun h => ?_) | (guard_target =~ Ar _ _ _; first | refine A1 ?_ | refine A2 ?_ | refine A3 ?_) | (guard_target =~ AskL _ _; first | refine L1 ?_) | (guard_target =~ Go.Eng.Ask _ _; first | refine K1 ?_) | (guard_target =~ All' _ _; first | (refine Y2 fun y he he' hy => ?_; (try dsimp only at he he' hy)) | (refine Y1 fun y he hy => ?_; (try with_reducible conv at he => (rhs; whnf)); (try dsimp only at he hy)) | (refine All'.mk ?_; intro y hy)) | refine F4 (fun h => ?_) fun h => ?_ | refine R1 ?_ | refine Q1 ?_ | fail)); all_goals (conv => whnf))
              · rw [show letF 3 = 107 from rfl] at hcut hrg hat
                have k0 : ((F.extract ((i : Nat) : Int).toNat (((i : Nat) : Int) + 1).toNat).toList == (⟨#[97]⟩ : ByteArray).toList) = false := by rw [hcut, str_beq]; decide
                have k1 : ((F.extract ((i : Nat) : Int).toNat (((i : Nat) : Int) + 1).toNat).toList == (⟨#[98]⟩ : ByteArray).toList) = false := by rw [hcut, str_beq]; decide
                have k2 : ((F.extract ((i : Nat) : Int).toNat (((i : Nat) : Int) + 1).toNat).toList == (⟨#[110]⟩ : ByteArray).toList) = false := by rw [hcut, str_beq]; decide
                have k3 : ((F.extract ((i : Nat) : Int).toNat (((i : Nat) : Int) + 1).toNat).toList == (⟨#[107]⟩ : ByteArray).toList) = true := by rw [hcut, str_beq]; decide
                have k4 : ((F.extract ((i : Nat) : Int).toNat (((i : Nat) : Int) + 1).toNat).toList == (⟨#[118]⟩ : ByteArray).toList) = false := by rw [hcut, str_beq]; decide
                have k5 : ((F.extract ((i : Nat) : Int).toNat (((i : Nat) : Int) + 1).toNat).toList == (⟨#[120]⟩ : ByteArray).toList) = false := by rw [hcut, str_beq]; decide
                have lm := And.intro kd (And.intro ke (And.intro k0 (And.intro k1 (And.intro k2 (And.intro k3 (And.intro k4 k5))))))
                cases g
                all_goals
                  ((repeat' ((conv => whnf) <;> first | exact True.intro | (guard_target =~ Fork _ _ _; first | refine F1 ?_ | refine F2 ?_ | refine F3 (fun h => ?_) fun h => ?_) | (guard_target =~ Ar _ _ _; first | refine A1 ?_ | refine A2 ?_ | refine A3 ?_) | (guard_target =~ AskL _ _; first | refine L1 ?_) | (guard_target =~ Go.Eng.Ask _ _; first | refine K1 ?_) | (guard_target =~ All' _ _; first | (refine Y2 fun y he he' hy => ?_; (try dsimp only at he he' hy)) | (refine Y1 fun y he hy => ?_; (try with_reducible conv at he => (rhs; whnf)); (try dsimp only at he hy)) | (refine All'.mk ?_; intro y hy)) | refine F4 (fun h => ?_) fun h => ?_ | refine R1 ?_ | refine Q1 ?_ | fail)); all_goals (conv => whnf))
                all_goals
                  rw [hbt] at he he'
                  have hb : y.1 = strOfNums (hexR t) := he.trans (by unfold hexR; rw [if_neg d1]; split <;> rfl)
                  refine Some'.mk (i + 1) ?_
                  rw [hzs, stepR_set (w := 3) (by decide), okR_hex (w := 3) (by decide)]
                  ((repeat' ((conv => whnf) <;> first | exact True.intro | (guard_target =~ Fork _ _ _; first | refine F1 ?_ | refine F2 ?_ | refine F3 (fun h => ?_) fun h => ?_) | (guard_target =~ Ar _ _ _; first | refine A1 ?_ | refine A2 ?_ | refine A3 ?_) | (guard_target =~ Go.Eng.Ask _ _; first | refine K1 ?_) | (guard_target =~ All' _ _; first | (refine Y2 fun y he he' hy => ?_; (try dsimp only at he he' hy)) | (refine Y1 fun y he hy => ?_; (try with_reducible conv at he => (rhs; whnf)); (try dsimp only at he hy)) | (refine All'.mk ?_; intro y hy)) | refine F4 (fun h => ?_) fun h => ?_ | refine R1 ?_ | refine Q1 ?_ | fail)); all_goals (conv => whnf))
                  refine AskL.mk ?_ ?_
                  · (dsimp only [conj]; repeat' apply And.intro) <;> first | rfl | omega | (rw [hO]; done) | (rw [hO]; rfl) | (exact hb) | (exact congrArg (SV.ro true (Ty.int IntKind.u8)) (by rw [hb]; exact hrb))
                  ((repeat' ((conv => whnf) <;> first | exact True.intro | (guard_target =~ Fork _ _ _; first | refine F1 ?_ | refine F2 ?_ | refine F3 (fun h => ?_) fun h => ?_) | (guard_target =~ Ar _ _ _; first | refine A1 ?_ | refine A2 ?_ | refine A3 ?_) | (guard_target =~ AskL _ _; first | refine L1 ?_) | (guard_target =~ Go.Eng.Ask _ _; first | refine K1 ?_) | (guard_target =~ All' _ _; first | (refine Y2 fun y he he' hy => ?_; (try dsimp only at he he' hy)) | (refine Y1 fun y he hy => ?_; (try with_reducible conv at he => (rhs; whnf)); (try dsimp only at he hy)) | (refine All'.mk ?_; intro y hy)) | refine F4 (fun h => ?_) fun h => ?_ | refine R1 ?_ | refine Q1 ?_ | fail)); all_goals (conv => whnf))
              · rw [show letF 4 = 118 from rfl] at hcut hrg hat
                have k0 : ((F.extract ((i : Nat) : Int).toNat (((i : Nat) : Int) + 1).toNat).toList == (⟨#[97]⟩ : ByteArray).toList) = false := by rw [hcut, str_beq]; decide
                have k1 : ((F.extract ((i : Nat) : Int).toNat (((i : Nat) : Int) + 1).toNat).toList == (⟨#[98]⟩ : ByteArray).toList) = false := by rw [hcut, str_beq]; decide
                have k2 : ((F.extract ((i : Nat) : Int).toNat (((i : Nat) : Int) + 1).toNat).toList == (⟨#[110]⟩ : ByteArray).toList) = false := by rw [hcut, str_beq]; decide
                have k3 : ((F.extract ((i : Nat) : Int).toNat (((i : Nat) : Int) + 1).toNat).toList == (⟨#[107]⟩ : ByteArray).toList) = false := by rw [hcut, str_beq]; decide
                have k4 : ((F.extract ((i : Nat) : Int).toNat (((i : Nat) : Int) + 1).toNat).toList == (⟨#[118]⟩ : ByteArray).toList) = true := by rw [hcut, str_beq]; decide
                have k5 : ((F.extract ((i : Nat) : Int).toNat (((i : Nat) : Int) + 1).toNat).toList == (⟨#[120]⟩ : ByteArray).toList) = false := by rw [hcut, str_beq]; decide
                have lm := And.intro kd (And.intro ke (And.intro k0 (And.intro k1 (And.intro k2 (And.intro k3 (And.intro k4 k5))))))
                cases g
                all_goals
                  ((repeat' ((conv => whnf) <;> first | exact True.intro | (guard_target =~ Fork _ _ _; first | refine F1 ?_ | refine F2 ?_ | refine F3 (fun h => ?_) fun h => ?_) | (guard_target =~ Ar _ _ _; first | refine A1 ?_ | refine A2 ?_ | refine A3 ?_) | (guard_target =~ AskL _ _; first | refine L1 ?_) | (guard_target =~ Go.Eng.Ask _ _; first | refine K1 ?_) | (guard_target =~ All' _ _; first | (refine Y2 fun y he he' hy => ?_; (try dsimp only at he he' hy)) | (refine Y1 fun y he hy => ?_; (try with_reducible conv at he => (rhs; whnf)); (try dsimp only at he hy)) | (refine All'.mk ?_; intro y hy)) | refine F4 (fun h => ?_) fun h => ?_ | refine R1 ?_ | refine Q1 ?_ | fail)); all_goals (conv => whnf))
                all_goals
                  rw [hbt] at he he'
                  have hb : y.1 = strOfNums (hexR t) := he.trans (by unfold hexR; rw [if_neg d1]; split <;> rfl)
                  refine Some'.mk (i + 1) ?_
                  rw [hzs, stepR_set (w := 4) (by decide), okR_hex (w := 4) (by decide)]
                  ((repeat' ((conv => whnf) <;> first | exact True.intro | (guard_target =~ Fork _ _ _; first | refine F1 ?_ | refine F2 ?_ | refine F3 (fun h => ?_) fun h => ?_) | (guard_target =~ Ar _ _ _; first | refine A1 ?_ | refine A2 ?_ | refine A3 ?_) | (guard_target =~ Go.Eng.Ask _ _; first | refine K1 ?_) | (guard_target =~ All' _ _; first | (refine Y2 fun y he he' hy => ?_; (try dsimp only at he he' hy)) | (refine Y1 fun y he hy => ?_; (try with_reducible conv at he => (rhs; whnf)); (try dsimp only at he hy)) | (refine All'.mk ?_; intro y hy)) | refine F4 (fun h => ?_) fun h => ?_ | refine R1 ?_ | refine Q1 ?_ | fail)); all_goals (conv => whnf))
                  refine AskL.mk ?_ ?_
                  · (dsimp only [conj]; repeat' apply And.intro) <;> first | rfl | omega | (rw [hO]; done) | (rw [hO]; rfl) | (exact hb) | (exact congrArg (SV.ro true (Ty.int IntKind.u8)) (by rw [hb]; exact hrb))
                  ((repeat' ((conv => whnf) <;> first | exact True.intro | (guard_target =~ Fork _ _ _; first | refine F1 ?_ | refine F2 ?_ | refine F3 (fun h => ?_) fun h => ?_) | (guard_target =~ Ar _ _ _; first | refine A1 ?_ | refine A2 ?_ | refine A3 ?_) | (guard_target =~ AskL _ _; first | refine L1 ?_) | (guard_target =~ Go.Eng.Ask _ _; first | refine K1 ?_) | (guard_target =~ All' _ _; first | (refine Y2 fun y he he' hy => ?_; (try dsimp only at he he' hy)) | (refine Y1 fun y he hy => ?_; (try with_reducible conv at he => (rhs; whnf)); (try dsimp only at he hy)) | (refine All'.mk ?_; intro y hy)) | refine F4 (fun h => ?_) fun h => ?_ | refine R1 ?_ | refine Q1 ?_ | fail)); all_goals (conv => whnf))
              · rw [show letF 5 = 120 from rfl] at hcut hrg hat
                have k0 : ((F.extract ((i : Nat) : Int).toNat (((i : Nat) : Int) + 1).toNat).toList == (⟨#[97]⟩ : ByteArray).toList) = false := by rw [hcut, str_beq]; decide
                have k1 : ((F.extract ((i : Nat) : Int).toNat (((i : Nat) : Int) + 1).toNat).toList == (⟨#[98]⟩ : ByteArray).toList) = false := by rw [hcut, str_beq]; decide
                have k2 : ((F.extract ((i : Nat) : Int).toNat (((i : Nat) : Int) + 1).toNat).toList == (⟨#[110]⟩ : ByteArray).toList) = false := by rw [hcut, str_beq]; decide
                have k3 : ((F.extract ((i : Nat) : Int).toNat (((i : Nat) : Int) + 1).toNat).toList == (⟨#[107]⟩ : ByteArray).toList) = false := by rw [hcut, str_beq]; decide
                have k4 : ((F.extract ((i : Nat) : Int).toNat (((i : Nat) : Int) + 1).toNat).toList == (⟨#[118]⟩ : ByteArray).toList) = false := by rw [hcut, str_beq]; decide
                have k5 : ((F.extract ((i : Nat) : Int).toNat (((i : Nat) : Int) + 1).toNat).toList == (⟨#[120]⟩ : ByteArray).toList) = true := by rw [hcut, str_beq]; decide
                have lm := And.intro kd (And.intro ke (And.intro k0 (And.intro k1 (And.intro k2 (And.intro k3 (And.intro k4 k5))))))
                cases g
                all_goals
                  ((repeat' ((conv => whnf) <;> first | exact True.intro | (guard_target =~ Fork _ _ _; first | refine F1 ?_ | refine F2 ?_ | refine F3 (fun h => ?_) fun h => ?_) | (guard_target =~ Ar _ _ _; first | refine A1 ?_ | refine A2 ?_ | refine A3 ?_) | (guard_target =~ AskL _ _; first | refine L1 ?_) | (guard_target =~ Go.Eng.Ask _ _; first | refine K1 ?_) | (guard_target =~ All' _ _; first | (refine Y2 fun y he he' hy => ?_; (try dsimp only at he he' hy)) | (refine Y1 fun y he hy => ?_; (try with_reducible conv at he => (rhs; whnf)); (try dsimp only at he hy)) | (refine All'.mk ?_; intro y hy)) | refine F4 (fun h => ?_) fun h => ?_ | refine R1 ?_ | refine Q1 ?_ | fail)); all_goals (conv => whnf))
                all_goals
                  refine Some'.mk (i + 1) ?_
                  first
                  | rw [hzs, stepR_no (show (false && okR 5 t) = false from rfl)]
                  | rw [hzs, stepR_no (show (true && okR 5 t) = false by rw [okR_x, hO]; rfl)]
                  ((repeat' ((conv => whnf) <;> first | exact True.intro | (guard_target =~ Fork _ _ _; first | refine F1 ?_ | refine F2 ?_ | refine F3 (fun h => ?_) fun h => ?_) | (guard_target =~ Ar _ _ _; first | refine A1 ?_ | refine A2 ?_ | refine A3 ?_) | (guard_target =~ Go.Eng.Ask _ _; first | refine K1 ?_) | (guard_target =~ All' _ _; first | (refine Y2 fun y he he' hy => ?_; (try dsimp only at he he' hy)) | (refine Y1 fun y he hy => ?_; (try with_reducible conv at he => (rhs; whnf)); (try dsimp only at he hy)) | (refine All'.mk ?_; intro y hy)) | refine F4 (fun h => ?_) fun h => ?_ | refine R1 ?_ | refine Q1 ?_ | fail)); all_goals (conv => whnf))
                  refine AskL.mk ?_ ?_
                  · (dsimp only [conj]; repeat' apply And.intro) <;> first | rfl | omega
                  ((repeat' ((conv => whnf) <;> first | exact True.intro | (guard_target =~ Fork _ _ _; first | refine F1 ?_ | refine F2 ?_ | refine F3 (fun h => ?_) fun h => ?_) | (guard_target =~ Ar _ _ _; first | refine A1 ?_ | refine A2 ?_ | refine A3 ?_) | (guard_target =~ AskL _ _; first | refine L1 ?_) | (guard_target =~ Go.Eng.Ask _ _; first | refine K1 ?_) | (guard_target =~ All' _ _; first | (refine Y2 fun y he he' hy => ?_; (try dsimp only at he he' hy)) | (refine Y1 fun y he hy => ?_; (try with_reducible conv at he => (rhs; whnf)); (try dsimp only at he hy)) | (refine All'.mk ?_; intro y hy)) | refine F4 (fun h => ?_) fun h => ?_ | refine R1 ?_ | refine Q1 ?_ | fail)); all_goals (conv => whnf))
            · have ke : ((strOfNums t).toList == (⟨#[]⟩ : ByteArray).toList) = false := by
                rw [str_beq]
                exact decide_eq_false (fun hh => d2 (by rw [← hbt, hh]; rfl))
              rcases hwr with rfl | rfl | rfl | rfl | rfl | rfl
              · rw [show letF 0 = 97 from rfl] at hcut hrg hat
                have k0 : ((F.extract ((i : Nat) : Int).toNat (((i : Nat) : Int) + 1).toNat).toList == (⟨#[97]⟩ : ByteArray).toList) = true := by rw [hcut, str_beq]; decide
                have k1 : ((F.extract ((i : Nat) : Int).toNat (((i : Nat) : Int) + 1).toNat).toList == (⟨#[98]⟩ : ByteArray).toList) = false := by rw [hcut, str_beq]; decide
                have k2 : ((F.extract ((i : Nat) : Int).toNat (((i : Nat) : Int) + 1).toNat).toList == (⟨#[110]⟩ : ByteArray).toList) = false := by rw [hcut, str_beq]; decide
                have k3 : ((F.extract ((i : Nat) : Int).toNat (((i : Nat) : Int) + 1).toNat).toList == (⟨#[107]⟩ : ByteArray).toList) = false := by rw [hcut, str_beq]; decide
                have k4 : ((F.extract ((i : Nat) : Int).toNat (((i : Nat) : Int) + 1).toNat).toList == (⟨#[118]⟩ : ByteArray).toList) = false := by rw [hcut, str_beq]; decide
                have k5 : ((F.extract ((i : Nat) : Int).toNat (((i : Nat) : Int) + 1).toNat).toList == (⟨#[120]⟩ : ByteArray).toList) = false := by rw [hcut, str_beq]; decide
                have lm := And.intro kd (And.intro ke (And.intro k0 (And.intro k1 (And.intro k2 (And.intro k3 (And.intro k4 k5))))))
                cases g
                all_goals
                  ((repeat' ((conv => whnf) <;> first | exact True.intro | (guard_target =~ Fork _ _ _; first | refine F1 ?_ | refine F2 ?_ | refine F3 (fun h => ?_) fun h => ?_) | (guard_target =~ Ar _ _ _; first | refine A1 ?_ | refine A2 ?_ | refine A3 ?_) | (guard_target =~ AskL _ _; first | refine L1 ?_) | (guard_target =~ Go.Eng.Ask _ _; first | refine K1 ?_) | (guard_target =~ All' _ _; first | (refine Y2 fun y he he' hy => ?_; (try dsimp only at he he' hy)) | (refine Y1 fun y he hy => ?_; (try with_reducible conv at he => (rhs; whnf)); (try dsimp only at he hy)) | (refine All'.mk ?_; intro y hy)) | refine F4 (fun h => ?_) fun h => ?_ | refine R1 ?_ | refine Q1 ?_ | fail)); all_goals (conv => whnf))
                all_goals
                  rw [hbt] at he he'
                  have hb : y.1 = strOfNums (hexR t) := he.trans (by unfold hexR; rw [if_neg d1]; split <;> rfl)
                  have hi' : y.2 = hexOkR t := he'.trans (by unfold hexOkR; rw [if_neg d1, if_neg d2])
                  refine Some'.mk (i + 1) ?_
                  rw [hzs, stepR_set (w := 0) (by decide), okR_num (w := 0) (by decide)]
                  ((repeat' ((conv => whnf) <;> first | exact True.intro | (guard_target =~ Fork _ _ _; first | refine F1 ?_ | refine F2 ?_ | refine F3 (fun h => ?_) fun h => ?_) | (guard_target =~ Ar _ _ _; first | refine A1 ?_ | refine A2 ?_ | refine A3 ?_) | (guard_target =~ Go.Eng.Ask _ _; first | refine K1 ?_) | (guard_target =~ All' _ _; first | (refine Y2 fun y he he' hy => ?_; (try dsimp only at he he' hy)) | (refine Y1 fun y he hy => ?_; (try with_reducible conv at he => (rhs; whnf)); (try dsimp only at he hy)) | (refine All'.mk ?_; intro y hy)) | refine F4 (fun h => ?_) fun h => ?_ | refine R1 ?_ | refine Q1 ?_ | fail)); all_goals (conv => whnf))
                  refine AskL.mk ?_ ?_
                  · (dsimp only [conj]; repeat' apply And.intro) <;> first | rfl | omega
                  ((repeat' ((conv => whnf) <;> first | exact True.intro | (guard_target =~ Fork _ _ _; first | refine F1 ?_ | refine F2 ?_ | refine F3 (fun h => ?_) fun h => ?_) | (guard_target =~ Ar _ _ _; first | refine A1 ?_ | refine A2 ?_ | refine A3 ?_) | (guard_target =~ AskL _ _; first | refine L1 ?_) | (guard_target =~ Go.Eng.Ask _ _; first | refine K1 ?_) | (guard_target =~ All' _ _; first | (refine Y2 fun y he he' hy => ?_; (try dsimp only at he he' hy)) | (refine Y1 fun y he hy => ?_; (try with_reducible conv at he => (rhs; whnf)); (try dsimp only at he hy)) | (refine All'.mk ?_; intro y hy)) | refine F4 (fun h => ?_) fun h => ?_ | refine R1 ?_ | refine Q1 ?_ | fail)); all_goals (conv => whnf))
              · rw [show letF 1 = 98 from rfl] at hcut hrg hat
                have k0 : ((F.extract ((i : Nat) : Int).toNat (((i : Nat) : Int) + 1).toNat).toList == (⟨#[97]⟩ : ByteArray).toList) = false := by rw [hcut, str_beq]; decide
                have k1 : ((F.extract ((i : Nat) : Int).toNat (((i : Nat) : Int) + 1).toNat).toList == (⟨#[98]⟩ : ByteArray).toList) = true := by rw [hcut, str_beq]; decide
                have k2 : ((F.extract ((i : Nat) : Int).toNat (((i : Nat) : Int) + 1).toNat).toList == (⟨#[110]⟩ : ByteArray).toList) = false := by rw [hcut, str_beq]; decide
                have k3 : ((F.extract ((i : Nat) : Int).toNat (((i : Nat) : Int) + 1).toNat).toList == (⟨#[107]⟩ : ByteArray).toList) = false := by rw [hcut, str_beq]; decide
                have k4 : ((F.extract ((i : Nat) : Int).toNat (((i : Nat) : Int) + 1).toNat).toList == (⟨#[118]⟩ : ByteArray).toList) = false := by rw [hcut, str_beq]; decide
                have k5 : ((F.extract ((i : Nat) : Int).toNat (((i : Nat) : Int) + 1).toNat).toList == (⟨#[120]⟩ : ByteArray).toList) = false := by rw [hcut, str_beq]; decide
                have lm := And.intro kd (And.intro ke (And.intro k0 (And.intro k1 (And.intro k2 (And.intro k3 (And.intro k4 k5))))))
                cases g
                all_goals
                  ((repeat' ((conv => whnf) <;> first | exact True.intro | (guard_target =~ Fork _ _ _; first | refine F1 ?_ | refine F2 ?_ | refine F3 (fun h => ?_) fun h => ?_) | (guard_target =~ Ar _ _ _; first | refine A1 ?_ | refine A2 ?_ | refine A3 ?_) | (guard_target =~ AskL _ _; first | refine L1 ?_) | (guard_target =~ Go.Eng.Ask _ _; first | refine K1 ?_) | (guard_target =~ All' _ _; first | (refine Y2 fun y he he' hy => ?_; (try dsimp only at he he' hy)) | (refine Y1 fun y he hy => ?_; (try with_reducible conv at he => (rhs; whnf)); (try dsimp only at he hy)) | (refine All'.mk ?_; intro y hy)) | refine F4 (fun h => ?_) fun h => ?_ | refine R1 ?_ | refine Q1 ?_ | fail)); all_goals (conv => whnf))
                all_goals
                  rw [hbt] at he he'
                  have hb : y.1 = strOfNums (hexR t) := he.trans (by unfold hexR; rw [if_neg d1]; split <;> rfl)
                  have hi' : y.2 = hexOkR t := he'.trans (by unfold hexOkR; rw [if_neg d1, if_neg d2])
                  refine Some'.mk (i + 1) ?_
                  rw [hzs, stepR_set (w := 1) (by decide), okR_num (w := 1) (by decide)]
                  ((repeat' ((conv => whnf) <;> first | exact True.intro | (guard_target =~ Fork _ _ _; first | refine F1 ?_ | refine F2 ?_ | refine F3 (fun h => ?_) fun h => ?_) | (guard_target =~ Ar _ _ _; first | refine A1 ?_ | refine A2 ?_ | refine A3 ?_) | (guard_target =~ Go.Eng.Ask _ _; first | refine K1 ?_) | (guard_target =~ All' _ _; first | (refine Y2 fun y he he' hy => ?_; (try dsimp only at he he' hy)) | (refine Y1 fun y he hy => ?_; (try with_reducible conv at he => (rhs; whnf)); (try dsimp only at he hy)) | (refine All'.mk ?_; intro y hy)) | refine F4 (fun h => ?_) fun h => ?_ | refine R1 ?_ | refine Q1 ?_ | fail)); all_goals (conv => whnf))
                  refine AskL.mk ?_ ?_
                  · (dsimp only [conj]; repeat' apply And.intro) <;> first | rfl | omega
                  ((repeat' ((conv => whnf) <;> first | exact True.intro | (guard_target =~ Fork _ _ _; first | refine F1 ?_ | refine F2 ?_ | refine F3 (fun h => ?_) fun h => ?_) | (guard_target =~ Ar _ _ _; first | refine A1 ?_ | refine A2 ?_ | refine A3 ?_) | (guard_target =~ AskL _ _; first | refine L1 ?_) | (guard_target =~ Go.Eng.Ask _ _; first | refine K1 ?_) | (guard_target =~ All' _ _; first | (refine Y2 fun y he he' hy => ?_; (try dsimp only at he he' hy)) | (refine Y1 fun y he hy => ?_; (try with_reducible conv at he => (rhs; whnf)); (try dsimp only at he hy)) | (refine All'.mk ?_; intro y hy)) | refine F4 (fun h => ?_) fun h => ?_ | refine R1 ?_ | refine Q1 ?_ | fail)); all_goals (conv => whnf))
              · rw [show letF 2 = 110 from rfl] at hcut hrg hat
                have k0 : ((F.extract ((i : Nat) : Int).toNat (((i : Nat) : Int) + 1).toNat).toList == (⟨#[97]⟩ : ByteArray).toList) = false := by rw [hcut, str_beq]; decide
                have k1 : ((F.extract ((i : Nat) : Int).toNat (((i : Nat) : Int) + 1).toNat).toList == (⟨#[98]⟩ : ByteArray).toList) = false := by rw [hcut, str_beq]; decide
                have k2 : ((F.extract ((i : Nat) : Int).toNat (((i : Nat) : Int) + 1).toNat).toList == (⟨#[110]⟩ : ByteArray).toList) = true := by rw [hcut, str_beq]; decide
                have k3 : ((F.extract ((i : Nat) : Int).toNat (((i : Nat) : Int) + 1).toNat).toList == (⟨#[107]⟩ : ByteArray).toList) = false := by rw [hcut, str_beq]; decide
                have k4 : ((F.extract ((i : Nat) : Int).toNat (((i : Nat) : Int) + 1).toNat).toList == (⟨#[118]⟩ : ByteArray).toList) = false := by rw [hcut, str_beq]; decide
                have k5 : ((F.extract ((i : Nat) : Int).toNat (((i : Nat) : Int) + 1).toNat).toList == (⟨#[120]⟩ : ByteArray).toList) = false := by rw [hcut, str_beq]; decide
                have lm := And.intro kd (And.intro ke (And.intro k0 (And.intro k1 (And.intro k2 (And.intro k3 (And.intro k4 k5))))))
                cases g
                all_goals
                  ((repeat' ((conv => whnf) <;> first | exact True.intro | (guard_target =~ Fork _ _ _; first | refine F1 ?_ | refine F2 ?_ | refine F3 (fun h => ?_) fun h => ?_) | (guard_target =~ Ar _ _ _; first | refine A1 ?_ | refine A2 ?_ | refine A3 ?_) | (guard_target =~ AskL _ _; first | refine L1 ?_) | (guard_target =~ Go.Eng.Ask _ _; first | refine K1 ?_) | (guard_target =~ All' _ _; first | (refine Y2 fun y he he' hy => ?_; (try dsimp only at he he' hy)) | (refine Y1 fun y he hy => ?_; (try with_reducible conv at he => (rhs; whnf)); (try dsimp only at he hy)) | (refine All'.mk ?_; intro y hy)) | refine F4 (fun h => ?_) fun h => ?_ | refine R1 ?_ | refine Q1 ?_ | fail)); all_goals (conv => whnf))
                all_goals
                  rw [hbt] at he he'
                  have hb : y.1 = strOfNums (hexR t) := he.trans (by unfold hexR; rw [if_neg d1]; split <;> rfl)
                  have hi' : y.2 = hexOkR t := he'.trans (by unfold hexOkR; rw [if_neg d1, if_neg d2])
                  refine Some'.mk (i + 1) ?_
                  rw [hzs, stepR_set (w := 2) (by decide), okR_num (w := 2) (by decide)]
                  ((repeat' ((conv => whnf) <;> first | exact True.intro | (guard_target =~ Fork _ _ _; first | refine F1 ?_ | refine F2 ?_ | refine F3 (fun h => ?_) fun h => ?_) | (guard_target =~ Ar _ _ _; first | refine A1 ?_ | refine A2 ?_ | refine A3 ?_) | (guard_target =~ Go.Eng.Ask _ _; first | refine K1 ?_) | (guard_target =~ All' _ _; first | (refine Y2 fun y he he' hy => ?_; (try dsimp only at he he' hy)) | (refine Y1 fun y he hy => ?_; (try with_reducible conv at he => (rhs; whnf)); (try dsimp only at he hy)) | (refine All'.mk ?_; intro y hy)) | refine F4 (fun h => ?_) fun h => ?_ | refine R1 ?_ | refine Q1 ?_ | fail)); all_goals (conv => whnf))
                  refine AskL.mk ?_ ?_
                  · (dsimp only [conj]; repeat' apply And.intro) <;> first | rfl | omega
                  ((repeat' ((conv => whnf) <;> first | exact True.intro | (guard_target =~ Fork _ _ _; first | refine F1 ?_ | refine F2 ?_ | refine F3 (fun h => ?_) fun h => ?_) | (guard_target =~ Ar _ _ _; first | refine A1 ?_ | refine A2 ?_ | refine A3 ?_) | (guard_target =~ AskL _ _; first | refine L1 ?_) | (guard_target =~ Go.Eng.Ask _ _; first | refine K1 ?_) | (guard_target =~ All' _ _; first | (refine Y2 fun y he he' hy => ?_; (try dsimp only at he he' hy)) | (refine Y1 fun y he hy => ?_; (try with_reducible conv at he => (rhs; whnf)); (try dsimp only at he hy)) | (refine All'.mk ?_; intro y hy)) | refine F4 (fun h => ?_) fun h => ?_ | refine R1 ?_ | refine Q1 ?_ | fail)); all_goals (conv => whnf))
              · rw [show letF 3 = 107 from rfl] at hcut hrg hat
                have k0 : ((F.extract ((i : Nat) : Int).toNat (((i : Nat) : Int) + 1).toNat).toList == (⟨#[97]⟩ : ByteArray).toList) = false := by rw [hcut, str_beq]; decide
                have k1 : ((F.extract ((i : Nat) : Int).toNat (((i : Nat) : Int) + 1).toNat).toList == (⟨#[98]⟩ : ByteArray).toList) = false := by rw [hcut, str_beq]; decide
                have k2 : ((F.extract ((i : Nat) : Int).toNat (((i : Nat) : Int) + 1).toNat).toList == (⟨#[110]⟩ : ByteArray).toList) = false := by rw [hcut, str_beq]; decide
                have k3 : ((F.extract ((i : Nat) : Int).toNat (((i : Nat) : Int) + 1).toNat).toList == (⟨#[107]⟩ : ByteArray).toList) = true := by rw [hcut, str_beq]; decide
                have k4 : ((F.extract ((i : Nat) : Int).toNat (((i : Nat) : Int) + 1).toNat).toList == (⟨#[118]⟩ : ByteArray).toList) = false := by rw [hcut, str_beq]; decide
                have k5 : ((F.extract ((i : Nat) : Int).toNat (((i : Nat) : Int) + 1).toNat).toList == (⟨#[120]⟩ : ByteArray).toList) = false := by rw [hcut, str_beq]; decide
                have lm := And.intro kd (And.intro ke (And.intro k0 (And.intro k1 (And.intro k2 (And.intro k3 (And.intro k4 k5))))))
                cases g
                all_goals
                  ((repeat' ((conv => whnf) <;> first | exact True.intro | (guard_target =~ Fork _ _ _; first | refine F1 ?_ | refine F2 ?_ | refine F3 (fun h => ?_) fun h => ?_) | (guard_target =~ Ar _ _ _; first | refine A1 ?_ | refine A2 ?_ | refine A3 ?_) | (guard_target =~ AskL _ _; first | refine L1 ?_) | (guard_target =~ Go.Eng.Ask _ _; first | refine K1 ?_) | (guard_target =~ All' _ _; first | (refine Y2 fun y he he' hy => ?_; (try dsimp only at he he' hy)) | (refine Y1 fun y he hy => ?_; (try with_reducible conv at he => (rhs; whnf)); (try dsimp only at he hy)) | (refine All'.mk ?_; intro y hy)) | refine F4 (fun h => ?_) fun h => ?_ | refine R1 ?_ | refine Q1 ?_ | fail)); all_goals (conv => whnf))
                all_goals
                  rw [hbt] at he he'
                  have hb : y.1 = strOfNums (hexR t) := he.trans (by unfold hexR; rw [if_neg d1]; split <;> rfl)
                  have hi' : y.2 = hexOkR t := he'.trans (by unfold hexOkR; rw [if_neg d1, if_neg d2])
                  refine Some'.mk (i + 1) ?_
                  rw [hzs, stepR_set (w := 3) (by decide), okR_hex (w := 3) (by decide)]
                  ((repeat' ((conv => whnf) <;> first | exact True.intro | (guard_target =~ Fork _ _ _; first | refine F1 ?_ | refine F2 ?_ | refine F3 (fun h => ?_) fun h => ?_) | (guard_target =~ Ar _ _ _; first | refine A1 ?_ | refine A2 ?_ | refine A3 ?_) | (guard_target =~ Go.Eng.Ask _ _; first | refine K1 ?_) | (guard_target =~ All' _ _; first | (refine Y2 fun y he he' hy => ?_; (try dsimp only at he he' hy)) | (refine Y1 fun y he hy => ?_; (try with_reducible conv at he => (rhs; whnf)); (try dsimp only at he hy)) | (refine All'.mk ?_; intro y hy)) | refine F4 (fun h => ?_) fun h => ?_ | refine R1 ?_ | refine Q1 ?_ | fail)); all_goals (conv => whnf))
                  refine AskL.mk ?_ ?_
                  · (dsimp only [conj]; repeat' apply And.intro) <;> first | rfl | omega | (rw [hi']; done) | (rw [hi']; rfl) | (exact hb) | (exact congrArg (SV.ro true (Ty.int IntKind.u8)) (by rw [hb]; exact hrb))
                  ((repeat' ((conv => whnf) <;> first | exact True.intro | (guard_target =~ Fork _ _ _; first | refine F1 ?_ | refine F2 ?_ | refine F3 (fun h => ?_) fun h => ?_) | (guard_target =~ Ar _ _ _; first | refine A1 ?_ | refine A2 ?_ | refine A3 ?_) | (guard_target =~ AskL _ _; first | refine L1 ?_) | (guard_target =~ Go.Eng.Ask _ _; first | refine K1 ?_) | (guard_target =~ All' _ _; first | (refine Y2 fun y he he' hy => ?_; (try dsimp only at he he' hy)) | (refine Y1 fun y he hy => ?_; (try with_reducible conv at he => (rhs; whnf)); (try dsimp only at he hy)) | (refine All'.mk ?_; intro y hy)) | refine F4 (fun h => ?_) fun h => ?_ | refine R1 ?_ | refine Q1 ?_ | fail)); all_goals (conv => whnf))
              · rw [show letF 4 = 118 from rfl] at hcut hrg hat
                have k0 : ((F.extract ((i : Nat) : Int).toNat (((i : Nat) : Int) + 1).toNat).toList == (⟨#[97]⟩ : ByteArray).toList) = false := by rw [hcut, str_beq]; decide
                have k1 : ((F.extract ((i : Nat) : Int).toNat (((i : Nat) : Int) + 1).toNat).toList == (⟨#[98]⟩ : ByteArray).toList) = false := by rw [hcut, str_beq]; decide
                have k2 : ((F.extract ((i : Nat) : Int).toNat (((i : Nat) : Int) + 1).toNat).toList == (⟨#[110]⟩ : ByteArray).toList) = false := by rw [hcut, str_beq]; decide
                have k3 : ((F.extract ((i : Nat) : Int).toNat (((i : Nat) : Int) + 1).toNat).toList == (⟨#[107]⟩ : ByteArray).toList) = false := by rw [hcut, str_beq]; decide
                have k4 : ((F.extract ((i : Nat) : Int).toNat (((i : Nat) : Int) + 1).toNat).toList == (⟨#[118]⟩ : ByteArray).toList) = true := by rw [hcut, str_beq]; decide
                have k5 : ((F.extract ((i : Nat) : Int).toNat (((i : Nat) : Int) + 1).toNat).toList == (⟨#[120]⟩ : ByteArray).toList) = false := by rw [hcut, str_beq]; decide
                have lm := And.intro kd (And.intro ke (And.intro k0 (And.intro k1 (And.intro k2 (And.intro k3 (And.intro k4 k5))))))
                cases g
                all_goals
                  ((repeat' ((conv => whnf) <;> first | exact True.intro | (guard_target =~ Fork _ _ _; first | refine F1 ?_ | refine F2 ?_ | refine F3 (fun h => ?_) fun h => ?_) | (guard_target =~ Ar _ _ _; first | refine A1 ?_ | refine A2 ?_ | refine A3 ?_) | (guard_target =~ AskL _ _; first | refine L1 ?_) | (guard_target =~ Go.Eng.Ask _ _; first | refine K1 ?_) | (guard_target =~ All' _ _; first | (refine Y2 fun y he he' hy => ?_; (try dsimp only at he he' hy)) | (refine Y1 fun y he hy => ?_; (try with_reducible conv at he => (rhs; whnf)); (try dsimp only at he hy)) | (refine All'.mk ?_; intro y hy)) | refine F4 (fun h => ?_) fun h => ?_ | refine R1 ?_ | refine Q1 ?_ | fail)); all_goals (conv => whnf))
                all_goals
                  rw [hbt] at he he'
                  have hb : y.1 = strOfNums (hexR t) := he.trans (by unfold hexR; rw [if_neg d1]; split <;> rfl)
                  have hi' : y.2 = hexOkR t := he'.trans (by unfold hexOkR; rw [if_neg d1, if_neg d2])
                  refine Some'.mk (i + 1) ?_
                  rw [hzs, stepR_set (w := 4) (by decide), okR_hex (w := 4) (by decide)]
                  ((repeat' ((conv => whnf) <;> first | exact True.intro | (guard_target =~ Fork _ _ _; first | refine F1 ?_ | refine F2 ?_ | refine F3 (fun h => ?_) fun h => ?_) | (guard_target =~ Ar _ _ _; first | refine A1 ?_ | refine A2 ?_ | refine A3 ?_) | (guard_target =~ Go.Eng.Ask _ _; first | refine K1 ?_) | (guard_target =~ All' _ _; first | (refine Y2 fun y he he' hy => ?_; (try dsimp only at he he' hy)) | (refine Y1 fun y he hy => ?_; (try with_reducible conv at he => (rhs; whnf)); (try dsimp only at he hy)) | (refine All'.mk ?_; intro y hy)) | refine F4 (fun h => ?_) fun h => ?_ | refine R1 ?_ | refine Q1 ?_ | fail)); all_goals (conv => whnf))
                  refine AskL.mk ?_ ?_
                  · (dsimp only [conj]; repeat' apply And.intro) <;> first | rfl | omega | (rw [hi']; done) | (rw [hi']; rfl) | (exact hb) | (exact congrArg (SV.ro true (Ty.int IntKind.u8)) (by rw [hb]; exact hrb))
                  ((repeat' ((conv => whnf) <;> first | exact True.intro | (guard_target =~ Fork _ _ _; first | refine F1 ?_ | refine F2 ?_ | refine F3 (fun h => ?_) fun h => ?_) | (guard_target =~ Ar _ _ _; first | refine A1 ?_ | refine A2 ?_ | refine A3 ?_) | (guard_target =~ AskL _ _; first | refine L1 ?_) | (guard_target =~ Go.Eng.Ask _ _; first | refine K1 ?_) | (guard_target =~ All' _ _; first | (refine Y2 fun y he he' hy => ?_; (try dsimp only at he he' hy)) | (refine Y1 fun y he hy => ?_; (try with_reducible conv at he => (rhs; whnf)); (try dsimp only at he hy)) | (refine All'.mk ?_; intro y hy)) | refine F4 (fun h => ?_) fun h => ?_ | refine R1 ?_ | refine Q1 ?_ | fail)); all_goals (conv => whnf))
              · rw [show letF 5 = 120 from rfl] at hcut hrg hat
                have k0 : ((F.extract ((i : Nat) : Int).toNat (((i : Nat) : Int) + 1).toNat).toList == (⟨#[97]⟩ : ByteArray).toList) = false := by rw [hcut, str_beq]; decide
                have k1 : ((F.extract ((i : Nat) : Int).toNat (((i : Nat) : Int) + 1).toNat).toList == (⟨#[98]⟩ : ByteArray).toList) = false := by rw [hcut, str_beq]; decide
                have k2 : ((F.extract ((i : Nat) : Int).toNat (((i : Nat) : Int) + 1).toNat).toList == (⟨#[110]⟩ : ByteArray).toList) = false := by rw [hcut, str_beq]; decide
                have k3 : ((F.extract ((i : Nat) : Int).toNat (((i : Nat) : Int) + 1).toNat).toList == (⟨#[107]⟩ : ByteArray).toList) = false := by rw [hcut, str_beq]; decide
                have k4 : ((F.extract ((i : Nat) : Int).toNat (((i : Nat) : Int) + 1).toNat).toList == (⟨#[118]⟩ : ByteArray).toList) = false := by rw [hcut, str_beq]; decide
                have k5 : ((F.extract ((i : Nat) : Int).toNat (((i : Nat) : Int) + 1).toNat).toList == (⟨#[120]⟩ : ByteArray).toList) = true := by rw [hcut, str_beq]; decide
                have lm := And.intro kd (And.intro ke (And.intro k0 (And.intro k1 (And.intro k2 (And.intro k3 (And.intro k4 k5))))))
                cases g
                all_goals
                  ((repeat' ((conv => whnf) <;> first | exact True.intro | (guard_target =~ Fork _ _ _; first | refine F1 ?_ | refine F2 ?_ | refine F3 (fun h => ?_) fun h => ?_) | (guard_target =~ Ar _ _ _; first | refine A1 ?_ | refine A2 ?_ | refine A3 ?_) | (guard_target =~ AskL _ _; first | refine L1 ?_) | (guard_target =~ Go.Eng.Ask _ _; first | refine K1 ?_) | (guard_target =~ All' _ _; first | (refine Y2 fun y he he' hy => ?_; (try dsimp only at he he' hy)) | (refine Y1 fun y he hy => ?_; (try with_reducible conv at he => (rhs; whnf)); (try dsimp only at he hy)) | (refine All'.mk ?_; intro y hy)) | refine F4 (fun h => ?_) fun h => ?_ | refine R1 ?_ | refine Q1 ?_ | fail)); all_goals (conv => whnf))
                all_goals
                  rw [hbt] at he he'
                  have hb : y.1 = strOfNums (hexR t) := he.trans (by unfold hexR; rw [if_neg d1]; split <;> rfl)
                  have hi' : y.2 = hexOkR t := he'.trans (by unfold hexOkR; rw [if_neg d1, if_neg d2])
                  have hsz : y.1.size = (hexR t).length := by rw [hb, str_size]
                  refine Some'.mk (i + 1) ?_
                  first
                  | rw [hzs, stepR_no (show (false && okR 5 t) = false from rfl)]
                  | rw [hzs, stepR_no (show (true && okR 5 t) = false by rw [okR_x, ← hi', ‹y.2 = false›]; rfl)]
                  | rw [hzs, stepR_no (show (true && okR 5 t) = false by rw [okR_x, decide_eq_false (by omega), Bool.and_false]; rfl)]
                  | rw [hzs, stepR_yes (show (true && okR 5 t) = true by rw [okR_x, ← hi', ‹y.2 = true›, decide_eq_true (by omega)]; rfl)]
                  ((repeat' ((conv => whnf) <;> first | exact True.intro | (guard_target =~ Fork _ _ _; first | refine F1 ?_ | refine F2 ?_ | refine F3 (fun h => ?_) fun h => ?_) | (guard_target =~ Ar _ _ _; first | refine A1 ?_ | refine A2 ?_ | refine A3 ?_) | (guard_target =~ Go.Eng.Ask _ _; first | refine K1 ?_) | (guard_target =~ All' _ _; first | (refine Y2 fun y he he' hy => ?_; (try dsimp only at he he' hy)) | (refine Y1 fun y he hy => ?_; (try with_reducible conv at he => (rhs; whnf)); (try dsimp only at he hy)) | (refine All'.mk ?_; intro y hy)) | refine F4 (fun h => ?_) fun h => ?_ | refine R1 ?_ | refine Q1 ?_ | fail)); all_goals (conv => whnf))
                  refine AskL.mk ?_ ?_
                  · (dsimp only [conj]; repeat' apply And.intro) <;> first | rfl | omega | exact beq_iff_eq.2 (by omega) | exact beq_eq_false_iff_ne.2 (by omega) | (show byteAt y.1 0 = (hexR t).headD 0; rw [hb]; exact byteAt_head (hexR_okB t) (by omega))
                  ((repeat' ((conv => whnf) <;> first | exact True.intro | (guard_target =~ Fork _ _ _; first | refine F1 ?_ | refine F2 ?_ | refine F3 (fun h => ?_) fun h => ?_) | (guard_target =~ Ar _ _ _; first | refine A1 ?_ | refine A2 ?_ | refine A3 ?_) | (guard_target =~ AskL _ _; first | refine L1 ?_) | (guard_target =~ Go.Eng.Ask _ _; first | refine K1 ?_) | (guard_target =~ All' _ _; first | (refine Y2 fun y he he' hy => ?_; (try dsimp only at he he' hy)) | (refine Y1 fun y he hy => ?_; (try with_reducible conv at he => (rhs; whnf)); (try dsimp only at he hy)) | (refine All'.mk ?_; intro y hy)) | refine F4 (fun h => ?_) fun h => ?_ | refine R1 ?_ | refine Q1 ?_ | fail)); all_goals (conv => whnf))
      · ((repeat' ((conv => whnf) <;> first | exact True.intro | (guard_target =~ Fork _ _ _; first | refine F1 ?_ | refine F2 ?_ | refine F3 (fun h => ?_) fun h => ?_) | (guard_target =~ Ar _ _ _; first | refine A1 ?_ | refine A2 ?_ | refine A3 ?_) | (guard_target =~ AskL _ _; first | refine L1 ?_) | (guard_target =~ Go.Eng.Ask _ _; first | refine K1 ?_) | (guard_target =~ All' _ _; first | (refine Y2 fun y he he' hy => ?_; (try dsimp only at he he' hy)) | (refine Y1 fun y he hy => ?_; (try with_reducible conv at he => (rhs; whnf)); (try dsimp only at he hy)) | (refine All'.mk ?_; intro y hy)) | refine F4 (fun h => ?_) fun h => ?_ | refine R1 ?_ | refine Q1 ?_ | fail)); all_goals (conv => whnf))
        refine CallP.mk (C := formC) (j : Nat) ?_
        ((repeat' ((conv => whnf) <;> first | exact True.intro | (guard_target =~ Fork _ _ _; first | refine F1 ?_ | refine F2 ?_ | refine F3 (fun h => ?_) fun h => ?_) | (guard_target =~ Ar _ _ _; first | refine A1 ?_ | refine A2 ?_ | refine A3 ?_) | (guard_target =~ AskL _ _; first | refine L1 ?_) | (guard_target =~ Go.Eng.Ask _ _; first | refine K1 ?_) | (guard_target =~ All' _ _; first | (refine Y2 fun y he he' hy => ?_; (try dsimp only at he he' hy)) | (refine Y1 fun y he hy => ?_; (try with_reducible conv at he => (rhs; whnf)); (try dsimp only at he hy))) | refine F4 (fun h => ?_) fun h => ?_ | refine R1 ?_ | refine Q1 ?_ | fail)); all_goals (conv => whnf))
        refine All'.mk ?_; rintro (y : ByteArray) hy
        obtain rfl : strOfNums nm = y := Option.some.inj hy
        have lm := k1
        ((repeat' ((conv => whnf) <;> first | exact True.intro | (guard_target =~ Fork _ _ _; first | refine F1 ?_ | refine F2 ?_ | refine F3 (fun h => ?_) fun h => ?_) | (guard_target =~ Ar _ _ _; first | refine A1 ?_ | refine A2 ?_ | refine A3 ?_) | (guard_target =~ AskL _ _; first | refine L1 ?_) | (guard_target =~ Go.Eng.Ask _ _; first | refine K1 ?_) | (guard_target =~ All' _ _; first | (refine Y2 fun y he he' hy => ?_; (try dsimp only at he he' hy)) | (refine Y1 fun y he hy => ?_; (try with_reducible conv at he => (rhs; whnf)); (try dsimp only at he hy)) | (refine All'.mk ?_; intro y hy)) | refine F4 (fun h => ?_) fun h => ?_ | refine R1 ?_ | refine Q1 ?_ | fail)); all_goals (conv => whnf))
        refine Some'.mk (j + 1) ?_
        ((repeat' ((conv => whnf) <;> first | exact True.intro | (guard_target =~ Fork _ _ _; first | refine F1 ?_ | refine F2 ?_ | refine F3 (fun h => ?_) fun h => ?_) | (guard_target =~ Ar _ _ _; first | refine A1 ?_ | refine A2 ?_ | refine A3 ?_) | (guard_target =~ AskL _ _; first | refine L1 ?_) | (guard_target =~ Go.Eng.Ask _ _; first | refine K1 ?_) | (guard_target =~ All' _ _; first | (refine Y2 fun y he he' hy => ?_; (try dsimp only at he he' hy)) | (refine Y1 fun y he hy => ?_; (try with_reducible conv at he => (rhs; whnf)); (try dsimp only at he hy)) | (refine All'.mk ?_; intro y hy)) | refine F4 (fun h => ?_) fun h => ?_ | refine R1 ?_ | refine Q1 ?_ | fail)); all_goals (conv => whnf))
        refine Ask.mk ⟨by omega, hnext (fun hh => hA2 hh.2)⟩ ?_
        exact G1
    · have k1 : ((strOfNums nm).toList == (nameF (j : Nat)).1.toList) = false := by
        rw [str_beq]
        exact decide_eq_false (fun hh => hA1 (by rw [← hh, bytes_str hwo.1]))
      ((repeat' ((conv => whnf) <;> first | exact True.intro | (guard_target =~ Fork _ _ _; first | refine F1 ?_ | refine F2 ?_ | refine F3 (fun h => ?_) fun h => ?_) | (guard_target =~ Ar _ _ _; first | refine A1 ?_ | refine A2 ?_ | refine A3 ?_) | (guard_target =~ AskL _ _; first | refine L1 ?_) | (guard_target =~ Go.Eng.Ask _ _; first | refine K1 ?_) | (guard_target =~ All' _ _; first | (refine Y2 fun y he he' hy => ?_; (try dsimp only at he he' hy)) | (refine Y1 fun y he hy => ?_; (try with_reducible conv at he => (rhs; whnf)); (try dsimp only at he hy)) | (refine All'.mk ?_; intro y hy)) | refine F4 (fun h => ?_) fun h => ?_ | refine R1 ?_ | refine Q1 ?_ | fail)); all_goals (conv => whnf))
      refine CallP.mk (C := formC) (j : Nat) ?_
      ((repeat' ((conv => whnf) <;> first | exact True.intro | (guard_target =~ Fork _ _ _; first | refine F1 ?_ | refine F2 ?_ | refine F3 (fun h => ?_) fun h => ?_) | (guard_target =~ Ar _ _ _; first | refine A1 ?_ | refine A2 ?_ | refine A3 ?_) | (guard_target =~ AskL _ _; first | refine L1 ?_) | (guard_target =~ Go.Eng.Ask _ _; first | refine K1 ?_) | (guard_target =~ All' _ _; first | (refine Y2 fun y he he' hy => ?_; (try dsimp only at he he' hy)) | (refine Y1 fun y he hy => ?_; (try with_reducible conv at he => (rhs; whnf)); (try dsimp only at he hy))) | refine F4 (fun h => ?_) fun h => ?_ | refine R1 ?_ | refine Q1 ?_ | fail)); all_goals (conv => whnf))
      refine All'.mk ?_; rintro (y : ByteArray) hy
      obtain rfl : strOfNums nm = y := Option.some.inj hy
      have lm := k1
      ((repeat' ((conv => whnf) <;> first | exact True.intro | (guard_target =~ Fork _ _ _; first | refine F1 ?_ | refine F2 ?_ | refine F3 (fun h => ?_) fun h => ?_) | (guard_target =~ Ar _ _ _; first | refine A1 ?_ | refine A2 ?_ | refine A3 ?_) | (guard_target =~ AskL _ _; first | refine L1 ?_) | (guard_target =~ Go.Eng.Ask _ _; first | refine K1 ?_) | (guard_target =~ All' _ _; first | (refine Y2 fun y he he' hy => ?_; (try dsimp only at he he' hy)) | (refine Y1 fun y he hy => ?_; (try with_reducible conv at he => (rhs; whnf)); (try dsimp only at he hy)) | (refine All'.mk ?_; intro y hy)) | refine F4 (fun h => ?_) fun h => ?_ | refine R1 ?_ | refine Q1 ?_ | fail)); all_goals (conv => whnf))
      refine Some'.mk (j + 1) ?_
      ((repeat' ((conv => whnf) <;> first | exact True.intro | (guard_target =~ Fork _ _ _; first | refine F1 ?_ | refine F2 ?_ | refine F3 (fun h => ?_) fun h => ?_) | (guard_target =~ Ar _ _ _; first | refine A1 ?_ | refine A2 ?_ | refine A3 ?_) | (guard_target =~ AskL _ _; first | refine L1 ?_) | (guard_target =~ Go.Eng.Ask _ _; first | refine K1 ?_) | (guard_target =~ All' _ _; first | (refine Y2 fun y he he' hy => ?_; (try dsimp only at he he' hy)) | (refine Y1 fun y he hy => ?_; (try with_reducible conv at he => (rhs; whnf)); (try dsimp only at he hy)) | (refine All'.mk ?_; intro y hy)) | refine F4 (fun h => ?_) fun h => ?_ | refine R1 ?_ | refine Q1 ?_ | fail)); all_goals (conv => whnf))
      refine Ask.mk ⟨by omega, hnext (fun hh => hA1 hh.1)⟩ ?_
      exact G1
end Go.Proofs.YtghejeecanohoaaDoor

/-! Texts as lines: all of them, and those that are some. -/
set_option linter.unusedVariables false
set_option linter.unusedSimpArgs false
set_option maxRecDepth 100000
set_option maxHeartbeats 4000000
namespace Go.Proofs.YtghejeecanohoaaDoor
open Go.Eng

def trimL (l : List Int) : List Int := if l.getLast? = some 10 then l.dropLast else l
def linesP (l : List Int) : List (List Int) := splitL 10 (trimL l)
theorem suffix_last {d : List UInt8} : ([10] : List UInt8).isSuffixOf d = true ↔ d.getLast? = some 10 := by
  rw [List.isSuffixOf_iff_suffix]
  constructor
  · rintro ⟨t, rfl⟩; simp
  · intro h
    obtain ⟨t, ht⟩ := List.getLast?_eq_some_iff.1 h
    exact ⟨t, ht.symm⟩
theorem trim_L (s : ByteArray) : (⟨(Lib.trimSuffix s.data.toList [10]).toArray⟩ : ByteArray) = strOfNums (trimL (bytesL s)) := by
  have e : (⟨(Lib.trimSuffix s.data.toList [10]).toArray⟩ : ByteArray) = strOfNums (toI (Lib.trimSuffix s.data.toList [10])) := (str_bytesL ⟨(Lib.trimSuffix s.data.toList [10]).toArray⟩).symm
  rw [e]
  congr 1
  unfold trimL Lib.trimSuffix Lib.hasSuffix
  have hb : bytesL s = toI s.data.toList := rfl
  rw [hb]
  generalize s.data.toList = d
  by_cases h : d.getLast? = some 10
  · have h2 : (toI d).getLast? = some 10 := by simp only [toI, List.getLast?_map, h]; rfl
    rw [if_pos (suffix_last.2 h), if_pos h2, List.length_singleton, ← List.dropLast_eq_take]
    simp only [toI, List.map_dropLast]
  · have h2 : ¬ (toI d).getLast? = some 10 := fun hh => by
      simp only [toI, List.getLast?_map, Option.map_eq_some_iff] at hh
      obtain ⟨b, hb1, hb2⟩ := hh
      have : b = 10 := toI_inj.1 (by rw [hb2]; rfl)
      exact h (by rw [hb1, this])
    rw [if_neg (fun hh => h (suffix_last.1 hh)), if_neg h2]
theorem trimL_len (l : List Int) : (trimL l).length ≤ l.length := by
  unfold trimL
  split
  · rw [List.length_dropLast]; omega
  · omega

theorem knownQ : Known Tryd.prog (gOf [(25, splitC), (49, trimSuffixC)]) :=
  known_cons ⟨split_ok, Tryd.call25⟩ (known_cons ⟨trimSuffix_ok, Tryd.call49⟩ (known_nil _))
@[reducible] def aSplitC : Ctr := {
  X := ByteArray
  Y := Unit
  args := fun s => [.v (.string s)]
  rw := fun _ => []
  side := fun s => s.size ≤ 100000
  val := fun _ => ()
  ens := fun _ _ => True
  res := fun s _ => .ro false .str ((linesP (bytesL s)).map strOfNums)
  out := fun _ _ => [] }
theorem trim_ok (s : ByteArray) : okB (trimL (bytesL s)) := fun c hc => by
  unfold trimL at hc
  split at hc
  · exact bytesL_ok s c (List.dropLast_subset _ hc)
  · exact bytesL_ok s c hc
theorem aSplit_ok : aSplitC.ok Tryd.prog 37 := by
  refine ok_of_vc (An := fun _ => anOf []) knownQ mo Tryd.func37 (by kernel_rfl) (by kernel_rfl) (fun _ _ => trivial) (fun (s : ByteArray) hs => ?_)
  have hs : s.size ≤ 100000 := hs
  have ht := trim_L s
  have hl := trimL_len (bytesL s)
  rw [bytesL_length] at hl
  have hsz := str_size (trimL (bytesL s))
  have e : splitS (strOfNums (trimL (bytesL s))) ⟨#[10]⟩ = (linesP (bytesL s)).map strOfNums := by
    rw [splitS_L, bytes_str (trim_ok s)]; rfl
  ((repeat' ((conv => whnf) <;> first | exact True.intro | (guard_target =~ Fork _ _ _; first | refine F1 ?_ | refine F2 ?_ | refine F3 (fun h => ?_) fun h => ?_) | (guard_target =~ Ar _ _ _; first | refine A1 ?_ | refine A2 ?_ | refine A3 ?_) | (guard_target =~ AskL _ _; first | refine L1 ?_) | (guard_target =~ Go.Eng.Ask _ _; first | refine K1 ?_) | (guard_target =~ All' _ _; first | (refine Y2 fun y he he' hy => ?_; (try dsimp only at he he' hy)) | (refine Y1 fun y he hy => ?_; (try with_reducible conv at he => (rhs; whnf)); (try dsimp only at he hy)) | (refine All'.mk ?_; intro y hy)) | refine F4 (fun h => ?_) fun h => ?_ | refine R1 ?_ | refine Q1 ?_ | fail)); all_goals (conv => whnf))
  refine CallP.mk (C := trimSuffixC) ⟨s, ⟨#[10]⟩⟩ ?_
  ((repeat' ((conv => whnf) <;> first | exact True.intro | (guard_target =~ Fork _ _ _; first | refine F1 ?_ | refine F2 ?_ | refine F3 (fun h => ?_) fun h => ?_) | (guard_target =~ Ar _ _ _; first | refine A1 ?_ | refine A2 ?_ | refine A3 ?_) | (guard_target =~ AskL _ _; first | refine L1 ?_) | (guard_target =~ Go.Eng.Ask _ _; first | refine K1 ?_) | (guard_target =~ All' _ _; first | (refine Y2 fun y he he' hy => ?_; (try dsimp only at he he' hy)) | (refine Y1 fun y he hy => ?_; (try with_reducible conv at he => (rhs; whnf)); (try dsimp only at he hy)) | (refine All'.mk ?_; intro y hy)) | refine F4 (fun h => ?_) fun h => ?_ | refine R1 ?_ | refine Q1 ?_ | fail)); all_goals (conv => whnf))
  rw [show (⟨(Lib.trimSuffix (StrX.mk s ⟨#[10]⟩).s.data.toList (StrX.mk s ⟨#[10]⟩).t.data.toList).toArray⟩ : ByteArray) = strOfNums (trimL (bytesL s)) from ht]
  refine CallP.mk (C := splitC) ⟨strOfNums (trimL (bytesL s)), ⟨#[10]⟩⟩ ?_
  ((repeat' ((conv => whnf) <;> first | exact True.intro | (guard_target =~ Fork _ _ _; first | refine F1 ?_ | refine F2 ?_ | refine F3 (fun h => ?_) fun h => ?_) | (guard_target =~ Ar _ _ _; first | refine A1 ?_ | refine A2 ?_ | refine A3 ?_) | (guard_target =~ Go.Eng.Ask _ _; first | refine K1 ?_) | (guard_target =~ All' _ _; first | (refine Y2 fun y he he' hy => ?_; (try dsimp only at he he' hy)) | (refine Y1 fun y he hy => ?_; (try with_reducible conv at he => (rhs; whnf)); (try dsimp only at he hy)) | (refine All'.mk ?_; intro y hy)) | refine F4 (fun h => ?_) fun h => ?_ | refine R1 ?_ | refine Q1 ?_ | fail)); all_goals (conv => whnf))
  refine AskL.mk ⟨rfl, rfl⟩ ?_
  refine Ask.mk ⟨by show (strOfNums (trimL (bytesL s))).size < _; omega, Nat.le_refl 1⟩ ?_
  ((repeat' ((conv => whnf) <;> first | exact True.intro | (guard_target =~ Fork _ _ _; first | refine F1 ?_ | refine F2 ?_ | refine F3 (fun h => ?_) fun h => ?_) | (guard_target =~ Ar _ _ _; first | refine A1 ?_ | refine A2 ?_ | refine A3 ?_) | (guard_target =~ Go.Eng.Ask _ _; first | refine K1 ?_) | (guard_target =~ All' _ _; first | (refine Y2 fun y he he' hy => ?_; (try dsimp only at he he' hy)) | (refine Y1 fun y he hy => ?_; (try with_reducible conv at he => (rhs; whnf)); (try dsimp only at he hy)) | (refine All'.mk ?_; intro y hy)) | refine F4 (fun h => ?_) fun h => ?_ | refine R1 ?_ | refine Q1 ?_ | fail)); all_goals (conv => whnf))
  refine AskL.mk ?_ trivial
  show SV.ro true .str (splitS _ _) = _
  rw [e]

/-! ### The reference's -/
theorem split_snoc_last {c x : Int} (hx : ¬ x = c) (l : List Int) : (splitL c (l ++ [x])).getLast? ≠ some [] := by
  have hp := splitL_len c l
  obtain ⟨w, hw⟩ : ∃ w, (splitL c l)[(splitL c l).length - 1]? = some w := ⟨_, List.getElem?_eq_getElem (by omega)⟩
  rw [splitL_snoc hx l w hw, List.getLast?_eq_getElem?, List.length_set, List.getElem?_set_self (by omega)]
  simp
/-- What is left without an empty last line. -/
theorem lines_ref (l : List Int) : linesP l = if 1 < (splitL 10 l).length ∧ (splitL 10 l).getLast? = some [] then (splitL 10 l).dropLast else splitL 10 l := by
  unfold linesP trimL
  rcases List.eq_nil_or_concat l with rfl | ⟨m, x, rfl⟩
  · rfl
  · rw [List.concat_eq_append]
    by_cases hx : x = 10
    · subst hx
      have h1 : (m ++ [(10 : Int)]).getLast? = some 10 := by simp
      have h2 := splitL_len 10 m
      rw [if_pos h1, splitL_sep, if_pos ⟨by rw [List.length_append, List.length_singleton]; omega, by simp⟩]
      simp
    · have h1 : ¬ (m ++ [x]).getLast? = some 10 := by simp [hx]
      rw [if_neg h1, if_neg (fun hh => split_snoc_last hx m hh.2)]
theorem knownQ2 : Known Tryd.prog (gOf [(29, rSplitC)]) := known_cons ⟨rSplit_ok, Tryd.call29⟩ (known_nil _)
theorem rLines_ok : aSplitC.ok Tryd.prog 15 := by
  refine ok_of_vc (An := fun _ => anOf []) knownQ2 mo Tryd.func15 (by kernel_rfl) (by kernel_rfl) (fun _ _ => trivial) (fun (s : ByteArray) hs => ?_)
  have hs : s.size ≤ 100000 := hs
  have hl := lines_ref (bytesL s)
  have hpos := splitL_len 10 (bytesL s)
  have hle := splitL_le 10 (bytesL s)
  rw [bytesL_length] at hle
  have hml : ((splitL 10 (bytesL s)).map strOfNums).length = (splitL 10 (bytesL s)).length := List.length_map ..
  obtain ⟨w, hw⟩ : ∃ w, (splitL 10 (bytesL s))[(splitL 10 (bytesL s)).length - 1]? = some w := ⟨_, List.getElem?_eq_getElem (by omega)⟩
  rw [List.getLast?_eq_getElem?, hw] at hl
  have hwb : okB w := fun c hc => bytesL_ok s c ((splitL_mem 10 _ w (List.mem_of_getElem? hw)).2 c hc).1
  ((repeat' ((conv => whnf) <;> first | exact True.intro | (guard_target =~ Fork _ _ _; first | refine F1 ?_ | refine F2 ?_ | refine F3 (fun h => ?_) fun h => ?_) | (guard_target =~ Ar _ _ _; first | refine A1 ?_ | refine A2 ?_ | refine A3 ?_) | (guard_target =~ AskL _ _; first | refine L1 ?_) | (guard_target =~ Go.Eng.Ask _ _; first | refine K1 ?_) | (guard_target =~ All' _ _; first | (refine Y2 fun y he he' hy => ?_; (try dsimp only at he he' hy)) | (refine Y1 fun y he hy => ?_; (try with_reducible conv at he => (rhs; whnf)); (try dsimp only at he hy)) | (refine All'.mk ?_; intro y hy)) | refine F4 (fun h => ?_) fun h => ?_ | refine R1 ?_ | refine Q1 ?_ | fail)); all_goals (conv => whnf))
  refine CallP.mk (C := rSplitC) ⟨s, 10⟩ ?_
  by_cases h1 : 1 < (splitL 10 (bytesL s)).length
  · ((repeat' ((conv => whnf) <;> first | exact True.intro | (guard_target =~ Fork _ _ _; first | refine F1 ?_ | refine F2 ?_ | refine F3 (fun h => ?_) fun h => ?_) | (guard_target =~ Ar _ _ _; first | refine A1 ?_ | refine A2 ?_ | refine A3 ?_) | (guard_target =~ AskL _ _; first | refine L1 ?_) | (guard_target =~ Go.Eng.Ask _ _; first | refine K1 ?_) | (guard_target =~ All' _ _; first | (refine Y2 fun y he he' hy => ?_; (try dsimp only at he he' hy)) | (refine Y1 fun y he hy => ?_; (try with_reducible conv at he => (rhs; whnf)); (try dsimp only at he hy))) | refine F4 (fun h => ?_) fun h => ?_ | refine R1 ?_ | refine Q1 ?_ | fail)); all_goals (conv => whnf))
    refine All'.mk ?_; rintro (y : ByteArray) hy
    obtain rfl : strOfNums w = y := by
      have hy : ((splitL 10 (bytesL s)).map strOfNums)[((((splitL 10 (bytesL s)).map strOfNums).length : Int) - 1).toNat]? = some y := hy
      rw [hml, show (((splitL 10 (bytesL s)).length : Int) - 1).toNat = (splitL 10 (bytesL s)).length - 1 by omega, List.getElem?_map, hw] at hy
      exact Option.some.inj hy
    by_cases h2 : w = []
    · have k1 : ((strOfNums w).toList == (⟨#[]⟩ : ByteArray).toList) = true := by rw [h2]; exact beq_self_eq_true _
      rw [if_pos ⟨h1, by rw [h2]⟩] at hl
      have lm := k1
      ((repeat' ((conv => whnf) <;> first | exact True.intro | (guard_target =~ Fork _ _ _; first | refine F1 ?_ | refine F2 ?_ | refine F3 (fun h => ?_) fun h => ?_) | (guard_target =~ Ar _ _ _; first | refine A1 ?_ | refine A2 ?_ | refine A3 ?_) | (guard_target =~ AskL _ _; first | refine L1 ?_) | (guard_target =~ Go.Eng.Ask _ _; first | refine K1 ?_) | (guard_target =~ All' _ _; first | (refine Y2 fun y he he' hy => ?_; (try dsimp only at he he' hy)) | (refine Y1 fun y he hy => ?_; (try with_reducible conv at he => (rhs; whnf)); (try dsimp only at he hy)) | (refine All'.mk ?_; intro y hy)) | refine F4 (fun h => ?_) fun h => ?_ | refine R1 ?_ | refine Q1 ?_ | fail)); all_goals (conv => whnf))
      refine AskL.mk ?_ trivial
      have hrow : (((splitL 10 (bytesL s)).map strOfNums).take ((((splitL 10 (bytesL s)).map strOfNums).length : Int) - 1).toNat).drop (Int.toNat 0) = (linesP (bytesL s)).map strOfNums := by
        rw [hl, hml, show (((splitL 10 (bytesL s)).length : Int) - 1).toNat = (splitL 10 (bytesL s)).length - 1 by omega, show Int.toNat 0 = 0 from rfl, List.drop_zero, List.dropLast_eq_take, List.map_take]
      exact congrArg (SV.ro true Ty.str) hrow
    · have k1 : ((strOfNums w).toList == (⟨#[]⟩ : ByteArray).toList) = false := by
        rw [str_beq]
        exact decide_eq_false (fun hh => h2 (by rw [← bytes_str hwb, hh]; rfl))
      rw [if_neg (fun hh => h2 (Option.some.inj hh.2))] at hl
      have lm := k1
      exact G1
  · rw [if_neg (fun hh => h1 hh.1)] at hl
    exact G1

def someB (t : List Int) : Bool := match t with | [] => false | c :: _ => decide (c ≠ 35)
@[reducible] def someC : Ctr := {
  X := ByteArray
  Y := Unit
  args := fun s => [.v (.string s)]
  rw := fun _ => []
  side := fun _ => True
  val := fun _ => ()
  ens := fun _ _ => True
  res := fun s _ => .v (.bool (someB (bytesL s)))
  out := fun _ _ => [] }
theorem some_nil : someB [] = false := rfl
theorem someB_at {s : ByteArray} (h : ¬ s = ⟨#[]⟩) : someB (bytesL s) = decide (byteAt s 0 ≠ 35) := by
  have hp : 0 < s.size := Nat.pos_of_ne_zero (fun e => h (empty_size.2 e))
  have h1 := byteAt_some (s := s) (i := 0) hp
  cases hb : bytesL s with
  | nil => rw [hb] at h1; simp at h1
  | cons c l =>
    rw [hb] at h1
    have h1 : c = byteAt s 0 := by simpa using h1
    rw [← h1]; rfl
theorem some_ok : someC.ok Tryd.prog 17 := by
  refine ok_of_vc (An := fun _ => anOf []) (known_nil _) mo Tryd.func17 (by kernel_rfl) (by kernel_rfl) (fun _ _ => trivial) (fun (s : ByteArray) hs => ?_)
  rcases str_dec s with ⟨k1, h0⟩ | ⟨k1, h0⟩
  · have e : someB (bytesL s) = false := by rw [h0]; rfl
    have lm := k1
    ((repeat' ((conv => whnf) <;> first | exact True.intro | (guard_target =~ Fork _ _ _; first | refine F1 ?_ | refine F2 ?_ | refine F3 (fun h => ?_) fun h => ?_) | (guard_target =~ Ar _ _ _; first | refine A1 ?_ | refine A2 ?_ | refine A3 ?_) | (guard_target =~ AskL _ _; first | refine L1 ?_) | (guard_target =~ Go.Eng.Ask _ _; first | refine K1 ?_) | (guard_target =~ All' _ _; first | (refine Y2 fun y he he' hy => ?_; (try dsimp only at he he' hy)) | (refine Y1 fun y he hy => ?_; (try with_reducible conv at he => (rhs; whnf)); (try dsimp only at he hy)) | (refine All'.mk ?_; intro y hy)) | refine F4 (fun h => ?_) fun h => ?_ | refine R1 ?_ | refine Q1 ?_ | fail)); all_goals (conv => whnf))
    refine AskL.mk ?_ trivial
    dsimp only [conj]
    rw [e]
  · have e := someB_at h0
    have hp : 0 < s.size := Nat.pos_of_ne_zero (fun e => h0 (empty_size.2 e))
    have lm := k1
    ((repeat' ((conv => whnf) <;> first | exact True.intro | (guard_target =~ Fork _ _ _; first | refine F1 ?_ | refine F2 ?_ | refine F3 (fun h => ?_) fun h => ?_) | (guard_target =~ Ar _ _ _; first | refine A1 ?_ | refine A2 ?_ | refine A3 ?_) | (guard_target =~ AskL _ _; first | refine L1 ?_) | (guard_target =~ Go.Eng.Ask _ _; first | refine K1 ?_) | (guard_target =~ All' _ _; first | (refine Y2 fun y he he' hy => ?_; (try dsimp only at he he' hy)) | (refine Y1 fun y he hy => ?_; (try with_reducible conv at he => (rhs; whnf)); (try dsimp only at he hy)) | (refine All'.mk ?_; intro y hy)) | refine F4 (fun h => ?_) fun h => ?_ | refine R1 ?_ | refine Q1 ?_ | fail)); all_goals (conv => whnf))
    refine AskL.mk ?_ trivial
    dsimp only [conj]
    rw [e]
    show (byteAt s 0 != 35) = _
    by_cases h : byteAt s 0 = 35 <;> simp [h]

/-! ### The lines that are some -/
def ksW : List (List Int) → Nat → List Nat
  | [], _ => []
  | t :: ls, i => if someB t then i :: ksW ls (i + 1) else ksW ls (i + 1)
theorem ksW_mem : ∀ (ls : List (List Int)) (i k : Nat), k ∈ ksW ls i → i ≤ k ∧ k < i + ls.length
  | [], _, _, h => nomatch h
  | t :: ls, i, k, h => by
    unfold ksW at h
    rw [List.length_cons]
    split at h
    · rcases List.mem_cons.1 h with rfl | h
      · omega
      · have := ksW_mem ls (i + 1) k h; omega
    · have := ksW_mem ls (i + 1) k h; omega
theorem ksW_len : ∀ (ls : List (List Int)) (i : Nat), (ksW ls i).length ≤ ls.length
  | [], _ => Nat.le_refl _
  | t :: ls, i => by
    have := ksW_len ls (i + 1)
    unfold ksW
    split
    · simp only [List.length_cons]; omega
    · simp only [List.length_cons]; omega
def made (g : Nat → Bool) : Nat → Nat → Nat
  | 0, i => i
  | n + 1, i => if g i then made g n (i + 1) else i + 1
theorem made_at (g : Nat → Bool) : ∀ (n i k : Nat), i ≤ k → k < i + n → (∀ j, i ≤ j → j < k → g j = true) → g k = false → made g n i = k + 1
  | 0, i, k, h1, h2, _, _ => by omega
  | n + 1, i, k, h1, h2, hg, hk => by
    unfold made
    by_cases e : i = k
    · subst e; simp [hk]
    · rw [if_pos (hg i (Nat.le_refl _) (by omega))]
      exact made_at g n (i + 1) k (by omega) (by omega) (fun j h3 h4 => hg j (by omega) h4) hk
theorem made_all (g : Nat → Bool) : ∀ (n i : Nat), (∀ j, i ≤ j → j < i + n → g j = true) → made g n i = i + n
  | 0, i, _ => rfl
  | n + 1, i, hg => by
    unfold made
    rw [if_pos (hg i (Nat.le_refl _) (by omega)), made_all g n (i + 1) (fun j h1 h2 => hg j (by omega) (by omega))]
    omega

structure ItX where
  Y : Yld
  l : Nat
  s : ByteArray
abbrev lnP (s : ByteArray) : List (List Int) := linesP (bytesL s)
@[reducible] def itC : Ctr := {
  X := ItX
  Y := Unit
  args := fun x => [.v (.func (.yield x.l) ⟨[]⟩ ⟨[]⟩), .rop true [.v (.string x.s)] 0]
  rw := fun x => [(0, .res x.Y.F (x.Y.S 0))]
  side := fun x => x.s.size ≤ 100000 ∧ YOk Tryd.prog x.l x.Y ∧ ∀ (c k : Nat) t, (ksW (lnP x.s) 0)[c]? = some k → (lnP x.s)[k]? = some t → x.Y.args c = [.v (.int .i64 ((k + 1 : Nat) : Int)), .v (.string (strOfNums t))] ∧ ((∀ j, j < c → x.Y.goes j = true) → x.Y.live c = true)
  val := fun _ => ()
  ens := fun _ _ => True
  res := fun _ _ => .tuple []
  out := fun x _ => [(0, .res x.Y.F (x.Y.S (made x.Y.goes (ksW (lnP x.s) 0).length 0)))] }
structure ItS where
  i : Nat
  c : Nat
@[reducible] def itL (x : ItX) : LA := {
  X := ItS
  pre := fun s => s.i ≤ (lnP x.s).length ∧ s.c ≤ (ksW (lnP x.s) 0).length ∧ (ksW (lnP x.s) 0).drop s.c = ksW ((lnP x.s).drop s.i) s.i ∧ ∀ j, j < s.c → x.Y.goes j = true
  mu := fun s => (lnP x.s).length - s.i
  T := fun s => [(0, .v (.func (.yield x.l) ⟨[]⟩ ⟨[]⟩)), (6, .ro false .str ((lnP x.s).map strOfNums)), (7, .v (.int .i64 (lnP x.s).length)), (8, .v (.int .i64 (s.i : Nat)))]
  M := fun s => [(0, .res x.Y.F (x.Y.S s.c))] }
theorem knownQ3 : Known Tryd.prog (gOf [(37, aSplitC)]) := known_cons ⟨aSplit_ok, Tryd.call37⟩ (known_nil _)
theorem lines_bound (s : ByteArray) : (lnP s).length ≤ s.size + 1 := by
  have h1 := splitL_le 10 (trimL (bytesL s))
  have h2 := trimL_len (bytesL s)
  rw [bytesL_length] at h2
  show (splitL 10 (trimL (bytesL s))).length ≤ _
  omega
theorem ln_ok {s : ByteArray} {t : List Int} (h : t ∈ lnP s) : okB t ∧ t.length ≤ s.size := by
  obtain ⟨h1, h2⟩ := splitL_mem 10 _ t h
  have h3 := trimL_len (bytesL s)
  rw [bytesL_length] at h3
  exact ⟨fun c hc => trim_ok s c (h2 c hc).1, by omega⟩
theorem it_ok : itC.ok Tryd.prog 48 := by
  refine ok_of_vc (An := fun x => anOf [(0, .loop (itL x))]) knownQ3 mo Tryd.func48 (by kernel_rfl) (by kernel_rfl) (fun _ _ => trivial) (fun x hs => ?_)
  obtain ⟨Y, l, s⟩ := x
  obtain ⟨hsz, hok, hst⟩ := hs
  dsimp only at hsz hok hst
  have hlb := lines_bound s
  have hlm : ((lnP s).map strOfNums).length = (lnP s).length := List.length_map ..
  ((repeat' ((conv => whnf) <;> first | exact True.intro | (guard_target =~ Fork _ _ _; first | refine F1 ?_ | refine F2 ?_ | refine F3 (fun h => ?_) fun h => ?_) | (guard_target =~ Ar _ _ _; first | refine A1 ?_ | refine A2 ?_ | refine A3 ?_) | (guard_target =~ AskL _ _; first | refine L1 ?_) | (guard_target =~ Go.Eng.Ask _ _; first | refine K1 ?_) | (guard_target =~ All' _ _; first | (refine Y2 fun y he he' hy => ?_; (try dsimp only at he he' hy)) | (refine Y1 fun y he hy => ?_; (try with_reducible conv at he => (rhs; whnf)); (try dsimp only at he hy)) | (refine All'.mk ?_; intro y hy)) | refine F4 (fun h => ?_) fun h => ?_ | refine R1 ?_ | refine Q1 ?_ | fail)); all_goals (conv => whnf))
  refine CallP.mk (C := aSplitC) s ?_
  ((repeat' ((conv => whnf) <;> first | exact True.intro | (guard_target =~ Fork _ _ _; first | refine F1 ?_ | refine F2 ?_ | refine F3 (fun h => ?_) fun h => ?_) | (guard_target =~ Ar _ _ _; first | refine A1 ?_ | refine A2 ?_ | refine A3 ?_) | (guard_target =~ AskL _ _; first | refine L1 ?_) | (guard_target =~ Go.Eng.Ask _ _; first | refine K1 ?_) | (guard_target =~ All' _ _; first | (refine Y2 fun y he he' hy => ?_; (try dsimp only at he he' hy)) | (refine Y1 fun y he hy => ?_; (try with_reducible conv at he => (rhs; whnf)); (try dsimp only at he hy)) | (refine All'.mk ?_; intro y hy)) | refine F4 (fun h => ?_) fun h => ?_ | refine R1 ?_ | refine Q1 ?_ | fail)); all_goals (conv => whnf))
  refine Some'.mk ⟨0, 0⟩ ?_
  ((repeat' ((conv => whnf) <;> first | exact True.intro | (guard_target =~ Fork _ _ _; first | refine F1 ?_ | refine F2 ?_ | refine F3 (fun h => ?_) fun h => ?_) | (guard_target =~ Ar _ _ _; first | refine A1 ?_ | refine A2 ?_ | refine A3 ?_) | (guard_target =~ AskL _ _; first | refine L1 ?_) | (guard_target =~ Go.Eng.Ask _ _; first | refine K1 ?_) | (guard_target =~ All' _ _; first | (refine Y2 fun y he he' hy => ?_; (try dsimp only at he he' hy)) | (refine Y1 fun y he hy => ?_; (try with_reducible conv at he => (rhs; whnf)); (try dsimp only at he hy)) | (refine All'.mk ?_; intro y hy)) | refine F4 (fun h => ?_) fun h => ?_ | refine R1 ?_ | refine Q1 ?_ | fail)); all_goals (conv => whnf))
  refine Ask.mk ⟨Nat.zero_le _, Nat.zero_le _, rfl, fun j hj => absurd hj (Nat.not_lt_zero _)⟩ ?_
  ((repeat' ((conv => whnf) <;> first | exact True.intro | (guard_target =~ Fork _ _ _; first | refine F1 ?_ | refine F2 ?_ | refine F3 (fun h => ?_) fun h => ?_) | (guard_target =~ Ar _ _ _; first | refine A1 ?_ | refine A2 ?_ | refine A3 ?_) | (guard_target =~ AskL _ _; first | refine L1 ?_) | (guard_target =~ Go.Eng.Ask _ _; first | refine K1 ?_) | (guard_target =~ All' _ _; first | (refine Y2 fun y he he' hy => ?_; (try dsimp only at he he' hy)) | (refine Y1 fun y he hy => ?_; (try with_reducible conv at he => (rhs; whnf)); (try dsimp only at he hy)) | (refine All'.mk ?_; intro y hy)) | refine F4 (fun h => ?_) fun h => ?_ | refine R1 ?_ | refine Q1 ?_ | fail)); all_goals (conv => whnf))
  refine AllI.mk ?_
  rintro ⟨i, c⟩ ⟨h1, h2, h3, h4⟩
  have h1 : i ≤ (lnP s).length := h1
  dsimp only at h2 h3 h4
  by_cases hi : i = (lnP s).length
  · subst hi
    rw [List.drop_length] at h3
    have hlen : (ksW (lnP s) 0).length ≤ c := List.drop_eq_nil_iff.1 h3
    have hm : made Y.goes (ksW (lnP s) 0).length 0 = c := by
      rw [made_all Y.goes _ 0 (fun j _ hj => h4 j (by omega))]; omega
    exact G1
  · obtain ⟨t, ht⟩ : ∃ t, (lnP s)[i]? = some t := ⟨_, List.getElem?_eq_getElem (by omega)⟩
    obtain ⟨hot, htl⟩ := ln_ok (List.mem_of_getElem? ht)
    have hd : (lnP s).drop i = t :: (lnP s).drop (i + 1) := by
      obtain ⟨h5, h6⟩ := List.getElem?_eq_some_iff.1 ht
      rw [List.drop_eq_getElem_cons h5, h6]
    rw [hd] at h3
    have hts := str_size t
    have hbt := bytes_str hot
    ((repeat' ((conv => whnf) <;> first | exact True.intro | (guard_target =~ Fork _ _ _; first | refine F1 ?_ | refine F2 ?_ | refine F3 (fun h => ?_) fun h => ?_) | (guard_target =~ Ar _ _ _; first | refine A1 ?_ | refine A2 ?_ | refine A3 ?_) | (guard_target =~ AskL _ _; first | refine L1 ?_) | (guard_target =~ Go.Eng.Ask _ _; first | refine K1 ?_) | (guard_target =~ All' _ _; first | (refine Y2 fun y he he' hy => ?_; (try dsimp only at he he' hy)) | (refine Y1 fun y he hy => ?_; (try with_reducible conv at he => (rhs; whnf)); (try dsimp only at he hy))) | refine F4 (fun h => ?_) fun h => ?_ | refine R1 ?_ | refine Q1 ?_ | fail)); all_goals (conv => whnf))
    refine All'.mk ?_; rintro (y : ByteArray) hy
    obtain rfl : strOfNums t = y := by
      have hy : ((lnP s).map strOfNums)[i]? = some y := hy
      rw [List.getElem?_map, ht] at hy
      exact Option.some.inj hy
    by_cases hsome : someB t = true
    · have h3 : (ksW (lnP s) 0).drop c = i :: ksW ((lnP s).drop (i + 1)) (i + 1) := by rw [h3, ksW, if_pos hsome]
      have hck : (ksW (lnP s) 0)[c]? = some i := by
        have := congrArg (·[0]?) h3
        simpa using this
      have hcl : c < (ksW (lnP s) 0).length := (List.getElem?_eq_some_iff.1 hck).1
      have h3 : (ksW (lnP s) 0).drop (c + 1) = ksW ((lnP s).drop (i + 1)) (i + 1) := by
        have := congrArg (·.drop 1) h3
        simpa [List.drop_drop] using this
      obtain ⟨ha, hl⟩ := hst c i t hck ht
      have h0 : ¬ strOfNums t = ⟨#[]⟩ := fun e => by rw [← hbt, e] at hsome; exact absurd hsome (by decide)
      have k1 : ((strOfNums t).toList == (⟨#[]⟩ : ByteArray).toList) = false := by rw [str_beq]; exact decide_eq_false h0
      have hsa := someB_at h0
      rw [hbt, hsome] at hsa
      have hsa : byteAt (strOfNums t) (Int.toNat 0) ≠ 35 := of_decide_eq_true hsa.symm
      have hp : 0 < (strOfNums t).size := Nat.pos_of_ne_zero (fun e => h0 (empty_size.2 e))
      have lm := k1
      ((repeat' ((conv => whnf) <;> first | exact True.intro | (guard_target =~ Fork _ _ _; first | refine F1 ?_ | refine F2 ?_ | refine F3 (fun h => ?_) fun h => ?_) | (guard_target =~ Ar _ _ _; first | refine A1 ?_ | refine A2 ?_ | refine A3 ?_) | (guard_target =~ AskL _ _; first | refine L1 ?_) | (guard_target =~ Go.Eng.Ask _ _; first | refine K1 ?_) | (guard_target =~ All' _ _; first | (refine Y2 fun y he he' hy => ?_; (try dsimp only at he he' hy)) | (refine Y1 fun y he hy => ?_; (try with_reducible conv at he => (rhs; whnf)); (try dsimp only at he hy)) | (refine All'.mk ?_; intro y hy)) | refine F4 (fun h => ?_) fun h => ?_ | refine R1 ?_ | refine Q1 ?_ | fail)); all_goals (conv => whnf))
      refine YieldP.mk Y c 0 _ ha ?_
      conv => whnf
      refine Ask.mk ⟨hok, hl h4, rfl, rfl⟩ ?_
      ((repeat' ((conv => whnf) <;> first | exact True.intro | (guard_target =~ Fork _ _ _; first | refine F1 ?_ | refine F2 ?_ | refine F3 (fun h => ?_) fun h => ?_) | (guard_target =~ Ar _ _ _; first | refine A1 ?_ | refine A2 ?_ | refine A3 ?_) | (guard_target =~ AskL _ _; first | refine L1 ?_) | (guard_target =~ Go.Eng.Ask _ _; first | refine K1 ?_) | (guard_target =~ All' _ _; first | (refine Y2 fun y he he' hy => ?_; (try dsimp only at he he' hy)) | (refine Y1 fun y he hy => ?_; (try with_reducible conv at he => (rhs; whnf)); (try dsimp only at he hy)) | (refine All'.mk ?_; intro y hy)) | refine F4 (fun h => ?_) fun h => ?_ | refine R1 ?_ | refine Q1 ?_ | fail)); all_goals (conv => whnf))
      · have hm : made Y.goes (ksW (lnP s) 0).length 0 = c + 1 := made_at Y.goes _ 0 c (Nat.zero_le _) (by omega) (fun j _ hj => h4 j hj) h
        refine AskL.mk ?_ trivial
        simp only [conj]
        rw [hm]
        exact ⟨trivial, rfl⟩
      · refine Some'.mk ⟨i + 1, c + 1⟩ ?_
        ((repeat' ((conv => whnf) <;> first | exact True.intro | (guard_target =~ Fork _ _ _; first | refine F1 ?_ | refine F2 ?_ | refine F3 (fun h => ?_) fun h => ?_) | (guard_target =~ Ar _ _ _; first | refine A1 ?_ | refine A2 ?_ | refine A3 ?_) | (guard_target =~ AskL _ _; first | refine L1 ?_) | (guard_target =~ Go.Eng.Ask _ _; first | refine K1 ?_) | (guard_target =~ All' _ _; first | (refine Y2 fun y he he' hy => ?_; (try dsimp only at he he' hy)) | (refine Y1 fun y he hy => ?_; (try with_reducible conv at he => (rhs; whnf)); (try dsimp only at he hy)) | (refine All'.mk ?_; intro y hy)) | refine F4 (fun h => ?_) fun h => ?_ | refine R1 ?_ | refine Q1 ?_ | fail)); all_goals (conv => whnf))
        refine Ask.mk ⟨by dsimp only; omega, by dsimp only; omega, h3, fun j hj => ?_⟩ ?_
        · rcases Nat.lt_or_ge j c with hjc | hjc
          · exact h4 j hjc
          · obtain rfl : j = c := by dsimp only at hj; omega
            exact h
        exact G1
    · have hsome : someB t = false := by simpa using hsome
      have h3 : (ksW (lnP s) 0).drop c = ksW ((lnP s).drop (i + 1)) (i + 1) := by rw [h3, ksW, if_neg (by rw [hsome]; simp)]
      rcases str_dec (strOfNums t) with ⟨k1, h0⟩ | ⟨k1, h0⟩
      · have k2 := k1
        have lm := k1
        ((repeat' ((conv => whnf) <;> first | exact True.intro | (guard_target =~ Fork _ _ _; first | refine F1 ?_ | refine F2 ?_ | refine F3 (fun h => ?_) fun h => ?_) | (guard_target =~ Ar _ _ _; first | refine A1 ?_ | refine A2 ?_ | refine A3 ?_) | (guard_target =~ AskL _ _; first | refine L1 ?_) | (guard_target =~ Go.Eng.Ask _ _; first | refine K1 ?_) | (guard_target =~ All' _ _; first | (refine Y2 fun y he he' hy => ?_; (try dsimp only at he he' hy)) | (refine Y1 fun y he hy => ?_; (try with_reducible conv at he => (rhs; whnf)); (try dsimp only at he hy)) | (refine All'.mk ?_; intro y hy)) | refine F4 (fun h => ?_) fun h => ?_ | refine R1 ?_ | refine Q1 ?_ | fail)); all_goals (conv => whnf))
        refine Some'.mk ⟨i + 1, c⟩ ?_
        ((repeat' ((conv => whnf) <;> first | exact True.intro | (guard_target =~ Fork _ _ _; first | refine F1 ?_ | refine F2 ?_ | refine F3 (fun h => ?_) fun h => ?_) | (guard_target =~ Ar _ _ _; first | refine A1 ?_ | refine A2 ?_ | refine A3 ?_) | (guard_target =~ AskL _ _; first | refine L1 ?_) | (guard_target =~ Go.Eng.Ask _ _; first | refine K1 ?_) | (guard_target =~ All' _ _; first | (refine Y2 fun y he he' hy => ?_; (try dsimp only at he he' hy)) | (refine Y1 fun y he hy => ?_; (try with_reducible conv at he => (rhs; whnf)); (try dsimp only at he hy)) | (refine All'.mk ?_; intro y hy)) | refine F4 (fun h => ?_) fun h => ?_ | refine R1 ?_ | refine Q1 ?_ | fail)); all_goals (conv => whnf))
        refine Ask.mk ⟨by dsimp only; omega, h2, h3, h4⟩ ?_
        exact G1
      · have hsa := someB_at h0
        rw [hbt, hsome] at hsa
        have hsa : byteAt (strOfNums t) (Int.toNat 0) = 35 := by
          have := of_decide_eq_false hsa.symm
          exact Decidable.of_not_not this
        have hp : 0 < (strOfNums t).size := Nat.pos_of_ne_zero (fun e => h0 (empty_size.2 e))
        have lm := k1
        ((repeat' ((conv => whnf) <;> first | exact True.intro | (guard_target =~ Fork _ _ _; first | refine F1 ?_ | refine F2 ?_ | refine F3 (fun h => ?_) fun h => ?_) | (guard_target =~ Ar _ _ _; first | refine A1 ?_ | refine A2 ?_ | refine A3 ?_) | (guard_target =~ AskL _ _; first | refine L1 ?_) | (guard_target =~ Go.Eng.Ask _ _; first | refine K1 ?_) | (guard_target =~ All' _ _; first | (refine Y2 fun y he he' hy => ?_; (try dsimp only at he he' hy)) | (refine Y1 fun y he hy => ?_; (try with_reducible conv at he => (rhs; whnf)); (try dsimp only at he hy)) | (refine All'.mk ?_; intro y hy)) | refine F4 (fun h => ?_) fun h => ?_ | refine R1 ?_ | refine Q1 ?_ | fail)); all_goals (conv => whnf))
        refine Some'.mk ⟨i + 1, c⟩ ?_
        ((repeat' ((conv => whnf) <;> first | exact True.intro | (guard_target =~ Fork _ _ _; first | refine F1 ?_ | refine F2 ?_ | refine F3 (fun h => ?_) fun h => ?_) | (guard_target =~ Ar _ _ _; first | refine A1 ?_ | refine A2 ?_ | refine A3 ?_) | (guard_target =~ AskL _ _; first | refine L1 ?_) | (guard_target =~ Go.Eng.Ask _ _; first | refine K1 ?_) | (guard_target =~ All' _ _; first | (refine Y2 fun y he he' hy => ?_; (try dsimp only at he he' hy)) | (refine Y1 fun y he hy => ?_; (try with_reducible conv at he => (rhs; whnf)); (try dsimp only at he hy)) | (refine All'.mk ?_; intro y hy)) | refine F4 (fun h => ?_) fun h => ?_ | refine R1 ?_ | refine Q1 ?_ | fail)); all_goals (conv => whnf))
        refine Ask.mk ⟨by dsimp only; omega, h2, h3, h4⟩ ?_
        exact G1
end Go.Proofs.YtghejeecanohoaaDoor
